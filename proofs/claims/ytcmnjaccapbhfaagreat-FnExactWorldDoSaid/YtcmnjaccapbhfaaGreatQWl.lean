/- Worlds in plain Lean: valid worlds, deeds, runs. No program in sight. -/
import Derived.Test.YtcmnjaccapbhfaaGreatQWkP
import Derived.Test.YtcmnjaccapbhfaaGreatQFlw
namespace Go.Proofs.YtcmnjaccapbhfaaGreat
set_option linter.unusedVariables false
set_option linter.unusedSimpArgs false
def lineV (b:Int) (l:Ln):Bool:=inB l.1 0 (b - 1) && inB l.2.1 0 (b - 1) && !(l.1 == l.2.1) && inB l.2.2 1 999
def netV (b:Int) (ls:List Ln):Bool:=inB b 1 8 && decide (ls.length ≤ 10) && !(List.range ls.length).any fun k=>!lineV b (ls.getD k (0,0,0))
def busV (p:Int×Int):Bool:=inB p.1 0 999 && inB p.2 0 999
def busesV (b:Int) (ls:List Ln) (pts:List (Int×Int)):Bool:=netV b ls && decide ((pts.length:Int)=b) && !(List.range pts.length).any fun k=>!busV (pts.getD k (0,0))
def stV (b:Int) (ls:List Ln) (on:List Bool):Bool:=netV b ls && decide (on.length=ls.length)
def okV (b:Int) (ls:List Ln) (on:List Bool) (pts:List (Int×Int)):Bool:=stV b ls on && busesV b ls pts
def radB (b:Int) (ls:List Ln) (on:List Bool) (pts:List (Int×Int)):Bool:=okV b ls on pts && radP ls on pts
structure LnOk (b:Int) (l:Ln):Prop where
 a : 0 ≤ l.1∧l.1 < b
 b : 0 ≤ l.2.1∧l.2.1 < b
 ne : l.1 ≠ l.2.1
 m : 1 ≤ l.2.2∧l.2.2 ≤ 999
structure NetOk (b:Int) (ls:List Ln):Prop where
 b0 : 1 ≤ b
 b1 : b ≤ 8
 ll : ls.length ≤ 10
 ln : ∀ k,k < ls.length → LnOk b (ls.getD k (0,0,0))
theorem lineV_iff {b:Int} {l:Ln} : lineV b l=true ↔ LnOk b l:=by
 simp only [lineV,Bool.and_eq_true,inB_iff,Bool.not_eq_true',beq_eq_false_iff_ne]
 constructor
 ·rintro ⟨⟨⟨h1,h2⟩,h3⟩,h4⟩; exact ⟨by omega,by omega,h3,h4⟩
 ·intro h; have:=h.a; have:=h.b; exact ⟨⟨⟨by omega,by omega⟩,h.ne⟩,h.m⟩
theorem netV_iff {b:Int} {ls:List Ln} : netV b ls=true ↔ NetOk b ls:=by
 unfold netV
 rw [Bool.and_eq_true,any_f,Bool.and_eq_true,inB_iff,decide_eq_true_eq]
 constructor
 ·rintro ⟨⟨h1,h2⟩,h3⟩; exact ⟨h1.1,h1.2,h2,fun k hk=>lineV_iff.1 (by have:=h3 k hk; simpa using this)⟩
 ·intro h; exact ⟨⟨⟨h.b0,h.b1⟩,h.ll⟩,fun k hk=>by rw [lineV_iff.2 (h.ln k hk)]; rfl⟩
structure BusOk (b:Int) (ls:List Ln) (pts:List (Int×Int)):Prop where
 net:NetOk b ls
 lp:(pts.length:Int)=b
 bs : ∀ k,k < pts.length → (0 ≤ (pts.getD k (0,0)).1∧(pts.getD k (0,0)).1 ≤ 999)∧(0 ≤ (pts.getD k (0,0)).2∧(pts.getD k (0,0)).2 ≤ 999)
theorem busesV_iff {b : Int} {ls : List Ln} {pts : List (Int × Int)} : busesV b ls pts = true ↔ BusOk b ls pts := by
  unfold busesV
  rw [Bool.and_eq_true, any_f, Bool.and_eq_true, netV_iff, decide_eq_true_eq]
  constructor
  · rintro ⟨⟨h1, h2⟩, h3⟩; exact ⟨h1, h2, fun k hk => by have := h3 k hk; simpa [busV, inB_iff] using this⟩
  · intro h; exact ⟨⟨h.net, h.lp⟩, fun k hk => by
      have h2 : busV (pts.getD k (0, 0)) = true := by unfold busV; rw [Bool.and_eq_true, inB_iff, inB_iff]; exact h.bs k hk
      rw [h2]; rfl⟩
theorem sorted_ext : ∀ {l m:List Int},l.Pairwise (·< ·) → m.Pairwise (·< ·) → (∀ x,x ∈ l ↔ x ∈ m) → l=m
 | [],[],_,_,_=>rfl
 | [],y :: m,_,_,h=>by have:=(h y).2 (by simp); simp at this
 | x :: l,[],_,_,h=>by have:=(h x).1 (by simp); simp at this
 | x :: l,y :: m,hl,hm,h=>by
  rw [List.pairwise_cons] at hl hm
  have hxy : x=y:=by
   rcases List.mem_cons.1 ((h x).1 (by simp)) with h1 | h1
   ·exact h1
   ·rcases List.mem_cons.1 ((h y).2 (by simp)) with h2 | h2
    ·exact h2.symm
    ·have:=hm.1 x h1; have:=hl.1 y h2; omega
  subst hxy
  rw [sorted_ext hl.2 hm.2 fun z=>?_]
  constructor
  ·intro hz
   rcases List.mem_cons.1 ((h z).1 (by simp [hz])) with h1 | h1
   ·subst h1; have:=hl.1 z hz; omega
   ·exact h1
  ·intro hz
   rcases List.mem_cons.1 ((h z).2 (by simp [hz])) with h1 | h1
   ·subst h1; have:=hm.1 z hz; omega
   ·exact h1
def insS (a:Int) (l:List Int):List Int:=l.filter (fun x=>decide (x < a))++a :: l.filter (fun x=>decide (a < x))
theorem insS_mem {a:Int} {l:List Int} {x:Int} : x ∈ insS a l ↔ x=a ∨ x ∈ l:=by
 simp only [insS,List.mem_append,List.mem_cons,List.mem_filter,decide_eq_true_eq]
 constructor
 ·rintro (⟨h,_⟩ | h | ⟨h,_⟩)
  ·exact .inr h
  ·exact .inl h
  ·exact .inr h
 ·rintro (h | h)
  ·exact .inr (.inl h)
  ·rcases Int.lt_trichotomy x a with h1 | h1 | h1
   ·exact .inl ⟨h,h1⟩
   ·exact .inr (.inl h1)
   ·exact .inr (.inr ⟨h,h1⟩)
theorem insS_sorted {a:Int} {l:List Int} (h : l.Pairwise (·< ·)):(insS a l).Pairwise (·< ·):=by
 unfold insS
 rw [List.pairwise_append,List.pairwise_cons]
 refine ⟨h.sublist List.filter_sublist,⟨fun x hx=>?_,h.sublist List.filter_sublist⟩,fun x hx y hy=>?_⟩
 ·have:=(List.mem_filter.1 hx).2; simpa using this
 ·have h1 : x < a:=by have:=(List.mem_filter.1 hx).2; simpa using this
  rcases List.mem_cons.1 hy with rfl | hy
  ·exact h1
  ·have : a < y:=by have:=(List.mem_filter.1 hy).2; simpa using this
   omega
theorem sorted_of_adj {l:List Int} (h : ∀ k,k+1 < l.length → l.getD k 0 < l.getD (k+1) 0) : l.Pairwise (·< ·):=by
 rw [List.pairwise_iff_getElem]
 have key : ∀ d i,i+d+1 < l.length → l.getD i 0 < l.getD (i+d+1) 0:=by
  intro d
  induction d with
  | zero=>intro i hi; exact h i hi
  | succ d ih =>
   intro i hi
   have h1:=ih i (by omega)
   have h2:=h (i+d+1) (by omega)
   have e : i+(d+1)+1=i+d+1+1:=by omega
   rw [e]; omega
 intro i j hi hj hij
 have:=key (j - i - 1) i (by omega)
 rw [show i+(j - i - 1)+1=j by omega,getD_ge hi,getD_ge hj] at this
 exact this
theorem adj_of_sorted {l:List Int} (h : l.Pairwise (·< ·)) {k:Nat} (hk : k+1 < l.length) : l.getD k 0 < l.getD (k+1) 0:=by
 rw [List.pairwise_iff_getElem] at h
 rw [getD_ge (by omega),getD_ge hk]
 exact h k (k+1) (by omega) hk (by omega)
@[ext] structure Wd where
 b:Int
 ls:List Ln
 pts:List (Int×Int)
 on:List Bool
 earth:List Bool
 pm:Pm
 br:List Int
def Wd.wk (w:Wd):Wk:=(w.on,w.earth,w.pm)
def Wd.put (w:Wd) (k:Wk):Wd:=⟨w.b,w.ls,w.pts,k.1,k.2.1,k.2.2,w.br⟩
def Wd.zero:Wd:=⟨0,[],[],[],[],[],[]⟩
def brAt (on:List Bool) (br:List Int) (k:Nat):Bool:=(decide (0 ≤ br.getD k 0) && decide (br.getD k 0 < (on.length:Int))) && !on.getD (br.getD k 0).toNat false && (decide (k=0) || decide (br.getD (k - 1) 0 < br.getD k 0))
def brV (on:List Bool) (br:List Int):Bool:=!(List.range br.length).any fun k=>!brAt on br k
def wv (w:Wd):Bool:=busesV w.b w.ls w.pts && workV w.on w.earth w.pm && decide (w.on.length=w.ls.length) && brV w.on w.br && radP w.ls w.on w.pts
structure WdOk (w:Wd):Prop where
 bus:BusOk w.b w.ls w.pts
 work:WOk w.wk
 len : w.on.length=w.ls.length
 inn : ∀ x ∈ w.br,(0 ≤ x∧x < (w.on.length:Int))∧w.on.getD x.toNat false=false
 sor : w.br.Pairwise (·< ·)
 rad : radP w.ls w.on w.pts=true
theorem brV_iff {on:List Bool} {br:List Int} : brV on br=true ↔ (∀ x ∈ br,(0 ≤ x∧x < (on.length:Int))∧on.getD x.toNat false=false)∧br.Pairwise (·< ·):=by
 unfold brV
 rw [any_f]
 constructor
 ·intro h
  have h1 : ∀ k,k < br.length → (0 ≤ br.getD k 0∧br.getD k 0 < (on.length:Int))∧on.getD (br.getD k 0).toNat false=false∧(k=0 ∨ br.getD (k - 1) 0 < br.getD k 0):=by
   intro k hk
   have:=h k hk
   simpa only [brAt,Bool.not_eq_false',Bool.and_eq_true,Bool.or_eq_true,decide_eq_true_eq,Bool.not_eq_true',and_assoc] using this
  refine ⟨fun x hx=>?_,sorted_of_adj fun k hk=>?_⟩
  ·obtain ⟨k,hk,rfl⟩:=List.mem_iff_getElem.1 hx
   have:=h1 k hk
   rw [getD_ge hk] at this
   exact ⟨this.1,this.2.1⟩
  ·rcases (h1 (k+1) hk).2.2 with h2 | h2
   ·omega
   ·simpa using h2
 ·rintro ⟨h1,h2⟩ k hk
  have h3:=h1 (br.getD k 0) (by rw [getD_ge hk]; exact List.getElem_mem hk)
  have h4 : k=0 ∨ br.getD (k - 1) 0 < br.getD k 0:=by
   rcases Nat.eq_zero_or_pos k with h | h
   ·exact .inl h
   ·obtain ⟨j,rfl⟩ : ∃ j,k=j+1:=⟨k - 1,by omega⟩
    exact .inr (adj_of_sorted h2 hk)
  have : brAt on br k=true:=by simpa only [brAt,Bool.and_eq_true,Bool.or_eq_true,decide_eq_true_eq,Bool.not_eq_true',and_assoc] using ⟨h3.1.1,h3.1.2,h3.2,h4⟩
  rw [this]; rfl
theorem wv_iff {w:Wd} : wv w=true ↔ WdOk w:=by
 unfold wv
 rw [Bool.and_eq_true,Bool.and_eq_true,Bool.and_eq_true,Bool.and_eq_true,busesV_iff,decide_eq_true_eq,brV_iff]
 constructor
 ·rintro ⟨⟨⟨⟨h1,h2⟩,h3⟩,h4,h5⟩,h6⟩; exact ⟨h1,wok_iff.1 h2,h3,h4,h5,h6⟩
 ·intro h; exact ⟨⟨⟨⟨h.bus,wok_iff.2 h.work⟩,h.len⟩,h.inn,h.sor⟩,h.rad⟩
def wdDo (w:Wd) (kd a who:Int):Wd×Bool :=
 if wv w=true then
  if 0 ≤ a∧a < (w.on.length:Int) then
   if kd=6∧a ∉ w.br then ({ w with on:=w.on.set a.toNat false,br:=insS a w.br },true)
   else if kd=7∧a ∈ w.br∧(who,a) ∈ w.pm then ({ w with br:=w.br.filter fun x=>x != a },true)
   else if kd=0∧a ∈ w.br then (w,false)
   else if (wkDo w.wk kd a who).2=true∧radP w.ls (wkDo w.wk kd a who).1.1 w.pts=true then (w.put (wkDo w.wk kd a who).1,true)
   else (w,false)
  else (w,false)
 else (.zero,false)
theorem put_on {w:Wk} {kd a who:Int} (h : kd ≠ 0) : ∀ k,(wkPut w kd a who).1.getD k false=true → w.1.getD k false=true:=by
 intro k hk
 unfold wkPut at hk
 rw [if_neg h] at hk
 split at hk
 ·by_cases e : a.toNat=k
  ·subst e
   rcases Nat.lt_or_ge a.toNat w.1.length with h1 | h1
   ·rw [gset h1] at hk; cases hk
   ·rw [gout (by simpa using h1)] at hk; cases hk
  ·rwa [gset_ne e] at hk
 ·split at hk
  ·exact hk
  ·split at hk
   ·exact hk
   ·split at hk <;> exact hk
theorem put_on_len (w:Wk) (kd a who:Int):(wkPut w kd a who).1.length=w.1.length:=(put_len w kd a who).1
theorem wkDo_on {w:Wk} (hw:WOk w) {kd a who:Int}:(wkDo w kd a who).1.1.length=w.1.length∧(kd ≠ 0 → ∀ k,(wkDo w kd a who).1.1.getD k false=true → w.1.getD k false=true):=by
 rcases do_cases hw kd a who with ⟨h,_⟩ | ⟨h,_⟩
 ·rw [h]; exact ⟨put_on_len _ _ _ _,fun h0=>put_on h0⟩
 ·rw [h]; exact ⟨rfl,fun _ k hk=>hk⟩
theorem wkDo_rad {w:Wd} (h:WdOk w) {kd a who:Int} (h0 : kd ≠ 0) : radP w.ls (wkDo w.wk kd a who).1.1 w.pts=true:=by
 have h1:=wkDo_on h.work (kd:=kd) (a:=a) (who:=who)
 exact radP_sub (h1.1.trans h.len) h.len (h1.2 h0) h.rad
theorem wd_put_ok {w:Wd} (h:WdOk w) {k:Wk} (hk:WOk k) (hl : k.1.length=w.on.length) (hbr : ∀ x ∈ w.br,k.1.getD x.toNat false=false) (hr : radP w.ls k.1 w.pts=true):WdOk (w.put k) :=
 ⟨h.bus,hk,hl.trans h.len,fun x hx=>⟨by have:=(h.inn x hx).1; show 0 ≤ x∧x < (k.1.length:Int); rw [hl]; exact this,hbr x hx⟩,h.sor,hr⟩
theorem wkDo_wok {w:Wk} (h:WOk w) (kd a who:Int):WOk (wkDo w kd a who).1:=by
 rcases do_cases h kd a who with ⟨h1,_,_,h2⟩ | ⟨h1,_⟩
 ·rw [h1]; exact h2
 ·rw [h1]; exact h
theorem wdDo_ok {w:Wd} (h:WdOk w) (kd a who:Int):WdOk (wdDo w kd a who).1:=by
 unfold wdDo
 rw [if_pos (wv_iff.2 h)]
 split
 ·rename_i ha
  split
  ·rename_i h6
   have hal : a.toNat < w.on.length:=by omega
   have hsub : ∀ k,(w.on.set a.toNat false).getD k false=true → w.on.getD k false=true:=by
    intro k hk
    by_cases e : a.toNat=k
    ·subst e; rw [gset hal] at hk; cases hk
    ·rwa [gset_ne e] at hk
   have hw:=h.work
   refine ⟨h.bus,⟨by simpa [Wd.wk] using hw.l0,by simpa [Wd.wk] using hw.l1,by simpa [Wd.wk] using hw.le,hw.lp,fun k hk=>hw.ne k (hsub k hk),fun p hp=>?_,hw.nd⟩,by simpa using h.len,fun x hx=>?_,insS_sorted h.sor,radP_sub (by simpa using h.len) h.len hsub h.rad⟩
   ·have:=hw.pm p hp
    simpa [Wd.wk] using this
   ·dsimp only at hx ⊢
    rcases insS_mem.1 hx with rfl | hx
    ·exact ⟨by simpa using ha,gset hal⟩
    ·have:=h.inn x hx
     refine ⟨by simpa using this.1,?_⟩
     cases hc:(w.on.set a.toNat false).getD x.toNat false
     ·rfl
     ·rw [hsub _ hc] at this; exact this.2
  ·split
   ·exact ⟨h.bus,h.work,h.len,fun x hx=>h.inn x (List.mem_filter.1 hx).1,h.sor.sublist List.filter_sublist,h.rad⟩
   ·split
    ·exact h
    ·rename_i h6 h7 h0
     split
     ·rename_i hr
      have h1:=wkDo_on h.work (kd:=kd) (a:=a) (who:=who)
      refine wd_put_ok h (wkDo_wok h.work kd a who) h1.1 (fun x hx=>?_) hr.2
      have hi:=h.inn x hx
      by_cases hk : kd=0
      ·subst hk
       have hne : a ≠ x:=fun e=>h0 ⟨rfl,e ▸ hx⟩
       rcases do_cases h.work 0 a who with ⟨g,_⟩ | ⟨g,_⟩
       ·rw [g]
        show (w.on.set a.toNat true).getD x.toNat false=false
        rw [gset_ne (by omega)]; exact hi.2
       ·rw [g]; exact hi.2
      ·cases hc:(wkDo w.wk kd a who).1.1.getD x.toNat false
       ·rfl
       ·have h2:=h1.2 hk _ hc
        rw [show w.wk.1=w.on from rfl] at h2
        rw [h2] at hi; exact hi.2
     ·exact h
 ·exact h
theorem wdDo_same {w:Wd} (h:WdOk w) {kd a who:Int} (hf:(wdDo w kd a who).2=false):(wdDo w kd a who).1=w:=by
 unfold wdDo at hf ⊢
 rw [if_pos (wv_iff.2 h)] at hf ⊢
 split <;> rename_i ha
 ·rw [if_pos ha] at hf
  split <;> rename_i h6
  ·rw [if_pos h6] at hf; cases hf
  ·rw [if_neg h6] at hf
   split <;> rename_i h7
   ·rw [if_pos h7] at hf; cases hf
   ·rw [if_neg h7] at hf
    split <;> rename_i h0
    ·rfl
    ·rw [if_neg h0] at hf
     split <;> rename_i hr
     ·rw [if_pos hr] at hf; cases hf
     ·rfl
 ·rfl
end Go.Proofs.YtcmnjaccapbhfaaGreat
