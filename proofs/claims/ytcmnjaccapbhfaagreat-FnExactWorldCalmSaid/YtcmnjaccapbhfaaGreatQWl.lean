/- Worlds in plain Lean: valid worlds, deeds, runs. No program in sight. -/
import Derived.Test.YtcmnjaccapbhfaaGreatQWkP
import Derived.Test.YtcmnjaccapbhfaaGreatQFlw
namespace Go.Proofs.YtcmnjaccapbhfaaGreat
set_option linter.unusedVariables false
set_option linter.unusedSimpArgs false
def lineV (b:Int) (l:Ln):Bool:=inB l.1 0 (b - 1) && inB l.2.1 0 (b - 1) && !(l.1 == l.2.1) && inB l.2.2 1 999
def netV (b:Int) (ls:List Ln):Bool:=inB b 1 8 && decide (ls.length ≤ 10) && !(List.range ls.length).any fun k=>!lineV b (ls.getD k (0,0,0))
def busV (p:Int×Int):Bool:=inB p.1 0 999 && inB p.2 0 999
def busesV (b:Int) (ls:List Ln) (pts:List (Int×Int)):Bool:=netV b ls && decide ((pts.length:Int)=b) && !(List.range pts.length).any fun k=>!busV (pts.getD k (0,0))
def stV (b:Int) (ls:List Ln) (on:List Bool):Bool:=netV b ls && decide (on.length=ls.length)
def okV (b:Int) (ls:List Ln) (on:List Bool) (pts:List (Int×Int)):Bool:=stV b ls on && busesV b ls pts
def radB (b:Int) (ls:List Ln) (on:List Bool) (pts:List (Int×Int)):Bool:=okV b ls on pts && radP ls on pts
structure LnOk (b:Int) (l:Ln):Prop where
 a : 0 ≤ l.1∧l.1 < b
 b : 0 ≤ l.2.1∧l.2.1 < b
 ne : l.1 ≠ l.2.1
 m : 1 ≤ l.2.2∧l.2.2 ≤ 999
structure NetOk (b:Int) (ls:List Ln):Prop where
 b0 : 1 ≤ b
 b1 : b ≤ 8
 ll : ls.length ≤ 10
 ln : ∀ k,k < ls.length → LnOk b (ls.getD k (0,0,0))
theorem lineV_iff {b:Int} {l:Ln} : lineV b l=true ↔ LnOk b l:=by
 simp only [lineV,Bool.and_eq_true,inB_iff,Bool.not_eq_true',beq_eq_false_iff_ne]
 constructor
 ·rintro ⟨⟨⟨h1,h2⟩,h3⟩,h4⟩; exact ⟨by omega,by omega,h3,h4⟩
 ·intro h; have:=h.a; have:=h.b; exact ⟨⟨⟨by omega,by omega⟩,h.ne⟩,h.m⟩
theorem netV_iff {b:Int} {ls:List Ln} : netV b ls=true ↔ NetOk b ls:=by
 unfold netV
 rw [Bool.and_eq_true,any_f,Bool.and_eq_true,inB_iff,decide_eq_true_eq]
 constructor
 ·rintro ⟨⟨h1,h2⟩,h3⟩; exact ⟨h1.1,h1.2,h2,fun k hk=>lineV_iff.1 (by have:=h3 k hk; simpa using this)⟩
 ·intro h; exact ⟨⟨⟨h.b0,h.b1⟩,h.ll⟩,fun k hk=>by rw [lineV_iff.2 (h.ln k hk)]; rfl⟩
structure BusOk (b:Int) (ls:List Ln) (pts:List (Int×Int)):Prop where
 net:NetOk b ls
 lp:(pts.length:Int)=b
 bs : ∀ k,k < pts.length → (0 ≤ (pts.getD k (0,0)).1∧(pts.getD k (0,0)).1 ≤ 999)∧(0 ≤ (pts.getD k (0,0)).2∧(pts.getD k (0,0)).2 ≤ 999)
theorem busesV_iff {b : Int} {ls : List Ln} {pts : List (Int × Int)} : busesV b ls pts = true ↔ BusOk b ls pts := by
  unfold busesV
  rw [Bool.and_eq_true, any_f, Bool.and_eq_true, netV_iff, decide_eq_true_eq]
  constructor
  · rintro ⟨⟨h1, h2⟩, h3⟩; exact ⟨h1, h2, fun k hk => by have := h3 k hk; simpa [busV, inB_iff] using this⟩
  · intro h; exact ⟨⟨h.net, h.lp⟩, fun k hk => by
      have h2 : busV (pts.getD k (0, 0)) = true := by unfold busV; rw [Bool.and_eq_true, inB_iff, inB_iff]; exact h.bs k hk
      rw [h2]; rfl⟩
theorem onE_lt {b:Int} {ls:List Ln} {pts:List (Int×Int)} (h:BusOk b ls pts) (on:List Bool) : ∀ e ∈ onE ls on,e.1 < pts.length∧e.2 < pts.length:=by
 intro e he
 obtain ⟨k,hk,_,rfl⟩:=onE_mem.1 he
 have h1:=h.net.ln k hk
 have:=h.lp; have:=h1.a; have:=h1.b
 exact ⟨by unfold edgeE; dsimp only; omega,by unfold edgeE; dsimp only; omega⟩
theorem sorted_of_adj {l:List Int} (h : ∀ k,k+1 < l.length → l.getD k 0 < l.getD (k+1) 0) : l.Pairwise (·< ·):=by
 rw [List.pairwise_iff_getElem]
 have key : ∀ d i,i+d+1 < l.length → l.getD i 0 < l.getD (i+d+1) 0:=by
  intro d
  induction d with
  | zero=>intro i hi; exact h i hi
  | succ d ih =>
   intro i hi
   have h1:=ih i (by omega)
   have h2:=h (i+d+1) (by omega)
   have e : i+(d+1)+1=i+d+1+1:=by omega
   rw [e]; omega
 intro i j hi hj hij
 have:=key (j - i - 1) i (by omega)
 rw [show i+(j - i - 1)+1=j by omega,getD_ge hi,getD_ge hj] at this
 exact this
theorem adj_of_sorted {l:List Int} (h : l.Pairwise (·< ·)) {k:Nat} (hk : k+1 < l.length) : l.getD k 0 < l.getD (k+1) 0:=by
 rw [List.pairwise_iff_getElem] at h
 rw [getD_ge (by omega),getD_ge hk]
 exact h k (k+1) (by omega) hk (by omega)
@[ext] structure Wd where
 b:Int
 ls:List Ln
 pts:List (Int×Int)
 on:List Bool
 earth:List Bool
 pm:Pm
 br:List Int
def Wd.wk (w:Wd):Wk:=(w.on,w.earth,w.pm)
def Wd.put (w:Wd) (k:Wk):Wd:=⟨w.b,w.ls,w.pts,k.1,k.2.1,k.2.2,w.br⟩
def Wd.zero:Wd:=⟨0,[],[],[],[],[],[]⟩
def brAt (on:List Bool) (br:List Int) (k:Nat):Bool:=(decide (0 ≤ br.getD k 0) && decide (br.getD k 0 < (on.length:Int))) && !on.getD (br.getD k 0).toNat false && (decide (k=0) || decide (br.getD (k - 1) 0 < br.getD k 0))
def brV (on:List Bool) (br:List Int):Bool:=!(List.range br.length).any fun k=>!brAt on br k
def wv (w:Wd):Bool:=busesV w.b w.ls w.pts && workV w.on w.earth w.pm && decide (w.on.length=w.ls.length) && brV w.on w.br && radP w.ls w.on w.pts
structure WdOk (w:Wd):Prop where
 bus:BusOk w.b w.ls w.pts
 work:WOk w.wk
 len : w.on.length=w.ls.length
 inn : ∀ x ∈ w.br,(0 ≤ x∧x < (w.on.length:Int))∧w.on.getD x.toNat false=false
 sor : w.br.Pairwise (·< ·)
 rad : radP w.ls w.on w.pts=true
theorem brV_iff {on:List Bool} {br:List Int} : brV on br=true ↔ (∀ x ∈ br,(0 ≤ x∧x < (on.length:Int))∧on.getD x.toNat false=false)∧br.Pairwise (·< ·):=by
 unfold brV
 rw [any_f]
 constructor
 ·intro h
  have h1 : ∀ k,k < br.length → (0 ≤ br.getD k 0∧br.getD k 0 < (on.length:Int))∧on.getD (br.getD k 0).toNat false=false∧(k=0 ∨ br.getD (k - 1) 0 < br.getD k 0):=by
   intro k hk
   have:=h k hk
   simpa only [brAt,Bool.not_eq_false',Bool.and_eq_true,Bool.or_eq_true,decide_eq_true_eq,Bool.not_eq_true',and_assoc] using this
  refine ⟨fun x hx=>?_,sorted_of_adj fun k hk=>?_⟩
  ·obtain ⟨k,hk,rfl⟩:=List.mem_iff_getElem.1 hx
   have:=h1 k hk
   rw [getD_ge hk] at this
   exact ⟨this.1,this.2.1⟩
  ·rcases (h1 (k+1) hk).2.2 with h2 | h2
   ·omega
   ·simpa using h2
 ·rintro ⟨h1,h2⟩ k hk
  have h3:=h1 (br.getD k 0) (by rw [getD_ge hk]; exact List.getElem_mem hk)
  have h4 : k=0 ∨ br.getD (k - 1) 0 < br.getD k 0:=by
   rcases Nat.eq_zero_or_pos k with h | h
   ·exact .inl h
   ·obtain ⟨j,rfl⟩ : ∃ j,k=j+1:=⟨k - 1,by omega⟩
    exact .inr (adj_of_sorted h2 hk)
  have : brAt on br k=true:=by simpa only [brAt,Bool.and_eq_true,Bool.or_eq_true,decide_eq_true_eq,Bool.not_eq_true',and_assoc] using ⟨h3.1.1,h3.1.2,h3.2,h4⟩
  rw [this]; rfl
theorem wv_iff {w:Wd} : wv w=true ↔ WdOk w:=by
 unfold wv
 rw [Bool.and_eq_true,Bool.and_eq_true,Bool.and_eq_true,Bool.and_eq_true,busesV_iff,decide_eq_true_eq,brV_iff]
 constructor
 ·rintro ⟨⟨⟨⟨h1,h2⟩,h3⟩,h4,h5⟩,h6⟩; exact ⟨h1,wok_iff.1 h2,h3,h4,h5,h6⟩
 ·intro h; exact ⟨⟨⟨⟨h.bus,wok_iff.2 h.work⟩,h.len⟩,h.inn,h.sor⟩,h.rad⟩
abbrev Dd:=Int×Int×Int
end Go.Proofs.YtcmnjaccapbhfaaGreat
