/- Small lemmas on worlds and blocks that the walks of this seat use. -/
import Derived.Test.YtcmnjaccapbhfaaGreatRows
import Derived.WalkKit
import Derived.ProofKit
import Derived.OpenShut
import Derived.WalkSpells
import Derived.WalkLawsBesides
import Derived.Deep.QuietTactic
import Derived.BigQuiet
import Derived.Lib.Hide
namespace Go.Proofs.YtcmnjaccapbhfaaGreat
open Go.ChangeShapes Go.WideShapes Go.ChangeAt Go.RowKit
def inB (n lo hi:Int):Bool:=decide (lo ≤ n) && decide (n ≤ hi)
theorem inB_iff {n lo hi:Int} : inB n lo hi=true ↔ lo ≤ n∧n ≤ hi:=by simp [inB]
theorem cell_of {w:World} {g i:Nat} {cs:Array Value} {t:TypeId} (h : w.heap[g]?=some (.cells cs t (0,0))) : w.cell? ⟨g,i,none⟩=cs[i]?∧w.frozen? ⟨g,i,none⟩=false :=
 ⟨cell_of_row w g i cs t (0,0) h,by simp [World.frozen?,h]⟩
theorem blk_lt {w:World} {g:Nat} {x:Obj} (h : w.heap[g]?=some x) : g < w.heap.size:=by
 rcases Nat.lt_or_ge g w.heap.size with hlt | hge
 ·exact hlt
 ·rw [Array.getElem?_eq_none hge] at h; cases h
theorem blk_alloc {w:World} {g:Nat} {x:Obj} (h : w.heap[g]?=some x) (o:Obj):(w.alloc o).heap[g]?=some x:=(Below.heap_alloc w o g (blk_lt h)).trans h
theorem blk_far {w:World} {g:Nat} {x:Obj} (h : w.heap[g]?=some x) {p:Addr} (hp : g ≠ p.block) (u:Value):(w.setCell p u).heap[g]?=some x:=(Below.heap_setCell w p u g hp).trans h
theorem blk_set {w:World} {g:Nat} {t:TypeId} {cs:Array Value} (h : w.heap[g]?=some (.cells cs t (0,0))) (i:Nat) (u:Value):(w.setCell ⟨g,i,none⟩ u).heap[g]?=some (.cells (cs.setIfInBounds i u) t (0,0)):=by
 simp [World.setCell,Array.getElem?_modify,h]
theorem blk_below {w w':World} {B g:Nat} {x:Obj} (h : w.heap[g]?=some x) (hb:Below B w w') (hg : g < B) : w'.heap[g]?=some x:=(hb.block g hg).trans h
def Bk (w:World) (g:Nat) (t:TypeId) (cs:Array Value):Prop:=w.heap[g]?=some (.cells cs t (0,0))
section
variable {w w':World} {g:Nat} {t:TypeId} {cs:Array Value}
theorem Bk.lt (h:Bk w g t cs) : g < w.heap.size:=blk_lt h
theorem Bk.at_ (h:Bk w g t cs) (i:Nat) : w.cell? ⟨g,i,none⟩=cs[i]?∧w.frozen? ⟨g,i,none⟩=false:=cell_of h
theorem Bk.new (w:World) (t:TypeId) (cs:Array Value):Bk (w.alloc (.cells cs t)) w.heap.size t cs:=heap_alloc_new w _
theorem Bk.drew (h:Bk w g t cs):Bk w.drew g t cs:=h
theorem Bk.alloc (h:Bk w g t cs) (o:Obj):Bk (w.alloc o) g t cs:=blk_alloc h o
theorem Bk.set_ (h:Bk w g t cs) (i:Nat) (u:Value):Bk (w.setCell ⟨g,i,none⟩ u) g t (cs.setIfInBounds i u):=blk_set h i u
theorem Bk.far (h:Bk w g t cs) {p:Addr} (hp : g ≠ p.block) (u:Value):Bk (w.setCell p u) g t cs:=blk_far h hp u
theorem Bk.below {B:Nat} (h:Bk w g t cs) (hb:Below B w w') (hg : g < B):Bk w' g t cs:=blk_below h hb hg
theorem Bk.after (h:Bk w g t cs) (hb:Below w.heap.size w w'):Bk w' g t cs:=blk_below h hb h.lt
theorem Bk.c1 {a:Value} (h:Bk w g t #[a]) : w.cell? ⟨g,0,none⟩=some a∧w.frozen? ⟨g,0,none⟩=false:=by have:=h.at_ 0; simpa using this
theorem Bk.c2 {a b:Value} (h:Bk w g t #[a,b]):(w.cell? ⟨g,0,none⟩=some a∧w.frozen? ⟨g,0,none⟩=false)∧(w.cell? ⟨g,1,none⟩=some b∧w.frozen? ⟨g,1,none⟩=false):=by
 have h0:=h.at_ 0; have h1:=h.at_ 1; simp at h0 h1; exact ⟨h0,h1⟩
theorem Bk.c3 {a b c:Value} (h:Bk w g t #[a,b,c]):(w.cell? ⟨g,0,none⟩=some a∧w.frozen? ⟨g,0,none⟩=false)∧(w.cell? ⟨g,1,none⟩=some b∧w.frozen? ⟨g,1,none⟩=false)∧(w.cell? ⟨g,2,none⟩=some c∧w.frozen? ⟨g,2,none⟩=false):=by
 have h0:=h.at_ 0; have h1:=h.at_ 1; have h2:=h.at_ 2; simp at h0 h1 h2; exact ⟨h0,h1,h2⟩
end
end Go.Proofs.YtcmnjaccapbhfaaGreat
