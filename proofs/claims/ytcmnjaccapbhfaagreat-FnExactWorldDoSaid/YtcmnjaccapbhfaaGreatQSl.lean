/- Slices: a slice that reads as a list of cells; a block as a list; lists that are filled from the left. -/
import Derived.Test.YtcmnjaccapbhfaaGreatQPre
import Derived.Deep.OwnRows
namespace Go.Proofs.YtcmnjaccapbhfaaGreat
open Go.ChangeShapes Go.WideShapes Go.ChangeAt Go.RowKit
def Rd (w:World) (size:Nat) (A:Option Addr) (n:Nat) (xs:List Value):Prop :=
 xs.length=n * size∧(0 < n → ∃ b off,A=some ⟨b,off,none⟩∧∀ j u,xs[j]?=some u → w.cell? ⟨b,off+j,none⟩=some u)
section
variable {w w':World} {size n:Nat} {A:Option Addr} {xs:List Value}
theorem Rd.nil:Rd w size A 0 []:=⟨by simp,fun h=>absurd h (by omega)⟩
theorem Rd.after (h:Rd w size A n xs) (hb:Below w.heap.size w w'):Rd w' size A n xs :=
 ⟨h.1,fun hn=>by
  obtain ⟨b,off,e,hc⟩:=h.2 hn
  exact ⟨b,off,e,fun j u hu=>(hb.cell (World.block_lt_of_cell? _ _ (hc j u hu))).trans (hc j u hu)⟩⟩
theorem Rd.drew (h:Rd w size A n xs):Rd w.drew size A n xs:=h
theorem Rd.alloc (h:Rd w size A n xs) (o:Obj):Rd (w.alloc o) size A n xs:=h.after ((Below.refl _ _).alloc (Nat.le_refl _) _)
theorem Rd.below {B:Nat} (h:Rd w size A n xs) (hb:Below B w w') (hB : ∀ b off,A=some ⟨b,off,none⟩ → 0 < n → b < B):Rd w' size A n xs :=
 ⟨h.1,fun hn=>by
  obtain ⟨b,off,e,hc⟩:=h.2 hn
  exact ⟨b,off,e,fun j u hu=>(hb.cell (hB b off e hn)).trans (hc j u hu)⟩⟩
end
end Go.Proofs.YtcmnjaccapbhfaaGreat
