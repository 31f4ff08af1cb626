/- Short forms of the rules of the walk, for texts that are handed in. -/
import Derived.Test.YtcmnjaccapbhfaaGreatQDc
namespace Go.Proofs.YtcmnjaccapbhfaaGreat
open Go.ChangeShapes Go.WideShapes Go.ChangeAt Go.RowKit
section
variable {P:Program} {ops:Array Oper} {Q:Exit → Act → World → Prop} {rest:List Oper} {o:Oper} {a:Act} {w w0:World} {n d k i:Nat} {l:List (Nat×Value)} {v:Value} {L:List Asn} {ty:TypeId} {pos:String} {af:Array Edge} {y:Code} {os:List Oper} {K:Act → World → Prop}
theorem ov {p : _} (hdn:Nat.blt d n=true) (hr : ∀ a,Fr a n l → (execOp a.eval ⟨some d,p,ty,pos,af,none⟩).run P w=.ok (.value v) w) (h : ∀ a,Fr a n ((d,v) :: l) → wpList P ops Q rest a w) : ∀ a,Fr a n l → wpList P ops Q (⟨some d,p,ty,pos,af,none⟩ :: rest) a w :=
 fun a hF=>op_val rfl rfl hF hdn (hr a hF) h
theorem mv (hk : look l k=some v) (hdn:Nat.blt d n=true) (h : ∀ a,Fr a n ((d,v) :: l) → wpList P ops Q rest a w) : ∀ a,Fr a n l → wpList P ops Q (⟨some d,.move (.tmp k),ty,pos,af,none⟩ :: rest) a w :=
 ov hdn (fun _ f=>run_move rfl (f.ev hk)) h
theorem ag (hk : look l k=some v) (hdn:Nat.blt d n=true) (h : ∀ a,Fr a n ((d,v) :: l) → wpList P ops Q rest a w) : ∀ a,Fr a n l → wpList P ops Q (⟨some d,.assign (.tmp k),ty,pos,af,none⟩ :: rest) a w :=
 ov hdn (fun _ f=>run_assign rfl (f.ev hk)) h
theorem sr (h : ∀ a,Fr a n l → wpList P os.toArray (Exit.then (y.wp P Q) Q) os a w) : ∀ a,Fr a n l → (Code.seq (.region i os.toArray false) y).wp P Q a w :=
 fun a f=>wp_seq (wp_region_lit (h a f))
theorem rl (h : ∀ a,Fr a n l → wpList P os.toArray Q os a w) : ∀ a,Fr a n l → (Code.region i os.toArray false).wp P Q a w :=
 fun a f=>wp_region_lit (h a f)
section
variable {j:Nat} {oj:Oper} {b:Bool}
end
section
variable {op:Array Oper} {j:Nat} {oj:Oper} {b:Bool} {G1 G4 B C:Prop}
end
theorem ws {x y:Code} (h : x.wp P (Exit.then (y.wp P Q) Q) a w):(Code.seq x y).wp P Q a w:=wp_seq h
theorem wn (h:Q .normal a w) : wpList P ops Q [] a w:=h
theorem wsg (h : wpList P os.toArray (Exit.then (y.wp P Q) Q) os a w):(Code.seq (.region i os.toArray false) y).wp P Q a w:=wp_seq (wp_region_lit h)
theorem tr (h:Q .ret a w):Exit.then K Q .ret a w:=h
theorem ir {id:Nat} (h:Q .ret a w):Exit.inBlock id Q .ret a w:=h
theorem nr {id:Nat} (h:Q .normal a w):Exit.inBlock id Q .normal a w:=h
end
end Go.Proofs.YtcmnjaccapbhfaaGreat
