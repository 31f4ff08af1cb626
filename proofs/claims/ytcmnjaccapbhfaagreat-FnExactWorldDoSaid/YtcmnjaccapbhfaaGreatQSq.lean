/- Short forms of the rules of the walk, for texts that are handed in. -/
import Derived.Test.YtcmnjaccapbhfaaGreatQDc
namespace Go.Proofs.YtcmnjaccapbhfaaGreat
open Go.ChangeShapes Go.WideShapes Go.ChangeAt Go.RowKit
section
variable {P:Program} {ops:Array Oper} {Q:Exit → Act → World → Prop} {rest:List Oper} {o:Oper} {a:Act} {w w0:World} {n d k i:Nat} {l:List (Nat×Value)} {v:Value} {L:List Asn} {ty:TypeId} {pos:String} {af:Array Edge} {y:Code} {os:List Oper} {K:Act → World → Prop}
@[reducible] def iv (n:Int):Value:=.int .i64 n
theorem run_ix {ρ:Operand → Value} {x ix:Operand} {xs:List Value} {T E:TypeId} {kd:IntKind} {i:Int} {n c size:Nat} {A:Option Addr} (ho : o.op=.indexAddr T x ix) (hT:P.underlying T=some (.slice E)) (hE:(P.info? E).map (·.size)=some size)
  (hx : ρ x=.slice A n c) (hr:Rc w size A n c xs) (hi : ρ ix=.int kd i) (h : 0 ≤ i∧i < (n:Int)):(execOp ρ o).run P w=.ok (.value (.pointer (some ⟨adB A,adO A+i.toNat * size,none⟩))) w :=
 run_indexAddr ho hT hE (hx.trans (congrArg (fun A=>Value.slice A n c) (hr.rd.ad (ix_pos h)))) hi h.1 h.2 rfl
theorem bb (b:Bool) : b=false ∨ b=true:=by cases b <;> simp
theorem ov {p : _} (hdn:Nat.blt d n=true) (hr : ∀ a,Fr a n l → (execOp a.eval ⟨some d,p,ty,pos,af,none⟩).run P w=.ok (.value v) w) (h : ∀ a,Fr a n ((d,v) :: l) → wpList P ops Q rest a w) : ∀ a,Fr a n l → wpList P ops Q (⟨some d,p,ty,pos,af,none⟩ :: rest) a w :=
 fun a hF=>op_val rfl rfl hF hdn (hr a hF) h
theorem mv (hk : look l k=some v) (hdn:Nat.blt d n=true) (h : ∀ a,Fr a n ((d,v) :: l) → wpList P ops Q rest a w) : ∀ a,Fr a n l → wpList P ops Q (⟨some d,.move (.tmp k),ty,pos,af,none⟩ :: rest) a w :=
 ov hdn (fun _ f=>run_move rfl (f.ev hk)) h
theorem ag (hk : look l k=some v) (hdn:Nat.blt d n=true) (h : ∀ a,Fr a n ((d,v) :: l) → wpList P ops Q rest a w) : ∀ a,Fr a n l → wpList P ops Q (⟨some d,.assign (.tmp k),ty,pos,af,none⟩ :: rest) a w :=
 ov hdn (fun _ f=>run_assign rfl (f.ev hk)) h
theorem sr (h : ∀ a,Fr a n l → wpList P os.toArray (Exit.then (y.wp P Q) Q) os a w) : ∀ a,Fr a n l → (Code.seq (.region i os.toArray false) y).wp P Q a w :=
 fun a f=>wp_seq (wp_region_lit (h a f))
theorem rl (h : ∀ a,Fr a n l → wpList P os.toArray Q os a w) : ∀ a,Fr a n l → (Code.region i os.toArray false).wp P Q a w :=
 fun a f=>wp_region_lit (h a f)
section
variable {j:Nat} {oj:Oper} {b:Bool}
theorem gt {p : _} (hdn:Nat.blt d n=true) (ho : ops[j]?=some oj) (hj : oj.dst=some k) (hl : look l k=some (.bool b)) (hr : ∀ a,Fr a n l → b=true → (execOp a.eval ⟨some d,p,ty,pos,af,some (j,true)⟩).run P w=.ok (.value v) w)
  (h : ∀ a,Fr a n ((d,gv b v) :: l) → wpList P ops Q rest a w) : ∀ a,Fr a n l → wpList P ops Q (⟨some d,p,ty,pos,af,some (j,true)⟩ :: rest) a w:=fun a hF=>op_gv rfl rfl hF hdn (yt (gw_yield hF ho hj hl)) (hr a hF) h
theorem gf {p : _} (hdn:Nat.blt d n=true) (ho : ops[j]?=some oj) (hj : oj.dst=some k) (hl : look l k=some (.bool b)) (hr : ∀ a,Fr a n l → (!b)=true → (execOp a.eval ⟨some d,p,ty,pos,af,some (j,false)⟩).run P w=.ok (.value v) w)
  (h : ∀ a,Fr a n ((d,gv (!b) v) :: l) → wpList P ops Q rest a w) : ∀ a,Fr a n l → wpList P ops Q (⟨some d,p,ty,pos,af,some (j,false)⟩ :: rest) a w:=fun a hF=>op_gv rfl rfl hF hdn (yf (gw_yield hF ho hj hl)) (hr a hF) h
end
def argL:Nat → List Value → List (Nat×Value)
 | _,[]=>[]
 | k,v :: r=>(k,v) :: argL (k+1) r
theorem argL_in {args:Array Value} : ∀ (l pre:List Value),args.toList=pre++l → InArgs args (argL pre.length l)
 | [],_,_=>trivial
 | v :: r,pre,h=>by
  refine ⟨?_,?_⟩
  ·rw [← Array.getElem?_toList,h]; simp
  ·have:=argL_in r (pre++[v]) (by rw [h]; simp)
   simpa using this
theorem calls_gx {f:FuncId} {fn:Func} {c:Code} {args:Array Value} {R:Ending → World → Prop} (hf:P.funcs[f]?=some fn) (hn : fn.ntmps=n) (hb : fn.body=some c) (hs:Nat.ble args.size n=true) (h : ∀ a,Fr a n (argL 0 args.toList) → c.wp P (bodyPost P fn R) a w):Calls P f args w R :=
 calls_gw hf hn hb (argL 0 args.toList) (argL_in args.toList [] rfl) hs h
section
variable {op:Array Oper} {j:Nat} {oj:Oper} {b:Bool} {G1 G4 B C:Prop}
theorem gyt (hg : o.guard=some (j,true)) (ho : op[j]?=some oj) (hd : oj.dst=some k) (h : sl a k=.bool b) (h4 : b=false → G4) (h1 : b=true → G1):(Region.wanted o (yielded op a.tmps)=true∧G1) ∨ B ∨ C ∨ (Region.wanted o (yielded op a.tmps)=false∧G4):=by
 rcases bb b with e | e
 ·exact .inr (.inr (.inr ⟨gr_eg hg (yt (gr_yield ho hd h)) e,h4 e⟩))
 ·exact .inl ⟨gr_eg hg (yt (gr_yield ho hd h)) e,h1 e⟩
theorem gyf (hg : o.guard=some (j,false)) (ho : op[j]?=some oj) (hd : oj.dst=some k) (h : sl a k=.bool b) (h4:(!b)=false → G4) (h1:(!b)=true → G1):(Region.wanted o (yielded op a.tmps)=true∧G1) ∨ B ∨ C ∨ (Region.wanted o (yielded op a.tmps)=false∧G4):=by
 rcases bb (!b) with e | e
 ·exact .inr (.inr (.inr ⟨gr_eg hg (yf (gr_yield ho hd h)) e,h4 e⟩))
 ·exact .inl ⟨gr_eg hg (yf (gr_yield ho hd h)) e,h1 e⟩
end
theorem ws {x y:Code} (h : x.wp P (Exit.then (y.wp P Q) Q) a w):(Code.seq x y).wp P Q a w:=wp_seq h
theorem wg (h : wpList P os.toArray Q os a w):(Code.region i os.toArray false).wp P Q a w:=wp_region_lit h
theorem wn (h:Q .normal a w) : wpList P ops Q [] a w:=h
theorem wsg (h : wpList P os.toArray (Exit.then (y.wp P Q) Q) os a w):(Code.seq (.region i os.toArray false) y).wp P Q a w:=wp_seq (wp_region_lit h)
theorem tr (h:Q .ret a w):Exit.then K Q .ret a w:=h
theorem ir {id:Nat} (h:Q .ret a w):Exit.inBlock id Q .ret a w:=h
theorem nr {id:Nat} (h:Q .normal a w):Exit.inBlock id Q .normal a w:=h
end
end Go.Proofs.YtcmnjaccapbhfaaGreat
