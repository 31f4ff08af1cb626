/- The walk by explicit laws: what the frame's slots hold (Fr), what the call owns (St), one law an operation. -/
import Derived.Test.YtcmnjaccapbhfaaGreatQSt
import Derived.LoopTactic
namespace Go.Proofs.YtcmnjaccapbhfaaGreat
open Go.ChangeShapes Go.WideShapes Go.ChangeAt Go.RowKit
def look:List (Nat×Value) → Nat → Option Value
 | [],_=>none
 | (d,v) :: l,k=>bif Nat.beq k d then some v else look l k
def Finds (l:List (Nat×Value)):List (Nat×Value) → Prop
 | []=>True
 | p :: r=>look l p.1=some p.2∧Finds l r
structure Fr (a:Act) (n:Nat) (l:List (Nat×Value)):Prop where
 size : a.tmps.size=n
 defers : a.defers=[]
 slot : ∀ k v,look l k=some v → sl a k=v
theorem finds_look {l:List (Nat×Value)} : ∀ {l':List (Nat×Value)},Finds l l' → ∀ k v,look l' k=some v → look l k=some v
 | [],_,k,v,h=>by simp [look] at h
 | (d,u) :: r,⟨h1,h2⟩,k,v,h=>by
  simp only [look] at h
  cases hb:Nat.beq k d with
  | true =>
   rw [hb] at h
   have:=Nat.eq_of_beq_eq_true hb
   subst this
   simp at h
   subst h
   exact h1
  | false=>rw [hb] at h; exact finds_look h2 k v (by simpa using h)
section
variable {a:Act} {n d k:Nat} {l l':List (Nat×Value)} {v:Value}
theorem Fr.put (h:Fr a n l) (hd:Nat.blt d n=true) (v:Value):Fr (a.put (some d) v) n ((d,v) :: l):=by
 have hdn : d < n:=by simpa using hd
 refine ⟨by simp [Act.put,h.size],h.defers,fun k u hk=>?_⟩
 simp only [look] at hk
 cases hb:Nat.beq k d with
 | true =>
  rw [hb] at hk
  have:=Nat.eq_of_beq_eq_true hb
  subst this
  simp at hk
  subst hk
  exact sl_put_same _ _ (by rw [h.size]; exact hdn)
 | false =>
  rw [hb] at hk
  rw [sl_put _ _ _ _ (fun e=>by injection e with e; subst e; simp at hb)]
  exact h.slot k u (by simpa using hk)
theorem Fr.keep (h:Fr a n l) (l':List (Nat×Value)) (hl:Finds l l'):Fr a n l':=⟨h.size,h.defers,fun k v hk=>h.slot k v (finds_look hl k v hk)⟩
theorem Fr.ev (h:Fr a n l) (hk : look l k=some v) : a.eval (.tmp k)=v:=by
 have:=h.slot k v hk
 simpa [Act.eval,sl] using this
end
def InArgs (args:Array Value):List (Nat×Value) → Prop
 | []=>True
 | p :: r=>args[p.1]?=some p.2∧InArgs args r
theorem inArgs_look {args:Array Value} : ∀ {l:List (Nat×Value)},InArgs args l → ∀ k v,look l k=some v → args[k]?=some v
 | [],_,k,v,h=>by simp [look] at h
 | (d,u) :: r,⟨h1,h2⟩,k,v,h=>by
  simp only [look] at h
  cases hb:Nat.beq k d with
  | true =>
   rw [hb] at h
   have:=Nat.eq_of_beq_eq_true hb
   subst this
   simp at h
   subst h
   exact h1
  | false=>rw [hb] at h; exact inArgs_look h2 k v (by simpa using h)
theorem calls_gw {P:Program} {f:FuncId} {fn:Func} {c:Code} {args:Array Value} {w:World} {R:Ending → World → Prop} {n:Nat} (hf:P.funcs[f]?=some fn) (hn : fn.ntmps=n) (hb : fn.body=some c)
  (l:List (Nat×Value)) (hl:InArgs args l) (hs:Nat.ble args.size n=true) (h : ∀ a,Fr a n l → c.wp P (bodyPost P fn R) a w):Calls P f args w R:=by
 refine calls_of_wp hf hb (h _ ⟨?_,rfl,fun k v hk=>?_⟩)
 ·have : args.size ≤ n:=by simpa using hs
  simp [hn]; omega
 ·have:=inArgs_look hl k v hk
  obtain ⟨hk',_⟩:=Array.getElem?_eq_some_iff.1 this
  simp only [sl]
  rw [Array.getElem?_append_left hk',this]
  rfl
section
variable {P:Program} {ops:Array Oper} {Q:Exit → Act → World → Prop} {rest:List Oper} {o:Oper} {a:Act} {w w0:World} {n d:Nat} {l:List (Nat×Value)} {v:Value} {L:List Asn}
theorem op_val (hg : o.guard=none) (hd : o.dst=some d) (hF:Fr a n l) (hdn:Nat.blt d n=true) (hr:(execOp a.eval o).run P w=.ok (.value v) w)
  (h : ∀ a,Fr a n ((d,v) :: l) → wpList P ops Q rest a w) : wpList P ops Q (o :: rest) a w:=by
 refine wpList_plain hg fun K hK=>?_
 unfold Oper.wp
 rw [hr]
 exact hK _ _ (by rw [hd]; exact h _ (hF.put hdn v))
theorem op_new {cs:Array Value} {t:TypeId} (hg : o.guard=none) (hd : o.dst=some d) (hF:Fr a n l) (hdn:Nat.blt d n=true) (S:St w0 w L)
  (hr:(execOp a.eval o).run P w=.ok (.value (.pointer (some ⟨w.heap.size,0,none⟩))) (w.alloc (.cells cs t)))
  (h : ∀ a g w',Fr a n ((d,.pointer (some ⟨g,0,none⟩)) :: l) → St w0 w' (.box g t cs :: L) → wpList P ops Q rest a w') : wpList P ops Q (o :: rest) a w:=by
 refine wpList_plain hg fun K hK=>?_
 unfold Oper.wp
 rw [hr]
 exact hK _ _ (by rw [hd]; exact h _ _ _ (hF.put hdn _) (S.alloc t cs))
theorem op_do {w':World} (hg : o.guard=none) (hd : o.dst=none) (hr:(execOp a.eval o).run P w=.ok .skip w') (h : wpList P ops Q rest a w') : wpList P ops Q (o :: rest) a w:=by
 refine wpList_plain hg fun K hK=>?_
 unfold Oper.wp
 rw [hr]
 exact hK _ _ (by rw [hd]; exact h)
theorem op_call {f:FuncId} {args:Array Value} {R:Ending → World → Prop} (hg : o.guard=none) (hd : o.dst=some d) (hF:Fr a n l) (hdn:Nat.blt d n=true) (hr:(execOp a.eval o).run P w=.ok (.enter f args) w)
  (hc:Calls P f args w R) (h : ∀ e w',R e w' → ∃ v,e=.returned v∧∀ a,Fr a n ((d,v) :: l) → wpList P ops Q rest a w') : wpList P ops Q (o :: rest) a w:=by
 refine wpList_plain hg fun K hK=>?_
 unfold Oper.wp
 rw [hr]
 refine hc.mono fun e w' hR=>?_
 obtain ⟨v,rfl,hv⟩:=h e w' hR
 exact hK _ _ (by rw [hd]; exact hv _ (hF.put hdn v))
theorem op_guarded {j:Nat} {b:Bool} (hg : o.guard=some (j,b)) (hy : yielded ops a.tmps j=some b) (h : wpList P ops Q ({ o with guard:=none } :: rest) a w) : wpList P ops Q (o :: rest) a w:=by
 have hw:Region.wanted o (yielded ops a.tmps)=true:=by simp [Region.wanted,hg,hy]
 have hw':Region.wanted { o with guard:=none } (yielded ops a.tmps)=true:=by simp [Region.wanted]
 simp only [wpList,hw,hw',if_true] at h ⊢
 exact h
theorem op_skipped {j:Nat} {b:Bool} {y:Option Bool} (hg : o.guard=some (j,b)) (hy : yielded ops a.tmps j=y) (hx:(y == some b)=false) (hd : o.dst=some d) (hF:Fr a n l) (hdn:Nat.blt d n=true)
  (h : ∀ a,Fr a n ((d,undef) :: l) → wpList P ops Q rest a w) : wpList P ops Q (o :: rest) a w:=by
 refine wpList_skip ?_ (by rw [hd]; exact h _ (hF.put hdn _))
 simp only [Region.wanted,hg,hy]
 exact hx
theorem undef_bool (b:Bool) : undef ≠ .bool b:=by intro h; cases h
theorem gw_yield {j k:Nat} {oj:Oper} {b:Bool} (hF:Fr a n l) (ho : ops[j]?=some oj) (hd : oj.dst=some k) (hk : look l k=some (.bool b)) : yielded ops a.tmps j=some b:=by
 have:=hF.slot k _ hk
 simp only [yielded,ho,hd,Option.bind_some]
 cases ht : a.tmps[k]? with
 | none=>simp [sl,ht] at this; exact absurd this (undef_bool b)
 | some u=>simp [sl,ht] at this; subst this; rfl
theorem gw_yieldU {j k:Nat} {oj:Oper} (hF:Fr a n l) (ho : ops[j]?=some oj) (hd : oj.dst=some k) (hk : look l k=some undef) : yielded ops a.tmps j=none:=by
 have:=hF.slot k _ hk
 simp only [yielded,ho,hd,Option.bind_some]
 cases ht : a.tmps[k]? with
 | none=>rfl
 | some u=>simp [sl,ht] at this; subst this; rfl
end
def oneB (P:Program) (T:TypeId):Bool:=match P.underlying T with | some (.struct _) | some (.array ..) | none=>false | _=>true
structure TyAgg (P:Program) (T:TypeId) (m:Nat):Prop where
 under:(∃ fs,P.underlying T=some (.struct fs)) ∨ ∃ k e,P.underlying T=some (.array k e)
 info:(P.info? T).map (·.size)=some m
structure TyOne (P:Program) (T:TypeId):Prop where
 under : oneB P T=true
 info:(P.info? T).map (·.size)=some 1
structure TyFld (P:Program) (T:TypeId) (f off:Nat):Prop where
 fld:(match P.underlying T with | some (.struct fs)=>(fs[f]?).map (fun x=>(x.offset,(P.info? x.type).map (·.size) == some 0,(P.info? x.type).isSome)) | _=>none)=some (off,false,true)
section
variable {P:Program} {ρ:Operand → Value} {o:Oper} {w:World} {v:Value} {x:Operand}
theorem run_move (ho : o.op=.move x) (hx : ρ x=v):(execOp ρ o).run P w=.ok (.value v) w:=by simp [execOp,ho,hx]
theorem run_assign (ho : o.op=.assign x) (hx : ρ x=v):(execOp ρ o).run P w=.ok (.value v) w:=by simp [execOp,ho,hx]
theorem run_box {T:TypeId} {cs:Array Value} (ho : o.op=.box T x) (hx : ρ x=v) (hcs : v.cells=cs):(execOp ρ o).run P w=.ok (.value (.pointer (some ⟨w.heap.size,0,none⟩))) (w.alloc (.cells cs T)):=by
 subst hcs
 simp [execOp,ho,hx,Instr.box,newVar,newRow,go_sem]
theorem run_alloc {T:TypeId} {i:TypeInfo} {z:Value} (ho : o.op=.alloc T) (hi:P.info? T=some i) (hz : i.zero=some z):(execOp ρ o).run P w=.ok (.value (.pointer (some ⟨w.heap.size,0,none⟩))) (w.alloc (.cells z.cells T)):=by
 simp [execOp,ho,Instr.alloc,newVar,newRow,go_sem,zeroValue,typeInfo,hi,hz]
theorem run_load1 {T:TypeId} {g k:Nat} (ho : o.op=.load T x) (hT:TyOne P T) (hx : ρ x=.pointer (some ⟨g,k,none⟩)) (hc : w.cell? ⟨g,k,none⟩=some v):(execOp ρ o).run P w=.ok (.value v) w:=by
 have hu:=hT.under
 unfold oneB at hu
 cases hd:P.underlying T with
 | none=>rw [hd] at hu; simp at hu
 | some td =>
  rw [hd] at hu
  have:(isAgg T).run P w=.ok false w:=by
   simp only [isAgg,run_underlying hd,Sem.run_bind,Result.andThen_ok]
   cases td <;> simp_all
  simp [execOp,ho,hx,Instr.loadAt,Instr.sureAddr,loadVar,this,go_sem,hc]
theorem run_loadN {T:TypeId} {g k m:Nat} {cs:Array Value} (ho : o.op=.load T x) (hT:TyAgg P T m) (hx : ρ x=.pointer (some ⟨g,k,none⟩)) (hm : cs.size=m) (hc : ∀ j u,cs.toList[j]?=some u → w.cell? ⟨g,k+j,none⟩=some u):(execOp ρ o).run P w=.ok (.value (.agg cs)) w:=by
 have h1:(isAgg T).run P w=.ok true w:=by
  rcases hT.under with ⟨fs,hu⟩ | ⟨k,e,hu⟩
  ·simp [isAgg,run_underlying hu]
  ·simp [isAgg,run_underlying hu]
 have h2:(sizeOf T).run P w=.ok m w:=by
  obtain ⟨i,hi,hz⟩:=Option.map_eq_some_iff.1 hT.info
  simp [sizeOf,typeInfo,hi,hz]
 have h3:=run_loadCells_list (P:=P) w ⟨g,k,none⟩ cs.toList (fun j u hu=>by rw [Go.WideShapes.add_plain]; exact hc j u hu)
 have h4 : cs.toList.length=m:=by simpa using hm
 rw [h4] at h3
 simp [execOp,ho,hx,Instr.loadAt,Instr.sureAddr,loadVar,h1,h2,h3]
def putAt (cs:Array Value) (k:Nat) (vs:List Value):Array Value:=(cs.toList.take k++vs++cs.toList.drop (k+vs.length)).toArray
theorem run_store {T:TypeId} {y:Operand} {g k m:Nat} {t:TypeId} {cs cs' vs:Array Value} (ho : o.op=.store T x y) (hT:(P.info? T).map (·.size)=some m) (hx : ρ x=.pointer (some ⟨g,k,none⟩)) (hy : ρ y=v) (hv : v.cells=vs) (hm : vs.size=m)
  (h1 : vs.toList.all (·.oneCell')=true) (hb:Bk w g t cs) (hk:Nat.ble (k+m) cs.size=true) (hcs : putAt cs k vs.toList=cs'):(execOp ρ o).run P w=.ok .skip (w.setRow g cs'):=by
 have h2:(sizeOf T).run P w=.ok m w:=by
  obtain ⟨i,hi,hz⟩:=Option.map_eq_some_iff.1 hT
  simp [sizeOf,typeInfo,hi,hz]
 have hkm : k+m ≤ cs.size:=by simpa using hk
 have h3:=run_storeCells_at (P:=P) g k t vs.toList 0 cs w hb (by simp; omega) (fun u hu=>List.all_eq_true.1 h1 u hu)
 subst hcs
 have e : v.cells.size=m:=by rw [hv]; exact hm
 simp only [Nat.add_zero] at h3
 simp [execOp,ho,hx,hy,Instr.storeAt,Instr.sureAddr,storeVar,h2,hm,hv,h3,putAt]
end
section
variable {w0 w:World} {L:List Asn} {g:Nat} {t:TypeId} {cs cs':Array Value}
theorem Grown.setRow (w:World) (g:Nat) (cs':Array Value):Grown w (w.setRow g cs') [g]:=by
 refine ⟨rfl,rfl,rfl,by simp [World.setRow],fun b _ hn=>?_⟩
 have : g ≠ b:=fun e=>hn (by simp [e])
 simp [World.setRow,Array.getElem?_modify,this]
theorem St.put (S:St w0 w L) (i:Nat) (hi:L[i]?=some (.box g t cs)) (cs':Array Value):St w0 (w.setRow g cs') (L.set i (.box g t cs')) :=
 S.turn1 hi (Grown.setRow w g cs') (fun _ h=>by simpa [Asn.foot] using h) (setRow_heap w g cs cs' t (0,0) (S.get hi)) (fun g h=>.inl (by simpa [Asn.foot] using h))
theorem St.cell {k:Nat} {v:Value} (S:St w0 w L) (i:Nat) (hi:L[i]?=some (.box g t cs)) (hk : cs[k]?=some v) : w.cell? ⟨g,k,none⟩=some v:=by
 rw [((show Bk w g t cs from S.get hi).at_ k).1]; exact hk
theorem St.cells (S:St w0 w L) (i:Nat) (hi:L[i]?=some (.box g t cs)) (k:Nat) (vs:Array Value) (hk:(cs.toList.drop k).take vs.size=vs.toList) : ∀ j u,vs.toList[j]?=some u → w.cell? ⟨g,k+j,none⟩=some u:=by
 intro j u hu
 rw [((show Bk w g t cs from S.get hi).at_ (k+j)).1]
 rw [← hk,List.getElem?_take] at hu
 split at hu
 ·simpa using hu
 ·cases hu
end
end Go.Proofs.YtcmnjaccapbhfaaGreat
