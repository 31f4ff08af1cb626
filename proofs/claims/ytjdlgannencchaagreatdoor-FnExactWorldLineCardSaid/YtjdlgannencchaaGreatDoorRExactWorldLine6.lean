/- From the row's condition and the world's shape to what the contracts ask of the memory. -/
import Derived.HandedShaped
import Derived.LaidMore
import Derived.LaidSub
import Derived.Lib.LaidTab
import Derived.Lib.ItoaMem
import Derived.Shelf.Vars
import Derived.Test.YtjdlgannencchaaGreatDoorRExactWorldLine5
namespace Go.Proofs.YtjdlgannencchaaGreatDoor
open Go.ChangeShapes Go.WideShapes Go.ChangeAt Go.RowKit
set_option linter.unusedVariables false
theorem GX {H:Type} {enc:TypeId×Value→H} {a:Assume} {C:Checked} {os:Os} {f:FuncId} {fn:Func} {s:ChangeSpec} {conds:List PathCond} {apart fresh handsOn again:Bool} {X:World→Array Value→Prop}
 (hX: ∀(w w':World) (args:Array Value),w.heap=w'.heap→X w args→X w' args)
 (ho:ownKnob C.prog.godebug=none) (started:os.Started) (noInit:C.prog.inits.idxOf? f=none) (hfn:C.prog.funcs[f]?=some fn)
 (witness: ∃(w:World) (tape:Tape) (i:Input),w.os=os∧(w.forCall tape i).Shaped C.prog∧i.vars=[]∧Input.okWide C.prog (w.forCall tape i) .any w.heap.size f i∧
  ((s.pre enc C.prog fn conds apart (w.forCall tape i).memory i.args∧X (w.forCall tape i).memory i.args)∧sizedMet enc C.prog fn (OpenSpec.ofChange s) apart (w.forCall tape i).memory i.args)∧a.holds C.prog (lone (Frame.enter C.prog f i.args .normal) [] (w.forCall tape i)))
 (contract: ∀(W:World) (base:Nat) (args:Array Value) (ds gs:List (DataW H)) (before:List MemPlace),
  (∀(j:Nat) t v,fn.params[j]?=some t→args[j]?=some v→Value.okWide C.prog W .any base t v)→
  DataW.Whole enc C.prog fn.params.toList s.vars apart W args.toList ds gs before→X W args→W.ShapedOpen C.prog→
  Calls C.prog f args W fun e W'=> ∃v,e= .returned v∧s.post enc C.prog fn apart fresh handsOn again W args v W'):
 ReturnsInHanded a C os f .any (fun w args=>(s.pre enc C.prog fn conds apart w args∧X w args)∧sizedMet enc C.prog fn (OpenSpec.ofChange s) apart w args) (s.post enc C.prog fn apart fresh handsOn again):=by
 refine returnsInHanded_of_calls ho started noInit witness ?_
 intro w tape i _ hsh _ hok hpre _
 obtain ⟨_,_,_,fn',hfn',_,_,_,_,hval⟩:=hok
 obtain rfl:fn'=fn:=Option.some.inj (hfn'.symm.trans hfn)
 obtain ⟨⟨⟨ds,gs,before,hw,hc⟩,hx⟩,hz⟩:=hpre
 have hw':=DataW.Whole.of_heap (w':=w.forCall tape i) (by rfl) hw
 refine (contract (w.forCall tape i) w.heap.size i.args ds gs before hval hw' (hX _ _ _ (by rfl) hx) hsh).mono fun e W' ⟨v,he,hp⟩=>?_
 subst he
 exact ChangeSpec.post_blind hp
theorem SH {P:Program} {w w':World} {name:String} {k:IntKind} {zs:List Int} (h:Lib.TabIs P w name k zs) (hb:Below w.heap.size w w'):Lib.TabIs P w' name k zs:=by
 unfold Lib.TabIs World.var? at*
 cases hg:P.globalNamed name with
 |none=>simp [hg] at h
 |some g=>
  simp only [hg,Option.bind_some] at h ⊢
  have hlt:g<w.heap.size:=by
   rcases Nat.lt_or_ge g w.heap.size with h' |h'
   ·exact h'
   ·rw [Array.getElem?_eq_none h'] at h;simp at h
  rw [hb.block g hlt]
  exact h
theorem aaD {W:World} (hL:laidMetH Tryz.prog Rows.fnWorldLineRow.laid W) (hsh:W.ShapedOpen Tryz.prog):Bs W:=by
 have h1:=hL.filter (fun x=>x.1==ZS)
 have e:(Rows.fnWorldLineRow.laid.filter fun x=>x.1==ZS)=[(ZS,Lib.tabData .u64 Lib.pow10Tab)]:=by kernel_rfl
 rw [e] at h1
 have h2:=(laidMetH_iff.1 h1).1
 have e2:([(ZS,(Lib.tabData .u64 Lib.pow10Tab:DataW Unit))].filter fun x=>x.2.handleName?.isNone)=[(ZS,Lib.tabData .u64 Lib.pow10Tab)]:=by kernel_rfl
 rw [e2] at h2
 have h3:Lib.TabIs Tryz.prog W ZS .u64 Lib.pow10Tab:=Lib.tabIs_of_head (g:=1) (t:=240) (e:=231) (n:=20) (by kernel_rfl) (by kernel_rfl) Tryz.underlying240 Tryz.underlying231 (by kernel_rfl) (by kernel_rfl) h2
 obtain ⟨m,hm⟩:=cell_of_shapedOpen_int (g:=0) (t:=3) (zero:= #[.int .i64 0]) (k:=.i64) hsh (of_decide_eq_true (by kernel_rfl)) (by kernel_rfl) rfl (by kernel_rfl) (by kernel_rfl) Tryz.underlying3
 have hlt:0<W.heap.size:=World.block_lt_of_cell? _ _ hm
 exact ⟨fun w' hb=>SH h3 hb,m,fun w' hb=>(hb.cell (p:=⟨0,0,none⟩) hlt).trans hm⟩
end Go.Proofs.YtjdlgannencchaaGreatDoor
