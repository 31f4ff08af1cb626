/- From a law's walk to its row: what a call that returns true and leaves all old memory as it was owes the row. -/
import Derived.Test.YtcmnjaccapbhfaaGreatQPre
import Derived.Carry
import Derived.Lib.SmallJoins
import Derived.JoinedOf
namespace Go.Proofs.YtcmnjaccapbhfaaGreat
open Go.ChangeShapes Go.WideShapes Go.ChangeAt Go.RowKit
theorem own : ownKnob Tryz.prog.godebug=none:=by kernel_rfl
theorem laidOut : laidOutB Tryz.prog=true:=by kernel_rfl
section
variable {H:Type} {enc:TypeId×Value → H} {P:Program}
theorem trodAll_below (hl : laidOutB P=true) {W W':World} (hb:Below W.heap.size W W') : ∀ {ts:List TypeId} {vs:List Value} {ds:List (DataW H)} {ps:List MemPlace},
  (ts.all fun t=>P.readableRec t && decide (t < P.types.size))=true → DataW.TrodAll enc P W 0 (fun _=>true) true ts vs ds ps → (∀ x ∈ ps,x.block < W.heap.size) →
  DataW.TrodAll enc P W' 0 (fun b=>decide (b < W.heap.size)) true ts vs ds ps
 | [],[],[],_,_,h,_=>h
 | t :: ts,v :: vs,d :: ds,ps,ht,h,hlt=>by
  obtain ⟨p,q,h1,h2,rfl⟩:=h
  simp only [List.all_cons,Bool.and_eq_true,decide_eq_true_eq] at ht
  exact ⟨p,q,Below.trod hl ht.1.1 ht.1.2 h1 hb (fun x hx=>hlt x (by simp [hx])),trodAll_below hl hb (by simpa using ht.2) h2 (fun x hx=>hlt x (by simp [hx])),rfl⟩
theorem law_post {f:Func} {s:ChangeSpec} {W W':World} {args:Array Value} {ds gs:List (DataW H)} {before:List MemPlace} {tb:TypeId} (hl : laidOutB P=true)
  (hW:DataW.Whole enc P f.params.toList s.vars false W args.toList ds gs before)
  (hts:(f.params.toList.all fun t=>P.readableRec t && decide (t < P.types.size))=true) (hvs : s.vars=[]) (hrt : f.resultTypes=#[tb]) (hub:P.underlying tb=some .bool)
  (hfn : s.fn H (ds++[])={ results:=[.lit (.bool true)],args:=ds }) (hb:Below W.heap.size W W') :
  s.post enc P f false true false false W args (.bool true) W':=by
 have hW':=hW
 obtain ⟨p,q,hA,hV,rfl,hfz,hnd⟩:=hW
 rw [hvs] at hV
 obtain ⟨rfl,rfl⟩:=trodVars_none hV
 refine ⟨ds,[],p++[],[],p,[],hW',?_,?_,?_,hb.frame _,fun h=>by cases h⟩
 ·rw [hfn,hrt]
  exact trodAll_cons_mk (shut_bool hub _) trodAll_mk0
 ·rw [hfn]
  exact trodAll_below hl hb hts hA (fun x hx=>hW'.lt x (by simp [hx]))
 ·rw [hfn,hvs]
  rfl
end
end Go.Proofs.YtcmnjaccapbhfaaGreat
