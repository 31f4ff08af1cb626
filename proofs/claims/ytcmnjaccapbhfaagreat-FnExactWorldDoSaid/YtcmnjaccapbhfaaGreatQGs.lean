/- Small helpers of the printed walks. -/
import Derived.Test.YtcmnjaccapbhfaaGreatQGr
import Derived.Test.YtcmnjaccapbhfaaGreatQOpens
namespace Go.Proofs.YtcmnjaccapbhfaaGreat
open Go.ChangeShapes Go.WideShapes Go.ChangeAt Go.RowKit
def vtup (v:Value) (i:Nat):Value:=match v with | .tuple vs=>vs.getD i undef | .agg vs=>vs.getD i undef | _=>undef
def slA:Value → Option Addr | .slice A _ _=>A | _=>none
def slC:Value → Nat | .slice _ _ c=>c | _=>0
def ptB:Value → Nat | .pointer (some a)=>a.block | _=>0
def AllSl (a:Act):List (Nat×Value) → Prop
 | []=>True
 | p :: r=>sl a p.1=p.2∧AllSl a r
theorem allSl_mem {a:Act} : ∀ {l:List (Nat×Value)},AllSl a l → ∀ p ∈ l,sl a p.1=p.2
 | [],_,p,h=>by simp at h
 | q :: r,⟨h1,h2⟩,p,h=>by
  rcases List.mem_cons.1 h with rfl | h
  ·exact h1
  ·exact allSl_mem h2 p h
section
variable {P:Program} {Q:Exit → Act → World → Prop} {a:Act} {w w0:World} {n k:Nat} {l:List (Nat×Value)} {x y:Code} {b:Bool}
theorem cond_t (hF:Fr a n l) (hk : look l k=some (.bool b)) (hb : b=true) (h : x.wp P Q a w):(Code.cond (.tmp k) x y).wp P Q a w:=wp_cond_true (by rw [hF.ev hk,hb]) h
theorem cond_f (hF:Fr a n l) (hk : look l k=some (.bool b)) (hb : b=false) (h : y.wp P Q a w):(Code.cond (.tmp k) x y).wp P Q a w:=wp_cond_false (by rw [hF.ev hk,hb]) h
end
section
variable {K:Act → World → Prop} {Q:Exit → Act → World → Prop} {a:Act} {w:World} {id i:Nat}
theorem then_exit (h:Q (.exit i) a w):Exit.then K Q (.exit i) a w:=h
theorem in_hit (h:Q .normal a w):Exit.inBlock id Q (.exit id) a w:=by simpa [Exit.inBlock] using h
theorem in_miss (hi:Nat.beq i id=false) (h:Q (.exit i) a w):Exit.inBlock id Q (.exit i) a w:=by
 have : i ≠ id:=fun e=>by subst e; simp at hi
 simpa [Exit.inBlock,this] using h
end
section
variable {P:Program} {ρ:Operand → Value} {o:Oper} {w:World} {c x y:Operand} {b:Bool} {v:Value}
theorem run_pick_t (ho : o.op=.pick c x y) (hc : ρ c=.bool b) (hb : b=true) (hx : ρ x=v):(execOp ρ o).run P w=.ok (.value v) w:=by
 subst hb; simp [execOp,ho,hx,hc,asBool]
theorem run_pick_f (ho : o.op=.pick c x y) (hc : ρ c=.bool b) (hb : b=false) (hy : ρ y=v):(execOp ρ o).run P w=.ok (.value v) w:=by
 subst hb; simp [execOp,ho,hy,hc,asBool]
end
section
variable {w0 w:World} {L:List Asn} {a b c d:Asn}
end
theorem Bk.cell {w:World} {g k:Nat} {t:TypeId} {cs:Array Value} {v:Value} (h:Bk w g t cs) (hk : cs[k]?=some v) : w.cell? ⟨g,k,none⟩=some v:=by rw [(h.at_ k).1]; exact hk
theorem Bk.cells {w:World} {g:Nat} {t:TypeId} {cs:Array Value} (h:Bk w g t cs) (k:Nat) (vs:Array Value) (hk:(cs.toList.drop k).take vs.size=vs.toList) : ∀ j u,vs.toList[j]?=some u → w.cell? ⟨g,k+j,none⟩=some u:=by
 intro j u hu
 rw [(h.at_ (k+j)).1]
 rw [← hk,List.getElem?_take] at hu
 split at hu
 ·simpa using hu
 ·cases hu
theorem run_allocZ {P:Program} {ρ:Operand → Value} {o:Oper} {w:World} {T:TypeId} {z:Value} (ho : o.op=.alloc T) (hz:(P.info? T).bind (·.zero)=some z):(execOp ρ o).run P w=.ok (.value (.pointer (some ⟨w.heap.size,0,none⟩))) (w.alloc (.cells z.cells T)):=by
 obtain ⟨i,hi,hz⟩:=Option.bind_eq_some_iff.1 hz
 exact run_alloc ho hi hz
def nodupB:List Nat → Bool
 | []=>true
 | x :: r=>!r.contains x && nodupB r
theorem nodupB_get : ∀ {l:List Nat},nodupB l=true → ∀ p q (hp : p < l.length) (hq : q < l.length),p < q → l[p] ≠ l[q]
 | x :: r,h,p,q,hp,hq,hlt=>by
  simp only [nodupB,Bool.and_eq_true,Bool.not_eq_true'] at h
  cases q with
  | zero=>omega
  | succ q =>
   cases p with
   | zero =>
    simp only [List.getElem_cons_zero,List.getElem_cons_succ]
    intro e
    have : x ∈ r:=by rw [e]; exact List.getElem_mem _
    have h1 : r.contains x=true:=by simpa using this
    rw [h1] at h
    cases h.1
   | succ p =>
    simp only [List.getElem_cons_succ]
    exact nodupB_get h.2 p q (by simpa using hp) (by simpa using hq) (by omega)
theorem St.sel {w0 w:World} {L M:List Asn} (S:St w0 w L) (is:List Nat) (hnd : nodupB is=true) (hM : is.map (fun i=>L[i]?)=M.map some):St w0 w M:=by
 have hl : is.length=M.length:=by simpa using congrArg List.length hM
 have hat : ∀ p (h1 : p < is.length) (h2 : p < M.length),L[is[p]]?=some M[p]:=by
  intro p h1 h2
  have:=congrArg (fun l=>l[p]?) hM
  simpa [h1,h2] using this
 refine ⟨S.below,fun a ha=>?_,?_,fun a ha=>?_⟩
 ·obtain ⟨p,hp,rfl⟩:=List.mem_iff_getElem.1 ha
  exact S.all _ (List.mem_of_getElem? (hat p (by omega) hp))
 ·rw [List.pairwise_iff_getElem]
  intro p q hp hq hpq
  have h1:=hat p (by omega) hp
  have h2:=hat q (by omega) hq
  obtain ⟨g1,e1⟩:=List.getElem?_eq_some_iff.1 h1
  obtain ⟨g2,e2⟩:=List.getElem?_eq_some_iff.1 h2
  have hne:=nodupB_get hnd p q (by omega) (by omega) hpq
  have hA:=List.pairwise_iff_getElem.1 S.apart
  rw [← e1,← e2]
  rcases Nat.lt_or_gt_of_ne hne with h | h
  ·exact hA _ _ g1 g2 h
  ·exact (hA _ _ g2 g1 h).symm
 ·obtain ⟨p,hp,rfl⟩:=List.mem_iff_getElem.1 ha
  exact S.olds _ (List.mem_of_getElem? (hat p (by omega) hp))
theorem flat_get {α:Type} {f : α → List Value} {size:Nat} (hf : ∀ y,(f y).length=size) {l:List α} {k j:Nat} {u:Value} (d : α) (h : k < l.length) (hu:(f (l.getD k d))[j]?=some u):(l.flatMap f)[k * size+j]?=some u:=by
 have hj : j < size:=by rw [← hf (l.getD k d)]; exact (List.getElem?_eq_some_iff.1 hu).1
 rw [flatMap_get f hf l k j h hj]
 simp only [List.getD,List.getElem?_eq_getElem h,Option.getD_some] at hu
 rw [List.getElem?_eq_getElem h]
 exact hu
theorem ev_const (a:Act) (v:Value) : a.eval (.const v)=v:=rfl
theorem ev_sl {a:Act} {k:Nat} {v:Value} (h : sl a k=v) : a.eval (.tmp k)=v:=by
 simpa [Act.eval,sl] using h
theorem Fr.evB {a0 a:Act} {n k:Nat} {l:List (Nat×Value)} {D:List Nat} {v:Value} (hF:Fr a0 n l) (hB:Base a0 D a) (hD:D.contains k=false) (hk : look l k=some v) : a.eval (.tmp k)=v :=
 ev_sl ((hB.2.2 k hD).trans (hF.slot k v hk))
theorem Fr.evU {a0 a:Act} {n k:Nat} {l:List (Nat×Value)} {v:Value} (hF:Fr a0 n l) (h : sl a k=sl a0 k) (hk : look l k=some v) : a.eval (.tmp k)=v:=ev_sl (h.trans (hF.slot k v hk))
section
variable {w0 w:World} {T X Lr:List Asn}
theorem gr_thing {b:Asn} (S:St w0 w (T++X)) (hl : ∀ x ∈ Lr,x ∈ X) (i:Nat) (hi:Lr[i]?=some b) : b.holds w:=S.mem (List.mem_append_right _ (hl _ (List.mem_of_getElem? hi)))
theorem gr_box {g:Nat} {t:TypeId} {cs:Array Value} (S:St w0 w (T++X)) (hl : ∀ x ∈ Lr,x ∈ X) (i:Nat) (hi:Lr[i]?=some (.box g t cs)):Bk w g t cs:=gr_thing S hl i hi
end
def PhiAll (φ:Nat → List Value → Prop) (deps:Nat → List Nat) (a:Act):Nat → List Oper → Prop
 | _,[]=>True
 | i,_ :: r=>φ i (valsOf deps a i)∧PhiAll φ deps a (i+1) r
theorem phiAll_of {φ:Nat → List Value → Prop} {deps:Nat → List Nat} {a:Act} : ∀ (l:List Oper) (k:Nat),(∀ i,i < l.length → φ (k+i) (valsOf deps a (k+i))) → PhiAll φ deps a k l
 | [],_,_=>trivial
 | _ :: r,k,h=>⟨h 0 (by simp),phiAll_of r (k+1) (fun i hi=>by have:=h (i+1) (by simpa using hi); rw [show k+1+i=k+(i+1) from by omega]; exact this)⟩
theorem region_gw {P:Program} {ops:List Oper} {a0:Act} {D:List Nat} {w0 w:World} {Lr:List Asn} {deps:Nat → List Nat} {rd zr:Nat → List Nat} {φ:Nat → List Value → Prop} {C:Nat → List Value → List Asn} {κ:Nat → Option Nat} {Z:Nat → List Asn} {Q:Exit → Act → World → Prop}
  {id n:Nat} {l:List (Nat×Value)} (hm:P.follows .mixedOrders=true) (hF:Fr a0 n l) (hs : grOk ops.toArray D deps rd zr κ n=true) (hS:St w0 w ((List.range ops.toArray.size).flatMap Z++Lr))
  (hops:GrOwesAll P ops.toArray a0 D w0 Lr deps rd zr φ C κ Z 0 ops)
  (hend : ∀ a w,Base a0 D a → PhiAll φ deps a 0 ops → St w0 w (((List.range ops.toArray.size).flatMap fun j=>match κ j with | some _=>[] | none=>C j (valsOf deps a j))++Lr) → Q .normal a w):(Code.region id ops.toArray true).wp P Q a0 w :=
 region_gr hm hF hs (hS.perm List.perm_append_comm) hops fun a w hB hp hS=>hend a w hB (phiAll_of ops 0 fun i hi=>by rw [Nat.zero_add]; exact hp i (by simpa using hi)) (hS.perm List.perm_append_comm)
theorem gr_yield {ops:Array Oper} {a:Act} {j k:Nat} {oj:Oper} {b:Bool} (ho : ops[j]?=some oj) (hd : oj.dst=some k) (h : sl a k=.bool b) : yielded ops a.tmps j=some b:=by
 simp only [yielded,ho,hd,Option.bind_some]
 cases ht : a.tmps[k]? with
 | none=>simp [sl,ht] at h; exact absurd h (undef_bool b)
 | some u=>simp [sl,ht] at h; subst h; rfl
theorem gr_yieldU {ops:Array Oper} {a:Act} {j k:Nat} {oj:Oper} (ho : ops[j]?=some oj) (hd : oj.dst=some k) (h : sl a k=undef) : yielded ops a.tmps j=none:=by
 simp only [yielded,ho,hd,Option.bind_some]
 cases ht : a.tmps[k]? with
 | none=>rfl
 | some u=>simp [sl,ht] at h; subst h; rfl
theorem gr_wanted {o:Oper} {y:Nat → Option Bool} {j:Nat} {b:Bool} (hg : o.guard=some (j,b)) (h : y j=some b):Region.wanted o y=true:=by simp [Region.wanted,hg,h]
theorem gr_unwanted {o:Oper} {y:Nat → Option Bool} {j:Nat} {b:Bool} {z:Option Bool} (hg : o.guard=some (j,b)) (h : y j=z) (hz:(z == some b)=false):Region.wanted o y=false:=by simp only [Region.wanted,hg,h]; exact hz
theorem rd_at {w:World} {size n b off:Nat} {A:Option Addr} {xs:List Value} (h:Rd w size A n xs) (hA:A=some ⟨b,off,none⟩) (hn : 0 < n) : ∀ j u,xs[j]?=some u → w.cell? ⟨b,off+j,none⟩=some u:=by
 obtain ⟨b',off',e,hc⟩:=h.2 hn
 rw [hA] at e
 injection e with e
 injection e with e1 e2
 subst e1; subst e2
 exact hc
end Go.Proofs.YtcmnjaccapbhfaaGreat
