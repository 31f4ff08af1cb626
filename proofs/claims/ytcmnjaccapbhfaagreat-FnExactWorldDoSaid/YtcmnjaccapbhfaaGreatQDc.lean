/- What the printed models and their walks share: partial results, guarded values, cuts, typed rows. -/
import Derived.Test.YtcmnjaccapbhfaaGreatQGt
import Derived.Laws.StructEq
namespace Go.Proofs.YtcmnjaccapbhfaaGreat
open Go.ChangeShapes Go.WideShapes Go.ChangeAt Go.RowKit
set_option linter.unusedVariables false
set_option linter.unusedSimpArgs false
def w64 (n:Int):Int:=IntKind.i64.wrap n
def wk (k:IntKind) (n:Int):Int:=k.wrap n
theorem w64_in {n:Int} (h1 : -9223372036854775808 ≤ n) (h2 : n ≤ 9223372036854775807) : w64 n=n:=wrap_in h1 h2
def FUEL:Nat:=4611686018427387904
def chk {α:Type} (b:Bool) (m:Option α):Option α:=bif b then m else none
def gb {α:Type} [Inhabited α] (g:Bool) (m:Option α):Option α:=bif g then m else some default
section
variable {α β:Type} {b g:Bool} {x y m:Option α} {r : α}
theorem bif_t (h : b=true) (hM:(bif b then x else y)=some r) : x=some r:=by subst h; exact hM
theorem bif_f (h : b=false) (hM:(bif b then x else y)=some r) : y=some r:=by subst h; exact hM
theorem bind_ex {f : β → Option α} {x:Option β} (h : x.bind f=some r) : ∃ v,x=some v∧f v=some r:=by
 cases x with
 | none=>cases h
 | some v=>exact ⟨v,rfl,h⟩
theorem chk_ex (h : chk b m=some r) : b=true∧m=some r:=by
 cases b with
 | false=>cases h
 | true=>exact ⟨rfl,h⟩
theorem gb_t [Inhabited α] (h : gb g m=some r) (hg : g=true) : m=some r:=by subst hg; exact h
theorem not_t (h : b=false):(!b)=true:=by subst h; rfl
theorem not_f (h : b=true):(!b)=false:=by subst h; rfl
theorem and_i (h : b=true) (k : g=true):(b && g)=true:=by subst h; subst k; rfl
theorem imp_t (h:(!b || g)=true) (hb : b=true) : g=true:=by subst hb; exact h
theorem elim_l {γ:Type} {f : β → Option α} {f' : γ → Option α} {z : β} (h:Sum.elim f f' (.inl z)=some r) : f z=some r:=h
theorem none_some (h : none=some r) {p:Prop} : p:=by cases h
end
@[simp] theorem chk_true {α:Type} (m:Option α) : chk true m=m:=rfl
@[simp] theorem chk_false {α:Type} (m:Option α) : chk false m=none:=rfl
@[simp] theorem gb_true {α:Type} [Inhabited α] (m:Option α) : gb true m=m:=rfl
@[simp] theorem gb_false {α:Type} [Inhabited α] (m:Option α) : gb false m=some default:=rfl
def ltB (a b:Int):Bool:=decide (a < b)
def leB (a b:Int):Bool:=decide (a ≤ b)
def ixB (i:Int) (n:Nat):Bool:=decide (0 ≤ i∧i < (n:Int))
def slB (lo hi:Int) (n:Nat):Bool:=decide (0 ≤ lo∧lo ≤ hi∧hi ≤ (n:Int))
def nzB (a:Int):Bool:=decide (a ≠ 0)
def nnB (a:Int):Bool:=decide (0 ≤ a)
def mkB (a:Int):Bool:=decide (0 ≤ a∧a ≤ 1099511627776)
def apB (a b:Nat):Bool:=decide (a+b ≤ 1099511627776)
theorem ixB_t {i:Int} {n:Nat} (h : ixB i n=true) : 0 ≤ i∧i < (n:Int):=of_decide_eq_true h
theorem slB_t {lo hi:Int} {n:Nat} (h : slB lo hi n=true) : 0 ≤ lo∧lo ≤ hi∧hi ≤ (n:Int):=of_decide_eq_true h
theorem mkB_t {a:Int} (h : mkB a=true) : 0 ≤ a∧a ≤ 1099511627776:=of_decide_eq_true h
theorem apB_t {a b:Nat} (h : apB a b=true) : a+b ≤ 1099511627776:=of_decide_eq_true h
def gv (g:Bool) (v:Value):Value:=bif g then v else undef
theorem gv_t {g:Bool} {v:Value} (h : g=true) : gv g v=v:=by subst h; rfl
section
variable {P:Program} {ops:Array Oper} {Q:Exit → Act → World → Prop} {rest:List Oper} {o:Oper} {a:Act} {w w0:World} {n d:Nat} {l:List (Nat×Value)} {v:Value} {L:List Asn} {j k:Nat} {b g eg:Bool} {oj:Oper}
theorem yt (h : yielded ops a.tmps j=some b):(yielded ops a.tmps j == some true)=b:=by rw [h]; cases b <;> rfl
theorem yf (h : yielded ops a.tmps j=some b):(yielded ops a.tmps j == some false)=!b:=by rw [h]; cases b <;> rfl
theorem gw_yieldG (hF:Fr a n l) (ho : ops[j]?=some oj) (hd : oj.dst=some k) (hk : look l k=some (gv g (.bool b))) : yielded ops a.tmps j=bif g then some b else none:=by
 cases g with
 | false=>exact gw_yieldU hF ho hd hk
 | true=>exact gw_yield hF ho hd hk
theorem ytG (h : yielded ops a.tmps j=bif g then some b else none):(yielded ops a.tmps j == some true)=(g && b):=by rw [h]; cases g <;> cases b <;> rfl
theorem yfG (h : yielded ops a.tmps j=bif g then some b else none):(yielded ops a.tmps j == some false)=(g && !b):=by rw [h]; cases g <;> cases b <;> rfl
theorem op_gv (hg : o.guard=some (j,b)) (hd : o.dst=some d) (hF:Fr a n l) (hdn:Nat.blt d n=true) (hy:(yielded ops a.tmps j == some b)=eg) (hr : eg=true → (execOp a.eval o).run P w=.ok (.value v) w)
  (h : ∀ a,Fr a n ((d,gv eg v) :: l) → wpList P ops Q rest a w) : wpList P ops Q (o :: rest) a w:=by
 cases eg with
 | false =>
  refine wpList_skip ?_ (by rw [hd]; exact h _ (hF.put hdn _))
  simp only [Region.wanted,hg]; exact hy
 | true =>
  have hw:Region.wanted o (yielded ops a.tmps)=true:=by simp only [Region.wanted,hg]; exact hy
  have h1 : wpList P ops Q ({ o with guard:=none } :: rest) a w:=op_val (o:={ o with guard:=none }) rfl hd hF hdn (hr rfl) h
  have hw':Region.wanted { o with guard:=none } (yielded ops a.tmps)=true:=by simp [Region.wanted]
  simp only [wpList,hw,hw',if_true] at h1 ⊢
  exact h1
theorem op_gcall {f:FuncId} {args:Array Value} (hg : o.guard=some (j,b)) (hd : o.dst=some d) (hF:Fr a n l) (hdn:Nat.blt d n=true) (S:St w0 w L) (hy:(yielded ops a.tmps j == some b)=eg)
  (hr : eg=true → (execOp a.eval o).run P w=.ok (.enter f args) w) (hc : eg=true → Calls P f args w fun e w'=>e=.returned v∧St w w' [])
  (h : ∀ a w',Fr a n ((d,gv eg v) :: l) → St w0 w' L → wpList P ops Q rest a w') : wpList P ops Q (o :: rest) a w:=by
 cases eg with
 | false =>
  refine wpList_skip ?_ (by rw [hd]; exact h _ _ (hF.put hdn _) S)
  simp only [Region.wanted,hg]; exact hy
 | true =>
  have hw:Region.wanted o (yielded ops a.tmps)=true:=by simp only [Region.wanted,hg]; exact hy
  have h1 : wpList P ops Q ({ o with guard:=none } :: rest) a w:=op_call (o:={ o with guard:=none }) rfl hd hF hdn (hr rfl) (hc rfl) (by
   rintro e w' ⟨rfl,T⟩
   exact ⟨_,rfl,fun a hF=>h a w' hF (S.call T)⟩)
  have hw':Region.wanted { o with guard:=none } (yielded ops a.tmps)=true:=by simp [Region.wanted]
  simp only [wpList,hw,hw',if_true] at h1 ⊢
  exact h1
variable {ρ:Operand → Value} {c x y:Operand} {p q:Bool}
theorem run_pick_or (ho : o.op=.pick c x y) (hc : ρ c=.bool p) (hx : ρ x=.bool true) (hy : p=false → ρ y=.bool q):(execOp ρ o).run P w=.ok (.value (.bool (p || q))) w:=by
 cases p with
 | true=>simp [execOp,ho,hx,hc,asBool]
 | false=>simp [execOp,ho,hy rfl,hc,asBool]
theorem run_pick_and (ho : o.op=.pick c x y) (hc : ρ c=.bool p) (hx : p=true → ρ x=.bool q) (hy : ρ y=.bool false):(execOp ρ o).run P w=.ok (.value (.bool (p && q))) w:=by
 cases p with
 | true=>simp [execOp,ho,hx rfl,hc,asBool]
 | false=>simp [execOp,ho,hy,hc,asBool]
end
theorem wp_cut {P:Program} {c:Code} {Q:Exit → Act → World → Prop} {a:Act} {w:World} (I:Act → World → Prop) (h : c.wp P (Exit.then I Q) a w) (hI : ∀ a w,I a w → Q .normal a w) : c.wp P Q a w :=
 wp_mono h fun e a w hq=>by
  cases e with
  | normal=>exact hI a w hq
  | _=>exact hq
theorem St.call0 {w0 w w':World} {L:List Asn} (S:St w0 w L) (T:St w w' []):St w0 w' L:=S.call T
theorem St.call1 {w0 w w':World} {L:List Asn} {x:Asn} (S:St w0 w L) (T:St w w' [x]) (hx : x.lo=0:=by rfl):St w0 w' (x :: L):=S.call T (by simp [hx])
theorem St.call3 {w0 w w':World} {L:List Asn} {x y z:Asn} (S:St w0 w L) (T:St w w' [x,y,z]) (hx : x.lo=0:=by rfl) (hy : y.lo=0:=by rfl) (hz : z.lo=0:=by rfl):St w0 w' (x :: y :: z :: L):=S.call T (by simp [hx,hy,hz])
def adB:Option Addr → Nat | some a=>a.block | none=>0
def adO:Option Addr → Nat | some a=>a.off | none=>0
theorem Rd.ad {w:World} {size n:Nat} {A:Option Addr} {xs:List Value} (h:Rd w size A n xs) (hn : 0 < n):A=some ⟨adB A,adO A,none⟩:=by
 obtain ⟨b,off,rfl,_⟩:=h.2 hn; rfl
theorem ix_pos {i:Int} {n:Nat} (h : 0 ≤ i∧i < (n:Int)) : 0 < n:=by omega
theorem ix_ltn {α:Type} {l:List α} {i:Int} {n:Nat} (h : 0 ≤ i∧i < (n:Int)) (hn : n=l.length) : i.toNat < l.length:=by omega
theorem len_set {α:Type} {l:List α} {n:Nat} (hn : n=l.length) {k:Nat} {y : α} : n=(l.set k y).length:=by rw [hn,List.length_set]
theorem rd_el {w:World} {α:Type} {e : α → List Value} {size k j n:Nat} {A:Option Addr} {l:List α} {u:Value} (h:Rd w size A n (l.flatMap e)) (hn : n=l.length) (he : ∀ x,(e x).length=size) (d : α) (hk : k < l.length) (hu:(e (l.getD k d))[j]?=some u) :
  w.cell? ⟨adB A,adO A+k * size+j,none⟩=some u:=by
 have:=rd_at h (h.ad (by omega)) (by omega) _ _ (flat_get he d hk hu)
 rwa [← Nat.add_assoc] at this
theorem rd_el0 {w:World} {α:Type} {e : α → List Value} {size k n:Nat} {A:Option Addr} {l:List α} {u:Value} (h:Rd w size A n (l.flatMap e)) (hn : n=l.length) (he : ∀ x,(e x).length=size) (d : α) (hk : k < l.length) (hu:(e (l.getD k d))[0]?=some u) :
  w.cell? ⟨adB A,adO A+k * size,none⟩=some u:=rd_el h hn he d hk hu
theorem rd_elN {w:World} {α:Type} {e : α → List Value} {size k n:Nat} {A:Option Addr} {l:List α} {cs:Array Value} (h:Rd w size A n (l.flatMap e)) (hn : n=l.length) (he : ∀ x,(e x).length=size) (d : α) (hk : k < l.length) (hu : e (l.getD k d)=cs.toList) :
  ∀ j u,cs.toList[j]?=some u → w.cell? ⟨adB A,adO A+k * size+j,none⟩=some u:=fun j u hj=>rd_el h hn he d hk (by rw [hu]; exact hj)
def eI (x:Int):List Value:=[.int .i64 x]
def eB (x:Bool):List Value:=[.bool x]
theorem eI_len (x:Int):(eI x).length=1:=rfl
theorem eB_len (x:Bool):(eB x).length=1:=rfl
theorem eI_one (x:Int) : ∀ u ∈ eI x,u.oneCell'=true:=by simp [eI]; rfl
theorem eB_one (x:Bool) : ∀ u ∈ eB x,u.oneCell'=true:=by simp [eB]; rfl
theorem one_flat {α:Type} {e : α → List Value} (h : ∀ x,∀ u ∈ e x,u.oneCell'=true) (l:List α) : ∀ u ∈ l.flatMap e,u.oneCell'=true:=by
 intro u hu; obtain ⟨x,_,hx⟩:=List.mem_flatMap.1 hu; exact h x u hx
theorem flat_len {α:Type} {e : α → List Value} {size:Nat} (he : ∀ x,(e x).length=size) : ∀ l:List α,(l.flatMap e).length=l.length * size
 | []=>by simp
 | x :: l=>by rw [List.flatMap_cons,List.length_append,he,flat_len he l,List.length_cons,Nat.add_mul,Nat.one_mul,Nat.add_comm]
section
variable {P:Program} {ops:Array Oper} {Q:Exit → Act → World → Prop} {rest:List Oper} {o:Oper} {a:Act} {w w0:World} {n d:Nat} {l:List (Nat×Value)} {v:Value} {L:List Asn} {α:Type} {e : α → List Value} {lx ly:List α}
theorem app_small {n m b:Nat} (h : n+m ≤ 1099511627776) (hb : b ≤ 128) : n+m ≤ maxLen∧(n+m) * b ≤ 140737488355328:=by
 refine ⟨by unfold maxLen; omega,?_⟩
 exact Nat.le_trans (Nat.mul_le_mul h hb) (by decide)
theorem St.appendL {i:Nat} {t ty E:TypeId} {z:Value} {size bytes c c' n' m':Nat} {A A':Option Addr} (S:St w0 w L) (hi:L[i]?=some (.row E size (.slice A n' c) n' (lx.flatMap e))) (hn' : n'=lx.length) (ht:P.underlying t=some (.slice E))
  (hinfo:(P.info? E).map (fun i=>(i.zero,i.size,i.bytes))=some (some z,size,bytes)) (hzs : z.cells.size=size) (hsz : 0 < size) (hr:Rd w size A' m' (ly.flatMap e)) (hm' : m'=ly.length) (h1 : ∀ x,∀ u ∈ e x,u.oneCell'=true)
  (hn : lx.length+ly.length ≤ 1099511627776) (hb : bytes ≤ 128) :
  ∃ B d w',(Builtin.append_ #[t,t] ty #[.slice A n' c,.slice A' m' c']).run P w=.ok (.slice B (lx++ly).length d) w'∧St w0 w' (L.set i (.row E size (.slice B (lx++ly).length d) (lx++ly).length ((lx++ly).flatMap e))):=by
 subst hn'
 subst hm'
 have hs:=app_small hn hb
 have:=S.append (P:=P) (ty:=ty) (c:=c') hi ht hinfo hzs hsz hr (one_flat h1 ly) hs.1 hs.2
 rw [← List.length_append,← List.flatMap_append] at this
 exact this
theorem op_appendL {x y:Operand} {i:Nat} {t E:TypeId} {z:Value} {size bytes c c' n' m':Nat} {A A':Option Addr} (hg : o.guard=none) (hd : o.dst=some d) (hF:Fr a n l) (hdn:Nat.blt d n=true) (S:St w0 w L)
  (ho : o.op=.call { callee:=.builtin .append,args:=#[x,y],argTypes:=#[t,t] }) (hx : a.eval x=.slice A n' c) (hy : a.eval y=.slice A' m' c') (hi:L[i]?=some (.row E size (.slice A n' c) n' (lx.flatMap e))) (hn' : n'=lx.length) (ht:P.underlying t=some (.slice E))
  (hinfo:(P.info? E).map (fun i=>(i.zero,i.size,i.bytes))=some (some z,size,bytes)) (hzs : z.cells.size=size) (hsz : 0 < size) (hr:Rd w size A' m' (ly.flatMap e)) (hm' : m'=ly.length) (h1 : ∀ x,∀ u ∈ e x,u.oneCell'=true)
  (hn : lx.length+ly.length ≤ 1099511627776) (hb : bytes ≤ 128)
  (h : ∀ a B cp w',Fr a n ((d,.slice B (lx++ly).length cp) :: l) → St w0 w' (L.set i (.row E size (.slice B (lx++ly).length cp) (lx++ly).length ((lx++ly).flatMap e))) → wpList P ops Q rest a w') : wpList P ops Q (o :: rest) a w:=by
 obtain ⟨B,cp,w',hrun,S'⟩:=S.appendL (ty:=o.type) (c':=c') hi hn' ht hinfo hzs hsz hr hm' h1 hn hb
 refine wpList_plain hg fun K hK=>?_
 unfold Oper.wp
 rw [run_append ho hx hy hrun]
 exact hK _ _ (by rw [hd]; exact h _ _ _ _ (hF.put hdn _) S')
end
structure Rc (w:World) (size:Nat) (A:Option Addr) (n c:Nat) (xs:List Value):Prop where
 rd:Rd w size A n xs
 cap : n ≤ c
theorem Rc.nil {w:World} {size:Nat} {A:Option Addr} {c:Nat}:Rc w size A 0 c []:=⟨Rd.nil,Nat.zero_le _⟩
theorem own_rc {w:World} {t:TypeId} {size n c:Nat} {A:Option Addr} {xs:List Value} (h:Ow w t size (.slice A n c) n xs):Rc w size A n c xs:=⟨h.rd,h.cap⟩
theorem St.rc {w0 w:World} {L:List Asn} {t:TypeId} {size n c:Nat} {A:Option Addr} {xs:List Value} (S:St w0 w L) (i:Nat) (hi:L[i]?=some (.row t size (.slice A n c) n xs)):Rc w size A n c xs:=own_rc (S.own i hi)
theorem St.rc0 {w0 w:World} {L:List Asn} {size n c:Nat} {A:Option Addr} {xs:List Value} (S:St w0 w L) (h:Rc w0 size A n c xs):Rc w size A n c xs:=⟨S.rd0 h.rd,h.cap⟩
theorem gr_rc {w0 w:World} {T X Lr:List Asn} {t:TypeId} {size n c:Nat} {A:Option Addr} {xs:List Value} (S:St w0 w (T++X)) (hl : ∀ x ∈ Lr,x ∈ X) (i:Nat) (hi:Lr[i]?=some (.row t size (.slice A n c) n xs)):Rc w size A n c xs:=own_rc (show Ow w t size (.slice A n c) n xs from gr_thing S hl i hi)
def subA (c lo size:Nat) (A:Option Addr):Option Addr:=if c=lo then A else A.map (·.add (lo * size))
def subL {α:Type} (l:List α) (lo hi:Int):List α:=(l.drop lo.toNat).take (hi.toNat - lo.toNat)
theorem subL_len {α:Type} {l:List α} {lo hi:Int} (h : 0 ≤ lo∧lo ≤ hi∧hi ≤ (l.length:Int)):(subL l lo hi).length=hi.toNat - lo.toNat:=by
 simp only [subL,List.length_take,List.length_drop]; omega
theorem subL_flat {α:Type} {e : α → List Value} {size:Nat} (he : ∀ x,(e x).length=size) (l:List α) (p q:Nat):((l.drop p).take q).flatMap e=((l.flatMap e).drop (p * size)).take (q * size):=by
 have hd : ∀ (p:Nat) (l:List α),(l.drop p).flatMap e=(l.flatMap e).drop (p * size):=by
  intro p
  induction p with
  | zero=>intro l; simp
  | succ p ih =>
   intro l
   cases l with
   | nil=>simp
   | cons x l =>
    rw [List.drop_succ_cons,ih,List.flatMap_cons,show (p+1) * size=(e x).length+p * size from by rw [he,Nat.add_mul]; omega,List.drop_append]
    simp
 have ht : ∀ (q:Nat) (l:List α),(l.take q).flatMap e=(l.flatMap e).take (q * size):=by
  intro q
  induction q with
  | zero=>intro l; simp
  | succ q ih =>
   intro l
   cases l with
   | nil=>simp
   | cons x l =>
    rw [List.take_succ_cons,List.flatMap_cons,ih,List.flatMap_cons,show (q+1) * size=(e x).length+q * size from by rw [he,Nat.add_mul]; omega,List.take_append,List.take_of_length_le (Nat.le_add_right _ _)]
    simp
 rw [ht,hd]
theorem rc_sub {w:World} {α:Type} {e : α → List Value} {size c n:Nat} {A:Option Addr} {l:List α} {lo hi:Int} (he : ∀ x,(e x).length=size) (h : 0 ≤ lo∧lo ≤ hi∧hi ≤ (n:Int)) (hn : n=l.length) (R:Rc w size A n c (l.flatMap e)) :
  Rc w size (subA c lo.toNat size A) (subL l lo hi).length (c - lo.toNat) ((subL l lo hi).flatMap e):=by
 subst hn
 have hl:=subL_len h
 have hcap:=R.cap
 refine ⟨⟨flat_len he _,fun hn=>?_⟩,by omega⟩
 obtain ⟨b,off,rfl,hc⟩:=R.rd.2 (by omega)
 refine ⟨b,off+lo.toNat * size,?_,fun j u hu=>?_⟩
 ·have hne : ¬ c=lo.toNat:=by omega
  simp only [subA,if_neg hne,Option.map_some]
  unfold Addr.add
  split <;> simp_all
 ·rw [Nat.add_assoc]
  refine hc _ u ?_
  simp only [subL] at hu
  rw [subL_flat he,List.getElem?_take] at hu
  split at hu
  ·simpa using hu
  ·cases hu
section
variable {P:Program} {ρ:Operand → Value} {o:Oper} {w:World} {x:Operand} {t E:TypeId} {A:Option Addr} {n c size:Nat} {α:Type} {l:List α}
theorem elem_of (ht:P.underlying t=some (.slice E)):P.elem t=E:=by simp [Program.elem,ht]
end
def spl {α:Type} (xs:List α) (p:Nat) (vs:List α):List α:=xs.take p++vs++xs.drop (p+vs.length)
theorem flat_spl {α:Type} {e : α → List Value} {size:Nat} (he : ∀ x,(e x).length=size) {off:Nat} {vs:List Value} (hv : off+vs.length ≤ size) (d : α) : ∀ (l:List α) (k:Nat) (y : α),k < l.length → e y=spl (e (l.getD k d)) off vs → spl (l.flatMap e) (k * size+off) vs=(l.set k y).flatMap e
 | [],k,y,hk,_=>by simp at hk
 | x :: l,0,y,_,hy=>by
  simp only [List.getD_cons_zero] at hy
  rw [List.set_cons_zero,List.flatMap_cons,List.flatMap_cons,hy]
  have hx:=he x
  simp only [spl,Nat.zero_mul,Nat.zero_add]
  rw [List.take_append_of_le_length (by omega),List.drop_append_of_le_length (by omega)]
  simp
 | x :: l,k+1,y,hk,hy=>by
  have ih:=flat_spl he hv d l k y (by simpa using hk) (by simpa using hy)
  rw [List.set_cons_succ,List.flatMap_cons,List.flatMap_cons,← ih]
  have hx:=he x
  simp only [spl]
  rw [show (k+1) * size+off=(e x).length+(k * size+off) from by rw [hx,Nat.add_mul]; omega,List.take_append,List.drop_append]
  simp [List.take_of_length_le,Nat.add_assoc]
theorem row_blockN {w0 w:World} {L:List Asn} {t:TypeId} {A:Option Addr} {n c i size b off:Nat} {xs:List Value} (S:St w0 w L) (hi:L[i]?=some (.row t size (.slice A n c) n xs)) (hA:A=some ⟨b,off,none⟩) :
  ∃ cur:Array Value,Bk w b t cur∧(cur.toList.drop off).take (n * size)=xs∧n ≤ c∧c ≤ maxLen∧off+c * size ≤ cur.size:=by
 have h:=S.own i hi
 rcases h.2 with ⟨h1,_⟩ | ⟨g,off',cap,cur,hv,hg,h1,h2,h3,h4⟩
 ·injection h1 with h1 _ _
  rw [hA] at h1; cases h1
 ·injection hv with hv _ hc
  rw [hA] at hv
  injection hv with hv
  injection hv with e1 e2
  subst e1; subst e2; subst hc
  exact ⟨cur,hg,h4,h1,h2,h3⟩
theorem drop_spl {α:Type} (xs:List α) (f p:Nat) (vs:List α) (h : f+p+vs.length ≤ xs.length):(spl xs (f+p) vs).drop f=spl (xs.drop f) p vs:=by
 simp only [spl]
 rw [List.append_assoc,List.drop_append,List.drop_take,show f+p - f=p by omega,show f - (xs.take (f+p)).length=0 by simp; omega,List.drop_zero,List.append_assoc,List.drop_drop,Nat.add_assoc f p]
theorem take_spl {α:Type} (xs:List α) (p q:Nat) (vs:List α) (h : p+vs.length ≤ q) (hq : q ≤ xs.length):(spl xs p vs).take q=spl (xs.take q) p vs:=by
 simp only [spl]
 rw [List.take_take,Nat.min_eq_left (by omega),List.take_append,List.take_of_length_le (by simp; omega),List.length_append,List.length_take,Nat.min_eq_left (by omega),List.drop_take]
theorem run_storeElN {P:Program} {ρ:Operand → Value} {w0 w:World} {L:List Asn} {t:TypeId} {A:Option Addr} {c i size k off m n:Nat} {α:Type} {e : α → List Value} {l:List α} {v:Value} {vs:Array Value} {y0 : α} (S:St w0 w L) (T:TypeId) (x y:Operand) (hT:(P.info? T).map (·.size)=some m)
  (hx : ρ x=.pointer (some ⟨adB A,adO A+k * size+off,none⟩)) (hy : ρ y=v) (hv : v.cells=vs) (hm : vs.size=m) (h1 : vs.toList.all (·.oneCell')=true)
  (hi:L[i]?=some (.row t size (.slice A n c) n (l.flatMap e))) (hn : n=l.length) (he : ∀ x,(e x).length=size) (d : α) (hk : k < l.length) (hoff:Nat.ble (off+m) size=true) (hel : e y0=spl (e (l.getD k d)) off vs.toList) :
  ∃ w',(∀ o:Oper,o.op=.store T x y → (execOp ρ o).run P w=.ok .skip w')∧St w0 w' (L.set i (.row t size (.slice A n c) n ((l.set k y0).flatMap e))):=by
 subst hn
 have hA:=(S.rc i hi).rd.ad (by omega)
 obtain ⟨cur,hb,h3,h4,h5,h6⟩:=row_blockN S hi hA
 have hle : off+m ≤ size:=by simpa using hoff
 have hks : k * size+size ≤ l.length * size:=by rw [← Nat.succ_mul]; exact Nat.mul_le_mul_right _ hk
 have hls : l.length * size ≤ c * size:=Nat.mul_le_mul_right _ h4
 have hr:=fun (o:Oper) (ho : o.op=.store T x y)=>run_store (P:=P) (ρ:=ρ) (w:=w) (cs':=putAt cur (adO A+(k * size+off)) vs.toList) ho hT (by rw [hx,Nat.add_assoc]) hy hv hm h1 hb (by simp; omega) rfl
 refine ⟨_,hr,S.turn1 hi (Grown.setRow w _ _) (fun g hg=>?_) ?_ (fun g hg=>.inl ?_)⟩
 ·rw [hA]; simp only [Asn.foot,Value.ownBlock]; simpa using hg
 ·have hvl : vs.toList.length=m:=by simpa using hm
  have hsp:(putAt cur (adO A+(k * size+off)) vs.toList).toList=spl cur.toList (adO A+(k * size+off)) vs.toList:=by simp [putAt,spl]
  have hlen:(spl cur.toList (adO A+(k * size+off)) vs.toList).length=cur.size:=by simp [spl]; omega
  refine ⟨by rw [flat_len he,List.length_set],.inr ⟨adB A,adO A,c,putAt cur (adO A+(k * size+off)) vs.toList,?_,setRow_heap w _ cur _ t (0,0) hb,h4,h5,?_,?_⟩⟩
  ·exact congrArg (fun A=>Value.slice A l.length c) hA
  ·rw [← Array.length_toList,hsp,hlen]; exact h6
  ·rw [hsp,drop_spl _ _ _ _ (by simp; omega),take_spl _ _ _ _ (by omega) (by simp; omega),h3]
   exact flat_spl he (by omega) d l k y0 hk hel
 ·rw [hA] at hg ⊢; simpa [Asn.foot,Value.ownBlock] using hg
theorem made_flat {α:Type} {e : α → List Value} {size:Nat} (he : ∀ x,(e x).length=size) {z : α} {zs:Array Value} (hz : e z=zs.toList) (n:Nat):(madeCells zs (n * size)).toList=(List.replicate n z).flatMap e:=by
 have hs : zs.size=size:=by rw [← he z,hz]; simp
 refine List.ext_getElem? fun j=>?_
 simp only [madeCells,Array.toList_map,Array.toList_range,List.getElem?_map]
 by_cases hj : j < n * size
 ·have hsz : 0 < size:=(Nat.eq_zero_or_pos size).elim (fun h=>by subst h; simp at hj) id
  have hq : j / size < n:=(Nat.div_lt_iff_lt_mul hsz).2 hj
  have hm : j % size < size:=Nat.mod_lt _ hsz
  have h1:(e ((List.replicate n z).getD (j / size) z))[j % size]?=some zs[j % size]!:=by
   rw [show (List.replicate n z).getD (j / size) z=z by simp [List.getD,List.getElem?_replicate,hq],hz]
   have : j % size < zs.size:=by omega
   simp [this]
  have h2:=flat_get he z (l:=List.replicate n z) (k:=j / size) (by simpa using hq) h1
  rw [show j / size * size+j % size=j by rw [Nat.mul_comm]; exact Nat.div_add_mod j size] at h2
  rw [h2,hs]
  simp [hj]
 ·have hlen:((List.replicate n z).flatMap e).length=n * size:=by rw [flat_len he]; simp
  rw [List.getElem?_eq_none (by simp; omega),List.getElem?_eq_none (by omega)]; rfl
theorem run_makeL {P:Program} {ρ:Operand → Value} {w:World} {t E:TypeId} {x y:Operand} {o:Oper} {z:Value} {size bytes:Nat} {n:Int} {α:Type} {e : α → List Value} {z0 : α} (ho : o.op=.makeSlice t x y) (hx : ρ x=.int .i64 n) (hy : ρ y=.int .i64 n) (ht:P.underlying t=some (.slice E))
  (hinfo:(P.info? E).map (fun i=>(i.zero,i.size,i.bytes))=some (some z,size,bytes)) (he : ∀ x,(e x).length=size) (hz0 : e z0=z.cells.toList) (hb : bytes ≤ 128) (hn : 0 ≤ n∧n ≤ 1099511627776) :
  (execOp ρ o).run P w=.ok (.value (.slice (some ⟨w.heap.size,0,none⟩) n.toNat n.toNat)) (w.alloc (.cells ((List.replicate n.toNat z0).flatMap e).toArray E)):=by
 obtain ⟨i,h2,h3,h4,h5⟩:=info_parts hinfo
 have hbn:(bytes:Int) * n ≤ 128 * 1099511627776:=Int.mul_le_mul (by omega) hn.2 hn.1 (by decide)
 have:=run_make (P:=P) w t E i z ht h2 h3 .i64 .i64 n n hn.1 (Int.le_refl _) (by rw [h5]; omega) (by omega)
 have hm:=made_flat he hz0 n.toNat
 simp only [execOp,ho,hx,hy,Sem.run_bind,this,Result.andThen_ok,Sem.run_pure,h4]
 rw [← hm]
theorem St.newrowL {w w0:World} {L:List Asn} {α:Type} {e : α → List Value} {ls:List α} {E:TypeId} {size m:Nat} (S:St w0 w L) (hm : ls.length=m) (he : ∀ x,(e x).length=size) (hn : ls.length ≤ 1099511627776) :
  St w0 (w.alloc (.cells (ls.flatMap e).toArray E)) (.row E size (.slice (some ⟨w.heap.size,0,none⟩) m m) m (ls.flatMap e) :: L):=by
 subst hm
 have:=S.newrow E size ls.length (ls.flatMap e).toArray (by simp [flat_len he]) (by unfold maxLen; omega)
 simpa using this
theorem op_newrowL {P:Program} {ops:Array Oper} {Q:Exit → Act → World → Prop} {rest:List Oper} {o:Oper} {a:Act} {w w0:World} {n d:Nat} {l:List (Nat×Value)} {L:List Asn} {α:Type} {e : α → List Value} {ls:List α} {E:TypeId} {size m:Nat} (hg : o.guard=none) (hd : o.dst=some d) (hF:Fr a n l) (hdn:Nat.blt d n=true) (S:St w0 w L)
  (hr:(execOp a.eval o).run P w=.ok (.value (.slice (some ⟨w.heap.size,0,none⟩) m m)) (w.alloc (.cells (ls.flatMap e).toArray E))) (hm : ls.length=m) (he : ∀ x,(e x).length=size) (hn : ls.length ≤ 1099511627776)
  (h : ∀ a g w',Fr a n ((d,.slice (some ⟨g,0,none⟩) m m) :: l) → St w0 w' (.row E size (.slice (some ⟨g,0,none⟩) m m) m (ls.flatMap e) :: L) → wpList P ops Q rest a w') : wpList P ops Q (o :: rest) a w:=by
 subst hm
 exact op_newrow (size:=size) hg hd hF hdn S hr (by simp [flat_len he]) (by unfold maxLen; omega) (fun a g w' hF S=>h a g w' hF (by simpa using S))
theorem run_buildS {P:Program} {ρ:Operand → Value} {o:Oper} {w w':World} {T:TypeId} {n:Nat} {ps:List (Nat×Operand)} {vs:List (Nat×Value)} {v:Value} (ho : o.op=.buildSlice T n ps.toArray) (hv:PEvs ρ ps vs) (hb:(Instr.buildSlice T n vs.toArray).run P w=.ok v w'):(execOp ρ o).run P w=.ok (.value v) w':=by
 have : ps.toArray.map (fun x=>(x.1,ρ x.2))=vs.toArray:=by rw [List.map_toArray,pevs_map hv]
 simp only [execOp,ho]
 have e:(ps.toArray.map fun (i,x)=>(i,ρ x))=vs.toArray:=this
 rw [e]
 simp [hb]
structure Rt (w:World) (size:Nat) {α:Type} (e : α → List Value) (A:Option Addr) (n c:Nat) (l:List α):Prop where
 rc:Rc w size A n c (l.flatMap e)
 len : n=l.length
theorem Rt.nil {w:World} {size:Nat} {α:Type} {e : α → List Value}:Rt w size e none 0 0 []:=⟨Rc.nil,rfl⟩
section
variable {P:Program} {ρ:Operand → Value} {o:Oper} {w:World} {x y:Operand} {T U E:TypeId} {k ky:IntKind} {p q:Int}
def bitsShr (k:IntKind) (x y:Int):Int:=x.fdiv (2 ^ (min y.toNat k.bits))
section
variable (hx : ρ x=.int k p) (hy : ρ y=.int k q)
include hx hy
end
theorem run_shr (hx : ρ x=.int k p) (hy : ρ y=.int ky q) (ho : o.op=.binOp .shr T x y U) (hq : 0 ≤ q):(execOp ρ o).run P w=.ok (.value (.int k (bitsShr k p q))) w:=by
 have : ¬ q < 0:=by omega
 simp [execOp,ho,hx,hy,eqGuard,binOp,Op.shift,bitsShr,this]
end
section
variable {P:Program} {ρ:Operand → Value} {o:Oper} {w:World} {x:Operand} {t E:TypeId} {A:Option Addr} {n c size:Nat} {α:Type} {l:List α}
theorem run_sliceH {kh:IntKind} {hi:Int} {yh:Operand} (ho : o.op=.slice t x none (some yh) none) (ht:P.underlying t=some (.slice E)) (hE:(P.info? E).map (·.size)=some size) (hx : ρ x=.slice A n c) (hh : ρ yh=.int kh hi)
  (h : 0 ≤ (0:Int)∧0 ≤ hi∧hi ≤ (n:Int)) (hn : n=l.length) (hc : n ≤ c):(execOp ρ o).run P w=.ok (.value (.slice (subA c (0:Int).toNat size A) (subL l 0 hi).length (c - (0:Int).toNat))) w:=by
 subst hn
 have ht':P.underlying t=some (.slice (P.elem t)):=by rw [elem_of ht]; exact ht
 obtain ⟨j,hj,hz⟩:=Option.map_eq_some_iff.1 hE
 have h1:=run_slice_h (P:=P) w t A l.length c ht' kh hi h.2.1 (by omega)
 simp only [execOp,ho,Option.map_some,Option.map_none,hx,hh,Sem.run_bind,run_sliceAt_slice w t _ _ _ _ ht',h1,sizeOf,typeInfo,elem_of ht,hj,hz,Sem.run_pure,Result.andThen_ok,sliced,subL_len h]
 simp [sizeOf,typeInfo,hj,hz,sliced,subA]
theorem run_slicefrom {kl:IntKind} {lo:Int} {yl:Operand} (ho : o.op=.slice t x (some yl) none none) (ht:P.underlying t=some (.slice E)) (hE:(P.info? E).map (·.size)=some size) (hx : ρ x=.slice A n c) (hl : ρ yl=.int kl lo)
  (h : 0 ≤ lo∧lo ≤ (n:Int)∧(n:Int) ≤ (n:Int)) (hn : n=l.length) (hc : n ≤ c):(execOp ρ o).run P w=.ok (.value (.slice (subA c lo.toNat size A) (subL l lo (n:Int)).length (c - lo.toNat))) w:=by
 subst hn
 have ht':P.underlying t=some (.slice (P.elem t)):=by rw [elem_of ht]; exact ht
 obtain ⟨j,hj,hz⟩:=Option.map_eq_some_iff.1 hE
 have h1:=run_slice_l (P:=P) w t A l.length c ht' kl lo h.1 h.2.1
 simp only [execOp,ho,Option.map_some,Option.map_none,hx,hl,Sem.run_bind,run_sliceAt_slice w t _ _ _ _ ht',h1,sizeOf,typeInfo,elem_of ht,hj,hz,Sem.run_pure,Result.andThen_ok,sliced,subL_len h]
 simp [sizeOf,typeInfo,hj,hz,sliced,subA]
end
theorem nil_none {w:World} {size n:Nat} {α:Type} {e : α → List Value} {A:Option Addr} {l:List α} (h:Rd w size A n (l.flatMap e)) (hn : n=l.length) (hA:A.isNone=true) : l=[]:=by
 rcases l with _ | ⟨x,l⟩
 ·rfl
 ·obtain ⟨b,off,rfl,_⟩:=h.2 (by rw [hn]; simp)
  cases hA
theorem getD_set {α:Type} {l:List α} {k:Nat} {y d : α} (hk : k < l.length):(l.set k y).getD k d=y:=by simp [List.getD,hk]
theorem run_storeEl2 {P:Program} {ρ:Operand → Value} {w0 w:World} {L:List Asn} {t:TypeId} {A:Option Addr} {c i size k off m n:Nat} {α:Type} {e : α → List Value} {l:List α} {v:Value} {vs:Array Value} {y0 y1 : α} (S:St w0 w L) (T:TypeId) (x y:Operand) (hT:(P.info? T).map (·.size)=some m)
  (hx : ρ x=.pointer (some ⟨adB A,adO A+k * size+off,none⟩)) (hy : ρ y=v) (hv : v.cells=vs) (hm : vs.size=m) (h1 : vs.toList.all (·.oneCell')=true)
  (hi:L[i]?=some (.row t size (.slice A n c) n ((l.set k y0).flatMap e))) (hn : n=l.length) (he : ∀ x,(e x).length=size) (hk : k < l.length) (hoff:Nat.ble (off+m) size=true) (hel : e y1=spl (e y0) off vs.toList) :
  ∃ w',(∀ o:Oper,o.op=.store T x y → (execOp ρ o).run P w=.ok .skip w')∧St w0 w' (L.set i (.row t size (.slice A n c) n ((l.set k y1).flatMap e))):=by
 have:=run_storeElN (P:=P) (y0:=y1) S T x y hT hx hy hv hm h1 hi (len_set hn) he y0 (by simpa using hk) hoff (by rw [getD_set hk]; exact hel)
 rwa [List.set_set] at this
def inR (n:Int):Prop:=-9223372036854775808 ≤ n∧n ≤ 9223372036854775807
theorem gv_f {g:Bool} {v:Value} (h : g=false) : gv g v=undef:=by subst h; rfl
theorem gr_yieldG {ops:Array Oper} {a:Act} {j k:Nat} {oj:Oper} {b g:Bool} (ho : ops[j]?=some oj) (hd : oj.dst=some k) (h : sl a k=gv g (.bool b)) : yielded ops a.tmps j=bif g then some b else none:=by
 cases g with
 | false=>exact gr_yieldU ho hd h
 | true=>exact gr_yield ho hd h
theorem gr_eg {o:Oper} {y:Nat → Option Bool} {j:Nat} {b eg t:Bool} (hg : o.guard=some (j,b)) (hy:(y j == some b)=eg) (h : eg=t):Region.wanted o y=t:=by
 simp only [Region.wanted,hg]; rw [← h]; exact hy
theorem run_convI {P:Program} {ρ:Operand → Value} {o:Oper} {w:World} {x:Operand} {T U:TypeId} {k k':IntKind} {n:Int} (ho : o.op=.convert T U x) (hT:P.underlying T=some (.int k)) (hU:P.underlying U=some (.int k')) (hx : ρ x=.int k n):(execOp ρ o).run P w=.ok (.value (.int k' (k'.wrap n))) w:=by
 simp [execOp,ho,hx,convert,run_underlying hT,run_underlying hU,Conv.intToInt]
section
variable {w0 w:World} {L:List Asn} {f:Bool} {lo:Nat} {t:TypeId} {size n c:Nat} {A:Option Addr} {xs:List Value}
theorem old_rc (h:(Asn.old lo size (.slice A n c) n xs).holds w):Rc w size A n c xs:=by
 obtain ⟨A',c',e,hc,hr,_⟩:=h
 injection e with e1 _ e2
 subst e1; subst e2
 exact ⟨hr,hc⟩
theorem St.addold (S:St w0 w L) (h:Rc w0 size A n c xs) (hs : 0 < size):St w0 w (.old w0.heap.size size (.slice A n c) n xs :: L):=by
 refine ⟨S.below,fun a ha=>?_,List.pairwise_cons.2 ⟨fun b _=>Asn.far.nil rfl,S.apart⟩,fun a ha=>?_⟩
 ·rcases List.mem_cons.1 ha with rfl | h2
  ·refine ⟨⟨A,c,rfl,h.cap,S.rd0 h.rd,fun hn b o hA=>?_⟩,fun g hg=>by simp [Asn.foot] at hg⟩
   obtain ⟨b',o',hA',hc⟩:=h.rd.2 hn
   rw [hA] at hA'
   injection hA' with hA'
   injection hA' with e1 e2
   subst e1
   have hl : 0 < xs.length:=by rw [h.rd.1]; exact Nat.mul_pos hn hs
   have h0:=hc 0 xs[0] (List.getElem?_eq_getElem hl)
   rcases Nat.lt_or_ge b w0.heap.size with hlt | hge
   ·exact hlt
   ·simp [World.cell?,Array.getElem?_eq_none hge] at h0
  ·exact S.all a h2
 ·rcases List.mem_cons.1 ha with rfl | h2
  ·exact Nat.le_refl _
  ·exact S.olds a h2
end
section
variable {w0 w:World} {L:List Asn} {f:Bool} {lo size n c n' c':Nat} {A A':Option Addr} {xs xs':List Value} {v:Value} {a:Asn} {g:Nat}
theorem sub_block {k size m d:Nat} (h:(Value.slice (subA c k size A) m d).ownBlock=some g):(Value.slice A n c).ownBlock=some g:=by
 cases A with
 | none=>unfold subA at h; split at h <;> simp [Value.ownBlock] at h
 | some a =>
  unfold subA at h
  split at h
  ·simpa [Value.ownBlock] using h
  ·simp only [Option.map_some,Value.ownBlock] at h ⊢
   rw [← h]
   unfold Addr.add
   split <;> rfl
theorem subA_at (c lo size g off:Nat) : subA c lo size (some ⟨g,off,none⟩)=if c=lo then some ⟨g,off,none⟩ else some ⟨g,off+lo * size,none⟩:=by
 unfold subA; split
 ·rfl
 ·simp only [Option.map_some]; rw [Go.WideShapes.add_plain]
theorem St.subrow {α:Type} {e : α → List Value} {t:TypeId} {l:List α} {lo hi:Int} (S:St w0 w L) (i:Nat) (hL:L[i]?=some (.row t size (.slice A n c) n (l.flatMap e))) (he : ∀ x,(e x).length=size) (hn : n=l.length) (h : 0 ≤ lo∧lo ≤ hi∧hi ≤ (n:Int)) :
  St w0 w (L.set i (.row t size (.slice (subA c lo.toNat size A) (subL l lo hi).length (c - lo.toNat)) (subL l lo hi).length ((subL l lo hi).flatMap e))):=by
 subst hn
 have hl:=subL_len h
 have hR:Ow w t size (.slice A l.length c) l.length (l.flatMap e):=S.get hL
 refine S.turn1 hL ⟨rfl,rfl,rfl,Nat.le_refl _,fun _ _ _=>rfl⟩ (F:=[]) (fun g hg=>by simp at hg) ?_ (fun g hg=>.inl ?_)
 ·refine ⟨by rw [flat_len he],?_⟩
  rcases hR.2 with ⟨h1,h2⟩ | ⟨g,off,cap,cur,hv,hg,h1,h2,h3,h4⟩
  ·left
   injection h1 with h1 h3 h4
   subst h1; subst h4
   have h0:(subL l lo hi).length=0:=by rw [hl]; omega
   have hA : subA 0 lo.toNat size none=none:=by unfold subA; split <;> rfl
   exact ⟨by rw [h0,hA,Nat.zero_sub],h0⟩
  ·right
   injection hv with hv _ hc
   subst hv; subst hc
   rw [subA_at]
   by_cases hc : c=lo.toNat
   ·have h0:(subL l lo hi).length=0:=by rw [hl]; omega
    rw [if_pos hc,h0]
    have hnil : subL l lo hi=[]:=List.eq_nil_of_length_eq_zero h0
    exact ⟨g,off,c - lo.toNat,cur,rfl,hg,Nat.zero_le _,by omega,Nat.le_trans (Nat.add_le_add_left (Nat.mul_le_mul_right _ (Nat.sub_le _ _)) _) h3,by rw [hnil]; simp⟩
   ·rw [if_neg hc]
    refine ⟨g,off+lo.toNat * size,c - lo.toNat,cur,rfl,hg,by omega,by omega,?_,?_⟩
    ·rw [Nat.add_assoc,← Nat.add_mul,show lo.toNat+(c - lo.toNat)=c by omega]; exact h3
    ·have h5:=subL_flat he l lo.toNat (hi.toNat - lo.toNat)
     rw [show subL l lo hi=(l.drop lo.toNat).take (hi.toNat - lo.toNat) from rfl,h5,← h4,← List.drop_drop,List.drop_take,List.take_take]
     congr 1
     rw [List.length_take,List.length_drop,Nat.min_eq_left (by omega),Nat.min_eq_left]
     rw [← Nat.sub_mul]
     exact Nat.mul_le_mul_right _ (by omega)
 ·cases A with
  | none =>
   have hA : subA c lo.toNat size none=none:=by unfold subA; split <;> rfl
   rw [hA] at hg
   simp [Asn.foot,Value.ownBlock] at hg
  | some a =>
   have:=sub_block (A:=some a) (n:=l.length) (g:=g) (c:=c) (by simpa [Asn.foot] using hg)
   simpa [Asn.foot] using this
theorem St.cutrow {α:Type} {e : α → List Value} {t:TypeId} {l:List α} {hi:Int} (S:St w0 w L) (i:Nat) (hL:L[i]?=some (.row t size (.slice A n c) n (l.flatMap e))) (he : ∀ x,(e x).length=size) (hn : n=l.length) (h : 0 ≤ (0:Int)∧0 ≤ hi∧hi ≤ (n:Int)) :
  St w0 w (L.set i (.row t size (.slice (subA c (0:Int).toNat size A) (subL l 0 hi).length (c - (0:Int).toNat)) (subL l 0 hi).length ((subL l 0 hi).flatMap e))):=S.subrow i hL he hn h
end
section
variable {P:Program} {ρ:Operand → Value} {o:Oper} {w:World} {x y:Operand} {T U:TypeId} {xs ys:Array Value} {b:Bool}
theorem run_eqlA (hx : ρ x=.agg xs) (hy : ρ y=.agg ys) (ho : o.op=.binOp .eql T x y U) (hg:P.eqGuardType P.depth T=false) (he:(Op.equalIn 10000 T (.agg xs) (.agg ys)).run P w=.ok b w):(execOp ρ o).run P w=.ok (.value (.bool b)) w:=by
 simp [execOp,ho,hx,hy,run_eqGuard_agg w .eql T x y xs ys hg,run_eql_struct,he]
end
theorem St.call6 {w0 w w':World} {L:List Asn} {x0 x1 x2 x3 x4 x5:Asn} (S:St w0 w L) (T:St w w' [x0,x1,x2,x3,x4,x5]) (h0 : x0.lo=0:=by rfl) (h1 : x1.lo=0:=by rfl) (h2 : x2.lo=0:=by rfl) (h3 : x3.lo=0:=by rfl) (h4 : x4.lo=0:=by rfl) (h5 : x5.lo=0:=by rfl):St w0 w' (x0 :: x1 :: x2 :: x3 :: x4 :: x5 :: L):=S.call T (by simp [h0,h1,h2,h3,h4,h5])
theorem St.cast {w0 w:World} {L L':List Asn} (S:St w0 w L) (h:L=L'):St w0 w L':=h ▸ S
def ifA (f:Bool) (A:Option Addr):Option Addr:=bif f then A else none
def ifN (f:Bool) (n:Nat):Nat:=bif f then n else 0
end Go.Proofs.YtcmnjaccapbhfaaGreat
