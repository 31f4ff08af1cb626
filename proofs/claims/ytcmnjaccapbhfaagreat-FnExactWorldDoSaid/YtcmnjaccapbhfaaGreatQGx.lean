/- The walk by explicit laws: single operations, loops, returns. -/
import Derived.Test.YtcmnjaccapbhfaaGreatQGw
import Derived.IntWalk
import Derived.Laws.Small
namespace Go.Proofs.YtcmnjaccapbhfaaGreat
open Go.ChangeShapes Go.WideShapes Go.ChangeAt Go.RowKit
def Evs (ρ:Operand → Value):List Operand → List Value → Prop
 | [],[]=>True
 | x :: xs,v :: vs=>ρ x=v∧Evs ρ xs vs
 | _,_=>False
theorem evs_map {ρ:Operand → Value} : ∀ {xs:List Operand} {vs:List Value},Evs ρ xs vs → xs.map ρ=vs
 | [],[],_=>rfl
 | x :: xs,v :: vs,⟨h,r⟩=>by rw [List.map_cons,h,evs_map r]
 | [],_ :: _,h=>h.elim
 | _ :: _,[],h=>h.elim
structure CallOk (P:Program) (f:FuncId):Prop where
 ok:(match P.funcs[f]? with | some fn=>!(fn.name == "runtime.NumGoroutine") && fn.body.isSome | none=>false)=true
theorem wrap_in {n:Int} (h1 : -9223372036854775808 ≤ n) (h2 : n ≤ 9223372036854775807):IntKind.i64.wrap n=n:=IntWalk.i64_in n ⟨h1,h2⟩
section
variable {P:Program} {ρ:Operand → Value} {o:Oper} {w:World} {v:Value} {x y:Operand}
theorem run_fieldAddr {T:TypeId} {f off g k k':Nat} (ho : o.op=.fieldAddr T x f) (hT:TyFld P T f off) (hx : ρ x=.pointer (some ⟨g,k,none⟩)) (hk : k+off=k'):(execOp ρ o).run P w=.ok (.value (.pointer (some ⟨g,k',none⟩))) w:=by
 subst hk
 have h:=hT.fld
 cases hu:P.underlying T with
 | none=>rw [hu] at h; simp at h
 | some td =>
  rw [hu] at h
  cases td with
  | struct fs =>
   simp only at h
   obtain ⟨fd,hfd,hh⟩:=Option.map_eq_some_iff.1 h
   simp only [Prod.mk.injEq] at hh
   obtain ⟨h1,h2,h3⟩:=hh
   subst h1
   obtain ⟨i,hi⟩:=Option.isSome_iff_exists.1 h3
   rw [hi] at h2
   have h4 : i.size ≠ 0:=by simpa using h2
   have e:(⟨g,k,none⟩:Addr).add fd.offset=⟨g,k+fd.offset,none⟩:=by unfold Addr.add; split <;> simp_all
   simp [execOp,ho,hx,Instr.fieldAt,run_underlying hu,hfd,Instr.sureAddr,fieldPlace,sizeOf,typeInfo,hi,h4,e]
  | _=>simp at h
theorem run_indexAddr {T E:TypeId} {kd:IntKind} {ix:Operand} {i:Int} {n c size b off k':Nat} (ho : o.op=.indexAddr T x ix) (hT:P.underlying T=some (.slice E)) (hE:(P.info? E).map (·.size)=some size)
  (hx : ρ x=.slice (some ⟨b,off,none⟩) n c) (hi : ρ ix=.int kd i) (h0 : 0 ≤ i) (h1 : i < n) (hk : off+i.toNat * size=k'):(execOp ρ o).run P w=.ok (.value (.pointer (some ⟨b,k',none⟩))) w:=by
 subst hk
 obtain ⟨j,hj,hz⟩:=Option.map_eq_some_iff.1 hE
 have e:(⟨b,off,none⟩:Addr).add (i.toNat * size)=⟨b,off+i.toNat * size,none⟩:=by unfold Addr.add; split <;> simp_all
 simp [execOp,ho,hx,hi,Instr.indexAt,asIntOf,run_underlying hT,sizeOf,typeInfo,hj,hz,h0,h1,e]
theorem run_extract {i:Nat} {vs:Array Value} (ho : o.op=.extract x i) (hx : ρ x=.tuple vs) (hi : vs[i]?=some v):(execOp ρ o).run P w=.ok (.value v) w:=by
 simp [execOp,ho,hx,Instr.extract,hi]
theorem run_not {T:TypeId} {b:Bool} (ho : o.op=.unOp .not T x) (hx : ρ x=.bool b):(execOp ρ o).run P w=.ok (.value (.bool !b)) w:=by
 simp [execOp,ho,hx,Op.unary]
section
variable {T U:TypeId} {k:IntKind} {p q z:Int} (hx : ρ x=.int k p) (hy : ρ y=.int k q)
include hx hy
theorem run_eql (ho : o.op=.binOp .eql T x y U):(execOp ρ o).run P w=.ok (.value (.bool (p == q))) w:=by simp [execOp,ho,hx,hy,eqGuard,binOp,Op.intCmp]
theorem run_neq (ho : o.op=.binOp .neq T x y U):(execOp ρ o).run P w=.ok (.value (.bool (p != q))) w:=by simp [execOp,ho,hx,hy,eqGuard,binOp,Op.intCmp]
theorem run_lss (ho : o.op=.binOp .lss T x y U):(execOp ρ o).run P w=.ok (.value (.bool (decide (p < q)))) w:=by simp [execOp,ho,hx,hy,eqGuard,binOp,Op.intCmp]
theorem run_leq (ho : o.op=.binOp .leq T x y U):(execOp ρ o).run P w=.ok (.value (.bool (decide (p ≤ q)))) w:=by simp [execOp,ho,hx,hy,eqGuard,binOp,Op.intCmp]
theorem run_gtr (ho : o.op=.binOp .gtr T x y U):(execOp ρ o).run P w=.ok (.value (.bool (decide (q < p)))) w:=by simp [execOp,ho,hx,hy,eqGuard,binOp,Op.intCmp]
theorem run_geq (ho : o.op=.binOp .geq T x y U):(execOp ρ o).run P w=.ok (.value (.bool (decide (q ≤ p)))) w:=by simp [execOp,ho,hx,hy,eqGuard,binOp,Op.intCmp]
theorem run_add (ho : o.op=.binOp .add T x y U) (hz : k.wrap (p+q)=z):(execOp ρ o).run P w=.ok (.value (.int k z)) w:=by simp [execOp,ho,hx,hy,eqGuard,binOp,Op.intArith,hz]
theorem run_sub (ho : o.op=.binOp .sub T x y U) (hz : k.wrap (p - q)=z):(execOp ρ o).run P w=.ok (.value (.int k z)) w:=by simp [execOp,ho,hx,hy,eqGuard,binOp,Op.intArith,hz]
theorem run_rem (ho : o.op=.binOp .rem T x y U) (hq : q ≠ 0) (hz : p.tmod q=z):(execOp ρ o).run P w=.ok (.value (.int k z)) w:=by simp [execOp,ho,hx,hy,eqGuard,binOp,Op.intDiv,hz,hq]
end
section
variable {T U:TypeId} {p q:Bool} (hx : ρ x=.bool p) (hy : ρ y=.bool q) (hT:P.underlying T=some .bool)
include hx hy hT
theorem run_neqB (ho : o.op=.binOp .neq T x y U):(execOp ρ o).run P w=.ok (.value (.bool (p != q))) w:=by simp [execOp,ho,hx,hy,eqGuard,binOp,run_equal_bool (P:=P) w T p q hT]; cases p <;> cases q <;> rfl
end
section
variable {T U:TypeId} {p q:ByteArray} (hx : ρ x=.string p) (hy : ρ y=.string q)
include hx hy
end
theorem run_call {f:FuncId} {xs:List Operand} {vs:List Value} {ts:Array TypeId} (ho : o.op=.call { callee:=.value (.func f),args:=xs.toArray,argTypes:=ts }) (hf : ρ (.func f)=.func (.func f) #[] #[]) (hc:CallOk P f) (hv:Evs ρ xs vs) :
  (execOp ρ o).run P w=.ok (.enter f vs.toArray) w:=by
 have h:=hc.ok
 cases hfn:P.funcs[f]? with
 | none=>rw [hfn] at h; simp at h
 | some fn =>
  rw [hfn] at h
  simp only [Bool.and_eq_true,Bool.not_eq_true'] at h
  have h2 : fn.body.isNone=false:=by cases hb : fn.body <;> simp_all
  have hp:(program).run P w=.ok P w:=rfl
  have hcf:(callFunc f vs.toArray).run P w=.ok (.enter f vs.toArray) w:=by
   unfold callFunc
   simp only [Sem.run_bind,hp,Result.andThen_ok,hfn,h.1,h2]
   rfl
  simp [execOp,ho,resolve,hf,Deferred.ofValue,invoke,evs_map hv,hcf]
theorem run_lenL {T E:TypeId} {A:Option Addr} {n c:Nat} {ts:Array TypeId} (ho : o.op=.call { callee:=.builtin .len,args:=#[x],argTypes:=ts }) (hts : ts[0]?=some T) (hT:P.underlying T=some (.slice E)) (hx : ρ x=.slice A n c) :
  (execOp ρ o).run P w=.ok (.value (.int .i64 (n:Int))) w:=by
 simp [execOp,ho,resolve,invoke,builtin,Builtin.len_,hts,run_underlying hT,hx,goInt]
theorem run_max {k:IntKind} {p q:Int} {ts:Array TypeId} (ho : o.op=.call { callee:=.builtin .max,args:=#[x,y],argTypes:=ts }) (hx : ρ x=.int k p) (hy : ρ y=.int k q):(execOp ρ o).run P w=.ok (.value (.int k (max p q))) w:=by
 have:(if q > p then q else p)=max p q:=by omega
 simp only [gt_iff_lt] at this
 simp [execOp,ho,resolve,invoke,builtin,Builtin.max_,Builtin.max2,hx,hy,this]
theorem run_min {k:IntKind} {p q:Int} {ts:Array TypeId} (ho : o.op=.call { callee:=.builtin .min,args:=#[x,y],argTypes:=ts }) (hx : ρ x=.int k p) (hy : ρ y=.int k q):(execOp ρ o).run P w=.ok (.value (.int k (min p q))) w:=by
 have:(if q < p then q else p)=min p q:=by omega
 simp [execOp,ho,resolve,invoke,builtin,Builtin.min_,Builtin.min2,hx,hy,this]
theorem run_nilCheck {ad:Addr} (ho : o.op=.nilCheck x) (hx : ρ x=.pointer (some ad)):(execOp ρ o).run P w=.ok (.value (.pointer (some ad))) w:=by
 simp [execOp,ho,hx]
end
section
variable {P:Program} {Q:Exit → Act → World → Prop} {a:Act} {w:World}
theorem loop_gw {c : Code} (I : Nat → Act → World → Prop) (m0 : Nat) (h₀ : I m0 a w)
    (round : ∀ m a w, I m a w → c.wp P (Exit.then (fun a' w' => ∃ m', m' < m ∧ I m' a' w') Q) a w) : (Code.loop c).wp P Q a w := by
  intro b k cs
  have key : ∀ n a w, I n a w →
      ∃ e a' w', Q e a' w' ∧ Arrives P (lone (b.at a (.code c :: .inLoop c :: k)) cs w) b k cs e a' w' := by
    intro n
    induction n using Nat.strongRecOn with
    | _ n ih =>
      intro a w hI
      obtain ⟨e, a₁, w₁, hq, harr⟩ := round n a w hI b (.inLoop c :: k) cs
      cases e with
      | normal =>
        obtain ⟨m', hlt, hI₁⟩ := hq
        obtain ⟨e₂, a₂, w₂, hq₂, harr₂⟩ := ih m' hlt a₁ w₁ hI₁
        exact ⟨e₂, a₂, w₂, hq₂, .of_steps (Steps.trans harr (.one step_inLoop)) harr₂⟩
      | exit id => exact ⟨_, a₁, w₁, hq, .pass (x := .inLoop c) rfl (fun _ _ => .inl (by simp)) harr⟩
      | goto l => exact ⟨_, a₁, w₁, hq, .pass (x := .inLoop c) rfl (fun _ _ => .inl (by simp)) harr⟩
      | ret => exact ⟨_, a₁, w₁, hq, .pass (x := .inLoop c) rfl (fun _ _ => .inl (by simp)) harr⟩
      | panic ch => exact ⟨_, a₁, w₁, hq, .pass (x := .inLoop c) rfl (fun _ _ => .inl (by simp)) harr⟩
      | outgrown => exact ⟨_, a₁, w₁, hq, .pass (x := .inLoop c) rfl (fun _ _ => .inl (by simp)) harr⟩
  obtain ⟨e, a', w', hq, harr⟩ := key _ a w h₀
  exact ⟨e, a', w', hq, .of_steps (.one step_loop) harr⟩
def resV (a:Act):ResultVar → Sem Value
 | .tmp t=>pure (a.tmps.getD t undef)
 | .cell ad T=>do loadVar T (← asAddr (a.tmps.getD ad undef))
theorem res_tmp {t:Nat} {v:Value} (h : a.eval (.tmp t)=v):(resV a (.tmp t)).run P w=.ok v w:=by subst h; rfl
theorem res_cell {ad:Nat} {T:TypeId} {A:Addr} {v:Value} (h : a.eval (.tmp ad)=.pointer (some A)) (hl:(loadVar T A).run P w=.ok v w):(resV a (.cell ad T)).run P w=.ok v w:=by
 simp only [Act.eval] at h
 simp only [resV,h,asAddr,Sem.run_bind,Sem.run_pure,Result.andThen_ok,hl]
theorem results_eq (fn:Func) (a:Act) : results fn a.tmps=(do let vs ← fn.results.mapM (resV a); pure (if h : vs.size=1 then vs[0] else .tuple vs)):=by
 unfold results
 congr 1
section
variable {fn:Func} {R:Ending → World → Prop} {n:Nat} {l:List (Nat×Value)} {e:Exit} {r1 r2 r3:ResultVar} {v1 v2 v3:Value}
theorem body_of (he : e=.ret ∨ e=.normal) (hF:Fr a n l) {v:Value} (h:(results fn a.tmps).run P w=.ok v w) (hR:R (.returned v) w) : bodyPost P fn R e a w:=by
 have h : a.defers=[]∧∃ v,(results fn a.tmps).run P w=.ok v w∧R (.returned v) w:=⟨hF.defers,v,h,hR⟩
 rcases he with rfl | rfl <;> exact h
theorem ret0_gw (he : e=.ret ∨ e=.normal) (hF:Fr a n l) (hr : fn.results=#[]) (hR:R (.returned (.tuple #[])) w) : bodyPost P fn R e a w :=
 body_of he hF (by rw [results_eq,hr]; simp) hR
theorem ret1_gw (he : e=.ret ∨ e=.normal) (hF:Fr a n l) (hr : fn.results=#[r1]) (h1:(resV a r1).run P w=.ok v1 w) (hR:R (.returned v1) w) : bodyPost P fn R e a w :=
 body_of he hF (by rw [results_eq,hr]; simp [h1]) hR
theorem ret2_gw (he : e=.ret ∨ e=.normal) (hF:Fr a n l) (hr : fn.results=#[r1,r2]) (h1:(resV a r1).run P w=.ok v1 w) (h2:(resV a r2).run P w=.ok v2 w) (hR:R (.returned (.tuple #[v1,v2])) w) : bodyPost P fn R e a w :=
 body_of he hF (by rw [results_eq,hr]; simp [h1,h2]) hR
end
theorem res_loadN {T:TypeId} {g k m:Nat} {cs:Array Value} (hT:TyAgg P T m) (hm : cs.size=m) (hc : ∀ j u,cs.toList[j]?=some u → w.cell? ⟨g,k+j,none⟩=some u):(loadVar T ⟨g,k,none⟩).run P w=.ok (.agg cs) w:=by
 have h1:(isAgg T).run P w=.ok true w:=by
  rcases hT.under with ⟨fs,hu⟩ | ⟨k,e,hu⟩
  ·simp [isAgg,run_underlying hu]
  ·simp [isAgg,run_underlying hu]
 have h2:(sizeOf T).run P w=.ok m w:=by
  obtain ⟨i,hi,hz⟩:=Option.map_eq_some_iff.1 hT.info
  simp [sizeOf,typeInfo,hi,hz]
 have h3:=run_loadCells_list (P:=P) w ⟨g,k,none⟩ cs.toList (fun j u hu=>by rw [Go.WideShapes.add_plain]; exact hc j u hu)
 have h4 : cs.toList.length=m:=by simpa using hm
 rw [h4] at h3
 simp [loadVar,h1,h2,h3]
end
end Go.Proofs.YtcmnjaccapbhfaaGreat
