/- The law for a region that draws its order, with what the call owns: each operation has a fact on slots (φ) and the things it makes (C); a thing may be taken by a later operation (κ); an operation may take things that stood before (Z). -/
import Derived.Test.YtcmnjaccapbhfaaGreatQGx
namespace Go.Proofs.YtcmnjaccapbhfaaGreat
open Go.ChangeShapes Go.WideShapes Go.ChangeAt Go.RowKit
theorem flatMap_parts {α β:Type} (p : α → Bool) (f : α → List β) : ∀ l:List α,(l.flatMap f).Perm ((l.filter p).flatMap f++(l.filter fun x=>!p x).flatMap f)
 | []=>by simp
 | x :: l=>by
  have ih:=flatMap_parts p f l
  cases hp : p x
  ·simp only [List.flatMap_cons,List.filter_cons,hp,Bool.false_eq_true,if_false,Bool.not_false,if_true]
   exact (List.Perm.append_left _ ih).trans (List.perm_append_comm_assoc _ _ _)
  ·simp only [List.flatMap_cons,List.filter_cons,hp,if_true,Bool.not_true,Bool.false_eq_true,if_false,List.append_assoc]
   exact List.Perm.append_left _ ih
theorem range_one {i N:Nat} (h : i < N):(List.range N).filter (fun j=>j == i)=[i]:=by
 induction N with
 | zero=>omega
 | succ N ih =>
  rw [List.range_succ,List.filter_append]
  by_cases hi : i < N
  ·rw [ih hi]
   have:(N == i)=false:=by simp; omega
   simp [this]
  ·obtain rfl : i=N:=by omega
   have:(List.range i).filter (fun j=>j == i)=[]:=by
    rw [List.filter_eq_nil_iff]
    intro j hj
    have : j < i:=by simpa using hj
    simp; omega
   simp [this]
theorem flatMap_same {α β:Type} {f g : α → List β} : ∀ {l:List α},(∀ x ∈ l,f x=g x) → l.flatMap f=l.flatMap g
 | [],_=>rfl
 | x :: l,h=>by rw [List.flatMap_cons,List.flatMap_cons,h x (by simp),flatMap_same fun y hy=>h y (by simp [hy])]
theorem flatMap_none {α β:Type} {f : α → List β} : ∀ {l:List α},(∀ x ∈ l,f x=[]) → l.flatMap f=[]
 | [],_=>rfl
 | x :: l,h=>by rw [List.flatMap_cons,h x (by simp),flatMap_none fun y hy=>h y (by simp [hy])]; rfl
def befN (ops:Array Oper):Nat → Nat → Nat → Bool
 | 0,_,_=>false
 | n+1,i,j=>match ops[i]? with | some o=>o.after.toList.any (fun e=>Region.binds .any e && (Nat.beq e.on j || befN ops n e.on j)) | none=>false
def bef (ops:Array Oper) (i j:Nat):Bool:=befN ops ops.size i j
theorem befN_listed {ops:Array Oper} {listed:Array Bool} (hcl : ∀ j oj i,ops[j]?=some oj → listed.getD j false=true → waitsOn oj i=true → listed.getD i false=true) :
  ∀ (n i j:Nat),(∀ o,ops[i]?=some o → ∀ k,waitsOn o k=true → listed.getD k false=true) → befN ops n i j=true → listed.getD j false=true
 | 0,i,j,_,h=>by simp [befN] at h
 | n+1,i,j,hi,h=>by
  simp only [befN] at h
  cases ho : ops[i]? with
  | none=>rw [ho] at h; simp at h
  | some o =>
   rw [ho] at h
   obtain ⟨e,he,hb⟩:=List.any_eq_true.1 h
   simp only [Bool.and_eq_true,Bool.or_eq_true] at hb
   have hw : waitsOn o e.on=true:=by
    unfold waitsOn
    exact List.any_eq_true.2 ⟨e,he,by simp [hb.1]⟩
   have hl:=hi o ho e.on hw
   rcases hb.2 with h1 | h1
   ·rw [← Nat.eq_of_beq_eq_true h1]; exact hl
   ·exact befN_listed hcl n e.on j (fun o' ho' k hk=>hcl e.on o' k ho' hl hk) h1
section
variable (P:Program) (ops:Array Oper) (a0:Act) (D:List Nat) (w0:World) (Lr:List Asn) (deps:Nat → List Nat) (rd zr:Nat → List Nat) (φ:Nat → List Value → Prop) (C:Nat → List Value → List Asn) (κ:Nat → Option Nat) (Z:Nat → List Asn)
def grOk (n:Nat):Bool :=
 ops.toList.zipIdx.all fun (o,i) =>
  (o.after.all fun e=>!Region.binds .any e || decide (e.on < i)) &&
  (match o.dst with | some d=>D.contains d && Nat.blt d n && ops.toList.zipIdx.all (fun (_,j)=>j == i || bef ops j i || !((deps j).contains d)) | none=>true) &&
  (match κ i with | some s=>decide (s < ops.size) && bef ops s i && !(s == i) | none=>true) &&
  ((rd i).all fun j=>bef ops i j && !(j == i) && decide (j < ops.size) && (match κ j with | some s=>!(s == i) && bef ops s i | none=>true)) && ((zr i).all fun s=>decide (s < ops.size) && !(s == i) && bef ops s i && !(κ s == some i))
def valsOf (a:Act) (i:Nat):List Value:=(deps i).map (sl a)
def slp (dst:Option Nat) (v:Value) (a:Act) (k:Nat):Value:=match dst with | some d=>bif Nat.beq k d then v else sl a k | none=>sl a k
def valsPut (dst:Option Nat) (v:Value) (a:Act) (i:Nat):List Value:=(deps i).map (slp dst v a)
def taken (a:Act) (i:Nat):List Asn:=Z i++((List.range ops.size).filter fun j=>κ j == some i).flatMap fun j=>C j (valsOf deps a j)
def uqB (ops:Array Oper) (j d:Nat):Bool:=ops.toList.zipIdx.all fun (o,i)=>Nat.beq i j || !(o.dst == some d)
theorem uq_ne {ops:Array Oper} {i j d:Nat} {o:Oper} (h : uqB ops j d=true) (ho : ops[i]?=some o) (hij : i ≠ j) : o.dst ≠ some d:=by
 have hm:(o,i) ∈ ops.toList.zipIdx:=by
  rw [List.mem_zipIdx_iff_getElem?]; simpa using ho
 have h1:=List.all_eq_true.1 h _ hm
 have h2:Nat.beq i j=false:=by
  cases hb:Nat.beq i j with
  | false=>rfl
  | true=>exact absurd (Nat.eq_of_beq_eq_true hb) hij
 simp only [h2,Bool.false_or,Bool.not_eq_true',beq_eq_false_iff_ne] at h1
 exact h1
def GrGives (i:Nat) (o:Oper) (a:Act) (X:List Asn) (v:Value) (w':World):Prop:=φ i (valsPut deps o.dst v a i)∧St w0 w' (C i (valsPut deps o.dst v a i)++X)
def GrOwes (i:Nat) (o:Oper):Prop:=∀ (a:Act) (w:World) (X:List Asn),Base a0 D a → (∀ j d,uqB ops j d=true → bef ops j i=true → sl a d=sl a0 d) → (∀ j,bef ops i j=true → φ j (valsOf deps a j)) → (∀ j ∈ rd i,∀ x ∈ C j (valsOf deps a j),x ∈ X) → (∀ s ∈ zr i,∀ x ∈ Z s,x ∈ X) → (∀ x ∈ Lr,x ∈ X) →
 St w0 w (taken ops deps C κ Z a i++X) →
 (Region.wanted o (yielded ops a.tmps)=true∧∃ v w',(execOp a.eval o).run P w=.ok (.value v) w'∧GrGives w0 deps φ C i o a X v w')
 ∨ (Region.wanted o (yielded ops a.tmps)=true∧∃ w',(execOp a.eval o).run P w=.ok .skip w'∧GrGives w0 deps φ C i o a X undef w')
 ∨ (Region.wanted o (yielded ops a.tmps)=true∧∃ f args,(execOp a.eval o).run P w=.ok (.enter f args) w∧Calls P f args w fun e w'=>∃ v,e=.returned v∧GrGives w0 deps φ C i o a X v w')
 ∨ (Region.wanted o (yielded ops a.tmps)=false∧GrGives w0 deps φ C i o a X undef w)
def GrOwesAll:Nat → List Oper → Prop
 | _,[]=>True
 | i,o :: rest=>GrOwes P ops a0 D w0 Lr deps rd zr φ C κ Z i o∧GrOwesAll (i+1) rest
def contrib (listed:Array Bool) (a:Act) (i:Nat):List Asn :=
 if listed.getD i false then (match κ i with | some s=>if listed.getD s false then [] else C i (valsOf deps a i) | none=>C i (valsOf deps a i)) else Z i
end
section
variable {P:Program} {ops:Array Oper} {a0:Act} {D:List Nat} {w0:World} {Lr:List Asn} {deps:Nat → List Nat} {rd zr:Nat → List Nat} {φ:Nat → List Value → Prop} {C:Nat → List Value → List Asn} {κ:Nat → Option Nat} {Z:Nat → List Asn} {Q:Exit → Act → World → Prop}
theorem grOwes_at {l:List Oper} : ∀ {k:Nat},GrOwesAll P ops a0 D w0 Lr deps rd zr φ C κ Z k l → ∀ i o,l[i]?=some o → GrOwes P ops a0 D w0 Lr deps rd zr φ C κ Z (k+i) o:=by
 induction l with
 | nil=>intro k _ i o h; simp at h
 | cons x r ih =>
  intro k h i o hi
  cases i with
  | zero=>simp at hi; subst hi; exact h.1
  | succ i=>have:=ih h.2 i o (by simpa using hi); rw [show k+(i+1)=k+1+i from by omega]; exact this
theorem slp_put {a:Act} {dst:Option Nat} {v:Value} (hd : ∀ d,dst=some d → d < a.tmps.size) (k:Nat) : sl (a.put dst v) k=slp dst v a k:=by
 cases dst with
 | none=>rfl
 | some d =>
  simp only [slp]
  cases hb:Nat.beq k d with
  | true =>
   have:=Nat.eq_of_beq_eq_true hb
   subst this
   exact sl_put_same _ _ (hd _ rfl)
  | false =>
   exact sl_put _ _ _ _ (fun e=>by injection e with e; subst e; simp at hb)
structure GrAt (ops:Array Oper) (D:List Nat) (deps:Nat → List Nat) (rd zr:Nat → List Nat) (κ:Nat → Option Nat) (n i:Nat) (o:Oper):Prop where
 early : ∀ e ∈ o.after,Region.binds .any e=true → e.on < i
 dst : ∀ d,o.dst=some d → D.contains d=true∧d < n
 far : ∀ d,o.dst=some d → ∀ j,j < ops.size → j ≠ i → bef ops j i=false → d ∉ deps j
 taker : ∀ s,κ i=some s → s < ops.size∧bef ops s i=true∧s ≠ i
 reads : ∀ j ∈ rd i,bef ops i j=true∧j ≠ i∧j < ops.size∧∀ s,κ j=some s → s ≠ i∧bef ops s i=true
 before : ∀ s ∈ zr i,s < ops.size∧s ≠ i∧bef ops s i=true∧κ s ≠ some i
theorem gr_at {n:Nat} (h : grOk ops D deps rd zr κ n=true) {i:Nat} {o:Oper} (ho : ops[i]?=some o):GrAt ops D deps rd zr κ n i o:=by
 unfold grOk at h
 have hm:(o,i) ∈ ops.toList.zipIdx:=by
  rw [List.mem_zipIdx_iff_getElem?]; simpa using ho
 have h1:=List.all_eq_true.1 h _ hm
 simp only [Bool.and_eq_true] at h1
 obtain ⟨⟨⟨⟨h2,h3⟩,h4⟩,h5⟩,h8⟩:=h1
 refine ⟨fun e he hb=>?_,fun d hd=>?_,fun d hd j hj hne hw=>?_,fun s hs=>?_,fun j hj=>?_,fun s hz=>?_⟩
 ·have:=Array.all_eq_true'.1 h2 e he
  simpa [hb] using this
 ·rw [hd] at h3
  simp only [Bool.and_eq_true] at h3
  exact ⟨h3.1.1,by simpa using h3.1.2⟩
 ·rw [hd] at h3
  simp only [Bool.and_eq_true] at h3
  have hmj:(ops[j],j) ∈ ops.toList.zipIdx:=by
   rw [List.mem_zipIdx_iff_getElem?]; simp [hj]
  have:=List.all_eq_true.1 h3.2 _ hmj
  simp only [hw,Bool.or_false,Bool.or_eq_true,beq_iff_eq,Bool.not_eq_true'] at this
  rcases this with h | h
  ·exact absurd h hne
  ·simpa using h
 ·rw [hs] at h4
  simp only [Bool.and_eq_true,Bool.not_eq_true',beq_eq_false_iff_ne,decide_eq_true_eq] at h4
  exact ⟨h4.1.1,h4.1.2,h4.2⟩
 ·have h6:=List.all_eq_true.1 h5 j hj
  simp only [Bool.and_eq_true,Bool.not_eq_true',beq_eq_false_iff_ne,decide_eq_true_eq] at h6
  refine ⟨h6.1.1.1,h6.1.1.2,h6.1.2,fun s hs=>?_⟩
  have h7:=h6.2
  rw [hs] at h7
  simp only [Bool.and_eq_true,Bool.not_eq_true',beq_eq_false_iff_ne] at h7
  exact h7
 ·have h6:=List.all_eq_true.1 h8 s hz
  simp only [Bool.and_eq_true,Bool.not_eq_true',beq_eq_false_iff_ne,decide_eq_true_eq] at h6
  exact ⟨h6.1.1.1,h6.1.1.2,h6.1.2,h6.2⟩
theorem gr_any {n : Nat} (hsz0 : a0.tmps.size = n) (hs : grOk ops D deps rd zr κ n = true) (hops : GrOwesAll P ops a0 D w0 Lr deps rd zr φ C κ Z 0 ops.toList)
    (hend : ∀ a w, Base a0 D a → (∀ i, i < ops.size → φ i (valsOf deps a i)) → St w0 w (Lr ++ (List.range ops.size).flatMap fun j => match κ j with | some _ => [] | none => C j (valsOf deps a j)) → Q .normal a w) :
    ∀ (fuel : Nat) (listed : Array Bool) (a : Act) (w : World), listed.size = ops.size → Base a0 D a → (∀ j d, uqB ops j d = true → listed.getD j false = false → sl a d = sl a0 d) →
      St w0 w (Lr ++ (List.range ops.size).flatMap (contrib deps C κ Z listed a)) →
      (∀ i, i < ops.size → listed.getD i true = true → φ i (valsOf deps a i)) →
      (∀ j oj i, ops[j]? = some oj → listed.getD j true = true → waitsOn oj i = true → listed.getD i false = true) →
      ((List.range ops.size).filter fun i => !listed.getD i true).length ≤ fuel → wpAny P .any ops Q fuel listed a w := by
  have hready : ∀ (listed : Array Bool), listed.size = ops.size → Region.ready .any ops listed = [] → ∀ m i, i ≤ m → i < ops.size → listed.getD i true = true := by
    intro listed hsz hr m
    induction m using Nat.strongRecOn with
    | _ m ih =>
      intro i hi hlt
      cases hl : listed.getD i true with
      | true => rfl
      | false =>
        exfalso
        obtain ⟨o, ho⟩ : ∃ o, ops[i]? = some o := ⟨ops[i], by simp [hlt]⟩
        have hm : i ∈ Region.ready .any ops listed := by
          unfold Region.ready
          rw [List.mem_filter]
          refine ⟨by simpa using hlt, ?_⟩
          rw [hl, ho]
          simp only [Bool.not_false, Bool.true_and, Option.map_some, Option.getD_some]
          refine Array.all_eq_true'.2 fun e he => ?_
          cases hb : Region.binds .any e with
          | false => rfl
          | true =>
            have h1 := (gr_at hs ho).early e he hb
            have h2 := ih e.on (by omega) e.on (Nat.le_refl _) (by omega)
            have h3 : e.on < listed.size := by omega
            simp [h3] at h2
            simp [h3, h2]
        rw [hr] at hm
        cases hm
  have hfin : ∀ (listed : Array Bool) (a : Act) (w : World), listed.size = ops.size → Base a0 D a → St w0 w (Lr ++ (List.range ops.size).flatMap (contrib deps C κ Z listed a)) →
      (∀ i, i < ops.size → listed.getD i true = true → φ i (valsOf deps a i)) → (∀ i, i < ops.size → listed.getD i true = true) → Q .normal a w := by
    intro listed a w hsz hB hS hF hl
    have hl' : ∀ i, i < ops.size → listed.getD i false = true := by
      intro i hi
      have h1 := hl i hi
      have h2 : i < listed.size := by omega
      simp [h2] at h1 ⊢
      exact h1
    refine hend a w hB (fun i hi => hF i hi (hl i hi)) ?_
    have e : (List.range ops.size).flatMap (contrib deps C κ Z listed a) = (List.range ops.size).flatMap fun j => match κ j with | some _ => [] | none => C j (valsOf deps a j) := by
      refine flatMap_same fun j hj => ?_
      have hj' : j < ops.size := by simpa using hj
      unfold contrib
      rw [if_pos (hl' j hj')]
      cases hk : κ j with
      | none => rfl
      | some s =>
        obtain ⟨this, _, _⟩ := (gr_at hs (show ops[j]? = some ops[j] by simp [hj'])).taker s hk
        simp only
        rw [if_pos (hl' s this)]
    rw [← e]
    exact hS
  intro fuel
  induction fuel with
  | zero =>
    intro listed a w hsz hB hU hS hF hcl hn
    have hnil : (List.range ops.size).filter (fun i => !listed.getD i true) = [] := List.eq_nil_of_length_eq_zero (by omega)
    have hl : ∀ i, i < ops.size → listed.getD i true = true := by
      intro i hi
      have := List.filter_eq_nil_iff.1 hnil i (by simpa using hi)
      simpa using this
    refine ⟨?_, hfin listed a w hsz hB hS hF hl⟩
    unfold Region.ready
    rw [List.filter_eq_nil_iff]
    intro i hi
    have := hl i (by simpa using hi)
    simp only [this, Bool.not_true, Bool.false_and, Bool.false_eq_true, not_false_eq_true]
  | succ fuel ih =>
    intro listed a w hsz hB hU hS hF hcl hn
    refine ⟨fun hr => hfin listed a w hsz hB hS hF (fun i hi => hready listed hsz hr i i (Nat.le_refl _) hi), fun i hi => ?_⟩
    have hi' := hi
    unfold Region.ready at hi'
    rw [List.mem_filter] at hi'
    obtain ⟨hir, hib⟩ := hi'
    have hilt : i < ops.size := by simpa using hir
    obtain ⟨o, ho⟩ : ∃ o, ops[i]? = some o := ⟨ops[i], by simp [hilt]⟩
    rw [ho] at hib
    simp only [Option.map_some, Option.getD_some, Bool.and_eq_true, Bool.not_eq_true'] at hib
    obtain ⟨hun, hpre⟩ := hib
    have hil : i < listed.size := by omega
    have hun' : listed.getD i false = false := by simp [hil] at hun ⊢; exact hun
    have hpre' : ∀ j, waitsOn o j = true → listed.getD j false = true := by
      intro j hj
      unfold waitsOn at hj
      obtain ⟨e, he, hb⟩ := List.any_eq_true.1 hj
      have he := Array.mem_toList_iff.1 he
      simp only [Bool.and_eq_true, beq_iff_eq] at hb
      have := Array.all_eq_true'.1 hpre e he
      rw [hb.1] at this
      simpa [hb.2] using this
    have htf : ∀ j, listed.getD j false = true → j < ops.size ∧ listed.getD j true = true := by
      intro j hj
      have hjl : j < listed.size := by
        rcases Nat.lt_or_ge j listed.size with h | h
        · exact h
        · simp [h] at hj
      simp [hjl] at hj
      exact ⟨by omega, by simp [hjl, hj]⟩
    have hst := gr_at hs ho
    have howe : GrOwes P ops a0 D w0 Lr deps rd zr φ C κ Z i o := by
      have := grOwes_at hops i o (by simpa using ho)
      rwa [Nat.zero_add] at this
    have hcl' : ∀ j oj i, ops[j]? = some oj → listed.getD j false = true → waitsOn oj i = true → listed.getD i false = true := fun j oj i h1 h2 h3 => hcl j oj i h1 (htf j h2).2 h3
    have hbef : ∀ j, bef ops i j = true → listed.getD j false = true := fun j hj => befN_listed hcl' _ i j (fun o' ho' k hk => by rw [ho] at ho'; injection ho' with ho'; subst ho'; exact hpre' k hk) hj
    have hfacts : ∀ j, bef ops i j = true → φ j (valsOf deps a j) := fun j hj => hF j (htf j (hbef j hj)).1 (htf j (hbef j hj)).2
    -- an operation behind i is not listed yet
    have hnot : ∀ s, bef ops s i = true → listed.getD s false = false := by
      intro s hw
      cases hl : listed.getD s false with
      | false => rfl
      | true =>
        have := befN_listed hcl' _ s i (fun o' ho' k hk => hcl' s o' k ho' hl hk) hw
        rw [hun'] at this
        cases this
    let rest := ((List.range ops.size).filter (fun j => !(j == i))).filter (fun j => !(κ j == some i))
    let X := Lr ++ rest.flatMap (contrib deps C κ Z listed a)
    have hparts : ∀ f : Nat → List Asn, ((List.range ops.size).flatMap f).Perm (f i ++ ((((List.range ops.size).filter (fun j => !(j == i))).filter (fun j => κ j == some i)).flatMap f ++ rest.flatMap f)) := by
      intro f
      refine (flatMap_parts (fun j => j == i) f _).trans ?_
      rw [range_one hilt]
      simp only [List.flatMap_cons, List.flatMap_nil, List.append_nil]
      exact List.Perm.append_left _ (flatMap_parts (fun j => κ j == some i) f _)
    have hne : ∀ j, κ j = some i → j ≠ i := by
      rintro j hk rfl
      exact (hst.taker _ hk).2.2 rfl
    have hfil : ((List.range ops.size).filter (fun j => !(j == i))).filter (fun j => κ j == some i) = (List.range ops.size).filter fun j => κ j == some i := by
      rw [List.filter_filter]
      refine List.filter_congr fun j _ => ?_
      cases hk : (κ j == some i)
      · simp
      · have := hne j (by simpa using hk)
        simp [this]
    have hwait : ∀ j, j < ops.size → κ j = some i → bef ops i j = true := fun j hj hk => ((gr_at hs (show ops[j]? = some ops[j] by simp [hj])).taker i hk).2.1
    have hS1 : St w0 w (taken ops deps C κ Z a i ++ X) := by
      refine hS.perm ?_
      have h1 := (hparts (contrib deps C κ Z listed a)).append_left Lr
      refine h1.trans ?_
      have e1 : contrib deps C κ Z listed a i = Z i := by unfold contrib; rw [hun']; rfl
      have e2 : (((List.range ops.size).filter (fun j => !(j == i))).filter (fun j => κ j == some i)).flatMap (contrib deps C κ Z listed a) = ((List.range ops.size).filter fun j => κ j == some i).flatMap fun j => C j (valsOf deps a j) := by
        rw [hfil]
        refine flatMap_same fun j hj => ?_
        rw [List.mem_filter] at hj
        have hj1 : j < ops.size := by simpa using hj.1
        have hj2 : κ j = some i := by simpa using hj.2
        unfold contrib
        rw [if_pos (hbef j (hwait j hj1 hj2)), hj2]
        simp only
        rw [hun']
        rfl
      rw [e1, e2]
      simp only [taken, X]
      rw [← List.append_assoc (Z i)]
      exact List.perm_append_comm_assoc _ _ _
    have hXL : ∀ x ∈ Lr, x ∈ X := fun x hx => by simp [X, hx]
    have hXr : ∀ j ∈ rd i, ∀ x ∈ C j (valsOf deps a j), x ∈ X := by
      intro j hj x hx
      obtain ⟨h1, h2, h3, h4⟩ := hst.reads j hj
      refine List.mem_append.2 (.inr (List.mem_flatMap.2 ⟨j, ?_, ?_⟩))
      · simp only [rest, List.mem_filter, List.mem_range, Bool.not_eq_true', beq_eq_false_iff_ne]
        exact ⟨⟨h3, h2⟩, fun hk => (h4 i hk).1 rfl⟩
      · unfold contrib
        rw [if_pos (hbef j h1)]
        cases hk : κ j with
        | none => exact hx
        | some s =>
          simp only
          rw [hnot s (h4 s hk).2]
          exact hx
    have hXz : ∀ s ∈ zr i, ∀ x ∈ Z s, x ∈ X := by
      intro s hsz x hx
      obtain ⟨h1, h2, h3, h4⟩ := hst.before s hsz
      refine List.mem_append.2 (.inr (List.mem_flatMap.2 ⟨s, ?_, ?_⟩))
      · simp only [rest, List.mem_filter, List.mem_range, Bool.not_eq_true', beq_eq_false_iff_ne]
        exact ⟨⟨h1, h2⟩, h4⟩
      · unfold contrib
        rw [hnot s h3]
        exact hx
    have hdst : ∀ d, o.dst = some d → d < a.tmps.size := fun d hd => by rw [hB.1, hsz0]; exact (hst.dst d hd).2
    have hvp : ∀ v j, valsOf deps (a.put o.dst v) j = valsPut deps o.dst v a j := fun v j => List.map_congr_left fun k _ => slp_put hdst k
    -- what holds behind operation i
    have hgive : ∀ v w', GrGives w0 deps φ C i o a X v w' → wpAny P .any ops Q fuel (listed.setIfInBounds i true) (a.put o.dst v) w' := by
      rintro v w' ⟨hφ, hS'⟩
      have hgd : ∀ j d, (listed.setIfInBounds i true).getD j d = if j = i then true else listed.getD j d := by
        intro j d
        by_cases hji : j = i
        · subst hji; simp [hil]
        · rw [if_neg hji]
          simp only [Array.getD_eq_getD_getElem?]
          rw [Array.getElem?_setIfInBounds_ne (fun e => hji e.symm)]
      have hkeep : ∀ j, j < ops.size → j ≠ i → listed.getD j false = true → valsOf deps (a.put o.dst v) j = valsOf deps a j := by
        intro j hj hji hlj
        have hnw : bef ops j i = false := by
          cases hw : bef ops j i with
          | false => rfl
          | true => have := hnot j hw; rw [hlj] at this; cases this
        refine List.map_congr_left fun k hk => ?_
        refine sl_put _ _ _ _ fun hd => ?_
        exact hst.far k hd j hj hji hnw hk
      refine ih _ _ _ (by simp [hsz]) (base_put hB _ (fun d hd => (hst.dst d hd).1) v) (fun j d hu hl => ?_) ?_ ?_ ?_ ?_
      · rw [hgd] at hl
        by_cases hji : j = i
        · rw [if_pos hji] at hl; cases hl
        · rw [if_neg hji] at hl
          rw [sl_put _ _ _ _ (fun hd => uq_ne hu ho (fun e => hji e.symm) hd)]
          exact hU j d hu hl
      · refine hS'.perm ?_
        have h1 := (hparts (contrib deps C κ Z (listed.setIfInBounds i true) (a.put o.dst v))).append_left Lr
        refine List.Perm.trans ?_ h1.symm
        have e1 : contrib deps C κ Z (listed.setIfInBounds i true) (a.put o.dst v) i = C i (valsPut deps o.dst v a i) := by
          unfold contrib
          rw [hgd, if_pos rfl, if_pos rfl, hvp]
          cases hk : κ i with
          | none => rfl
          | some s =>
            obtain ⟨_, hw, hsi⟩ := hst.taker s hk
            simp only
            rw [hgd, if_neg hsi, hnot s hw]
            rfl
        have e2 : (((List.range ops.size).filter (fun j => !(j == i))).filter (fun j => κ j == some i)).flatMap (contrib deps C κ Z (listed.setIfInBounds i true) (a.put o.dst v)) = [] := by
          rw [hfil]
          refine flatMap_none fun j hj => ?_
          rw [List.mem_filter] at hj
          have hj1 : j < ops.size := by simpa using hj.1
          have hj2 : κ j = some i := by simpa using hj.2
          unfold contrib
          rw [hgd, if_neg (hne j hj2), if_pos (hbef j (hwait j hj1 hj2)), hj2]
          simp only
          rw [hgd, if_pos rfl, if_pos rfl]
        have e3 : rest.flatMap (contrib deps C κ Z (listed.setIfInBounds i true) (a.put o.dst v)) = rest.flatMap (contrib deps C κ Z listed a) := by
          refine flatMap_same fun j hj => ?_
          simp only [rest, List.mem_filter, List.mem_range, Bool.not_eq_true', beq_eq_false_iff_ne] at hj
          obtain ⟨⟨hj1, hj2⟩, hj3⟩ := hj
          unfold contrib
          rw [hgd, if_neg hj2]
          cases hlj : listed.getD j false with
          | false => rfl
          | true =>
            rw [hkeep j hj1 hj2 hlj]
            cases hk : κ j with
            | none => rfl
            | some s =>
              have hsi : s ≠ i := fun e => hj3 (by rw [hk, e])
              simp only
              rw [hgd, if_neg hsi]
        rw [e1, e2, e3]
        simp only [X, List.nil_append]
        exact List.perm_append_comm_assoc _ _ _
      · intro j hj hlj
        rw [hgd] at hlj
        by_cases hji : j = i
        · subst hji; rw [hvp]; exact hφ
        rw [if_neg hji] at hlj
        have hlj' : listed.getD j false = true := by
          have h2 : j < listed.size := by omega
          simp [h2] at hlj ⊢
          exact hlj
        rw [hkeep j hj hji hlj']
        exact hF j hj hlj
      · intro j oj k hoj hlj hw
        rw [hgd] at hlj ⊢
        by_cases hki : k = i
        · simp [hki]
        rw [if_neg hki]
        by_cases hji : j = i
        · subst hji
          rw [ho] at hoj
          injection hoj with hoj
          subst hoj
          exact hpre' k hw
        · rw [if_neg hji] at hlj
          exact hcl j oj k hoj hlj hw
      · have hsub : (List.range ops.size).filter (fun j => !(listed.setIfInBounds i true).getD j true) = ((List.range ops.size).filter fun j => !listed.getD j true).filter (fun j => !(j == i)) := by
          rw [List.filter_filter]
          refine List.filter_congr fun j _ => ?_
          rw [hgd]
          by_cases hji : j = i <;> simp [hji]
        rw [hsub]
        have hlt : (((List.range ops.size).filter fun j => !listed.getD j true).filter (fun j => !(j == i))).length < ((List.range ops.size).filter fun j => !listed.getD j true).length := by
          rw [List.length_filter_lt_length_iff_exists]
          exact ⟨i, List.mem_filter.2 ⟨hir, by simp [hun]⟩, by simp⟩
        omega
    unfold wpOp
    rw [ho]
    rcases howe a w X hB (fun j d hu hb => hU j d hu (hnot j hb)) hfacts hXr hXz hXL hS1 with ⟨hw, v, w', hr, hg⟩ | ⟨hw, w', hr, hg⟩ | ⟨hw, f, args, hr, hg⟩ | ⟨hw, hg⟩
    · simp only [hw, if_true, Oper.wp, hr, Oper.upon]
      exact .inl (hgive _ _ hg)
    · simp only [hw, if_true, Oper.wp, hr, Oper.upon]
      exact .inl (hgive _ _ hg)
    · simp only [hw, if_true, Oper.wp, hr, Oper.upon]
      refine .inl (hg.mono ?_)
      rintro e w' ⟨v, rfl, hg'⟩
      exact hgive _ _ hg'
    · simp only [hw, Bool.false_eq_true, if_false]
      exact hgive _ _ hg
theorem region_gr {id n : Nat} {w : World} {l : List (Nat × Value)} (hm : P.follows .mixedOrders = true) (hF : Fr a0 n l) (hs : grOk ops D deps rd zr κ n = true) (hS : St w0 w (Lr ++ (List.range ops.size).flatMap Z))
    (hops : GrOwesAll P ops a0 D w0 Lr deps rd zr φ C κ Z 0 ops.toList)
    (hend : ∀ a w, Base a0 D a → (∀ i, i < ops.size → φ i (valsOf deps a i)) → St w0 w (Lr ++ (List.range ops.size).flatMap fun j => match κ j with | some _ => [] | none => C j (valsOf deps a j)) → Q .normal a w) : (Code.region id ops true).wp P Q a0 w :=
  wp_region_any hm (gr_any hF.size hs hops hend ops.size _ a0 _ (by simp) ⟨rfl, rfl, fun _ _ => rfl⟩ (fun _ _ _ _ => rfl) (by
      have e : (List.range ops.size).flatMap (contrib deps C κ Z (Array.replicate ops.size false) a0) = (List.range ops.size).flatMap Z := by
        refine flatMap_same fun j hj => ?_
        have : j < ops.size := by simpa using hj
        simp [contrib, this]
      rw [e]
      exact hS.drew)
    (fun i hi h => by simp [hi] at h)
    (fun j oj i hj h => by
      have : j < ops.size := by
        rcases Nat.lt_or_ge j ops.size with h | h
        · exact h
        · simp [h] at hj
      simp [this] at h)
    (by have := List.length_filter_le (fun i => !(Array.replicate ops.size false).getD i true) (List.range ops.size); simpa using this))
theorem Fr.region {n:Nat} {l:List (Nat×Value)} {a:Act} (hF:Fr a0 n l) (hB:Base a0 D a) (new:List (Nat×Value)) (hnew : ∀ p ∈ new,sl a p.1=p.2) (hD:(D.all fun d=>(look new d).isSome)=true):Fr a n (new++l):=by
 refine ⟨hB.1.trans hF.size,hB.2.1.trans hF.defers,fun k v hk=>?_⟩
 have happ : ∀ new:List (Nat×Value),(∀ p ∈ new,sl a p.1=p.2) → look (new++l) k=some v → (look new k).isSome=false → look l k=some v:=by
  intro new
  induction new with
  | nil=>intro _ h _; exact h
  | cons p r ih =>
   intro hp h hn
   obtain ⟨d,u⟩:=p
   simp only [List.cons_append,look] at h hn
   cases hb:Nat.beq k d with
   | true=>rw [hb] at hn; simp at hn
   | false=>rw [hb] at h hn; exact ih (fun q hq=>hp q (by simp [hq])) (by simpa using h) (by simpa using hn)
 have hin : ∀ new:List (Nat×Value),(∀ p ∈ new,sl a p.1=p.2) → look (new++l) k=some v → (look new k).isSome=true → sl a k=v:=by
  intro new
  induction new with
  | nil=>intro _ _ h; simp [look] at h
  | cons p r ih =>
   intro hp h hn
   obtain ⟨d,u⟩:=p
   simp only [List.cons_append,look] at h hn
   cases hb:Nat.beq k d with
   | true =>
    rw [hb] at h
    have:=Nat.eq_of_beq_eq_true hb
    subst this
    simp at h
    subst h
    exact hp (k,u) (by simp)
   | false=>rw [hb] at h hn; exact ih (fun q hq=>hp q (by simp [hq])) (by simpa using h) (by simpa using hn)
 cases hn:(look new k).isSome with
 | true=>exact hin new hnew hk hn
 | false =>
  have hD':D.contains k=false:=by
   cases hc:D.contains k with
   | false=>rfl
   | true =>
    have:=List.all_eq_true.1 hD k (by simpa using hc)
    rw [hn] at this
    cases this
  rw [hB.2.2 k hD']
  exact hF.slot k v (happ new hnew hk hn)
end
end Go.Proofs.YtcmnjaccapbhfaaGreat
