/- 'append' onto a row of the call's own from whatever slice: nil, empty, or not. -/
import Derived.Test.YtcmnjaccapbhfaaGreatQOwn
import Derived.Maps.AppendAt
import Derived.OwnWalk
import Derived.Maps.AppendAt
import Derived.Test.YtcmnjaccapbhfaaGreatQApp
namespace Go.Proofs.YtcmnjaccapbhfaaGreat
open Go.ChangeShapes Go.WideShapes Go.ChangeAt Go.RowKit
section
variable {P:Program} (w:World)
theorem run_append_src_at (base:Nat) (t ty e:TypeId) (i:TypeInfo) (z:Value) (size bytes:Nat) (ht:P.underlying t=some (.slice e)) (hi:P.info? e=some i) (hz : i.zero=some z)
  (hsize : i.size=size) (hby : i.bytes=bytes) (hzs : z.cells.size=size) (hsz : 0 < size)
  (v:Value) (n:Nat) (xs:List Value) (hown : w.ownsRow base e size v n xs) (A:Option Addr) (m c:Nat) (news:List Value) (hr:Rd w size A m news) (h1 : ∀ u ∈ news,u.oneCell'=true)
  (h63 : n+m ≤ maxLen) (hbytes:(n+m) * bytes ≤ 140737488355328) (hbase : base ≤ w.heap.size) :
  ∃ v' w',(Builtin.append_ #[t,t] ty #[v,.slice A m c]).run P w=.ok v' w'∧w'.ownsRow base e size v' (n+m) (xs++news)∧w.grownBy w' v.ownBlock∧(v'.ownBlock=v.ownBlock ∨ v'.ownBlock=some w.heap.size):=by
 cases A with
 | none =>
  have hm : m=0:=by
   rcases Nat.eq_zero_or_pos m with h0 | h0
   ·exact h0
   ·obtain ⟨b,off,h,_⟩:=hr.2 h0
    cases h
  subst hm
  have hn : news=[]:=List.eq_nil_of_length_eq_zero (by simpa using hr.1)
  subst hn
  refine ⟨v,w,?_,by simpa using hown,grown_refl _ _,.inl rfl⟩
  rcases hown.2 with ⟨rfl,rfl⟩ | ⟨g,cap,cur,rfl,_,_,hnc,_⟩
  ·simp [Builtin.append_,run_underlying ht,sizeOf,typeInfo,hi,Builtin.lenOf,Builtin.firstCells]
  ·simp [Builtin.append_,run_underlying ht,sizeOf,typeInfo,hi,Builtin.lenOf,Builtin.firstCells,hnc,storeCells]
 | some ad =>
  have hcells : ∀ j u,news[j]?=some u → w.cell? (ad.add j)=some u:=by
   intro j u hu
   rcases Nat.eq_zero_or_pos m with h0 | h0
   ·subst h0
    have hn : news=[]:=List.eq_nil_of_length_eq_zero (by simpa using hr.1)
    subst hn
    simp at hu
   ·obtain ⟨b,off,hA,hc⟩:=hr.2 h0
    injection hA with hA
    subst hA
    rw [Go.WideShapes.add_plain]
    exact hc j u hu
  obtain ⟨v',w',hrun,h2,h3,_,h4⟩:=run_append_own_at (P:=P) w base t ty e i z size bytes ht hi hz hsize hby hzs hsz v n xs hown ad m c news hr.1 hcells h1 h63 hbytes hbase
  exact ⟨v',w',hrun,h2,h3,h4⟩
end
def Ow (w:World) (t:TypeId) (size:Nat) (v:Value) (n:Nat) (xs:List Value):Prop :=
 xs.length=n * size ∧
 ((v=.slice none 0 0∧n=0) ∨
 ∃ g off cap cur,v=.slice (some ⟨g,off,none⟩) n cap∧w.heap[g]?=some (.cells cur t (0,0))∧n ≤ cap∧cap ≤ maxLen∧off+cap * size ≤ cur.size∧(cur.toList.drop off).take (n * size)=xs)
section
variable {w w':World} {t:TypeId} {size n c:Nat} {v:Value} {xs:List Value} {A:Option Addr}
theorem Ow.of {lo:Nat} (h : w.ownsRow lo t size v n xs):Ow w t size v n xs:=by
 refine ⟨h.1,?_⟩
 rcases h.2 with h2 | ⟨g,cap,cur,rfl,hl,hg,h1,h2,h3,h4⟩
 ·exact .inl h2
 ·exact .inr ⟨g,0,cap,cur,rfl,hg,h1,h2,by omega,by simpa using h4⟩
theorem Ow.nil (w:World) (t:TypeId) (size:Nat):Ow w t size (.slice none 0 0) 0 []:=⟨by simp,.inl ⟨rfl,rfl⟩⟩
theorem Ow.lt (h:Ow w t size v n xs) : ∀ k,v.ownBlock=some k → k < w.heap.size:=by
 intro k hk
 rcases h.2 with ⟨rfl,_⟩ | ⟨g,off,cap,cur,rfl,hg,_⟩
 ·simp [Value.ownBlock] at hk
 ·simp [Value.ownBlock] at hk
  subst hk
  exact (Array.getElem?_eq_some_iff.1 hg).1
theorem Ow.kept (h:Ow w t size v n xs) (hk : ∀ g,v.ownBlock=some g → w'.heap[g]?=w.heap[g]?):Ow w' t size v n xs:=by
 refine ⟨h.1,?_⟩
 rcases h.2 with h2 | ⟨g,off,cap,cur,rfl,hg,r⟩
 ·exact .inl h2
 ·exact .inr ⟨g,off,cap,cur,rfl,(hk g rfl).trans hg,r⟩
theorem Ow.form (h:Ow w t size v n xs) : ∃ A c,v=.slice A n c∧n ≤ c∧c ≤ maxLen:=by
 rcases h.2 with ⟨rfl,rfl⟩ | ⟨g,off,cap,cur,rfl,hg,h1,h2,_⟩
 ·exact ⟨none,0,rfl,Nat.le_refl _,Nat.zero_le _⟩
 ·exact ⟨_,cap,rfl,h1,h2⟩
theorem Ow.cap (h:Ow w t size (.slice A n c) n xs) : n ≤ c:=by
 obtain ⟨_,_,e,h1,_⟩:=h.form
 injection e with _ _ e3
 omega
theorem Ow.cells {g off:Nat} {cur:Array Value} (hg : w.heap[g]?=some (.cells cur t (0,0))) (hx:(cur.toList.drop off).take (n * size)=xs) : ∀ j u,xs[j]?=some u → w.cell? ⟨g,off+j,none⟩=some u:=by
 intro j u hu
 rw [cell_of_row w g _ cur t (0,0) hg]
 rw [← hx,List.getElem?_take] at hu
 split at hu
 ·rw [List.getElem?_drop] at hu
  simpa using hu
 ·cases hu
theorem Ow.rd (h:Ow w t size (.slice A n c) n xs):Rd w size A n xs:=by
 refine ⟨h.1,fun hn=>?_⟩
 rcases h.2 with ⟨e,h0⟩ | ⟨g,off,cap,cur,e,hg,_,_,_,hx⟩
 ·omega
 ·injection e with e1 _ _
  exact ⟨g,off,e1,Ow.cells hg hx⟩
end
section
variable {P:Program} (w:World)
theorem run_append_room_at (t ty e:TypeId) (i:TypeInfo) (ht:P.underlying t=some (.slice e)) (hi:P.info? e=some i)
  (g off sLen sCap:Nat) (cur:Array Value) (hg : w.heap[g]?=some (.cells cur e (0,0)))
  (a:Addr) (m c:Nat) (news:List Value) (hl : news.length=m * i.size) (hnews : ∀ j u,news[j]?=some u → w.cell? (a.add j)=some u) (h1 : ∀ u ∈ news,u.oneCell'=true)
  (hroom : sLen+m ≤ sCap) (hfit : off+sLen * i.size+news.length ≤ cur.size) :
  (Builtin.append_ #[t,t] ty #[.slice (some ⟨g,off,none⟩) sLen sCap,.slice (some a) m c]).run P w =
   .ok (.slice (some ⟨g,off,none⟩) (sLen+m) sCap) (w.setRow g (cur.toList.take (off+sLen * i.size)++news++cur.toList.drop (off+sLen * i.size+news.length)).toArray):=by
 have hf:=run_firstCells_some (P:=P) w i.size m a m c news hl hnews
 have hst:=run_storeCells_at P g (off+sLen * i.size) e news 0 cur w hg (by simpa using hfit) h1
 simp only [Nat.add_zero] at hst
 simp [Builtin.append_,run_underlying ht,sizeOf,typeInfo,hi,Builtin.lenOf,hroom,hf,Go.WideShapes.add_plain,hst]
theorem room_list {α:Type} (cur news:List α) (off a k:Nat) (h : off+a+news.length ≤ cur.length) (hk : k=a+news.length):((cur.take (off+a)++news++cur.drop (off+a+news.length)).drop off).take k=(cur.drop off).take a++news:=by
 subst hk
 rw [List.append_assoc,List.drop_append,List.drop_take,show off+a - off=a by omega,show off - (cur.take (off+a)).length=0 by simp; omega,List.drop_zero,← List.append_assoc]
 exact List.take_left' (by simp; omega)
theorem run_append_ow (t ty e : TypeId) (i : TypeInfo) (z : Value) (size bytes : Nat) (ht : P.underlying t = some (.slice e)) (hi : P.info? e = some i) (hz : i.zero = some z)
    (hsize : i.size = size) (hby : i.bytes = bytes) (hzs : z.cells.size = size) (hsz : 0 < size)
    (v : Value) (n : Nat) (xs : List Value) (hown : Ow w e size v n xs) (A : Option Addr) (m c : Nat) (news : List Value) (hr : Rd w size A m news) (h1 : ∀ u ∈ news, u.oneCell' = true)
    (h63 : n + m ≤ maxLen) (hbytes : (n + m) * bytes ≤ 140737488355328) :
    ∃ v' w', (Builtin.append_ #[t, t] ty #[v, .slice A m c]).run P w = .ok v' w' ∧ Ow w' e size v' (n + m) (xs ++ news) ∧ w.grownBy w' v.ownBlock ∧ (v'.ownBlock = v.ownBlock ∨ v'.ownBlock = some w.heap.size) := by
  have hown' := hown
  rcases hown.2 with ⟨rfl, rfl⟩ | ⟨g, off, cap, cur, rfl, hg, hnc, hcm, hcs, hx⟩
  · have hx : xs = [] := List.eq_nil_of_length_eq_zero (by simpa using hown.1)
    subst hx
    obtain ⟨v', w', hrun, h2, h3, h4⟩ := run_append_src_at (P := P) w 0 t ty e i z size bytes ht hi hz hsize hby hzs hsz (.slice none 0 0) 0 [] (World.ownsRow_nil _ _ _ _) A m c news hr h1 h63 hbytes (Nat.zero_le _)
    exact ⟨v', w', hrun, Ow.of h2, h3, h4⟩
  cases A with
  | none =>
    have hm : m = 0 := by
      rcases Nat.eq_zero_or_pos m with h0 | h0
      · exact h0
      · obtain ⟨b, off, h, _⟩ := hr.2 h0
        cases h
    subst hm
    have hn : news = [] := List.eq_nil_of_length_eq_zero (by simpa using hr.1)
    subst hn
    refine ⟨_, w, ?_, by simpa using hown', grown_refl _ _, .inl rfl⟩
    simp [Builtin.append_, run_underlying ht, sizeOf, typeInfo, hi, Builtin.lenOf, Builtin.firstCells, hnc, storeCells]
  | some ad =>
    have hcells : ∀ j u, news[j]? = some u → w.cell? (ad.add j) = some u := by
      intro j u hu
      rcases Nat.eq_zero_or_pos m with h0 | h0
      · subst h0
        have hn : news = [] := List.eq_nil_of_length_eq_zero (by simpa using hr.1)
        subst hn
        simp at hu
      · obtain ⟨b, off, hA, hc⟩ := hr.2 h0
        injection hA with hA
        subst hA
        rw [Go.WideShapes.add_plain]
        exact hc j u hu
    subst hsize
    subst hby
    have hsmall : n + m ≤ 9223372036854775807 := by simp only [maxLen] at h63; omega
    have hl := hr.1
    have hlen : (xs ++ news).length = (n + m) * i.size := by rw [List.length_append, hown.1, hl, Nat.add_mul]
    by_cases hroom : n + m ≤ cap
    · have hnm : (n + m) * i.size ≤ cap * i.size := Nat.mul_le_mul_right _ hroom
      have hfit : off + n * i.size + news.length ≤ cur.size := by rw [hl]; rw [Nat.add_mul] at hnm; omega
      have hrun := run_append_room_at (P := P) w t ty e i ht hi g off n cap cur hg ad m c news hl hcells h1 hroom hfit
      refine ⟨_, _, hrun, ⟨hlen, .inr ⟨g, off, cap, _, rfl, setRow_heap w g cur _ e _ hg, hroom, hcm, ?_, ?_⟩⟩, ⟨rfl, rfl, rfl, by simp, fun k _ hk => setRow_other w g k _ (fun e => hk (by simp [Value.ownBlock, e]))⟩, Or.inl rfl⟩
      · simp only [List.size_toArray, List.length_append, List.length_take, List.length_drop, Array.length_toList]
        omega
      · rw [room_list cur.toList news off (n * i.size) _ (by simpa using hfit) (by rw [hl, Nat.add_mul]), hx]
    · have holds : ∀ j u, xs[j]? = some u → w.cell? ((⟨g, off, none⟩ : Addr).add j) = some u := fun j u hu => by
        rw [Go.WideShapes.add_plain]; exact Ow.cells hg hx j u hu
      have hrun := run_append_grow (P := P) w t ty e i z ht hi hz ⟨g, off, none⟩ n cap xs hown.1 holds ad m c news hl hcells (by omega) (by omega) (growslice_fits (by omega) hbytes)
      have hge := grownCap_ge w (n + m) cap e
      have hcm : grownCap w (n + m) cap e ≤ maxLen := grownCap_le_maxLen w (n + m) cap e h63
      refine ⟨_, _, hrun, ⟨hlen, .inr ⟨w.heap.size, 0, _, _, rfl, heap_alloc_new w.drew _, hge, hcm, ?_, ?_⟩⟩, ⟨rfl, rfl, rfl, by simp, fun k hk _ => heap_alloc_old w.drew _ hk⟩, Or.inr rfl⟩
      · simp only [Array.size_append, List.size_toArray, size_zeroCells, hzs, hown.1, hl, ← Nat.add_mul]
        rw [Nat.zero_add]
        apply Nat.le_of_eq
        congr 1
        omega
      · simp only [Array.toList_append, List.append_assoc, List.drop_zero]
        rw [← List.append_assoc, ← hlen]
        exact List.take_left
end
end Go.Proofs.YtcmnjaccapbhfaaGreat
