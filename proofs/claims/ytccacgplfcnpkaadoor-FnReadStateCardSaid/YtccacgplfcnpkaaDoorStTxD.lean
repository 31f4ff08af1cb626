/- Texts of states: models and laws in plain Lean. -/
import Derived.Test.YtccacgplfcnpkaaDoorDaM
import Derived.Test.YtccacgplfcnpkaaDoorSm
namespace Go.Proofs.YtccacgplfcnpkaaDoor
set_option linter.unusedVariables false
set_option linter.unusedSimpArgs false

def ch (b : Bool) : UInt8 := if b then 49 else 48
def textOf (l : List Bool) : ByteArray := ⟨(l.map ch).toArray⟩
def is1 (c : UInt8) : Bool := ((c.toNat : Int) == 49)
def isBitC (c : UInt8) : Bool := ((c.toNat : Int) == 48) || ((c.toNat : Int) == 49)
def bitsOf (s : ByteArray) : List Bool := s.data.toList.map is1
def stText (l : List Bool) : ByteArray := if l.length ≤ 10 then textOf l else ⟨#[]⟩
def readSt (s : ByteArray) : List Bool × Bool := if s.size ≤ 10 ∧ s.data.toList.all isBitC = true then (bitsOf s, true) else ([], false)
theorem ba_ext {a b : ByteArray} (h : a.data.toList = b.data.toList) : a = b := by
  cases a; cases b
  simp at h
  rw [ByteArray.mk.injEq]
  exact h
theorem size_list (s : ByteArray) : s.data.toList.length = s.size := by simp
theorem text_data (l : List Bool) : (textOf l).data.toList = l.map ch := by simp [textOf]
theorem text_size (l : List Bool) : (textOf l).size = l.length := by rw [← size_list, text_data]; simp
theorem is1_ch (b : Bool) : is1 (ch b) = b := by cases b <;> rfl
theorem bit_ch (b : Bool) : isBitC (ch b) = true := by cases b <;> rfl
theorem ch_is1 {c : UInt8} (h : isBitC c = true) : ch (is1 c) = c := by
  simp only [isBitC, Bool.or_eq_true, beq_iff_eq] at h
  rcases h with h | h
  · have : c = 48 := UInt8.toNat_inj.1 (by have : c.toNat = 48 := by omega
                                           rw [this]; rfl)
    subst this; rfl
  · have : c = 49 := UInt8.toNat_inj.1 (by have : c.toNat = 49 := by omega
                                           rw [this]; rfl)
    subst this; rfl
theorem bits_text (l : List Bool) : bitsOf (textOf l) = l := by
  unfold bitsOf; rw [text_data, List.map_map]
  have : is1 ∘ ch = id := funext is1_ch
  rw [this, List.map_id]
theorem text_bits {s : ByteArray} (h : s.data.toList.all isBitC = true) : textOf (bitsOf s) = s := by
  apply ba_ext
  rw [text_data, bitsOf, List.map_map]
  have := List.all_eq_true.1 h
  have e : s.data.toList.map (ch ∘ is1) = s.data.toList.map id := List.map_congr_left fun c hc => ch_is1 (this c hc)
  rw [e, List.map_id]
theorem read_text {l : List Bool} (h : l.length ≤ 10) : readSt (textOf l) = (l, true) := by
  unfold readSt
  rw [if_pos ⟨by rw [text_size]; exact h, by rw [text_data, List.all_map]; exact List.all_eq_true.2 fun b _ => bit_ch b⟩, bits_text]
theorem byte_is1 (s : ByteArray) (k : Nat) : (byteAt s (k : Int) == 49) = is1 (s.data.toList.getD k 0) := by simp [byteAt, is1]

/-! The models. -/
def num (b : Bool) : Int := if b then 49 else 48
theorem nums_text (l : List Bool) : strOfNums (l.map num) = textOf l := by
  unfold strOfNums textOf
  rw [List.map_map]
  have : ((fun n : Int => UInt8.ofNat n.toNat) ∘ num) = ch := funext fun b => by cases b <;> rfl
  rw [this]
theorem iSt (l : List Bool) (hl : l.length ≤ 1000) : m_impl_StateText l = some (stText l) := by
  unfold m_impl_StateText stText
  by_cases h : l.length ≤ 10
  · rw [if_pos h, show ltB 10 (l.length : Int) = false from decide_eq_false (by omega), show mkB (l.length : Int) = true from decide_eq_true (by omega)]
    have hh := to_loop (m_impl_StateText_l1 l) (l.map num) (List.replicate l.length 0) (by simp) (by simp; omega) (fun fuel x j hj hx => by
      have hj' : j < l.length := by simpa using hj
      rw [m_impl_StateText_l1.eq_2]
      simp only [lt_dec hj', ix_dec hj', chk_true, cond_true, Int.toNat_natCast, w64_succ (by omega : j < 4611686018427387904), getD_ge hj', List.getElem_map]
      cases l[j] <;> rfl) (fun fuel x hx => by rw [m_impl_StateText_l1.eq_2]; simp [nlt_dec])
    simp only [cond_false, chk_true]
    rw [hh, ← nums_text]; rfl
  · rw [if_neg h, show ltB 10 (l.length : Int) = true from decide_eq_true (by omega)]; rfl
theorem text_snoc (l : List Bool) (b : Bool) : textOf l ++ ⟨#[ch b]⟩ = textOf (l ++ [b]) := by
  apply ba_ext
  rw [text_data, ByteArray.data_append, Array.toList_append, text_data]
  simp
theorem sSt (l : List Bool) (hl : l.length ≤ 1000) : m_spec_StateText l = some (stText l) := by
  unfold m_spec_StateText stText
  by_cases h : l.length ≤ 10
  · rw [if_pos h]
    have hh := loop_all (m_spec_StateText_l1 l) (fun k => (textOf (l.take k), (k : Int))) l.length (some (textOf l)) (by omega) (fun k fuel hk => by
      rw [m_spec_StateText_l1.eq_2]
      have c1 : leB (l.length : Int) 10 = true := decide_eq_true (by omega)
      have hs : (textOf (l.take k)).size = k := by rw [text_size]; simp; omega
      have c2 : ∀ c : UInt8, stB (textOf (l.take k)).size ({ data := #[c] } : ByteArray).size = true := fun c => decide_eq_true (by rw [hs]; show k + 1 ≤ _; omega)
      simp only [lt_dec hk, ix_dec hk, c1, c2, Bool.and_self, chk_true, cond_true, Int.toNat_natCast, w64_succ (by omega : k < 4611686018427387904), getD_ge hk]
      rw [List.take_succ_eq_append_getElem hk, ← text_snoc]
      cases l[k] <;> rfl) (fun fuel => by rw [m_spec_StateText_l1.eq_2]; simp [nlt_dec])
    rw [show m_spec_StateText_l1 l FUEL (({ data := #[] } : ByteArray), 0) = _ from hh]; rfl
  · rw [if_neg h]
    have hh : m_spec_StateText_l1 l FUEL (({ data := #[] } : ByteArray), 0) = some ⟨#[]⟩ := by
      have : FUEL = (FUEL - 1) + 1 := by unfold FUEL; rfl
      rw [this, m_spec_StateText_l1.eq_2]
      have c1 : leB (l.length : Int) 10 = false := decide_eq_false (by omega)
      simp only [c1, Bool.and_false, cond_false]
    rw [hh]; rfl
theorem iRd (s : ByteArray) (hs : s.size ≤ 1048576) : m_impl_ReadState s = some (readSt s) := by
  unfold m_impl_ReadState readSt
  by_cases h : s.size ≤ 10
  · rw [show ltB 10 (s.size : Int) = false from decide_eq_false (by omega), show mkB (s.size : Int) = true from decide_eq_true (by omega)]
    have hb : (bitsOf s).length = s.size := by simp [bitsOf]
    have hh := to_loop (m_impl_ReadState_l1 s) (bitsOf s) (List.replicate s.size false) (by simp [hb]) (by omega) (fun fuel x j hj hx => by
      have hj' : j < s.size := by omega
      have hj2 : j < s.data.toList.length := by rw [size_list]; exact hj'
      rw [m_impl_ReadState_l1.eq_2]
      simp only [lt_dec hj', ix_dec hj', chk_true, cond_true, Int.toNat_natCast, w64_succ (by omega : j < 4611686018427387904), byte_is1, getD_ge hj2]
      rw [show (bitsOf s)[j] = is1 s.data.toList[j] from by simp [bitsOf]]) (fun fuel x hx => by rw [m_impl_ReadState_l1.eq_2, hb]; simp [nlt_dec])
    simp only [cond_false, chk_true]
    rw [hh]
    simp only [Option.bind_some]
    rw [iSt (bitsOf s) (by omega)]
    have hst : stText (bitsOf s) = textOf (bitsOf s) := by unfold stText; rw [if_pos (by omega)]
    rw [hst]
    simp only [Option.bind_some]
    by_cases ha : s.data.toList.all isBitC = true
    · rw [if_pos ⟨h, ha⟩, text_bits ha]; simp
    · rw [if_neg (fun k => ha k.2)]
      have hne : ((textOf (bitsOf s)).toList == s.toList) = false := by
        rw [beq_eq_false_iff_ne, ByteArray.toList_eq, ByteArray.toList_eq]
        intro e
        have e := ba_ext e
        apply ha
        rw [← e, text_data, List.all_map]
        exact List.all_eq_true.2 fun b _ => bit_ch b
      rw [hne]; rfl
  · rw [if_neg (fun k => h k.1), show ltB 10 (s.size : Int) = true from decide_eq_true (by omega)]; rfl
theorem sRd (s : ByteArray) (hs : s.size ≤ 1048576) : m_spec_ReadState s = some (readSt s) := by
  unfold m_spec_ReadState readSt
  by_cases h : s.size ≤ 10
  · rw [show ltB 10 (s.size : Int) = false from decide_eq_false (by omega)]
    have hh := loop_find (m_spec_ReadState_l1 s) (fun k => ((bitsOf s).take k, (k : Int))) s.size (fun k => !isBitC (s.data.toList.getD k 0)) (some (.inr ([], false))) (some (.inl (bitsOf s))) (by omega) (fun k fuel hk => by
      have hk2 : k < s.data.toList.length := by rw [size_list]; exact hk
      have hk3 : k < (bitsOf s).length := by simpa [bitsOf] using hk
      rw [m_spec_ReadState_l1.eq_2]
      have a1 : ∀ b : Bool, apB ((bitsOf s).take k).length ([b] : List Bool).length = true := fun b => decide_eq_true (by simp [bitsOf]; omega)
      have e1 : ((byteAt s (k : Int) != 48) && (byteAt s (k : Int) != 49)) = !isBitC (s.data.toList.getD k 0) := by
        unfold byteAt isBitC; simp only [Int.toNat_natCast, Bool.not_or]; rfl
      simp only [lt_dec hk, ix_dec hk, e1, a1, Bool.or_true, chk_true, cond_true, Int.toNat_natCast, w64_succ (by omega : k < 4611686018427387904), byte_is1]
      rw [List.take_succ_eq_append_getElem hk3, show (bitsOf s)[k] = is1 (s.data.toList.getD k 0) from by rw [getD_ge hk2]; simp [bitsOf]]) (fun fuel => by
      rw [m_spec_ReadState_l1.eq_2, List.take_of_length_le (by simp [bitsOf])]; simp [nlt_dec])
    rw [← size_list s, any_list s.data.toList 0 (fun c => !isBitC c)] at hh
    have hany : s.data.toList.any (fun c => !isBitC c) = !s.data.toList.all isBitC := by simp [List.all_eq_not_any_not]
    rw [hany] at hh
    simp only [cond_false]
    rw [show m_spec_ReadState_l1 s FUEL ([], 0) = _ from hh]
    by_cases ha : s.data.toList.all isBitC = true
    · rw [if_pos ⟨h, ha⟩, ha]; rfl
    · rw [if_neg (fun k => ha k.2), show s.data.toList.all isBitC = false by simpa using ha]; rfl
  · rw [if_neg (fun k => h k.1), show ltB 10 (s.size : Int) = true from decide_eq_true (by omega)]; rfl

/-! Draws. -/
theorem st_size (l : List Bool) : (stText l).size ≤ 10 := by
  unfold stText
  split
  · rw [text_size]; assumption
  · exact Nat.zero_le _
theorem odd0 (b : List Int) (p : Int) : m_spec_l20Rd_odd b p 0 = some (false, p) := rfl
theorem netl_ok {b : List Int} (hb : Code b) {r : Int × Int} {n p : Int} (hr : r.2 ≤ 1000) (hn : 0 ≤ n ∧ n ≤ 20) (hp : 0 ≤ p ∧ p ≤ 1000) : Ys (m_spec_l20Net_l1 b r FUEL (n, p, [])) fun x => (0 ≤ x.1 ∧ x.1 ≤ p + 60) ∧ x.2.length ≤ 20 := by
  refine ys_loop (m_spec_l20Net_l1 b r) (fun s => s.1.toNat) (fun s => (0 ≤ s.1 ∧ s.1 + s.2.2.length ≤ n) ∧ (0 ≤ s.2.1 ∧ s.2.1 + 3 * s.1 ≤ p + 3 * n)) (fun fuel s hs ih => ?_) FUEL _ ⟨by (try dsimp only); simp; omega, by (try dsimp only); omega⟩ (by (try dsimp only); unfold FUEL; omega)
  obtain ⟨k, q, l⟩ := s
  dsimp only at hs ih ⊢
  obtain ⟨h1, h2⟩ := hs
  rw [m_spec_l20Net_l1.eq_2]
  dsimp only
  refine ys_bif (fun hc => ?_) (fun hc => ?_)
  · rw [Bool.and_eq_true] at hc
    have hc1 := ltB_t hc.1
    have hc2 := ltB_t hc.2
    refine ys_then (ys_pick hb (by (try dsimp only); omega) (by omega) fun v v0 v1 _ => ?_)
    rw [wM (n := r.2 - 1) (by omega)]
    refine ys_then (ys_pick hb (by (try dsimp only); omega) (by omega) fun u u0 u1 _ => ?_)
    refine ys_chk (by simp [nzB]; omega) ?_
    refine ys_then (ys_pick hb (by (try dsimp only); omega) (by omega) fun u u0 u1 _ => ?_)
    refine ys_chk (by simp [apB]; omega) ?_
    dsimp only
    rw [wM (n := k - 1) (by omega)]
    exact ih _ ⟨by simp; omega, by (try dsimp only); omega⟩ (by (try dsimp only); omega)
  · exact ys_some ⟨by (try dsimp only); omega, by (try dsimp only); omega⟩
theorem drawNet_ok {b : List Int} (hb : Code b) : Ys (m_spec_l20Net b 0 0) fun r => r.2.1.length ≤ 20 ∧ (0 ≤ r.2.2 ∧ r.2.2 ≤ 100) := by
  unfold m_spec_l20Net
  refine ys_then (ys_pick hb (by omega) (by omega) fun v v0 v1 _ => ?_)
  have v2 := v1 (by omega)
  refine ys_then (ys_pick hb (by (try dsimp only); omega) (by omega) fun u u0 u1 _ => ?_)
  refine ys_bind (Q := fun r => (0 ≤ r.1 ∧ r.1 ≤ 3) ∧ r.2 ≤ 1000) ?_ fun r hr => ?_
  · refine ys_bif (fun _ => ?_) (fun _ => ys_some ⟨by (try dsimp only); omega, by (try dsimp only); rw [wM (n := 1 + v) (by omega)]; omega⟩)
    refine ys_then (ys_pick hb (by (try dsimp only); omega) (by omega) fun x x0 x1 _ => ?_)
    have x2 := x1 (by omega)
    exact ys_some ⟨by (try dsimp only); omega, by (try dsimp only); rw [wM (n := 4 + x) (by omega)]; omega⟩
  refine ys_then (ys_pick hb (by omega) (by omega) fun x x0 x1 _ => ?_)
  have x2 := x1 (by omega)
  refine ys_bind (netl_ok hb hr.2 (by (try dsimp only); omega) (by (try dsimp only); omega)) fun z hz => ?_
  rw [odd0]
  simp only [Option.bind_some, cond_false]
  exact ys_some ⟨hz.2, by (try dsimp only); omega⟩
theorem statel_ok {b : List Int} (hb : Code b) {q : Int × Int} {x3 : List (Int × Int × Int)} (hx : x3.length ≤ 20) {p : Int} (hp : 0 ≤ p ∧ p ≤ 1000) : Ys (m_spec_l20State_l1 b x3 q FUEL ([], 0, p)) fun r => r.1.length ≤ 20 ∧ (0 ≤ r.2 ∧ r.2 ≤ p + 20) := by
  refine ys_loop (m_spec_l20State_l1 b x3 q) (fun s => x3.length - s.2.1.toNat) (fun s => (0 ≤ s.2.1 ∧ s.2.1 ≤ x3.length ∧ (s.1.length : Int) = s.2.1) ∧ (0 ≤ s.2.2 ∧ s.2.2 = p + s.2.1)) (fun fuel s hs ih => ?_) FUEL _ ⟨by (try dsimp only); simp, by (try dsimp only); omega⟩ (by (try dsimp only); unfold FUEL; omega)
  obtain ⟨l, k, r⟩ := s
  dsimp only at hs ih ⊢
  obtain ⟨h1, h2⟩ := hs
  rw [m_spec_l20State_l1.eq_2]
  dsimp only
  refine ys_bif (fun hc => ?_) (fun hc => ?_)
  · have hc := ltB_t hc
    refine ys_then (ys_pick hb (by (try dsimp only); omega) (by omega) fun v v0 v1 _ => ?_)
    refine ys_chk (by simp [apB]; omega) ?_
    rw [wM (n := k + 1) (by omega)]
    exact ih _ ⟨by simp; omega, by (try dsimp only); omega⟩ (by (try dsimp only); omega)
  · exact ys_some ⟨by (try dsimp only); omega, by (try dsimp only); omega⟩
theorem drawState_ok {b : List Int} (hb : Code b) {x1 n : Int} {x3 : List (Int × Int × Int)} (hx : x3.length ≤ 20) (hp : 0 ≤ x1 ∧ x1 ≤ 500) : Ys (m_spec_l20State b x1 n x3 0) fun r => r.1.length ≤ 20 ∧ (0 ≤ r.2 ∧ r.2 ≤ x1 + 30) := by
  unfold m_spec_l20State
  refine ys_then (ys_pick hb (by omega) (by omega) fun v v0 v1 _ => ?_)
  refine ys_bind (statel_ok hb hx (by (try dsimp only); omega)) fun z hz => ?_
  rw [odd0]
  simp only [Option.bind_some, cond_false]
  exact ys_some ⟨hz.1, by (try dsimp only); omega⟩
section
variable {b : List Int} (hb : ∀ z ∈ b, inU z)
include hb
theorem drawTx_ok : Ys (m_spec_DrawStateText b) fun l => l.length ≤ 20 := by
  unfold m_spec_DrawStateText m_spec_DrawStateNumber
  refine ys_bind (Q := fun l => l.length ≤ 20) ?_ fun l hl => ys_some hl
  refine ys_bind (drawNet_ok (code_of hb)) fun r hr => ?_
  refine ys_bind (drawState_ok (code_of hb) hr.1 (by omega)) fun z hz => ?_
  refine ys_then (ys_odd (code_of hb) (by omega) (by omega) fun o => ?_)
  refine ys_bif (fun _ => ys_chk (by decide) (ys_some (by simp))) (fun _ => ys_some hz.1)
theorem drawRd_ok : Ys (m_spec_DrawReadState b) fun s => s.size ≤ 1000 := by
  unfold m_spec_DrawReadState
  refine ys_bind (drawNet_ok (code_of hb)) fun r hr => ?_
  refine ys_bind (drawState_ok (code_of hb) hr.1 (by omega)) fun z hz => ?_
  refine ys_then (ys_eq (sSt z.1 (by omega)) ?_)
  have hsz := st_size z.1
  refine ys_then (ys_pick (code_of hb) (by omega) (by omega) fun v v0 v1 _ => ?_)
  refine ys_bif (fun _ => ?_) (fun _ => ys_some (by omega))
  refine ys_then (ys_pick (code_of hb) (by (try dsimp only); omega) (by omega) fun u u0 u1 _ => ?_)
  have u2 := u1 (by omega)
  have hu : u = 0 ∨ u = 1 ∨ u = 2 ∨ u = 3 := by omega
  refine ys_chk (decide_eq_true (by (try dsimp only); simp; omega)) ?_
  have hsz2 : ∀ c : ByteArray, (stText z.1 ++ c).size = (stText z.1).size + c.size := fun c => ByteArray.size_append
  dsimp only
  have hc : (([({ data := #[50] } : ByteArray), ({ data := #[32] } : ByteArray), ({ data := #[49] } : ByteArray), ({ data := #[48, 48, 48, 48, 48, 48, 48, 48, 48, 48, 48] } : ByteArray)] : List ByteArray).getD u.toNat ByteArray.empty).size ≤ 11 := by
    rcases hu with rfl | rfl | rfl | rfl <;> decide
  exact ys_chk (decide_eq_true (by omega)) (ys_some (by rw [hsz2]; omega))
end

/-! The laws. -/
theorem door_FnStateText (x0 : List Int) (h0 : x0.length ≤ maxLen) (h1 : ∀ z ∈ x0, inU z) : m_laws_FnStateText x0 = some true := by
  unfold m_laws_FnStateText
  rcases Bool.eq_false_or_eq_true (ltB 1048576 (x0.length : Int)) with h | h <;> rw [h]
  · rfl
  obtain ⟨l, e, hl⟩ := drawTx_ok h1
  have hsz := st_size l
  simp only [cond_false, e, Option.bind_some, iSt l (by omega), sSt l (by omega), beq_self_eq_true, cond_true, iRd (stText l) (by omega), alive_ok]
  by_cases hl2 : l.length ≤ 10
  · have e1 : stText l = textOf l := by unfold stText; rw [if_pos hl2]
    have c1 : ltB 10 (l.length : Int) = false := decide_eq_false (by omega)
    rw [e1, read_text hl2]
    simp only [c1, sameBools_eq l l (by omega), decide_true, Bool.false_and, Bool.not_false, Bool.and_self, gb, cond_true, Option.bind_some, Bool.or_true]
  · have e1 : stText l = ⟨#[]⟩ := by unfold stText; rw [if_neg hl2]
    have c1 : ltB 10 (l.length : Int) = true := decide_eq_true (by omega)
    have e2 : readSt ⟨#[]⟩ = ([], true) := rfl
    rw [e1, e2]
    simp only [c1, beq_self_eq_true, Bool.and_self, Bool.not_true, Bool.and_false, gb, cond_false, Option.bind_some, Bool.true_or, cond_true]
theorem door_FnReadState (x0 : List Int) (h0 : x0.length ≤ maxLen) (h1 : ∀ z ∈ x0, inU z) : m_laws_FnReadState x0 = some true := by
  unfold m_laws_FnReadState
  rcases Bool.eq_false_or_eq_true (ltB 1048576 (x0.length : Int)) with h | h <;> rw [h]
  · rfl
  obtain ⟨s, e, hs⟩ := drawRd_ok h1
  have hlen : (readSt s).1.length ≤ 1000 := by
    unfold readSt; split
    · simp [bitsOf]; omega
    · simp
  simp only [cond_false, e, Option.bind_some, iRd s (by omega), sRd s (by omega), sameBools_eq (readSt s).1 (readSt s).1 (by omega), decide_true, bne_self_eq_false, Bool.not_true, Bool.or_self, alive_ok]
  by_cases ha : s.size ≤ 10 ∧ s.data.toList.all isBitC = true
  · have e1 : readSt s = (bitsOf s, true) := by unfold readSt; rw [if_pos ha]
    have c1 : stB s.size ({ data := #[50] } : ByteArray).size = true := decide_eq_true (by show s.size + 1 ≤ _; omega)
    have e2 : readSt (s ++ ⟨#[50]⟩) = ([], false) := by
      unfold readSt
      rw [if_neg]
      rintro ⟨_, hall⟩
      rw [ByteArray.data_append, Array.toList_append, List.all_append, Bool.and_eq_true] at hall
      have := hall.2
      revert this; decide
    have hsz2 : (s ++ ⟨#[50]⟩ : ByteArray).size ≤ 1048576 := by rw [ByteArray.size_append]; show s.size + 1 ≤ _; omega
    have hb : (bitsOf s).length ≤ 10 := by simp [bitsOf]; exact ha.1
    have e3 : stText (bitsOf s) = s := by unfold stText; rw [if_pos hb, text_bits ha.2]
    rw [e1]
    simp only [cond_true, c1, chk_true, iRd _ hsz2, e2, iSt (bitsOf s) (by omega), e3, Option.bind_some, beq_self_eq_true, Bool.not_false, Bool.and_self]
  · have e1 : readSt s = ([], false) := by unfold readSt; rw [if_neg ha]
    rw [e1]; rfl
end Go.Proofs.YtccacgplfcnpkaaDoor
