/- Models that give a result of which something is known; draws. -/
import Derived.Test.YtccacgplfcnpkaaDoorDraw
namespace Go.Proofs.YtccacgplfcnpkaaDoor
set_option linter.unusedVariables false
set_option linter.unusedSimpArgs false

/-- The model gives a result, and it is one of P. -/
def Ys {α : Type} (m : Option α) (P : α → Prop) : Prop := ∃ r, m = some r ∧ P r
section
variable {α β γ : Type} {P Q : α → Prop} {m x y : Option α} {b g : Bool}
theorem ys_some {a : α} (h : P a) : Ys (some a) P := ⟨a, rfl, h⟩
theorem ys_mono (h : Ys m Q) (k : ∀ a, Q a → P a) : Ys m P := by obtain ⟨a, h1, h2⟩ := h; exact ⟨a, h1, k a h2⟩
theorem ys_bind {m : Option β} {f : β → Option α} {Q : β → Prop} (h : Ys m Q) (k : ∀ b, Q b → Ys (f b) P) : Ys (Option.bind m f) P := by
  obtain ⟨b, rfl, h1⟩ := h
  exact k b h1
theorem ys_then {m : Option β} {f : β → Option α} (h : Ys m fun b => Ys (f b) P) : Ys (Option.bind m f) P := ys_bind h fun _ k => k
theorem ys_chk (h : b = true) (k : Ys m P) : Ys (chk b m) P := by subst h; exact k
theorem ys_bif (h1 : b = true → Ys x P) (h2 : b = false → Ys y P) : Ys (bif b then x else y) P := by
  cases b with
  | true => exact h1 rfl
  | false => exact h2 rfl
theorem ys_gb [Inhabited α] (h1 : g = true → Ys m P) (h2 : g = false → P default) : Ys (gb g m) P := by
  cases g with
  | true => exact h1 rfl
  | false => exact ⟨default, rfl, h2 rfl⟩
theorem ys_elim {f : β → Option α} {f' : γ → Option α} {z : β ⊕ γ} (h1 : ∀ b, z = .inl b → Ys (f b) P) (h2 : ∀ c, z = .inr c → Ys (f' c) P) : Ys (Sum.elim f f' z) P := by
  cases z with
  | inl b => exact h1 b rfl
  | inr c => exact h2 c rfl
theorem ys_eq {a : α} (h : m = some a) (k : P a) : Ys m P := ⟨a, h, k⟩
/-- A loop that comes to an end. -/
theorem ys_loop {σ : Type} {R : α → Prop} (L : Nat → σ → Option α) (μ : σ → Nat) (I : σ → Prop) (hstep : ∀ fuel s, I s → (∀ s', I s' → μ s' < μ s → Ys (L fuel s') R) → Ys (L (fuel + 1) s) R) : ∀ (fuel : Nat) (s : σ), I s → μ s < fuel → Ys (L fuel s) R := by
  intro fuel
  induction fuel with
  | zero => intro s _ h; omega
  | succ fuel ih => intro s hs hm; exact hstep fuel s hs fun s' h1 h2 => ih s' h1 (by omega)
end
theorem ys_pick {b : List Int} {P : Int × Int → Prop} (hb : Code b) {p n : Int} (hp : 0 ≤ p ∧ p ≤ 1000000) (hn : n ≤ 1000000) (h : ∀ v, 0 ≤ v → (1 ≤ n → v < n) → (n < 1 → v = 0) → P (v, p + 1)) : Ys (m_spec_l20Rd_pick b p n) P := by
  obtain ⟨v, h1, h2, h3, h4⟩ := pick_ok hb hp hn
  exact ⟨_, h1, h v h2 h3 h4⟩
theorem ys_odd {b : List Int} {P : Bool × Int → Prop} (hb : Code b) {p n : Int} (hp : 0 ≤ p ∧ p ≤ 1000000) (hn : 1 ≤ n ∧ n ≤ 1000000) (h : ∀ v, P (v, p + 1)) : Ys (m_spec_l20Rd_odd b p n) P := by
  obtain ⟨v, h1⟩ := odd_ok hb hp hn
  exact ⟨_, h1, h v⟩
theorem wM {n : Int} (h : -1000000000 ≤ n ∧ n ≤ 1000000000) : w64 n = n := w64_in (by omega) (by omega)
theorem tdiv_in {x k n : Int} (h0 : 0 ≤ x) (h1 : x < n) (hk : 1 ≤ k) : 0 ≤ x.tdiv k ∧ x.tdiv k < n := by
  have := Int.tdiv_le_self k h0
  have := Int.tdiv_nonneg h0 (show 0 ≤ k by omega)
  omega
theorem w_range (n : Int) : -9223372036854775808 ≤ w64 n ∧ w64 n ≤ 9223372036854775807 := by
  have h : w64 n = IntKind.i64.wrap n := rfl
  rw [h, IntKind.wrap_i64]
  omega
end Go.Proofs.YtccacgplfcnpkaaDoor
