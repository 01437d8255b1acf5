/- Plain words: the curves of token buckets and of staircases; nothing of the program. -/
import Derived.Test.YthdibkmjoiipgaaMade
namespace Go.Proofs.Ythdibkmjoiipgaa
set_option linter.unusedVariables false

/-- a function that does not decrease, is 0 or more, and grows by i in each p ticks from 1 on, has a curve, if its numbers are small enough -/
theorem lim_of {h : Nat → Int} (hu : Up0 h) {p : Nat} {i : Int} (hp : 1 ≤ p) (hp2 : p ≤ 120) (H : Per h 1 p i) (hb : ∀ t, t ≤ p → h t ≤ 1073741824) (hi : i ≤ 1073741824) : ∃ g, NF h g ∧ Lim g ∧ g.Ok := by
  obtain ⟨g, hg, hl, hq⟩ := nf_exists hp H (fun t ht => by have := hb t (by omega); unfold inf; omega)
  have hp1 := hg.p1; have hpn := hg.pn
  have hinc : g.inc ≤ i := by
    have h1 := hg.per (1 + g.vals.length) (by omega)
    have h2 := H (1 + g.vals.length) (by omega)
    have h3 := hu.le (show 1 + g.vals.length + g.per.toNat ≤ 1 + g.vals.length + p by omega)
    omega
  have hL : Lim g := ⟨by omega, fun k hk => (okv_iff _).2 (.inr (by rw [hg.vals k hk]; exact hb k (by omega))), by omega, by omega⟩
  exact ⟨g, .inl hg, hL, nf_lim_ok (.inl hg) hu hL⟩
theorem MadeS.eq {h : Nat → Int} {f g : Cv} {er : Int} (m : MadeS h f er) (hg : NF h g) (hl : Lim g) : f = g ∧ er = 0 := MadeS.unique m ⟨g, hg, .inl ⟨hl, rfl, rfl⟩⟩

/-! ### Token buckets: burst B / b, rate R / r -/
def tokV (B b R r : Int) (t : Nat) : Int := if t = 0 then 0 else (B * r + R * ((t : Int) - 1) * b) / (b * r)
theorem tok_parts {B b X r : Int} (hb : 1 ≤ b) (hr : 1 ≤ r) : (B * r + X * b) / (b * r) = B / b + X / r + (B % b * r + X % r * b) / (b * r) := by
  have hbr : b * r ≠ 0 := by
    have : 0 < b * r := Int.mul_pos (by omega) (by omega)
    omega
  have h1 := Int.mul_ediv_add_emod B b
  have h2 := Int.mul_ediv_add_emod X r
  have e : B * r + X * b = (B % b * r + X % r * b) + (b * r) * (B / b + X / r) := by
    generalize B / b = u at *
    generalize B % b = v at *
    generalize X / r = y at *
    generalize X % r = z at *
    subst h1 h2
    simp only [Int.add_mul, Int.mul_add]
    have e1 : b * u * r = b * r * u := by rw [Int.mul_assoc, Int.mul_comm u r, ← Int.mul_assoc]
    have e2 : r * y * b = b * r * y := by rw [Int.mul_comm (r * y) b, ← Int.mul_assoc]
    rw [e1, e2]
    omega
  rw [e, Int.add_mul_ediv_left _ _ hbr]
  omega
theorem tok_zero (B b R r : Int) : tokV B b R r 0 = 0 := rfl
theorem tok_pos (B b R r : Int) {t : Nat} (ht : 1 ≤ t) : tokV B b R r t = (B * r + R * ((t : Int) - 1) * b) / (b * r) := if_neg (by omega)
theorem tok_per {B b R r : Int} (hb : 1 ≤ b) (hr : 1 ≤ r) : Per (tokV B b R r) 1 r.toNat R := by
  intro t ht
  have hbr : b * r ≠ 0 := by
    have : 0 < b * r := Int.mul_pos (by omega) (by omega)
    omega
  rw [tok_pos _ _ _ _ (by omega), tok_pos _ _ _ _ ht]
  have e : B * r + R * (((t + r.toNat : Nat) : Int) - 1) * b = B * r + R * ((t : Int) - 1) * b + (b * r) * R := by
    have h1 : (((t + r.toNat : Nat) : Int) - 1) = ((t : Int) - 1) + r := by omega
    rw [h1, Int.mul_add, Int.add_mul]
    have e1 : R * r * b = b * r * R := by rw [Int.mul_comm, Int.mul_comm R r, ← Int.mul_assoc]
    rw [e1]; omega
  rw [e, Int.add_mul_ediv_left _ _ hbr]
theorem tok_up {B b R r : Int} (hB : 0 ≤ B) (hb : 1 ≤ b) (hR : 0 ≤ R) (hr : 1 ≤ r) : Up0 (tokV B b R r) := by
  have hbr : 0 < b * r := Int.mul_pos (by omega) (by omega)
  have hBr : 0 ≤ B * r := Int.mul_nonneg hB (by omega)
  refine ⟨Int.le_refl _, fun t => ?_⟩
  have hpos : ∀ t : Nat, 1 ≤ t → 0 ≤ R * ((t : Int) - 1) * b := fun t ht => Int.mul_nonneg (Int.mul_nonneg hR (by omega)) (by omega)
  by_cases h0 : t = 0
  · subst h0
    rw [tok_zero, tok_pos _ _ _ _ (by omega)]
    have := hpos 1 (by omega)
    exact Int.ediv_nonneg (by omega) (by omega)
  · rw [tok_pos _ _ _ _ (by omega), tok_pos _ _ _ _ (by omega)]
    refine Int.ediv_le_ediv hbr ?_
    have : R * ((t : Int) - 1) * b ≤ R * (((t + 1 : Nat) : Int) - 1) * b :=
      Int.mul_le_mul_of_nonneg_right (Int.mul_le_mul_of_nonneg_left (by omega) hR) (by omega)
    omega
theorem tok_le {B b R r : Int} (hB : 0 ≤ B) (hb : 1 ≤ b) (hR : 0 ≤ R) (hr : 1 ≤ r) {t : Nat} (ht : 1 ≤ t) : tokV B b R r t ≤ B + R * ((t : Int) - 1) := by
  have hbr : 0 < b * r := Int.mul_pos (by omega) (by omega)
  rw [tok_pos _ _ _ _ ht]
  have hX : 0 ≤ R * ((t : Int) - 1) := Int.mul_nonneg hR (by omega)
  obtain ⟨X, hXe⟩ : ∃ X, X = R * ((t : Int) - 1) := ⟨_, rfl⟩
  rw [← hXe] at hX ⊢
  have h1 : B * r ≤ B * (b * r) := Int.mul_le_mul_of_nonneg_left (by
    have : 1 * r ≤ b * r := Int.mul_le_mul_of_nonneg_right hb (by omega)
    omega) hB
  have h2 : X * b ≤ X * (b * r) := Int.mul_le_mul_of_nonneg_left (by
    have : b * 1 ≤ b * r := Int.mul_le_mul_of_nonneg_left hr (by omega)
    omega) hX
  have h3 : (B * r + X * b) / (b * r) ≤ ((B + X) * (b * r)) / (b * r) := Int.ediv_le_ediv hbr (by rw [Int.add_mul]; omega)
  rw [Int.mul_ediv_cancel _ (by omega)] at h3
  exact h3

/-! ### Staircases: S bytes every E ticks, A ticks ahead -/
def stV (S E A : Int) (t : Nat) : Int := if t = 0 then 0 else S * (((t : Int) + A + E - 1) / E)
theorem st_zero (S E A : Int) : stV S E A 0 = 0 := rfl
theorem st_pos (S E A : Int) {t : Nat} (ht : 1 ≤ t) : stV S E A t = S * (((t : Int) + A + E - 1) / E) := if_neg (by omega)
theorem st_per {S E A : Int} (hE : 1 ≤ E) : Per (stV S E A) 1 E.toNat S := by
  intro t ht
  rw [st_pos _ _ _ (by omega), st_pos _ _ _ ht]
  have e : ((t + E.toNat : Nat) : Int) + A + E - 1 = ((t : Int) + A + E - 1) + E * 1 := by omega
  rw [e, Int.add_mul_ediv_left _ _ (by omega), Int.mul_add, Int.mul_one]
theorem st_up {S E A : Int} (hS : 0 ≤ S) (hE : 1 ≤ E) (hA : 0 ≤ A) : Up0 (stV S E A) := by
  refine ⟨Int.le_refl _, fun t => ?_⟩
  by_cases h0 : t = 0
  · subst h0
    rw [st_zero, st_pos _ _ _ (by omega)]
    exact Int.mul_nonneg hS (Int.ediv_nonneg (by omega) (by omega))
  · rw [st_pos _ _ _ (by omega), st_pos _ _ _ (by omega)]
    exact Int.mul_le_mul_of_nonneg_left (Int.ediv_le_ediv (by omega) (by omega)) hS
theorem st_le {S E A : Int} (hS : 0 ≤ S) (hE : 1 ≤ E) (hA : 0 ≤ A) {t : Nat} (ht : 1 ≤ t) : stV S E A t ≤ S * ((t : Int) + A) := by
  rw [st_pos _ _ _ ht]
  refine Int.mul_le_mul_of_nonneg_left ?_ hS
  have h1 : ((t : Int) + A + E - 1) / E ≤ (((t : Int) + A) * E) / E := Int.ediv_le_ediv (by omega) (by
    have : ((t : Int) + A - 1) * 1 ≤ ((t : Int) + A - 1) * E := Int.mul_le_mul_of_nonneg_left hE (by omega)
    have e : ((t : Int) + A - 1) * E = ((t : Int) + A) * E - E := by rw [Int.sub_mul, Int.one_mul]
    omega)
  rw [Int.mul_ediv_cancel _ (by omega)] at h1
  exact h1
end Go.Proofs.Ythdibkmjoiipgaa
