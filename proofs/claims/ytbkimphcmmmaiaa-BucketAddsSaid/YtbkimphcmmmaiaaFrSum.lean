/- Sums of small fractions; normal forms: plain words. -/
import Derived.Test.YtbkimphcmmmaiaaTokLaw
import Derived.Test.YtbkimphcmmmaiaaArith
namespace Go.Proofs.Ytbkimphcmmmaiaa
open Go.RowKit
set_option linter.unusedVariables false

theorem mul_le_iff {a b k : Int} (hk : 1 ≤ k) : a * k ≤ b * k ↔ a ≤ b :=
  ⟨fun h => Int.le_of_mul_le_mul_right h (by omega), fun h => Int.mul_le_mul_of_nonneg_right h (by omega)⟩
/-- the normal form's period is at most any -/
theorem nf_per_le {h : Nat → Int} {g : Cv} {s p : Nat} {i : Int} (hg : NF h g) (hp : 1 ≤ p) (H : Per h s p i) (hne : ∀ t, t < s + p → h t ≠ inf) : g.per ≤ p := by
  obtain ⟨k, hk, _, hq⟩ := nf_exists hp H hne
  obtain rfl := NF.unique hg (.inl hk)
  exact hq
theorem nf_fin {h : Nat → Int} {g : Cv} (hg : NF h g) (ho : g.Ok) (hne : ∀ t, t ≤ 400 → h t ≠ inf) : g.Fin := by
  have h1 := ho.n1; have h2 := ho.n2
  refine ⟨ho, ?_⟩
  rw [← Cv.at_lt (by omega), hg.at]
  exact hne _ (by omega)
theorem nf_self {h : Nat → Int} {g a : Cv} (hg : NF h g) (ha : NF g.at a) : a = g := by
  have e : g.at = h := funext hg.at
  rw [e] at ha
  exact NF.unique ha hg
/-- fractions of small numbers are exact -/
theorem fnew_small2 {n d : Int} (h1 : -1073741824 ≤ n) (h1' : n ≤ 1073741824) (h2 : 1 ≤ d) (h3 : d ≤ 1073741824) : (fnew n d).2.2 = 0 ∧ (fnew n d).1 * d = n * (fnew n d).2.1 ∧ (0 ≤ n → 0 ≤ (fnew n d).1 ∧ (fnew n d).1 ≤ n) ∧ (fnew n d).2.1 ≤ d := by
  have hg : 0 < Nat.gcd n.natAbs d.natAbs := Nat.gcd_pos_of_pos_right _ (by omega)
  have d1 := Nat.div_mul_cancel (Nat.gcd_dvd_left n.natAbs d.natAbs)
  have d2 := Nat.div_mul_cancel (Nat.gcd_dvd_right n.natAbs d.natAbs)
  have l1 := Nat.div_le_self n.natAbs (Nat.gcd n.natAbs d.natAbs)
  have l2 := Nat.div_le_self d.natAbs (Nat.gcd n.natAbs d.natAbs)
  unfold fnew
  generalize n.natAbs / Nat.gcd n.natAbs d.natAbs = x at *
  generalize d.natAbs / Nat.gcd n.natAbs d.natAbs = y at *
  generalize Nat.gcd n.natAbs d.natAbs = g at *
  rw [if_pos (by omega)]
  refine ⟨rfl, ?_, ?_, ?_⟩
  · show (if n < 0 then -(x : Int) else (x : Int)) * d = n * (y : Int)
    have ed : d = (y : Int) * (g : Int) := by
      have : d = ((y * g : Nat) : Int) := by omega
      rw [this, Int.natCast_mul]
    have ex : (x : Int) * (g : Int) = ((x * g : Nat) : Int) := by rw [Int.natCast_mul]
    split
    · have en : n = -((x : Int) * (g : Int)) := by omega
      rw [ed, en, Int.neg_mul, Int.neg_mul, Int.mul_assoc, Int.mul_comm (y : Int) (g : Int)]
    · have en : n = (x : Int) * (g : Int) := by omega
      rw [ed, en, Int.mul_assoc, Int.mul_comm (y : Int) (g : Int)]
  · intro h
    show 0 ≤ (if n < 0 then -(x : Int) else (x : Int)) ∧ (if n < 0 then -(x : Int) else (x : Int)) ≤ n
    rw [if_neg (by omega)]
    omega
  · show (y : Int) ≤ d
    omega
theorem fadd_small {a b c d : Int} (h1 : FOk a b) (h2 : FOk c d) (ha : 0 ≤ a) (ha1 : a ≤ 1000) (hb : b ≤ 1000) (hc : 0 ≤ c) (hc1 : c ≤ 1000) (hd : d ≤ 1000) : (fadd a b c d).2.2 = 0 ∧ FOk (fadd a b c d).1 (fadd a b c d).2.1 ∧ (fadd a b c d).1 * (b * d) = (a * d + c * b) * (fadd a b c d).2.1 ∧ 0 ≤ (fadd a b c d).1 ∧ (fadd a b c d).1 ≤ 2000000 ∧ (fadd a b c d).2.1 ≤ 1000000 := by
  have hb0 := h1.1; have hd0 := h2.1
  have m1 : 0 ≤ a * d := Int.mul_nonneg ha (by omega)
  have m2 : a * d ≤ 1000 * 1000 := Int.mul_le_mul ha1 hd (by omega) (by omega)
  have m3 : 0 ≤ c * b := Int.mul_nonneg hc (by omega)
  have m4 : c * b ≤ 1000 * 1000 := Int.mul_le_mul hc1 hb (by omega) (by omega)
  have m5 : 1 * 1 ≤ b * d := Int.mul_le_mul hb0 hd0 (by omega) (by omega)
  have m6 : b * d ≤ 1000 * 1000 := Int.mul_le_mul hb hd (by omega) (by omega)
  unfold fadd
  rw [if_pos ⟨h1, h2⟩]
  obtain ⟨e1, e2, e3, e4⟩ := fnew_small2 (n := a * d + c * b) (d := b * d) (by omega) (by omega) (by omega) (by omega)
  have := e3 (by omega)
  exact ⟨e1, fnew_ok (by omega) e1, e2, this.1, by omega, by omega⟩
theorem fsub_one {a b : Int} (h1 : FOk a b) (ha : 0 ≤ a) (ha1 : a ≤ 2000000) (hb : b ≤ 1000000) : (fsub a b 1 1).2.2 = 0 ∧ FOk (fsub a b 1 1).1 (fsub a b 1 1).2.1 ∧ (fsub a b 1 1).1 * b = (a - b) * (fsub a b 1 1).2.1 := by
  have hb0 := h1.1
  unfold fsub
  rw [if_pos ⟨h1, by decide⟩, Int.mul_one, Int.mul_one, Int.one_mul]
  obtain ⟨e1, e2, _⟩ := fnew_small2 (n := a - b) (d := b) (by omega) (by omega) (by omega) (by omega)
  exact ⟨e1, fnew_ok (by omega) e1, e2⟩
end Go.Proofs.Ytbkimphcmmmaiaa
