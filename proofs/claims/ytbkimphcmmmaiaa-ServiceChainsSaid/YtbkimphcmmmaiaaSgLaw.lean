/- Greater rates and lesser latencies have greater curves: the plain law. -/
import Derived.Test.YtbkimphcmmmaiaaFrSum
import Derived.Test.YtbkimphcmmmaiaaDelLaw
namespace Go.Proofs.Ytbkimphcmmmaiaa
open Go.RowKit
set_option linter.unusedVariables false

theorem pc_rate {R r R' r' L l : Int} (hR : 0 ≤ R) (hr : 1 ≤ r) (hR' : 0 ≤ R') (hr' : 1 ≤ r') (hl : 1 ≤ l) (h : R * r' ≤ R' * r) (t : Nat) : pcV R r L l t ≤ pcV R' r' L l t := by
  by_cases ht : (t : Int) * l ≤ L
  · rw [pc_early hR hr hl ht]; exact pc_nn _ _ _ _ _
  · rw [pc_late hR hr hl (by omega), pc_late hR' hr' hl (by omega)]
    obtain ⟨m, hm⟩ : ∃ m, m = cdiv (R' * t * l - R' * L) (r' * l) := ⟨_, rfl⟩
    rw [← hm, cdiv_le (rl_pos hr hl)]
    have h1 := (cdiv_le (rl_pos hr' hl)).1 (Int.le_of_eq hm.symm)
    have e1 : R * t * l - R * L = R * ((t : Int) * l - L) := by rw [Int.mul_sub, Int.mul_assoc]
    have e2 : R' * t * l - R' * L = R' * ((t : Int) * l - L) := by rw [Int.mul_sub, Int.mul_assoc]
    rw [e1]
    rw [e2] at h1
    have hX : 0 ≤ (t : Int) * l - L := by omega
    generalize (t : Int) * l - L = X at *
    refine (mul_le_iff hr').1 ?_
    have k1 := Int.mul_le_mul_of_nonneg_right h hX
    have k2 := Int.mul_le_mul_of_nonneg_right h1 (show 0 ≤ r by omega)
    have a1 : R * X * r' = R * r' * X := by rw [Int.mul_assoc, Int.mul_comm X, ← Int.mul_assoc]
    have a2 : R' * X * r = R' * r * X := by rw [Int.mul_assoc, Int.mul_comm X, ← Int.mul_assoc]
    have a3 : m * (r' * l) * r = m * (r * l) * r' := by rw [Int.mul_assoc, Int.mul_assoc m, Int.mul_assoc r', Int.mul_comm l r, Int.mul_comm r']
    rw [a1, ← a3]
    rw [a2] at k2
    omega
theorem pc_lat {R r L l L' l' : Int} (hR : 0 ≤ R) (hr : 1 ≤ r) (hl : 1 ≤ l) (hl' : 1 ≤ l') (h : L * l' ≤ L' * l) (t : Nat) : pcV R r L' l' t ≤ pcV R r L l t := by
  by_cases ht : (t : Int) * l' ≤ L'
  · rw [pc_early hR hr hl' ht]; exact pc_nn _ _ _ _ _
  · have ht2 : L ≤ (t : Int) * l := by
      refine (mul_le_iff hl').1 ?_
      have k := Int.mul_le_mul_of_nonneg_right (show L' ≤ (t : Int) * l' by omega) (show 0 ≤ l by omega)
      have a1 : (t : Int) * l' * l = (t : Int) * l * l' := by rw [Int.mul_assoc, Int.mul_comm l', ← Int.mul_assoc]
      omega
    rw [pc_late hR hr hl' (by omega), pc_late hR hr hl ht2]
    obtain ⟨m, hm⟩ : ∃ m, m = cdiv (R * t * l - R * L) (r * l) := ⟨_, rfl⟩
    rw [← hm, cdiv_le (rl_pos hr hl')]
    have h1 := (cdiv_le (rl_pos hr hl)).1 (Int.le_of_eq hm.symm)
    have k0 := Int.mul_le_mul_of_nonneg_left h hR
    have k2 := Int.mul_le_mul_of_nonneg_right h1 (show 0 ≤ l' by omega)
    refine (mul_le_iff hl).1 ?_
    generalize (t : Int) = T at *
    have a1 : (R * T * l' - R * L') * l = R * T * l' * l - R * (L' * l) := by grind
    have a2 : (R * T * l - R * L) * l' = R * T * l' * l - R * (L * l') := by grind
    have a3 : m * (r * l) * l' = m * (r * l') * l := by grind
    omega
/-- a sum of small fractions -/
theorem fadd_fit {a b c d : Int} (h1 : GOk a b) (h2 : GOk c d) (ha1 : a ≤ 1000) (hb : b ≤ 1000) (hc1 : c ≤ 1000) (hd : d ≤ 1000) : (fadd a b c d).2.2 = 0 ∧ GOk (fadd a b c d).1 (fadd a b c d).2.1 ∧ a * (fadd a b c d).2.1 ≤ (fadd a b c d).1 * b ∧ (fadd a b c d).1 ≤ a * d + c * b ∧ (fadd a b c d).2.1 ≤ b * d := by
  have hb0 := h1.1.1; have hd0 := h2.1.1; have ha := h1.2; have hc := h2.2
  have m1 : 0 ≤ a * d := Int.mul_nonneg ha (by omega)
  have m2 : a * d ≤ 1000 * 1000 := Int.mul_le_mul ha1 hd (by omega) (by omega)
  have m3 : 0 ≤ c * b := Int.mul_nonneg hc (by omega)
  have m4 : c * b ≤ 1000 * 1000 := Int.mul_le_mul hc1 hb (by omega) (by omega)
  have m5 : 1 * 1 ≤ b * d := Int.mul_le_mul hb0 hd0 (by omega) (by omega)
  have m6 : b * d ≤ 1000 * 1000 := Int.mul_le_mul hb hd (by omega) (by omega)
  unfold fadd
  rw [if_pos ⟨h1.1, h2.1⟩]
  obtain ⟨e1, e2, e3, e4⟩ := fnew_small2 (n := a * d + c * b) (d := b * d) (by omega) (by omega) (by omega) (by omega)
  have e5 := e3 (by omega)
  have o := fnew_ok (n := a * d + c * b) (d := b * d) (by omega) e1
  refine ⟨e1, ⟨o, e5.1⟩, ?_, e5.2, e4⟩
  generalize (fnew (a * d + c * b) (b * d)).1 = x at *
  generalize (fnew (a * d + c * b) (b * d)).2.1 = y at *
  refine (mul_le_iff hd0).1 ?_
  have k : 0 ≤ c * b * y := Int.mul_nonneg m3 (by have := o.1; omega)
  have a1 : a * y * d = a * d * y := by rw [Int.mul_assoc, Int.mul_comm y, ← Int.mul_assoc]
  have a2 : x * b * d = x * (b * d) := Int.mul_assoc _ _ _
  have a3 : (a * d + c * b) * y = a * d * y + c * b * y := Int.add_mul _ _ _
  omega
theorem floor_eq {n d : Int} (hd : 1 ≤ d) : (if n < n.tdiv d * d then n.tdiv d - 1 else n.tdiv d) = n / d := by
  have h1 := Int.mul_tdiv_add_tmod n d
  have h2 := Int.tmod_lt_of_pos n (show 0 < d by omega)
  have h3 := Int.lt_tmod_of_pos n (show 0 < d by omega)
  rw [Int.mul_comm] at h1
  obtain ⟨q, hq⟩ : ∃ q, q = n.tdiv d := ⟨_, rfl⟩
  rw [← hq] at h1 ⊢
  generalize n.tmod d = m at *
  have u : ∀ X : Int, X * d ≤ n → n < (X + 1) * d → X = n / d := fun X h4 h5 => by
    have a1 := (Int.le_ediv_iff_mul_le (show 0 < d by omega)).2 h4
    have a2 := (Int.ediv_lt_iff_lt_mul (show 0 < d by omega)).2 h5
    omega
  split
  · refine u _ ?_ ?_
    · rw [Int.sub_mul]; omega
    · rw [Int.sub_add_cancel]; omega
  · refine u _ (by omega) ?_
    rw [Int.add_mul]; omega
end Go.Proofs.Ytbkimphcmmmaiaa
