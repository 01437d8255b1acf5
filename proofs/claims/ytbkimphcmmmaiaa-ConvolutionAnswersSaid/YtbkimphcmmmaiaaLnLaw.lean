/- Lines, in plain words, and their convolution. -/
import Derived.Test.YtbkimphcmmmaiaaCpLaw
namespace Go.Proofs.Ytbkimphcmmmaiaa
open Go.RowKit
set_option linter.unusedVariables false

/-- the line with a slope -/
def lnC (r : Int) : Cv := ⟨[0], 1, r⟩
theorem ln_ok {r : Int} (h0 : 0 ≤ r) (h1 : r ≤ 1073741824) : (lnC r).Ok :=
  ⟨by show 1 ≤ 1; omega, by show 1 ≤ 400; omega, by show (1 : Int) ≤ 1; omega, by show (1 : Int) ≤ 120; omega, by show (1 : Int) ≤ ((1 : Nat) : Int); omega, h0, h1,
    fun k hk => by
      have hk' : k < 1 := hk
      have e : k = 0 := by omega
      subst e; rfl,
    by show (0 : Int) ≤ 0; omega, fun k hk => by have hk' : k + 1 < 1 := hk; omega, fun h => by exact absurd (show (0 : Int) = inf from h) (by unfold inf; omega), fun _ => by show (0 : Int) ≤ 0 + r; omega⟩
theorem ln_fin {r : Int} (h0 : 0 ≤ r) (h1 : r ≤ 1073741824) : (lnC r).Fin := ⟨ln_ok h0 h1, fun h => absurd (show (0 : Int) = inf from h) (by unfold inf; omega)⟩
theorem ln_at {r : Int} (h0 : 0 ≤ r) (h1 : r ≤ 1073741824) (t : Nat) : (lnC r).at t = t * r := by
  induction t with
  | zero => rw [Cv.at_lt (by show 0 < 1; omega)]; show (0 : Int) = _; omega
  | succ t ih =>
    have h := (ln_fin h0 h1).toL.step t (by show 1 - 1 ≤ t; omega)
    have e : (lnC r).at (t + 1) = (lnC r).at t + r := h
    rw [e, ih]
    rw [show ((t + 1 : Nat) : Int) = (t : Int) + 1 by omega, Int.add_mul, Int.one_mul]
theorem ln_nf {r : Int} (h0 : 0 ≤ r) (h1 : r ≤ 1073741824) : NF (lnC r).at (lnC r) := by
  refine .inl ⟨by show (1 : Int) ≤ 1; omega, by show (1 : Int) ≤ ((1 : Nat) : Int); omega, fun t ht => ?_, (ln_fin h0 h1).toL.step, fun q s b hq _ => hq, .inl rfl, fun t ht => ?_⟩
  · rw [Cv.at_lt ht]
  · have ht' : t < 1 := ht
    have e : t = 0 := by omega
    subst e
    rw [ln_at h0 h1]; unfold inf; omega
theorem ln_conv {r q : Int} (h0 : 0 ≤ r) (h1 : r ≤ q) (h2 : q ≤ 1073741824) : CvF (lnC r) (lnC q) (lnC r).at := fun t => by
  have fr := ln_fin h0 (show r ≤ 1073741824 by omega)
  have fq := ln_fin (show 0 ≤ q by omega) h2
  refine CvT.of (.inr ⟨⟨t, ⟨Nat.le_refl _, fr.not_infAt _, fq.not_infAt _⟩, ?_⟩, fun s hs => ?_⟩)
  · rw [ln_at (by omega) h2, Nat.sub_self]; omega
  · have h3 := hs.1
    rw [ln_at h0 (by omega), ln_at h0 (by omega), ln_at (by omega) h2]
    obtain ⟨u, rfl⟩ : ∃ u, t = s + u := ⟨t - s, by omega⟩
    rw [show s + u - s = u by omega, show ((s + u : Nat) : Int) = (s : Int) + u by omega, Int.add_mul]
    have : (u : Int) * r ≤ (u : Int) * q := Int.mul_le_mul_of_nonneg_left h1 (by omega)
    omega
theorem ln_cvs {r q : Int} (h0 : 0 ≤ r) (h1 : r ≤ q) (h2 : q ≤ 1073741824) : CvS (lnC r) (lnC q) (lnC r) 0 :=
  .inr ⟨ln_ok h0 (by omega), ln_ok (by omega) h2, lnC r, lnC q, ln_nf h0 (by omega), ln_nf (by omega) h2, .inr ⟨(by show comm 1 1 ≤ 120; decide), (lnC r).at, ln_conv h0 h1 h2, .inl ⟨ln_nf h0 (by omega), (ln_ok h0 (by omega)).lim, rfl⟩⟩⟩
end Go.Proofs.Ytbkimphcmmmaiaa
