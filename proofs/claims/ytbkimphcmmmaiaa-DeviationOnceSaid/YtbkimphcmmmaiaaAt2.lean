/- wave.At at far ticks. -/
import Derived.Test.YtbkimphcmmmaiaaBuild2
namespace Go.Proofs.Ytbkimphcmmmaiaa
open Go.RowKit
set_option linter.unusedVariables false

set_option maxHeartbeats 400000 in
/-- far ticks, too, where the value stays small -/
theorem at2_any (A : Option Addr) (n c : Nat) (p i t : Int) (zs : List Int) (w : World) (hA : Ints w w.heap.size A n zs) (hn : (n : Int) ≤ 1000)
    (hp : 1 ≤ p) (hpn : p ≤ n) (hi : 0 ≤ i) (hz : ∀ k, 0 ≤ nth zs k ∧ nth zs k ≤ 4611686018427387904) (ht0 : 0 ≤ t) (ht : t ≤ 288230376151711744) (hbig : n ≤ t.toNat → (((t.toNat - n) / p.toNat + 1 : Nat) : Int) * i ≤ 1152921504606846976) :
    Calls Try.prog 90 #[.agg #[.slice A n c, .int .i64 p, .int .i64 i], .int .i64 t] w fun e w' => e = .returned (.int .i64 (Cv.at ⟨zs, p, i⟩ t.toNat)) ∧ Below w.heap.size w w' := by
  obtain ⟨p, rfl⟩ := Int.eq_ofNat_of_zero_le (show 0 ≤ p by omega)
  obtain ⟨t, rfl⟩ := Int.eq_ofNat_of_zero_le ht0
  obtain ⟨b, off, rfl, hb, hc⟩ := hA.2 (by omega)
  have hl := hA.1
  simp only [Int.toNat_natCast] at hbig
  by_cases hlt : t < n
  · have hcell := hc t hlt
    clear hc hz hA hbig
    have fin : Cv.at ⟨zs, p, i⟩ t = nth zs t := by simp [Cv.at, hl, hlt]
    have F := Lib.hid fin; clear fin
    have HL := Lib.hid hl; clear hl
    go_enter Try.func90, Try.ntmps90
    go_wp2
    go_ret
    exact ⟨by rw [← F.out]; rfl, (Below.refl _ _).alloc (Nat.le_refl _) _⟩
  · obtain ⟨h1, h2, h3⟩ := idx_bd (t := t) (n := n) (p := p) (by omega) (by omega) (by omega)
    have e1 : ((t : Int) - n) / p = (((t - n) / p : Nat) : Int) := by rw [show (t : Int) - n = ((t - n : Nat) : Int) by omega]; rfl
    have fin : Cv.at ⟨zs, p, i⟩ t = if nth zs (t - ((t - n) / p + 1) * p) = inf then inf else nth zs (t - ((t - n) / p + 1) * p) + (((t - n) / p + 1 : Nat) : Int) * i := by simp [Cv.at, hl, hlt]
    have hq : (t - n) / p ≤ t := by have := Nat.div_le_self (t - n) p; omega
    have hbig := hbig (by omega)
    generalize (t - n) / p = q at *
    obtain ⟨j, hj⟩ : ∃ j, t - (q + 1) * p = j := ⟨_, rfl⟩
    rw [hj] at fin h2 h3
    have hki : ((q : Int) + 1) * i ≤ 1152921504606846976 := by
      have := hbig
      simpa using this
    clear hbig
    have hki0 : 0 ≤ ((q : Int) + 1) * i := Int.mul_nonneg (by omega) hi
    have hpp : ((q : Int) + 1) * p = ((q + 1) * p : Nat) := by simp
    have hqp0 : 0 ≤ ((q : Int) + 1) * p := by omega
    have hqp1 : ((q : Int) + 1) * p ≤ t := by omega
    have e2 : (t : Int) - ((q : Int) + 1) * p = j := by omega
    have hcell := hc _ h2
    have hzz := hz j
    generalize nth zs j = v at *
    clear hc hz hA hpp hj h1
    have F := Lib.hid fin; clear fin
    have HL := Lib.hid hl; clear hl
    rw [show ((q + 1 : Nat) : Int) = (q : Int) + 1 by omega] at F
    by_cases hv : v = inf
    · subst hv
      unfold inf at hcell hzz
      go_enter Try.func90, Try.ntmps90
      go_wp2
      go_ret
      exact ⟨ret_int (by rw [F.out, if_pos trivial]; rfl), (Below.refl _ _).alloc (Nat.le_refl _) _⟩
    · have hv' : (v == 4611686018427387904) = false := by simp only [beq_eq_false_iff_ne]; exact hv
      rw [if_neg hv] at F
      clear hv
      go_enter Try.func90, Try.ntmps90
      go_wp2
      go_ret
      exact ⟨ret_int F.out.symm, (Below.refl _ _).alloc (Nat.le_refl _) _⟩
end Go.Proofs.Ytbkimphcmmmaiaa
