/- A latency of whole ticks is a delay: the plain law. -/
import Derived.Test.YthdibkmjoiipgaaPace
import Derived.Test.YthdibkmjoiipgaaArith
namespace Go.Proofs.Ythdibkmjoiipgaa
open Go.RowKit
set_option linter.unusedVariables false

theorem gcd_shift (L l n : Nat) : Nat.gcd (L + n * l) l = Nat.gcd L l := by
  rw [Nat.gcd_comm, Nat.gcd_comm L l, Nat.mul_comm n l]
  exact Nat.gcd_add_mul_left_right l L n
theorem whole_eq {L l n : Int} (h : GOk L l) (hL : L ≤ 1000) (hl : l ≤ 1000) (h0 : 0 ≤ n) (h1 : n ≤ 1000) : fadd L l n 1 = (L + n * l, l, 0) := by
  have hl0 := h.1.1; have hL0 := h.2
  have hn0 : 0 ≤ n * l := Int.mul_nonneg h0 (by omega)
  have hn1 : n * l ≤ 1000 * 1000 := Int.mul_le_mul h1 hl (by omega) (by omega)
  have hf : FOk n 1 := ⟨by omega, by omega, by omega, by omega, by simp⟩
  unfold fadd
  rw [if_pos ⟨h.1, hf⟩, Int.mul_one, Int.mul_one]
  have e : (L + n * l).natAbs = L.natAbs + n.natAbs * l.natAbs := by
    have e1 : (n * l).natAbs = n.natAbs * l.natAbs := Int.natAbs_mul _ _
    omega
  have g : Nat.gcd (L + n * l).natAbs l.natAbs = 1 := by rw [e, gcd_shift]; exact h.1.2.2.2.2
  unfold fnew
  rw [g, Nat.div_one, Nat.div_one, if_pos (by omega), if_neg (by omega), Int.natAbs_of_nonneg (by omega), Int.natAbs_of_nonneg (by omega)]
theorem whole_ok {L l n : Int} (h : GOk L l) (hL : L ≤ 1000) (hl : l ≤ 1000) (h0 : 0 ≤ n) (h1 : n ≤ 1000) : GOk (L + n * l) l := by
  have hl0 := h.1.1; have hL0 := h.2
  have hn0 : 0 ≤ n * l := Int.mul_nonneg h0 (by omega)
  have hn1 : n * l ≤ 1000 * 1000 := Int.mul_le_mul h1 hl (by omega) (by omega)
  have e : (L + n * l).natAbs = L.natAbs + n.natAbs * l.natAbs := by
    have e1 : (n * l).natAbs = n.natAbs * l.natAbs := Int.natAbs_mul _ _
    omega
  exact ⟨⟨hl0, by omega, by omega, by omega, by rw [e, gcd_shift]; exact h.1.2.2.2.2⟩, by omega⟩
theorem pace_cur {R r L l : Int} (hR : GOk R r) (hr : r ≤ 120) (hR1 : R ≤ 1000) (hL : GOk L l) (hL1 : L ≤ 250) : (∃ g, NF (pcV R r L l) g ∧ Lim g ∧ g.Ok) ∧ cdiv L l ≤ 400 := by
  have hl0 := hL.1.1; have hL0 := hL.2; have hr0 := hR.1.1; have hR0 := hR.2
  have hc : cdiv L l ≤ L := (cdiv_le hl0).2 (by
    have : L * 1 ≤ L * l := Int.mul_le_mul_of_nonneg_left hl0 hL0
    omega)
  have hc0 : -1 ≤ cdiv L l := by
    have : ¬ cdiv L l ≤ -1 := by rw [cdiv_le hl0]; omega
    omega
  refine ⟨lim_of2 (pc_up hR0 hr0 hl0) (s := L.toNat) (p := r.toNat) (i := R) (by omega) (by omega) (by omega) (pc_per hR0 hr0 hl0 (by omega)) (fun t ht => ?_) (by omega), by omega⟩
  have h1 := pc_le hR0 hr0 hL0 hl0 t
  have h2 : R * (t : Int) ≤ 1000 * 400 := Int.mul_le_mul hR1 (by omega) (by omega) (by omega)
  omega
theorem pace_made {R r L l : Int} (hR : GOk R r) (hr : r ≤ 120) (hL : GOk L l) (hc : cdiv L l ≤ 400) {f g : Cv} {er : Int} (h : PcS R r L l f er) (hg : NF (pcV R r L l) g) (hl : Lim g) : f = g ∧ er = 0 := by
  rcases h with ⟨h, _⟩ | ⟨_, _, _, h, _⟩ | ⟨_, _, _, h⟩
  · exact absurd ⟨hR, hL⟩ h
  · omega
  · exact h.eq hg hl
theorem delay_same {R r L l : Int} {n : Nat} (hR : GOk R r) (hL : GOk L l) (hn : (n : Int) ≤ 1000) {g k x : Cv} {er : Int} (hg : NF (pcV R r L l) g) (ho : g.Ok) (hk : NF (pcV R r (L + n * l) l) k) (hl : Lim k) (h : LaterS g n x er) : x = k ∧ er = 0 := by
  rcases h with ⟨h, _⟩ | ⟨_, h, _⟩ | ⟨_, _, _, a, ha, hm⟩
  · exact absurd ho h
  · omega
  · have e : laterV a ((n : Int)).toNat = pcV R r (L + n * l) l := by
      funext t
      rw [pc_shift hR.2 hR.1.1 hL.1.1 hL.2, show ((n : Int)).toNat = n from by omega]
      by_cases h : t < n
      · rw [laterV_lt h, if_pos h]
      · rw [laterV_ge (by omega), if_neg h, ha.at, hg.at]
    rw [e] at hm
    exact hm.eq hk hl
end Go.Proofs.Ythdibkmjoiipgaa
