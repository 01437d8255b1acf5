/- Plain words: the statement OrderLast; nothing of the program. -/
import Derived.Test.YteddogbhofhlaaaOrdLaw2
namespace Go.Proofs.Yteddogbhofhlaaa
set_option linter.unusedVariables false

/-- a value, from above: in the terms of the slope -/
theorem at_up {f : Cv} (h : f.Fin) {M : Int} (hM : ∀ k, k < f.vals.length → nth f.vals k ≤ M) (hM0 : 0 ≤ M) (t : Nat) : f.per * f.at t ≤ f.per * M + (t : Int) * f.inc := by
  have hp1 := h.1.p1; have hpn := h.1.pn; have hi1 := h.1.i1; have hn1 := h.1.n1
  have hti : 0 ≤ (t : Int) * f.inc := Int.mul_nonneg (by omega) hi1
  by_cases hlt : t < f.vals.length
  · rw [Cv.at_lt hlt]
    have := Int.mul_le_mul_of_nonneg_left (hM t hlt) (show 0 ≤ f.per by omega)
    omega
  · have hx := idx_bd (t := t) (n := f.vals.length) (p := f.per.toNat) (by omega) (by omega) (by omega)
    rw [h.at_ge (by omega)]
    have h1 := Int.mul_le_mul_of_nonneg_left (hM _ hx.2.1) (show 0 ≤ f.per by omega)
    have hkp := hx.1
    generalize nth f.vals (t - ((t - f.vals.length) / f.per.toNat + 1) * f.per.toNat) = v at *
    generalize (t - f.vals.length) / f.per.toNat + 1 = k at *
    have h4 : (k : Int) * f.per = ((k * f.per.toNat : Nat) : Int) := by rw [Int.natCast_mul]; congr 1; omega
    have h5 : f.per * ((k : Int) * f.inc) = ((k : Int) * f.per) * f.inc := by rw [← Int.mul_assoc, Int.mul_comm f.per]
    have h6 : ((k : Int) * f.per) * f.inc ≤ (t : Int) * f.inc := Int.mul_le_mul_of_nonneg_right (by omega) hi1
    rw [Int.mul_add, h5]
    omega
/-- and from below -/
theorem at_low {f : Cv} (h : f.Fin) (t : Nat) : ((t : Int) - f.vals.length) * f.inc ≤ f.per * f.at t := by
  have hp1 := h.1.p1; have hpn := h.1.pn; have hi1 := h.1.i1; have hn1 := h.1.n1
  have h0 := (h.at_bd t).1
  by_cases hlt : t < f.vals.length
  · have h1 : ((t : Int) - f.vals.length) * f.inc ≤ 0 := Int.mul_nonpos_of_nonpos_of_nonneg (by omega) hi1
    have h2 : 0 ≤ f.per * f.at t := Int.mul_nonneg (by omega) h0
    omega
  · have hx := idx_bd (t := t) (n := f.vals.length) (p := f.per.toNat) (by omega) (by omega) (by omega)
    rw [h.at_ge (by omega)]
    have hv := (h.1.nn (t - ((t - f.vals.length) / f.per.toNat + 1) * f.per.toNat)).1
    have hkp := hx.2.1
    generalize nth f.vals (t - ((t - f.vals.length) / f.per.toNat + 1) * f.per.toNat) = v at *
    generalize (t - f.vals.length) / f.per.toNat + 1 = k at *
    have h4 : (k : Int) * f.per = ((k * f.per.toNat : Nat) : Int) := by rw [Int.natCast_mul]; congr 1; omega
    have h5 : f.per * ((k : Int) * f.inc) = ((k : Int) * f.per) * f.inc := by rw [← Int.mul_assoc, Int.mul_comm f.per]
    have h6 : ((t : Int) - f.vals.length) * f.inc ≤ ((k : Int) * f.per) * f.inc := Int.mul_le_mul_of_nonneg_right (by omega) hi1
    have h7 : 0 ≤ f.per * v := Int.mul_nonneg (by omega) hv
    rw [Int.mul_add, h5]
    omega

/-- a greater slope wins within 34300 ticks -/
theorem slope_wins {f g : Cv} (hf : f.Fin) (hg : g.Fin) (df : DrawC 7 f) (dg : DrawC 7 g) (h : g.inc * f.per < f.inc * g.per) {t : Nat} (ht : 34300 ≤ t) : g.at t < f.at t := by
  have hp1 := hf.1.p1; have hi1 := hf.1.i1; have hq1 := hg.1.p1; have hj1 := hg.1.i1
  have hp2 := df.per; have hq2 := dg.per; have hs := df.slope; have hlen := df.len
  have hM : ∀ k, k < g.vals.length → nth g.vals k ≤ 400 := fun k hk => (dg.small k hk).elim (fun e => absurd e (hg.ne k hk).1) id
  have h1 := at_up hg hM (by omega) t
  have h2 := at_low hf t
  rcases Int.lt_or_le (g.at t) (f.at t) with e | e
  · exact e
  · exfalso
    have hl : ((f.vals.length : Nat) : Int) ≤ 15 := by omega
    -- multiply both by the other's period
    have a1 : f.per * (g.per * g.at t) ≤ f.per * (g.per * 400 + (t : Int) * g.inc) := Int.mul_le_mul_of_nonneg_left h1 (by omega)
    have a2 : g.per * (((t : Int) - f.vals.length) * f.inc) ≤ g.per * (f.per * f.at t) := Int.mul_le_mul_of_nonneg_left h2 (by omega)
    have a3 : g.per * (f.per * f.at t) ≤ g.per * (f.per * g.at t) := Int.mul_le_mul_of_nonneg_left (Int.mul_le_mul_of_nonneg_left e (by omega)) (by omega)
    have a4 : f.per * (g.per * g.at t) = g.per * (f.per * g.at t) := Int.mul_left_comm _ _ _
    have b1 : g.per * (((t : Int) - f.vals.length) * f.inc) = (t : Int) * (f.inc * g.per) - f.vals.length * (f.inc * g.per) := by
      rw [Int.sub_mul, Int.mul_sub]
      congr 1
      · rw [Int.mul_left_comm, Int.mul_comm g.per]
      · rw [Int.mul_left_comm, Int.mul_comm g.per]
    have b2 : f.per * (g.per * 400 + (t : Int) * g.inc) = 400 * (f.per * g.per) + (t : Int) * (g.inc * f.per) := by
      rw [Int.mul_add]
      congr 1
      · rw [← Int.mul_assoc, Int.mul_comm]
      · rw [Int.mul_left_comm, Int.mul_comm f.per]
    have c1 : (t : Int) * (g.inc * f.per + 1) ≤ (t : Int) * (f.inc * g.per) := Int.mul_le_mul_of_nonneg_left (by omega) (by omega)
    rw [Int.mul_add, Int.mul_one] at c1
    have c2 : f.per * g.per ≤ 8 * 8 := Int.mul_le_mul hp2 hq2 (by omega) (by omega)
    have c3 : f.inc * g.per ≤ 72 * 8 := Int.mul_le_mul (by omega) hq2 (by omega) (by omega)
    have c4 : (f.vals.length : Int) * (f.inc * g.per) ≤ 15 * (72 * 8) := Int.mul_le_mul hl c3 (Int.mul_nonneg hi1 (by omega)) (by omega)
    omega

/-- where f is above g again and again, it is so in each window of 40000 ticks -/
theorem last_plain {f g : Cv} (df : DrawC 7 f) (dg : DrawC 7 g) (h : ∀ m, ∃ n, m ≤ n ∧ Up f g n) {s : Nat} (hs : 100 ≤ s) : ∃ n, s ≤ n ∧ n < s + 40000 ∧ Up f g n := by
  have B := ord_b df.ok dg.ok
  have hF : ordF f g ≤ 15 := by have h1 := df.len; have h2 := dg.len; unfold ordF; omega
  by_cases hfin : f.Fin ∧ g.Fin
  · obtain ⟨hf, hg⟩ := hfin
    rcases Int.lt_trichotomy (g.inc * f.per) (f.inc * g.per) with e | e | e
    · exact ⟨s + 39999, by omega, by omega, (up_fin hf hg _).2 (slope_wins hf hg df dg e (by omega))⟩
    · have hp1 := hf.1.p1; have hq1 := hg.1.p1; have hp2 := df.per; have hq2 := dg.per
      have hper : Per (dif f g) (ordF f g) (g.per.toNat * f.per.toNat) 0 := by
        have h1 := Per.dif hf.toL.step hg.toL.step (c := g.per.toNat * f.per.toNat) (a := g.per.toNat) (b := f.per.toNat) rfl (Nat.mul_comm _ _) _ B.fs B.gs
        have h2 : ((g.per.toNat : Nat) : Int) * f.inc - ((f.per.toNat : Nat) : Int) * g.inc = 0 := by
          have e1 : ((g.per.toNat : Nat) : Int) = g.per := by omega
          have e2 : ((f.per.toNat : Nat) : Int) = f.per := by omega
          rw [e1, e2, Int.mul_comm g.per, Int.mul_comm f.per]; omega
        rw [h2] at h1; exact h1
      have hc1 : 1 ≤ g.per.toNat * f.per.toNat := Nat.mul_pos (by omega) (by omega)
      have hc2 : g.per.toNat * f.per.toNat ≤ 8 * 8 := Nat.mul_le_mul (by omega) (by omega)
      obtain ⟨c, hc⟩ : ∃ c, c = g.per.toNat * f.per.toNat := ⟨_, rfl⟩
      rw [← hc] at hper hc1 hc2
      obtain ⟨n, hn, hu⟩ := h (ordF f g)
      rw [up_fin hf hg] at hu
      obtain ⟨r, m, hr, rfl⟩ := res_of hc1 hn
      have hd : 0 < dif f g (ordF f g + r) := by
        have := hper.times m (ordF f g + r) (by omega)
        unfold dif at *
        omega
      obtain ⟨r', m', hr', he⟩ := res_of hc1 (show ordF f g + r ≤ s + c by omega)
      -- the tick of r's residue in the window
      refine ⟨ordF f g + r + m' * c, by omega, by omega, ?_⟩
      rw [up_fin hf hg]
      have := hper.times m' (ordF f g + r) (by omega)
      unfold dif at *
      omega
    · exfalso
      obtain ⟨n, hn, hu⟩ := h 34300
      rw [up_fin hf hg] at hu
      have := slope_wins hg hf dg df e hn
      omega
  · obtain ⟨n, hn, hu⟩ := h (ordF f g)
    rw [up_inf df.ok dg.ok hfin B.fs B.gs hn] at hu
    exact ⟨s, by omega, by omega, (up_inf df.ok dg.ok hfin B.fs B.gs (show ordF f g ≤ s by omega)).2 hu⟩
end Go.Proofs.Yteddogbhofhlaaa
