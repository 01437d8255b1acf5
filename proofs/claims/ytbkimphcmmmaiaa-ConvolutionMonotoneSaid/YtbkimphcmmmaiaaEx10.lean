/- Plain words: the examples of the chapter on deviations; normal forms exist. -/
import Derived.Test.YtbkimphcmmmaiaaDevLaw
namespace Go.Proofs.Ytbkimphcmmmaiaa
set_option linter.unusedVariables false

/-- a valid curve has a normal form -/
theorem Cv.Ok.nf {f : Cv} (hf : f.Ok) : ∃ a, NF f.at a := by
  have hp1 := hf.p1; have hpn := hf.pn; have hn1 := hf.n1
  rcases hf.fin_or with hF | hi
  · obtain ⟨g, hg, _⟩ := nf_exists (h := f.at) (s := f.vals.length - f.per.toNat) (p := f.per.toNat) (by omega) hF.toL.step (fun t ht => by rw [Cv.at_lt (by omega)]; exact (hF.ne t (by omega)).1)
    exact ⟨g, .inl hg⟩
  · obtain ⟨m, hm1, hm2⟩ := nat_least (Q := fun m => f.at m = inf) ⟨f.vals.length - 1, hf.at_inf hi (by omega)⟩
    have hml : m ≤ f.vals.length - 1 := by
      rcases Nat.lt_or_ge (f.vals.length - 1) m with h | h
      · exact absurd (hf.at_inf hi (by omega)) (hm2 _ h)
      · exact h
    have hl : (Cv.mk (tab f.at 0 (m + 1)) 1 0).vals.length = m + 1 := tab_length _ _ _
    refine ⟨⟨tab f.at 0 (m + 1), 1, 0⟩, .inr ⟨rfl, rfl, by rw [hl]; omega, fun t ht => ?_, fun t ht => ?_, fun t ht => ?_⟩⟩
    · rw [hl] at ht; show nth (tab f.at 0 (m + 1)) t = _; rw [tab_nth _ _ _ _ ht, Nat.zero_add]
    · rw [hl] at ht; exact hm2 t (by omega)
    · rw [hl] at ht; exact hf.inf_from (t := m) (by omega) (by omega) hm1
/-- two normal forms with a short common period, where both have periods that divide n -/
theorem nf_pair {f g : Cv} (hf : f.Ok) (hg : g.Ok) {n : Nat} (hn : 1 ≤ n) (hn2 : n ≤ 120) (h1 : ∀ a, NF f.at a → a.per.toNat ∣ n) (h2 : ∀ b, NF g.at b → b.per.toNat ∣ n) : ∃ a b, NF f.at a ∧ NF g.at b ∧ comm a.per.toNat b.per.toNat ≤ 120 := by
  obtain ⟨a, ha⟩ := hf.nf
  obtain ⟨b, hb⟩ := hg.nf
  exact ⟨a, b, ha, hb, by have := comm_le (h1 a ha) (h2 b hb) hn; omega⟩

def exA : Cv := ⟨[0, 10, 12], 1, 2⟩
def exB : Cv := ⟨[0, 0, 0, 0], 1, 4⟩
theorem exA_at (n : Nat) : exA.at n = if n = 0 then 0 else 2 * n + 8 := by
  unfold Cv.at exA
  simp only [List.length_cons, List.length_nil]
  have h1 : (1 : Int).toNat = 1 := rfl
  by_cases h : n < 0 + 1 + 1 + 1
  · rw [if_pos h]
    have : n = 0 ∨ n = 1 ∨ n = 2 := by omega
    rcases this with rfl | rfl | rfl <;> rfl
  · rw [if_neg h, h1, Nat.div_one, show n - (n - (0 + 1 + 1 + 1) + 1) * 1 = 2 by omega, if_neg (by unfold nth inf; simp), if_neg (by omega)]
    have e : nth [0, 10, 12] 2 = 12 := rfl
    rw [e]; omega
theorem exB_at (n : Nat) : exB.at n = if n ≤ 3 then 0 else 4 * n - 12 := by
  unfold Cv.at exB
  simp only [List.length_cons, List.length_nil]
  have h1 : (1 : Int).toNat = 1 := rfl
  by_cases h : n < 0 + 1 + 1 + 1 + 1
  · rw [if_pos h, if_pos (by omega)]
    have : n = 0 ∨ n = 1 ∨ n = 2 ∨ n = 3 := by omega
    rcases this with rfl | rfl | rfl | rfl <;> rfl
  · rw [if_neg h, h1, Nat.div_one, show n - (n - (0 + 1 + 1 + 1 + 1) + 1) * 1 = 3 by omega, if_neg (by unfold nth inf; simp), if_neg (by omega)]
    have e : nth [0, 0, 0, 0] 3 = 0 := rfl
    rw [e]; omega
theorem exA_fin : exA.Fin := by
  refine ⟨⟨by decide, by decide, by decide, by decide, by decide, by decide, by decide, ?_, by decide, ?_, ?_, by decide⟩, by decide⟩
  · intro k hk
    have hk' : k < 3 := hk
    have : k = 0 ∨ k = 1 ∨ k = 2 := by omega
    rcases this with rfl | rfl | rfl <;> decide
  · intro k hk
    have hk' : k + 1 < 3 := hk
    have : k = 0 ∨ k = 1 := by omega
    rcases this with rfl | rfl <;> decide
  · intro h; exact absurd h (by decide)
theorem exB_fin : exB.Fin := by
  refine ⟨⟨by decide, by decide, by decide, by decide, by decide, by decide, by decide, ?_, by decide, ?_, ?_, by decide⟩, by decide⟩
  · intro k hk
    have hk' : k < 4 := hk
    have : k = 0 ∨ k = 1 ∨ k = 2 ∨ k = 3 := by omega
    rcases this with rfl | rfl | rfl | rfl <;> decide
  · intro k hk
    have hk' : k + 1 < 4 := hk
    have : k = 0 ∨ k = 1 ∨ k = 2 := by omega
    rcases this with rfl | rfl | rfl <;> decide
  · intro h; exact absurd h (by decide)
theorem leAt_fin {f g : Cv} (hf : f.Fin) (hg : g.Fin) (t u : Nat) : LeAt f g t u ↔ f.at t ≤ g.at u := by
  unfold LeAt
  constructor
  · rintro (h | h)
    · exact absurd h (hg.not_infAt u)
    · exact h.2
  · intro h; exact .inr ⟨hf.not_infAt t, h⟩
theorem ex_pair : ∃ a b, NF exA.at a ∧ NF exB.at b ∧ comm a.per.toNat b.per.toNat ≤ 120 :=
  nf_pair exA_fin.1 exB_fin.1 (n := 1) (by omega) (by omega) (fun a ha => ha.per_dvd (by omega) exA_fin.toL.step) (fun a ha => ha.per_dvd (by omega) exB_fin.toL.step)
theorem ex_pair2 : ∃ a b, NF exB.at a ∧ NF exA.at b ∧ comm a.per.toNat b.per.toNat ≤ 120 :=
  nf_pair exB_fin.1 exA_fin.1 (n := 1) (by omega) (by omega) (fun a ha => ha.per_dvd (by omega) exB_fin.toL.step) (fun a ha => ha.per_dvd (by omega) exA_fin.toL.step)
theorem ex_delay : DelayS exA exB false 5 1 := by
  refine .inr ⟨rfl, fun t => ?_, fun h => by omega, fun u hu => ⟨?_, fun t ht => ?_⟩⟩
  · rw [leAt_fin exA_fin exB_fin, exA_at, exB_at]
    by_cases h : t = 0
    · rw [if_pos h, if_neg (by omega)]; omega
    · rw [if_neg h, if_neg (by omega)]; omega
  · obtain rfl : u = 4 := by omega
    rw [leAt_fin exA_fin exB_fin, exA_at, exB_at]; decide
  · obtain rfl : u = 4 := by omega
    obtain rfl : t = 0 := by omega
    rw [leAt_fin exA_fin exB_fin, exA_at, exB_at]; decide
theorem ex_ahead (k : Nat) (hk : k ≤ 1) : AheadS exA exB k false (14 + 2 * k) 3 := by
  refine .inr ⟨rfl, fun t => .inr ⟨exA_fin.not_infAt _, ?_⟩, fun h => by omega, fun _ => ⟨⟨exB_fin.not_infAt _, ?_⟩, fun t ht => .inr ?_⟩⟩
  · rw [exA_at, exB_at]
    by_cases h : t + k = 0
    · rw [if_pos h]; split <;> omega
    · rw [if_neg h]; split <;> omega
  · rw [exA_at, exB_at, if_neg (by omega), if_pos (by omega)]; omega
  · rw [exA_at, exB_at, if_pos (show t ≤ 3 by omega)]
    split <;> omega
theorem ex_loose : DelayS exB exA true 0 0 := loose_del exB_fin.1 ⟨exA_fin, .inr (by decide)⟩
theorem ex_reach : ExS (Geq exB 10) 6 true := by
  refine .inl ⟨rfl, 6, rfl, .inr ⟨by decide, by rw [exB_at]; decide⟩, fun m hm => ?_⟩
  rintro (h | h)
  · exact exB_fin.not_infAt m h
  · have h2 := h.2
    rw [exB_at] at h2
    split at h2 <;> omega
end Go.Proofs.Ytbkimphcmmmaiaa
