/- Plain words: the tick of a delay, and the delay, are not great. -/
import Derived.Test.YtbkimphcmmmaiaaDevLaw
namespace Go.Proofs.Ytbkimphcmmmaiaa
set_option linter.unusedVariables false

theorem ordFC_le {a b : Cv} (ha : a.Ok) (hb : b.Ok) : ordF a b + ordC a b ≤ 14800 := by
  have a1 := ha.p1; have a2 := ha.p2; have a3 := ha.n2; have b1 := hb.p1; have b2 := hb.p2; have b3 := hb.n2
  have h := (comm_facts (p := a.per.toNat) (q := b.per.toNat) (by omega) (by omega)).2.2.2.1
  have h2 : a.per.toNat * b.per.toNat ≤ 120 * 120 := Nat.mul_le_mul (by omega) (by omega)
  unfold ordF ordC
  omega
theorem DelayS.at_lt {a b : Cv} (ha : a.Ok) (hb : b.Ok) {v A : Nat} (h : DelayS a b false v A) : A ≤ 14800 := by
  have hl : ¬ Loose a b := fun hl => by
    have := (DelayS.unique hb (loose_del ha hl) h).1
    cases this
  have hb1 := ordFC_le ha hb
  rcases h with ⟨h, _⟩ | ⟨_, _, h0, h1⟩
  · cases h
  · rcases Nat.eq_zero_or_pos v with e | e
    · rw [h0 e]; omega
    · obtain ⟨u, rfl⟩ : ∃ u, v = u + 1 := ⟨v - 1, by omega⟩
      have h2 := h1 u rfl
      rcases Nat.lt_or_ge A (ordF a b + ordC a b) with h3 | h3
      · omega
      · exfalso
        have hc := (comm_facts (p := a.per.toNat) (q := b.per.toNat) (by have := ha.p1; omega) (by have := hb.p1; omega)).2.2.1
        obtain ⟨r, rfl⟩ : ∃ r, A = r + ordC a b := ⟨A - ordC a b, by omega⟩
        have h4 := (h2.2 r (by unfold ordC; omega)).step ha hb hl (by omega) (by omega)
        rw [show r + u + ordC a b = r + ordC a b + u by omega] at h4
        exact h2.1 h4
theorem DelayS.small {f g : Cv} (ff : f.Fin) (fg : g.Fin) {v A : Nat} (h : DelayS f g false v A) : (v : Int) ≤ 4000000000000000 := by
  have hA := h.at_lt ff.1 fg.1
  have hp1 := fg.1.p1; have hp2 := fg.1.p2; have hpn := fg.1.pn; have hn2 := fg.1.n2
  rcases h with ⟨h, _⟩ | ⟨_, hd, h0, h1⟩
  · cases h
  · rcases Nat.eq_zero_or_pos v with e | e
    · omega
    · obtain ⟨u, rfl⟩ : ∃ u, v = u + 1 := ⟨v - 1, by omega⟩
      have h3 : g.at (A + u) < f.at A := by
        rcases Int.lt_or_le (g.at (A + u)) (f.at A) with h' | h'
        · exact h'
        · exact absurd (.inr ⟨ff.not_infAt _, h'⟩) (h1 u rfl).1
      have h4 : f.at A ≤ g.at (A + u + 1) := by
        rcases hd A with h' | h'
        · exact absurd h' (fg.not_infAt _)
        · exact h'.2
      have hb := ff.at_bd A
      by_cases hi : g.inc = 0
      · rcases Nat.lt_or_ge (A + u) g.vals.length with h5 | h5
        · omega
        · exfalso
          have h6 := fg.toL.step (A + u) (by omega)
          have h7 := fg.1.at_le (show A + u + 1 ≤ A + u + g.per.toNat by omega)
          omega
      · have hi1 := fg.1.i1
        have e1 := fg.toL.step.mul (f.at A).toNat (g.vals.length - 1) (by omega)
        have h5 : ((f.at A).toNat : Int) * 1 ≤ ((f.at A).toNat : Int) * g.inc := Int.mul_le_mul_of_nonneg_left (by omega) (by omega)
        have h6 := fg.1.up0.nn (g.vals.length - 1)
        rcases Nat.lt_or_ge (A + u) (g.vals.length - 1 + (f.at A).toNat * g.per.toNat) with h7 | h7
        · have h8 : (f.at A).toNat * g.per.toNat ≤ (f.at A).toNat * 120 := Nat.mul_le_mul_left _ (by omega)
          omega
        · have h9 := fg.1.at_le h7
          omega
end Go.Proofs.Ytbkimphcmmmaiaa
