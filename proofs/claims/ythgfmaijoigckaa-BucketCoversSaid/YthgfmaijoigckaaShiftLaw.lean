/- Plain words for the statement DeviationShifts. -/
import Derived.Test.YthgfmaijoigckaaLaterLaw
import Derived.Test.YthgfmaijoigckaaDevSmall
namespace Go.Proofs.Ythgfmaijoigckaa
set_option linter.unusedVariables false

section
variable {f g l : Cv} {D : Nat}
theorem shift_infAt (hf : f.Ok) (hl : l.Ok) (hD : D ≤ 380) (e : ∀ t, l.at t = laterV f D t) (n : Nat) : l.infAt n ↔ D ≤ n ∧ f.infAt (n - D) := by
  have hln := hl.n2; have hfn := hf.n2
  constructor
  · intro h
    by_cases hn : n ≤ 1000
    · have h2 := h.2
      rw [e] at h2
      by_cases h3 : n < D
      · rw [laterV_lt h3] at h2; exact absurd h2 inf_pos
      · rw [laterV_ge (by omega)] at h2
        exact ⟨by omega, (hf.at_bd (n := n - D) (by omega)).2.2 h2⟩
    · have h2 : l.at 399 = inf := hl.at_inf h.1 (by omega)
      rw [e, laterV_ge (by omega)] at h2
      exact ⟨by omega, ((hf.at_bd (n := 399 - D) (by omega)).2.2 h2).later hf (by omega)⟩
  · rintro ⟨h1, h⟩
    by_cases hn : n ≤ 1000
    · refine (hl.at_bd (n := n) (by omega)).2.2 ?_
      rw [e, laterV_ge h1]; exact h.2
    · have h2 : f.at 400 = inf := hf.at_inf h.1 (by omega)
      refine Cv.infAt.later hl (n := 400 + D) ((hl.at_bd (n := 400 + D) (by omega)).2.2 ?_) (by omega)
      rw [e, laterV_ge (by omega), Nat.add_sub_cancel]; exact h2
theorem shift_le (hf : f.Ok) (hg : g.Ok) (hl : l.Ok) (hD : D ≤ 380) (e : ∀ t, l.at t = laterV f D t) (h : DB f g D) (n : Nat) : ¬ Up l g n := by
  rintro ⟨h1, h2⟩
  by_cases hn : n < D
  · rcases h2 with h2 | h2
    · have := ((shift_infAt hf hl hD e n).1 h2).1; omega
    · rw [e, laterV_lt hn] at h2
      have := hg.up0.nn n; omega
  · obtain ⟨t, rfl⟩ : ∃ t, n = t + D := ⟨n - D, by omega⟩
    rcases h t with h3 | ⟨h3, h4⟩
    · exact h1 h3
    · rcases h2 with h2 | h2
      · have := ((shift_infAt hf hl hD e _).1 h2).2
        rw [Nat.add_sub_cancel] at this
        exact h3 this
      · rw [e, laterV_ge (by omega), Nat.add_sub_cancel] at h2
        omega
theorem le_shift (hf : f.Ok) (hl : l.Ok) (hD : D ≤ 380) (e : ∀ t, l.at t = laterV f D t) (h : ∀ n, ¬ Up l g n) : DB f g D := fun t => by
  by_cases hg : g.infAt (t + D)
  · exact .inl hg
  · have h1 := h (t + D)
    have h2 : ¬ l.infAt (t + D) := fun h2 => h1 ⟨hg, .inl h2⟩
    have h3 : ¬ g.at (t + D) < l.at (t + D) := fun h3 => h1 ⟨hg, .inr h3⟩
    rw [shift_infAt hf hl hD e, Nat.add_sub_cancel] at h2
    rw [e, laterV_ge (by omega), Nat.add_sub_cancel] at h3
    exact .inr ⟨fun h4 => h2 ⟨by omega, h4⟩, by omega⟩
theorem DB.mono (hg : g.Ok) {M N : Nat} (h : DB f g M) (hMN : M ≤ N) : DB f g N := fun t => (h t).mono hg (by omega)
theorem DelayS.db {i : Bool} {v A : Nat} (h : DelayS f g false v A) : DB f g v := by
  rcases h with ⟨h, _⟩ | ⟨_, h, _⟩
  · cases h
  · exact h
theorem DelayS.at_le (hf : f.Ok) (hg : g.Ok) {v A : Nat} (h : DelayS f g false v A) (hA : A + v ≤ 1000000) : ¬ g.at (A + v) < f.at A := by
  rcases DelayS.db (i := false) h A with h1 | h1
  · have h2 := h1.2
    have h3 := (hf.at_bd (n := A) (by omega)).2.1
    omega
  · have := h1.2; omega
theorem DelayS.at_gt (hf : f.Ok) (hg : g.Ok) {u A : Nat} (h : DelayS f g false (u + 1) A) (hA : A + u ≤ 1000000) : g.at (A + u) < f.at A := by
  rcases h with ⟨h, _⟩ | ⟨_, _, _, h⟩
  · cases h
  · have h1 := (h u rfl).1
    have hgb := hg.at_bd (n := A + u) (by omega)
    by_cases hfi : f.infAt A
    · have h2 : g.at (A + u) ≠ inf := fun h2 => h1 (.inl (hgb.2.2 h2))
      have h3 := hgb.2.1; have h4 := hfi.2
      omega
    · rcases Int.lt_or_le (g.at (A + u)) (f.at A) with h2 | h2
      · exact h2
      · exact absurd (.inr ⟨hfi, h2⟩) h1
end
end Go.Proofs.Ythgfmaijoigckaa
