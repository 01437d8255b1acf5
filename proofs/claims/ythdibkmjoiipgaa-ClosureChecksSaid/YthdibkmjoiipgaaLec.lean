/- Plain words: what is at most what, at every tick. -/
import Derived.Test.YthdibkmjoiipgaaOrdLaw2
namespace Go.Proofs.Ythdibkmjoiipgaa
set_option linter.unusedVariables false

theorem inf_min {r : Cv} (hr : r.Ok) (n : Nat) : r.infAt n ↔ r.at (min n 1000) = inf := by
  have h2 := hr.n2
  constructor
  · intro h
    by_cases hn : n ≤ 1000
    · rw [Nat.min_eq_left hn]; exact h.2
    · exact hr.at_inf h.1 (by omega)
  · intro h
    exact ((hr.at_bd (n := min n 1000) (by omega)).2.2 h).later hr (Nat.min_le_left _ _)
/-- at most, at every tick -/
def LEC (f g : Cv) : Prop := ∀ n, g.infAt n ∨ (¬ f.infAt n ∧ f.at n ≤ g.at n)
theorem LEC.up {f g : Cv} (h : LEC f g) (n : Nat) : ¬ Up f g n := fun hu => by
  rcases h n with h | ⟨h1, h2⟩
  · exact hu.1 h
  · rcases hu.2 with h3 | h3
    · exact h1 h3
    · omega
theorem LEC.of {f g : Cv} (h : ∀ n, ¬ Up f g n) : LEC f g := fun n => by
  by_cases hg : g.infAt n
  · exact .inl hg
  · refine .inr ⟨fun hf => h n ⟨hg, .inl hf⟩, ?_⟩
    by_cases hl : f.at n ≤ g.at n
    · exact hl
    · exact absurd ⟨hg, .inr (by omega)⟩ (h n)
theorem LEC.refl (f : Cv) : LEC f f := fun n => by
  by_cases h : f.infAt n
  · exact .inl h
  · exact .inr ⟨h, Int.le_refl _⟩
theorem LEC.trans {f g h : Cv} (a : LEC f g) (b : LEC g h) : LEC f h := fun n => by
  rcases b n with b | ⟨b1, b2⟩
  · exact .inl b
  · rcases a n with a | ⟨a1, a2⟩
    · exact absurd a b1
    · exact .inr ⟨a1, Int.le_trans a2 b2⟩
end Go.Proofs.Ythdibkmjoiipgaa
