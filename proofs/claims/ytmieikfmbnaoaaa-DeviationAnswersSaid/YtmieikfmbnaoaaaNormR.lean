/- What the two functions of the normal form return. -/
import Derived.Test.YtmieikfmbnaoaaaTheory
namespace Go.Proofs.Ytmieikfmbnaoaaa
set_option linter.unusedVariables false

/-- what the two functions of the normal form return -/
def NormR (f g : Cv) (er : Int) : Prop := (f.Ok ∧ NF f.at g ∧ g.Ok ∧ er = 0) ∨ (¬ f.Ok ∧ g = Cv.none ∧ er = 1)
theorem NormR.unique {f g g' : Cv} {er er' : Int} (h : NormR f g er) (k : NormR f g' er') : g = g' ∧ er = er' := by
  rcases h with ⟨h1, h2, _, rfl⟩ | ⟨h1, rfl, rfl⟩ <;> rcases k with ⟨k1, k2, _, rfl⟩ | ⟨k1, rfl, rfl⟩
  · exact ⟨h2.unique k2, rfl⟩
  · exact absurd h1 k1
  · exact absurd k1 h1
  · exact ⟨rfl, rfl⟩
theorem NormR.of {f g : Cv} {er : Int} (h : NormalS f g er) : NormR f g er := by
  by_cases hf : f.Ok
  · obtain ⟨h1, h2, h3, _⟩ := normal_ok hf h
    exact .inl ⟨hf, h2, h3, h1⟩
  · rcases h with ⟨h, _⟩ | ⟨_, h1, h2⟩
    · exact absurd (Cv.okB_iff.1 h) hf
    · exact .inr ⟨hf, h1, h2⟩
theorem NormR.len {f g : Cv} {er : Int} (h : NormR f g er) : g.vals.length ≤ 400 := by
  rcases h with ⟨_, _, h, _⟩ | ⟨_, rfl, _⟩
  · exact h.n2
  · decide
end Go.Proofs.Ytmieikfmbnaoaaa
