/- The minimum of two curves, in plain words. -/
import Derived.Test.YthdibkmjoiipgaaPwLaw2
import Derived.Test.YthdibkmjoiipgaaLec
namespace Go.Proofs.Ythdibkmjoiipgaa
set_option linter.unusedVariables false

section
variable {f g m : Cv}
theorem min_infAt (hf : f.Ok) (hg : g.Ok) (hm : m.Ok) (em : m.at = exV true f g) : ∀ n, m.infAt n ↔ f.infAt n ∧ g.infAt n := fun n => by
  have key : ∀ n, n ≤ 1000 → (m.at n = inf ↔ f.infAt n ∧ g.infAt n) := fun n hn => by
    rw [em, exV_pk hf hg (by omega), pk_true]
    have a := hf.at_bd (n := n) (by omega); have b := hg.at_bd (n := n) (by omega)
    constructor
    · intro e
      exact ⟨a.2.2 (by omega), b.2.2 (by omega)⟩
    · rintro ⟨e1, e2⟩
      rw [e1.2, e2.2]
      exact Int.min_self _
  have lo : ∀ q : Cv, q.Ok → (q.infAt n ↔ q.infAt (min n 1000)) := fun q hq => by
    have := hq.n2
    by_cases e : n ≤ 1000
    · rw [Nat.min_eq_left e]
    · rw [Nat.min_eq_right (by omega)]
      exact ⟨fun k => ⟨k.1, hq.at_inf k.1 (by omega)⟩, fun k => k.later hq (by omega)⟩
  rw [lo m hm, lo f hf, lo g hg, ← key _ (Nat.min_le_right _ _)]
  exact ⟨fun k => k.2, fun k => (hm.at_bd (by omega)).2.2 k⟩
theorem min_l (hf : f.Ok) (hg : g.Ok) (hm : m.Ok) (em : m.at = exV true f g) : ∀ n, ¬ f.infAt n → ¬ m.infAt n ∧ m.at n ≤ f.at n := fun n k => by
  refine ⟨fun q => k ((min_infAt hf hg hm em n).1 q).1, ?_⟩
  rw [em]
  unfold exV
  rw [if_neg k]
  split
  · exact Int.le_refl _
  · rw [pk_true]; exact Int.min_le_left _ _
theorem min_r (hf : f.Ok) (hg : g.Ok) (hm : m.Ok) (em : m.at = exV true f g) : ∀ n, ¬ g.infAt n → ¬ m.infAt n ∧ m.at n ≤ g.at n := fun n k => by
  refine ⟨fun q => k ((min_infAt hf hg hm em n).1 q).2, ?_⟩
  rw [em]
  unfold exV
  split
  · exact Int.le_refl _
  · rw [pk_true]; exact Int.min_le_right _ _
theorem min_lec (hf : f.Ok) (hg : g.Ok) (hm : m.Ok) (em : m.at = exV true f g) : LEC m f := fun n => by
  by_cases k : f.infAt n
  · exact .inl k
  · exact .inr (min_l hf hg hm em n k)
/-- what Minimum makes -/
theorem ext_get {l : Bool} (hf : f.Ok) (hg : g.Ok) {er : Int} (H : ExtS l f g m er) : (er = 0 ∧ m.Ok ∧ m.at = exV l f g) ∨ (er = 3 ∧ m = Cv.none) := by
  rcases H with ⟨h, _, _⟩ | ⟨_, _, a, b, ha, hb, ⟨_, rfl, rfl⟩ | ⟨_, hM⟩⟩
  · exact absurd ⟨hf, hg⟩ h
  · exact .inr ⟨rfl, rfl⟩
  · rw [exV_nf hf hg ha hb] at hM
    rcases hM.get (exV_up hf hg) with ⟨rfl, h1, h2⟩ | ⟨rfl, rfl⟩
    · exact .inl ⟨rfl, h1, funext h2.at⟩
    · exact .inr ⟨rfl, rfl⟩
end
end Go.Proofs.Ythdibkmjoiipgaa
