/- Plain words: the statement CurveEqual; nothing of the program. -/
import Derived.Test.YteddogbhofhlaaaOrdLaw2
namespace Go.Proofs.Yteddogbhofhlaaa
set_option linter.unusedVariables false

theorem same_at_of {f g : Cv} (h1 : ∀ n, ¬ Ne2 f g n) : f.at = g.at := by
  funext n
  have h2 : ¬ Up f g n := fun h => h1 n (.inl h)
  have h3 : ¬ Up g f n := fun h => h1 n (.inr h)
  by_cases hg : g.infAt n
  · by_cases hf : f.infAt n
    · rw [hf.2, hg.2]
    · exact absurd ⟨hf, .inl hg⟩ h3
  · by_cases hf : f.infAt n
    · exact absurd ⟨hg, .inl hf⟩ h2
    · have a1 : ¬ g.at n < f.at n := fun e => h2 ⟨hg, .inr e⟩
      have a2 : ¬ f.at n < g.at n := fun e => h3 ⟨hf, .inr e⟩
      omega

/-- so many ticks decide whether two curves are equal -/
theorem eq_by_ticks {f g : Cv} (hf : f.Ok) (hg : g.Ok) {T : Nat} (hT : T = max f.vals.length g.vals.length + 2 * ordC f g) (h : ∀ j, j < T → f.at j = g.at j) : f.at = g.at := by
  have B := ord_b hf hg
  have hF : ordF f g ≤ max f.vals.length g.vals.length := by unfold ordF; omega
  have hc := B.c1
  obtain ⟨b, hb⟩ : ∃ b : Bool, b = true ↔ (f.Fin ∧ g.Fin) := by
    by_cases hx : f.Fin ∧ g.Fin
    · exact ⟨true, by simp [hx]⟩
    · exact ⟨false, by simp [hx]⟩
  have hr : (if b = true then ordC f g else 1) ≤ ordC f g := by split <;> omega
  have hal : AlikeFrom f g (ordF f g) := me_alike hf hg hb (fun hbt => by
    have hfin := hb.1 hbt
    have hp := ord_per hfin.1 hfin.2
    have h1 := hp (ordF f g) (Nat.le_refl _)
    unfold dif at h1
    rw [h (ordF f g) (by omega), h (ordF f g + ordC f g) (by omega)] at h1
    omega) (fun r hr' => h _ (by omega))
  refine same_at_of fun n => ?_
  rcases Nat.lt_or_ge n (ordF f g) with hn | hn
  · rw [ne2_iff hf hg (by have := B.f0; omega)]
    exact fun e => e (h n (by omega))
  · exact hal n hn

/-- what the loop of CurveEqual knows -/
def EqTo (f g : Cv) (k : Nat) (b : Bool) : Prop := b = true ↔ ∀ j, j < k → f.at j = g.at j
theorem EqTo.zero (f g : Cv) : EqTo f g 0 true := by simp [EqTo]
theorem EqTo.succ {f g : Cv} {k : Nat} {b : Bool} (h : EqTo f g k b) : EqTo f g (k + 1) (b && (f.at k == g.at k)) := by
  unfold EqTo at *
  rw [Bool.and_eq_true, h, beq_iff_eq]
  constructor
  · intro h1 j hj
    by_cases e : j = k
    · rw [e]; exact h1.2
    · exact h1.1 j (by omega)
  · intro h1
    exact ⟨fun j hj => h1 j (by omega), h1 k (by omega)⟩
theorem EqTo.done {f g : Cv} (hf : f.Ok) (hg : g.Ok) {T : Nat} (hT : T = max f.vals.length g.vals.length + 2 * ordC f g) {b : Bool} (h : EqTo f g T b) : b = true ↔ f.at = g.at := by
  unfold EqTo at h
  rw [h]
  exact ⟨eq_by_ticks hf hg hT, fun e j _ => by rw [e]⟩
end Go.Proofs.Yteddogbhofhlaaa
