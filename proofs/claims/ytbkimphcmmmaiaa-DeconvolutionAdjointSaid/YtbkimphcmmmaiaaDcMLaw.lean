/- Deconvolution: greater curves, and curves with a wait, in plain words. -/
import Derived.Test.YtbkimphcmmmaiaaDcPLaw
import Derived.Test.YtbkimphcmmmaiaaMonoLaw
import Derived.Test.YtbkimphcmmmaiaaBy
namespace Go.Proofs.Ytbkimphcmmmaiaa
open Go.RowKit
set_option linter.unusedVariables false

/-- a deconvolution that has been made -/
theorem dcS_ok {f g x : Cv} (H : DcS f g x 0) : x.Ok ∧ ∃ D, DcF f g D ∧ NF D x ∧ x.at = D ∧ ∀ n, x.infAt n ↔ ∀ M, ¬ AB f g n M := by
  rcases H with ⟨H, _⟩ | ⟨hf, hg, h0, ⟨a, b, hna, hnb, hc⟩, D, hD, hM⟩
  · exfalso
    rcases H with ⟨_, h⟩ | ⟨_, _, _, h⟩ | ⟨_, _, _, h, _⟩ <;> cases h
  · obtain ⟨hao, _⟩ := nf_small hf hna
    obtain ⟨hbo, _⟩ := nf_small hg hnb
    obtain ⟨D', hD'⟩ := dc_exists hao hbo
    obtain rfl := hD.unique (hD'.nf hf hg hna hnb)
    have hc' : ordC a b ≤ 120 := by unfold ordC; exact hc
    have hb0 : b.at 0 = 0 := by rw [hnb.at]; exact h0
    obtain ⟨_, hx, hn⟩ : _ ∧ x.Ok ∧ NF D x := by
      rcases hM.get (dc_up0 hao hbo hc' hb0 hD') with h3 | h3
      · exact h3
      · exact absurd h3.1 (by decide)
    have hat : x.at = D := by funext t; exact hn.at t
    refine ⟨hx, D, hD, hn, hat, fun n => ?_⟩
    -- of the normal forms
    have key : x.infAt n ↔ AheadS a b n true 0 0 := by
      have hxn := hx.n2
      constructor
      · intro hi
        have low : ∀ k, k ≤ 1000 → D k = inf → AheadS a b k true 0 0 := fun k hk e => by
          obtain ⟨i, v, A, h1, h2⟩ := hD' k
          cases i
          · exfalso
            rw [if_neg (by simp)] at h2
            by_cases hl : Loose a b
            · have := (h1.unique (loose_ahead hao k hl)).1
              cases this
            · have h3 := dc_small hao hbo hc' hl hk h1
              rw [e] at h2
              unfold inf at h2
              omega
          · rcases h1 with ⟨_, rfl, rfl, h1⟩ | ⟨h1, _⟩
            · exact .inl ⟨rfl, rfl, rfl, h1⟩
            · cases h1
        rcases Nat.lt_or_ge n 1000 with h1 | h1
        · exact low n (by omega) (by rw [← hat]; exact hi.2)
        · have h2 := hx.infAt_start hi.1 (Nat.le_refl _)
          have h3 := low (x.vals.length - x.per.toNat) (by omega) (by rw [← hat]; exact h2.2)
          rcases h3 with ⟨_, _, _, h3⟩ | ⟨h3, _⟩
          · exact .inl ⟨rfl, rfl, rfl, fun M hM => h3 M (dc_up hao (by omega) hM)⟩
          · cases h3
      · intro hk
        have e : D n = inf := by
          obtain ⟨i, v, A, h1, h2⟩ := hD' n
          obtain ⟨rfl, _⟩ := h1.unique hk
          rw [h2, if_pos rfl]
        refine ⟨?_, by rw [hat]; exact e⟩
        rcases hx.fin_or with fx | ix
        · exfalso
          have nofin : ∀ t, t ≤ 500 → D t ≠ inf := fun t ht e => by
            have h1 := fx.at_bd t
            rw [hat, e] at h1
            have : (t : Int) * 1073741824 ≤ 500 * 1073741824 := Int.mul_le_mul_of_nonneg_right (by omega) (by omega)
            unfold inf at h1
            omega
          by_cases hl : Loose a b
          · exact nofin 0 (by omega) (by rw [dc_loose hao hl hD'])
          · have fa : ¬ a.Fin := fun fa => by
              obtain ⟨v', A', h4, _⟩ := ahi_exists (a := a) (b := b) n (dcK a b) (fun x _ => .inr (fa.not_infAt _))
              have := (hk.unique (h4.doneK hao hbo hl)).1
              cases this
            have ia : nth a.vals (a.vals.length - 1) = inf := hao.fin_or.resolve_left fa
            have han := hao.n2
            refine nofin (a.vals.length - a.per.toNat) (by omega) ?_
            obtain ⟨i, v, A, h1, h2⟩ := hD' (a.vals.length - a.per.toNat)
            obtain ⟨rfl, _⟩ := h1.unique (not_ab (t := 0) (dc_zero hbo hb0) (by rw [Nat.zero_add]; exact hao.infAt_start ia (Nat.le_refl _)))
            rw [h2, if_pos rfl]
        · exact ix
    rw [key]
    constructor
    · intro h
      rcases h.nf hf hg hna hnb with ⟨_, _, _, h⟩ | ⟨h, _⟩
      · exact h
      · cases h
    · intro h
      obtain ⟨i, v, A, h1, _⟩ := hD' n
      have h2 := h1.nf hf hg hna hnb
      rcases h1 with ⟨rfl, rfl, rfl, h1⟩ | ⟨rfl, _⟩
      · exact .inl ⟨rfl, rfl, rfl, h1⟩
      · rcases h2 with ⟨h2, _⟩ | ⟨_, h2, _⟩
        · cases h2
        · exact absurd h2 (h v)
/-- what is bounded by less is at most -/
theorem dc_mono {f g f' g' x y : Cv} (H : DcS f g x 0) (K : DcS f' g' y 0) (h : ∀ k M, AB f' g' k M → AB f g k M) : AtM x y true := by
  obtain ⟨hx, D, hD, _, ha, hi⟩ := dcS_ok H
  obtain ⟨hy, E, hE, _, hb, hj⟩ := dcS_ok K
  refine .inl ⟨hx, hy, ⟨fun _ n hu => ?_, fun _ => rfl⟩⟩
  obtain ⟨h1, h2⟩ := hu
  obtain ⟨j, w, B, k1, k2⟩ := hE n
  cases j
  · rw [if_neg (by simp)] at k2
    have k3 := h n w (ahead_least k1).1
    obtain ⟨i, v, A, l1, l2⟩ := hD n
    cases i
    · rw [if_neg (by simp)] at l2
      have l3 := (ahead_least l1).2 w k3
      rcases h2 with h2 | h2
      · exact (hi n).1 h2 w k3
      · rw [ha, hb, k2, l2] at h2
        omega
    · rcases l1 with ⟨_, _, _, l1⟩ | ⟨l1, _⟩
      · exact l1 w k3
      · cases l1
  · rcases k1 with ⟨_, _, _, k1⟩ | ⟨k1, _⟩
    · exact h1 ((hj n).2 k1)
    · cases k1
end Go.Proofs.Ytbkimphcmmmaiaa
