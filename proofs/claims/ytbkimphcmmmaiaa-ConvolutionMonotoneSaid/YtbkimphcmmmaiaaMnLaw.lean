/- Greater arguments have greater or equal convolutions, in plain words. -/
import Derived.Test.YtbkimphcmmmaiaaAlgLaw
import Derived.Test.YtbkimphcmmmaiaaMonoLaw
import Derived.Test.YtbkimphcmmmaiaaLec
namespace Go.Proofs.Ytbkimphcmmmaiaa
open Go.RowKit
set_option linter.unusedVariables false

theorem cv_mono {f g x a b : Cv} (ha : CvS f g a 0) (hb : CvS x g b 0) (hi : ∀ s, f.infAt s → x.infAt s) (hv : ∀ s, ¬ x.infAt s → f.at s ≤ x.at s) : LEC a b := by
  obtain ⟨_, _, _, _, Ca, ia⟩ := cv_get ha
  obtain ⟨_, _, _, _, Cb, ib⟩ := cv_get hb
  intro n
  by_cases hn : b.infAt n
  · exact .inl hn
  · right
    rcases (Cb n).cases with ⟨h1, _⟩ | ⟨⟨s, h1, h2⟩, _⟩
    · exact absurd ((ib n).2 h1) hn
    · have cs : CSp f g n s := ⟨h1.1, fun h => h1.2.1 (hi s h), h1.2.2⟩
      refine ⟨fun h => (ia n).1 h s cs, ?_⟩
      rcases (Ca n).cases with ⟨h3, _⟩ | ⟨_, h3⟩
      · exact absurd cs (h3 s)
      · have h4 := h3 s cs
        have h5 := hv s h1.2.1
        omega
theorem cv_le0 {f g a : Cv} (ha : CvS f g a 0) {t : Nat} (ht : t ≤ 1000) (h1 : f.at t ≠ inf) (h2 : g.at 0 ≠ inf) : a.at t ≤ f.at t + g.at 0 := by
  obtain ⟨_, _, _, _, Ca, _⟩ := cv_get ha
  have cs : CSp f g t t := ⟨Nat.le_refl _, fun h => h1 h.2, by rw [Nat.sub_self]; exact fun h => h2 h.2⟩
  rcases (Ca t).cases with ⟨h3, _⟩ | ⟨_, h3⟩
  · exact absurd cs (h3 t)
  · have := h3 t cs
    rwa [Nat.sub_self] at this
/-- a sum of drawn curves is at least the first one -/
theorem sum_ge {m1 m2 : Nat} {f d r : Cv} {er : Int} (hm1 : m1 ≤ 12) (hm2 : m2 ≤ 12) (hf : DrawC m1 f) (hd : DrawC m2 d) (h : SumS f d r er) : er = 0 ∧ r.Ok ∧ (∀ s, f.infAt s → r.infAt s) ∧ ∀ s, ¬ r.infAt s → f.at s ≤ r.at s := by
  obtain ⟨he, hr, hv⟩ := sum_made hm1 hm2 hf hd h
  have inf1 : ∀ s, f.infAt s → r.infAt s := fun s hs => by
    rw [inf_min' hr, hv]
    have h1 := (hf.ok.at_bd (n := min s 1000) (by omega)).2.2 ((inf_min' hf.ok s).1 hs)
    unfold sumV
    first | rw [if_pos (.inl h1)] | (split <;> first | rfl | (rename_i hh; exact absurd (.inl h1) hh))
  refine ⟨he, hr, inf1, fun s hs => ?_⟩
  rw [hv]
  have hf' : ¬ f.infAt s := fun h => hs (inf1 s h)
  have hd' : ¬ d.infAt s := fun h => by
    apply hs
    rw [inf_min' hr, hv]
    have h1 := (hd.ok.at_bd (n := min s 1000) (by omega)).2.2 ((inf_min' hd.ok s).1 h)
    unfold sumV
    first | rw [if_pos (.inr h1)] | (split <;> first | rfl | (rename_i hh; exact absurd (.inr h1) hh))
  have := hd.ok.up0.nn s
  unfold sumV
  first | rw [if_neg (fun h => h.elim hf' hd')] | skip
  omega
end Go.Proofs.Ytbkimphcmmmaiaa
