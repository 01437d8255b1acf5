/- Convolutions and deconvolutions that have been made: their errors and periods. -/
import Derived.Test.YtbkimphcmmmaiaaCvoLaw
import Derived.Test.YtbkimphcmmmaiaaDcMLaw
namespace Go.Proofs.Ytbkimphcmmmaiaa
open Go.RowKit
set_option linter.unusedVariables false

theorem DrawC.per12 {m : Nat} {f : Cv} (h : DrawC m f) : ∃ s b, Per f.at s 12 b := by
  obtain ⟨s, q, b, h1, h2, h3⟩ := h.p4
  obtain ⟨k, hk⟩ := dvd12 h1 h2
  have P := h3.mul k
  rw [Nat.mul_comm, ← hk] at P
  exact ⟨s, _, P⟩
/-- a convolution that has been made -/
theorem cvS_ok {f g r : Cv} (ff : f.Fin) (fg : g.Fin) (H : CvS f g r 0) : r.Fin ∧ Conv f.at g.at r.at := by
  rcases H with ⟨_, h⟩ | ⟨hf, hg, a, b, ha, hb, H⟩
  · exact absurd h (by simp)
  · rcases H with ⟨_, _, h⟩ | ⟨hc, h, h1, h2⟩
    · cases h
    · obtain ⟨hao, _⟩ := nf_small hf ha
      obtain ⟨hbo, _⟩ := nf_small hg hb
      obtain ⟨_, hr, hn⟩ : _ ∧ r.Ok ∧ NF h r := by
        rcases h2.get (cv_up hao hbo h1) with h3 | h3
        · exact h3
        · exact absurd h3.1 (by decide)
      have hC := cvF_fin ff fg (h1.nf hf hg ha hb)
      have e : r.at = h := by funext t; exact hn.at t
      refine ⟨⟨hr, fun hi => ?_⟩, by rw [e]; exact hC⟩
      have h4 := hr.at_inf hi (t := 400) (by have := hr.n2; omega)
      rw [e] at h4
      rcases cv_bd ff.1 fg.1 (h1.nf hf hg ha hb) (t := 400) (by omega) with ⟨k, _⟩ | k
      · exact k 400 ⟨Nat.le_refl _, ff.not_infAt _, fg.not_infAt _⟩
      · rw [h4] at k; unfold inf at k; omega
theorem cvS_er {f g r : Cv} {er : Int} (hf : f.Ok) (hg : g.Ok) (H : CvS f g r er) : er = 0 ∨ er = 3 := by
  rcases H with ⟨h, _⟩ | ⟨hf, hg, a, b, ha, hb, H⟩
  · exact absurd ⟨hf, hg⟩ h
  · rcases H with ⟨_, _, h⟩ | ⟨hc, h, h1, h2⟩
    · exact .inr h
    · obtain ⟨hao, _⟩ := nf_small hf ha
      obtain ⟨hbo, _⟩ := nf_small hg hb
      rcases h2.get (cv_up hao hbo h1) with h3 | h3
      · exact .inl h3.1
      · exact .inr h3.1
/-- its periods -/
theorem conv_dvd {m k : Nat} {f g r a : Cv} (hf : DrawC m f) (hg : DrawC k g) (fr : r.Fin) (H : Conv f.at g.at r.at) (ha : NF r.at a) : a.per.toNat ∣ 12 := by
  obtain ⟨s1, G1, P1⟩ := hf.per12
  obtain ⟨s2, G2, P2⟩ := hg.per12
  have low : ∀ {f g : Cv} {s1 s2 : Nat} {G1 G2 : Int}, Per f.at s1 12 G1 → Per g.at s2 12 G2 → Conv f.at g.at r.at → G1 < G2 → a.per.toNat ∣ 12 := by
    intro f g s1 s2 G1 G2 P1 P2 H hG
    obtain ⟨T, hT⟩ : ∃ T, T = s1 + s2 + 12 + r.vals.length := ⟨_, rfl⟩
    have hp := fr.1.p1
    exact ha.per_dvd (by omega) (att_per P1 P2 hG H P1 (T := T) (by omega) fun t ht => att_of_per P1 P2 hG H (q := r.per.toNat) (by omega) fr.toL.step (by omega) (by omega))
  rcases (show G1 = G2 ∨ G1 < G2 ∨ G2 < G1 by omega) with h | h | h
  · rw [← h] at P2
    exact ha.per_dvd (by omega) (conv_eq P1 P2 H)
  · exact low P1 P2 H h
  · refine low P2 P1 (fun t => ?_) h
    obtain ⟨⟨s, h1, h2⟩, h3⟩ := H t
    refine ⟨⟨t - s, by omega, by rw [show t - (t - s) = s by omega]; omega⟩, fun u hu => ?_⟩
    have := h3 (t - u) (by omega)
    rw [show t - (t - u) = u by omega] at this
    omega
theorem dcS_er {f g r : Cv} {er : Int} (hf : f.Ok) (hg : g.Ok) (h0 : g.at 0 = 0) (H : DcS f g r er) : er = 0 ∨ er = 3 := by
  rcases H with ⟨h, _⟩ | ⟨_, _, _, _, h, _, g', _, h2⟩
  · rcases h with ⟨h, _⟩ | ⟨_, _, h, _⟩ | ⟨_, _, _, h, _⟩
    · exact absurd ⟨hf, hg⟩ h
    · exact absurd h0 h
    · exact .inr h
  · rcases h2 with ⟨_, _, h⟩ | ⟨_, _, h⟩
    · exact .inl h
    · exact .inr h
theorem dc_dvd {m : Nat} {f g x a : Cv} (hf : DrawC m f) (ff : f.Fin) (hg : g.Ok) (h0 : g.at 0 = 0) {D : Nat → Int} (hD : DcF f g D) (hx : x.at = D) (hn : NF x.at a) : a.per.toNat ∣ 12 := by
  obtain ⟨f', hf'⟩ := hf.ok.nf
  obtain ⟨g', hg'⟩ := hg.nf
  obtain ⟨hfo, _, _, _, hfi⟩ := nf_small hf.ok hf'
  obtain ⟨hgo, _⟩ := nf_small hg hg'
  obtain ⟨D', hD'⟩ := dc_exists hfo hgo
  obtain rfl := hD.unique (hD'.nf hf.ok hg hf' hg')
  rw [hx] at hn
  by_cases hl : Loose f' g'
  · refine Nat.dvd_trans (hn.per_dvd (s := 0) (p := 1) (b := 0) (by omega) ?_) (by decide)
    rw [dc_loose hfo hl hD']
    intro t _
    simp
  · have hp := hfo.p1
    exact Nat.dvd_trans (hn.per_dvd (by omega) (dc_per hfo hgo ⟨hfo, fun h => ff.2 (hfi.1 h)⟩ hl (by rw [hg'.at]; exact h0) hD')) (hf.dvd hf')
end Go.Proofs.Ytbkimphcmmmaiaa
