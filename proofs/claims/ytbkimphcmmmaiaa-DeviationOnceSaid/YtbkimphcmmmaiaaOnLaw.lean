/- Bursts are paid only once, in plain words. -/
import Derived.Test.YtbkimphcmmmaiaaCvoLaw
import Derived.Test.YtbkimphcmmmaiaaDcMLaw
import Derived.Test.YtbkimphcmmmaiaaDevSmall
import Derived.Test.YtbkimphcmmmaiaaLaterLaw
import Derived.Test.YtbkimphcmmmaiaaDev2
namespace Go.Proofs.Ytbkimphcmmmaiaa
open Go.RowKit
set_option linter.unusedVariables false

theorem DrawC.per12 {m : Nat} {f : Cv} (h : DrawC m f) : ∃ s b, Per f.at s 12 b := by
  obtain ⟨s, q, b, h1, h2, h3⟩ := h.p4
  obtain ⟨k, hk⟩ := dvd12 h1 h2
  have P := h3.mul k
  rw [Nat.mul_comm, ← hk] at P
  exact ⟨s, _, P⟩
/-- a convolution that has been made -/
theorem cvS_ok {f g r : Cv} (ff : f.Fin) (fg : g.Fin) (H : CvS f g r 0) : r.Fin ∧ Conv f.at g.at r.at := by
  rcases H with ⟨_, h⟩ | ⟨hf, hg, a, b, ha, hb, H⟩
  · exact absurd h (by simp)
  · rcases H with ⟨_, _, h⟩ | ⟨hc, h, h1, h2⟩
    · cases h
    · obtain ⟨hao, _⟩ := nf_small hf ha
      obtain ⟨hbo, _⟩ := nf_small hg hb
      obtain ⟨_, hr, hn⟩ : _ ∧ r.Ok ∧ NF h r := by
        rcases h2.get (cv_up hao hbo h1) with h3 | h3
        · exact h3
        · exact absurd h3.1 (by decide)
      have hC := cvF_fin ff fg (h1.nf hf hg ha hb)
      have e : r.at = h := by funext t; exact hn.at t
      refine ⟨⟨hr, fun hi => ?_⟩, by rw [e]; exact hC⟩
      have h4 := hr.at_inf hi (t := 400) (by have := hr.n2; omega)
      rw [e] at h4
      rcases cv_bd ff.1 fg.1 (h1.nf hf hg ha hb) (t := 400) (by omega) with ⟨k, _⟩ | k
      · exact k 400 ⟨Nat.le_refl _, ff.not_infAt _, fg.not_infAt _⟩
      · rw [h4] at k; unfold inf at k; omega
theorem cvS_er {f g r : Cv} {er : Int} (hf : f.Ok) (hg : g.Ok) (H : CvS f g r er) : er = 0 ∨ er = 3 := by
  rcases H with ⟨h, _⟩ | ⟨hf, hg, a, b, ha, hb, H⟩
  · exact absurd ⟨hf, hg⟩ h
  · rcases H with ⟨_, _, h⟩ | ⟨hc, h, h1, h2⟩
    · exact .inr h
    · obtain ⟨hao, _⟩ := nf_small hf ha
      obtain ⟨hbo, _⟩ := nf_small hg hb
      rcases h2.get (cv_up hao hbo h1) with h3 | h3
      · exact .inl h3.1
      · exact .inr h3.1
/-- its periods -/
theorem conv_dvd {m k : Nat} {f g r a : Cv} (hf : DrawC m f) (hg : DrawC k g) (fr : r.Fin) (H : Conv f.at g.at r.at) (ha : NF r.at a) : a.per.toNat ∣ 12 := by
  obtain ⟨s1, G1, P1⟩ := hf.per12
  obtain ⟨s2, G2, P2⟩ := hg.per12
  have low : ∀ {f g : Cv} {s1 s2 : Nat} {G1 G2 : Int}, Per f.at s1 12 G1 → Per g.at s2 12 G2 → Conv f.at g.at r.at → G1 < G2 → a.per.toNat ∣ 12 := by
    intro f g s1 s2 G1 G2 P1 P2 H hG
    obtain ⟨T, hT⟩ : ∃ T, T = s1 + s2 + 12 + r.vals.length := ⟨_, rfl⟩
    have hp := fr.1.p1
    exact ha.per_dvd (by omega) (att_per P1 P2 hG H P1 (T := T) (by omega) fun t ht => att_of_per P1 P2 hG H (q := r.per.toNat) (by omega) fr.toL.step (by omega) (by omega))
  rcases (show G1 = G2 ∨ G1 < G2 ∨ G2 < G1 by omega) with h | h | h
  · rw [← h] at P2
    exact ha.per_dvd (by omega) (conv_eq P1 P2 H)
  · exact low P1 P2 H h
  · refine low P2 P1 (fun t => ?_) h
    obtain ⟨⟨s, h1, h2⟩, h3⟩ := H t
    refine ⟨⟨t - s, by omega, by rw [show t - (t - s) = s by omega]; omega⟩, fun u hu => ?_⟩
    have := h3 (t - u) (by omega)
    rw [show t - (t - u) = u by omega] at this
    omega
theorem dcS_er {f g r : Cv} {er : Int} (hf : f.Ok) (hg : g.Ok) (h0 : g.at 0 = 0) (H : DcS f g r er) : er = 0 ∨ er = 3 := by
  rcases H with ⟨h, _⟩ | ⟨_, _, _, _, h, _, g', _, h2⟩
  · rcases h with ⟨h, _⟩ | ⟨_, _, h, _⟩ | ⟨_, _, _, h, _⟩
    · exact absurd ⟨hf, hg⟩ h
    · exact absurd h0 h
    · exact .inr h
  · rcases h2 with ⟨_, _, h⟩ | ⟨_, _, h⟩
    · exact .inl h
    · exact .inr h
theorem dc_dvd {m : Nat} {f g x a : Cv} (hf : DrawC m f) (ff : f.Fin) (hg : g.Ok) (h0 : g.at 0 = 0) {D : Nat → Int} (hD : DcF f g D) (hx : x.at = D) (hn : NF x.at a) : a.per.toNat ∣ 12 := by
  obtain ⟨f', hf'⟩ := hf.ok.nf
  obtain ⟨g', hg'⟩ := hg.nf
  obtain ⟨hfo, _, _, _, hfi⟩ := nf_small hf.ok hf'
  obtain ⟨hgo, _⟩ := nf_small hg hg'
  obtain ⟨D', hD'⟩ := dc_exists hfo hgo
  obtain rfl := hD.unique (hD'.nf hf.ok hg hf' hg')
  rw [hx] at hn
  by_cases hl : Loose f' g'
  · refine Nat.dvd_trans (hn.per_dvd (s := 0) (p := 1) (b := 0) (by omega) ?_) (by decide)
    rw [dc_loose hfo hl hD']
    intro t _
    simp
  · have hp := hfo.p1
    exact Nat.dvd_trans (hn.per_dvd (by omega) (dc_per hfo hgo ⟨hfo, fun h => ff.2 (hfi.1 h)⟩ hl (by rw [hg'.at]; exact h0) hD')) (hf.dvd hf')
/-- the law -/
theorem db_once {f g h c x : Cv} (ff : f.Fin) (fg : g.Fin) (fh : h.Fin) (fc : c.Fin) (hC : Conv g.at h.at c.at) {D : Nat → Int} (hD : DcF f g D) (hx : x.at = D)
    (hi : ∀ n, x.infAt n ↔ ∀ M, ¬ AB f g n M) {d1 d2 : Nat} (H1 : DB f g d1) (H2 : DB x h d2) : DB f c (d1 + d2) := fun t => by
  refine .inr ⟨ff.not_infAt _, ?_⟩
  have dec : ∀ k u, d2 + k ≤ u → ∀ s, f.at (s + k) ≤ g.at s + h.at u := fun k u hu s => by
    rcases H2 k with h1 | ⟨h1, h2⟩
    · exact absurd h1 (fh.not_infAt _)
    · obtain ⟨i, v, A, h3, h4⟩ := hD k
      have e : i = false := by
        cases i
        · rfl
        · rcases h3 with ⟨_, _, _, h3⟩ | ⟨h3, _⟩
          · exact absurd ((hi k).2 h3) h1
          · cases h3
      subst e
      rw [if_neg (by simp), ← hx] at h4
      rcases (ahead_least h3).1 s with h5 | ⟨_, h5⟩
      · exact absurd h5 (fg.not_infAt _)
      · have := fh.1.at_le (show k + d2 ≤ u by omega)
        omega
  obtain ⟨⟨s, hs, e⟩, _⟩ := hC (t + (d1 + d2))
  rw [e]
  rcases Nat.lt_or_ge t s with k1 | k1
  · rcases Nat.lt_or_ge s (t + d1) with k2 | k2
    · have h1 := dec 0 (t + (d1 + d2) - s) (by omega) s
      have h2 := ff.1.at_le (show t ≤ s + 0 by omega)
      omega
    · rcases H1 t with h1 | ⟨_, h1⟩
      · exact absurd h1 (fg.not_infAt _)
      · have h2 := fg.1.at_le k2
        have h3 := fh.1.up0.nn (t + (d1 + d2) - s)
        omega
  · have h1 := dec (t - s) (t + (d1 + d2) - s) (by omega) s
    rw [show s + (t - s) = t by omega] at h1
    exact h1
/-- the delays of two curves whose normal forms' periods divide 12 -/
theorem del_ok {f g : Cv} (hf : f.Ok) (hg : g.Ok) (h1 : ∀ a, NF f.at a → a.per.toNat ∣ 12) (h2 : ∀ b, NF g.at b → b.per.toNat ∣ 12) {i : Bool} {v A er : Int} (h : DevE (DelayS f g) f g i v A er) :
    er = 0 ∧ ∃ v' A' : Nat, v = v' ∧ A = A' ∧ DelayS f g i v' A' := by
  rcases h with ⟨h, _⟩ | ⟨_, _, _, h3, v', A', h4, h5, h6⟩
  · exact absurd (nf_pair hf hg (n := 12) (by omega) (by omega) h1 h2) (h.not hf hg)
  · exact ⟨h3, v', A', h4, h5, h6⟩
/-- what the statement asks of the three delays -/
theorem del_once {f g h c x : Cv} (ff : f.Fin) (fg : g.Fin) (fh : h.Fin) (fc : c.Fin) (hC : Conv g.at h.at c.at) {D : Nat → Int} (hD : DcF f g D) (hx : x.at = D) (hxo : x.Ok)
    (hi : ∀ n, x.infAt n ↔ ∀ M, ¬ AB f g n M) {i j k : Bool} {u v w A1 A2 A3 : Nat} (H : DelayS f c i u A1) (H1 : DelayS f g j v A2) (H2 : DelayS x h k w A3) :
    j = true ∨ k = true ∨ (j = false ∧ k = false ∧ i = false ∧ (u : Int) ≤ (v : Int) + w ∧ (v : Int) ≤ 4000000000000000 ∧ (w : Int) ≤ 4000000000000000) := by
  cases j
  · cases k
    · have b1 : DB f g v := by
        rcases H1 with ⟨e, _⟩ | ⟨_, h1, _⟩
        · cases e
        · exact h1
      have b2 : DB x h w := by
        rcases H2 with ⟨e, _⟩ | ⟨_, h1, _⟩
        · cases e
        · exact h1
      have b := db_once ff fg fh fc hC hD hx hi b1 b2
      have fx : x.Fin := by
        rcases hxo.fin_or with h1 | h1
        · exact h1
        · exfalso
          rcases b2 (x.vals.length - x.per.toNat) with h2 | ⟨h2, _⟩
          · exact fh.not_infAt _ h2
          · exact h2 (hxo.infAt_start h1 (Nat.le_refl _))
      refine .inr (.inr ⟨rfl, rfl, ?_, ?_, H1.small ff fg, H2.small fx fh⟩)
      · rcases H with ⟨_, _, _, h1⟩ | ⟨h1, _⟩
        · exact absurd b (h1 _)
        · exact h1
      · rcases H with ⟨_, _, _, h1⟩ | ⟨rfl, h2⟩
        · exact absurd b (h1 _)
        · have := DelayS.least fc.1 (.inr ⟨rfl, h2⟩) b
          omega
    · exact .inr (.inl rfl)
  · exact .inl rfl
end Go.Proofs.Ytbkimphcmmmaiaa
