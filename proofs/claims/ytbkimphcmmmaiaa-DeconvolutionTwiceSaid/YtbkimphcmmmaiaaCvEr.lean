/- Deconvolution: greater curves, and curves with a wait, in plain words. -/
import Derived.Test.YtbkimphcmmmaiaaDcPLaw
import Derived.Test.YtbkimphcmmmaiaaMonoLaw
import Derived.Test.YtbkimphcmmmaiaaBy
import Derived.Test.YtbkimphcmmmaiaaCvoLaw
namespace Go.Proofs.Ytbkimphcmmmaiaa
open Go.RowKit
set_option linter.unusedVariables false

/-- a deconvolution that has been made -/
theorem dcS_ok {f g x : Cv} (H : DcS f g x 0) : x.Ok ∧ ∃ D, DcF f g D ∧ NF D x ∧ x.at = D ∧ ∀ n, x.infAt n ↔ ∀ M, ¬ AB f g n M := by
  rcases H with ⟨H, _⟩ | ⟨hf, hg, h0, ⟨a, b, hna, hnb, hc⟩, D, hD, hM⟩
  · exfalso
    rcases H with ⟨_, h⟩ | ⟨_, _, _, h⟩ | ⟨_, _, _, h, _⟩ <;> cases h
  · obtain ⟨hao, _⟩ := nf_small hf hna
    obtain ⟨hbo, _⟩ := nf_small hg hnb
    obtain ⟨D', hD'⟩ := dc_exists hao hbo
    obtain rfl := hD.unique (hD'.nf hf hg hna hnb)
    have hc' : ordC a b ≤ 120 := by unfold ordC; exact hc
    have hb0 : b.at 0 = 0 := by rw [hnb.at]; exact h0
    obtain ⟨_, hx, hn⟩ : _ ∧ x.Ok ∧ NF D x := by
      rcases hM.get (dc_up0 hao hbo hc' hb0 hD') with h3 | h3
      · exact h3
      · exact absurd h3.1 (by decide)
    have hat : x.at = D := by funext t; exact hn.at t
    refine ⟨hx, D, hD, hn, hat, fun n => ?_⟩
    -- of the normal forms
    have key : x.infAt n ↔ AheadS a b n true 0 0 := by
      have hxn := hx.n2
      constructor
      · intro hi
        have low : ∀ k, k ≤ 1000 → D k = inf → AheadS a b k true 0 0 := fun k hk e => by
          obtain ⟨i, v, A, h1, h2⟩ := hD' k
          cases i
          · exfalso
            rw [if_neg (by simp)] at h2
            by_cases hl : Loose a b
            · have := (h1.unique (loose_ahead hao k hl)).1
              cases this
            · have h3 := dc_small hao hbo hc' hl hk h1
              rw [e] at h2
              unfold inf at h2
              omega
          · rcases h1 with ⟨_, rfl, rfl, h1⟩ | ⟨h1, _⟩
            · exact .inl ⟨rfl, rfl, rfl, h1⟩
            · cases h1
        rcases Nat.lt_or_ge n 1000 with h1 | h1
        · exact low n (by omega) (by rw [← hat]; exact hi.2)
        · have h2 := hx.infAt_start hi.1 (Nat.le_refl _)
          have h3 := low (x.vals.length - x.per.toNat) (by omega) (by rw [← hat]; exact h2.2)
          rcases h3 with ⟨_, _, _, h3⟩ | ⟨h3, _⟩
          · exact .inl ⟨rfl, rfl, rfl, fun M hM => h3 M (dc_up hao (by omega) hM)⟩
          · cases h3
      · intro hk
        have e : D n = inf := by
          obtain ⟨i, v, A, h1, h2⟩ := hD' n
          obtain ⟨rfl, _⟩ := h1.unique hk
          rw [h2, if_pos rfl]
        refine ⟨?_, by rw [hat]; exact e⟩
        rcases hx.fin_or with fx | ix
        · exfalso
          have nofin : ∀ t, t ≤ 500 → D t ≠ inf := fun t ht e => by
            have h1 := fx.at_bd t
            rw [hat, e] at h1
            have : (t : Int) * 1073741824 ≤ 500 * 1073741824 := Int.mul_le_mul_of_nonneg_right (by omega) (by omega)
            unfold inf at h1
            omega
          by_cases hl : Loose a b
          · exact nofin 0 (by omega) (by rw [dc_loose hao hl hD'])
          · have fa : ¬ a.Fin := fun fa => by
              obtain ⟨v', A', h4, _⟩ := ahi_exists (a := a) (b := b) n (dcK a b) (fun x _ => .inr (fa.not_infAt _))
              have := (hk.unique (h4.doneK hao hbo hl)).1
              cases this
            have ia : nth a.vals (a.vals.length - 1) = inf := hao.fin_or.resolve_left fa
            have han := hao.n2
            refine nofin (a.vals.length - a.per.toNat) (by omega) ?_
            obtain ⟨i, v, A, h1, h2⟩ := hD' (a.vals.length - a.per.toNat)
            obtain ⟨rfl, _⟩ := h1.unique (not_ab (t := 0) (dc_zero hbo hb0) (by rw [Nat.zero_add]; exact hao.infAt_start ia (Nat.le_refl _)))
            rw [h2, if_pos rfl]
        · exact ix
    rw [key]
    constructor
    · intro h
      rcases h.nf hf hg hna hnb with ⟨_, _, _, h⟩ | ⟨h, _⟩
      · exact h
      · cases h
    · intro h
      obtain ⟨i, v, A, h1, _⟩ := hD' n
      have h2 := h1.nf hf hg hna hnb
      rcases h1 with ⟨rfl, rfl, rfl, h1⟩ | ⟨rfl, _⟩
      · exact .inl ⟨rfl, rfl, rfl, h1⟩
      · rcases h2 with ⟨h2, _⟩ | ⟨_, h2, _⟩
        · cases h2
        · exact absurd h2 (h v)
/-- what is bounded by less is at most -/
theorem dc_mono {f g f' g' x y : Cv} (H : DcS f g x 0) (K : DcS f' g' y 0) (h : ∀ k M, AB f' g' k M → AB f g k M) : AtM x y true := by
  obtain ⟨hx, D, hD, _, ha, hi⟩ := dcS_ok H
  obtain ⟨hy, E, hE, _, hb, hj⟩ := dcS_ok K
  refine .inl ⟨hx, hy, ⟨fun _ n hu => ?_, fun _ => rfl⟩⟩
  obtain ⟨h1, h2⟩ := hu
  obtain ⟨j, w, B, k1, k2⟩ := hE n
  cases j
  · rw [if_neg (by simp)] at k2
    have k3 := h n w (ahead_least k1).1
    obtain ⟨i, v, A, l1, l2⟩ := hD n
    cases i
    · rw [if_neg (by simp)] at l2
      have l3 := (ahead_least l1).2 w k3
      rcases h2 with h2 | h2
      · exact (hi n).1 h2 w k3
      · rw [ha, hb, k2, l2] at h2
        omega
    · rcases l1 with ⟨_, _, _, l1⟩ | ⟨l1, _⟩
      · exact l1 w k3
      · cases l1
  · rcases k1 with ⟨_, _, _, k1⟩ | ⟨k1, _⟩
    · exact h1 ((hj n).2 k1)
    · cases k1
end Go.Proofs.Ytbkimphcmmmaiaa
namespace Go.Proofs.Ytbkimphcmmmaiaa
open Go.RowKit
set_option linter.unusedVariables false

theorem DrawC.per12 {m : Nat} {f : Cv} (h : DrawC m f) : ∃ s b, Per f.at s 12 b := by
  obtain ⟨s, q, b, h1, h2, h3⟩ := h.p4
  obtain ⟨k, hk⟩ := dvd12 h1 h2
  have P := h3.mul k
  rw [Nat.mul_comm, ← hk] at P
  exact ⟨s, _, P⟩
/-- a convolution that has been made -/
theorem cvS_ok {f g r : Cv} (ff : f.Fin) (fg : g.Fin) (H : CvS f g r 0) : r.Fin ∧ Conv f.at g.at r.at := by
  rcases H with ⟨_, h⟩ | ⟨hf, hg, a, b, ha, hb, H⟩
  · exact absurd h (by simp)
  · rcases H with ⟨_, _, h⟩ | ⟨hc, h, h1, h2⟩
    · cases h
    · obtain ⟨hao, _⟩ := nf_small hf ha
      obtain ⟨hbo, _⟩ := nf_small hg hb
      obtain ⟨_, hr, hn⟩ : _ ∧ r.Ok ∧ NF h r := by
        rcases h2.get (cv_up hao hbo h1) with h3 | h3
        · exact h3
        · exact absurd h3.1 (by decide)
      have hC := cvF_fin ff fg (h1.nf hf hg ha hb)
      have e : r.at = h := by funext t; exact hn.at t
      refine ⟨⟨hr, fun hi => ?_⟩, by rw [e]; exact hC⟩
      have h4 := hr.at_inf hi (t := 400) (by have := hr.n2; omega)
      rw [e] at h4
      rcases cv_bd ff.1 fg.1 (h1.nf hf hg ha hb) (t := 400) (by omega) with ⟨k, _⟩ | k
      · exact k 400 ⟨Nat.le_refl _, ff.not_infAt _, fg.not_infAt _⟩
      · rw [h4] at k; unfold inf at k; omega
theorem cvS_er {f g r : Cv} {er : Int} (hf : f.Ok) (hg : g.Ok) (H : CvS f g r er) : er = 0 ∨ er = 3 := by
  rcases H with ⟨h, _⟩ | ⟨hf, hg, a, b, ha, hb, H⟩
  · exact absurd ⟨hf, hg⟩ h
  · rcases H with ⟨_, _, h⟩ | ⟨hc, h, h1, h2⟩
    · exact .inr h
    · obtain ⟨hao, _⟩ := nf_small hf ha
      obtain ⟨hbo, _⟩ := nf_small hg hb
      rcases h2.get (cv_up hao hbo h1) with h3 | h3
      · exact .inl h3.1
      · exact .inr h3.1
/-- its periods -/
theorem conv_dvd {m k : Nat} {f g r a : Cv} (hf : DrawC m f) (hg : DrawC k g) (fr : r.Fin) (H : Conv f.at g.at r.at) (ha : NF r.at a) : a.per.toNat ∣ 12 := by
  obtain ⟨s1, G1, P1⟩ := hf.per12
  obtain ⟨s2, G2, P2⟩ := hg.per12
  have low : ∀ {f g : Cv} {s1 s2 : Nat} {G1 G2 : Int}, Per f.at s1 12 G1 → Per g.at s2 12 G2 → Conv f.at g.at r.at → G1 < G2 → a.per.toNat ∣ 12 := by
    intro f g s1 s2 G1 G2 P1 P2 H hG
    obtain ⟨T, hT⟩ : ∃ T, T = s1 + s2 + 12 + r.vals.length := ⟨_, rfl⟩
    have hp := fr.1.p1
    exact ha.per_dvd (by omega) (att_per P1 P2 hG H P1 (T := T) (by omega) fun t ht => att_of_per P1 P2 hG H (q := r.per.toNat) (by omega) fr.toL.step (by omega) (by omega))
  rcases (show G1 = G2 ∨ G1 < G2 ∨ G2 < G1 by omega) with h | h | h
  · rw [← h] at P2
    exact ha.per_dvd (by omega) (conv_eq P1 P2 H)
  · exact low P1 P2 H h
  · refine low P2 P1 (fun t => ?_) h
    obtain ⟨⟨s, h1, h2⟩, h3⟩ := H t
    refine ⟨⟨t - s, by omega, by rw [show t - (t - s) = s by omega]; omega⟩, fun u hu => ?_⟩
    have := h3 (t - u) (by omega)
    rw [show t - (t - u) = u by omega] at this
    omega
theorem dcS_er {f g r : Cv} {er : Int} (hf : f.Ok) (hg : g.Ok) (h0 : g.at 0 = 0) (H : DcS f g r er) : er = 0 ∨ er = 3 := by
  rcases H with ⟨h, _⟩ | ⟨_, _, _, _, h, _, g', _, h2⟩
  · rcases h with ⟨h, _⟩ | ⟨_, _, h, _⟩ | ⟨_, _, _, h, _⟩
    · exact absurd ⟨hf, hg⟩ h
    · exact absurd h0 h
    · exact .inr h
  · rcases h2 with ⟨_, _, h⟩ | ⟨_, _, h⟩
    · exact .inl h
    · exact .inr h
theorem dc_dvd {m : Nat} {f g x a : Cv} (hf : DrawC m f) (ff : f.Fin) (hg : g.Ok) (h0 : g.at 0 = 0) {D : Nat → Int} (hD : DcF f g D) (hx : x.at = D) (hn : NF x.at a) : a.per.toNat ∣ 12 := by
  obtain ⟨f', hf'⟩ := hf.ok.nf
  obtain ⟨g', hg'⟩ := hg.nf
  obtain ⟨hfo, _, _, _, hfi⟩ := nf_small hf.ok hf'
  obtain ⟨hgo, _⟩ := nf_small hg hg'
  obtain ⟨D', hD'⟩ := dc_exists hfo hgo
  obtain rfl := hD.unique (hD'.nf hf.ok hg hf' hg')
  rw [hx] at hn
  by_cases hl : Loose f' g'
  · refine Nat.dvd_trans (hn.per_dvd (s := 0) (p := 1) (b := 0) (by omega) ?_) (by decide)
    rw [dc_loose hfo hl hD']
    intro t _
    simp
  · have hp := hfo.p1
    exact Nat.dvd_trans (hn.per_dvd (by omega) (dc_per hfo hgo ⟨hfo, fun h => ff.2 (hfi.1 h)⟩ hl (by rw [hg'.at]; exact h0) hD')) (hf.dvd hf')
end Go.Proofs.Ytbkimphcmmmaiaa
