/- The closure of the minimum of two closures, in plain words. -/
import Derived.Test.YthdibkmjoiipgaaCvoLaw
import Derived.Test.YthdibkmjoiipgaaClLaw
import Derived.Test.YthdibkmjoiipgaaClMnLaw
namespace Go.Proofs.Ythdibkmjoiipgaa
set_option linter.unusedVariables false

theorem cvS_nf {f g r : Cv} (H : CvS f g r 0) : f.Ok ∧ g.Ok ∧ ∃ a b, NF f.at a ∧ NF g.at b ∧ a.Ok ∧ b.Ok ∧ comm a.per.toNat b.per.toNat ≤ 120 ∧ r.Ok ∧ NF r.at r ∧ CvF a b r.at ∧ CvF f g r.at := by
  rcases H with ⟨_, _, h⟩ | ⟨hf, hg, a, b, ha, hb, H⟩
  · cases h
  · obtain ⟨hao, _⟩ := nf_small hf ha
    obtain ⟨hbo, _⟩ := nf_small hg hb
    rcases H with ⟨_, _, h⟩ | ⟨hc, h, h1, h2⟩
    · cases h
    · rcases h2.get (cv_up hao hbo h1) with ⟨_, h3, h4⟩ | ⟨h3, _⟩
      · have e : r.at = h := by funext t; exact h4.at t
        rw [← e] at h1 h4
        exact ⟨hf, hg, a, b, ha, hb, hao, hbo, hc, h3, h4, h1, h1.nf hf hg ha hb⟩
      · cases h3
theorem csp_far' {a b : Cv} (ha : a.Ok) (hb : b.Ok) {n s : Nat} (hn : 1000 ≤ n) (h : CSp a b 1000 s) : ∃ u, CSp a b n u := by
  have n1 := ha.n2; have n2 := hb.n2
  have hs := h.1
  by_cases fa : a.Fin
  · by_cases fb : b.Fin
    · exact ⟨0, by omega, fa.not_infAt _, fb.not_infAt _⟩
    · exact ⟨n - (1000 - s), by omega, fa.not_infAt _, by rw [show n - (n - (1000 - s)) = 1000 - s by omega]; exact h.2.2⟩
  · by_cases fb : b.Fin
    · exact ⟨s, by omega, h.2.1, fb.not_infAt _⟩
    · exfalso
      have ia := ha.fin_or.resolve_left fa
      have ib := hb.fin_or.resolve_left fb
      rcases Nat.lt_or_ge s 400 with q | q
      · exact h.2.2 ⟨ib, hb.at_inf ib (by omega)⟩
      · exact h.2.1 ⟨ia, ha.at_inf ia (by omega)⟩
theorem inf_min' {r : Cv} (hr : r.Ok) (n : Nat) : r.infAt n ↔ r.at (min n 1000) = inf := by
  have h2 := hr.n2
  constructor
  · intro h
    by_cases hn : n ≤ 1000
    · rw [Nat.min_eq_left hn]; exact h.2
    · rw [Nat.min_eq_right (by omega)]; exact hr.at_inf h.1 (by omega)
  · intro h
    exact ((hr.at_bd (n := min n 1000) (by omega)).2.2 h).later hr (Nat.min_le_left _ _)
theorem cv_infAt' {a b r : Cv} (ha : a.Ok) (hb : b.Ok) (hr : r.Ok) (H : CvF a b r.at) (n : Nat) : r.infAt n ↔ ∀ s, ¬ CSp a b n s := by
  have key : ∀ m, m ≤ 1000 → (r.at m = inf ↔ ∀ s, ¬ CSp a b m s) := fun m hm => by
    rcases cv_bd ha hb H (t := m) (by omega) with ⟨h1, h2⟩ | h1
    · exact ⟨fun _ => h1, fun _ => h2⟩
    · refine ⟨fun h => by unfold inf at h; omega, fun h => ?_⟩
      exact (H m).unique (CvT.none h)
  rw [inf_min' hr]
  by_cases hn : n ≤ 1000
  · rw [Nat.min_eq_left hn]; exact key n hn
  · rw [Nat.min_eq_right (by omega), key 1000 (Nat.le_refl _)]
    constructor
    · intro h; exact csp_later ha hb (by omega) h
    · intro h s hs
      obtain ⟨u, hu⟩ := csp_far' ha hb (show 1000 ≤ n by omega) hs
      exact h u hu
theorem cv_get {f g r : Cv} (H : CvS f g r 0) : f.Ok ∧ g.Ok ∧ r.Ok ∧ NF r.at r ∧ CvF f g r.at ∧ ∀ n, r.infAt n ↔ ∀ s, ¬ CSp f g n s := by
  obtain ⟨hf, hg, a, b, _, _, _, _, _, hr, hn, _, hC⟩ := cvS_nf H
  exact ⟨hf, hg, hr, hn, hC, cv_infAt' hf hg hr hC⟩
theorem cv_er2 {f g r : Cv} {er : Int} (hf : f.Ok) (hg : g.Ok) (H : CvS f g r er) : (er = 0 ∧ r.Ok) ∨ (er = 3 ∧ r = Cv.none) := by
  rcases H with ⟨h, _⟩ | ⟨hf, hg, a, b, ha, hb, H⟩
  · exact absurd ⟨hf, hg⟩ h
  · rcases H with ⟨_, h2, h⟩ | ⟨hc, h, h1, h2⟩
    · exact .inr ⟨h, h2⟩
    · obtain ⟨hao, _⟩ := nf_small hf ha
      obtain ⟨hbo, _⟩ := nf_small hg hb
      rcases h2.get (cv_up hao hbo h1) with h3 | h3
      · exact .inl ⟨h3.1, h3.2.1⟩
      · exact .inr h3
theorem cvS_len {f g r : Cv} {er : Int} (hf : f.Ok) (hg : g.Ok) (H : CvS f g r er) : r.vals.length ≤ 400 := by
  rcases cv_er2 hf hg H with ⟨_, h⟩ | ⟨_, rfl⟩
  · exact h.n2
  · decide
theorem at0_not {h : Cv} (h0 : h.at 0 = 0) : ¬ h.infAt 0 := fun k => by
  have := k.2
  rw [h0] at this
  unfold inf at this
  omega
theorem cl_conv {f g m c h : Cv} {fr : Int} {cs : List Int} (hf : f.Ok) (hg : g.Ok) (sf : SubA f) (sg : SubA g) (f0 : f.at 0 = 0) (g0 : g.at 0 = 0) (hm : m.Ok) (em : m.at = exV true f g) (hc : CvS f g c 0) (H : CkC m h fr cs) : h = c := by
  obtain ⟨_, _, hco, hcn, hC, hci⟩ := cv_get hc
  obtain ⟨hh, hn, h0, hle, hs, hmax⟩ := ck_get H
  have im := min_infAt hf hg hm em
  have mf := min_l hf hg hm em
  have mg := min_r hf hg hm em
  have csp : ∀ n, ¬ c.infAt n → ∃ s, CSp f g n s ∧ c.at n = f.at s + g.at (n - s) := fun n k => by
    rcases (hC n).cases with ⟨q, _⟩ | ⟨⟨s, q1, q2⟩, _⟩
    · exact absurd ((hci n).2 q) k
    · exact ⟨s, q1, q2⟩
  have cle : ∀ n s, CSp f g n s → ¬ c.infAt n ∧ c.at n ≤ f.at s + g.at (n - s) := fun n s k => by
    refine ⟨fun q => (hci n).1 q s k, ?_⟩
    rcases (hC n).cases with ⟨q, _⟩ | ⟨_, q⟩
    · exact absurd k (q s)
    · exact q s k
  -- the convolution is sub-additive
  have sc : SubA c := fun s u => by
    by_cases k1 : c.infAt s
    · exact .inl k1
    by_cases k2 : c.infAt u
    · exact .inr (.inl k2)
    obtain ⟨a, ha, ea⟩ := csp s k1
    obtain ⟨b, hb, eb⟩ := csp u k2
    rcases sf a b with q | q | ⟨q1, q2⟩
    · exact absurd q ha.2.1
    · exact absurd q hb.2.1
    rcases sg (s - a) (u - b) with r | r | ⟨r1, r2⟩
    · exact absurd r ha.2.2
    · exact absurd r hb.2.2
    have h1 := ha.1; have h2 := hb.1
    rw [show s - a + (u - b) = s + u - (a + b) by omega] at r1 r2
    have := cle (s + u) (a + b) ⟨by omega, q1, r1⟩
    exact .inr (.inr ⟨this.1, by omega⟩)
  have c0 : c.at 0 = 0 := by
    have a := cle 0 0 ⟨Nat.le_refl _, at0_not f0, at0_not g0⟩
    obtain ⟨s, hs1, hs2⟩ := csp 0 a.1
    obtain rfl : s = 0 := by have := hs1.1; omega
    rw [hs2, f0]
    show 0 + g.at 0 = 0
    rw [g0]
    rfl
  have lcm : LEC c m := fun n => by
    by_cases k : m.infAt n
    · exact .inl k
    · refine .inr ?_
      by_cases kf : f.infAt n
      · by_cases kg : g.infAt n
        · exact absurd ((im n).2 ⟨kf, kg⟩) k
        · have := cle n 0 ⟨Nat.zero_le _, at0_not f0, by rw [Nat.sub_zero]; exact kg⟩
          rw [f0, Nat.sub_zero] at this
          refine ⟨this.1, ?_⟩
          rw [em]
          unfold exV
          rw [if_pos kf]
          simp only [if_true]
          omega
      · have A := cle n n ⟨Nat.le_refl _, kf, by rw [Nat.sub_self]; exact at0_not g0⟩
        rw [Nat.sub_self, g0] at A
        refine ⟨A.1, ?_⟩
        rw [em]
        unfold exV
        rw [if_neg kf]
        by_cases kg : g.infAt n
        · rw [if_pos kg]; simp only [if_true]; omega
        · have B := cle n 0 ⟨Nat.zero_le _, at0_not f0, by rw [Nat.sub_zero]; exact kg⟩
          rw [f0, Nat.sub_zero] at B
          rw [if_neg kg, pk_true]
          omega
  have lhc : LEC h c := fun n => by
    by_cases k : c.infAt n
    · exact .inl k
    · obtain ⟨s, hs1, hs2⟩ := csp n k
      obtain ⟨q1, q2⟩ := mf s hs1.2.1
      obtain ⟨r1, r2⟩ := mg (n - s) hs1.2.2
      rcases hle s with x | ⟨x1, x2⟩
      · exact absurd x q1
      rcases hle (n - s) with y | ⟨y1, y2⟩
      · exact absurd y r1
      rcases hs s (n - s) with z | z | ⟨z1, z2⟩
      · exact absurd z x1
      · exact absurd z y1
      · have := hs1.1
        rw [show s + (n - s) = n by omega] at z1 z2
        exact .inr ⟨z1, by omega⟩
  have e : h.at = c.at := funext (lec_at lhc (hmax c sc c0 lcm))
  rw [← e] at hcn
  exact hn.unique hcn
end Go.Proofs.Ythdibkmjoiipgaa
