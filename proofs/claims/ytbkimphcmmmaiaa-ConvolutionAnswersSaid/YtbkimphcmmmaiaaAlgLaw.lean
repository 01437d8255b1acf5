/- The algebra of convolution, in plain words. -/
import Derived.Test.YtbkimphcmmmaiaaCpLaw
namespace Go.Proofs.Ytbkimphcmmmaiaa
open Go.RowKit
set_option linter.unusedVariables false

theorem CvS.symm {f g r : Cv} {er : Int} (H : CvS f g r er) : CvS g f r er := by
  rcases H with ⟨h, h1, h2⟩ | ⟨hf, hg, a, b, ha, hb, H⟩
  · exact .inl ⟨fun k => h ⟨k.2, k.1⟩, h1, h2⟩
  · obtain ⟨hao, _⟩ := nf_small hf ha
    obtain ⟨hbo, _⟩ := nf_small hg hb
    have p1 := hao.p1; have p2 := hbo.p1
    have e := comm_symm (p := a.per.toNat) (q := b.per.toNat) (by omega) (by omega)
    rw [e] at H
    refine .inr ⟨hg, hf, b, a, hb, ha, ?_⟩
    rcases H with h | ⟨h1, h2⟩
    · exact .inl h
    · exact .inr ⟨h1, h2.symm⟩
theorem csp_far' {a b : Cv} (ha : a.Ok) (hb : b.Ok) {n s : Nat} (hn : 1000 ≤ n) (h : CSp a b 1000 s) : ∃ u, CSp a b n u := by
  have n1 := ha.n2; have n2 := hb.n2
  have hs := h.1
  by_cases fa : a.Fin
  · by_cases fb : b.Fin
    · exact ⟨0, by omega, fa.not_infAt _, fb.not_infAt _⟩
    · exact ⟨n - (1000 - s), by omega, fa.not_infAt _, by rw [show n - (n - (1000 - s)) = 1000 - s by omega]; exact h.2.2⟩
  · by_cases fb : b.Fin
    · exact ⟨s, by omega, h.2.1, fb.not_infAt _⟩
    · exfalso
      have ia := ha.fin_or.resolve_left fa
      have ib := hb.fin_or.resolve_left fb
      rcases Nat.lt_or_ge s 400 with q | q
      · exact h.2.2 ⟨ib, hb.at_inf ib (by omega)⟩
      · exact h.2.1 ⟨ia, ha.at_inf ia (by omega)⟩
theorem inf_min' {r : Cv} (hr : r.Ok) (n : Nat) : r.infAt n ↔ r.at (min n 1000) = inf := by
  have h2 := hr.n2
  constructor
  · intro h
    by_cases hn : n ≤ 1000
    · rw [Nat.min_eq_left hn]; exact h.2
    · rw [Nat.min_eq_right (by omega)]; exact hr.at_inf h.1 (by omega)
  · intro h
    exact ((hr.at_bd (n := min n 1000) (by omega)).2.2 h).later hr (Nat.min_le_left _ _)
/-- where a convolution is not finite -/
theorem cv_infAt' {a b r : Cv} (ha : a.Ok) (hb : b.Ok) (hr : r.Ok) (H : CvF a b r.at) (n : Nat) : r.infAt n ↔ ∀ s, ¬ CSp a b n s := by
  have key : ∀ m, m ≤ 1000 → (r.at m = inf ↔ ∀ s, ¬ CSp a b m s) := fun m hm => by
    rcases cv_bd ha hb H (t := m) (by omega) with ⟨h1, h2⟩ | h1
    · exact ⟨fun _ => h1, fun _ => h2⟩
    · refine ⟨fun h => by unfold inf at h; omega, fun h => ?_⟩
      exact (H m).unique (CvT.none h)
  rw [inf_min' hr]
  by_cases hn : n ≤ 1000
  · rw [Nat.min_eq_left hn]; exact key n hn
  · rw [Nat.min_eq_right (by omega), key 1000 (Nat.le_refl _)]
    constructor
    · intro h; exact csp_later ha hb (by omega) h
    · intro h s hs
      obtain ⟨u, hu⟩ := csp_far' ha hb (show 1000 ≤ n by omega) hs
      exact h u hu
/-- a convolution that has been made -/
theorem cv_get {f g r : Cv} (H : CvS f g r 0) : f.Ok ∧ g.Ok ∧ r.Ok ∧ NF r.at r ∧ CvF f g r.at ∧ ∀ n, r.infAt n ↔ ∀ s, ¬ CSp f g n s := by
  obtain ⟨hf, hg, a, b, _, _, _, _, _, hr, hn, _, hC⟩ := cvS_nf H
  exact ⟨hf, hg, hr, hn, hC, cv_infAt' hf hg hr hC⟩
/-- what a convolution is, by its values -/
theorem cv_eq {f g r x : Cv} (H : CvS f g r 0) (hx : NF x.at x) (h : CvF f g x.at) : r = x := by
  obtain ⟨_, _, _, hn, hC, _⟩ := cv_get H
  have e := hC.unique h
  rw [← e] at hx
  exact hn.unique hx
theorem cv_assoc {f g h a c x y : Cv} (ha : CvS f g a 0) (hc : CvS g h c 0) (hx : CvS a h x 0) (hy : CvS f c y 0) : x = y := by
  obtain ⟨hfo, hgo, hao, _, Ca, ia⟩ := cv_get ha
  obtain ⟨_, hho, hco, _, Cc, ic⟩ := cv_get hc
  obtain ⟨_, _, _, nx, Cx, _⟩ := cv_get hx
  refine (cv_eq hy nx fun t => CvT.of ?_).symm
  -- a split of f and c gives one of a and h
  have up : ∀ s, CSp f c t s → ∃ s', CSp a h t s' ∧ a.at s' + h.at (t - s') ≤ f.at s + c.at (t - s) := fun s hs => by
    have k0 := hs.1
    rcases (Cc (t - s)).cases with ⟨k1, _⟩ | ⟨⟨u, k1, k2⟩, _⟩
    · exact absurd ((ic _).2 k1) hs.2.2
    · have k3 := k1.1
      have csf : CSp f g (s + u) s := ⟨by omega, hs.2.1, by rw [show s + u - s = u by omega]; exact k1.2.1⟩
      refine ⟨s + u, ⟨by omega, fun hi => (ia _).1 hi s csf, by rw [show t - (s + u) = t - s - u by omega]; exact k1.2.2⟩, ?_⟩
      rcases (Ca (s + u)).cases with ⟨k4, _⟩ | ⟨_, k4⟩
      · exact absurd csf (k4 s)
      · have := k4 s csf
        rw [show s + u - s = u by omega] at this
        rw [show t - (s + u) = t - s - u by omega]
        omega
  rcases (Cx t).cases with ⟨h1, h2⟩ | ⟨⟨s, h1, h2⟩, h3⟩
  · refine .inl ⟨fun s hs => ?_, h2⟩
    obtain ⟨s', k, _⟩ := up s hs
    exact h1 s' k
  · have k0 := h1.1
    rcases (Ca s).cases with ⟨k1, _⟩ | ⟨⟨u, k1, k2⟩, _⟩
    · exact absurd ((ia _).2 k1) h1.2.1
    · have k3 := k1.1
      have csg : CSp g h (t - u) (s - u) := ⟨by omega, k1.2.2, by rw [show t - u - (s - u) = t - s by omega]; exact h1.2.2⟩
      have csf : CSp f c t u := ⟨by omega, k1.2.1, fun hi => (ic _).1 hi _ csg⟩
      have lo : ∀ s', CSp f c t s' → x.at t ≤ f.at s' + c.at (t - s') := fun s' hs => by
        obtain ⟨v, q1, q2⟩ := up s' hs
        have := h3 v q1
        omega
      refine .inr ⟨⟨u, csf, ?_⟩, lo⟩
      have q1 := lo u csf
      rcases (Cc (t - u)).cases with ⟨k4, _⟩ | ⟨_, k4⟩
      · exact absurd csg (k4 _)
      · have := k4 _ csg
        rw [show t - u - (s - u) = t - s by omega] at this
        omega
/-- convolution with a curve that is 0 at the tick 0 and not finite behind it -/
theorem cv_wait {f n v : Cv} (hf : f.Ok) (hn : NF f.at n) (hno : n.Ok) (hv : v.Ok) (nv : NF v.at v) (vp : v.per = 1) (v0 : v.at 0 = 0) (vi : ∀ t, v.infAt t ↔ 0 < t) : CvS f v n 0 := by
  obtain ⟨_, _, hp, _⟩ := nf_small hf hn
  have p1 := hno.p1; have p2 := hno.p2
  refine .inr ⟨hf, hv, n, v, hn, nv, .inr ⟨?_, n.at, fun t => CvT.of ?_, .inl ⟨?_, hno.lim, rfl⟩⟩⟩
  · rw [vp]
    unfold comm
    rw [show (1 : Int).toNat = 1 from rfl, Nat.gcd_one_right, Nat.div_one, Nat.mul_one]
    omega
  · have key : ∀ s, CSp n v t s → s = t := fun s hs => by
      have h1 := hs.1
      have h2 := hs.2.2
      rw [vi] at h2
      omega
    by_cases hi : n.infAt t
    · refine .inl ⟨fun s hs => ?_, hi.2⟩
      have e := key s hs
      rw [e] at hs
      exact hs.2.1 hi
    · refine .inr ⟨⟨t, ⟨Nat.le_refl _, hi, by rw [vi, Nat.sub_self]; omega⟩, by rw [Nat.sub_self, v0]; omega⟩, fun s hs => ?_⟩
      rw [key s hs, Nat.sub_self, v0]; omega
  · rw [show n.at = f.at from funext hn.at]; exact hn
theorem cv_er2 {f g r : Cv} {er : Int} (hf : f.Ok) (hg : g.Ok) (H : CvS f g r er) : (er = 0 ∧ r.Ok) ∨ (er = 3 ∧ r = Cv.none) := by
  rcases H with ⟨h, _⟩ | ⟨hf, hg, a, b, ha, hb, H⟩
  · exact absurd ⟨hf, hg⟩ h
  · rcases H with ⟨_, h2, h⟩ | ⟨hc, h, h1, h2⟩
    · exact .inr ⟨h, h2⟩
    · obtain ⟨hao, _⟩ := nf_small hf ha
      obtain ⟨hbo, _⟩ := nf_small hg hb
      rcases h2.get (cv_up hao hbo h1) with h3 | h3
      · exact .inl ⟨h3.1, h3.2.1⟩
      · exact .inr h3
theorem cvS_len {f g r : Cv} {er : Int} (hf : f.Ok) (hg : g.Ok) (H : CvS f g r er) : r.vals.length ≤ 400 := by
  rcases cv_er2 hf hg H with ⟨_, h⟩ | ⟨_, rfl⟩
  · exact h.n2
  · decide
end Go.Proofs.Ytbkimphcmmmaiaa
