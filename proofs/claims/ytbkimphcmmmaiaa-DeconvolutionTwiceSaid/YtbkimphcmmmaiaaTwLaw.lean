/- Two deconvolutions, one after the other, in plain words. -/
import Derived.Test.YtbkimphcmmmaiaaBy
import Derived.Test.YtbkimphcmmmaiaaCvEr
namespace Go.Proofs.Ytbkimphcmmmaiaa
set_option linter.unusedVariables false

theorem inf_min {r : Cv} (hr : r.Ok) (n : Nat) : r.infAt n ↔ r.at (min n 1000) = inf := by
  have h2 := hr.n2
  constructor
  · intro h
    by_cases hn : n ≤ 1000
    · rw [Nat.min_eq_left hn]; exact h.2
    · exact hr.at_inf h.1 (by omega)
  · intro h
    exact ((hr.at_bd (n := min n 1000) (by omega)).2.2 h).later hr (Nat.min_le_left _ _)
/-- at most, at every tick -/
def LEC (f g : Cv) : Prop := ∀ n, g.infAt n ∨ (¬ f.infAt n ∧ f.at n ≤ g.at n)
theorem LEC.up {f g : Cv} (h : LEC f g) (n : Nat) : ¬ Up f g n := fun hu => by
  rcases h n with h | ⟨h1, h2⟩
  · exact hu.1 h
  · rcases hu.2 with h3 | h3
    · exact h1 h3
    · omega
theorem LEC.of {f g : Cv} (h : ∀ n, ¬ Up f g n) : LEC f g := fun n => by
  by_cases hg : g.infAt n
  · exact .inl hg
  · refine .inr ⟨fun hf => h n ⟨hg, .inl hf⟩, ?_⟩
    by_cases hl : f.at n ≤ g.at n
    · exact hl
    · exact absurd ⟨hg, .inr (by omega)⟩ (h n)
theorem LEC.refl (f : Cv) : LEC f f := fun n => by
  by_cases h : f.infAt n
  · exact .inl h
  · exact .inr ⟨h, Int.le_refl _⟩
theorem LEC.trans {f g h : Cv} (a : LEC f g) (b : LEC g h) : LEC f h := fun n => by
  rcases b n with b | ⟨b1, b2⟩
  · exact .inl b
  · rcases a n with a | ⟨a1, a2⟩
    · exact absurd a b1
    · exact .inr ⟨a1, Int.le_trans a2 b2⟩
end Go.Proofs.Ytbkimphcmmmaiaa
namespace Go.Proofs.Ytbkimphcmmmaiaa
open Go.RowKit
set_option linter.unusedVariables false

theorem csp_far {a b : Cv} (ha : a.Ok) (hb : b.Ok) {n s : Nat} (hn : 1000 ≤ n) (h : CSp a b 1000 s) : ∃ u, CSp a b n u := by
  have n1 := ha.n2; have n2 := hb.n2
  have hs := h.1
  by_cases fa : a.Fin
  · by_cases fb : b.Fin
    · exact ⟨0, by omega, fa.not_infAt _, fb.not_infAt _⟩
    · exact ⟨n - (1000 - s), by omega, fa.not_infAt _, by rw [show n - (n - (1000 - s)) = 1000 - s by omega]; exact h.2.2⟩
  · by_cases fb : b.Fin
    · exact ⟨s, by omega, h.2.1, fb.not_infAt _⟩
    · exfalso
      have ia := ha.fin_or.resolve_left fa
      have ib := hb.fin_or.resolve_left fb
      rcases Nat.lt_or_ge s 400 with q | q
      · exact h.2.2 ⟨ib, hb.at_inf ib (by omega)⟩
      · exact h.2.1 ⟨ia, ha.at_inf ia (by omega)⟩
/-- where a convolution is not finite -/
theorem cv_infAt {a b r : Cv} (ha : a.Ok) (hb : b.Ok) (hr : r.Ok) (H : CvF a b r.at) (n : Nat) : r.infAt n ↔ ∀ s, ¬ CSp a b n s := by
  have key : ∀ m, m ≤ 1000 → (r.at m = inf ↔ ∀ s, ¬ CSp a b m s) := fun m hm => by
    rcases cv_bd ha hb H (t := m) (by omega) with ⟨h1, h2⟩ | h1
    · exact ⟨fun _ => h1, fun _ => h2⟩
    · refine ⟨fun h => by unfold inf at h; omega, fun h => ?_⟩
      exact (H m).unique (CvT.none h)
  rw [inf_min hr]
  by_cases hn : n ≤ 1000
  · rw [Nat.min_eq_left hn]; exact key n hn
  · rw [Nat.min_eq_right (by omega), key 1000 (Nat.le_refl _)]
    constructor
    · intro h; exact csp_later ha hb (by omega) h
    · intro h s hs
      obtain ⟨u, hu⟩ := csp_far ha hb (show 1000 ≤ n by omega) hs
      exact h u hu
/-- a convolution that has been made -/
theorem cvS_get {f g r : Cv} (H : CvS f g r 0) : f.Ok ∧ g.Ok ∧ r.Ok ∧ CvF f g r.at ∧ ∀ n, r.infAt n ↔ ∀ s, ¬ CSp f g n s := by
  rcases H with ⟨_, h⟩ | ⟨hf, hg, a, b, ha, hb, H⟩
  · exact absurd h (by simp)
  · rcases H with ⟨_, _, h⟩ | ⟨hc, h, h1, h2⟩
    · cases h
    · obtain ⟨hao, _⟩ := nf_small hf ha
      obtain ⟨hbo, _⟩ := nf_small hg hb
      obtain ⟨_, hr, hn⟩ : _ ∧ r.Ok ∧ NF h r := by
        rcases h2.get (cv_up hao hbo h1) with h3 | h3
        · exact h3
        · exact absurd h3.1 (by decide)
      have e : r.at = h := by funext t; exact hn.at t
      have hC : CvF f g r.at := by rw [e]; exact h1.nf hf hg ha hb
      exact ⟨hf, hg, hr, hC, cv_infAt hf hg hr hC⟩
/-- the values of a deconvolution -/
theorem dc_val {f g x : Cv} {D : Nat → Int} (hD : DcF f g D) (hx : x.at = D) (hi : ∀ n, x.infAt n ↔ ∀ M, ¬ AB f g n M) {k : Nat} (h : ¬ x.infAt k) : ∃ v : Nat, x.at k = v ∧ AB f g k v ∧ ∀ M, AB f g k M → v ≤ M := by
  obtain ⟨i, v, A, h3, h4⟩ := hD k
  have e : i = false := by
    cases i
    · rfl
    · rcases h3 with ⟨_, _, _, h3⟩ | ⟨h3, _⟩
      · exact absurd ((hi k).2 h3) h
      · cases h3
  subst e
  rw [if_neg (by simp), ← hx] at h4
  exact ⟨v, h4, ahead_least h3⟩
theorem adj {f g h x y : Cv} (hX : DcS f g x 0) (hY : CvS h g y 0) : LEC x h ↔ LEC f y := by
  obtain ⟨hxo, D, hD, _, hxa, hxi⟩ := dcS_ok hX
  obtain ⟨hho, hgo, hyo, hC, hyi⟩ := cvS_get hY
  constructor
  · intro H n
    by_cases hy : y.infAt n
    · exact .inl hy
    · right
      rcases (hC n).cases with ⟨h1, _⟩ | ⟨⟨s, h1, h2⟩, _⟩
      · exact absurd ((hyi n).2 h1) hy
      · rcases H s with h3 | ⟨h3, h4⟩
        · exact absurd h3 h1.2.1
        · obtain ⟨v, e, hv, _⟩ := dc_val hD hxa hxi h3
          rcases hv (n - s) with h5 | ⟨h5, h6⟩
          · exact absurd h5 h1.2.2
          · rw [show n - s + s = n by have := h1.1; omega] at h5 h6
            exact ⟨h5, by omega⟩
  · intro H s
    by_cases hh : h.infAt s
    · exact .inl hh
    · right
      have h0 := hho.up0.nn s
      have hab : AB f g s (h.at s).toNat := fun t => by
        by_cases hg : g.infAt t
        · exact .inl hg
        · right
          have hc : CSp h g (t + s) s := ⟨by omega, hh, by rw [show t + s - s = t by omega]; exact hg⟩
          rcases H (t + s) with h1 | ⟨h1, h2⟩
          · exact absurd hc ((hyi _).1 h1 s)
          · refine ⟨h1, ?_⟩
            rcases (hC (t + s)).cases with ⟨h3, _⟩ | ⟨_, h3⟩
            · exact absurd hc (h3 s)
            · have h4 := h3 s hc
              rw [show t + s - s = t by omega] at h4
              omega
      have hx : ¬ x.infAt s := fun e => (hxi s).1 e _ hab
      obtain ⟨v, e, _, hv⟩ := dc_val hD hxa hxi hx
      have := hv _ hab
      exact ⟨hx, by omega⟩
/-- both tests answer alike -/
theorem adj_eq {f g h x y : Cv} (hX : DcS f g x 0) (hY : CvS h g y 0) {a b : Bool} (ha : AtM x h a) (hb : AtM f y b) : a = b := by
  have hl := adj hX hY
  have hxo := (dcS_ok hX).1
  obtain ⟨hho, hgo, hyo, _⟩ := cvS_get hY
  have hfo : f.Ok := by
    rcases hX with ⟨h, _⟩ | ⟨h, _⟩
    · exfalso
      rcases h with ⟨_, h⟩ | ⟨_, _, _, h⟩ | ⟨_, _, _, h, _⟩ <;> cases h
    · exact h
  have e1 : a = true ↔ LEC x h := by
    rcases ha with ⟨_, _, h⟩ | ⟨h, _⟩
    · exact h.trans ⟨LEC.of, LEC.up⟩
    · exact absurd ⟨hxo, hho⟩ h
  have e2 : b = true ↔ LEC f y := by
    rcases hb with ⟨_, _, h⟩ | ⟨h, _⟩
    · exact h.trans ⟨LEC.of, LEC.up⟩
    · exact absurd ⟨hfo, hyo⟩ h
  rw [Bool.eq_iff_iff, e1, e2]
  exact hl
theorem AtM.ex (f g : Cv) : ∃ b, AtM f g b := by
  by_cases h : f.Ok ∧ g.Ok
  · by_cases k : ∀ n, ¬ Up f g n
    · exact ⟨true, .inl ⟨h.1, h.2, ⟨fun _ => k, fun _ => rfl⟩⟩⟩
    · exact ⟨false, .inl ⟨h.1, h.2, ⟨fun e => Bool.noConfusion e, fun e => absurd e k⟩⟩⟩
  · exact ⟨false, .inr ⟨h, rfl⟩⟩
theorem adj_both {f g h x y : Cv} (hX : DcS f g x 0) (hY : CvS h g y 0) : ∃ q, AtM x h q ∧ AtM f y q := by
  obtain ⟨a, ha⟩ := AtM.ex x h
  obtain ⟨b, hb⟩ := AtM.ex f y
  have e := adj_eq hX hY ha hb
  exact ⟨a, ha, by rw [e]; exact hb⟩
theorem raise_er {x v : Cv} {z er : Int} (hx : x.Ok) (h0 : 0 ≤ z) (h1 : z ≤ 1073741824) (H : RaiseS x z v er) : (er = 0 → v.Ok) := by
  intro he
  rcases H with ⟨h, _⟩ | ⟨_, h, _⟩ | ⟨_, _, _, a, ha, h⟩
  · exact absurd hx h
  · omega
  · obtain ⟨hao, _⟩ := nf_small hx ha
    rcases h.get (raise_up hao h0 h1) with ⟨_, h2, _⟩ | ⟨h2, _⟩
    · exact h2
    · omega
end Go.Proofs.Ytbkimphcmmmaiaa
namespace Go.Proofs.Ytbkimphcmmmaiaa
open Go.RowKit
set_option linter.unusedVariables false

/-- a deconvolution is at least the curve -/
theorem dc_above {f g x : Cv} (hX : DcS f g x 0) (h0 : g.at 0 = 0) : LEC f x := by
  obtain ⟨hxo, D, hD, _, hxa, hxi⟩ := dcS_ok hX
  intro n
  by_cases hx : x.infAt n
  · exact .inl hx
  · right
    obtain ⟨v, e, hv, _⟩ := dc_val hD hxa hxi hx
    rcases hv 0 with h | ⟨h1, h2⟩
    · exfalso
      have := h.2
      rw [h0] at this
      exact absurd this (by decide)
    · rw [Nat.zero_add] at h1 h2
      exact ⟨h1, by rw [e]; omega⟩
theorem ab_twice {f g h a c : Cv} (hX : DcS f g a 0) (hh : h.Ok) (hC : CvS g h c 0) (n M : Nat) : AB a h n M ↔ AB f c n M := by
  obtain ⟨hao, D, hD, _, haa, hai⟩ := dcS_ok hX
  obtain ⟨hgo, _, hco, C, hci⟩ := cvS_get hC
  constructor
  · intro H u
    by_cases hc : c.infAt u
    · exact .inl hc
    · right
      rcases (C u).cases with ⟨h1, _⟩ | ⟨⟨s, h1, h2⟩, _⟩
      · exact absurd ((hci u).2 h1) hc
      · rcases H (u - s) with h3 | ⟨h3, h4⟩
        · exact absurd h3 h1.2.2
        · obtain ⟨v, e, hv, _⟩ := dc_val hD haa hai h3
          have hs := h1.1
          rcases hv s with h5 | ⟨h5, h6⟩
          · exact absurd h5 h1.2.1
          · rw [show s + (u - s + n) = u + n by omega] at h5 h6
            exact ⟨h5, by omega⟩
  · intro H t
    by_cases ht : h.infAt t
    · exact .inl ht
    · right
      have h0 := hh.up0.nn t
      obtain ⟨N, hN⟩ := Int.eq_ofNat_of_zero_le (show 0 ≤ h.at t + M by omega)
      have key : AB f g (t + n) N := fun s => by
        by_cases hs : g.infAt s
        · exact .inl hs
        · right
          have cs : CSp g h (s + t) s := ⟨by omega, hs, by rw [show s + t - s = t by omega]; exact ht⟩
          have hc : ¬ c.infAt (s + t) := fun hi => (hci _).1 hi s cs
          rcases (C (s + t)).cases with ⟨h1, _⟩ | ⟨_, h1⟩
          · exact absurd cs (h1 s)
          · have h2 := h1 s cs
            rw [show s + t - s = t by omega] at h2
            rcases H (s + t) with h3 | ⟨h3, h4⟩
            · exact absurd h3 hc
            · rw [show s + (t + n) = s + t + n by omega]
              exact ⟨h3, by omega⟩
      have hna : ¬ a.infAt (t + n) := fun hi => (hai _).1 hi N key
      obtain ⟨v, e, _, hv⟩ := dc_val hD haa hai hna
      have := hv N key
      exact ⟨hna, by omega⟩
theorem dcF_ab {f g f' g' : Cv} (H : ∀ n M, AB f g n M ↔ AB f' g' n M) {D E : Nat → Int} (hD : DcF f g D) (hE : DcF f' g' E) : D = E := by
  funext k
  obtain ⟨i, v, A, h1, h2⟩ := hD k
  obtain ⟨j, u, B, k1, k2⟩ := hE k
  cases i <;> cases j
  · rw [if_neg (by simp)] at h2 k2
    obtain ⟨p1, p2⟩ := ahead_least h1
    obtain ⟨q1, q2⟩ := ahead_least k1
    have := p2 _ ((H k u).2 q1)
    have := q2 _ ((H k v).1 p1)
    omega
  · exfalso
    rcases k1 with ⟨_, _, _, k1⟩ | ⟨k1, _⟩
    · exact k1 v ((H k v).1 (ahead_least h1).1)
    · cases k1
  · exfalso
    rcases h1 with ⟨_, _, _, h1⟩ | ⟨h1, _⟩
    · exact h1 u ((H k u).2 (ahead_least k1).1)
    · cases h1
  · rw [if_pos rfl] at h2 k2
    rw [h2, k2]
theorem dc_twice {f g h a b c d : Cv} (hX : DcS f g a 0) (hB : DcS a h b 0) (hC : CvS g h c 0) (hD : DcS f c d 0) : b = d := by
  obtain ⟨_, D, h1, h2, _, _⟩ := dcS_ok hB
  obtain ⟨_, E, k1, k2, _, _⟩ := dcS_ok hD
  have hh := (cvS_get hC).2.1
  obtain rfl := dcF_ab (ab_twice hX hh hC) h1 k1
  exact h2.unique k2
end Go.Proofs.Ytbkimphcmmmaiaa
