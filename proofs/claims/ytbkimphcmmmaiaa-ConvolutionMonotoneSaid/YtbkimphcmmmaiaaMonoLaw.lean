/- Plain words for the statement DeviationMonotone: sums of drawn curves. -/
import Derived.Test.YtbkimphcmmmaiaaPwLaw
import Derived.Test.YtbkimphcmmmaiaaEx10
namespace Go.Proofs.Ytbkimphcmmmaiaa
set_option linter.unusedVariables false

theorem DrawC.at_bd {most : Nat} {f : Cv} (h : DrawC most f) {t : Nat} (h0 : ¬ f.infAt t) : f.at t ≤ 400 + 1000 * t := by
  induction t using Nat.strongRecOn with
  | _ t ih =>
    have hp1 := h.ok.p1; have hpn := h.ok.pn
    by_cases hlt : t < f.vals.length
    · rcases h.small t hlt with h1 | h1
      · exact absurd ⟨(h.ok.at_bd (n := t) (by have := h.ok.n2; omega)).2.2 (by rw [Cv.at_lt hlt]; exact h1) |>.1, by rw [Cv.at_lt hlt]; exact h1⟩ h0
      · rw [Cv.at_lt hlt]; omega
    · have hF : f.Fin := by
        rcases h.ok.fin_or with h' | h'
        · exact h'
        · exact absurd ⟨h', h.ok.at_inf h' (by omega)⟩ h0
      obtain ⟨u, rfl⟩ : ∃ u, t = u + f.per.toNat := ⟨t - f.per.toNat, by omega⟩
      have h1 := ih u (by omega) (hF.not_infAt u)
      have h2 := hF.toL.step u (by omega)
      have h3 := h.inc
      omega
theorem sumV_bd {m1 m2 : Nat} {f g : Cv} (hf : DrawC m1 f) (hg : DrawC m2 g) (t : Nat) : sumV f g t = inf ∨ sumV f g t ≤ 800 + 2000 * t := by
  by_cases h : f.infAt t ∨ g.infAt t
  · exact .inl (sumV_inf h)
  · right
    rw [not_or] at h
    have h1 := hf.at_bd h.1; have h2 := hg.at_bd h.2
    have e : sumV f g t = f.at t + g.at t := by unfold sumV; rw [if_neg (by rw [not_or]; exact h)]
    rw [e]; omega
/-- the sum of two drawn curves is within the limits -/
theorem sum_lim {m1 m2 : Nat} {f g r : Cv} (hm1 : m1 ≤ 12) (hm2 : m2 ≤ 12) (hf : DrawC m1 f) (hg : DrawC m2 g) (hr : NF (sumV f g) r) : Lim r := by
  have hl1 := hf.len; have hl2 := hg.len
  have fp1 := hf.ok.p1; have gp1 := hg.ok.p1; have fp := hf.per; have gp := hg.per; have fpn := hf.ok.pn; have gpn := hg.ok.pn
  have hv : ∀ k, k < r.vals.length → nth r.vals k = sumV f g k := by
    rcases hr with hr | hr
    · exact hr.vals
    · exact hr.vals
  by_cases hfin : f.Fin ∧ g.Fin
  · have hk := comm_facts (p := f.per.toNat) (q := g.per.toNat) (by omega) (by omega)
    have hc : comm f.per.toNat g.per.toNat ≤ 64 := Nat.le_trans hk.2.2.2.1 (Nat.mul_le_mul (show f.per.toNat ≤ 8 by omega) (show g.per.toNat ≤ 8 by omega))
    have hne : ∀ t, t ≤ 1000000 → sumV f g t ≠ inf := fun t ht => by rw [sumV_fin hfin.1 hfin.2]; exact hfin.1.add_ne hfin.2 ht
    have hP := (sum_per hf.ok hg.ok (s := 20) (c := comm f.per.toNat g.per.toNat) (by omega) (by omega) rfl (fun j hj => hne j (by omega))).2.2
    obtain ⟨r', hr', h1, h2⟩ := nf_exists (by omega) hP (fun t ht => hne t (by omega))
    obtain rfl := hr.unique (.inl hr')
    have rp1 := hr'.p1; have rpn := hr'.pn
    refine ⟨by omega, fun k hk => (okv_iff _).2 ?_, by omega, ?_⟩
    · rw [hv k hk]
      rcases sumV_bd hf hg k with h3 | h3
      · exact .inl h3
      · right; omega
    · have h3 := hr'.per (r.vals.length - r.per.toNat) (Nat.le_refl _)
      have h4 := (sumV_up hf.ok hg.ok).nn (r.vals.length - r.per.toNat)
      rcases sumV_bd hf hg (r.vals.length - r.per.toNat + r.per.toNat) with h5 | h5
      · exact absurd h5 (hne _ (by omega))
      · omega
  · have hinf : ∀ t, 20 ≤ t → sumV f g t = inf := fun t ht => by
      refine sumV_inf ?_
      rcases hf.ok.fin_or with h1 | h1
      · rcases hg.ok.fin_or with h2 | h2
        · exact absurd ⟨h1, h2⟩ hfin
        · exact .inr ⟨h2, hg.ok.at_inf h2 (by omega)⟩
      · exact .inl ⟨h1, hf.ok.at_inf h1 (by omega)⟩
    rcases hr with hr | hr
    · exfalso
      have rp1 := hr.p1; have rpn := hr.pn
      have P1 := hr.per.mul 20 (r.vals.length - r.per.toNat) (Nat.le_refl _)
      have P2 := hr.per.mul 21 (r.vals.length - r.per.toNat) (Nat.le_refl _)
      have hge : 20 * 1 ≤ 20 * r.per.toNat := Nat.mul_le_mul_left _ (by omega)
      rw [hinf _ (by omega)] at P1
      rw [hinf _ (by omega)] at P2
      exact hr.fin (r.vals.length - r.per.toNat) (by omega) (by omega)
    · have h1 := hr.p1; have h2 := hr.i0
      have hl : r.vals.length ≤ 21 := by
        rcases Nat.lt_or_ge 21 r.vals.length with h3 | h3
        · exact absurd (hinf 20 (Nat.le_refl _)) (hr.before 20 (by omega))
        · exact h3
      refine ⟨by omega, fun k hk => (okv_iff _).2 ?_, by omega, by omega⟩
      rw [hv k hk]
      rcases sumV_bd hf hg k with h3 | h3
      · exact .inl h3
      · right; omega
theorem sum_made {m1 m2 : Nat} {f g r : Cv} {er : Int} (hm1 : m1 ≤ 12) (hm2 : m2 ≤ 12) (hf : DrawC m1 f) (hg : DrawC m2 g) (h : SumS f g r er) : er = 0 ∧ r.Ok ∧ ∀ t, r.at t = sumV f g t := by
  rcases h with ⟨h, _⟩ | ⟨_, _, a, b, ha, hb, h⟩
  · exact absurd ⟨hf.ok, hg.ok⟩ h
  · have hc := comm_le (hf.dvd ha) (hg.dvd hb) (by omega)
    rcases h with ⟨h1, _⟩ | ⟨_, g', hg', h⟩
    · omega
    · rw [sumV_nf hf.ok hg.ok ha hb] at hg'
      have hL := sum_lim hm1 hm2 hf hg hg'
      rcases h with ⟨_, rfl, rfl⟩ | ⟨h1, _⟩
      · exact ⟨rfl, nf_lim_ok hg' (sumV_up hf.ok hg.ok) hL, fun t => hg'.at t⟩
      · exact absurd hL h1
theorem sum_infAt {f g r : Cv} (hf : f.Ok) (hg : g.Ok) (hr : r.Ok) (e : ∀ t, r.at t = sumV f g t) (t : Nat) : r.infAt t ↔ f.infAt t ∨ g.infAt t := by
  constructor
  · intro h
    by_cases ht : t < 400
    · by_cases h0 : f.infAt t ∨ g.infAt t
      · exact h0
      · exfalso
        have h2 := h.2
        rw [e] at h2
        unfold sumV at h2
        rw [if_neg h0] at h2
        rw [not_or] at h0
        have h3 := (hf.fin_bd h0.1 ht).2; have h4 := (hg.fin_bd h0.2 ht).2
        unfold inf at h2; omega
    · have h1 : r.at 399 = inf := r_inf hr h.1
      rw [e] at h1
      have := sumV_later hf hg (m := 399) (t := t) (by omega) h1 (by omega)
      exact this
  · intro h
    by_cases ht : t ≤ 1000
    · refine (hr.at_bd (n := t) (by omega)).2.2 ?_
      rw [e]; exact sumV_inf h
    · have h400 : f.infAt 400 ∨ g.infAt 400 := by
        rcases h with h | h
        · exact .inl ⟨h.1, hf.at_inf h.1 (by have := hf.n2; omega)⟩
        · exact .inr ⟨h.1, hg.at_inf h.1 (by have := hg.n2; omega)⟩
      exact ((hr.at_bd (n := 400) (by omega)).2.2 (by rw [e]; exact sumV_inf h400)).later hr (by omega)
where
  r_inf {r : Cv} (hr : r.Ok) (h : nth r.vals (r.vals.length - 1) = inf) : r.at 399 = inf := hr.at_inf h (by have := hr.n2; omega)
theorem sum_at {f g r : Cv} (e : ∀ t, r.at t = sumV f g t) {t : Nat} (h1 : ¬ f.infAt t) (h2 : ¬ g.infAt t) : r.at t = f.at t + g.at t := by
  rw [e]; unfold sumV; rw [if_neg (by rw [not_or]; exact ⟨h1, h2⟩)]
/-- the greater arrival, the greater service -/
theorem le_more {f h m g : Cv} (hf : f.Ok) (hh : h.Ok) (hm : m.Ok) (e : ∀ t, m.at t = sumV f h t) {t u : Nat} (hl : LeAt m g t u) : LeAt f g t u := by
  rcases hl with hl | ⟨h1, h2⟩
  · exact .inl hl
  · rw [sum_infAt hf hh hm e, not_or] at h1
    rw [sum_at e h1.1 h1.2] at h2
    have := hh.up0.nn t
    exact .inr ⟨h1.1, by omega⟩
theorem le_fast {f h m g : Cv} (hg : g.Ok) (hh : h.Ok) (hm : m.Ok) (e : ∀ t, m.at t = sumV g h t) {t u : Nat} (hl : LeAt f g t u) : LeAt f m t u := by
  by_cases hi : m.infAt u
  · exact .inl hi
  · have hi' := hi
    rw [sum_infAt hg hh hm e, not_or] at hi'
    rcases hl with hl | ⟨h1, h2⟩
    · exact absurd hl hi'.1
    · refine .inr ⟨h1, ?_⟩
      rw [sum_at e hi'.1 hi'.2]
      have := hh.up0.nn u
      omega
theorem ab_more {f h m g : Cv} (hf : f.Ok) (hh : h.Ok) (hm : m.Ok) (e : ∀ t, m.at t = sumV f h t) {k M : Nat} (hl : AB m g k M) : AB f g k M := fun t => by
  rcases hl t with hl | ⟨h1, h2⟩
  · exact .inl hl
  · rw [sum_infAt hf hh hm e, not_or] at h1
    rw [sum_at e h1.1 h1.2] at h2
    have := hh.up0.nn (t + k)
    exact .inr ⟨h1.1, by omega⟩
theorem ab_fast {f h m g : Cv} (hg : g.Ok) (hh : h.Ok) (hm : m.Ok) (e : ∀ t, m.at t = sumV g h t) {k M : Nat} (hl : AB f g k M) : AB f m k M := fun t => by
  by_cases hi : m.infAt t
  · exact .inl hi
  · have hi' := hi
    rw [sum_infAt hg hh hm e, not_or] at hi'
    rcases hl t with hl | ⟨h1, h2⟩
    · exact absurd hl hi'.1
    · refine .inr ⟨h1, ?_⟩
      rw [sum_at e hi'.1 hi'.2]
      have := hh.up0.nn t
      omega
/-- a deviation: the least number with B, or none has it -/
def LeastB (B : Nat → Prop) (i : Bool) (v : Nat) : Prop := (i = true ∧ ∀ M, ¬ B M) ∨ (i = false ∧ B v ∧ ∀ M, B M → v ≤ M)
theorem DelayS.leastB {f g : Cv} (hg : g.Ok) {i : Bool} {v A : Nat} (h : DelayS f g i v A) : LeastB (DB f g) i v := by
  rcases h with ⟨h, _, _, h2⟩ | ⟨h, h1, _, h2⟩
  · exact .inl ⟨h, h2⟩
  · refine .inr ⟨h, h1, fun M hM => ?_⟩
    rcases Nat.lt_or_ge M v with hv | hv
    · obtain ⟨u, rfl⟩ : ∃ u, v = u + 1 := ⟨v - 1, by omega⟩
      exact absurd ((hM A).mono hg (by omega)) (h2 u rfl).1
    · exact hv
theorem AheadS.leastB {f g : Cv} {k : Nat} {i : Bool} {v A : Nat} (h : AheadS f g k i v A) : LeastB (AB f g k) i v := by
  rcases h with ⟨h, _, _, h2⟩ | ⟨h, h1, _, h2⟩
  · exact .inl ⟨h, h2⟩
  · refine .inr ⟨h, h1, fun M hM => ?_⟩
    rcases Nat.lt_or_ge M v with hv | hv
    · have h3 := (h2 (by omega)).1
      rcases hM A with h4 | h4
      · exact absurd h4 h3.1
      · have := h4.2; omega
    · exact hv
/-- the function less of the statements, on two deviations -/
def lessB (i j : Bool) (v w : Int) : Bool := j || (!i && decide (v ≤ w))
theorem LeastB.less {B C : Nat → Prop} {i j : Bool} {v w : Nat} (h : LeastB B i v) (k : LeastB C j w) (hBC : ∀ M, C M → B M) : lessB i j v w = true := by
  unfold lessB
  rcases k with ⟨rfl, _⟩ | ⟨rfl, k1, _⟩
  · rfl
  · rcases h with ⟨rfl, h⟩ | ⟨rfl, _, h⟩
    · exact absurd (hBC _ k1) (h _)
    · have := h _ (hBC _ k1)
      simp; omega
/-- the periods of the sums' normal forms divide 12 -/
theorem sum_dvd {m1 m2 : Nat} {f g r b : Cv} (hf : DrawC m1 f) (hg : DrawC m2 g) (hr : r.Ok) (e : ∀ t, r.at t = sumV f g t) (hb : NF r.at b) : b.per.toNat ∣ 12 := by
  by_cases hfin : f.Fin ∧ g.Fin
  · obtain ⟨s1, q1, x1, h11, h12, h13⟩ := hf.p4
    obtain ⟨s2, q2, x2, h21, h22, h23⟩ := hg.p4
    obtain ⟨k1, hk1⟩ := dvd12 h11 h12
    obtain ⟨k2, hk2⟩ := dvd12 h21 h22
    have P1 := h13.mul k1
    have P2 := h23.mul k2
    rw [Nat.mul_comm, ← hk1] at P1
    rw [Nat.mul_comm, ← hk2] at P2
    refine hb.per_dvd (s := max s1 s2) (p := 12) (b := k1 * x1 + k2 * x2) (by omega) (fun t ht => ?_)
    rw [e, e, sumV_fin hfin.1 hfin.2, sumV_fin hfin.1 hfin.2, P1 t (by omega), P2 t (by omega)]
    omega
  · have hinf : ∀ t, 400 ≤ t → r.at t = inf := fun t ht => by
      rw [e]
      refine sumV_inf ?_
      have h3 := hf.ok.n2; have h4 := hg.ok.n2
      rcases hf.ok.fin_or with h1 | h1
      · rcases hg.ok.fin_or with h2 | h2
        · exact absurd ⟨h1, h2⟩ hfin
        · exact .inr ⟨h2, hg.ok.at_inf h2 (by omega)⟩
      · exact .inl ⟨h1, hf.ok.at_inf h1 (by omega)⟩
    refine Nat.dvd_trans (hb.per_dvd (s := 400) (p := 1) (b := 0) (by omega) (fun t ht => ?_)) (Nat.one_dvd 12)
    rw [hinf _ (by omega), hinf _ ht]; rfl
end Go.Proofs.Ytbkimphcmmmaiaa
