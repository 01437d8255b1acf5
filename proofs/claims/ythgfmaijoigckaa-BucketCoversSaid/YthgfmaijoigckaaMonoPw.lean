/- Plain words: curves that are small and short, and what is at most what, at every tick. -/
import Derived.Test.YthgfmaijoigckaaMadeOk
import Derived.Test.YthgfmaijoigckaaShiftLaw
namespace Go.Proofs.Ythgfmaijoigckaa
set_option linter.unusedVariables false

theorem inf_min {r : Cv} (hr : r.Ok) (n : Nat) : r.infAt n ↔ r.at (min n 1000) = inf := by
  have h2 := hr.n2
  constructor
  · intro h
    by_cases hn : n ≤ 1000
    · rw [Nat.min_eq_left hn]; exact h.2
    · exact hr.at_inf h.1 (by omega)
  · intro h
    exact ((hr.at_bd (n := min n 1000) (by omega)).2.2 h).later hr (Nat.min_le_left _ _)
theorem exV_infAt {l : Bool} {a b r : Cv} (ha : a.Ok) (hb : b.Ok) (hr : r.Ok) (e : r.at = exV l a b) (n : Nat) : r.infAt n ↔ if l = true then a.infAt n ∧ b.infAt n else a.infAt n ∨ b.infAt n := by
  rw [inf_min hr, inf_min ha, inf_min hb, e, exV_pk ha hb (by omega)]
  have h1 := ha.at_bd (n := min n 1000) (by omega); have h2 := hb.at_bd (n := min n 1000) (by omega)
  cases l
  · rw [pk_false]; simp only [Bool.false_eq_true, if_false]; omega
  · rw [pk_true]; simp only [if_true]; omega
theorem lower_infAt {a r : Cv} {c : Int} (ha : a.Ok) (hc : 0 ≤ c) (hr : r.Ok) (e : r.at = lowerV a c) (n : Nat) : r.infAt n ↔ a.infAt n := by
  rw [inf_min hr, inf_min ha, e]
  have h1 := ha.at_bd (n := min n 1000) (by omega)
  rw [lower_at ha (by omega)]
  by_cases h : a.at (min n 1000) = inf
  · rw [if_pos h]; exact ⟨fun _ => h, fun _ => rfl⟩
  · rw [if_neg h]
    unfold inf at *
    omega
theorem later_infAt {a r : Cv} {d : Nat} (hd : d ≤ 380) (ha : a.Ok) (hr : r.Ok) (e : r.at = laterV a d) (n : Nat) : r.infAt n ↔ d ≤ n ∧ a.infAt (n - d) := shift_infAt ha hr hd (fun t => by rw [e]) n
theorem ahead_infAt {a r : Cv} {d : Nat} (hd : d ≤ 1000000) (ha : a.Ok) (hr : r.Ok) (e : r.at = aheadV a d) (n : Nat) : r.infAt n ↔ 0 < n ∧ a.infAt (n + d) := by
  have h2 := ha.n2
  rw [inf_min hr, e]
  constructor
  · intro h
    have h0 : 0 < min n 1000 := by
      rcases Nat.eq_zero_or_pos (min n 1000) with h' | h'
      · rw [h', aheadV_zero] at h; exact absurd h inf_pos
      · exact h'
    exact ⟨by omega, ((ahead_inf ha (by omega) h (Nat.le_refl _)).1).later ha (by omega)⟩
  · rintro ⟨h1, h3⟩
    rw [aheadV_pos (by omega)]
    by_cases hn : n ≤ 1000
    · rw [Nat.min_eq_left hn]; exact h3.2
    · exact ha.at_inf h3.1 (by omega)

/-- at most, at every tick -/
def LEC (f g : Cv) : Prop := ∀ n, g.infAt n ∨ (¬ f.infAt n ∧ f.at n ≤ g.at n)
theorem LEC.up {f g : Cv} (h : LEC f g) (n : Nat) : ¬ Up f g n := fun hu => by
  rcases h n with h | ⟨h1, h2⟩
  · exact hu.1 h
  · rcases hu.2 with h3 | h3
    · exact h1 h3
    · omega
theorem LEC.of {f g : Cv} (h : ∀ n, ¬ Up f g n) : LEC f g := fun n => by
  by_cases hg : g.infAt n
  · exact .inl hg
  · refine .inr ⟨fun hf => h n ⟨hg, .inl hf⟩, ?_⟩
    by_cases hl : f.at n ≤ g.at n
    · exact hl
    · exact absurd ⟨hg, .inr (by omega)⟩ (h n)
theorem LEC.refl (f : Cv) : LEC f f := fun n => by
  by_cases h : f.infAt n
  · exact .inl h
  · exact .inr ⟨h, Int.le_refl _⟩
theorem LEC.trans {f g h : Cv} (a : LEC f g) (b : LEC g h) : LEC f h := fun n => by
  rcases b n with b | ⟨b1, b2⟩
  · exact .inl b
  · rcases a n with a | ⟨a1, a2⟩
    · exact absurd a b1
    · exact .inr ⟨a1, Int.le_trans a2 b2⟩
/-- the values where a curve is not infinite -/
theorem exT_at {a b r : Cv} (e : r.at = exV true a b) {n : Nat} : (a.infAt n → r.at n = b.at n) ∧ (¬ a.infAt n → b.infAt n → r.at n = a.at n) ∧ (¬ a.infAt n → ¬ b.infAt n → r.at n = min (a.at n) (b.at n)) := by
  rw [e]
  refine ⟨fun h => by rw [exV_infl h]; rfl, fun h h2 => by rw [exV_infr h h2]; rfl, fun h h2 => ?_⟩
  unfold exV; rw [if_neg h, if_neg h2, pk_true]
theorem exF_at {a b r : Cv} (e : r.at = exV false a b) {n : Nat} (h : ¬ a.infAt n) (h2 : ¬ b.infAt n) : r.at n = max (a.at n) (b.at n) := by
  rw [e]; unfold exV; rw [if_neg h, if_neg h2, pk_false]
theorem min_mono {a a' b r r' : Cv} (ha : a.Ok) (ha' : a'.Ok) (hb : b.Ok) (hr : r.Ok) (hr' : r'.Ok) (e : r.at = exV true a b) (e' : r'.at = exV true a' b) (h : LEC a a') : LEC r r' := fun n => by
  have i1 := exV_infAt ha hb hr e n; have i2 := exV_infAt ha' hb hr' e' n
  simp only [if_true] at i1 i2
  have v1 := exT_at e (n := n); have v2 := exT_at e' (n := n)
  by_cases j1 : a'.infAt n
  · by_cases j2 : b.infAt n
    · exact .inl (i2.2 ⟨j1, j2⟩)
    · refine .inr ⟨fun k => j2 (i1.1 k).2, ?_⟩
      rw [v2.1 j1]
      by_cases j3 : a.infAt n
      · rw [v1.1 j3]; exact Int.le_refl _
      · rw [v1.2.2 j3 j2]; omega
  · rcases h n with h | ⟨h1, h2⟩
    · exact absurd h j1
    · refine .inr ⟨fun k => h1 (i1.1 k).1, ?_⟩
      by_cases j2 : b.infAt n
      · rw [v1.2.1 h1 j2, v2.2.1 j1 j2]; exact h2
      · rw [v1.2.2 h1 j2, v2.2.2 j1 j2]; omega
theorem later_mono {a a' r r' : Cv} {d : Nat} (hd : d ≤ 380) (ha : a.Ok) (ha' : a'.Ok) (hr : r.Ok) (hr' : r'.Ok) (e : r.at = laterV a d) (e' : r'.at = laterV a' d) (h : LEC a a') : LEC r r' := fun n => by
  rw [later_infAt hd ha hr e, later_infAt hd ha' hr' e', e, e']
  by_cases hn : n < d
  · rw [laterV_lt hn, laterV_lt hn]
    exact .inr ⟨fun k => by omega, Int.le_refl _⟩
  · rw [laterV_ge (by omega), laterV_ge (by omega)]
    rcases h (n - d) with h | ⟨h1, h2⟩
    · exact .inl ⟨by omega, h⟩
    · exact .inr ⟨fun k => h1 k.2, h2⟩
theorem lower_mono {a a' r r' : Cv} {c : Int} (hc : 0 ≤ c) (ha : a.Ok) (ha' : a'.Ok) (hr : r.Ok) (hr' : r'.Ok) (e : r.at = lowerV a c) (e' : r'.at = lowerV a' c) (h : LEC a a') : LEC r r' := fun n => by
  rw [lower_infAt ha hc hr e, lower_infAt ha' hc hr' e', e, e']
  by_cases j : a'.infAt n
  · exact .inl j
  · rcases h n with h | ⟨h1, h2⟩
    · exact absurd h j
    · refine .inr ⟨h1, ?_⟩
      rw [lowerV_fin h1, lowerV_fin j]; omega
theorem ahead_mono {a a' r r' : Cv} {d : Nat} (hd : d ≤ 1000000) (ha : a.Ok) (ha' : a'.Ok) (hr : r.Ok) (hr' : r'.Ok) (e : r.at = aheadV a d) (e' : r'.at = aheadV a' d) (h : LEC a a') : LEC r r' := fun n => by
  rw [ahead_infAt hd ha hr e, ahead_infAt hd ha' hr' e', e, e']
  rcases Nat.eq_zero_or_pos n with hn | hn
  · subst hn
    rw [aheadV_zero, aheadV_zero]
    exact .inr ⟨fun k => by omega, Int.le_refl _⟩
  · rw [aheadV_pos hn, aheadV_pos hn]
    rcases h (n + d) with h | ⟨h1, h2⟩
    · exact .inl ⟨hn, h⟩
    · exact .inr ⟨fun k => h1 k.2, h2⟩
theorem sum_more {f d m : Cv} (hf : f.Ok) (hd : d.Ok) (hm : m.Ok) (e : ∀ t, m.at t = sumV f d t) : LEC f m := fun n => by
  have i := sum_infAt hf hd hm e n
  by_cases j : m.infAt n
  · exact .inl j
  · rw [i, not_or] at j
    refine .inr ⟨j.1, ?_⟩
    rw [sum_at e j.1 j.2]
    have := hd.up0.nn n
    omega

/-! ### Small curves -/
structure Tame (f : Cv) : Prop where
  ok : f.Ok
  len : f.vals.length ≤ 84
  per : f.per ≤ 12
  bd : ∀ t, f.infAt t ∨ f.at t ≤ 800 + 2000 * t
theorem Tame.fbd {f : Cv} (h : Tame f) (hF : f.Fin) (t : Nat) : f.at t ≤ 800 + 2000 * t := (h.bd t).resolve_left (hF.not_infAt t)
theorem DrawC.tame {most : Nat} {f : Cv} (hm : most ≤ 12) (h : DrawC most f) : Tame f :=
  ⟨h.ok, by have := h.len; omega, by have := h.per; omega, fun t => by
    by_cases hi : f.infAt t
    · exact .inl hi
    · have := h.at_bd hi; right; omega⟩
theorem Tame.inc {f : Cv} (h : Tame f) : f.inc ≤ 200000 := by
  rcases h.ok.fin_or with hF | hi
  · have hp := h.ok.p1; have hpn := h.ok.pn; have hl := h.len
    have h1 := hF.toL.step (f.vals.length - f.per.toNat) (Nat.le_refl _)
    have h2 := h.fbd hF (f.vals.length - f.per.toNat + f.per.toNat)
    have h3 := h.ok.up0.nn (f.vals.length - f.per.toNat)
    omega
  · have := (h.ok.last hi).2; omega
theorem sum_tame {m1 m2 : Nat} {f g r : Cv} {er : Int} (hm1 : m1 ≤ 12) (hm2 : m2 ≤ 12) (hf : DrawC m1 f) (hg : DrawC m2 g) (h : SumS f g r er) : er = 0 ∧ Tame r ∧ (∀ t, r.at t = sumV f g t) ∧ NF (sumV f g) r := by
  obtain ⟨h0, h1, h2⟩ := sum_made hm1 hm2 hf hg h
  have hn : NF (sumV f g) r := by
    rcases (SumS.made hf.ok hg.ok (nf_pair hf.ok hg.ok (n := 12) (by omega) (by omega) (fun a ha => hf.dvd ha) (fun b hb => hg.dvd hb)) h).get (sumV_up hf.ok hg.ok) with ⟨_, _, h⟩ | ⟨h, _⟩
    · exact h
    · omega
  have hd := sum_dvd hf hg h1 h2 (b := r) (by rw [hn.ats]; exact hn)
  have hp1 := h1.p1
  have hp12 : r.per.toNat ≤ 12 := Nat.le_of_dvd (by omega) hd
  refine ⟨h0, ⟨h1, ?_, by omega, fun t => ?_⟩, h2, hn⟩
  · have hl1 := hf.len; have hl2 := hg.len
    have fp1 := hf.ok.p1; have gp1 := hg.ok.p1; have fp := hf.per; have gp := hg.per; have fpn := hf.ok.pn; have gpn := hg.ok.pn
    by_cases hfin : f.Fin ∧ g.Fin
    · have hk := comm_facts (p := f.per.toNat) (q := g.per.toNat) (by omega) (by omega)
      have hc : comm f.per.toNat g.per.toNat ≤ 64 := Nat.le_trans hk.2.2.2.1 (Nat.mul_le_mul (show f.per.toNat ≤ 8 by omega) (show g.per.toNat ≤ 8 by omega))
      have hne : ∀ t, t ≤ 1000000 → sumV f g t ≠ inf := fun t ht => by rw [sumV_fin hfin.1 hfin.2]; exact hfin.1.add_ne hfin.2 ht
      have hP := (sum_per hf.ok hg.ok (s := 20) (c := comm f.per.toNat g.per.toNat) (by omega) (by omega) rfl (fun j hj => hne j (by omega))).2.2
      obtain ⟨r', hr', k1, k2⟩ := nf_exists (by omega) hP (fun t ht => hne t (by omega))
      obtain rfl := hn.unique (.inl hr')
      omega
    · have hi : r.infAt 20 := (sum_infAt hf.ok hg.ok h1 h2 20).2 (by
        rcases hf.ok.fin_or with a1 | a1
        · rcases hg.ok.fin_or with a2 | a2
          · exact absurd ⟨a1, a2⟩ hfin
          · exact .inr ⟨a2, hg.ok.at_inf a2 (by omega)⟩
        · exact .inl ⟨a1, hf.ok.at_inf a1 (by omega)⟩)
      rcases hn with hn | hn
      · exfalso
        have hr1 := h1.n1
        have := hi.1
        rw [hn.vals _ (by omega)] at this
        exact hn.fin _ (by omega) this
      · rcases Nat.lt_or_ge 21 r.vals.length with h3 | h3
        · have := hi.2
          rw [h2] at this
          exact absurd this (hn.before 20 (by omega))
        · omega
  · by_cases hi : r.infAt t
    · exact .inl hi
    · right
      have hi2 := hi
      rw [sum_infAt hf.ok hg.ok h1 h2, not_or] at hi2
      rw [sum_at h2 hi2.1 hi2.2]
      have := hf.at_bd hi2.1; have := hg.at_bd hi2.2
      omega
theorem tame_later {f r : Cv} {N : Nat} {e : Int} (hf : Tame f) (hN : N ≤ 58) (m : LaterS f N r e) : e = 0 ∧ r.Ok ∧ r.at = laterV f N := by
  have hl := hf.len
  obtain ⟨h1, h2, h3⟩ := later_made hf.ok (n := N) (by omega) m
  exact ⟨h1, h2, funext h3⟩
theorem lower_perS {a : Cv} {c : Int} (ha : a.Fin) {s : Nat} (h4 : c ≤ a.at s) (h2 : a.vals.length - a.per.toNat ≤ s) : Per (lowerV a c) s a.per.toNat a.inc := fun t ht => by
  have hi := ha.1.i1
  have h5 := ha.1.at_le (show s ≤ t by omega)
  rw [lowerV_fin (ha.not_infAt _), lowerV_fin (ha.not_infAt _), ha.toL.step t (by omega)]; omega
theorem tame_lower {f r : Cv} {N e : Int} (hf : Tame f) (h0 : 0 ≤ N) (hN : N ≤ 20) (m : LowerS f N r e) : e = 0 ∧ r.Ok ∧ r.at = lowerV f N := by
  have hm := LowerS.made hf.ok h0 (by omega) m
  have hl := hf.len; have hp := hf.per; have hp1 := hf.ok.p1; have hpn := hf.ok.pn; have hi := hf.inc; have hi0 := hf.ok.i1
  have up := lower_up hf.ok h0
  rcases hf.ok.fin_or with hF | hx
  · have hv : ∀ t, t < 400 → lowerV f N t ≤ 1073741824 := fun t ht => by
      rw [lowerV_fin (hF.not_infAt t)]
      have := hf.fbd hF t
      omega
    have key : ∃ s, s + f.per.toNat ≤ 400 ∧ Per (lowerV f N) s f.per.toNat f.inc := by
      by_cases h : f.inc = 0
      · exact ⟨f.vals.length, by omega, lower_flat hF h (by omega)⟩
      · refine ⟨330, by omega, lower_perS hF ?_ (by omega)⟩
        have h1 := hF.toL.step.mul 20 84 (by omega)
        have h2 := hF.1.at_le (show 84 + 20 * f.per.toNat ≤ 330 by omega)
        have h3 := hF.1.up0.nn 84
        have h4 : (20 : Int) * 1 ≤ 20 * f.inc := Int.mul_le_mul_of_nonneg_left (by omega) (by omega)
        have h5 : ((20 : Nat) : Int) * f.inc = 20 * f.inc := rfl
        omega
    obtain ⟨s, hs, P⟩ := key
    obtain ⟨a1, a2, a3, _⟩ := made_fin hm up (by omega) P hs (by omega) (fun t ht => hv t (by omega)) (by omega)
    exact ⟨a1, a2, a3.ats⟩
  · have hinf : ∀ t, 84 ≤ t → f.infAt t := fun t ht => ⟨hx, hf.ok.at_inf hx (by omega)⟩
    obtain ⟨a1, a2, a3⟩ := made_inf hm up (k := 84) (by omega) (fun t ht => lowerV_inf (hinf t ht)) (fun t ht => by
      by_cases h : f.infAt t
      · exact .inl (lowerV_inf h)
      · right
        rw [lowerV_fin h]
        have := (hf.bd t).resolve_left h
        omega)
    exact ⟨a1, a2, a3.ats⟩
theorem tame_ahead {f r : Cv} {N : Nat} {e : Int} (hf : Tame f) (hN : N ≤ 20) (m : AheadFS f N r e) : e = 0 ∧ r.Ok ∧ r.at = aheadV f N := by
  have hm := AheadFS.made hf.ok (by omega) (by omega) m
  rw [Int.toNat_natCast] at hm
  have hl := hf.len; have hp := hf.per; have hp1 := hf.ok.p1; have hpn := hf.ok.pn; have hi := hf.inc
  have up := ahead_up (d := N) hf.ok
  have hv : ∀ t, t < 400 → f.infAt (t + N) ∨ aheadV f N t ≤ 1073741824 := fun t ht => by
    rcases Nat.eq_zero_or_pos t with h | h
    · subst h; rw [aheadV_zero]; right; omega
    · rw [aheadV_pos h]
      exact (hf.bd (t + N)).imp id (fun h => by omega)
  rcases hf.ok.fin_or with hF | hx
  · obtain ⟨a1, a2, a3, _⟩ := made_fin hm up (s := 84) (by omega) (ahead_per hF (by omega) (by omega)) (by omega) (by omega) (fun t ht => (hv t (by omega)).resolve_left (hF.not_infAt _)) (by omega)
    exact ⟨a1, a2, a3.ats⟩
  · obtain ⟨a1, a2, a3⟩ := made_inf hm up (k := 84) (by omega) (fun t ht => by rw [aheadV_pos (by omega)]; exact hf.ok.at_inf hx (by omega)) (fun t ht => by
      rcases Nat.eq_zero_or_pos t with h | h
      · subst h; rw [aheadV_zero]; right; omega
      · rcases hv t (by omega) with h2 | h2
        · left; rw [aheadV_pos h]; exact h2.2
        · exact .inr h2)
    exact ⟨a1, a2, a3.ats⟩
end Go.Proofs.Ythgfmaijoigckaa
