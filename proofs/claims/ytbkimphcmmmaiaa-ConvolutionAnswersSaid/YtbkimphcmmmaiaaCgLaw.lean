/- Convolution: the reference's guess, in plain words. -/
import Derived.Test.YtbkimphcmmmaiaaCpLaw
namespace Go.Proofs.Ytbkimphcmmmaiaa
open Go.RowKit
set_option linter.unusedVariables false

open Classical in
/-- the slope that the reference reckons, and whether the convolution is finite -/
noncomputable def slopeQ (a b : Cv) : Int := if (a.Fin ∨ b.Fin) ∧ nth a.vals 0 ≠ inf ∧ nth b.vals 0 ≠ inf then slopeC a b else 0
theorem slopeQ_yes {a b : Cv} (h : (a.Fin ∨ b.Fin) ∧ nth a.vals 0 ≠ inf ∧ nth b.vals 0 ≠ inf) : slopeQ a b = slopeC a b := by unfold slopeQ; rw [if_pos h]
theorem slopeQ_no {a b : Cv} (h : ¬ ((a.Fin ∨ b.Fin) ∧ nth a.vals 0 ≠ inf ∧ nth b.vals 0 ≠ inf)) : slopeQ a b = 0 := by unfold slopeQ; rw [if_neg h]
/-- the split s of the tick t gives the value v, and repeats -/
def SpQ (a b : Cv) (q v : Int) (t s : Nat) : Prop := s ≤ t ∧ pl (a.at s) (b.at (t - s)) = v ∧ (v = inf ∨ RepQ a b q t s)
/-- what split returns of a tick: the least split that serves, or -1 -/
def SplitR (a b : Cv) (v q : Int) (t : Nat) (must : Bool) (r : Int) : Prop :=
  (∃ s : Nat, r = s ∧ s ≤ t ∧ (pl (a.at s) (b.at (t - s)) = v ∧ (must = false ∨ v = inf ∨ RepQ a b q t s)) ∧ ∀ x, x < s → ¬ (pl (a.at x) (b.at (t - x)) = v ∧ (must = false ∨ v = inf ∨ RepQ a b q t x))) ∨
  (r = -1 ∧ ∀ x, x ≤ t → ¬ (pl (a.at x) (b.at (t - x)) = v ∧ (must = false ∨ v = inf ∨ RepQ a b q t x)))
/-- all values of a last period are attained by ticks that repeat -/
def GOk (a b : Cv) (D : Nat → Int) (fr : Nat) : Prop := ∀ t, fr ≤ t → t < fr + ordC a b → ∃ s, SpQ a b (slopeQ a b) (D t) t s
/-- the list of the guess -/
noncomputable def gX (a b : Cv) (D : Nat → Int) (fr : Nat) : Cv := ⟨tab D 0 (fr + ordC a b), (ordC a b : Nat), slopeQ a b⟩
/-- what guess returns -/
def GuessS (a b : Cv) (fr : Nat) (r : Cv) (ok : Bool) : Prop :=
  ∃ D, CvF a b D ∧ ((¬ GOk a b D fr ∧ ok = false) ∨ (GOk a b D fr ∧ LeastS (gX a b D fr) r ∧ (ok = true ↔ r.per.toNat ∣ ordC a b ∧ BelowS a b r)))
section
variable {a b r : Cv} {D : Nat → Int} {fr : Nat}
theorem csp_zero (ha : a.Ok) (hb : b.Ok) (H : CvF a b D) (h0 : D 0 ≠ inf) : ¬ a.infAt 0 ∧ ¬ b.infAt 0 := by
  rcases (H 0).cases with ⟨_, h⟩ | ⟨⟨s, h1, _⟩, _⟩
  · exact absurd h h0
  · have hs : s = 0 := by have := h1.1; omega
    subst hs
    have := h1.2.2
    rw [Nat.sub_self] at this
    exact ⟨h1.2.1, this⟩
/-- a convolution that is infinite somewhere is so from the start of both on -/
theorem cv_early (ha : a.Ok) (hb : b.Ok) (H : CvF a b D) {m t : Nat} (hm : m ≤ 2000) (hi : D m = inf) (ht : cst a + cst b ≤ t) : D t = inf := by
  by_cases fa : a.Fin
  · by_cases h0 : D 0 = inf
    · exact cv_hinf ha hb H (by omega) (Nat.zero_le _) h0
    · have hz := csp_zero ha hb H h0
      rcases cv_bd ha hb H hm with ⟨h1, _⟩ | h1
      · exact absurd ⟨Nat.le_refl _, fa.not_infAt _, by rw [Nat.sub_self]; exact hz.2⟩ (h1 m)
      · unfold inf at hi; omega
  · by_cases fb : b.Fin
    · by_cases h0 : D 0 = inf
      · exact cv_hinf ha hb H (by omega) (Nat.zero_le _) h0
      · have hz := csp_zero ha hb H h0
        rcases cv_bd ha hb H hm with ⟨h1, _⟩ | h1
        · exact absurd ⟨Nat.zero_le _, hz.1, fb.not_infAt _⟩ (h1 0)
        · unfold inf at hi; omega
    · exact cp_ii ha hb fa fb H ht
theorem gX_len : (gX a b D fr).vals.length = fr + ordC a b := tab_length _ _ _
theorem gX_nth {k : Nat} (hk : k < fr + ordC a b) : nth (gX a b D fr).vals k = D k := by
  show nth (tab D 0 _) k = _
  rw [tab_nth _ _ _ _ hk, Nat.zero_add]
/-- a finite list: the convolution is finite at the start -/
theorem gX_q (ha : a.Ok) (hb : b.Ok) (H : CvF a b D) (hL : ordC a b ≤ 120) (hfr : cst a + cst b ≤ fr) (h : D fr ≠ inf) : slopeQ a b = slopeC a b ∧ (a.Fin ∨ b.Fin) := by
  have h0 : D 0 ≠ inf := fun e => h (cv_hinf ha hb H (by omega) (Nat.zero_le _) e)
  have hz := csp_zero ha hb H h0
  have hf : a.Fin ∨ b.Fin := by
    by_cases fa : a.Fin
    · exact .inl fa
    · by_cases fb : b.Fin
      · exact .inr fb
      · exact absurd (cp_ii ha hb fa fb H hfr) h
  refine ⟨slopeQ_yes ⟨hf, ?_, ?_⟩, hf⟩
  · rw [← at0 ha]; exact fun e => hz.1 ((nfa_at ha (by omega)).1 e)
  · rw [← at0 hb]; exact fun e => hz.2 ((nfa_at hb (by omega)).1 e)
theorem slope_le (ha : a.Ok) (hb : b.Ok) : (a.Fin → slopeC a b ≤ gnA a b) ∧ (b.Fin → slopeC a b ≤ gnB a b) := by
  by_cases fa : a.Fin <;> by_cases fb : b.Fin
  · rw [slopeC_ff fa fb]; exact ⟨fun _ => by omega, fun _ => by omega⟩
  · rw [slopeC_fi fa fb]; exact ⟨fun _ => Int.le_refl _, fun h => absurd h fb⟩
  · rw [slopeC_if fa fb]; exact ⟨fun h => absurd h fa, fun _ => Int.le_refl _⟩
  · exact ⟨fun h => absurd h fa, fun h => absurd h fb⟩
theorem slopeQ_bd (ha : a.Ok) (hb : b.Ok) : 0 ≤ slopeQ a b ∧ slopeQ a b ≤ 128849018880 := by
  have B := ord_b ha hb
  have h1 : 0 ≤ gnA a b ∧ gnA a b ≤ 128849018880 := B.a1
  have h2 : 0 ≤ gnB a b ∧ gnB a b ≤ 128849018880 := B.a2
  by_cases h : (a.Fin ∨ b.Fin) ∧ nth a.vals 0 ≠ inf ∧ nth b.vals 0 ≠ inf
  · rw [slopeQ_yes h]
    by_cases fa : a.Fin <;> by_cases fb : b.Fin
    · rw [slopeC_ff fa fb]; omega
    · rw [slopeC_fi fa fb]; omega
    · rw [slopeC_if fa fb]; omega
    · rcases h.1 with k | k
      · exact absurd k fa
      · exact absurd k fb
  · rw [slopeQ_no h]; omega
theorem gX_pre (ha : a.Ok) (hb : b.Ok) (H : CvF a b D) (hL : ordC a b ≤ 120) (hfr : fr ≤ 1100) : Pre (gX a b D fr) := by
  have hc := (ord_b ha hb).c1
  have hq := slopeQ_bd ha hb
  refine ⟨by show 1 ≤ ((ordC a b : Nat) : Int); omega, by rw [gX_len]; show ((ordC a b : Nat) : Int) ≤ _; omega, hq.1, by show slopeQ a b ≤ _; omega, by rw [gX_len]; omega, fun k => ?_⟩
  by_cases hk : k < fr + ordC a b
  · rw [gX_nth hk]
    exact cv_small ha hb H (by omega)
  · rw [nth_out _ _ (by rw [gX_len]; omega)]; omega
/-- a list with an infinite value, and one without that repeats -/
theorem gX_at (ha : a.Ok) (hb : b.Ok) (H : CvF a b D) (hL : ordC a b ≤ 120) (hs : cst a + cst b ≤ fr) (hfr : fr ≤ 1100) (hper : (∀ j, j < fr + ordC a b → D j ≠ inf) → Per D fr (ordC a b) (slopeQ a b)) (t : Nat) : (gX a b D fr).at t = D t := by
  have hc := (ord_b ha hb).c1
  refine tab_at hc (by omega) (fun m t hm h hmt => cv_hinf ha hb H (by omega) hmt h) (fun m hm h => ?_) (fun hne => ?_) t
  · rw [Nat.add_sub_cancel]
    exact cv_early ha hb H (by omega) h hs
  · rw [Nat.add_sub_cancel]; exact hper hne
theorem gX_nf (ha : a.Ok) (hb : b.Ok) (H : CvF a b D) (hL : ordC a b ≤ 120) (hfr : fr ≤ 1100) (he : (gX a b D fr).at = D) (hr : LeastS (gX a b D fr) r) : NF D r := by
  have := hr.nf (fun m t hm h hmt => by
    rw [gX_len] at hm
    rw [gX_nth hm] at h
    rw [he]
    exact cv_hinf ha hb H (by omega) hmt h)
  rwa [he] at this
/-- a guess that holds is the convolution -/
theorem guess_is (ha : a.Ok) (hb : b.Ok) (H : CvF a b D) (hL : ordC a b ≤ 120) (hs : cst a + cst b ≤ fr) (hfr : fr ≤ 1100) (hG : GOk a b D fr) (hr : LeastS (gX a b D fr) r) (hd : r.per.toNat ∣ ordC a b) (hB : BelowS a b r) : NF D r := by
  have hc := (ord_b ha hb).c1
  by_cases hx : ∃ m, m < fr + ordC a b ∧ D m = inf
  · obtain ⟨m, hm, hi⟩ := hx
    exact gX_nf ha hb H hL hfr (funext fun t => gX_at ha hb H hL hs hfr (fun hne => absurd hi (hne m hm)) t) hr
  · have hne : ∀ j, j < fr + ordC a b → D j ≠ inf := fun j hj e => hx ⟨j, hj, e⟩
    obtain ⟨hq, hf⟩ := gX_q ha hb H hL hs (hne fr (by omega))
    have hle := slope_le ha hb
    obtain ⟨X, hX⟩ : ∃ X, X = gX a b D fr := ⟨_, rfl⟩
    have xl : X.vals.length = fr + ordC a b := by rw [hX]; exact gX_len
    have xp : X.per.toNat = ordC a b := by rw [hX]; exact Int.toNat_natCast _
    have xi : X.inc = slopeC a b := by rw [hX, ← hq]; rfl
    have xv : ∀ k, k < fr + ordC a b → nth X.vals k = D k := fun k hk => by rw [hX]; exact gX_nth hk
    have XF : X.FinL := ⟨by rw [hX]; show 1 ≤ ((ordC a b : Nat) : Int); omega, by rw [xl, hX]; show ((ordC a b : Nat) : Int) ≤ _; omega, fun k hk => by rw [xl] at hk; rw [xv k hk]; exact hne k hk⟩
    have XP := XF.step
    rw [xl, xp, xi, Nat.add_sub_cancel] at XP
    rw [← hX] at hr
    have rn : NF X.at r := hr.nf (fun m t hm h hmt => absurd h (XF.ne m hm))
    have rat : r.at = X.at := funext fun t => rn.at t
    -- at most all sums
    have rp : ∀ t, cst r ≤ t → r.at (t + ordC a b) = r.at t + slopeC a b := by
      have hrf : Per r.at (cst r) r.per.toNat r.inc := by
        rcases rn with h | h
        · rw [rat]; exact h.per
        · have h1 := h.from_ (max r.vals.length fr) (by omega)
          have h2 := h.from_ (max r.vals.length fr + ordC a b) (by omega)
          exfalso
          -- the values behind are finite
          rcases Nat.lt_or_ge (r.vals.length) (fr + ordC a b + 1) with k | k
          · have h3 := h.from_ (fr + ordC a b - 1) (by omega)
            rw [Cv.at_lt (by omega), xv _ (by omega)] at h3
            exact hne _ (by omega) h3
          · have h3 := h.n1
            have h4 := LeastS.len (f := X) (by rw [hX]; exact gX_pre ha hb H hL hfr) hr
            omega
      have q2 := hrf.mul (ordC a b / r.per.toNat)
      rw [Nat.div_mul_cancel hd] at q2
      have q3 := q2 (max (cst r) fr) (by omega)
      have q4 := XP (max (cst r) fr) (by omega)
      rw [rat] at q3
      intro t ht
      have := q2 t ht
      omega
    have below : ∀ N s u, s + u = N → ¬ a.infAt s → ¬ b.infAt u → r.at (s + u) ≤ a.at s + b.at u := by
      intro N
      induction N using Nat.strongRecOn with
      | _ N ih =>
        intro s u hN h1 h2
        by_cases k1 : s < max (cst a) (cst r) + ordC a b
        · by_cases k2 : u < max (cst b) (cst r) + ordC a b
          · have k3 := hB s u k1 k2
            unfold pl at k3
            have hra := cst_le ha; have hrb := cst_le hb
            have hrr : cst r ≤ 1300 := by
              have h4 := LeastS.len (f := X) (by rw [hX]; exact gX_pre ha hb H hL hfr) hr
              unfold cst; omega
            rw [if_neg] at k3
            · exact k3
            · rintro (e | e)
              · exact h1 ((nfa_at ha (by omega)).1 e)
              · exact h2 ((nfa_at hb (by omega)).1 e)
          · have fb : b.Fin := by
              rcases hb.fin_or with fb | ib
              · exact fb
              · exact absurd (hb.infAt_start ib (n := u) (by unfold cst at k2; omega)) h2
            have e1 := ih (s + (u - ordC a b)) (by omega) s (u - ordC a b) rfl h1 (fb.not_infAt _)
            have e2 := rp (s + (u - ordC a b)) (by omega)
            have e3 := gnB_per ha fb (s := cst b) (Nat.le_refl _) (u - ordC a b) (by omega)
            rw [show u - ordC a b + ordC a b = u by omega] at e3
            rw [show s + (u - ordC a b) + ordC a b = s + u by omega] at e2
            have := hle.2 fb
            omega
        · have fa : a.Fin := by
            rcases ha.fin_or with fa | ia
            · exact fa
            · exact absurd (ha.infAt_start ia (n := s) (by unfold cst at k1; omega)) h1
          have e1 := ih (s - ordC a b + u) (by omega) (s - ordC a b) u rfl (fa.not_infAt _) h2
          have e2 := rp (s - ordC a b + u) (by omega)
          have e3 := gnA_per fa hb (s := cst a) (Nat.le_refl _) (s - ordC a b) (by omega)
          rw [show s - ordC a b + ordC a b = s by omega] at e3
          rw [show s - ordC a b + u + ordC a b = s + u by omega] at e2
          have := hle.1 fa
          omega
    have h0 : D 0 ≠ inf := hne 0 (by omega)
    have hz := csp_zero ha hb H h0
    have some : ∀ t, ∃ s, CSp a b t s := fun t => by
      rcases hf with fa | fb
      · exact ⟨t, Nat.le_refl _, fa.not_infAt _, by rw [Nat.sub_self]; exact hz.2⟩
      · exact ⟨0, Nat.zero_le _, hz.1, fb.not_infAt _⟩
    have eq : X.at = D := by
      funext t
      by_cases ht : t < fr + ordC a b
      · rw [Cv.at_lt (by omega), xv t ht]
      · rcases (H t).cases with ⟨h1, _⟩ | ⟨⟨s, h1, h2⟩, h3⟩
        · obtain ⟨s, hs⟩ := some t
          exact absurd hs (h1 s)
        · have lo := below t s (t - s) (by have := h1.1; omega) h1.2.1 h1.2.2
          rw [show s + (t - s) = t by have := h1.1; omega, rat] at lo
          obtain ⟨ρ, m, hρ, rfl⟩ := res_of hc (show fr ≤ t by omega)
          have e1 := XP.mul m (fr + ρ) (by omega)
          rw [Cv.at_lt (t := fr + ρ) (by omega), xv (fr + ρ) (by omega)] at e1
          obtain ⟨s', k1, k2, k3⟩ := hG (fr + ρ) (by omega) (by omega)
          have k4 : CSp a b (fr + ρ) s' := by
            refine Classical.byContradiction fun k => ?_
            rw [pl_not ha hb (by omega) k1 k] at k2
            exact hne _ (by omega) k2.symm
          rw [pl_csp ha hb (by omega) k4] at k2
          have k5 := k3.resolve_left (hne _ (by omega))
          have hi : D (fr + ρ + m * ordC a b) ≤ D (fr + ρ) + m * slopeC a b := by
            rw [← hq]
            rcases k5 with ⟨fa, g1, g2⟩ | ⟨fb, g1, g2⟩
            · have e2 := (gnA_per fa hb (s := cst a) (Nat.le_refl _)).mul m s' g2
              have e3 := h3 (s' + m * ordC a b) ⟨by omega, fa.not_infAt _, by rw [show fr + ρ + m * ordC a b - (s' + m * ordC a b) = fr + ρ - s' by omega]; exact k4.2.2⟩
              rw [show fr + ρ + m * ordC a b - (s' + m * ordC a b) = fr + ρ - s' by omega] at e3
              rw [g1] at e2
              omega
            · have e2 := (gnB_per ha fb (s := cst b) (Nat.le_refl _)).mul m (fr + ρ - s') g2
              have e3 := h3 s' ⟨by omega, k4.2.1, fb.not_infAt _⟩
              rw [show fr + ρ + m * ordC a b - s' = fr + ρ - s' + m * ordC a b by omega] at e3
              rw [g1] at e2
              omega
          omega
    rwa [eq] at rn
/-- a convolution within the limits is guessed -/
theorem guess_hits (ha : a.Ok) (hb : b.Ok) (H : CvF a b D) (hL : ordC a b ≤ 120) (hfr : fr ≤ 1100) {g : Cv} (hg : g.Ok) (hn : NF D g) (hh : cvH a b g ≤ fr) : GOk a b D fr ∧ (∀ r, LeastS (gX a b D fr) r → r = g) ∧ g.per.toNat ∣ ordC a b ∧ BelowS a b g := by
  have hc := (ord_b ha hb).c1
  have gat : g.at = D := funext fun t => hn.at t
  have hs : cst a + cst b ≤ fr := by unfold cvH at hh; omega
  have hsg : cst g ≤ fr := by unfold cvH at hh; omega
  have H' : CvF a b g.at := by rw [gat]; exact H
  have hn' : NF g.at g := by rw [gat]; exact hn
  have qf : g.Fin → slopeQ a b = slopeC a b ∧ gnl g (ordC a b) = slopeC a b := fun fg => by
    have h1 : D fr ≠ inf := by rw [← gat]; exact fin_at_ne fg (by omega)
    exact ⟨(gX_q ha hb H hL hs h1).1, (cp_gnl ha hb fg hn' H').2⟩
  have hd : g.per.toNat ∣ ordC a b := by
    rcases hg.fin_or with fg | ig
    · exact (cp_gnl ha hb fg hn' H').1
    · rw [(hg.last ig).1]; exact Nat.one_dvd _
  refine ⟨fun t h1 h2 => ?_, fun r hr => ?_, hd, fun s u h1 h2 => ?_⟩
  · obtain ⟨s, k1, k2, k3⟩ := cp_split ha hb hg hn' H' (t := t) (by omega)
    rw [gat] at k2 k3
    refine ⟨s, k1, k2, ?_⟩
    rcases k3 with k3 | k3 | k3
    · omega
    · exact .inl k3
    · by_cases hi : D t = inf
      · exact .inl hi
      · have fg : g.Fin := by
          rcases hg.fin_or with k | k
          · exact k
          · have := (hg.infAt_start k (n := t) (by unfold cst at hsg; omega)).2
            rw [gat] at this
            exact absurd this hi
        have hq := qf fg
        unfold Rep at k3
        rw [hq.2, ← hq.1] at k3
        exact .inr k3
  · have e : (gX a b D fr).at = D := funext fun t => gX_at ha hb H hL hs hfr (fun hne => by
      have fg : g.Fin := by
        rcases hg.fin_or with k | k
        · exact k
        · have := (hg.infAt_start k (n := fr) (by unfold cst at hsg; omega)).2
          rw [gat] at this
          exact absurd this (hne fr (by omega))
      have hq := qf fg
      have q2 := fg.toL.step.mul (ordC a b / g.per.toNat)
      rw [Nat.div_mul_cancel hd, gat] at q2
      rw [hq.1, ← hq.2]
      exact q2.mono (by unfold cst at hsg; exact hsg)) t
    exact (gX_nf ha hb H hL hfr e hr).unique hn
  · have s1 := cst_le ha; have s2 := cst_le hb; have s3 := cst_le hg
    exact cp_below ha hb H' (by omega)
/-- what the reference's Of returns of two normal forms -/
theorem of_first (ha : a.Ok) (hb : b.Ok) (hL : ordC a b ≤ 120) (hs : cst a + cst b ≤ fr) (hfr : fr ≤ 1100) (hG : GuessS a b fr r true) : ∃ D, CvF a b D ∧ NF D r := by
  obtain ⟨D, H, ⟨_, h⟩ | ⟨h1, h2, h3⟩⟩ := hG
  · cases h
  · have h4 := h3.1 rfl
    exact ⟨D, H, guess_is ha hb H hL hs hfr h1 h2 h4.1 h4.2⟩
theorem of_yes (ha : a.Ok) (hb : b.Ok) (hL : ordC a b ≤ 120) (hs : cst a + cst b ≤ fr) (hfr : fr ≤ 1100) (hG : GuessS a b fr r true) (hr : r.Ok) : CvoS a b r 0 := by
  obtain ⟨D, H, hn⟩ := of_first ha hb hL hs hfr hG
  exact ⟨D, H, .inl ⟨hn, hr.lim, rfl⟩⟩
theorem of_big (ha : a.Ok) (hb : b.Ok) (hL : ordC a b ≤ 120) (hs : cst a + cst b ≤ fr) (hfr : fr ≤ 1100) (hG : GuessS a b fr r true) (hr : ¬ r.Ok) : CvoS a b Cv.none 3 := by
  obtain ⟨D, H, hn⟩ := of_first ha hb hL hs hfr hG
  refine ⟨D, H, MadeL.none_ fun g hg hl => hr ?_⟩
  obtain rfl := hn.unique hg
  exact nf_lim_ok hn (cv_up ha hb H) hl
theorem of_none (ha : a.Ok) (hb : b.Ok) (hL : ordC a b ≤ 120) (hs : 800 + ordC a b ≤ fr) (hfr : fr ≤ 1100) (hG : GuessS a b fr r false) : CvoS a b Cv.none 3 := by
  obtain ⟨D, H, hG⟩ := hG
  refine ⟨D, H, MadeL.none_ fun g hg hl => ?_⟩
  have hgo := nf_lim_ok hg (cv_up ha hb H) hl
  have s1 := cst_le ha; have s2 := cst_le hb; have s3 := cst_le hgo
  obtain ⟨k1, k2, k3, k4⟩ := guess_hits ha hb H hL hfr hgo hg (by unfold cvH; omega)
  rcases hG with ⟨h1, _⟩ | ⟨_, h2, h3⟩
  · exact h1 k1
  · obtain rfl := k2 r h2
    have := h3.2 ⟨k3, k4⟩
    cases this
end
end Go.Proofs.Ytbkimphcmmmaiaa
