/- Plain words: the tick from which two curves repeat, a common period, and the drift. -/
import Derived.Test.YtmieikfmbnaoaaaOrdLaw
namespace Go.Proofs.Ytmieikfmbnaoaaa
set_option linter.unusedVariables false

def comm (p q : Nat) : Nat := p / Nat.gcd p q * q
theorem comm_facts {p q : Nat} (hp : 1 ≤ p) (hq : 1 ≤ q) : comm p q = comm p q / p * p ∧ comm p q = comm p q / q * q ∧ 1 ≤ comm p q ∧ comm p q ≤ p * q ∧ comm p q / p ≤ q ∧ comm p q / q ≤ p := by
  obtain ⟨a, ha⟩ := Nat.gcd_dvd_left p q
  obtain ⟨b, hb⟩ := Nat.gcd_dvd_right p q
  have hg : 0 < Nat.gcd p q := Nat.gcd_pos_of_pos_left _ hp
  have e1 : p / Nat.gcd p q = a := by
    rw (config := { occs := .pos [1] }) [ha]; exact Nat.mul_div_cancel_left _ hg
  have hc : comm p q = a * q := by unfold comm; rw [e1]
  have hc2 : comm p q = b * p := by
    have h1 : a * q = a * (Nat.gcd p q * b) := congrArg (a * ·) hb
    have h2 : b * p = b * (Nat.gcd p q * a) := congrArg (b * ·) ha
    rw [hc, h1, h2]
    ac_rfl
  have d1 : comm p q / p = b := by rw [hc2]; exact Nat.mul_div_cancel _ hp
  have d2 : comm p q / q = a := by rw [hc]; exact Nat.mul_div_cancel _ hq
  have hap : a ≤ p := by rw [← e1]; exact Nat.div_le_self _ _
  have hbq : b ≤ q := by
    have : q / Nat.gcd p q = b := by
      rw (config := { occs := .pos [1] }) [hb]; exact Nat.mul_div_cancel_left _ hg
    rw [← this]; exact Nat.div_le_self _ _
  have ha1 : 1 ≤ a := by
    rcases Nat.eq_zero_or_pos a with e | e
    · rw [e] at ha; omega
    · exact e
  refine ⟨by rw [d1]; exact hc2, by rw [d2]; exact hc, by rw [hc]; exact Nat.mul_pos ha1 hq, by rw [hc]; exact Nat.mul_le_mul_right q hap, by rw [d1]; exact hbq, by rw [d2]; exact hap⟩

def ordF (f g : Cv) : Nat := max (f.vals.length - f.per.toNat) (g.vals.length - g.per.toNat)
def ordC (f g : Cv) : Nat := comm f.per.toNat g.per.toNat
def ordD (f g : Cv) : Int := (ordC f g / f.per.toNat : Nat) * f.inc - (ordC f g / g.per.toNat : Nat) * g.inc

structure OrdB (f g : Cv) : Prop where
  f0 : ordF f g ≤ 400
  fs : f.vals.length - f.per.toNat ≤ ordF f g
  gs : g.vals.length - g.per.toNat ≤ ordF f g
  c1 : 1 ≤ ordC f g
  c2 : ordC f g ≤ 14400
  d1 : ordD f g ≤ 128849018880
  d2 : -128849018880 ≤ ordD f g
  a1 : 0 ≤ ((ordC f g / f.per.toNat : Nat) : Int) * f.inc ∧ ((ordC f g / f.per.toNat : Nat) : Int) * f.inc ≤ 128849018880
  a2 : 0 ≤ ((ordC f g / g.per.toNat : Nat) : Int) * g.inc ∧ ((ordC f g / g.per.toNat : Nat) : Int) * g.inc ≤ 128849018880
  b1 : ordC f g / f.per.toNat ≤ 120
  b2 : ordC f g / g.per.toNat ≤ 120

theorem ord_b {f g : Cv} (hf : f.Ok) (hg : g.Ok) : OrdB f g := by
  have hn := hf.n2; have hm := hg.n2
  have hp1 := hf.p1; have hp2 := hf.p2; have hi1 := hf.i1; have hi2 := hf.i2
  have hq1 := hg.p1; have hq2 := hg.p2; have hj1 := hg.i1; have hj2 := hg.i2
  obtain ⟨e1, e2, e3, e4, e5, e6⟩ := comm_facts (p := f.per.toNat) (q := g.per.toNat) (by omega) (by omega)
  have hpq : f.per.toNat * g.per.toNat ≤ 120 * 120 := Nat.mul_le_mul (by omega) (by omega)
  have a1 : ((ordC f g / f.per.toNat : Nat) : Int) * f.inc ≤ 120 * 1073741824 := Int.mul_le_mul (by show ((comm _ _ / _ : Nat) : Int) ≤ _; omega) hi2 hi1 (by omega)
  have a2 : ((ordC f g / g.per.toNat : Nat) : Int) * g.inc ≤ 120 * 1073741824 := Int.mul_le_mul (by show ((comm _ _ / _ : Nat) : Int) ≤ _; omega) hj2 hj1 (by omega)
  have a3 : 0 ≤ ((ordC f g / f.per.toNat : Nat) : Int) * f.inc := Int.mul_nonneg (Int.natCast_nonneg _) hi1
  have a4 : 0 ≤ ((ordC f g / g.per.toNat : Nat) : Int) * g.inc := Int.mul_nonneg (Int.natCast_nonneg _) hj1
  refine ⟨by unfold ordF; omega, by unfold ordF; omega, by unfold ordF; omega, e3, by unfold ordC; omega, by unfold ordD; omega, by unfold ordD; omega, ⟨a3, by omega⟩, ⟨a4, by omega⟩, by show comm _ _ / _ ≤ _; omega, by show comm _ _ / _ ≤ _; omega⟩

theorem ord_per {f g : Cv} (hf : f.Fin) (hg : g.Fin) : Per (dif f g) (ordF f g) (ordC f g) (ordD f g) := by
  have B := ord_b hf.1 hg.1
  obtain ⟨e1, e2, e3, e4, e5, e6⟩ := comm_facts (p := f.per.toNat) (q := g.per.toNat) (by have := hf.1.p1; omega) (by have := hg.1.p1; omega)
  exact Per.dif hf.toL.step hg.toL.step e1 e2 _ B.fs B.gs

theorem up_dif {f g : Cv} (hf : f.Fin) (hg : g.Fin) (n : Nat) : Up f g n ↔ 0 < dif f g n := by
  rw [up_fin hf hg]; unfold dif; omega

/-- what order.Exceeds, order.Settles and order.Meets return -/
def OrdS (S : Prop) (f g : Cv) (t : Int) (ok : Bool) (er : Int) : Prop := (f.Ok ∧ g.Ok ∧ er = 0 ∧ S) ∨ (¬ (f.Ok ∧ g.Ok) ∧ er = 1 ∧ t = 0 ∧ ok = false)

/-- without a tick up to the start, and not both finite: none -/
theorem ex_inf {f g : Cv} (hf : f.Ok) (hg : g.Ok) (hi : ¬ (f.Fin ∧ g.Fin)) (h : ∀ n, n < ordF f g + 1 → ¬ g.at n < f.at n) : ExS (Up f g) 0 false := by
  have B := ord_b hf hg
  have b0 := B.f0
  refine .inr ⟨rfl, rfl, fun n => ?_⟩
  by_cases hn : n ≤ ordF f g
  · rw [up_iff hf hg (by omega)]; exact h n (by omega)
  · rw [up_inf hf hg hi B.fs B.gs (show ordF f g ≤ n by omega), up_iff hf hg (by omega)]; exact h _ (by omega)

/-- the first tick up to the start -/
theorem ex_early {f g : Cv} (hf : f.Ok) (hg : g.Ok) {t : Nat} (ht : t ≤ 1000) (h : ∀ n, n < t → ¬ g.at n < f.at n) (hu : g.at t < f.at t) : ExS (Up f g) t true :=
  .inl ⟨rfl, t, rfl, (up_iff hf hg (by omega)).2 hu, fun m hm => by rw [up_iff hf hg (by omega)]; exact h m hm⟩

theorem ex_late {f g : Cv} (hf : f.Fin) (hg : g.Fin) {b : Bool} {L : Int} (h : ExI (dif f g) (ordF f g) (ordC f g) (ordC f g) b L) (h0 : ∀ n, n < ordF f g + 1 → ¬ g.at n < f.at n) : ExS (Up f g) L b :=
  (h.done (ord_b hf.1 hg.1).c1 (fun n hn => by have := h0 n (by omega); unfold dif; omega)).congr fun n => (up_dif hf hg n).symm

/-- the bound of the values that are compared -/
theorem dif_bd {f g : Cv} (hf : f.Fin) (hg : g.Fin) {n : Nat} (hn : n ≤ 20000) : dif f g n ≤ 30000000000000 ∧ -30000000000000 ≤ dif f g n := by
  have h1 := hf.at_bd n
  have h2 := hg.at_bd n
  unfold dif
  omega
theorem at_inf_bd {f : Cv} (hf : f.Ok) {n : Nat} (hn : n ≤ 20000) : 0 ≤ f.at n ∧ f.at n ≤ 4611686018427387904 := by
  have := hf.at_bd (n := n) (by omega)
  unfold inf at this
  exact ⟨this.1, this.2.1⟩

/-- what order.Settles knows behind its first loop -/
structure SeL (f g : Cv) (k : Nat) (L : Int) : Prop where
  lo : -1 ≤ L
  hi : L < k
  hit : 0 ≤ L → g.at L.toNat < f.at L.toNat
  low : ∀ n : Nat, n < k → g.at n < f.at n → (n : Int) ≤ L

theorem SeL.zero (f g : Cv) : SeL f g 0 (-1) := ⟨by omega, by omega, fun h => by omega, fun n hn => by omega⟩
theorem SeL.yes {f g : Cv} {k : Nat} {L : Int} (h : SeL f g k L) (hu : g.at k < f.at k) : SeL f g (k + 1) k :=
  ⟨by omega, by omega, fun _ => by rw [Int.toNat_natCast]; exact hu, fun n hn hu => by omega⟩
theorem SeL.no {f g : Cv} {k : Nat} {L : Int} (h : SeL f g k L) (hu : ¬ g.at k < f.at k) : SeL f g (k + 1) L :=
  ⟨h.lo, by have := h.hi; omega, h.hit, fun n hn hn2 => by
    by_cases e : n = k
    · subst e; exact absurd hn2 hu
    · exact h.low n (by omega) hn2⟩

theorem se_inf {f g : Cv} (hf : f.Ok) (hg : g.Ok) (hi : ¬ (f.Fin ∧ g.Fin)) {L : Int} (h : SeL f g (ordF f g + 1) L) :
    (L = ordF f g → SeS (Up f g) 0 false) ∧ (L ≠ ordF f g → SeS (Up f g) (L + 1) true) := by
  have B := ord_b hf hg
  have b0 := B.f0
  have hlo := h.lo; have hhi := h.hi
  refine ⟨fun e => .inr ⟨rfl, rfl, fun m => ⟨max m (ordF f g), by omega, ?_⟩⟩, fun e => .inl ⟨rfl, (L + 1).toNat, by omega, fun m hm hu => ?_, fun k hk => ?_⟩⟩
  · rw [up_inf hf hg hi B.fs B.gs (show ordF f g ≤ max m (ordF f g) by omega), up_iff hf hg (by omega)]
    have := h.hit (by omega)
    rwa [show L.toNat = ordF f g by omega] at this
  · by_cases hn : m ≤ ordF f g
    · rw [up_iff hf hg (by omega)] at hu
      have := h.low m (by omega) hu; omega
    · rw [up_inf hf hg hi B.fs B.gs (show ordF f g ≤ m by omega), up_iff hf hg (by omega)] at hu
      have := h.low _ (by omega) hu; omega
  · have := h.hit (by omega)
    rw [show L.toNat = k by omega] at this
    exact (up_iff hf hg (by omega)).2 this

theorem se_start {f g : Cv} (hf : f.Fin) (hg : g.Fin) {L : Int} (h : SeL f g (ordF f g + 1) L) : SeI (dif f g) (ordF f g) (ordC f g) 0 L :=
  ⟨h.lo, fun h0 => by have := h.hit h0; unfold dif; omega, fun n hn hu => h.low n (by omega) (by unfold dif at hu; omega), fun r hr => by omega⟩

theorem se_late {f g : Cv} (hf : f.Fin) (hg : g.Fin) {L : Int} (h : SeI (dif f g) (ordF f g) (ordC f g) (ordC f g) L) : SeS (Up f g) (L + 1) true :=
  (h.done (ord_b hf.1 hg.1).c1).congr fun n => (up_dif hf hg n).symm

theorem se_never {f g : Cv} (hf : f.Fin) (hg : g.Fin) {n : Nat} (hn : ordF f g ≤ n) (h : (0 < dif f g n ∧ 0 ≤ ordD f g) ∨ 0 < ordD f g) : SeS (Up f g) 0 false := by
  refine .inr ⟨rfl, rfl, fun m => ?_⟩
  have B := ord_b hf.1 hg.1
  have : ∃ k, m ≤ k ∧ 0 < dif f g k := by
    rcases h with ⟨h1, h2⟩ | h
    · exact often_flat B.c1 (ord_per hf hg) h2 hn h1 m
    · exact often_grow B.c1 (ord_per hf hg) h m
  obtain ⟨k, h1, h2⟩ := this
  exact ⟨k, h1, (up_dif hf hg k).2 h2⟩

theorem ne2_iff {f g : Cv} (hf : f.Ok) (hg : g.Ok) {n : Nat} (hn : n ≤ 4000000000) : Ne2 f g n ↔ f.at n ≠ g.at n := by
  unfold Ne2
  rw [up_iff hf hg hn, up_iff hg hf hn]; omega
theorem ne2_inf {f g : Cv} (hf : f.Ok) (hg : g.Ok) (hi : ¬ (f.Fin ∧ g.Fin)) {n : Nat} (hs : ordF f g ≤ n) : Ne2 f g n ↔ Ne2 f g (ordF f g) := by
  have B := ord_b hf hg
  unfold Ne2
  rw [up_inf hf hg hi B.fs B.gs hs, up_inf hg hf (fun h => hi ⟨h.2, h.1⟩) B.gs B.fs hs]
theorem ne2_fin {f g : Cv} (hf : f.Fin) (hg : g.Fin) (n : Nat) : Ne2 f g n ↔ dif f g n ≠ 0 := by
  unfold Ne2
  rw [up_dif hf hg, up_dif hg hf]; unfold dif; omega

/-- the window that order.Meets looks at differs somewhere -/
theorem me_differ {f g : Cv} (hf : f.Ok) (hg : g.Ok) {b : Bool} (hb : b = true ↔ (f.Fin ∧ g.Fin)) {r : Nat} (hr : r < if b = true then ordC f g else 1) (h : f.at (ordF f g + r) ≠ g.at (ordF f g + r)) : SeS (Ne2 f g) 0 false := by
  have B := ord_b hf hg
  refine .inr ⟨rfl, rfl, fun m => ?_⟩
  by_cases hfin : f.Fin ∧ g.Fin
  · have hP := ord_per hfin.1 hfin.2
    obtain ⟨d, hd⟩ : ∃ d, dif f g (ordF f g + r) = d := ⟨_, rfl⟩
    have hd0 : d ≠ 0 := by rw [← hd]; unfold dif; omega
    obtain ⟨D, hD⟩ : ∃ D, ordD f g = D := ⟨_, rfl⟩
    rw [hD] at hP
    have key : ∃ M : Nat, m ≤ M ∧ d + (M : Int) * D ≠ 0 := by
      by_cases e : d + (m : Int) * D = 0
      · refine ⟨m + 1, by omega, fun e2 => ?_⟩
        have : ((m + 1 : Nat) : Int) * D = m * D + D := by rw [Int.natCast_add, Int.add_mul]; simp
        rw [this] at e2
        have hD0 : D = 0 := by omega
        rw [hD0] at e
        simp at e
        exact hd0 e
      · exact ⟨m, Nat.le_refl _, e⟩
    obtain ⟨M, hM, hne⟩ := key
    refine ⟨ordF f g + r + M * ordC f g, ?_, ?_⟩
    · have := Nat.le_mul_of_pos_right M (show 0 < ordC f g from B.c1); omega
    · rw [ne2_fin hfin.1 hfin.2, hP.times _ _ (by omega), hd]; exact hne
  · have hbf : b = false := by
      rcases b with _ | _
      · rfl
      · exact absurd (hb.1 rfl) hfin
    rw [hbf] at hr
    have hr0 : r = 0 := by simp at hr; omega
    subst hr0
    refine ⟨max m (ordF f g), by omega, ?_⟩
    have b0 := B.f0
    rw [ne2_inf hf hg hfin (show ordF f g ≤ max m (ordF f g) by omega), ne2_iff hf hg (by omega)]
    exact h

/-- the curves drift apart -/
theorem me_drift {f g : Cv} (hf : f.Fin) (hg : g.Fin) (hD : ordD f g ≠ 0) (h : f.at (ordF f g) = g.at (ordF f g)) : SeS (Ne2 f g) 0 false := by
  have B := ord_b hf.1 hg.1
  refine .inr ⟨rfl, rfl, fun m => ⟨ordF f g + (m + 1) * ordC f g, ?_, ?_⟩⟩
  · have := Nat.le_mul_of_pos_right (m + 1) (show 0 < ordC f g from B.c1); omega
  · rw [ne2_fin hf hg, (ord_per hf hg).times _ _ (Nat.le_refl _)]
    have h0 : dif f g (ordF f g) = 0 := by unfold dif; omega
    rw [h0, Int.zero_add]
    exact Int.mul_ne_zero (by omega) hD

/-- they are alike from t on -/
def AlikeFrom (f g : Cv) (t : Nat) : Prop := ∀ n, t ≤ n → ¬ Ne2 f g n

theorem me_alike {f g : Cv} (hf : f.Ok) (hg : g.Ok) {b : Bool} (hb : b = true ↔ (f.Fin ∧ g.Fin)) (hD : b = true → ordD f g = 0) (h : ∀ r, r < (if b = true then ordC f g else 1) → f.at (ordF f g + r) = g.at (ordF f g + r)) : AlikeFrom f g (ordF f g) := by
  have B := ord_b hf hg
  have b0 := B.f0
  intro n hn
  by_cases hfin : f.Fin ∧ g.Fin
  · have hbt := hb.2 hfin
    obtain ⟨r, m, hr, rfl⟩ := res_of B.c1 hn
    have h1 := h r (by rw [if_pos hbt]; exact hr)
    rw [ne2_fin hfin.1 hfin.2, (ord_per hfin.1 hfin.2).times _ _ (by omega), hD hbt]
    unfold dif; simp; omega
  · have hbf : b = false := by
      rcases b with _ | _
      · rfl
      · exact absurd (hb.1 rfl) hfin
    have h1 := h 0 (by rw [hbf]; simp)
    rw [ne2_inf hf hg hfin hn, ne2_iff hf hg (by omega)]
    simpa using h1

theorem AlikeFrom.pred {f g : Cv} (hf : f.Ok) (hg : g.Ok) {t : Nat} (ht : t ≤ 1000) (h : AlikeFrom f g (t + 1)) (e : f.at t = g.at t) : AlikeFrom f g t := fun n hn => by
  by_cases e2 : n = t
  · subst e2; rw [ne2_iff hf hg (by omega)]; omega
  · exact h n (by omega)
theorem AlikeFrom.done {f g : Cv} (hf : f.Ok) (hg : g.Ok) {t : Nat} (ht : t ≤ 1000) (h : AlikeFrom f g t) (e : ∀ k, t = k + 1 → f.at k ≠ g.at k) : SeS (Ne2 f g) t true :=
  .inl ⟨rfl, t, rfl, h, fun k hk => (ne2_iff hf hg (by omega)).2 (e k hk)⟩
end Go.Proofs.Ytmieikfmbnaoaaa
