/- Plain words for the statement DeviationLater. -/
import Derived.Test.YtaejfleahamapaaGreatTc1
namespace Go.Proofs.YtaejfleahamapaaGreat
set_option linter.unusedVariables false

def Cv.infAt (f : Cv) (n : Nat) : Prop := nth f.vals (f.vals.length - 1) = inf ∧ f.at n = inf

def Up (f g : Cv) (n : Nat) : Prop := ¬ g.infAt n ∧ (f.infAt n ∨ g.at n < f.at n)

def ExS (U : Nat → Prop) (t : Int) (ok : Bool) : Prop := (ok = true ∧ ∃ n : Nat, t = n ∧ U n ∧ ∀ m, m < n → ¬ U m) ∨ (ok = false ∧ t = 0 ∧ ∀ n, ¬ U n)

def SeS (U : Nat → Prop) (t : Int) (ok : Bool) : Prop := (ok = true ∧ ∃ n : Nat, t = n ∧ (∀ m, n ≤ m → ¬ U m) ∧ ∀ k, n = k + 1 → U k) ∨ (ok = false ∧ t = 0 ∧ ∀ m, ∃ n, m ≤ n ∧ U n)

theorem ExS.unique {U : Nat → Prop} {t t' : Int} {b b' : Bool} (h : ExS U t b) (h' : ExS U t' b') : t = t' ∧ b = b' := by
  rcases h with ⟨rfl, n, rfl, h1, h2⟩ | ⟨rfl, rfl, h1⟩
  · rcases h' with ⟨rfl, n', rfl, h1', h2'⟩ | ⟨rfl, rfl, h1'⟩
    · rcases Nat.lt_trichotomy n n' with e | e | e
      · exact absurd h1 (h2' n e)
      · subst e; exact ⟨rfl, rfl⟩
      · exact absurd h1' (h2 n' e)
    · exact absurd h1 (h1' n)
  · rcases h' with ⟨rfl, n', rfl, h1', h2'⟩ | ⟨rfl, rfl, h1'⟩
    · exact absurd h1' (h1 n')
    · exact ⟨rfl, rfl⟩

theorem SeS.unique {U : Nat → Prop} {t t' : Int} {b b' : Bool} (h : SeS U t b) (h' : SeS U t' b') : t = t' ∧ b = b' := by
  rcases h with ⟨rfl, n, rfl, h1, h2⟩ | ⟨rfl, rfl, h1⟩
  · rcases h' with ⟨rfl, n', rfl, h1', h2'⟩ | ⟨rfl, rfl, h1'⟩
    · rcases Nat.lt_trichotomy n n' with e | e | e
      · obtain ⟨k, rfl⟩ : ∃ k, n' = k + 1 := ⟨n' - 1, by omega⟩
        exact absurd (h2' k rfl) (h1 k (by omega))
      · subst e; exact ⟨rfl, rfl⟩
      · obtain ⟨k, rfl⟩ : ∃ k, n = k + 1 := ⟨n - 1, by omega⟩
        exact absurd (h2 k rfl) (h1' k (by omega))
    · obtain ⟨m, hm, hu⟩ := h1' n
      exact absurd hu (h1 m hm)
  · rcases h' with ⟨rfl, n', rfl, h1', h2'⟩ | ⟨rfl, rfl, h1'⟩
    · obtain ⟨m, hm, hu⟩ := h1 n'
      exact absurd hu (h1' m hm)
    · exact ⟨rfl, rfl⟩

theorem Cv.Fin.not_infAt {f : Cv} (h : f.Fin) (n : Nat) : ¬ f.infAt n := fun h' => h.2 h'.1

theorem Cv.Ok.fin_or {f : Cv} (h : f.Ok) : f.Fin ∨ nth f.vals (f.vals.length - 1) = inf := by
  by_cases e : nth f.vals (f.vals.length - 1) = inf
  · exact .inr e
  · exact .inl ⟨h, e⟩

theorem Cv.Ok.at_bd {f : Cv} (h : f.Ok) {n : Nat} (hn : n ≤ 4000000000) : 0 ≤ f.at n ∧ f.at n ≤ inf ∧ (f.at n = inf → f.infAt n) := by
  rcases h.fin_or with hf | hf
  · have := hf.at_bd n
    unfold inf
    refine ⟨this.1, by omega, fun e => by omega⟩
  · by_cases hlt : n < f.vals.length
    · rw [Cv.at_lt hlt]
      have h1 := h.nn n
      unfold inf
      refine ⟨h1.1, h1.2, fun e => ⟨hf, by rw [Cv.at_lt hlt]; exact e⟩⟩
    · have := h.at_inf hf (t := n) (by omega)
      rw [this]
      unfold inf
      exact ⟨by omega, by omega, fun _ => ⟨hf, this⟩⟩

theorem up_iff {f g : Cv} (hf : f.Ok) (hg : g.Ok) {n : Nat} (hn : n ≤ 4000000000) : Up f g n ↔ g.at n < f.at n := by
  obtain ⟨a1, a2, a3⟩ := hf.at_bd hn
  obtain ⟨b1, b2, b3⟩ := hg.at_bd hn
  constructor
  · rintro ⟨h1, h2⟩
    rcases h2 with h2 | h2
    · have : g.at n ≠ inf := fun e => h1 (b3 e)
      rw [h2.2]; omega
    · exact h2
  · intro h
    exact ⟨fun e => by rw [e.2] at h; omega, .inr h⟩

theorem Cv.infAt.later {f : Cv} (h : f.Ok) {n m : Nat} (hi : f.infAt n) (hnm : n ≤ m) : f.infAt m := by
  by_cases hlt : n < f.vals.length
  · exact ⟨hi.1, h.inf_from hlt hnm hi.2⟩
  · exact ⟨hi.1, h.at_inf hi.1 (by omega)⟩

theorem Cv.Ok.infAt_start {f : Cv} (h : f.Ok) (hi : nth f.vals (f.vals.length - 1) = inf) {n : Nat} (hn : f.vals.length - f.per.toNat ≤ n) : f.infAt n := by
  have hp := (h.last hi).1
  refine ⟨hi, h.at_inf hi ?_⟩
  rw [hp] at hn
  have : (1 : Int).toNat = 1 := rfl
  omega

def dif (f g : Cv) (n : Nat) : Int := f.at n - g.at n

theorem Per.dif {f g : Cv} {s s' p q c a b : Nat} {x y : Int} (hf : Per f.at s p x) (hg : Per g.at s' q y) (ha : c = a * p) (hb : c = b * q) (F : Nat) (h1 : s ≤ F) (h2 : s' ≤ F) : Per (dif f g) F c (a * x - b * y) := by
  intro t ht
  have e1 := (hf.mono h1).mul a t ht
  have e2 := (hg.mono h2).mul b t ht
  rw [← ha] at e1
  rw [← hb] at e2
  show f.at (t + c) - g.at (t + c) = f.at t - g.at t + _
  rw [e1, e2]; omega

theorem Per.times {h : Nat → Int} {s p : Nat} {a : Int} (k : Per h s p a) (m t : Nat) (ht : s ≤ t) : h (t + m * p) = h t + m * a := k.mul m t ht

def ExI (d : Nat → Int) (s c k : Nat) (found : Bool) (L : Int) : Prop :=
  (found = false ∧ L = 0 ∧ ∀ r, r < k → ∀ m : Nat, d (s + r + m * c) ≤ 0) ∨ (found = true ∧ ∃ n : Nat, L = n ∧ 0 < d n ∧ ∀ r, r < k → ∀ m : Nat, s + r + m * c < n → d (s + r + m * c) ≤ 0)

theorem res_of {s c n : Nat} (hc : 1 ≤ c) (hn : s ≤ n) : ∃ r m, r < c ∧ n = s + r + m * c :=
  ⟨(n - s) % c, (n - s) / c, Nat.mod_lt _ (by omega), by have := Nat.mod_add_div (n - s) c; rw [Nat.mul_comm]; omega⟩

theorem ExI.done {d : Nat → Int} {s c : Nat} {found : Bool} {L : Int} (hc : 1 ≤ c) (h : ExI d s c c found L) (h0 : ∀ n, n < s → d n ≤ 0) : ExS (fun n => 0 < d n) L found := by
  rcases h with ⟨rfl, rfl, h⟩ | ⟨rfl, n, rfl, h1, h2⟩
  · refine .inr ⟨rfl, rfl, fun n => ?_⟩
    by_cases hn : n < s
    · have := h0 n hn; simp only; omega
    · obtain ⟨r, m, hr, rfl⟩ := res_of hc (show s ≤ n by omega)
      have := h r hr m; simp only; omega
  · refine .inl ⟨rfl, n, rfl, h1, fun k hk => ?_⟩
    by_cases hn : k < s
    · have := h0 k hn; simp only; omega
    · obtain ⟨r, m, hr, rfl⟩ := res_of hc (show s ≤ k by omega)
      have := h2 r hr m hk; simp only; omega

theorem ExI.skip {d : Nat → Int} {s c k : Nat} {found : Bool} {L D : Int} (h : ExI d s c k found L) (hP : Per d s c D) (hd : d (s + k) ≤ 0) (hD : D ≤ 0) : ExI d s c (k + 1) found L := by
  have hk : ∀ m : Nat, d (s + k + m * c) ≤ 0 := fun m => by
    rw [hP.times m (s + k) (by omega)]
    have : (m : Int) * D ≤ 0 := by have := Int.mul_le_mul_of_nonneg_left (c := (m : Int)) hD (by omega); simpa using this
    omega
  rcases h with ⟨rfl, rfl, h⟩ | ⟨rfl, n, rfl, h1, h2⟩
  · refine .inl ⟨rfl, rfl, fun r hr m => ?_⟩
    by_cases e : r = k
    · subst e; exact hk m
    · exact h r (by omega) m
  · refine .inr ⟨rfl, n, rfl, h1, fun r hr m hm => ?_⟩
    by_cases e : r = k
    · subst e; exact hk m
    · exact h2 r (by omega) m hm

structure SeI (d : Nat → Int) (s c k : Nat) (L : Int) : Prop where
  lo : -1 ≤ L
  hit : 0 ≤ L → 0 < d L.toNat
  low : ∀ n : Nat, n ≤ s → 0 < d n → (n : Int) ≤ L
  res : ∀ r, r < k → ∀ m : Nat, 0 < d (s + r + m * c) → ((s + r + m * c : Nat) : Int) ≤ L

theorem SeI.done {d : Nat → Int} {s c : Nat} {L : Int} (hc : 1 ≤ c) (h : SeI d s c c L) : SeS (fun n => 0 < d n) (L + 1) true := by
  have hlo := h.lo
  refine .inl ⟨rfl, (L + 1).toNat, by omega, fun n hn hu => ?_, fun k hk => ?_⟩
  · by_cases e : n ≤ s
    · have := h.low n e hu; omega
    · obtain ⟨r, m, hr, rfl⟩ := res_of hc (show s ≤ n by omega)
      have := h.res r hr m hu; omega
  · have h0 : 0 ≤ L := by omega
    have := h.hit h0
    rwa [show L.toNat = k by omega] at this

theorem SeI.skip {d : Nat → Int} {s c k : Nat} {L D : Int} (h : SeI d s c k L) (hP : Per d s c D) (hD : D ≤ 0) (hd : d (s + k) ≤ 0) : SeI d s c (k + 1) L :=
  ⟨h.lo, h.hit, h.low, fun r hr m hm => by
    by_cases e : r = k
    · subst e
      rw [hP.times m (s + r) (by omega)] at hm
      have : (m : Int) * D ≤ 0 := by have := Int.mul_le_mul_of_nonneg_left (c := (m : Int)) hD (by omega); simpa using this
      omega
    · exact h.res r (by omega) m hm⟩

theorem SeS.congr {U V : Nat → Prop} {t : Int} {ok : Bool} (h : SeS U t ok) (e : ∀ n, U n ↔ V n) : SeS V t ok := by
  have : U = V := funext fun n => propext (e n)
  rw [← this]; exact h
theorem ExS.congr {U V : Nat → Prop} {t : Int} {ok : Bool} (h : ExS U t ok) (e : ∀ n, U n ↔ V n) : ExS V t ok := by
  have : U = V := funext fun n => propext (e n)
  rw [← this]; exact h

def Ne2 (f g : Cv) (n : Nat) : Prop := Up f g n ∨ Up g f n

end Go.Proofs.YtaejfleahamapaaGreat
namespace Go.Proofs.YtaejfleahamapaaGreat
set_option linter.unusedVariables false

def comm (p q : Nat) : Nat := p / Nat.gcd p q * q
theorem comm_facts {p q : Nat} (hp : 1 ≤ p) (hq : 1 ≤ q) : comm p q = comm p q / p * p ∧ comm p q = comm p q / q * q ∧ 1 ≤ comm p q ∧ comm p q ≤ p * q ∧ comm p q / p ≤ q ∧ comm p q / q ≤ p := by
  obtain ⟨a, ha⟩ := Nat.gcd_dvd_left p q
  obtain ⟨b, hb⟩ := Nat.gcd_dvd_right p q
  have hg : 0 < Nat.gcd p q := Nat.gcd_pos_of_pos_left _ hp
  have e1 : p / Nat.gcd p q = a := by
    rw (config := { occs := .pos [1] }) [ha]; exact Nat.mul_div_cancel_left _ hg
  have hc : comm p q = a * q := by unfold comm; rw [e1]
  have hc2 : comm p q = b * p := by
    have h1 : a * q = a * (Nat.gcd p q * b) := congrArg (a * ·) hb
    have h2 : b * p = b * (Nat.gcd p q * a) := congrArg (b * ·) ha
    rw [hc, h1, h2]
    ac_rfl
  have d1 : comm p q / p = b := by rw [hc2]; exact Nat.mul_div_cancel _ hp
  have d2 : comm p q / q = a := by rw [hc]; exact Nat.mul_div_cancel _ hq
  have hap : a ≤ p := by rw [← e1]; exact Nat.div_le_self _ _
  have hbq : b ≤ q := by
    have : q / Nat.gcd p q = b := by
      rw (config := { occs := .pos [1] }) [hb]; exact Nat.mul_div_cancel_left _ hg
    rw [← this]; exact Nat.div_le_self _ _
  have ha1 : 1 ≤ a := by
    rcases Nat.eq_zero_or_pos a with e | e
    · rw [e] at ha; omega
    · exact e
  refine ⟨by rw [d1]; exact hc2, by rw [d2]; exact hc, by rw [hc]; exact Nat.mul_pos ha1 hq, by rw [hc]; exact Nat.mul_le_mul_right q hap, by rw [d1]; exact hbq, by rw [d2]; exact hap⟩

def ordF (f g : Cv) : Nat := max (f.vals.length - f.per.toNat) (g.vals.length - g.per.toNat)
def ordC (f g : Cv) : Nat := comm f.per.toNat g.per.toNat
def ordD (f g : Cv) : Int := (ordC f g / f.per.toNat : Nat) * f.inc - (ordC f g / g.per.toNat : Nat) * g.inc

structure OrdB (f g : Cv) : Prop where
  f0 : ordF f g ≤ 400
  fs : f.vals.length - f.per.toNat ≤ ordF f g
  gs : g.vals.length - g.per.toNat ≤ ordF f g
  c1 : 1 ≤ ordC f g
  c2 : ordC f g ≤ 14400
  d1 : ordD f g ≤ 128849018880
  d2 : -128849018880 ≤ ordD f g
  a1 : 0 ≤ ((ordC f g / f.per.toNat : Nat) : Int) * f.inc ∧ ((ordC f g / f.per.toNat : Nat) : Int) * f.inc ≤ 128849018880
  a2 : 0 ≤ ((ordC f g / g.per.toNat : Nat) : Int) * g.inc ∧ ((ordC f g / g.per.toNat : Nat) : Int) * g.inc ≤ 128849018880
  b1 : ordC f g / f.per.toNat ≤ 120
  b2 : ordC f g / g.per.toNat ≤ 120

theorem ord_b {f g : Cv} (hf : f.Ok) (hg : g.Ok) : OrdB f g := by
  have hn := hf.n2; have hm := hg.n2
  have hp1 := hf.p1; have hp2 := hf.p2; have hi1 := hf.i1; have hi2 := hf.i2
  have hq1 := hg.p1; have hq2 := hg.p2; have hj1 := hg.i1; have hj2 := hg.i2
  obtain ⟨e1, e2, e3, e4, e5, e6⟩ := comm_facts (p := f.per.toNat) (q := g.per.toNat) (by omega) (by omega)
  have hpq : f.per.toNat * g.per.toNat ≤ 120 * 120 := Nat.mul_le_mul (by omega) (by omega)
  have a1 : ((ordC f g / f.per.toNat : Nat) : Int) * f.inc ≤ 120 * 1073741824 := Int.mul_le_mul (by show ((comm _ _ / _ : Nat) : Int) ≤ _; omega) hi2 hi1 (by omega)
  have a2 : ((ordC f g / g.per.toNat : Nat) : Int) * g.inc ≤ 120 * 1073741824 := Int.mul_le_mul (by show ((comm _ _ / _ : Nat) : Int) ≤ _; omega) hj2 hj1 (by omega)
  have a3 : 0 ≤ ((ordC f g / f.per.toNat : Nat) : Int) * f.inc := Int.mul_nonneg (Int.natCast_nonneg _) hi1
  have a4 : 0 ≤ ((ordC f g / g.per.toNat : Nat) : Int) * g.inc := Int.mul_nonneg (Int.natCast_nonneg _) hj1
  refine ⟨by unfold ordF; omega, by unfold ordF; omega, by unfold ordF; omega, e3, by unfold ordC; omega, by unfold ordD; omega, by unfold ordD; omega, ⟨a3, by omega⟩, ⟨a4, by omega⟩, by show comm _ _ / _ ≤ _; omega, by show comm _ _ / _ ≤ _; omega⟩

theorem ord_per {f g : Cv} (hf : f.Fin) (hg : g.Fin) : Per (dif f g) (ordF f g) (ordC f g) (ordD f g) := by
  have B := ord_b hf.1 hg.1
  obtain ⟨e1, e2, e3, e4, e5, e6⟩ := comm_facts (p := f.per.toNat) (q := g.per.toNat) (by have := hf.1.p1; omega) (by have := hg.1.p1; omega)
  exact Per.dif hf.toL.step hg.toL.step e1 e2 _ B.fs B.gs

def OrdS (S : Prop) (f g : Cv) (t : Int) (ok : Bool) (er : Int) : Prop := (f.Ok ∧ g.Ok ∧ er = 0 ∧ S) ∨ (¬ (f.Ok ∧ g.Ok) ∧ er = 1 ∧ t = 0 ∧ ok = false)

structure SeL (f g : Cv) (k : Nat) (L : Int) : Prop where
  lo : -1 ≤ L
  hi : L < k
  hit : 0 ≤ L → g.at L.toNat < f.at L.toNat
  low : ∀ n : Nat, n < k → g.at n < f.at n → (n : Int) ≤ L

theorem SeL.zero (f g : Cv) : SeL f g 0 (-1) := ⟨by omega, by omega, fun h => by omega, fun n hn => by omega⟩
theorem SeL.yes {f g : Cv} {k : Nat} {L : Int} (h : SeL f g k L) (hu : g.at k < f.at k) : SeL f g (k + 1) k :=
  ⟨by omega, by omega, fun _ => by rw [Int.toNat_natCast]; exact hu, fun n hn hu => by omega⟩
theorem SeL.no {f g : Cv} {k : Nat} {L : Int} (h : SeL f g k L) (hu : ¬ g.at k < f.at k) : SeL f g (k + 1) L :=
  ⟨h.lo, by have := h.hi; omega, h.hit, fun n hn hn2 => by
    by_cases e : n = k
    · subst e; exact absurd hn2 hu
    · exact h.low n (by omega) hn2⟩

theorem ne2_iff {f g : Cv} (hf : f.Ok) (hg : g.Ok) {n : Nat} (hn : n ≤ 4000000000) : Ne2 f g n ↔ f.at n ≠ g.at n := by
  unfold Ne2
  rw [up_iff hf hg hn, up_iff hg hf hn]; omega
def AlikeFrom (f g : Cv) (t : Nat) : Prop := ∀ n, t ≤ n → ¬ Ne2 f g n

theorem AlikeFrom.done {f g : Cv} (hf : f.Ok) (hg : g.Ok) {t : Nat} (ht : t ≤ 1000) (h : AlikeFrom f g t) (e : ∀ k, t = k + 1 → f.at k ≠ g.at k) : SeS (Ne2 f g) t true :=
  .inl ⟨rfl, t, rfl, h, fun k hk => (ne2_iff hf hg (by omega)).2 (e k hk)⟩
end Go.Proofs.YtaejfleahamapaaGreat

namespace Go.Proofs.YtaejfleahamapaaGreat
set_option linter.unusedVariables false

def NormR (f g : Cv) (er : Int) : Prop := (f.Ok ∧ NF f.at g ∧ g.Ok ∧ er = 0) ∨ (¬ f.Ok ∧ g = Cv.none ∧ er = 1)
theorem NormR.unique {f g g' : Cv} {er er' : Int} (h : NormR f g er) (k : NormR f g' er') : g = g' ∧ er = er' := by
  rcases h with ⟨h1, h2, _, rfl⟩ | ⟨h1, rfl, rfl⟩ <;> rcases k with ⟨k1, k2, _, rfl⟩ | ⟨k1, rfl, rfl⟩
  · exact ⟨h2.unique k2, rfl⟩
  · exact absurd h1 k1
  · exact absurd k1 h1
  · exact ⟨rfl, rfl⟩
theorem NormR.of {f g : Cv} {er : Int} (h : NormalS f g er) : NormR f g er := by
  by_cases hf : f.Ok
  · obtain ⟨h1, h2, h3, _⟩ := normal_ok hf h
    exact .inl ⟨hf, h2, h3, h1⟩
  · rcases h with ⟨h, _⟩ | ⟨_, h1, h2⟩
    · exact absurd (Cv.okB_iff.1 h) hf
    · exact .inr ⟨hf, h1, h2⟩
theorem NormR.len {f g : Cv} {er : Int} (h : NormR f g er) : g.vals.length ≤ 400 := by
  rcases h with ⟨_, _, h, _⟩ | ⟨_, rfl, _⟩
  · exact h.n2
  · decide
end Go.Proofs.YtaejfleahamapaaGreat
namespace Go.Proofs.YtaejfleahamapaaGreat
set_option linter.unusedVariables false

structure Pre (f : Cv) : Prop where
  p1 : 1 ≤ f.per
  pn : f.per ≤ f.vals.length
  i0 : 0 ≤ f.inc
  i1 : f.inc ≤ 1099511627776
  n2 : f.vals.length ≤ 100000
  v : ∀ k, 0 ≤ nth f.vals k ∧ nth f.vals k ≤ 4611686018427387904
theorem Cv.Ok.pre {f : Cv} (h : f.Ok) : Pre f := ⟨h.p1, h.pn, h.i1, by have := h.i2; omega, by have := h.n2; omega, h.nn⟩

def LeastS (f g : Cv) : Prop :=
  (∃ m, m < f.vals.length ∧ nth f.vals m = inf ∧ (∀ j, j < m → nth f.vals j ≠ inf) ∧ g = ⟨tab f.at 0 (m + 1), 1, 0⟩) ∨ ((∀ j, j < f.vals.length → nth f.vals j ≠ inf) ∧ NFin f.at g)

theorem LeastS.nf {f g : Cv} (h : LeastS f g) (hinf : ∀ m t, m < f.vals.length → nth f.vals m = inf → m ≤ t → f.at t = inf) : NF f.at g := by
  rcases h with ⟨m, hm, hi, hlt, rfl⟩ | ⟨_, h⟩
  · refine .inr ⟨rfl, rfl, by rw [tab_length]; omega, fun t ht => ?_, fun t ht => ?_, fun t ht => ?_⟩
    · rw [tab_length] at ht; rw [tab_nth _ _ _ _ ht, Nat.zero_add]
    · rw [tab_length] at ht; rw [Cv.at_lt (by omega)]; exact hlt t (by omega)
    · rw [tab_length] at ht; exact hinf m t hm hi (by omega)
  · exact .inl h

theorem LeastS.ok {f g : Cv} (hf : f.Ok) (h : LeastS f g) : NF f.at g ∧ g.Ok ∧ g.vals.length ≤ f.vals.length ∧ g.per ≤ f.per := by
  have hn := h.nf (fun m t hm hi ht => hf.inf_from hm ht (by rw [Cv.at_lt hm]; exact hi))
  have hs := nf_small hf hn
  exact ⟨hn, hs.1, hs.2.1, hs.2.2.1⟩
end Go.Proofs.YtaejfleahamapaaGreat
namespace Go.Proofs.YtaejfleahamapaaGreat
set_option linter.unusedVariables false

theorem MadeS.congr {h h' : Nat → Int} {f : Cv} {er : Int} (m : MadeS h f er) (e : ∀ t, h t = h' t) : MadeS h' f er := by
  obtain rfl : h = h' := funext e
  exact m
theorem NF.congr {h h' : Nat → Int} {f : Cv} (m : NF h f) (e : ∀ t, h t = h' t) : NF h' f := by
  obtain rfl : h = h' := funext e
  exact m
theorem NF.same {f g : Cv} (m : NF f.at g) : g.at = f.at := funext m.at

structure Up0 (h : Nat → Int) : Prop where
  z : 0 ≤ h 0
  m : ∀ t, h t ≤ h (t + 1)
theorem Up0.le {h : Nat → Int} (H : Up0 h) {a b : Nat} (hab : a ≤ b) : h a ≤ h b := by
  induction b with
  | zero => rw [show a = 0 by omega]; exact Int.le_refl _
  | succ b ih =>
    by_cases e : a = b + 1
    · rw [e]; exact Int.le_refl _
    · exact Int.le_trans (ih (by omega)) (H.m b)
theorem Up0.nn {h : Nat → Int} (H : Up0 h) (t : Nat) : 0 ≤ h t := Int.le_trans H.z (H.le (Nat.zero_le t))
theorem Cv.Ok.up0 {f : Cv} (h : f.Ok) : Up0 f.at := ⟨by rw [Cv.at_lt (by have := h.n1; omega)]; exact h.z, h.at_mono⟩

theorem nf_lim_ok {h : Nat → Int} {g : Cv} (hg : NF h g) (H : Up0 h) (hl : Lim g) : g.Ok := by
  have hv : ∀ k, k < g.vals.length → nth g.vals k = h k := by
    rcases hg with hg | hg
    · exact hg.vals
    · exact hg.vals
  have hmono : ∀ k, k + 1 < g.vals.length → nth g.vals k ≤ nth g.vals (k + 1) := fun k hk => by rw [hv k (by omega), hv _ hk]; exact H.m k
  rcases hg with hg | hg
  · have hp1 := hg.p1; have hpn := hg.pn
    have hi : 0 ≤ g.inc := by
      have h1 := hg.per (g.vals.length - g.per.toNat) (Nat.le_refl _)
      have h2 := H.le (show g.vals.length - g.per.toNat ≤ g.vals.length - g.per.toNat + g.per.toNat by omega)
      omega
    refine ⟨by omega, hl.1, hp1, hl.2.2.1, hpn, hi, hl.2.2.2, hl.2.1, by rw [hv 0 (by omega)]; exact H.z, hmono, fun e => ?_, fun _ => ?_⟩
    · exact absurd (by rw [← hv _ (by omega)]; exact e) (hg.fin (g.vals.length - 1) (by omega))
    · rw [hv _ (by omega), hv _ (by omega), ← hg.per _ (Nat.le_refl _)]
      exact H.le (by omega)
  · have hn1 := hg.n1; have hp1 := hg.p1; have hi0 := hg.i0
    refine ⟨hn1, hl.1, by omega, hl.2.2.1, by omega, by omega, hl.2.2.2, hl.2.1, by rw [hv 0 (by omega)]; exact H.z, hmono, fun _ => ⟨hp1, hi0⟩, fun e => ?_⟩
    exact absurd (by rw [hv _ (by omega)]; exact hg.from_ _ (by omega)) e
theorem Cv.Ok.lim {g : Cv} (h : g.Ok) : Lim g := ⟨h.n2, h.v, h.p2, h.i2⟩
theorem MadeS.get {h : Nat → Int} {f : Cv} {er : Int} (m : MadeS h f er) (H : Up0 h) : (er = 0 ∧ f.Ok ∧ NF h f) ∨ (er = 3 ∧ f = Cv.none) := by
  obtain ⟨g, hg, ⟨hl, rfl, rfl⟩ | ⟨_, rfl, rfl⟩⟩ := m
  · exact .inl ⟨rfl, nf_lim_ok hg H hl, hg⟩
  · exact .inr ⟨rfl, rfl⟩
/-! ### From a function that is periodic to its normal form -/
theorem nf_exists {h : Nat → Int} {s p : Nat} {i : Int} (hp : 1 ≤ p) (H : Per h s p i) (hne : ∀ t, t < s + p → h t ≠ inf) : ∃ g, NFin h g ∧ g.vals.length ≤ s + p ∧ g.per ≤ p := by
  obtain ⟨r, k, b, hr, hk, hb, hR, hle⟩ := per_least hp H
  obtain ⟨s', ⟨hs1, hs2⟩, hs3⟩ := nat_least (Q := fun s' => s' ≤ s ∧ Per h s' r b) ⟨s, Nat.le_refl _, hR⟩
  have hrp : r ≤ p := by
    rw [hk]
    refine Nat.le_mul_of_pos_left _ ?_
    rcases Nat.eq_zero_or_pos k with e | e
    · rw [e, Nat.zero_mul] at hk; omega
    · exact e
  have hl : (Cv.mk (tab h 0 (s' + r)) r b).vals.length = s' + r := tab_length _ _ _
  have hpn : (Cv.mk (tab h 0 (s' + r)) r b).per.toNat = r := Int.toNat_natCast r
  refine ⟨⟨tab h 0 (s' + r), r, b⟩, ⟨by show (1 : Int) ≤ r; omega, by rw [hl]; show (r : Int) ≤ _; omega, ?_, ?_, ?_, ?_, fun t ht => hne t (by rw [hl] at ht; omega)⟩, by rw [hl]; omega, by show (r : Int) ≤ p; omega⟩
  · intro t ht
    rw [hl] at ht
    show nth (tab h 0 (s' + r)) t = _
    rw [tab_nth _ _ _ _ ht, Nat.zero_add]
  · rw [hl, hpn, Nat.add_sub_cancel]; exact hs2
  · rw [hpn]; exact fun q s'' b h1 h2 => hle q s'' b h1 h2
  · rw [hl, hpn, Nat.add_sub_cancel]
    by_cases e0 : s' = 0
    · left; omega
    · right
      intro e
      apply hs3 (s' - 1) (by omega)
      refine ⟨by omega, fun t ht => ?_⟩
      by_cases et : t = s' - 1
      · rw [et]
        show h (s' - 1 + r) = h (s' - 1) + b
        have e' : h (s' - 1) + b = h (s' + r - 1) := e
        rw [e', show s' - 1 + r = s' + r - 1 by omega]
      · exact hs2 t (by omega)

/-! ### Operations on two curves -/
open Classical in
noncomputable def sumV (a b : Cv) (t : Nat) : Int := if a.infAt t ∨ b.infAt t then inf else a.at t + b.at t
def pl (a b : Int) : Int := if a = inf ∨ b = inf then inf else a + b
theorem sumV_pl {a b : Cv} (ha : a.Ok) (hb : b.Ok) {t : Nat} (ht : t ≤ 4000000000) : sumV a b t = pl (a.at t) (b.at t) := by
  unfold sumV pl
  have h1 := ha.at_bd ht; have h2 := hb.at_bd ht
  have e1 : a.infAt t ↔ a.at t = inf := ⟨fun h => h.2, h1.2.2⟩
  have e2 : b.infAt t ↔ b.at t = inf := ⟨fun h => h.2, h2.2.2⟩
  simp only [e1, e2]

def PairS (S : Cv → Cv → Cv → Int → Prop) (f g r : Cv) (er : Int) : Prop :=
  (¬ (f.Ok ∧ g.Ok) ∧ r = Cv.none ∧ er = 1) ∨
  (f.Ok ∧ g.Ok ∧ ∃ a b, NF f.at a ∧ NF g.at b ∧ ((120 < comm a.per.toNat b.per.toNat ∧ r = Cv.none ∧ er = 3) ∨ (comm a.per.toNat b.per.toNat ≤ 120 ∧ S a b r er)))
theorem PairS.unique {S : Cv → Cv → Cv → Int → Prop} (hS : ∀ {a b r r' : Cv} {e e' : Int}, S a b r e → S a b r' e' → r = r' ∧ e = e') {f g r r' : Cv} {e e' : Int} (h : PairS S f g r e) (k : PairS S f g r' e') : r = r' ∧ e = e' := by
  rcases h with ⟨h0, rfl, rfl⟩ | ⟨hf, hg, a, b, ha, hb, h⟩ <;> rcases k with ⟨k0, rfl, rfl⟩ | ⟨kf, kg, a', b', ka, kb, k⟩
  · exact ⟨rfl, rfl⟩
  · exact absurd ⟨kf, kg⟩ h0
  · exact absurd ⟨hf, hg⟩ k0
  · obtain rfl := ha.unique ka
    obtain rfl := hb.unique kb
    rcases h with ⟨h1, rfl, rfl⟩ | ⟨h1, h⟩ <;> rcases k with ⟨k1, rfl, rfl⟩ | ⟨k1, k⟩
    · exact ⟨rfl, rfl⟩
    · omega
    · omega
    · exact hS h k

def SumS : Cv → Cv → Cv → Int → Prop := PairS fun a b r er => MadeS (sumV a b) r er
theorem SumS.unique {f g r r' : Cv} {e e' : Int} (h : SumS f g r e) (k : SumS f g r' e') : r = r' ∧ e = e' := PairS.unique (S := fun a b r er => MadeS (sumV a b) r er) (fun h k => MadeS.unique h k) h k

theorem NF.inf_iff {f a : Cv} (hf : f.Ok) (h : NF f.at a) (t : Nat) : a.infAt t ↔ f.infAt t := by
  have h1 := nf_small hf h
  unfold Cv.infAt
  rw [h.at t, h1.2.2.2.2]
theorem ite_iff {p q : Prop} (ip : Decidable p) (iq : Decidable q) (h : p ↔ q) {x y : Int} : (if p then x else y) = if q then x else y := by
  by_cases hq : q
  · rw [if_pos hq, if_pos (h.2 hq)]
  · rw [if_neg hq, if_neg (fun k => hq (h.1 k))]
theorem sumV_nf {f g a b : Cv} (hf : f.Ok) (hg : g.Ok) (ha : NF f.at a) (hb : NF g.at b) : sumV a b = sumV f g := by
  funext t
  unfold sumV
  rw [ha.at, hb.at]
  exact ite_iff _ _ (or_congr (ha.inf_iff hf t) (hb.inf_iff hg t))
theorem Cv.Ok.last_fin {a : Cv} (ha : a.Ok) {t : Nat} (h0 : ¬ a.infAt t) (h1 : a.infAt (t + 1)) : t < 400 := by
  have hn := ha.n2
  rcases Nat.lt_or_ge t 400 with h | h
  · exact h
  · exact absurd ⟨h1.1, ha.at_inf h1.1 (by omega)⟩ h0
theorem Cv.Ok.fin_bd {a : Cv} (ha : a.Ok) {t : Nat} (h0 : ¬ a.infAt t) (ht : t < 400) : 0 ≤ a.at t ∧ a.at t ≤ 430570471424 := by
  refine ⟨ha.up0.nn t, ?_⟩
  rcases ha.fin_or with h | h
  · have := (h.at_bd t).2
    have h2 : (t : Int) * 1073741824 ≤ 400 * 1073741824 := Int.mul_le_mul_of_nonneg_right (by omega) (by omega)
    omega
  · have hlt : t < a.vals.length := by
      rcases Nat.lt_or_ge t a.vals.length with h' | h'
      · exact h'
      · exact absurd ⟨h, ha.at_inf h (by omega)⟩ h0
    have h2 := (okv_iff _).1 (ha.v t hlt)
    rw [Cv.at_lt hlt]
    rcases h2 with h2 | h2
    · exact absurd ⟨h, by rw [Cv.at_lt hlt]; exact h2⟩ h0
    · omega
theorem sumV_up {a b : Cv} (ha : a.Ok) (hb : b.Ok) : Up0 (sumV a b) := by
  refine ⟨?_, fun t => ?_⟩
  · unfold sumV
    split
    · unfold inf; omega
    · have h1 := ha.up0.z; have h2 := hb.up0.z; omega
  · unfold sumV
    by_cases h2 : a.infAt (t + 1) ∨ b.infAt (t + 1)
    · rw [if_pos h2]
      split
      · exact Int.le_refl _
      · rename_i h1
        have h0 : ¬ a.infAt t ∧ ¬ b.infAt t := not_or.1 h1
        have ht : t < 400 := by
          rcases h2 with h2 | h2
          · exact ha.last_fin h0.1 h2
          · exact hb.last_fin h0.2 h2
        have := ha.fin_bd h0.1 ht; have := hb.fin_bd h0.2 ht
        unfold inf; omega
    · have h1 : ¬ (a.infAt t ∨ b.infAt t) := fun h => h2 (h.imp (fun h => h.later ha (by omega)) (fun h => h.later hb (by omega)))
      rw [if_neg h1, if_neg h2]
      have := ha.at_mono t; have := hb.at_mono t
      omega

/-! ### Values that are laid out in a list -/
theorem LeastS.len {f g : Cv} (hp : Pre f) (h : LeastS f g) : g.vals.length ≤ f.vals.length := by
  rcases h with ⟨m, hm, _, _, rfl⟩ | ⟨hne, h⟩
  · rw [tab_length]; omega
  · have hF : f.FinL := ⟨hp.p1, hp.pn, hne⟩
    have hp1 := hp.p1; have hpn := hp.pn
    obtain ⟨g', hg', hl, _⟩ := nf_exists (h := f.at) (s := f.vals.length - f.per.toNat) (p := f.per.toNat) (by omega) hF.step (fun t ht => by rw [Cv.at_lt (by omega)]; exact hne t (by omega))
    obtain rfl := NF.unique (.inl h) (.inl hg')
    omega
theorem LeastS.small {f g : Cv} (hp : Pre f) (h : LeastS f g) : g.per ≤ 100000 := by
  have h1 := h.len hp
  have h2 := hp.n2
  rcases h with ⟨m, hm, _, _, rfl⟩ | ⟨hne, h⟩
  · show (1 : Int) ≤ 100000; omega
  · have := h.pn; omega

/-! ### The sum of two curves -/
theorem Cv.Fin.add_ne {a b : Cv} (ha : a.Fin) (hb : b.Fin) {t : Nat} (ht : t ≤ 1000000) : a.at t + b.at t ≠ inf := by
  have h1 := ha.at_bd t; have h2 := hb.at_bd t
  have h3 : (t : Int) * 1073741824 ≤ 1000000 * 1073741824 := Int.mul_le_mul_of_nonneg_right (by omega) (by omega)
  unfold inf; omega
theorem sumV_fin {a b : Cv} (ha : a.Fin) (hb : b.Fin) (t : Nat) : sumV a b t = a.at t + b.at t := by
  unfold sumV
  rw [if_neg (by rintro (h | h); exact ha.not_infAt t h; exact hb.not_infAt t h)]
theorem sumV_inf {a b : Cv} {t : Nat} (h : a.infAt t ∨ b.infAt t) : sumV a b t = inf := by unfold sumV; rw [if_pos h]
theorem sumV_small {a b : Cv} (ha : a.Ok) (hb : b.Ok) {t : Nat} (ht : t ≤ 1000000) : 0 ≤ sumV a b t ∧ sumV a b t ≤ 4611686018427387904 := by
  by_cases h : a.infAt t ∨ b.infAt t
  · rw [sumV_inf h]; unfold inf; omega
  · rw [not_or] at h
    unfold sumV
    rw [if_neg (by rintro (h' | h'); exact h.1 h'; exact h.2 h')]
    have key : ∀ {c : Cv}, c.Ok → ¬ c.infAt t → 0 ≤ c.at t ∧ c.at t ≤ 1073741824 + 1000000 * 1073741824 := by
      intro c hc h0
      rcases hc.fin_or with h' | h'
      · have h1 := h'.at_bd t
        have h2 : (t : Int) * 1073741824 ≤ 1000000 * 1073741824 := Int.mul_le_mul_of_nonneg_right (by omega) (by omega)
        omega
      · have hlt : t < 400 := by
          rcases Nat.lt_or_ge t 400 with hh | hh
          · exact hh
          · exact absurd ⟨h', hc.at_inf h' (by have := hc.n2; omega)⟩ h0
        have := hc.fin_bd h0 hlt
        omega
    have h1 := key ha h.1; have h2 := key hb h.2
    omega
theorem sumV_later {a b : Cv} (ha : a.Ok) (hb : b.Ok) {m t : Nat} (hm : m ≤ 1000000) (h : sumV a b m = inf) (hmt : m ≤ t) : (a.infAt t ∨ b.infAt t) := by
  have h0 : a.infAt m ∨ b.infAt m := by
    by_cases hx : a.infAt m ∨ b.infAt m
    · exact hx
    · exfalso
      have h1 := sumV_small ha hb hm
      rw [not_or] at hx
      rw [sumV_pl ha hb (by omega)] at h
      unfold pl at h
      have e1 : a.at m ≠ inf := fun e => hx.1 ((ha.at_bd (by omega)).2.2 e)
      have e2 : b.at m ≠ inf := fun e => hx.2 ((hb.at_bd (by omega)).2.2 e)
      rw [if_neg (by rintro (e | e); exact e1 e; exact e2 e)] at h
      have key : ∀ {c : Cv}, c.Ok → ¬ c.infAt m → 0 ≤ c.at m ∧ c.at m ≤ 1073741824 + 1000000 * 1073741824 := by
        intro c hc h0
        rcases hc.fin_or with h' | h'
        · have h1 := h'.at_bd m
          have h2 : (m : Int) * 1073741824 ≤ 1000000 * 1073741824 := Int.mul_le_mul_of_nonneg_right (by omega) (by omega)
          omega
        · have hlt : m < 400 := by
            rcases Nat.lt_or_ge m 400 with hh | hh
            · exact hh
            · exact absurd ⟨h', hc.at_inf h' (by have := hc.n2; omega)⟩ h0
          have := hc.fin_bd h0 hlt
          omega
      have h3 := key ha hx.1; have h4 := key hb hx.2
      unfold inf at h
      omega
  exact h0.imp (fun h => h.later ha hmt) (fun h => h.later hb hmt)
theorem sum_per {a b : Cv} (ha : a.Ok) (hb : b.Ok) {s c : Nat} (h1 : a.vals.length - a.per.toNat ≤ s) (h2 : b.vals.length - b.per.toNat ≤ s) (hc : c = comm a.per.toNat b.per.toNat) (hne : ∀ j, j < s + c → sumV a b j ≠ inf) :
    a.Fin ∧ b.Fin ∧ Per (sumV a b) s c ((c / a.per.toNat : Nat) * a.inc + (c / b.per.toNat : Nat) * b.inc) := by
  have hp := ha.p1; have hq := hb.p1
  have hk := comm_facts (p := a.per.toNat) (q := b.per.toNat) (by omega) (by omega)
  rw [← hc] at hk
  have key : ∀ {d : Cv}, d.Ok → d.vals.length - d.per.toNat ≤ s → ¬ d.infAt s → d.Fin := by
    intro d hd h h0
    rcases hd.fin_or with h' | h'
    · exact h'
    · exact absurd (hd.infAt_start h' h) h0
  have hs : ¬ (a.infAt s ∨ b.infAt s) := fun h => hne s (by omega) (sumV_inf h)
  rw [not_or] at hs
  have fa := key ha h1 hs.1
  have fb := key hb h2 hs.2
  refine ⟨fa, fb, fun t ht => ?_⟩
  rw [sumV_fin fa fb, sumV_fin fa fb]
  have e1 := fa.toL.step.mul (c / a.per.toNat) t (by omega)
  have e2 := fb.toL.step.mul (c / b.per.toNat) t (by omega)
  rw [← hk.1] at e1
  rw [← hk.2.1] at e2
  omega
def cst (f : Cv) : Nat := f.vals.length - f.per.toNat
def gnl (h : Cv) (l : Nat) : Int := ((l / h.per.toNat : Nat) : Int) * h.inc
section
variable {a : Cv}
theorem cst_le (ha : a.Ok) : cst a ≤ 400 := by have := ha.n2; unfold cst; omega
theorem notfin_inf (ha : a.Ok) (h : ¬ a.Fin) : nth a.vals (a.vals.length - 1) = inf := ha.fin_or.resolve_left h
theorem nfa_at (ha : a.Ok) {t : Nat} (ht : t ≤ 4000000000) : a.at t = inf ↔ a.infAt t := ⟨(ha.at_bd ht).2.2, fun h => h.2⟩
theorem fin_at_ne (fa : a.Fin) {t : Nat} (ht : t ≤ 4000000000) : a.at t ≠ inf := fun e => fa.not_infAt t ((nfa_at fa.1 ht).1 e)
end
end Go.Proofs.YtaejfleahamapaaGreat

namespace Go.Proofs.YtaejfleahamapaaGreat
set_option linter.unusedVariables false

/-! ### Reaching a value -/
def Geq (f : Cv) (v : Int) (n : Nat) : Prop := f.infAt n ∨ (v ≠ inf ∧ v ≤ f.at n)
theorem Geq.mono {f : Cv} (hf : f.Ok) {v : Int} {n m : Nat} (h : Geq f v n) (hnm : n ≤ m) : Geq f v m := by
  rcases h with h | ⟨h1, h2⟩
  · exact .inl (h.later hf hnm)
  · exact .inr ⟨h1, Int.le_trans h2 (hf.at_le hnm)⟩
def NoGeq (f : Cv) (v : Int) (k : Nat) : Prop := ∀ n, n < k → ¬ Geq f v n
theorem NoGeq.zero (f : Cv) (v : Int) : NoGeq f v 0 := fun n h => by omega
theorem NoGeq.succ {f : Cv} {v : Int} {k : Nat} (h : NoGeq f v k) (h1 : ¬ Geq f v k) : NoGeq f v (k + 1) := fun n hn => by
  by_cases e : n = k
  · rw [e]; exact h1
  · exact h n (by omega)
theorem geq_listed {f : Cv} (hf : f.Ok) {v : Int} (hv : v ≤ 4611686018427387904) {k : Nat} (hk : k < f.vals.length) : Geq f v k ↔ v ≤ nth f.vals k := by
  have h0 := (okv_iff _).1 (hf.v k hk)
  have h1 := hf.at_bd (n := k) (by have := hf.n2; omega)
  rw [Cv.at_lt hk] at h1
  unfold Geq
  rw [Cv.at_lt hk]
  constructor
  · rintro (h | h)
    · have := h.2; rw [Cv.at_lt hk] at this; rw [this]; exact hv
    · exact h.2
  · intro h
    by_cases e : nth f.vals k = inf
    · exact .inl (h1.2.2 e)
    · rcases h0 with h0 | h0
      · exact absurd h0 e
      · exact .inr ⟨by unfold inf; omega, h⟩
theorem noGeq_fin {f : Cv} (hf : f.Ok) {v : Int} (h : NoGeq f v f.vals.length) : f.Fin := by
  refine ⟨hf, fun e => h (f.vals.length - 1) (by have := hf.n1; omega) (.inl ⟨e, hf.at_inf e (by omega)⟩)⟩
theorem reach_inf {f : Cv} (hf : f.Ok) (h : NoGeq f inf f.vals.length) : ExS (Geq f inf) 0 false := by
  have hF := noGeq_fin hf h
  exact .inr ⟨rfl, rfl, fun n hn => by
    rcases hn with hn | hn
    · exact hF.not_infAt n hn
    · exact hn.1 rfl⟩
theorem reach_flat {f : Cv} (hf : f.Ok) {v : Int} (h : NoGeq f v f.vals.length) (hi : f.inc = 0) : ExS (Geq f v) 0 false := by
  have hF := noGeq_fin hf h
  have hp1 := hf.p1; have hpn := hf.pn
  refine .inr ⟨rfl, rfl, fun n => ?_⟩
  induction n using Nat.strongRecOn with
  | _ n ih =>
    by_cases hn : n < f.vals.length
    · exact h n hn
    · obtain ⟨u, rfl⟩ : ∃ u, n = u + f.per.toNat := ⟨n - f.per.toNat, by omega⟩
      have h1 := ih u (by omega)
      rintro (h2 | ⟨h2, h3⟩)
      · exact hF.not_infAt _ h2
      · rw [hF.toL.step u (by omega), hi] at h3
        exact h1 (.inr ⟨h2, by omega⟩)
theorem reach_yes {f : Cv} {v : Int} {k : Nat} (h : NoGeq f v k) (h1 : Geq f v k) : ExS (Geq f v) k true := .inl ⟨rfl, k, rfl, h1, h⟩
theorem reach_far {f : Cv} (hf : f.Ok) {v : Int} (h : NoGeq f v f.vals.length) {k : Nat} (hk : ((k : Int) - 1) * f.inc < v - nth f.vals (f.vals.length - 1)) (hk1 : 1 ≤ k) : NoGeq f v (f.vals.length + (k - 1) * f.per.toNat) := by
  have hF := noGeq_fin hf h
  have hp1 := hf.p1; have hpn := hf.pn
  intro n hn
  rintro (h2 | ⟨h2, h3⟩)
  · exact hF.not_infAt _ h2
  · have e1 := hF.toL.step.mul (k - 1) (f.vals.length - 1) (by omega)
    have h4 := hf.at_le (show n ≤ f.vals.length - 1 + (k - 1) * f.per.toNat by omega)
    rw [e1, Cv.at_lt (t := f.vals.length - 1) (by omega)] at h4
    have e2 : ((k - 1 : Nat) : Int) = (k : Int) - 1 := by omega
    rw [e2] at h4
    omega
theorem reach_end {f : Cv} (hF : f.Fin) {v : Int} (hv : v ≠ inf) {k : Nat} (hk : v - nth f.vals (f.vals.length - 1) ≤ (k : Int) * f.inc) : Geq f v (f.vals.length - 1 + k * f.per.toNat) := by
  have hp1 := hF.1.p1; have hpn := hF.1.pn
  have e1 := hF.toL.step.mul k (f.vals.length - 1) (by omega)
  rw [Cv.at_lt (t := f.vals.length - 1) (by omega)] at e1
  exact .inr ⟨hv, by rw [e1]; omega⟩

/-! ### The delay -/
def LeAt (f g : Cv) (t u : Nat) : Prop := g.infAt u ∨ (¬ f.infAt t ∧ f.at t ≤ g.at u)
theorem LeAt.mono {f g : Cv} (hg : g.Ok) {t u u' : Nat} (h : LeAt f g t u) (hu : u ≤ u') : LeAt f g t u' := by
  rcases h with h | ⟨h1, h2⟩
  · exact .inl (h.later hg hu)
  · exact .inr ⟨h1, Int.le_trans h2 (hg.at_le hu)⟩
theorem geq_le {f g : Cv} (hf : f.Ok) {t : Nat} (ht : t ≤ 4000000000) (n : Nat) : Geq g (f.at t) n ↔ LeAt f g t n := by
  have h1 := hf.at_bd ht
  unfold Geq LeAt
  have e : f.infAt t ↔ f.at t = inf := ⟨fun h => h.2, h1.2.2⟩
  rw [e]
def DB (f g : Cv) (M : Nat) : Prop := ∀ t, LeAt f g t (t + M)
def DelayS (f g : Cv) (i : Bool) (v A : Nat) : Prop :=
  (i = true ∧ v = 0 ∧ A = 0 ∧ ∀ M, ¬ DB f g M) ∨ (i = false ∧ DB f g v ∧ (v = 0 → A = 0) ∧ ∀ u, v = u + 1 → ¬ LeAt f g A (A + u) ∧ ∀ t, t < A → LeAt f g t (t + u))
theorem DelayS.unique {f g : Cv} (hg : g.Ok) {i j : Bool} {v A w B : Nat} (h : DelayS f g i v A) (k : DelayS f g j w B) : i = j ∧ v = w ∧ A = B := by
  rcases h with ⟨rfl, rfl, rfl, h⟩ | ⟨rfl, h1, h2, h3⟩ <;> rcases k with ⟨rfl, rfl, rfl, k⟩ | ⟨rfl, k1, k2, k3⟩
  · exact ⟨rfl, rfl, rfl⟩
  · exact absurd k1 (h _)
  · exact absurd h1 (k _)
  · have hvw : v = w := by
      rcases Nat.lt_trichotomy v w with e | e | e
      · exfalso
        obtain ⟨u, rfl⟩ : ∃ u, w = u + 1 := ⟨w - 1, by omega⟩
        exact (k3 u rfl).1 ((h1 B).mono hg (by omega))
      · exact e
      · exfalso
        obtain ⟨u, rfl⟩ : ∃ u, v = u + 1 := ⟨v - 1, by omega⟩
        exact (h3 u rfl).1 ((k1 A).mono hg (by omega))
    subst hvw
    refine ⟨rfl, rfl, ?_⟩
    rcases Nat.eq_zero_or_pos v with e | e
    · rw [h2 e, k2 e]
    · obtain ⟨u, rfl⟩ : ∃ u, v = u + 1 := ⟨v - 1, by omega⟩
      have h4 := h3 u rfl; have k4 := k3 u rfl
      rcases Nat.lt_trichotomy A B with e | e | e
      · exact absurd (k4.2 A e) h4.1
      · exact e
      · exact absurd (h4.2 B e) k4.1
structure DelI (f g : Cv) (k v A : Nat) : Prop where
  le : ∀ t, t < k → LeAt f g t (t + v)
  z : v = 0 → A = 0
  s : ∀ u, v = u + 1 → A < k ∧ ¬ LeAt f g A (A + u) ∧ ∀ t, t < A → LeAt f g t (t + u)
theorem DelI.zero (f g : Cv) : DelI f g 0 0 0 := ⟨fun t h => by omega, fun _ => rfl, fun u h => by omega⟩
theorem DelI.less {f g : Cv} (hg : g.Ok) {k v A r : Nat} (h : DelI f g k v A) (h1 : LeAt f g k r) (h2 : r ≤ k + v) : DelI f g (k + 1) v A :=
  ⟨fun t ht => by
    by_cases e : t = k
    · rw [e]; exact h1.mono hg h2
    · exact h.le t (by omega), h.z, fun u hu => ⟨by have := (h.s u hu).1; omega, (h.s u hu).2⟩⟩
theorem DelI.more {f g : Cv} (hg : g.Ok) {k v A r : Nat} (h : DelI f g k v A) (h1 : LeAt f g k r) (h0 : ∀ m, m < r → ¬ LeAt f g k m) (h2 : k + v < r) : DelI f g (k + 1) (r - k) k :=
  ⟨fun t ht => by
    by_cases e : t = k
    · rw [e]; exact h1.mono hg (by omega)
    · exact (h.le t (by omega)).mono hg (by omega), fun e => by omega, fun u hu => ⟨by omega, h0 _ (by omega), fun t ht => (h.le t ht).mono hg (by omega)⟩⟩
def Loose (a b : Cv) : Prop := b.Fin ∧ (¬ a.Fin ∨ ordD a b > 0)
theorem LeAt.step {a b : Cv} (ha : a.Ok) (hb : b.Ok) (hl : ¬ Loose a b) {t u : Nat} (ht : ordF a b ≤ t) (hu : ordF a b ≤ u) (h : LeAt a b t u) : LeAt a b (t + ordC a b) (u + ordC a b) := by
  rcases hb.fin_or with fb | ib
  · have fa : a.Fin := Classical.byContradiction fun h' => hl ⟨fb, .inl h'⟩
    have hd : ordD a b ≤ 0 := by
      by_cases h' : ordD a b ≤ 0
      · exact h'
      · exact absurd ⟨fb, .inr (by omega)⟩ hl
    rcases h with h | ⟨_, h⟩
    · exact absurd h (fb.not_infAt u)
    · refine .inr ⟨fa.not_infAt _, ?_⟩
      have hp := ha.p1; have hq := hb.p1
      have hk := comm_facts (p := a.per.toNat) (q := b.per.toNat) (by omega) (by omega)
      have e1 := fa.toL.step.mul (ordC a b / a.per.toNat) t (by unfold ordF at ht; omega)
      have e2 := fb.toL.step.mul (ordC a b / b.per.toNat) u (by unfold ordF at hu; omega)
      unfold ordD at hd
      have k1 : ordC a b / a.per.toNat * a.per.toNat = ordC a b := hk.1.symm
      have k2 : ordC a b / b.per.toNat * b.per.toNat = ordC a b := hk.2.1.symm
      rw [k1] at e1
      rw [k2] at e2
      rw [e1, e2]
      omega
  · exact .inl (hb.infAt_start ib (by unfold ordF at hu; omega))
theorem DelI.done {a b : Cv} (ha : a.Ok) (hb : b.Ok) (hl : ¬ Loose a b) {v A T : Nat} (hT : ordF a b + ordC a b ≤ T) (h : DelI a b T v A) : DelayS a b false v A := by
  have hp := ha.p1; have hq := hb.p1
  have hk := comm_facts (p := a.per.toNat) (q := b.per.toNat) (by omega) (by omega)
  have hc1 : 1 ≤ ordC a b := hk.2.2.1
  refine .inr ⟨rfl, fun t => ?_, h.z, fun u hu => (h.s u hu).2⟩
  induction t using Nat.strongRecOn with
  | _ t ih =>
    by_cases ht : t < T
    · exact h.le t ht
    · obtain ⟨r, rfl⟩ : ∃ r, t = r + ordC a b := ⟨t - ordC a b, by omega⟩
      have := (ih r (by omega)).step ha hb hl (by omega) (by omega)
      rw [show r + v + ordC a b = r + ordC a b + v by omega] at this
      exact this
theorem not_db {a b : Cv} {t : Nat} (h : ∀ n, ¬ LeAt a b t n) : DelayS a b true 0 0 := .inl ⟨rfl, rfl, rfl, fun M hM => h _ (hM t)⟩
theorem gain_far {a b : Cv} (fa : a.Fin) (fb : b.Fin) (hd : 0 < ordD a b) (x : Nat) (M : Int) : ∃ k : Nat, b.at (x + ordF a b + k * ordC a b) + M < a.at (ordF a b + k * ordC a b) := by
  have hp := fa.1.p1; have hq := fb.1.p1
  have hk := comm_facts (p := a.per.toNat) (q := b.per.toNat) (by omega) (by omega)
  have k1 : ordC a b / a.per.toNat * a.per.toNat = ordC a b := hk.1.symm
  have k2 : ordC a b / b.per.toNat * b.per.toNat = ordC a b := hk.2.1.symm
  have P1 := fa.toL.step.mul (ordC a b / a.per.toNat)
  have P2 := fb.toL.step.mul (ordC a b / b.per.toNat)
  rw [k1] at P1
  rw [k2] at P2
  obtain ⟨D, hD⟩ : ∃ D, D = b.at (x + ordF a b) + M - a.at (ordF a b) := ⟨_, rfl⟩
  refine ⟨D.toNat + 1, ?_⟩
  have e1 := P1.mul (D.toNat + 1) (ordF a b) (by unfold ordF; omega)
  have e2 := P2.mul (D.toNat + 1) (x + ordF a b) (by unfold ordF; omega)
  rw [e1, e2]
  have h1 : ((D.toNat + 1 : Nat) : Int) * 1 ≤ ((D.toNat + 1 : Nat) : Int) * ordD a b := Int.mul_le_mul_of_nonneg_left (by omega) (by omega)
  unfold ordD at h1
  rw [Int.mul_sub] at h1
  omega
theorem loose_del {a b : Cv} (ha : a.Ok) (h : Loose a b) : DelayS a b true 0 0 := by
  obtain ⟨fb, h | h⟩ := h
  · have ia : nth a.vals (a.vals.length - 1) = inf := by
      rcases ha.fin_or with h' | h'
      · exact absurd h' h
      · exact h'
    refine not_db (t := ordF a b) (fun n => ?_)
    rintro (h' | h')
    · exact fb.not_infAt n h'
    · exact h'.1 (ha.infAt_start ia (by unfold ordF; omega))
  · by_cases fa : a.Fin
    · refine .inl ⟨rfl, rfl, rfl, fun M hM => ?_⟩
      obtain ⟨k, hk⟩ := gain_far fa fb h M 0
      rcases hM (ordF a b + k * ordC a b) with h' | h'
      · exact fb.not_infAt _ h'
      · have := h'.2
        rw [show ordF a b + k * ordC a b + M = M + ordF a b + k * ordC a b by omega] at this
        omega
    · have ia : nth a.vals (a.vals.length - 1) = inf := by
        rcases ha.fin_or with h' | h'
        · exact absurd h' fa
        · exact h'
      refine not_db (t := ordF a b) (fun n => ?_)
      rintro (h' | h')
      · exact fb.not_infAt n h'
      · exact h'.1 (ha.infAt_start ia (by unfold ordF; omega))

/-! ### Backlog and peak -/
def AB (f g : Cv) (k M : Nat) : Prop := ∀ t, g.infAt t ∨ (¬ f.infAt (t + k) ∧ f.at (t + k) ≤ g.at t + M)
def AheadS (f g : Cv) (k : Nat) (i : Bool) (v A : Nat) : Prop :=
  (i = true ∧ v = 0 ∧ A = 0 ∧ ∀ M, ¬ AB f g k M) ∨ (i = false ∧ AB f g k v ∧ (v = 0 → A = 0) ∧ (0 < v → (¬ g.infAt A ∧ f.at (A + k) = g.at A + v) ∧ ∀ t, t < A → g.infAt t ∨ f.at (t + k) < g.at t + v))
theorem AheadS.unique {f g : Cv} {k : Nat} {i j : Bool} {v A w B : Nat} (h : AheadS f g k i v A) (l : AheadS f g k j w B) : i = j ∧ v = w ∧ A = B := by
  rcases h with ⟨rfl, rfl, rfl, h⟩ | ⟨rfl, h1, h2, h3⟩ <;> rcases l with ⟨rfl, rfl, rfl, l⟩ | ⟨rfl, l1, l2, l3⟩
  · exact ⟨rfl, rfl, rfl⟩
  · exact absurd l1 (h _)
  · exact absurd h1 (l _)
  · have hvw : v = w := by
      rcases Nat.lt_trichotomy v w with e | e | e
      · exfalso
        have h4 := (l3 (by omega)).1
        rcases h1 B with h5 | h5
        · exact h4.1 h5
        · have := h5.2; omega
      · exact e
      · exfalso
        have h4 := (h3 (by omega)).1
        rcases l1 A with h5 | h5
        · exact h4.1 h5
        · have := h5.2; omega
    subst hvw
    refine ⟨rfl, rfl, ?_⟩
    rcases Nat.eq_zero_or_pos v with e | e
    · rw [h2 e, l2 e]
    · have h4 := h3 e; have l4 := l3 e
      rcases Nat.lt_trichotomy A B with e | e | e
      · rcases l4.2 A e with h5 | h5
        · exact absurd h5 h4.1.1
        · have := h4.1.2; omega
      · exact e
      · rcases h4.2 B e with h5 | h5
        · exact absurd h5 l4.1.1
        · have := l4.1.2; omega
structure AhI (f g : Cv) (k K v A : Nat) : Prop where
  le : ∀ t, t < K → g.infAt t ∨ (¬ f.infAt (t + k) ∧ f.at (t + k) ≤ g.at t + v)
  z : v = 0 → A = 0
  s : 0 < v → (¬ g.infAt A ∧ f.at (A + k) = g.at A + v) ∧ ∀ t, t < A → g.infAt t ∨ f.at (t + k) < g.at t + v
theorem AhI.zero (f g : Cv) (k : Nat) : AhI f g k 0 0 0 := ⟨fun t h => by omega, fun _ => rfl, fun h => by omega⟩
theorem AhI.less {f g : Cv} {k K v A : Nat} (h : AhI f g k K v A) (h1 : g.infAt K ∨ (¬ f.infAt (K + k) ∧ f.at (K + k) ≤ g.at K + v)) : AhI f g k (K + 1) v A :=
  ⟨fun t ht => by
    by_cases e : t = K
    · rw [e]; exact h1
    · exact h.le t (by omega), h.z, h.s⟩
theorem AhI.more {f g : Cv} {k K v A d : Nat} (h : AhI f g k K v A) (h1 : ¬ g.infAt K) (h2 : ¬ f.infAt (K + k)) (h3 : f.at (K + k) = g.at K + d) (hd : v < d) : AhI f g k (K + 1) d K :=
  ⟨fun t ht => by
    by_cases e : t = K
    · rw [e]; exact .inr ⟨h2, by omega⟩
    · rcases h.le t (by omega) with h4 | h4
      · exact .inl h4
      · exact .inr ⟨h4.1, by omega⟩, fun e => by omega, fun _ => ⟨⟨h1, h3⟩, fun t ht => by
    rcases h.le t (by omega) with h4 | h4
    · exact .inl h4
    · exact .inr (by omega)⟩⟩
theorem AhI.done {a b : Cv} (ha : a.Ok) (hb : b.Ok) (hl : ¬ Loose a b) {k v A T : Nat} (hT : ordF a b + ordC a b ≤ T) (h : AhI a b k T v A) : AheadS a b k false v A := by
  have hp := ha.p1; have hq := hb.p1
  have hk := comm_facts (p := a.per.toNat) (q := b.per.toNat) (by omega) (by omega)
  have hc1 : 1 ≤ ordC a b := hk.2.2.1
  refine .inr ⟨rfl, fun t => ?_, h.z, h.s⟩
  induction t using Nat.strongRecOn with
  | _ t ih =>
    by_cases ht : t < T
    · exact h.le t ht
    · obtain ⟨r, rfl⟩ : ∃ r, t = r + ordC a b := ⟨t - ordC a b, by omega⟩
      rcases hb.fin_or with fb | ib
      · have fa : a.Fin := Classical.byContradiction fun h' => hl ⟨fb, .inl h'⟩
        have hd : ordD a b ≤ 0 := by
          by_cases h' : ordD a b ≤ 0
          · exact h'
          · exact absurd ⟨fb, .inr (by omega)⟩ hl
        rcases ih r (by omega) with h5 | ⟨_, h5⟩
        · exact absurd h5 (fb.not_infAt _)
        · refine .inr ⟨fa.not_infAt _, ?_⟩
          have e1 := fa.toL.step.mul (ordC a b / a.per.toNat) (r + k) (by unfold ordF at hT; omega)
          have e2 := fb.toL.step.mul (ordC a b / b.per.toNat) r (by unfold ordF at hT; omega)
          unfold ordD at hd
          have k1 : ordC a b / a.per.toNat * a.per.toNat = ordC a b := hk.1.symm
          have k2 : ordC a b / b.per.toNat * b.per.toNat = ordC a b := hk.2.1.symm
          rw [k1] at e1
          rw [k2] at e2
          rw [show r + ordC a b + k = r + k + ordC a b by omega, e1, e2]
          omega
      · exact .inl (hb.infAt_start ib (by unfold ordF at hT; omega))
/-! ### The same of the normal forms -/
theorem leAt_nf {f g a b : Cv} (hf : f.Ok) (hg : g.Ok) (ha : NF f.at a) (hb : NF g.at b) (t u : Nat) : LeAt a b t u ↔ LeAt f g t u := by
  unfold LeAt
  rw [ha.at, hb.at, ha.inf_iff hf, hb.inf_iff hg]
theorem DelayS.nf {f g a b : Cv} (hf : f.Ok) (hg : g.Ok) (ha : NF f.at a) (hb : NF g.at b) {i : Bool} {v A : Nat} (h : DelayS a b i v A) : DelayS f g i v A := by
  have e : LeAt a b = LeAt f g := by funext t u; exact propext (leAt_nf hf hg ha hb t u)
  unfold DelayS DB at *
  rw [e] at h
  exact h
theorem AheadS.nf {f g a b : Cv} (hf : f.Ok) (hg : g.Ok) (ha : NF f.at a) (hb : NF g.at b) {k : Nat} {i : Bool} {v A : Nat} (h : AheadS a b k i v A) : AheadS f g k i v A := by
  have e1 : a.infAt = f.infAt := by funext t; exact propext (ha.inf_iff hf t)
  have e2 : b.infAt = g.infAt := by funext t; exact propext (hb.inf_iff hg t)
  unfold AheadS AB at *
  rw [e1, e2, ha.same, hb.same] at h
  exact h

/-! ### Periods of normal forms -/
theorem NFin.per_dvd {h : Nat → Int} {g : Cv} (hg : NFin h g) {s p : Nat} {b : Int} (hp : 1 ≤ p) (H : Per h s p b) : g.per.toNat ∣ p := by
  obtain ⟨r, k, b', hr, hk, _, hR, hle⟩ := per_least hp H
  have h1 := hg.least _ _ _ hr hR
  have h2 := hle _ _ _ (by have := hg.p1; omega) hg.per
  have e : g.per.toNat = r := by omega
  rw [e, hk]
  exact Nat.dvd_mul_left r k
theorem NF.per_dvd {h : Nat → Int} {g : Cv} (hg : NF h g) {s p : Nat} {b : Int} (hp : 1 ≤ p) (H : Per h s p b) : g.per.toNat ∣ p := by
  rcases hg with hg | hg
  · exact hg.per_dvd hp H
  · rw [hg.p1]; exact Nat.one_dvd p
end Go.Proofs.YtaejfleahamapaaGreat

namespace Go.Proofs.YtaejfleahamapaaGreat
set_option linter.unusedVariables false

def rmx (r : Nat → Int) (lo : Int) : Nat → Int
  | 0 => lo
  | k + 1 => max (rmx r lo k) (r k)
theorem rmx_ge (r : Nat → Int) (lo : Int) (k : Nat) : lo ≤ rmx r lo k := by
  induction k with
  | zero => exact Int.le_refl _
  | succ k ih => show lo ≤ max _ _; omega
theorem rmx_val (r : Nat → Int) (lo : Int) {k j : Nat} (h : j < k) : r j ≤ rmx r lo k := by
  induction k with
  | zero => omega
  | succ k ih =>
    show r j ≤ max _ _
    rcases Nat.lt_or_ge j k with h1 | h1
    · have := ih h1; omega
    · obtain rfl : j = k := by omega
      omega
theorem rmx_le {r : Nat → Int} {lo M : Int} {k : Nat} (h0 : lo ≤ M) (h : ∀ j, j < k → r j ≤ M) : rmx r lo k ≤ M := by
  induction k with
  | zero => exact h0
  | succ k ih =>
    show max _ _ ≤ M
    have := ih (fun j hj => h j (by omega))
    have := h k (by omega)
    omega
theorem rmx_at (r : Nat → Int) (lo : Int) (k : Nat) : rmx r lo k = lo ∨ ∃ j, j < k ∧ rmx r lo k = r j := by
  induction k with
  | zero => exact .inl rfl
  | succ k ih =>
    show max _ _ = _ ∨ ∃ j, _ ∧ max _ _ = _
    by_cases h : rmx r lo k ≤ r k
    · exact .inr ⟨k, by omega, by omega⟩
    · rcases ih with h1 | ⟨j, hj, h1⟩
      · exact .inl (by omega)
      · exact .inr ⟨j, by omega, by omega⟩
theorem rmx_mono (r : Nat → Int) (lo : Int) {k m : Nat} (h : k ≤ m) : rmx r lo k ≤ rmx r lo m := rmx_le (rmx_ge _ _ _) (fun j hj => rmx_val _ _ (by omega))
def restV (a b : Cv) (t : Nat) : Int := rmx (dif a b) 0 (t + 1)
def tailV (a b : Cv) (k : Nat) : Int := rmx (fun j => dif a b (ordF a b + j)) (-4611686018427387904) k
def rstFrom (a b : Cv) : Nat := if 0 < ordD a b then max 400 (ordF a b + ordC a b) else ordF a b + ordC a b
def rstPer (a b : Cv) : Nat := if 0 < ordD a b then ordC a b else 1
def rstInc (a b : Cv) : Int := if 0 < ordD a b then ordD a b else 0
def RstBad (a b : Cv) : Prop := 0 < ordD a b ∧ tailV a b (rstFrom a b + 1 - ordF a b) < rmx (dif a b) 0 (ordF a b)
section
variable {a b : Cv}
theorem rest_split (k : Nat) : rmx (dif a b) 0 (ordF a b + k) = max (rmx (dif a b) 0 (ordF a b)) (tailV a b k) := by
  induction k with
  | zero =>
    have := rmx_ge (dif a b) 0 (ordF a b)
    show rmx (dif a b) 0 (ordF a b) = max _ (-4611686018427387904)
    omega
  | succ k ih =>
    show max (rmx (dif a b) 0 (ordF a b + k)) (dif a b (ordF a b + k)) = max _ (max (tailV a b k) (dif a b (ordF a b + k)))
    omega
theorem rest_val (a b : Cv) (k : Nat) : restV a b k = max (rmx (dif a b) 0 (min (k + 1) (ordF a b))) (tailV a b (k + 1 - ordF a b)) := by
  by_cases h : k + 1 ≤ ordF a b
  · rw [show min (k + 1) (ordF a b) = k + 1 by omega, show k + 1 - ordF a b = 0 by omega]
    have := rmx_ge (dif a b) 0 (k + 1)
    show rmx (dif a b) 0 (k + 1) = max _ (-4611686018427387904)
    omega
  · rw [show min (k + 1) (ordF a b) = ordF a b by omega]
    have := rest_split (a := a) (b := b) (k + 1 - ordF a b)
    rw [show ordF a b + (k + 1 - ordF a b) = k + 1 by omega] at this
    exact this
theorem rest_per (ha : a.Fin) (hb : b.Fin) (hC : 1 ≤ ordC a b) (hbad : ¬ RstBad a b) : Per (restV a b) (rstFrom a b) (rstPer a b) (rstInc a b) := by
  have P := ord_per ha hb
  obtain ⟨F, hF⟩ : ∃ F, F = ordF a b := ⟨_, rfl⟩
  obtain ⟨C, hCe⟩ : ∃ C, C = ordC a b := ⟨_, rfl⟩
  obtain ⟨D, hD⟩ : ∃ D, D = ordD a b := ⟨_, rfl⟩
  rw [← hF, ← hCe, ← hD] at P
  rw [← hCe] at hC
  by_cases hd : 0 < D
  · have e1 : rstPer a b = C := by unfold rstPer; rw [← hD, if_pos hd, hCe]
    have e2 : rstInc a b = D := by unfold rstInc; rw [← hD, if_pos hd]
    have e3 : rstFrom a b = max 400 (F + C) := by unfold rstFrom; rw [← hD, if_pos hd, ← hF, ← hCe]
    rw [e1, e2, e3]
    intro t ht
    have hm : rmx (dif a b) 0 F ≤ tailV a b (max 400 (F + C) + 1 - F) := by
      rcases Int.lt_or_le (tailV a b (max 400 (F + C) + 1 - F)) (rmx (dif a b) 0 F) with h | h
      · exact absurd ⟨by rw [← hD]; exact hd, by rw [e3, ← hF]; exact h⟩ hbad
      · exact h
    have key : ∀ u, max 400 (F + C) ≤ u → ∃ j, F ≤ j ∧ j ≤ u ∧ restV a b u = dif a b j := by
      intro u hu
      rcases rmx_at (dif a b) 0 (u + 1) with h | ⟨j, hj, h⟩
      · -- the value 0: then the tail is at most 0 as well
        have h1 : tailV a b (max 400 (F + C) + 1 - F) = -4611686018427387904 ∨ ∃ j, j < max 400 (F + C) + 1 - F ∧ tailV a b (max 400 (F + C) + 1 - F) = dif a b (ordF a b + j) := rmx_at _ _ _
        have h2 := rmx_ge (dif a b) 0 F
        rcases h1 with h1 | ⟨j, hj, h1⟩
        · omega
        · refine ⟨F + j, by omega, by omega, ?_⟩
          have h3 := rmx_val (dif a b) 0 (k := u + 1) (j := F + j) (by omega)
          rw [← hF] at h1
          show rmx (dif a b) 0 (u + 1) = _
          omega
      · by_cases hj2 : F ≤ j
        · exact ⟨j, hj2, by omega, h⟩
        · have h1 : tailV a b (max 400 (F + C) + 1 - F) = -4611686018427387904 ∨ ∃ j, j < max 400 (F + C) + 1 - F ∧ tailV a b (max 400 (F + C) + 1 - F) = dif a b (ordF a b + j) := rmx_at _ _ _
          have h2 := rmx_ge (dif a b) 0 F
          have h4 := rmx_val (dif a b) 0 (k := F) (j := j) (by omega)
          rcases h1 with h1 | ⟨i, hi, h1⟩
          · omega
          · refine ⟨F + i, by omega, by omega, ?_⟩
            have h3 := rmx_val (dif a b) 0 (k := u + 1) (j := F + i) (by omega)
            rw [← hF] at h1
            show rmx (dif a b) 0 (u + 1) = _
            omega
    obtain ⟨j, hj1, hj2, hj3⟩ := key t ht
    obtain ⟨i, hi1, hi2, hi3⟩ := key (t + C) (by omega)
    have a1 : dif a b (j + C) ≤ restV a b (t + C) := rmx_val _ _ (by omega)
    rw [P j hj1] at a1
    have a2 : dif a b i ≤ restV a b t + D := by
      by_cases hi4 : F + C ≤ i
      · have h1 := P (i - C) (by omega)
        rw [show i - C + C = i by omega] at h1
        have h2 : dif a b (i - C) ≤ restV a b t := rmx_val _ _ (by omega)
        omega
      · have h2 : dif a b i ≤ restV a b t := rmx_val _ _ (by omega)
        omega
    omega
  · have e1 : rstPer a b = 1 := by unfold rstPer; rw [← hD, if_neg hd]
    have e2 : rstInc a b = 0 := by unfold rstInc; rw [← hD, if_neg hd]
    have e3 : rstFrom a b = F + C := by unfold rstFrom; rw [← hD, if_neg hd, ← hF, ← hCe]
    rw [e1, e2, e3]
    have low : ∀ t, dif a b t ≤ rmx (dif a b) 0 (F + C) := by
      intro t
      induction t using Nat.strongRecOn with
      | ind t ih =>
        by_cases ht : t < F + C
        · exact rmx_val _ _ ht
        · have h1 := P (t - C) (by omega)
          rw [show t - C + C = t by omega] at h1
          have := ih (t - C) (by omega)
          omega
    have con : ∀ t, F + C ≤ t + 1 → restV a b t = rmx (dif a b) 0 (F + C) := fun t ht => by
      have h1 : restV a b t ≤ rmx (dif a b) 0 (F + C) := rmx_le (rmx_ge _ _ _) (fun j _ => low j)
      have h2 : rmx (dif a b) 0 (F + C) ≤ restV a b t := rmx_mono _ _ ht
      omega
    intro t ht
    rw [con t (by omega), con (t + 1) (by omega), Int.add_zero]
end
end Go.Proofs.YtaejfleahamapaaGreat

namespace Go.Proofs.YtaejfleahamapaaGreat
set_option linter.unusedVariables false

def OneS (lo hi : Int) (S : Cv → Cv → Int → Prop) (f : Cv) (n : Int) (r : Cv) (er : Int) : Prop :=
  (¬ f.Ok ∧ r = Cv.none ∧ er = 1) ∨ (f.Ok ∧ (n < lo ∨ hi < n) ∧ r = Cv.none ∧ er = 2) ∨ (f.Ok ∧ lo ≤ n ∧ n ≤ hi ∧ ∃ a, NF f.at a ∧ S a r er)
theorem OneS.unique {lo hi : Int} {S : Cv → Cv → Int → Prop} (hS : ∀ {a r r' : Cv} {e e' : Int}, S a r e → S a r' e' → r = r' ∧ e = e') {f r r' : Cv} {n e e' : Int} (h : OneS lo hi S f n r e) (k : OneS lo hi S f n r' e') : r = r' ∧ e = e' := by
  rcases h with ⟨h0, rfl, rfl⟩ | ⟨h0, h1, rfl, rfl⟩ | ⟨h0, h1, h2, a, ha, h⟩ <;> rcases k with ⟨k0, rfl, rfl⟩ | ⟨k0, k1, rfl, rfl⟩ | ⟨k0, k1, k2, b, kb, k⟩
  · exact ⟨rfl, rfl⟩
  · exact absurd k0 h0
  · exact absurd k0 h0
  · exact absurd h0 k0
  · exact ⟨rfl, rfl⟩
  · omega
  · exact absurd h0 k0
  · omega
  · obtain rfl := ha.unique kb
    exact hS h k

/-! ### Later -/
def laterV (a : Cv) (d t : Nat) : Int := if t < d then 0 else a.at (t - d)
theorem later_nf {f a : Cv} (ha : NF f.at a) (d : Nat) : laterV a d = laterV f d := by
  funext t; unfold laterV; rw [ha.at]
theorem inf_pos : (0 : Int) ≠ inf := by unfold inf; omega
def LaterS (f : Cv) (d : Int) : Cv → Int → Prop := OneS 0 1048576 (fun a r er => MadeS (laterV a d.toNat) r er) f d
theorem LaterS.unique {f r r' : Cv} {d e e' : Int} (h : LaterS f d r e) (k : LaterS f d r' e') : r = r' ∧ e = e' := OneS.unique (S := fun a r er => MadeS (laterV a d.toNat) r er) (fun h k => MadeS.unique h k) h k
theorem zero_nf : NF (fun _ => 0) ⟨[0], 1, 0⟩ := by
  refine .inl ⟨by show (1 : Int) ≤ 1; omega, by show (1 : Int) ≤ 1; omega, fun t ht => ?_, fun t ht => by show (0 : Int) = 0 + 0; omega, fun q s b h1 h2 => h1, .inl rfl, fun t ht => inf_pos⟩
  have : t = 0 := by have : t < 1 := ht; omega
  rw [this]; rfl
theorem nf_zero {f a : Cv} (ha : NF f.at a) (h : ∀ t, a.at t = 0) : a = ⟨[0], 1, 0⟩ := by
  have e : f.at = fun _ => 0 := funext fun t => by rw [← ha.at]; exact h t
  rw [e] at ha
  exact ha.unique zero_nf
/-! ### Scale -/
open Classical in
noncomputable def scaleV (a : Cv) (k : Int) (t : Nat) : Int := if a.infAt t then inf else a.at t * k
theorem scale_nf {f a : Cv} (hf : f.Ok) (ha : NF f.at a) (k : Int) : scaleV a k = scaleV f k := by
  funext t; unfold scaleV; rw [ha.at]
  exact ite_iff _ _ (ha.inf_iff hf t)
def ScaleS (f : Cv) (k : Int) : Cv → Int → Prop := OneS 1 1073741824 (fun a r er => MadeS (scaleV a k) r er) f k
theorem ScaleS.unique {f r r' : Cv} {d e e' : Int} (h : ScaleS f d r e) (k : ScaleS f d r' e') : r = r' ∧ e = e' := OneS.unique (S := fun a r er => MadeS (scaleV a d) r er) (fun h k => MadeS.unique h k) h k
end Go.Proofs.YtaejfleahamapaaGreat

namespace Go.Proofs.YtaejfleahamapaaGreat
set_option linter.unusedVariables false

theorem Cv.Ok.nf {f : Cv} (hf : f.Ok) : ∃ a, NF f.at a := by
  have hp1 := hf.p1; have hpn := hf.pn; have hn1 := hf.n1
  rcases hf.fin_or with hF | hi
  · obtain ⟨g, hg, _⟩ := nf_exists (h := f.at) (s := f.vals.length - f.per.toNat) (p := f.per.toNat) (by omega) hF.toL.step (fun t ht => by rw [Cv.at_lt (by omega)]; exact (hF.ne t (by omega)).1)
    exact ⟨g, .inl hg⟩
  · obtain ⟨m, hm1, hm2⟩ := nat_least (Q := fun m => f.at m = inf) ⟨f.vals.length - 1, hf.at_inf hi (by omega)⟩
    have hml : m ≤ f.vals.length - 1 := by
      rcases Nat.lt_or_ge (f.vals.length - 1) m with h | h
      · exact absurd (hf.at_inf hi (by omega)) (hm2 _ h)
      · exact h
    have hl : (Cv.mk (tab f.at 0 (m + 1)) 1 0).vals.length = m + 1 := tab_length _ _ _
    refine ⟨⟨tab f.at 0 (m + 1), 1, 0⟩, .inr ⟨rfl, rfl, by rw [hl]; omega, fun t ht => ?_, fun t ht => ?_, fun t ht => ?_⟩⟩
    · rw [hl] at ht; show nth (tab f.at 0 (m + 1)) t = _; rw [tab_nth _ _ _ _ ht, Nat.zero_add]
    · rw [hl] at ht; exact hm2 t (by omega)
    · rw [hl] at ht; exact hf.inf_from (t := m) (by omega) (by omega) hm1
end Go.Proofs.YtaejfleahamapaaGreat

namespace Go.Proofs.YtaejfleahamapaaGreat
set_option linter.unusedVariables false

theorem DelayS.least {f g : Cv} (hg : g.Ok) {v A M : Nat} (h : DelayS f g false v A) (hM : DB f g M) : v ≤ M := by
  rcases h with ⟨h, _⟩ | ⟨_, _, _, h⟩
  · cases h
  · rcases Nat.lt_or_ge M v with hv | hv
    · obtain ⟨u, rfl⟩ : ∃ u, v = u + 1 := ⟨v - 1, by omega⟩
      exact absurd ((hM A).mono hg (by omega)) (h u rfl).1
    · exact hv
end Go.Proofs.YtaejfleahamapaaGreat

