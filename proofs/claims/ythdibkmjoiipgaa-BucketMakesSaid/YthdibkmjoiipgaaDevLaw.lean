/- Plain words: reaching a value, delays, backlogs; nothing of the program. -/
import Derived.Test.YthdibkmjoiipgaaMade
import Derived.Test.YthdibkmjoiipgaaDraw
namespace Go.Proofs.Ythdibkmjoiipgaa
set_option linter.unusedVariables false

/-! ### Reaching a value -/
/-- at the tick n the curve has at least the value v -/
def Geq (f : Cv) (v : Int) (n : Nat) : Prop := f.infAt n ∨ (v ≠ inf ∧ v ≤ f.at n)
theorem Geq.mono {f : Cv} (hf : f.Ok) {v : Int} {n m : Nat} (h : Geq f v n) (hnm : n ≤ m) : Geq f v m := by
  rcases h with h | ⟨h1, h2⟩
  · exact .inl (h.later hf hnm)
  · exact .inr ⟨h1, Int.le_trans h2 (hf.at_le hnm)⟩
/-- no listed value is so great -/
def NoGeq (f : Cv) (v : Int) (k : Nat) : Prop := ∀ n, n < k → ¬ Geq f v n
theorem NoGeq.zero (f : Cv) (v : Int) : NoGeq f v 0 := fun n h => by omega
theorem NoGeq.succ {f : Cv} {v : Int} {k : Nat} (h : NoGeq f v k) (h1 : ¬ Geq f v k) : NoGeq f v (k + 1) := fun n hn => by
  by_cases e : n = k
  · rw [e]; exact h1
  · exact h n (by omega)
theorem geq_listed {f : Cv} (hf : f.Ok) {v : Int} (hv : v ≤ 4611686018427387904) {k : Nat} (hk : k < f.vals.length) : Geq f v k ↔ v ≤ nth f.vals k := by
  have h0 := (okv_iff _).1 (hf.v k hk)
  have h1 := hf.at_bd (n := k) (by have := hf.n2; omega)
  rw [Cv.at_lt hk] at h1
  unfold Geq
  rw [Cv.at_lt hk]
  constructor
  · rintro (h | h)
    · have := h.2; rw [Cv.at_lt hk] at this; rw [this]; exact hv
    · exact h.2
  · intro h
    by_cases e : nth f.vals k = inf
    · exact .inl (h1.2.2 e)
    · rcases h0 with h0 | h0
      · exact absurd h0 e
      · exact .inr ⟨by unfold inf; omega, h⟩
theorem noGeq_fin {f : Cv} (hf : f.Ok) {v : Int} (h : NoGeq f v f.vals.length) : f.Fin := by
  refine ⟨hf, fun e => h (f.vals.length - 1) (by have := hf.n1; omega) (.inl ⟨e, hf.at_inf e (by omega)⟩)⟩
theorem reach_inf {f : Cv} (hf : f.Ok) (h : NoGeq f inf f.vals.length) : ExS (Geq f inf) 0 false := by
  have hF := noGeq_fin hf h
  exact .inr ⟨rfl, rfl, fun n hn => by
    rcases hn with hn | hn
    · exact hF.not_infAt n hn
    · exact hn.1 rfl⟩
theorem reach_flat {f : Cv} (hf : f.Ok) {v : Int} (h : NoGeq f v f.vals.length) (hi : f.inc = 0) : ExS (Geq f v) 0 false := by
  have hF := noGeq_fin hf h
  have hp1 := hf.p1; have hpn := hf.pn
  refine .inr ⟨rfl, rfl, fun n => ?_⟩
  induction n using Nat.strongRecOn with
  | _ n ih =>
    by_cases hn : n < f.vals.length
    · exact h n hn
    · obtain ⟨u, rfl⟩ : ∃ u, n = u + f.per.toNat := ⟨n - f.per.toNat, by omega⟩
      have h1 := ih u (by omega)
      rintro (h2 | ⟨h2, h3⟩)
      · exact hF.not_infAt _ h2
      · rw [hF.toL.step u (by omega), hi] at h3
        exact h1 (.inr ⟨h2, by omega⟩)
theorem reach_yes {f : Cv} {v : Int} {k : Nat} (h : NoGeq f v k) (h1 : Geq f v k) : ExS (Geq f v) k true := .inl ⟨rfl, k, rfl, h1, h⟩
/-- the tick that lies k - 1 periods behind the listed values -/
theorem reach_far {f : Cv} (hf : f.Ok) {v : Int} (h : NoGeq f v f.vals.length) {k : Nat} (hk : ((k : Int) - 1) * f.inc < v - nth f.vals (f.vals.length - 1)) (hk1 : 1 ≤ k) : NoGeq f v (f.vals.length + (k - 1) * f.per.toNat) := by
  have hF := noGeq_fin hf h
  have hp1 := hf.p1; have hpn := hf.pn
  intro n hn
  rintro (h2 | ⟨h2, h3⟩)
  · exact hF.not_infAt _ h2
  · have e1 := hF.toL.step.mul (k - 1) (f.vals.length - 1) (by omega)
    have h4 := hf.at_le (show n ≤ f.vals.length - 1 + (k - 1) * f.per.toNat by omega)
    rw [e1, Cv.at_lt (t := f.vals.length - 1) (by omega)] at h4
    have e2 : ((k - 1 : Nat) : Int) = (k : Int) - 1 := by omega
    rw [e2] at h4
    omega
theorem reach_end {f : Cv} (hF : f.Fin) {v : Int} (hv : v ≠ inf) {k : Nat} (hk : v - nth f.vals (f.vals.length - 1) ≤ (k : Int) * f.inc) : Geq f v (f.vals.length - 1 + k * f.per.toNat) := by
  have hp1 := hF.1.p1; have hpn := hF.1.pn
  have e1 := hF.toL.step.mul k (f.vals.length - 1) (by omega)
  rw [Cv.at_lt (t := f.vals.length - 1) (by omega)] at e1
  exact .inr ⟨hv, by rw [e1]; omega⟩

/-! ### The delay -/
/-- f at t is at most g at u -/
def LeAt (f g : Cv) (t u : Nat) : Prop := g.infAt u ∨ (¬ f.infAt t ∧ f.at t ≤ g.at u)
theorem LeAt.mono {f g : Cv} (hg : g.Ok) {t u u' : Nat} (h : LeAt f g t u) (hu : u ≤ u') : LeAt f g t u' := by
  rcases h with h | ⟨h1, h2⟩
  · exact .inl (h.later hg hu)
  · exact .inr ⟨h1, Int.le_trans h2 (hg.at_le hu)⟩
theorem geq_le {f g : Cv} (hf : f.Ok) {t : Nat} (ht : t ≤ 4000000000) (n : Nat) : Geq g (f.at t) n ↔ LeAt f g t n := by
  have h1 := hf.at_bd ht
  unfold Geq LeAt
  have e : f.infAt t ↔ f.at t = inf := ⟨fun h => h.2, h1.2.2⟩
  rw [e]
/-- the delay is at most M -/
def DB (f g : Cv) (M : Nat) : Prop := ∀ t, LeAt f g t (t + M)
/-- what Delay returns -/
def DelayS (f g : Cv) (i : Bool) (v A : Nat) : Prop :=
  (i = true ∧ v = 0 ∧ A = 0 ∧ ∀ M, ¬ DB f g M) ∨ (i = false ∧ DB f g v ∧ (v = 0 → A = 0) ∧ ∀ u, v = u + 1 → ¬ LeAt f g A (A + u) ∧ ∀ t, t < A → LeAt f g t (t + u))
theorem DelayS.unique {f g : Cv} (hg : g.Ok) {i j : Bool} {v A w B : Nat} (h : DelayS f g i v A) (k : DelayS f g j w B) : i = j ∧ v = w ∧ A = B := by
  rcases h with ⟨rfl, rfl, rfl, h⟩ | ⟨rfl, h1, h2, h3⟩ <;> rcases k with ⟨rfl, rfl, rfl, k⟩ | ⟨rfl, k1, k2, k3⟩
  · exact ⟨rfl, rfl, rfl⟩
  · exact absurd k1 (h _)
  · exact absurd h1 (k _)
  · have hvw : v = w := by
      rcases Nat.lt_trichotomy v w with e | e | e
      · exfalso
        obtain ⟨u, rfl⟩ : ∃ u, w = u + 1 := ⟨w - 1, by omega⟩
        exact (k3 u rfl).1 ((h1 B).mono hg (by omega))
      · exact e
      · exfalso
        obtain ⟨u, rfl⟩ : ∃ u, v = u + 1 := ⟨v - 1, by omega⟩
        exact (h3 u rfl).1 ((k1 A).mono hg (by omega))
    subst hvw
    refine ⟨rfl, rfl, ?_⟩
    rcases Nat.eq_zero_or_pos v with e | e
    · rw [h2 e, k2 e]
    · obtain ⟨u, rfl⟩ : ∃ u, v = u + 1 := ⟨v - 1, by omega⟩
      have h4 := h3 u rfl; have k4 := k3 u rfl
      rcases Nat.lt_trichotomy A B with e | e | e
      · exact absurd (k4.2 A e) h4.1
      · exact e
      · exact absurd (h4.2 B e) k4.1
/-- while the ticks are looked at: those less than k -/
structure DelI (f g : Cv) (k v A : Nat) : Prop where
  le : ∀ t, t < k → LeAt f g t (t + v)
  z : v = 0 → A = 0
  s : ∀ u, v = u + 1 → A < k ∧ ¬ LeAt f g A (A + u) ∧ ∀ t, t < A → LeAt f g t (t + u)
theorem DelI.zero (f g : Cv) : DelI f g 0 0 0 := ⟨fun t h => by omega, fun _ => rfl, fun u h => by omega⟩
theorem DelI.less {f g : Cv} (hg : g.Ok) {k v A r : Nat} (h : DelI f g k v A) (h1 : LeAt f g k r) (h2 : r ≤ k + v) : DelI f g (k + 1) v A :=
  ⟨fun t ht => by
    by_cases e : t = k
    · rw [e]; exact h1.mono hg h2
    · exact h.le t (by omega), h.z, fun u hu => ⟨by have := (h.s u hu).1; omega, (h.s u hu).2⟩⟩
theorem DelI.more {f g : Cv} (hg : g.Ok) {k v A r : Nat} (h : DelI f g k v A) (h1 : LeAt f g k r) (h0 : ∀ m, m < r → ¬ LeAt f g k m) (h2 : k + v < r) : DelI f g (k + 1) (r - k) k :=
  ⟨fun t ht => by
    by_cases e : t = k
    · rw [e]; exact h1.mono hg (by omega)
    · exact (h.le t (by omega)).mono hg (by omega), fun e => by omega, fun u hu => ⟨by omega, h0 _ (by omega), fun t ht => (h.le t ht).mono hg (by omega)⟩⟩
/-- a grows more than b in a common period -/
def gainC (a b : Cv) : Int := (comm a.per.toNat b.per.toNat / a.per.toNat : Nat) * a.inc
/-- there is no greatest distance -/
def Loose (a b : Cv) : Prop := b.Fin ∧ (¬ a.Fin ∨ ordD a b > 0)
theorem LeAt.step {a b : Cv} (ha : a.Ok) (hb : b.Ok) (hl : ¬ Loose a b) {t u : Nat} (ht : ordF a b ≤ t) (hu : ordF a b ≤ u) (h : LeAt a b t u) : LeAt a b (t + ordC a b) (u + ordC a b) := by
  rcases hb.fin_or with fb | ib
  · have fa : a.Fin := Classical.byContradiction fun h' => hl ⟨fb, .inl h'⟩
    have hd : ordD a b ≤ 0 := by
      by_cases h' : ordD a b ≤ 0
      · exact h'
      · exact absurd ⟨fb, .inr (by omega)⟩ hl
    rcases h with h | ⟨_, h⟩
    · exact absurd h (fb.not_infAt u)
    · refine .inr ⟨fa.not_infAt _, ?_⟩
      have hp := ha.p1; have hq := hb.p1
      have hk := comm_facts (p := a.per.toNat) (q := b.per.toNat) (by omega) (by omega)
      have e1 := fa.toL.step.mul (ordC a b / a.per.toNat) t (by unfold ordF at ht; omega)
      have e2 := fb.toL.step.mul (ordC a b / b.per.toNat) u (by unfold ordF at hu; omega)
      unfold ordD at hd
      have k1 : ordC a b / a.per.toNat * a.per.toNat = ordC a b := hk.1.symm
      have k2 : ordC a b / b.per.toNat * b.per.toNat = ordC a b := hk.2.1.symm
      rw [k1] at e1
      rw [k2] at e2
      rw [e1, e2]
      omega
  · exact .inl (hb.infAt_start ib (by unfold ordF at hu; omega))
theorem DelI.done {a b : Cv} (ha : a.Ok) (hb : b.Ok) (hl : ¬ Loose a b) {v A T : Nat} (hT : ordF a b + ordC a b ≤ T) (h : DelI a b T v A) : DelayS a b false v A := by
  have hp := ha.p1; have hq := hb.p1
  have hk := comm_facts (p := a.per.toNat) (q := b.per.toNat) (by omega) (by omega)
  have hc1 : 1 ≤ ordC a b := hk.2.2.1
  refine .inr ⟨rfl, fun t => ?_, h.z, fun u hu => (h.s u hu).2⟩
  induction t using Nat.strongRecOn with
  | _ t ih =>
    by_cases ht : t < T
    · exact h.le t ht
    · obtain ⟨r, rfl⟩ : ∃ r, t = r + ordC a b := ⟨t - ordC a b, by omega⟩
      have := (ih r (by omega)).step ha hb hl (by omega) (by omega)
      rw [show r + v + ordC a b = r + ordC a b + v by omega] at this
      exact this
theorem not_db {a b : Cv} {t : Nat} (h : ∀ n, ¬ LeAt a b t n) : DelayS a b true 0 0 := .inl ⟨rfl, rfl, rfl, fun M hM => h _ (hM t)⟩
theorem gain_far {a b : Cv} (fa : a.Fin) (fb : b.Fin) (hd : 0 < ordD a b) (x : Nat) (M : Int) : ∃ k : Nat, b.at (x + ordF a b + k * ordC a b) + M < a.at (ordF a b + k * ordC a b) := by
  have hp := fa.1.p1; have hq := fb.1.p1
  have hk := comm_facts (p := a.per.toNat) (q := b.per.toNat) (by omega) (by omega)
  have k1 : ordC a b / a.per.toNat * a.per.toNat = ordC a b := hk.1.symm
  have k2 : ordC a b / b.per.toNat * b.per.toNat = ordC a b := hk.2.1.symm
  have P1 := fa.toL.step.mul (ordC a b / a.per.toNat)
  have P2 := fb.toL.step.mul (ordC a b / b.per.toNat)
  rw [k1] at P1
  rw [k2] at P2
  obtain ⟨D, hD⟩ : ∃ D, D = b.at (x + ordF a b) + M - a.at (ordF a b) := ⟨_, rfl⟩
  refine ⟨D.toNat + 1, ?_⟩
  have e1 := P1.mul (D.toNat + 1) (ordF a b) (by unfold ordF; omega)
  have e2 := P2.mul (D.toNat + 1) (x + ordF a b) (by unfold ordF; omega)
  rw [e1, e2]
  have h1 : ((D.toNat + 1 : Nat) : Int) * 1 ≤ ((D.toNat + 1 : Nat) : Int) * ordD a b := Int.mul_le_mul_of_nonneg_left (by omega) (by omega)
  unfold ordD at h1
  rw [Int.mul_sub] at h1
  omega
theorem loose_del {a b : Cv} (ha : a.Ok) (h : Loose a b) : DelayS a b true 0 0 := by
  obtain ⟨fb, h | h⟩ := h
  · have ia : nth a.vals (a.vals.length - 1) = inf := by
      rcases ha.fin_or with h' | h'
      · exact absurd h' h
      · exact h'
    refine not_db (t := ordF a b) (fun n => ?_)
    rintro (h' | h')
    · exact fb.not_infAt n h'
    · exact h'.1 (ha.infAt_start ia (by unfold ordF; omega))
  · by_cases fa : a.Fin
    · refine .inl ⟨rfl, rfl, rfl, fun M hM => ?_⟩
      obtain ⟨k, hk⟩ := gain_far fa fb h M 0
      rcases hM (ordF a b + k * ordC a b) with h' | h'
      · exact fb.not_infAt _ h'
      · have := h'.2
        rw [show ordF a b + k * ordC a b + M = M + ordF a b + k * ordC a b by omega] at this
        omega
    · have ia : nth a.vals (a.vals.length - 1) = inf := by
        rcases ha.fin_or with h' | h'
        · exact absurd h' fa
        · exact h'
      refine not_db (t := ordF a b) (fun n => ?_)
      rintro (h' | h')
      · exact fb.not_infAt n h'
      · exact h'.1 (ha.infAt_start ia (by unfold ordF; omega))

/-! ### Backlog and peak -/
/-- f, k ticks ahead, is nowhere more than M above g -/
def AB (f g : Cv) (k M : Nat) : Prop := ∀ t, g.infAt t ∨ (¬ f.infAt (t + k) ∧ f.at (t + k) ≤ g.at t + M)
/-- what Backlog (k = 0) and Peak (k = 1) return -/
def AheadS (f g : Cv) (k : Nat) (i : Bool) (v A : Nat) : Prop :=
  (i = true ∧ v = 0 ∧ A = 0 ∧ ∀ M, ¬ AB f g k M) ∨ (i = false ∧ AB f g k v ∧ (v = 0 → A = 0) ∧ (0 < v → (¬ g.infAt A ∧ f.at (A + k) = g.at A + v) ∧ ∀ t, t < A → g.infAt t ∨ f.at (t + k) < g.at t + v))
theorem AheadS.unique {f g : Cv} {k : Nat} {i j : Bool} {v A w B : Nat} (h : AheadS f g k i v A) (l : AheadS f g k j w B) : i = j ∧ v = w ∧ A = B := by
  rcases h with ⟨rfl, rfl, rfl, h⟩ | ⟨rfl, h1, h2, h3⟩ <;> rcases l with ⟨rfl, rfl, rfl, l⟩ | ⟨rfl, l1, l2, l3⟩
  · exact ⟨rfl, rfl, rfl⟩
  · exact absurd l1 (h _)
  · exact absurd h1 (l _)
  · have hvw : v = w := by
      rcases Nat.lt_trichotomy v w with e | e | e
      · exfalso
        have h4 := (l3 (by omega)).1
        rcases h1 B with h5 | h5
        · exact h4.1 h5
        · have := h5.2; omega
      · exact e
      · exfalso
        have h4 := (h3 (by omega)).1
        rcases l1 A with h5 | h5
        · exact h4.1 h5
        · have := h5.2; omega
    subst hvw
    refine ⟨rfl, rfl, ?_⟩
    rcases Nat.eq_zero_or_pos v with e | e
    · rw [h2 e, l2 e]
    · have h4 := h3 e; have l4 := l3 e
      rcases Nat.lt_trichotomy A B with e | e | e
      · rcases l4.2 A e with h5 | h5
        · exact absurd h5 h4.1.1
        · have := h4.1.2; omega
      · exact e
      · rcases h4.2 B e with h5 | h5
        · exact absurd h5 l4.1.1
        · have := l4.1.2; omega
structure AhI (f g : Cv) (k K v A : Nat) : Prop where
  le : ∀ t, t < K → g.infAt t ∨ (¬ f.infAt (t + k) ∧ f.at (t + k) ≤ g.at t + v)
  z : v = 0 → A = 0
  s : 0 < v → (¬ g.infAt A ∧ f.at (A + k) = g.at A + v) ∧ ∀ t, t < A → g.infAt t ∨ f.at (t + k) < g.at t + v
theorem AhI.zero (f g : Cv) (k : Nat) : AhI f g k 0 0 0 := ⟨fun t h => by omega, fun _ => rfl, fun h => by omega⟩
theorem AhI.less {f g : Cv} {k K v A : Nat} (h : AhI f g k K v A) (h1 : g.infAt K ∨ (¬ f.infAt (K + k) ∧ f.at (K + k) ≤ g.at K + v)) : AhI f g k (K + 1) v A :=
  ⟨fun t ht => by
    by_cases e : t = K
    · rw [e]; exact h1
    · exact h.le t (by omega), h.z, h.s⟩
theorem AhI.more {f g : Cv} {k K v A d : Nat} (h : AhI f g k K v A) (h1 : ¬ g.infAt K) (h2 : ¬ f.infAt (K + k)) (h3 : f.at (K + k) = g.at K + d) (hd : v < d) : AhI f g k (K + 1) d K :=
  ⟨fun t ht => by
    by_cases e : t = K
    · rw [e]; exact .inr ⟨h2, by omega⟩
    · rcases h.le t (by omega) with h4 | h4
      · exact .inl h4
      · exact .inr ⟨h4.1, by omega⟩, fun e => by omega, fun _ => ⟨⟨h1, h3⟩, fun t ht => by
    rcases h.le t (by omega) with h4 | h4
    · exact .inl h4
    · exact .inr (by omega)⟩⟩
theorem AhI.done {a b : Cv} (ha : a.Ok) (hb : b.Ok) (hl : ¬ Loose a b) {k v A T : Nat} (hT : ordF a b + ordC a b ≤ T) (h : AhI a b k T v A) : AheadS a b k false v A := by
  have hp := ha.p1; have hq := hb.p1
  have hk := comm_facts (p := a.per.toNat) (q := b.per.toNat) (by omega) (by omega)
  have hc1 : 1 ≤ ordC a b := hk.2.2.1
  refine .inr ⟨rfl, fun t => ?_, h.z, h.s⟩
  induction t using Nat.strongRecOn with
  | _ t ih =>
    by_cases ht : t < T
    · exact h.le t ht
    · obtain ⟨r, rfl⟩ : ∃ r, t = r + ordC a b := ⟨t - ordC a b, by omega⟩
      rcases hb.fin_or with fb | ib
      · have fa : a.Fin := Classical.byContradiction fun h' => hl ⟨fb, .inl h'⟩
        have hd : ordD a b ≤ 0 := by
          by_cases h' : ordD a b ≤ 0
          · exact h'
          · exact absurd ⟨fb, .inr (by omega)⟩ hl
        rcases ih r (by omega) with h5 | ⟨_, h5⟩
        · exact absurd h5 (fb.not_infAt _)
        · refine .inr ⟨fa.not_infAt _, ?_⟩
          have e1 := fa.toL.step.mul (ordC a b / a.per.toNat) (r + k) (by unfold ordF at hT; omega)
          have e2 := fb.toL.step.mul (ordC a b / b.per.toNat) r (by unfold ordF at hT; omega)
          unfold ordD at hd
          have k1 : ordC a b / a.per.toNat * a.per.toNat = ordC a b := hk.1.symm
          have k2 : ordC a b / b.per.toNat * b.per.toNat = ordC a b := hk.2.1.symm
          rw [k1] at e1
          rw [k2] at e2
          rw [show r + ordC a b + k = r + k + ordC a b by omega, e1, e2]
          omega
      · exact .inl (hb.infAt_start ib (by unfold ordF at hT; omega))
theorem not_ab {a b : Cv} {k t : Nat} (h1 : ¬ b.infAt t) (h2 : a.infAt (t + k)) : AheadS a b k true 0 0 := .inl ⟨rfl, rfl, rfl, fun M hM => by
  rcases hM t with h | h
  · exact h1 h
  · exact h.1 h2⟩
theorem loose_ahead {a b : Cv} (ha : a.Ok) (k : Nat) (h : Loose a b) : AheadS a b k true 0 0 := by
  obtain ⟨fb, h⟩ := h
  by_cases fa : a.Fin
  · have hd : 0 < ordD a b := h.resolve_left (fun h' => h' fa)
    refine .inl ⟨rfl, rfl, rfl, fun M hM => ?_⟩
    obtain ⟨j, hj⟩ := gain_far fa fb hd 0 M
    rcases hM (ordF a b + j * ordC a b) with h' | h'
    · exact fb.not_infAt _ h'
    · have h1 := h'.2
      have h2 := ha.at_le (show ordF a b + j * ordC a b ≤ ordF a b + j * ordC a b + k by omega)
      rw [show 0 + ordF a b + j * ordC a b = ordF a b + j * ordC a b by omega] at hj
      omega
  · have ia : nth a.vals (a.vals.length - 1) = inf := by
      rcases ha.fin_or with h' | h'
      · exact absurd h' fa
      · exact h'
    exact not_ab (t := ordF a b) (fb.not_infAt _) (ha.infAt_start ia (by unfold ordF; omega))

/-! ### The same of the normal forms -/
theorem leAt_nf {f g a b : Cv} (hf : f.Ok) (hg : g.Ok) (ha : NF f.at a) (hb : NF g.at b) (t u : Nat) : LeAt a b t u ↔ LeAt f g t u := by
  unfold LeAt
  rw [ha.at, hb.at, ha.inf_iff hf, hb.inf_iff hg]
theorem DelayS.nf {f g a b : Cv} (hf : f.Ok) (hg : g.Ok) (ha : NF f.at a) (hb : NF g.at b) {i : Bool} {v A : Nat} (h : DelayS a b i v A) : DelayS f g i v A := by
  have e : LeAt a b = LeAt f g := by funext t u; exact propext (leAt_nf hf hg ha hb t u)
  unfold DelayS DB at *
  rw [e] at h
  exact h
theorem AheadS.nf {f g a b : Cv} (hf : f.Ok) (hg : g.Ok) (ha : NF f.at a) (hb : NF g.at b) {k : Nat} {i : Bool} {v A : Nat} (h : AheadS a b k i v A) : AheadS f g k i v A := by
  have e1 : a.infAt = f.infAt := by funext t; exact propext (ha.inf_iff hf t)
  have e2 : b.infAt = g.infAt := by funext t; exact propext (hb.inf_iff hg t)
  unfold AheadS AB at *
  rw [e1, e2, ha.same, hb.same] at h
  exact h

/-! ### Periods of normal forms -/
theorem NFin.per_dvd {h : Nat → Int} {g : Cv} (hg : NFin h g) {s p : Nat} {b : Int} (hp : 1 ≤ p) (H : Per h s p b) : g.per.toNat ∣ p := by
  obtain ⟨r, k, b', hr, hk, _, hR, hle⟩ := per_least hp H
  have h1 := hg.least _ _ _ hr hR
  have h2 := hle _ _ _ (by have := hg.p1; omega) hg.per
  have e : g.per.toNat = r := by omega
  rw [e, hk]
  exact Nat.dvd_mul_left r k
theorem NF.per_dvd {h : Nat → Int} {g : Cv} (hg : NF h g) {s p : Nat} {b : Int} (hp : 1 ≤ p) (H : Per h s p b) : g.per.toNat ∣ p := by
  rcases hg with hg | hg
  · exact hg.per_dvd hp H
  · rw [hg.p1]; exact Nat.one_dvd p
theorem comm_dvd {p q n : Nat} (hp : p ∣ n) (hq : q ∣ n) (hn : 1 ≤ n) : comm p q ∣ n := by
  have hp1 : 1 ≤ p := Nat.pos_of_dvd_of_pos hp hn
  have e : comm p q = Nat.lcm p q := by
    unfold comm Nat.lcm
    have hd : Nat.gcd p q ∣ p := Nat.gcd_dvd_left p q
    rw [Nat.div_mul_right_comm hd]
  rw [e]
  exact Nat.lcm_dvd hp hq
theorem comm_le {p q n : Nat} (hp : p ∣ n) (hq : q ∣ n) (hn : 1 ≤ n) : comm p q ≤ n := Nat.le_of_dvd hn (comm_dvd hp hq hn)
theorem dvd12 {p : Nat} (h1 : 1 ≤ p) (h2 : p ≤ 4) : p ∣ 12 := by
  have : p = 1 ∨ p = 2 ∨ p = 3 ∨ p = 4 := by omega
  rcases this with rfl | rfl | rfl | rfl <;> decide
theorem DrawC.dvd {most : Nat} {f a : Cv} (h : DrawC most f) (ha : NF f.at a) : a.per.toNat ∣ 12 := by
  obtain ⟨s, q, b, h1, h2, h3⟩ := h.p4
  exact Nat.dvd_trans (ha.per_dvd h1 h3) (dvd12 h1 h2)
end Go.Proofs.Ythdibkmjoiipgaa
