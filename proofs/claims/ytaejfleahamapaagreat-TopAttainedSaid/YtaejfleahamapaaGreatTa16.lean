/- Convolution: its values, in plain words. -/
import Derived.Test.YtaejfleahamapaaGreatTa2
namespace Go.Proofs.YtaejfleahamapaaGreat
set_option linter.unusedVariables false
set_option linter.unusedSimpArgs false
section
/-! ### Reaching a value -/
def Geq (f : Cv) (v : Int) (n : Nat) : Prop := f.infAt n ∨ (v ≠ inf ∧ v ≤ f.at n)
def NoGeq (f : Cv) (v : Int) (k : Nat) : Prop := ∀ n, n < k → ¬ Geq f v n
theorem NoGeq.zero (f : Cv) (v : Int) : NoGeq f v 0 := fun n h => by omega
theorem NoGeq.succ {f : Cv} {v : Int} {k : Nat} (h : NoGeq f v k) (h1 : ¬ Geq f v k) : NoGeq f v (k + 1) := fun n hn => by
 by_cases e : n = k
 ·rw [e]; exact h1
 ·exact h n (by omega)
theorem geq_listed {f : Cv} (hf : f.Ok) {v : Int} (hv : v ≤ 4611686018427387904) {k : Nat} (hk : k < f.vals.length) : Geq f v k ↔ v ≤ nth f.vals k := by
 have h0 := (okv_iff _).1 (hf.v k hk)
 have h1 := hf.at_bd (n := k) (by have := hf.n2; omega)
 rw [Cv.at_lt hk] at h1
 unfold Geq
 rw [Cv.at_lt hk]
 constructor
 ·rintro (h | h)
  ·have := h.2; rw [Cv.at_lt hk] at this; rw [this]; exact hv
  ·exact h.2
 ·intro h
  by_cases e : nth f.vals k = inf
  ·exact .inl (h1.2.2 e)
  ·rcases h0 with h0 | h0
   ·exact absurd h0 e
   ·exact .inr ⟨by unfold inf; omega, h⟩
theorem noGeq_fin {f : Cv} (hf : f.Ok) {v : Int} (h : NoGeq f v f.vals.length) : f.Fin := by
 refine ⟨hf, fun e => h (f.vals.length - 1) (by have := hf.n1; omega) (.inl ⟨e, hf.at_inf e (by omega)⟩)⟩
theorem reach_inf {f : Cv} (hf : f.Ok) (h : NoGeq f inf f.vals.length) : ExS (Geq f inf) 0 false := by
 have hF := noGeq_fin hf h
 exact .inr ⟨rfl, rfl, fun n hn => by
  rcases hn with hn | hn
  ·exact hF.not_infAt n hn
  ·exact hn.1 rfl⟩
theorem reach_flat {f : Cv} (hf : f.Ok) {v : Int} (h : NoGeq f v f.vals.length) (hi : f.inc = 0) : ExS (Geq f v) 0 false := by
 have hF := noGeq_fin hf h
 have hp1 := hf.p1; have hpn := hf.pn
 refine .inr ⟨rfl, rfl, fun n => ?_⟩
 induction n using Nat.strongRecOn with
 | _ n ih =>
   by_cases hn : n < f.vals.length
   ·exact h n hn
   ·obtain ⟨u, rfl⟩ : ∃ u, n = u + f.per.toNat := ⟨n - f.per.toNat, by omega⟩
    have h1 := ih u (by omega)
    rintro (h2 | ⟨h2, h3⟩)
    ·exact hF.not_infAt _ h2
    ·rw [hF.toL.step u (by omega), hi] at h3
     exact h1 (.inr ⟨h2, by omega⟩)
theorem reach_yes {f : Cv} {v : Int} {k : Nat} (h : NoGeq f v k) (h1 : Geq f v k) : ExS (Geq f v) k true := .inl ⟨rfl, k, rfl, h1, h⟩
theorem reach_far {f : Cv} (hf : f.Ok) {v : Int} (h : NoGeq f v f.vals.length) {k : Nat} (hk : ((k : Int) - 1) * f.inc < v - nth f.vals (f.vals.length - 1)) (hk1 : 1 ≤ k) : NoGeq f v (f.vals.length + (k - 1) * f.per.toNat) := by
 have hF := noGeq_fin hf h
 have hp1 := hf.p1; have hpn := hf.pn
 intro n hn
 rintro (h2 | ⟨h2, h3⟩)
 ·exact hF.not_infAt _ h2
 ·have e1 := hF.toL.step.mul (k - 1) (f.vals.length - 1) (by omega)
  have h4 := hf.at_le (show n ≤ f.vals.length - 1 + (k - 1) * f.per.toNat by omega)
  rw [e1, Cv.at_lt (t := f.vals.length - 1) (by omega)] at h4
  have e2 : ((k - 1 : Nat) : Int) = (k : Int) - 1 := by omega
  rw [e2] at h4
  omega
theorem reach_end {f : Cv} (hF : f.Fin) {v : Int} (hv : v ≠ inf) {k : Nat} (hk : v - nth f.vals (f.vals.length - 1) ≤ (k : Int) * f.inc) : Geq f v (f.vals.length - 1 + k * f.per.toNat) := by
 have hp1 := hF.1.p1; have hpn := hF.1.pn
 have e1 := hF.toL.step.mul k (f.vals.length - 1) (by omega)
 rw [Cv.at_lt (t := f.vals.length - 1) (by omega)] at e1
 exact .inr ⟨hv, by rw [e1]; omega⟩
/-! ### The delay -/
def LeAt (f g : Cv) (t u : Nat) : Prop := g.infAt u ∨ (¬ f.infAt t ∧ f.at t ≤ g.at u)
theorem LeAt.mono {f g : Cv} (hg : g.Ok) {t u u' : Nat} (h : LeAt f g t u) (hu : u ≤ u') : LeAt f g t u' := by
 rcases h with h | ⟨h1, h2⟩
 ·exact .inl (h.later hg hu)
 ·exact .inr ⟨h1, Int.le_trans h2 (hg.at_le hu)⟩
theorem geq_le {f g : Cv} (hf : f.Ok) {t : Nat} (ht : t ≤ 4000000000) (n : Nat) : Geq g (f.at t) n ↔ LeAt f g t n := by
 have h1 := hf.at_bd ht
 unfold Geq LeAt
 have e : f.infAt t ↔ f.at t = inf := ⟨fun h => h.2, h1.2.2⟩
 rw [e]
def DB (f g : Cv) (M : Nat) : Prop := ∀ t, LeAt f g t (t + M)
def DelayS (f g : Cv) (i : Bool) (v A : Nat) : Prop :=
 (i = true ∧ v = 0 ∧ A = 0 ∧ ∀ M, ¬ DB f g M) ∨ (i = false ∧ DB f g v ∧ (v = 0 → A = 0) ∧ ∀ u, v = u + 1 → ¬ LeAt f g A (A + u) ∧ ∀ t, t < A → LeAt f g t (t + u))
theorem DelayS.unique {f g : Cv} (hg : g.Ok) {i j : Bool} {v A w B : Nat} (h : DelayS f g i v A) (k : DelayS f g j w B) : i = j ∧ v = w ∧ A = B := by
 rcases h with ⟨rfl, rfl, rfl, h⟩ | ⟨rfl, h1, h2, h3⟩ <;> rcases k with ⟨rfl, rfl, rfl, k⟩ | ⟨rfl, k1, k2, k3⟩
 ·exact ⟨rfl, rfl, rfl⟩
 ·exact absurd k1 (h _)
 ·exact absurd h1 (k _)
 ·have hvw : v = w := by
   rcases Nat.lt_trichotomy v w with e | e | e
   ·exfalso
    obtain ⟨u, rfl⟩ : ∃ u, w = u + 1 := ⟨w - 1, by omega⟩
    exact (k3 u rfl).1 ((h1 B).mono hg (by omega))
   ·exact e
   ·exfalso
    obtain ⟨u, rfl⟩ : ∃ u, v = u + 1 := ⟨v - 1, by omega⟩
    exact (h3 u rfl).1 ((k1 A).mono hg (by omega))
  subst hvw
  refine ⟨rfl, rfl, ?_⟩
  rcases Nat.eq_zero_or_pos v with e | e
  ·rw [h2 e, k2 e]
  ·obtain ⟨u, rfl⟩ : ∃ u, v = u + 1 := ⟨v - 1, by omega⟩
   have h4 := h3 u rfl; have k4 := k3 u rfl
   rcases Nat.lt_trichotomy A B with e | e | e
   ·exact absurd (k4.2 A e) h4.1
   ·exact e
   ·exact absurd (h4.2 B e) k4.1
structure DelI (f g : Cv) (k v A : Nat) : Prop where
 le : ∀ t, t < k → LeAt f g t (t + v)
 z : v = 0 → A = 0
 s : ∀ u, v = u + 1 → A < k ∧ ¬ LeAt f g A (A + u) ∧ ∀ t, t < A → LeAt f g t (t + u)
theorem DelI.zero (f g : Cv) : DelI f g 0 0 0 := ⟨fun t h => by omega, fun _ => rfl, fun u h => by omega⟩
theorem DelI.less {f g : Cv} (hg : g.Ok) {k v A r : Nat} (h : DelI f g k v A) (h1 : LeAt f g k r) (h2 : r ≤ k + v) : DelI f g (k + 1) v A :=
 ⟨fun t ht => by
  by_cases e : t = k
  ·rw [e]; exact h1.mono hg h2
  ·exact h.le t (by omega), h.z, fun u hu => ⟨by have := (h.s u hu).1; omega, (h.s u hu).2⟩⟩
theorem DelI.more {f g : Cv} (hg : g.Ok) {k v A r : Nat} (h : DelI f g k v A) (h1 : LeAt f g k r) (h0 : ∀ m, m < r → ¬ LeAt f g k m) (h2 : k + v < r) : DelI f g (k + 1) (r - k) k :=
 ⟨fun t ht => by
  by_cases e : t = k
  ·rw [e]; exact h1.mono hg (by omega)
  ·exact (h.le t (by omega)).mono hg (by omega), fun e => by omega, fun u hu => ⟨by omega, h0 _ (by omega), fun t ht => (h.le t ht).mono hg (by omega)⟩⟩
def Loose (a b : Cv) : Prop := b.Fin ∧ (¬ a.Fin ∨ ordD a b > 0)
theorem LeAt.step {a b : Cv} (ha : a.Ok) (hb : b.Ok) (hl : ¬ Loose a b) {t u : Nat} (ht : ordF a b ≤ t) (hu : ordF a b ≤ u) (h : LeAt a b t u) : LeAt a b (t + ordC a b) (u + ordC a b) := by
 rcases hb.fin_or with fb | ib
 ·have fa : a.Fin := Classical.byContradiction fun h' => hl ⟨fb, .inl h'⟩
  have hd : ordD a b ≤ 0 := by
   by_cases h' : ordD a b ≤ 0
   ·exact h'
   ·exact absurd ⟨fb, .inr (by omega)⟩ hl
  rcases h with h | ⟨_, h⟩
  ·exact absurd h (fb.not_infAt u)
  ·refine .inr ⟨fa.not_infAt _, ?_⟩
   have hp := ha.p1; have hq := hb.p1
   have hk := comm_facts (p := a.per.toNat) (q := b.per.toNat) (by omega) (by omega)
   have e1 := fa.toL.step.mul (ordC a b / a.per.toNat) t (by unfold ordF at ht; omega)
   have e2 := fb.toL.step.mul (ordC a b / b.per.toNat) u (by unfold ordF at hu; omega)
   unfold ordD at hd
   have k1 : ordC a b / a.per.toNat * a.per.toNat = ordC a b := hk.1.symm
   have k2 : ordC a b / b.per.toNat * b.per.toNat = ordC a b := hk.2.1.symm
   rw [k1] at e1
   rw [k2] at e2
   rw [e1, e2]
   omega
 ·exact .inl (hb.infAt_start ib (by unfold ordF at hu; omega))
theorem DelI.done {a b : Cv} (ha : a.Ok) (hb : b.Ok) (hl : ¬ Loose a b) {v A T : Nat} (hT : ordF a b + ordC a b ≤ T) (h : DelI a b T v A) : DelayS a b false v A := by
 have hp := ha.p1; have hq := hb.p1
 have hk := comm_facts (p := a.per.toNat) (q := b.per.toNat) (by omega) (by omega)
 have hc1 : 1 ≤ ordC a b := hk.2.2.1
 refine .inr ⟨rfl, fun t => ?_, h.z, fun u hu => (h.s u hu).2⟩
 induction t using Nat.strongRecOn with
 | _ t ih =>
   by_cases ht : t < T
   ·exact h.le t ht
   ·obtain ⟨r, rfl⟩ : ∃ r, t = r + ordC a b := ⟨t - ordC a b, by omega⟩
    have := (ih r (by omega)).step ha hb hl (by omega) (by omega)
    rw [show r + v + ordC a b = r + ordC a b + v by omega] at this
    exact this
theorem not_db {a b : Cv} {t : Nat} (h : ∀ n, ¬ LeAt a b t n) : DelayS a b true 0 0 := .inl ⟨rfl, rfl, rfl, fun M hM => h _ (hM t)⟩
theorem gain_far {a b : Cv} (fa : a.Fin) (fb : b.Fin) (hd : 0 < ordD a b) (x : Nat) (M : Int) : ∃ k : Nat, b.at (x + ordF a b + k * ordC a b) + M < a.at (ordF a b + k * ordC a b) := by
 have hp := fa.1.p1; have hq := fb.1.p1
 have hk := comm_facts (p := a.per.toNat) (q := b.per.toNat) (by omega) (by omega)
 have k1 : ordC a b / a.per.toNat * a.per.toNat = ordC a b := hk.1.symm
 have k2 : ordC a b / b.per.toNat * b.per.toNat = ordC a b := hk.2.1.symm
 have P1 := fa.toL.step.mul (ordC a b / a.per.toNat)
 have P2 := fb.toL.step.mul (ordC a b / b.per.toNat)
 rw [k1] at P1
 rw [k2] at P2
 obtain ⟨D, hD⟩ : ∃ D, D = b.at (x + ordF a b) + M - a.at (ordF a b) := ⟨_, rfl⟩
 refine ⟨D.toNat + 1, ?_⟩
 have e1 := P1.mul (D.toNat + 1) (ordF a b) (by unfold ordF; omega)
 have e2 := P2.mul (D.toNat + 1) (x + ordF a b) (by unfold ordF; omega)
 rw [e1, e2]
 have h1 : ((D.toNat + 1 : Nat) : Int) * 1 ≤ ((D.toNat + 1 : Nat) : Int) * ordD a b := Int.mul_le_mul_of_nonneg_left (by omega) (by omega)
 unfold ordD at h1
 rw [Int.mul_sub] at h1
 omega
theorem loose_del {a b : Cv} (ha : a.Ok) (h : Loose a b) : DelayS a b true 0 0 := by
 obtain ⟨fb, h | h⟩ := h
 ·have ia : nth a.vals (a.vals.length - 1) = inf := by
   rcases ha.fin_or with h' | h'
   ·exact absurd h' h
   ·exact h'
  refine not_db (t := ordF a b) (fun n => ?_)
  rintro (h' | h')
  ·exact fb.not_infAt n h'
  ·exact h'.1 (ha.infAt_start ia (by unfold ordF; omega))
 ·by_cases fa : a.Fin
  ·refine .inl ⟨rfl, rfl, rfl, fun M hM => ?_⟩
   obtain ⟨k, hk⟩ := gain_far fa fb h M 0
   rcases hM (ordF a b + k * ordC a b) with h' | h'
   ·exact fb.not_infAt _ h'
   ·have := h'.2
    rw [show ordF a b + k * ordC a b + M = M + ordF a b + k * ordC a b by omega] at this
    omega
  ·have ia : nth a.vals (a.vals.length - 1) = inf := by
    rcases ha.fin_or with h' | h'
    ·exact absurd h' fa
    ·exact h'
   refine not_db (t := ordF a b) (fun n => ?_)
   rintro (h' | h')
   ·exact fb.not_infAt n h'
   ·exact h'.1 (ha.infAt_start ia (by unfold ordF; omega))
/-! ### Backlog and peak -/
def AB (f g : Cv) (k M : Nat) : Prop := ∀ t, g.infAt t ∨ (¬ f.infAt (t + k) ∧ f.at (t + k) ≤ g.at t + M)
def AheadS (f g : Cv) (k : Nat) (i : Bool) (v A : Nat) : Prop :=
 (i = true ∧ v = 0 ∧ A = 0 ∧ ∀ M, ¬ AB f g k M) ∨ (i = false ∧ AB f g k v ∧ (v = 0 → A = 0) ∧ (0 < v → (¬ g.infAt A ∧ f.at (A + k) = g.at A + v) ∧ ∀ t, t < A → g.infAt t ∨ f.at (t + k) < g.at t + v))
structure AhI (f g : Cv) (k K v A : Nat) : Prop where
 le : ∀ t, t < K → g.infAt t ∨ (¬ f.infAt (t + k) ∧ f.at (t + k) ≤ g.at t + v)
 z : v = 0 → A = 0
 s : 0 < v → (¬ g.infAt A ∧ f.at (A + k) = g.at A + v) ∧ ∀ t, t < A → g.infAt t ∨ f.at (t + k) < g.at t + v
theorem AhI.zero (f g : Cv) (k : Nat) : AhI f g k 0 0 0 := ⟨fun t h => by omega, fun _ => rfl, fun h => by omega⟩
theorem AhI.less {f g : Cv} {k K v A : Nat} (h : AhI f g k K v A) (h1 : g.infAt K ∨ (¬ f.infAt (K + k) ∧ f.at (K + k) ≤ g.at K + v)) : AhI f g k (K + 1) v A :=
 ⟨fun t ht => by
  by_cases e : t = K
  ·rw [e]; exact h1
  ·exact h.le t (by omega), h.z, h.s⟩
theorem AhI.more {f g : Cv} {k K v A d : Nat} (h : AhI f g k K v A) (h1 : ¬ g.infAt K) (h2 : ¬ f.infAt (K + k)) (h3 : f.at (K + k) = g.at K + d) (hd : v < d) : AhI f g k (K + 1) d K :=
 ⟨fun t ht => by
  by_cases e : t = K
  ·rw [e]; exact .inr ⟨h2, by omega⟩
  ·rcases h.le t (by omega) with h4 | h4
   ·exact .inl h4
   ·exact .inr ⟨h4.1, by omega⟩, fun e => by omega, fun _ => ⟨⟨h1, h3⟩, fun t ht => by
  rcases h.le t (by omega) with h4 | h4
  ·exact .inl h4
  ·exact .inr (by omega)⟩⟩
theorem AhI.done {a b : Cv} (ha : a.Ok) (hb : b.Ok) (hl : ¬ Loose a b) {k v A T : Nat} (hT : ordF a b + ordC a b ≤ T) (h : AhI a b k T v A) : AheadS a b k false v A := by
 have hp := ha.p1; have hq := hb.p1
 have hk := comm_facts (p := a.per.toNat) (q := b.per.toNat) (by omega) (by omega)
 have hc1 : 1 ≤ ordC a b := hk.2.2.1
 refine .inr ⟨rfl, fun t => ?_, h.z, h.s⟩
 induction t using Nat.strongRecOn with
 | _ t ih =>
   by_cases ht : t < T
   ·exact h.le t ht
   ·obtain ⟨r, rfl⟩ : ∃ r, t = r + ordC a b := ⟨t - ordC a b, by omega⟩
    rcases hb.fin_or with fb | ib
    ·have fa : a.Fin := Classical.byContradiction fun h' => hl ⟨fb, .inl h'⟩
     have hd : ordD a b ≤ 0 := by
      by_cases h' : ordD a b ≤ 0
      ·exact h'
      ·exact absurd ⟨fb, .inr (by omega)⟩ hl
     rcases ih r (by omega) with h5 | ⟨_, h5⟩
     ·exact absurd h5 (fb.not_infAt _)
     ·refine .inr ⟨fa.not_infAt _, ?_⟩
      have e1 := fa.toL.step.mul (ordC a b / a.per.toNat) (r + k) (by unfold ordF at hT; omega)
      have e2 := fb.toL.step.mul (ordC a b / b.per.toNat) r (by unfold ordF at hT; omega)
      unfold ordD at hd
      have k1 : ordC a b / a.per.toNat * a.per.toNat = ordC a b := hk.1.symm
      have k2 : ordC a b / b.per.toNat * b.per.toNat = ordC a b := hk.2.1.symm
      rw [k1] at e1
      rw [k2] at e2
      rw [show r + ordC a b + k = r + k + ordC a b by omega, e1, e2]
      omega
    ·exact .inl (hb.infAt_start ib (by unfold ordF at hT; omega))
theorem not_ab {a b : Cv} {k t : Nat} (h1 : ¬ b.infAt t) (h2 : a.infAt (t + k)) : AheadS a b k true 0 0 := .inl ⟨rfl, rfl, rfl, fun M hM => by
 rcases hM t with h | h
 ·exact h1 h
 ·exact h.1 h2⟩
theorem loose_ahead {a b : Cv} (ha : a.Ok) (k : Nat) (h : Loose a b) : AheadS a b k true 0 0 := by
 obtain ⟨fb, h⟩ := h
 by_cases fa : a.Fin
 ·have hd : 0 < ordD a b := h.resolve_left (fun h' => h' fa)
  refine .inl ⟨rfl, rfl, rfl, fun M hM => ?_⟩
  obtain ⟨j, hj⟩ := gain_far fa fb hd 0 M
  rcases hM (ordF a b + j * ordC a b) with h' | h'
  ·exact fb.not_infAt _ h'
  ·have h1 := h'.2
   have h2 := ha.at_le (show ordF a b + j * ordC a b ≤ ordF a b + j * ordC a b + k by omega)
   rw [show 0 + ordF a b + j * ordC a b = ordF a b + j * ordC a b by omega] at hj
   omega
 ·have ia : nth a.vals (a.vals.length - 1) = inf := by
   rcases ha.fin_or with h' | h'
   ·exact absurd h' fa
   ·exact h'
  exact not_ab (t := ordF a b) (fb.not_infAt _) (ha.infAt_start ia (by unfold ordF; omega))
/-! ### The same of the normal forms -/
theorem leAt_nf {f g a b : Cv} (hf : f.Ok) (hg : g.Ok) (ha : NF f.at a) (hb : NF g.at b) (t u : Nat) : LeAt a b t u ↔ LeAt f g t u := by
 unfold LeAt
 rw [ha.at, hb.at, ha.inf_iff hf, hb.inf_iff hg]
theorem DelayS.nf {f g a b : Cv} (hf : f.Ok) (hg : g.Ok) (ha : NF f.at a) (hb : NF g.at b) {i : Bool} {v A : Nat} (h : DelayS a b i v A) : DelayS f g i v A := by
 have e : LeAt a b = LeAt f g := by funext t u; exact propext (leAt_nf hf hg ha hb t u)
 unfold DelayS DB at *
 rw [e] at h
 exact h
theorem AheadS.nf {f g a b : Cv} (hf : f.Ok) (hg : g.Ok) (ha : NF f.at a) (hb : NF g.at b) {k : Nat} {i : Bool} {v A : Nat} (h : AheadS a b k i v A) : AheadS f g k i v A := by
 have e1 : a.infAt = f.infAt := by funext t; exact propext (ha.inf_iff hf t)
 have e2 : b.infAt = g.infAt := by funext t; exact propext (hb.inf_iff hg t)
 unfold AheadS AB at *
 rw [e1, e2, ha.same, hb.same] at h
 exact h
/-! ### Periods of normal forms -/
theorem NFin.per_dvd {h : Nat → Int} {g : Cv} (hg : NFin h g) {s p : Nat} {b : Int} (hp : 1 ≤ p) (H : Per h s p b) : g.per.toNat ∣ p := by
 obtain ⟨r, k, b', hr, hk, _, hR, hle⟩ := per_least hp H
 have h1 := hg.least _ _ _ hr hR
 have h2 := hle _ _ _ (by have := hg.p1; omega) hg.per
 have e : g.per.toNat = r := by omega
 rw [e, hk]
 exact Nat.dvd_mul_left r k
theorem NF.per_dvd {h : Nat → Int} {g : Cv} (hg : NF h g) {s p : Nat} {b : Int} (hp : 1 ≤ p) (H : Per h s p b) : g.per.toNat ∣ p := by
 rcases hg with hg | hg
 ·exact hg.per_dvd hp H
 ·rw [hg.p1]; exact Nat.one_dvd p
end
section
def rmx (r : Nat → Int) (lo : Int) : Nat → Int
 | 0 => lo
 | k + 1 => max (rmx r lo k) (r k)
theorem rmx_ge (r : Nat → Int) (lo : Int) (k : Nat) : lo ≤ rmx r lo k := by
 induction k with
 | zero => exact Int.le_refl _
 | succ k ih => show lo ≤ max _ _; omega
theorem rmx_val (r : Nat → Int) (lo : Int) {k j : Nat} (h : j < k) : r j ≤ rmx r lo k := by
 induction k with
 | zero => omega
 | succ k ih =>
   show r j ≤ max _ _
   rcases Nat.lt_or_ge j k with h1 | h1
   ·have := ih h1; omega
   ·obtain rfl : j = k := by omega
    omega
theorem rmx_le {r : Nat → Int} {lo M : Int} {k : Nat} (h0 : lo ≤ M) (h : ∀ j, j < k → r j ≤ M) : rmx r lo k ≤ M := by
 induction k with
 | zero => exact h0
 | succ k ih =>
   show max _ _ ≤ M
   have := ih (fun j hj => h j (by omega))
   have := h k (by omega)
   omega
theorem rmx_at (r : Nat → Int) (lo : Int) (k : Nat) : rmx r lo k = lo ∨ ∃ j, j < k ∧ rmx r lo k = r j := by
 induction k with
 | zero => exact .inl rfl
 | succ k ih =>
   show max _ _ = _ ∨ ∃ j, _ ∧ max _ _ = _
   by_cases h : rmx r lo k ≤ r k
   ·exact .inr ⟨k, by omega, by omega⟩
   ·rcases ih with h1 | ⟨j, hj, h1⟩
    ·exact .inl (by omega)
    ·exact .inr ⟨j, by omega, by omega⟩
theorem rmx_mono (r : Nat → Int) (lo : Int) {k m : Nat} (h : k ≤ m) : rmx r lo k ≤ rmx r lo m := rmx_le (rmx_ge _ _ _) (fun j hj => rmx_val _ _ (by omega))
def restV (a b : Cv) (t : Nat) : Int := rmx (dif a b) 0 (t + 1)
def tailV (a b : Cv) (k : Nat) : Int := rmx (fun j => dif a b (ordF a b + j)) (-4611686018427387904) k
def rstFrom (a b : Cv) : Nat := if 0 < ordD a b then max 400 (ordF a b + ordC a b) else ordF a b + ordC a b
def rstPer (a b : Cv) : Nat := if 0 < ordD a b then ordC a b else 1
def rstInc (a b : Cv) : Int := if 0 < ordD a b then ordD a b else 0
def RstBad (a b : Cv) : Prop := 0 < ordD a b ∧ tailV a b (rstFrom a b + 1 - ordF a b) < rmx (dif a b) 0 (ordF a b)
section
variable {a b : Cv}
theorem rest_split (k : Nat) : rmx (dif a b) 0 (ordF a b + k) = max (rmx (dif a b) 0 (ordF a b)) (tailV a b k) := by
 induction k with
 | zero =>
   have := rmx_ge (dif a b) 0 (ordF a b)
   show rmx (dif a b) 0 (ordF a b) = max _ (-4611686018427387904)
   omega
 | succ k ih =>
   show max (rmx (dif a b) 0 (ordF a b + k)) (dif a b (ordF a b + k)) = max _ (max (tailV a b k) (dif a b (ordF a b + k)))
   omega
theorem rest_val (a b : Cv) (k : Nat) : restV a b k = max (rmx (dif a b) 0 (min (k + 1) (ordF a b))) (tailV a b (k + 1 - ordF a b)) := by
 by_cases h : k + 1 ≤ ordF a b
 ·rw [show min (k + 1) (ordF a b) = k + 1 by omega, show k + 1 - ordF a b = 0 by omega]
  have := rmx_ge (dif a b) 0 (k + 1)
  show rmx (dif a b) 0 (k + 1) = max _ (-4611686018427387904)
  omega
 ·rw [show min (k + 1) (ordF a b) = ordF a b by omega]
  have := rest_split (a := a) (b := b) (k + 1 - ordF a b)
  rw [show ordF a b + (k + 1 - ordF a b) = k + 1 by omega] at this
  exact this
theorem rest_per (ha : a.Fin) (hb : b.Fin) (hC : 1 ≤ ordC a b) (hbad : ¬ RstBad a b) : Per (restV a b) (rstFrom a b) (rstPer a b) (rstInc a b) := by
 have P := ord_per ha hb
 obtain ⟨F, hF⟩ : ∃ F, F = ordF a b := ⟨_, rfl⟩
 obtain ⟨C, hCe⟩ : ∃ C, C = ordC a b := ⟨_, rfl⟩
 obtain ⟨D, hD⟩ : ∃ D, D = ordD a b := ⟨_, rfl⟩
 rw [← hF, ← hCe, ← hD] at P
 rw [← hCe] at hC
 by_cases hd : 0 < D
 ·have e1 : rstPer a b = C := by unfold rstPer; rw [← hD, if_pos hd, hCe]
  have e2 : rstInc a b = D := by unfold rstInc; rw [← hD, if_pos hd]
  have e3 : rstFrom a b = max 400 (F + C) := by unfold rstFrom; rw [← hD, if_pos hd, ← hF, ← hCe]
  rw [e1, e2, e3]
  intro t ht
  have hm : rmx (dif a b) 0 F ≤ tailV a b (max 400 (F + C) + 1 - F) := by
   rcases Int.lt_or_le (tailV a b (max 400 (F + C) + 1 - F)) (rmx (dif a b) 0 F) with h | h
   ·exact absurd ⟨by rw [← hD]; exact hd, by rw [e3, ← hF]; exact h⟩ hbad
   ·exact h
  have key : ∀ u, max 400 (F + C) ≤ u → ∃ j, F ≤ j ∧ j ≤ u ∧ restV a b u = dif a b j := by
   intro u hu
   rcases rmx_at (dif a b) 0 (u + 1) with h | ⟨j, hj, h⟩
   ·-- the value 0: then the tail is at most 0 as well
    have h1 : tailV a b (max 400 (F + C) + 1 - F) = -4611686018427387904 ∨ ∃ j, j < max 400 (F + C) + 1 - F ∧ tailV a b (max 400 (F + C) + 1 - F) = dif a b (ordF a b + j) := rmx_at _ _ _
    have h2 := rmx_ge (dif a b) 0 F
    rcases h1 with h1 | ⟨j, hj, h1⟩
    ·omega
    ·refine ⟨F + j, by omega, by omega, ?_⟩
     have h3 := rmx_val (dif a b) 0 (k := u + 1) (j := F + j) (by omega)
     rw [← hF] at h1
     show rmx (dif a b) 0 (u + 1) = _
     omega
   ·by_cases hj2 : F ≤ j
    ·exact ⟨j, hj2, by omega, h⟩
    ·have h1 : tailV a b (max 400 (F + C) + 1 - F) = -4611686018427387904 ∨ ∃ j, j < max 400 (F + C) + 1 - F ∧ tailV a b (max 400 (F + C) + 1 - F) = dif a b (ordF a b + j) := rmx_at _ _ _
     have h2 := rmx_ge (dif a b) 0 F
     have h4 := rmx_val (dif a b) 0 (k := F) (j := j) (by omega)
     rcases h1 with h1 | ⟨i, hi, h1⟩
     ·omega
     ·refine ⟨F + i, by omega, by omega, ?_⟩
      have h3 := rmx_val (dif a b) 0 (k := u + 1) (j := F + i) (by omega)
      rw [← hF] at h1
      show rmx (dif a b) 0 (u + 1) = _
      omega
  obtain ⟨j, hj1, hj2, hj3⟩ := key t ht
  obtain ⟨i, hi1, hi2, hi3⟩ := key (t + C) (by omega)
  have a1 : dif a b (j + C) ≤ restV a b (t + C) := rmx_val _ _ (by omega)
  rw [P j hj1] at a1
  have a2 : dif a b i ≤ restV a b t + D := by
   by_cases hi4 : F + C ≤ i
   ·have h1 := P (i - C) (by omega)
    rw [show i - C + C = i by omega] at h1
    have h2 : dif a b (i - C) ≤ restV a b t := rmx_val _ _ (by omega)
    omega
   ·have h2 : dif a b i ≤ restV a b t := rmx_val _ _ (by omega)
    omega
  omega
 ·have e1 : rstPer a b = 1 := by unfold rstPer; rw [← hD, if_neg hd]
  have e2 : rstInc a b = 0 := by unfold rstInc; rw [← hD, if_neg hd]
  have e3 : rstFrom a b = F + C := by unfold rstFrom; rw [← hD, if_neg hd, ← hF, ← hCe]
  rw [e1, e2, e3]
  have low : ∀ t, dif a b t ≤ rmx (dif a b) 0 (F + C) := by
   intro t
   induction t using Nat.strongRecOn with
   | ind t ih =>
     by_cases ht : t < F + C
     ·exact rmx_val _ _ ht
     ·have h1 := P (t - C) (by omega)
      rw [show t - C + C = t by omega] at h1
      have := ih (t - C) (by omega)
      omega
  have con : ∀ t, F + C ≤ t + 1 → restV a b t = rmx (dif a b) 0 (F + C) := fun t ht => by
   have h1 : restV a b t ≤ rmx (dif a b) 0 (F + C) := rmx_le (rmx_ge _ _ _) (fun j _ => low j)
   have h2 : rmx (dif a b) 0 (F + C) ≤ restV a b t := rmx_mono _ _ ht
   omega
  intro t ht
  rw [con t (by omega), con (t + 1) (by omega), Int.add_zero]
end
end
section
def OneS (lo hi : Int) (S : Cv → Cv → Int → Prop) (f : Cv) (n : Int) (r : Cv) (er : Int) : Prop :=
 (¬ f.Ok ∧ r = Cv.none ∧ er = 1) ∨ (f.Ok ∧ (n < lo ∨ hi < n) ∧ r = Cv.none ∧ er = 2) ∨ (f.Ok ∧ lo ≤ n ∧ n ≤ hi ∧ ∃ a, NF f.at a ∧ S a r er)
/-! ### Later -/
theorem inf_pos : (0 : Int) ≠ inf := by unfold inf; omega
theorem zero_nf : NF (fun _ => 0) ⟨[0], 1, 0⟩ := by
 refine .inl ⟨by show (1 : Int) ≤ 1; omega, by show (1 : Int) ≤ 1; omega, fun t ht => ?_, fun t ht => by show (0 : Int) = 0 + 0; omega, fun q s b h1 h2 => h1, .inl rfl, fun t ht => inf_pos⟩
 have : t = 0 := by have : t < 1 := ht; omega
 rw [this]; rfl
theorem nf_zero {f a : Cv} (ha : NF f.at a) (h : ∀ t, a.at t = 0) : a = ⟨[0], 1, 0⟩ := by
 have e : f.at = fun _ => 0 := funext fun t => by rw [← ha.at]; exact h t
 rw [e] at ha
 exact ha.unique zero_nf
/-! ### Scale -/
end
section
def MadeL (h : Nat → Int) (f : Cv) (er : Int) : Prop := (NF h f ∧ Lim f ∧ er = 0) ∨ ((∀ g, NF h g → ¬ Lim g) ∧ f = Cv.none ∧ er = 3)
theorem MadeS.toL {h : Nat → Int} {f : Cv} {er : Int} (m : MadeS h f er) : MadeL h f er := by
 obtain ⟨g, hg, ⟨hl, rfl, rfl⟩ | ⟨hl, rfl, rfl⟩⟩ := m
 ·exact .inl ⟨hg, hl, rfl⟩
 ·exact .inr ⟨fun g' hg' => by rw [hg'.unique hg]; exact hl, rfl, rfl⟩
theorem MadeL.unique {h : Nat → Int} {f f' : Cv} {e e' : Int} (a : MadeL h f e) (b : MadeL h f' e') : f = f' ∧ e = e' := by
 rcases a with ⟨h1, h2, rfl⟩ | ⟨h1, rfl, rfl⟩ <;> rcases b with ⟨k1, k2, rfl⟩ | ⟨k1, rfl, rfl⟩
 ·exact ⟨h1.unique k1, rfl⟩
 ·exact absurd h2 (k1 _ h1)
 ·exact absurd k2 (h1 _ k1)
 ·exact ⟨rfl, rfl⟩
theorem MadeL.get {h : Nat → Int} {f : Cv} {er : Int} (m : MadeL h f er) (H : Up0 h) : (er = 0 ∧ f.Ok ∧ NF h f) ∨ (er = 3 ∧ f = Cv.none) := by
 rcases m with ⟨h1, h2, rfl⟩ | ⟨_, rfl, rfl⟩
 ·exact .inl ⟨rfl, nf_lim_ok h1 H h2, h1⟩
 ·exact .inr ⟨rfl, rfl⟩
theorem MadeL.none_ {h : Nat → Int} (k : ∀ g, NF h g → ¬ Lim g) : MadeL h Cv.none 3 := .inr ⟨k, rfl, rfl⟩
theorem lim_per {h : Nat → Int} {g : Cv} (hg : NF h g) (hl : Lim g) (hne : h 400 ≠ inf) : ∃ (q : Nat) (b : Int), 1 ≤ q ∧ Per h 400 q b := by
 have h1 := hl.1
 rcases hg with hg | hg
 ·have hp1 := hg.p1
  exact ⟨g.per.toNat, g.inc, by omega, hg.per.mono (by omega)⟩
 ·exact absurd (hg.from_ 400 (by omega)) hne
/-! ### The lesser or the greater values -/
section
variable {l : Bool} {a b : Cv}
end
def gnA (a b : Cv) : Int := (ordC a b / a.per.toNat : Nat) * a.inc
def gnB (a b : Cv) : Int := (ordC a b / b.per.toNat : Nat) * b.inc
theorem gnA_per {a b : Cv} (ha : a.Fin) (hb : b.Ok) {s : Nat} (hs : a.vals.length - a.per.toNat ≤ s) : Per a.at s (ordC a b) (gnA a b) := by
 have hp := ha.1.p1; have hq := hb.p1
 have hk := comm_facts (p := a.per.toNat) (q := b.per.toNat) (by omega) (by omega)
 have := (ha.toL.step.mono hs).mul (ordC a b / a.per.toNat)
 rwa [show ordC a b / a.per.toNat * a.per.toNat = ordC a b from hk.1.symm] at this
theorem gnB_per {a b : Cv} (ha : a.Ok) (hb : b.Fin) {s : Nat} (hs : b.vals.length - b.per.toNat ≤ s) : Per b.at s (ordC a b) (gnB a b) := by
 have hp := ha.p1; have hq := hb.1.p1
 have hk := comm_facts (p := a.per.toNat) (q := b.per.toNat) (by omega) (by omega)
 have := (hb.toL.step.mono hs).mul (ordC a b / b.per.toNat)
 rwa [show ordC a b / b.per.toNat * b.per.toNat = ordC a b from hk.2.1.symm] at this
section
variable {l : Bool} {a b : Cv}
end
/-! ### Ahead -/
noncomputable def aheadV (a : Cv) (d t : Nat) : Int := if t = 0 then 0 else a.at (t + d)
section
variable {a : Cv} {d : Nat}
theorem aheadV_pos {t : Nat} (h : 0 < t) : aheadV a d t = a.at (t + d) := if_neg (by omega)
end
/-! ### Raise -/
open Classical in
noncomputable def raiseV (a : Cv) (c : Int) (t : Nat) : Int := if t = 0 then 0 else if a.infAt t then inf else a.at t + c
section
variable {a : Cv} {c : Int}
theorem raiseV_zero : raiseV a c 0 = 0 := if_pos rfl
theorem raiseV_fin {t : Nat} (h : 0 < t) (hf : ¬ a.infAt t) : raiseV a c t = a.at t + c := by unfold raiseV; rw [if_neg (by omega), if_neg hf]
theorem raiseV_inf {t : Nat} (h : 0 < t) (hf : a.infAt t) : raiseV a c t = inf := by unfold raiseV; rw [if_neg (by omega), if_pos hf]
theorem raise_nf {f : Cv} (hf : f.Ok) (ha : NF f.at a) : raiseV a c = raiseV f c := by
 funext t; unfold raiseV
 rw [ha.at]
 by_cases h : t = 0
 ·rw [if_pos h, if_pos h]
 ·rw [if_neg h, if_neg h]; exact ite_iff _ _ (ha.inf_iff hf t)
theorem raise_pl (ha : a.Ok) (hc : c ≤ 1073741824) {t : Nat} (h : 0 < t) (ht : t ≤ 4000000000) : raiseV a c t = pl (a.at t) c := by
 unfold raiseV pl
 rw [if_neg (by omega)]
 have h1 := ha.at_bd ht
 refine ite_iff _ _ ⟨fun h => .inl h.2, fun h => ?_⟩
 rcases h with h | h
 ·exact h1.2.2 h
 ·unfold inf at h; omega
theorem raise_up (ha : a.Ok) (hc0 : 0 ≤ c) (hc : c ≤ 1073741824) : Up0 (raiseV a c) := by
 refine ⟨by rw [raiseV_zero]; omega, fun t => ?_⟩
 rcases Nat.eq_zero_or_pos t with e | e
 ·subst e
  rw [raiseV_zero]
  by_cases h : a.infAt (0 + 1)
  ·rw [raiseV_inf (by omega) h]; unfold inf; omega
  ·rw [raiseV_fin (by omega) h]; have := ha.up0.nn (0 + 1); omega
 ·have h3 := ha.at_mono t
  by_cases h1 : a.infAt t
  ·rw [raiseV_inf e h1, raiseV_inf (by omega) (h1.later ha (by omega))]; exact Int.le_refl _
  ·by_cases h2 : a.infAt (t + 1)
   ·rw [raiseV_fin e h1, raiseV_inf (by omega) h2]
    have := (ha.fin_bd h1 (ha.last_fin h1 h2)).2
    unfold inf; omega
   ·rw [raiseV_fin e h1, raiseV_fin (by omega) h2]; omega
theorem raise_small (ha : a.Ok) (hc0 : 0 ≤ c) (hc : c ≤ 1073741824) {t : Nat} (ht : t ≤ 1000000) : 0 ≤ raiseV a c t ∧ raiseV a c t ≤ 4611686018427387904 := by
 refine ⟨(raise_up ha hc0 hc).nn t, ?_⟩
 rcases Nat.eq_zero_or_pos t with e | e
 ·subst e; rw [raiseV_zero]; omega
 ·by_cases h1 : a.infAt t
  ·rw [raiseV_inf e h1]; unfold inf; omega
  ·rw [raiseV_fin e h1]
   rcases ha.fin_or with h | h
   ·have h2 := (h.at_bd t).2
    have h4 : (t : Int) * 1073741824 ≤ 1000000 * 1073741824 := Int.mul_le_mul_of_nonneg_right (by omega) (by omega)
    omega
   ·have hlt : t < 400 := by
     rcases Nat.lt_or_ge t 400 with hh | hh
     ·exact hh
     ·exact absurd ⟨h, ha.at_inf h (by have := ha.n2; omega)⟩ h1
    have := (ha.fin_bd h1 hlt).2
    omega
theorem raise_inf (ha : a.Ok) (hc0 : 0 ≤ c) (hc : c ≤ 1073741824) {m t : Nat} (hm : m ≤ 1000000) (h : raiseV a c m = inf) (hmt : m ≤ t) : a.infAt m ∧ raiseV a c t = inf := by
 rcases Nat.eq_zero_or_pos m with e | e
 ·subst e; rw [raiseV_zero] at h; exact absurd h inf_pos
 ·have h1 : a.infAt m := by
   by_cases h1 : a.infAt m
   ·exact h1
   ·exfalso
    rw [raiseV_fin e h1] at h
    unfold inf at h
    rcases ha.fin_or with h' | h'
    ·have h2 := (h'.at_bd m).2
     have h4 : (m : Int) * 1073741824 ≤ 1000000 * 1073741824 := Int.mul_le_mul_of_nonneg_right (by omega) (by omega)
     omega
    ·have hlt : m < 400 := by
      rcases Nat.lt_or_ge m 400 with hh | hh
      ·exact hh
      ·exact absurd ⟨h', ha.at_inf h' (by have := ha.n2; omega)⟩ h1
     have := (ha.fin_bd h1 hlt).2
     omega
  exact ⟨h1, raiseV_inf (by omega) (h1.later ha hmt)⟩
theorem raise_per (ha : a.Fin) {s : Nat} (h1 : 1 ≤ s) (h2 : a.vals.length - a.per.toNat ≤ s) : Per (raiseV a c) s a.per.toNat a.inc := fun t ht => by
 rw [raiseV_fin (by omega) (ha.not_infAt _), raiseV_fin (by omega) (ha.not_infAt _), ha.toL.step t (by omega)]; omega
theorem raise_fin (ha : a.Ok) {s : Nat} (h1 : 1 ≤ s) (h2 : a.vals.length - a.per.toNat ≤ s) (hne : ∀ j, j < s + a.per.toNat → raiseV a c j ≠ inf) : a.Fin := by
 have hp := ha.p1
 rcases ha.fin_or with h | h
 ·exact h
 ·exact absurd (raiseV_inf (by omega) (ha.infAt_start h h2)) (hne s (by omega))
theorem raise_build (ha : a.Ok) (hc0 : 0 ≤ c) (hc : c ≤ 1073741824) {s : Nat} {f : Cv} {er : Int} (h1 : 1 ≤ s) (h2 : a.vals.length - a.per.toNat ≤ s) (h3 : s + a.per.toNat ≤ 1000000) (h : BuildS (raiseV a c) s a.per.toNat a.inc f er) : MadeL (raiseV a c) f er :=
 (build_made (by have := ha.p1; omega) (fun t u ht htu hi => (raise_inf ha hc0 hc (by omega) hi htu).2) (fun hne => raise_per (raise_fin ha h1 h2 hne) h1 h2) h).toL
end
def RaiseS (f : Cv) (c : Int) : Cv → Int → Prop := OneS 0 1073741824 (fun a r er => MadeL (raiseV a c) r er) f c
/-! ### Lower -/
section
variable {a : Cv} {c : Int}
end
/-! ### The table of the chosen values -/
end
section
theorem Cv.Ok.nf {f : Cv} (hf : f.Ok) : ∃ a, NF f.at a := by
 have hp1 := hf.p1; have hpn := hf.pn; have hn1 := hf.n1
 rcases hf.fin_or with hF | hi
 ·obtain ⟨g, hg, _⟩ := nf_exists (h := f.at) (s := f.vals.length - f.per.toNat) (p := f.per.toNat) (by omega) hF.toL.step (fun t ht => by rw [Cv.at_lt (by omega)]; exact (hF.ne t (by omega)).1)
  exact ⟨g, .inl hg⟩
 ·obtain ⟨m, hm1, hm2⟩ := nat_least (Q := fun m => f.at m = inf) ⟨f.vals.length - 1, hf.at_inf hi (by omega)⟩
  have hml : m ≤ f.vals.length - 1 := by
   rcases Nat.lt_or_ge (f.vals.length - 1) m with h | h
   ·exact absurd (hf.at_inf hi (by omega)) (hm2 _ h)
   ·exact h
  have hl : (Cv.mk (tab f.at 0 (m + 1)) 1 0).vals.length = m + 1 := tab_length _ _ _
  refine ⟨⟨tab f.at 0 (m + 1), 1, 0⟩, .inr ⟨rfl, rfl, by rw [hl]; omega, fun t ht => ?_, fun t ht => ?_, fun t ht => ?_⟩⟩
  ·rw [hl] at ht; show nth (tab f.at 0 (m + 1)) t = _; rw [tab_nth _ _ _ _ ht, Nat.zero_add]
  ·rw [hl] at ht; exact hm2 t (by omega)
  ·rw [hl] at ht; exact hf.inf_from (t := m) (by omega) (by omega) hm1
end
section
theorem OneS.made {lo hi : Int} {S : Cv → Cv → Int → Prop} {f r : Cv} {n er : Int} (hf : f.Ok) (h1 : lo ≤ n) (h2 : n ≤ hi) (h : OneS lo hi S f n r er) : ∃ a, NF f.at a ∧ S a r er := by
 rcases h with ⟨h, _⟩ | ⟨_, h, _⟩ | ⟨_, _, _, a, ha, h⟩
 ·exact absurd hf h
 ·omega
 ·exact ⟨a, ha, h⟩
theorem RaiseS.made {f r : Cv} {n er : Int} (hf : f.Ok) (h1 : 0 ≤ n) (h2 : n ≤ 1073741824) (h : RaiseS f n r er) : MadeL (raiseV f n) r er := by
 obtain ⟨a, ha, h⟩ := OneS.made (S := fun a r er => MadeL (raiseV a n) r er) hf h1 h2 h
 have h' : MadeL (raiseV a n) r er := h
 rwa [raise_nf hf ha] at h'
theorem MadeL.is {h : Nat → Int} {f g : Cv} {er : Int} (m : MadeL h f er) (hg : NF h g) (hl : Lim g) : f = g ∧ er = 0 := m.unique (.inl ⟨hg, hl, rfl⟩)
/-! ### The examples of the chapter -/
end
section
theorem made_fin {h : Nat → Int} {r : Cv} {er : Int} (m : MadeL h r er) (H : Up0 h) {s p : Nat} {i : Int} (hp : 1 ≤ p) (P : Per h s p i) (hsp : s + p ≤ 400) (hp2 : p ≤ 120) (hv : ∀ t, t < s + p → h t ≤ 1073741824) (hi : i ≤ 1073741824) :
 er = 0 ∧ r.Ok ∧ NF h r ∧ r.Fin := by
 obtain ⟨g, hg, h1, h2⟩ := nf_exists hp P (fun t ht => by have := hv t ht; unfold inf; omega)
 have gp1 := hg.p1; have gpn := hg.pn
 have hinc : g.inc ≤ 1073741824 := by
  have h3 := hg.per (g.vals.length - g.per.toNat) (Nat.le_refl _)
  rw [show g.vals.length - g.per.toNat + g.per.toNat = g.vals.length by omega] at h3
  have h4 := H.nn (g.vals.length - g.per.toNat)
  by_cases e : g.vals.length < s + p
  ·have := hv _ e; omega
  ·have h5 := P s (Nat.le_refl _)
   have h6 := H.le (show s ≤ g.vals.length - g.per.toNat by omega)
   rw [show g.vals.length = s + p by omega] at h3 h6
   omega
 have hl : Lim g := ⟨by omega, fun k hk => (okv_iff _).2 (.inr (by rw [hg.vals k hk]; exact hv k (by omega))), by omega, hinc⟩
 obtain ⟨rfl, rfl⟩ := m.is (.inl hg) hl
 have ok := nf_lim_ok (.inl hg) H hl
 have hn := ok.n1
 exact ⟨rfl, ok, .inl hg, ok, by rw [hg.vals _ (by omega)]; exact hg.fin _ (by omega)⟩
/-! ### The statement PointwiseUndoes -/
end
section
def CSp (f g : Cv) (t s : Nat) : Prop := s ≤ t ∧ ¬ f.infAt s ∧ ¬ g.infAt (t - s)
def CvI (f g : Cv) (lo t S : Nat) (v : Int) : Prop :=
 ((∀ s, lo ≤ s → s < S → ¬ CSp f g t s) ∧ v = inf) ∨
 ((∃ s, lo ≤ s ∧ s < S ∧ CSp f g t s ∧ v = f.at s + g.at (t - s)) ∧ ∀ s, lo ≤ s → s < S → CSp f g t s → v ≤ f.at s + g.at (t - s))
def CvT (f g : Cv) (t : Nat) (v : Int) : Prop := CvI f g 0 t (t + 1) v
def CvF (f g : Cv) (h : Nat → Int) : Prop := ∀ t, CvT f g t (h t)
theorem CvI.zero (f g : Cv) (lo t : Nat) : CvI f g lo t lo inf := .inl ⟨fun s h1 h2 => by omega, rfl⟩
theorem CvI.unique {f g : Cv} {lo t S : Nat} {v v' : Int} (h : CvI f g lo t S v) (k : CvI f g lo t S v') : v = v' := by
 rcases h with ⟨h1, rfl⟩ | ⟨⟨s, h0, h1, h2, h3⟩, h4⟩ <;> rcases k with ⟨k1, rfl⟩ | ⟨⟨s', k0, k1, k2, k3⟩, k4⟩
 ·rfl
 ·exact absurd k2 (h1 _ k0 k1)
 ·exact absurd h2 (k1 _ h0 h1)
 ·have := h4 _ k0 k1 k2; have := k4 _ h0 h1 h2; omega
section
variable {f g : Cv} {lo t S : Nat} {v : Int}
theorem CvI.skip (h : CvI f g lo t S v) (h1 : ¬ CSp f g t S) : CvI f g lo t (S + 1) v := by
 rcases h with ⟨h2, rfl⟩ | ⟨⟨s, h0, h2, h3, h4⟩, h5⟩
 ·refine .inl ⟨fun s k1 k2 => ?_, rfl⟩
  rcases Nat.lt_or_ge s S with h | h
  ·exact h2 s k1 h
  ·rw [show s = S by omega]; exact h1
 ·refine .inr ⟨⟨s, h0, by omega, h3, h4⟩, fun s' k1 k2 k3 => ?_⟩
  rcases Nat.lt_or_ge s' S with h | h
  ·exact h5 s' k1 h k3
  ·exact absurd (show CSp f g t S by rwa [show S = s' by omega]) h1
theorem CvI.more (h : CvI f g lo t S v) (hl : lo ≤ S) (h1 : CSp f g t S) (h2 : (∀ s, lo ≤ s → s < S → ¬ CSp f g t s) ∨ f.at S + g.at (t - S) ≤ v) : CvI f g lo t (S + 1) (f.at S + g.at (t - S)) := by
 refine .inr ⟨⟨S, hl, by omega, h1, rfl⟩, fun s' k1 k2 k3 => ?_⟩
 rcases Nat.lt_or_ge s' S with h3 | h3
 ·rcases h2 with h2 | h2
  ·exact absurd k3 (h2 s' k1 h3)
  ·rcases h with ⟨h4, _⟩ | ⟨_, h4⟩
   ·exact absurd k3 (h4 s' k1 h3)
   ·have := h4 s' k1 h3 k3; omega
 ·rw [show s' = S by omega]; exact Int.le_refl _
theorem CvI.keep (h : CvI f g lo t S v) (h1 : v ≤ f.at S + g.at (t - S)) (h2 : f.at S + g.at (t - S) < inf) : CvI f g lo t (S + 1) v := by
 rcases h with ⟨h3, rfl⟩ | ⟨⟨s, h0, h3, h4, h5⟩, h6⟩
 ·omega
 ·refine .inr ⟨⟨s, h0, by omega, h4, h5⟩, fun s' k1 k2 k3 => ?_⟩
  rcases Nat.lt_or_ge s' S with h | h
  ·exact h6 s' k1 h k3
  ·rw [show s' = S by omega]; exact h1
theorem cvI_exists (f g : Cv) (lo t : Nat) (S : Nat) (hS : lo ≤ S) : ∃ v, CvI f g lo t S v := by
 induction S with
 | zero => rw [show lo = 0 by omega]; exact ⟨inf, CvI.zero f g 0 t⟩
 | succ S ih =>
   rcases Nat.lt_or_ge S lo with h | h
   ·rw [show lo = S + 1 by omega]; exact ⟨inf, CvI.zero f g _ t⟩
   ·obtain ⟨v, hv⟩ := ih h
    by_cases hc : CSp f g t S
    ·rcases hv with ⟨h1, h2⟩ | ⟨h1, h2⟩
     ·exact ⟨_, CvI.more (.inl ⟨h1, h2⟩) h hc (.inl h1)⟩
     ·rcases (show v ≤ f.at S + g.at (t - S) ∨ f.at S + g.at (t - S) < v by omega) with h3 | h3
      ·obtain ⟨s, k0, k1, k2, k3⟩ := h1
       refine ⟨v, .inr ⟨⟨s, k0, by omega, k2, k3⟩, fun s' m1 m2 m3 => ?_⟩⟩
       rcases Nat.lt_or_ge s' S with h | h
       ·exact h2 s' m1 h m3
       ·rw [show s' = S by omega]; exact h3
      ·exact ⟨_, CvI.more (.inr ⟨h1, h2⟩) h hc (.inr (by omega))⟩
    ·exact ⟨v, hv.skip hc⟩
theorem CSp.symm {s : Nat} (h : CSp f g t s) : CSp g f t (t - s) := ⟨by omega, h.2.2, by rw [show t - (t - s) = s by have := h.1; omega]; exact h.2.1⟩
theorem CvT.none (h : ∀ s, ¬ CSp f g t s) : CvT f g t inf := .inl ⟨fun s _ _ => h s, rfl⟩
theorem CvT.cases (h : CvT f g t v) : ((∀ s, ¬ CSp f g t s) ∧ v = inf) ∨ ((∃ s, CSp f g t s ∧ v = f.at s + g.at (t - s)) ∧ ∀ s, CSp f g t s → v ≤ f.at s + g.at (t - s)) := by
 rcases h with ⟨h1, rfl⟩ | ⟨⟨s, _, h2, h3, h4⟩, h5⟩
 ·exact .inl ⟨fun s hs => h1 s (Nat.zero_le _) (by have := hs.1; omega) hs, rfl⟩
 ·exact .inr ⟨⟨s, h3, h4⟩, fun s' hs => h5 s' (Nat.zero_le _) (by have := hs.1; omega) hs⟩
theorem CvT.of (h : ((∀ s, ¬ CSp f g t s) ∧ v = inf) ∨ ((∃ s, CSp f g t s ∧ v = f.at s + g.at (t - s)) ∧ ∀ s, CSp f g t s → v ≤ f.at s + g.at (t - s))) : CvT f g t v := by
 rcases h with ⟨h1, rfl⟩ | ⟨⟨s, h3, h4⟩, h5⟩
 ·exact CvT.none h1
 ·exact .inr ⟨⟨s, Nat.zero_le _, by have := h3.1; omega, h3, h4⟩, fun s' _ _ hs => h5 s' hs⟩
theorem CvT.symm (h : CvT f g t v) : CvT g f t v := by
 rcases h.cases with ⟨h1, rfl⟩ | ⟨⟨s, h3, h4⟩, h5⟩
 ·exact CvT.none fun s hs => h1 _ hs.symm
 ·refine CvT.of (.inr ⟨⟨t - s, h3.symm, ?_⟩, fun s' hs => ?_⟩)
  ·rw [show t - (t - s) = s by have := h3.1; omega]; omega
  ·have := h5 _ hs.symm
   rw [show t - (t - s') = s' by have := hs.1; omega] at this
   omega
end
theorem CvF.symm {f g : Cv} {h : Nat → Int} (H : CvF f g h) : CvF g f h := fun t => (H t).symm
theorem CvF.unique {f g : Cv} {h h' : Nat → Int} (H : CvF f g h) (K : CvF f g h') : h = h' := funext fun t => (H t).unique (K t)
theorem cvF_exists (f g : Cv) : ∃ h, CvF f g h :=
 ⟨fun t => (cvI_exists f g 0 t (t + 1) (by omega)).choose, fun t => (cvI_exists f g 0 t (t + 1) (by omega)).choose_spec⟩
theorem CvF.nf {f g a b : Cv} (hf : f.Ok) (hg : g.Ok) (ha : NF f.at a) (hb : NF g.at b) {h : Nat → Int} (H : CvF a b h) : CvF f g h := fun t => by
 have e : ∀ s, CSp a b t s ↔ CSp f g t s := fun s => by unfold CSp; rw [ha.inf_iff hf, hb.inf_iff hg]
 refine CvT.of ?_
 rcases (H t).cases with ⟨h1, h2⟩ | ⟨⟨s, h3, h4⟩, h5⟩
 ·exact .inl ⟨fun s hs => h1 s ((e s).2 hs), h2⟩
 ·rw [ha.at, hb.at] at h4
  refine .inr ⟨⟨s, (e s).1 h3, h4⟩, fun s' hs => ?_⟩
  have := h5 s' ((e s').2 hs)
  rwa [ha.at, hb.at] at this
/-! ### Functions without infinite values -/
def Conv (A B h : Nat → Int) : Prop := ∀ t, (∃ s, s ≤ t ∧ h t = A s + B (t - s)) ∧ ∀ s, s ≤ t → h t ≤ A s + B (t - s)
section
variable {A B h : Nat → Int} {sa sb L : Nat} {Ga Gb : Int}
theorem conv_eq {G : Int} (hA : Per A sa L G) (hB : Per B sb L G) (H : Conv A B h) : Per h (sa + sb + L) L G := by
 intro t ht
 obtain ⟨⟨s, hs, e⟩, hmin⟩ := H t
 obtain ⟨⟨s', hs', e'⟩, hmin'⟩ := H (t + L)
 have h1 : h (t + L) ≤ h t + G := by
  rcases Nat.lt_or_ge s sa with k | k
  ·have k1 := hmin' s (by omega)
   have k2 := hB (t - s) (by omega)
   rw [show t - s + L = t + L - s by omega] at k2
   omega
  ·have k1 := hmin' (s + L) (by omega)
   have k2 := hA s k
   rw [show t + L - (s + L) = t - s by omega] at k1
   omega
 have h2 : h t ≤ h (t + L) - G := by
  rcases Nat.lt_or_ge s' (sa + L) with k | k
  ·have k1 := hmin s' (by omega)
   have k2 := hB (t - s') (by omega)
   rw [show t - s' + L = t + L - s' by omega] at k2
   omega
  ·have k1 := hmin (s' - L) (by omega)
   have k2 := hA (s' - L) (by omega)
   rw [show s' - L + L = s' by omega] at k2
   rw [show t - (s' - L) = t + L - s' by omega] at k1
   omega
 omega
def Att (A B : Nat → Int) (sa t : Nat) (v : Int) : Prop := ∃ s, sa ≤ s ∧ s ≤ t ∧ v = A s + B (t - s)
theorem att_far (hA : Per A sa L Ga) (hB : Per B sb L Gb) (hG : Ga < Gb) (H : Conv A B h) {t s : Nat} (hs : sa ≤ s) (hst : s ≤ t) (e : h t = A s + B (t - s)) : t - s < sb + L := by
 rcases Nat.lt_or_ge (t - s) (sb + L) with k | k
 ·exact k
 ·exfalso
  have k1 := (H t).2 (s + L) (by omega)
  have k2 := hA s hs
  have k3 := hB (t - s - L) (by omega)
  rw [show t - s - L + L = t - s by omega] at k3
  rw [show t - (s + L) = t - s - L by omega] at k1
  omega
theorem att_next (hA : Per A sa L Ga) (hB : Per B sb L Gb) (hG : Ga < Gb) (H : Conv A B h) {t : Nat} (ht : sa + sb ≤ t) (h0 : Att A B sa t (h t)) : Att A B sa (t + L) (h (t + L)) := by
 obtain ⟨s, h1, h2, h3⟩ := h0
 obtain ⟨⟨s', hs', e'⟩, hmin'⟩ := H (t + L)
 rcases Nat.lt_or_ge s' sa with k | k
 ·exfalso
  have k1 := (H t).2 s' (by omega)
  have k2 := hB (t - s') (by omega)
  rw [show t - s' + L = t + L - s' by omega] at k2
  have k3 := hmin' (s + L) (by omega)
  have k4 := hA s h1
  rw [show t + L - (s + L) = t - s by omega] at k3
  omega
 ·exact ⟨s', k, hs', e'⟩
theorem att_all (hA : Per A sa L Ga) (hB : Per B sb L Gb) (hG : Ga < Gb) (H : Conv A B h) (hL : 1 ≤ L) {T : Nat} (hT : sa + sb ≤ T) (h0 : ∀ t, T ≤ t → t < T + L → Att A B sa t (h t)) (t : Nat) (ht : T ≤ t) : Att A B sa t (h t) := by
 obtain ⟨r, m, hr, rfl⟩ := res_of hL ht
 induction m with
 | zero => rw [Nat.zero_mul, Nat.add_zero]; exact h0 _ (by omega) (by omega)
 | succ m ih =>
   have := att_next hA hB hG H (by omega) (ih (by omega))
   rwa [show T + r + m * L + L = T + r + (m + 1) * L by rw [Nat.add_mul]; omega] at this
theorem att_per (hA : Per A sa L Ga) (hB : Per B sb L Gb) (hG : Ga < Gb) (H : Conv A B h) {p : Nat} {i : Int} (hp : Per A sa p i) {T : Nat} (hT : sa + sb + L ≤ T) (h0 : ∀ t, T ≤ t → Att A B sa t (h t)) : Per h T p i := by
 intro t ht
 obtain ⟨s, h1, h2, h3⟩ := h0 t ht
 obtain ⟨s', k1, k2, k3⟩ := h0 (t + p) (by omega)
 have m1 := att_far hA hB hG H k1 k2 k3
 have e1 := (H (t + p)).2 (s + p) (by omega)
 have e2 := hp s h1
 rw [show t + p - (s + p) = t - s by omega] at e1
 have e3 := (H t).2 (s' - p) (by omega)
 have e4 := hp (s' - p) (by omega)
 rw [show s' - p + p = s' by omega] at e4
 rw [show t - (s' - p) = t + p - s' by omega] at e3
 omega
theorem att_of_per (hA : Per A sa L Ga) (hB : Per B sb L Gb) (hG : Ga < Gb) (H : Conv A B h) {q S : Nat} {b : Int} (hq : 1 ≤ q) (hP : Per h S q b) {t0 : Nat} (ht0 : sa + sb + L ≤ t0) (hS : S ≤ t0) : Att A B sa t0 (h t0) := by
 have p1 := hA.mul q; have p2 := hB.mul q; have p3 := hP.mul L
 rw [Nat.mul_comm L q] at p3
 have hqq : (q : Int) * (Ga + 1) ≤ (q : Int) * Gb := Int.mul_le_mul_of_nonneg_left (by omega) (by omega)
 rw [Int.mul_add, Int.mul_one] at hqq
 generalize (q : Int) * Ga = X at *
 generalize (q : Int) * Gb = Y at *
 generalize (L : Int) * b = Z at *
 generalize hQ : q * L = Q at *
 have hXZ : Z ≤ X := by
  have key : ∀ m : Nat, h t0 + m * Z ≤ A t0 + B 0 + m * X := fun m => by
   have e1 := p1.mul m t0 (by omega)
   have e3 := p3.mul m t0 (by omega)
   have e4 := (H (t0 + m * Q)).2 (t0 + m * Q) (Nat.le_refl _)
   rw [Nat.sub_self] at e4
   omega
  have k := key (A t0 + B 0 - h t0 + 1).toNat
  have k0 := key 0
  rw [show ((A t0 + B 0 - h t0 + 1).toNat : Int) = A t0 + B 0 - h t0 + 1 by omega] at k
  rcases (show Z ≤ X ∨ X < Z by omega) with h' | h'
  ·exact h'
  ·exfalso
   have : (A t0 + B 0 - h t0 + 1) * (X + 1) ≤ (A t0 + B 0 - h t0 + 1) * Z := Int.mul_le_mul_of_nonneg_left (by omega) (by omega)
   rw [Int.mul_add, Int.mul_one] at this
   omega
 obtain ⟨⟨s, hs, e⟩, hmin⟩ := H (t0 + Q)
 have e3 := p3 t0 (by omega)
 rcases Nat.lt_or_ge s sa with k | k
 ·exfalso
  have k1 := (H t0).2 s (by omega)
  have k2 := p2 (t0 - s) (by omega)
  rw [show t0 - s + Q = t0 + Q - s by omega] at k2
  omega
 ·have m1 := att_far hA hB hG H k hs e
  have k2 := p1 (s - Q) (by omega)
  rw [show s - Q + Q = s by omega] at k2
  have k1 := (H t0).2 (s - Q) (by omega)
  rw [show t0 - (s - Q) = t0 + Q - s by omega] at k1
  exact ⟨s - Q, by omega, by omega, by rw [show t0 - (s - Q) = t0 + Q - s by omega]; omega⟩
end
theorem cvF_fin {a b : Cv} (fa : a.Fin) (fb : b.Fin) {h : Nat → Int} (H : CvF a b h) : Conv a.at b.at h := fun t => by
 have c : ∀ s, s ≤ t → CSp a b t s := fun s hs => ⟨hs, fa.not_infAt _, fb.not_infAt _⟩
 rcases (H t).cases with ⟨h1, _⟩ | ⟨⟨s, h3, h4⟩, h5⟩
 ·exact absurd (c 0 (Nat.zero_le _)) (h1 0)
 ·exact ⟨⟨s, h3.1, h4⟩, fun s' hs => h5 s' (c s' hs)⟩
/-! ### Infinite values -/
section
variable {a b : Cv} {h : Nat → Int}
theorem csp_later (ha : a.Ok) (hb : b.Ok) {t u : Nat} (htu : t ≤ u) (h : ∀ s, ¬ CSp a b t s) : ∀ s, ¬ CSp a b u s := fun s ⟨h1, h2, h3⟩ => by
 rcases Nat.lt_or_ge t s with k | k
 ·exact h t ⟨Nat.le_refl _, fun e => h2 (e.later ha (by omega)), fun e => h3 (e.later hb (by omega))⟩
 ·exact h s ⟨k, h2, fun e => h3 (e.later hb (by omega))⟩
theorem csp_bd (ha : a.Ok) (hb : b.Ok) {t s : Nat} (ht : t ≤ 2000) (h : CSp a b t s) : 0 ≤ a.at s + b.at (t - s) ∧ a.at s + b.at (t - s) ≤ 8000000000000 := by
 have bd : ∀ {c : Cv} (hc : c.Ok) {u : Nat}, u ≤ 2000 → ¬ c.infAt u → 0 ≤ c.at u ∧ c.at u ≤ 4000000000000 := fun {c} hc {u} hu hi => by
  rcases hc.fin_or with fc | ic
  ·have h2 := fc.at_bd u
   have : (u : Int) * 1073741824 ≤ 2000 * 1073741824 := Int.mul_le_mul_of_nonneg_right (by omega) (by omega)
   omega
  ·have hlt : u < 400 := by
    rcases Nat.lt_or_ge u 400 with hh | hh
    ·exact hh
    ·exact absurd ⟨ic, hc.at_inf ic (by have := hc.n2; omega)⟩ hi
   have := hc.fin_bd hi hlt
   omega
 have h1 := bd ha (u := s) (by have := h.1; omega) h.2.1
 have h2 := bd hb (u := t - s) (by omega) h.2.2
 omega
theorem cv_bd (ha : a.Ok) (hb : b.Ok) (H : CvF a b h) {t : Nat} (ht : t ≤ 2000) : ((∀ s, ¬ CSp a b t s) ∧ h t = inf) ∨ (0 ≤ h t ∧ h t ≤ 8000000000000) := by
 rcases (H t).cases with h1 | ⟨⟨s, h3, h4⟩, h5⟩
 ·exact .inl h1
 ·have := csp_bd ha hb ht h3
  exact .inr (by omega)
theorem cv_small (ha : a.Ok) (hb : b.Ok) (H : CvF a b h) {t : Nat} (ht : t ≤ 2000) : 0 ≤ h t ∧ h t ≤ 4611686018427387904 := by
 rcases cv_bd ha hb H ht with ⟨_, h1⟩ | h1
 ·rw [h1]; unfold inf; omega
 ·omega
theorem cv_hinf (ha : a.Ok) (hb : b.Ok) (H : CvF a b h) {t u : Nat} (ht : t ≤ 2000) (htu : t ≤ u) (hi : h t = inf) : h u = inf := by
 rcases cv_bd ha hb H ht with ⟨h1, _⟩ | h1
 ·exact (H u).unique (CvT.none (csp_later ha hb htu h1))
 ·unfold inf at hi; omega
theorem cv_up (ha : a.Ok) (hb : b.Ok) (H : CvF a b h) : Up0 h := by
 refine ⟨(cv_small ha hb H (by omega)).1, fun t => ?_⟩
 rcases (H t).cases with ⟨h1, h2⟩ | ⟨⟨s, h3, h4⟩, h5⟩
 ·rw [h2, (H (t + 1)).unique (CvT.none (csp_later ha hb (by omega) h1))]; exact Int.le_refl _
 ·rcases (H (t + 1)).cases with ⟨k1, k2⟩ | ⟨⟨s', k3, k4⟩, k5⟩
  ·rw [k2]
   rcases Nat.lt_or_ge t 2000 with k | k
   ·have := (cv_small ha hb H (t := t) (by omega)).2; unfold inf; omega
   ·exfalso
    have n1 := ha.n2; have n2 := hb.n2
    by_cases fa : a.Fin
    ·by_cases fb : b.Fin
     ·exact k1 0 ⟨by omega, fa.not_infAt _, fb.not_infAt _⟩
     ·have ib := hb.fin_or.resolve_left fb
      refine k1 (s + 1) ⟨by have := h3.1; omega, fa.not_infAt _, fun e => ?_⟩
      rw [show t + 1 - (s + 1) = t - s by omega] at e
      exact h3.2.2 e
    ·have ia := ha.fin_or.resolve_left fa
     refine k1 s ⟨by have := h3.1; omega, h3.2.1, fun e => ?_⟩
     by_cases fb : b.Fin
     ·exact fb.not_infAt _ e
     ·have ib := hb.fin_or.resolve_left fb
      have hs : s < 400 := by
       rcases Nat.lt_or_ge s 400 with q | q
       ·exact q
       ·exact absurd ⟨ia, ha.at_inf ia (by omega)⟩ h3.2.1
      exact h3.2.2 ⟨ib, hb.at_inf ib (by omega)⟩
  ·rcases Nat.lt_or_ge t s' with k | k
   ·have e : s' = t + 1 := by have := k3.1; omega
    subst e
    have k6 := h5 t ⟨Nat.le_refl _, fun e => k3.2.1 (e.later ha (by omega)), by have := k3.2.2; rwa [Nat.sub_self] at this ⊢⟩
    have k7 := ha.at_mono t
    rw [Nat.sub_self] at k4 k6
    omega
   ·have k6 := h5 s' ⟨k, k3.2.1, fun e => k3.2.2 (e.later hb (by omega))⟩
    have k7 := hb.at_le (show t - s' ≤ t + 1 - s' by omega)
    omega
theorem cv_one (fa : a.Fin) (hb : b.Ok) (ib : nth b.vals (b.vals.length - 1) = inf) (H : CvF a b h) (hne : h 0 ≠ inf) : Per h (a.vals.length - a.per.toNat + (b.vals.length - b.per.toNat)) a.per.toNat a.inc := by
 obtain ⟨sa, hsa⟩ : ∃ sa, sa = a.vals.length - a.per.toNat := ⟨_, rfl⟩
 obtain ⟨sb, hsb⟩ : ∃ sb, sb = b.vals.length - b.per.toNat := ⟨_, rfl⟩
 have hA := fa.toL.step
 rw [← hsa] at hA ⊢
 rw [← hsb]
 have far : ∀ t s, CSp a b t s → t - s < sb := fun t s hs => by
  rcases Nat.lt_or_ge (t - s) sb with k | k
  ·exact k
  ·exact absurd (hb.infAt_start ib (by omega)) hs.2.2
 have hb0 : ¬ b.infAt 0 := by
  rcases (H 0).cases with ⟨_, h2⟩ | ⟨⟨s, h3, _⟩, _⟩
  ·exact absurd h2 hne
  ·have := h3.2.2; rwa [Nat.zero_sub] at this
 have val : ∀ t, (∃ s, CSp a b t s ∧ h t = a.at s + b.at (t - s)) ∧ ∀ s, CSp a b t s → h t ≤ a.at s + b.at (t - s) := fun t => by
  rcases (H t).cases with ⟨h1, _⟩ | h1
  ·exact absurd ⟨Nat.le_refl _, fa.not_infAt _, by rw [Nat.sub_self]; exact hb0⟩ (h1 t)
  ·exact h1
 intro t ht
 obtain ⟨⟨s, h1, h2⟩, h3⟩ := val t
 obtain ⟨⟨s', k1, k2⟩, k3⟩ := val (t + a.per.toNat)
 have f1 := far _ _ h1; have f2 := far _ _ k1
 have g1 := h1.1; have g2 := k1.1
 have e1 := k3 (s + a.per.toNat) ⟨by omega, fa.not_infAt _, by rw [show t + a.per.toNat - (s + a.per.toNat) = t - s by omega]; exact h1.2.2⟩
 have e2 := hA s (by omega)
 rw [show t + a.per.toNat - (s + a.per.toNat) = t - s by omega] at e1
 have e3 := h3 (s' - a.per.toNat) ⟨by omega, fa.not_infAt _, by rw [show t - (s' - a.per.toNat) = t + a.per.toNat - s' by omega]; exact k1.2.2⟩
 have e4 := hA (s' - a.per.toNat) (by omega)
 rw [show s' - a.per.toNat + a.per.toNat = s' by omega] at e4
 rw [show t - (s' - a.per.toNat) = t + a.per.toNat - s' by omega] at e3
 omega
end
def CvoS (a b r : Cv) (er : Int) : Prop := ∃ h, CvF a b h ∧ MadeL h r er
theorem CvoS.unique {a b r r' : Cv} {e e' : Int} (H : CvoS a b r e) (K : CvoS a b r' e') : r = r' ∧ e = e' := by
 obtain ⟨h, h1, h2⟩ := H
 obtain ⟨k, k1, k2⟩ := K
 obtain rfl := h1.unique k1
 exact h2.unique k2
def CvS : Cv → Cv → Cv → Int → Prop := PairS CvoS
theorem CvS.unique {f g r r' : Cv} {e e' : Int} (h : CvS f g r e) (k : CvS f g r' e') : r = r' ∧ e = e' := PairS.unique (S := CvoS) (fun h k => CvoS.unique h k) h k
section
variable {a b r : Cv} {er : Int} {h : Nat → Int}
theorem cv_build (ha : a.Ok) (hb : b.Ok) (H : CvF a b h) {s p : Nat} {i : Int} (hp : 1 ≤ p) (hsp : s + p ≤ 2000) (hper : (∀ j, j < s + p → h j ≠ inf) → Per h s p i) (hS : BuildS h s p i r er) : MadeL h r er :=
 (build_made hp (fun t u ht htu hi => cv_hinf ha hb H (by omega) htu hi) hper hS).toL
theorem cv_made0 (ha : a.Ok) (hb : b.Ok) (ia : nth a.vals (a.vals.length - 1) = inf) (ib : nth b.vals (b.vals.length - 1) = inf) (H : CvF a b h) {s p : Nat} {i : Int} (hp : 1 ≤ p) (hsp : s + p ≤ 2000)
 (hs : a.vals.length - a.per.toNat + (b.vals.length - b.per.toNat) ≤ s) (hS : BuildS h s p i r er) : MadeL h r er := by
 refine cv_build ha hb H hp hsp (fun hne => absurd ?_ (hne s (by omega))) hS
 refine (H s).unique (CvT.none fun u hu => ?_)
 rcases Nat.lt_or_ge u (a.vals.length - a.per.toNat) with k | k
 ·exact hu.2.2 (hb.infAt_start ib (by omega))
 ·exact hu.2.1 (ha.infAt_start ia k)
theorem cv_made1 (fa : a.Fin) (hb : b.Ok) (ib : nth b.vals (b.vals.length - 1) = inf) (H : CvF a b h) {s : Nat} (hsp : s + a.per.toNat ≤ 2000)
 (hs : a.vals.length - a.per.toNat + (b.vals.length - b.per.toNat) ≤ s) (hS : BuildS h s a.per.toNat a.inc r er) : MadeL h r er :=
 cv_build fa.1 hb H (by have := fa.1.p1; omega) hsp (fun hne => (cv_one fa hb ib H (hne 0 (by have := fa.1.p1; omega))).mono hs) hS
theorem gn_of_inf (ha : a.Ok) (hb : b.Ok) (ib : nth b.vals (b.vals.length - 1) = inf) : ordC a b = a.per.toNat ∧ gnA a b = a.inc := by
 have h1 := (hb.last ib).1
 have hp := ha.p1
 have e : ordC a b = a.per.toNat := by
  unfold ordC comm
  rw [h1, show (1 : Int).toNat = 1 from rfl, Nat.gcd_one_right, Nat.div_one, Nat.mul_one]
 refine ⟨e, ?_⟩
 unfold gnA
 rw [e, Nat.div_self (by omega)]
 simp
theorem cv_made2 (fa : a.Fin) (fb : b.Fin) (hG : gnA a b = gnB a b) (H : CvF a b h) {s : Nat} (hsp : s + ordC a b ≤ 2000)
 (hs : a.vals.length - a.per.toNat + (b.vals.length - b.per.toNat) + ordC a b ≤ s) (hS : BuildS h s (ordC a b) (gnA a b) r er) : MadeL h r er := by
 have hp := fa.1.p1; have hq := fb.1.p1
 refine cv_build fa.1 fb.1 H (ord_b fa.1 fb.1).c1 hsp (fun _ => ?_) hS
 have h2 := gnB_per fa.1 fb (s := b.vals.length - b.per.toNat) (Nat.le_refl _)
 rw [← hG] at h2
 exact (conv_eq (gnA_per fa fb.1 (Nat.le_refl _)) h2 (cvF_fin fa fb H)).mono hs
theorem cv_made3 (fa : a.Fin) (fb : b.Fin) (hG : gnA a b < gnB a b) (H : CvF a b h) {s : Nat} (hsp : s + a.per.toNat ≤ 2000)
 (hs : a.vals.length - a.per.toNat + (b.vals.length - b.per.toNat) + ordC a b ≤ s) (hat : ∀ t, s ≤ t → t < s + ordC a b → CvI a b (a.vals.length - a.per.toNat) t (t + 1) (h t)) (hS : BuildS h s a.per.toNat a.inc r er) : MadeL h r er := by
 have hp := fa.1.p1; have hq := fb.1.p1
 refine cv_build fa.1 fb.1 H (by omega) hsp (fun _ => ?_) hS
 have hA := gnA_per fa fb.1 (s := a.vals.length - a.per.toNat) (Nat.le_refl _)
 have hB := gnB_per fa.1 fb (s := b.vals.length - b.per.toNat) (Nat.le_refl _)
 have HC := cvF_fin fa fb H
 refine att_per hA hB hG HC fa.toL.step hs (att_all hA hB hG HC (ord_b fa.1 fb.1).c1 (by omega) (fun t h1 h2 => ?_))
 rcases hat t h1 h2 with ⟨h3, _⟩ | ⟨⟨u, h3, h4, h5, h6⟩, _⟩
 ·exact absurd ⟨Nat.le_refl _, fa.not_infAt _, fb.not_infAt _⟩ (h3 t (by omega) (by omega))
 ·exact ⟨u, h3, h5.1, h6⟩
theorem cv_none3 (fa : a.Fin) (fb : b.Fin) (hG : gnA a b < gnB a b) (H : CvF a b h) {t : Nat} {v : Int} (h4 : 400 ≤ t) (h5 : t ≤ 2000)
 (hs : a.vals.length - a.per.toNat + (b.vals.length - b.per.toNat) + ordC a b ≤ t) (hv : CvI a b (a.vals.length - a.per.toNat) t (t + 1) v) (hlt : h t < v) : MadeL h Cv.none 3 := by
 refine MadeL.none_ fun g hg hl => ?_
 have hA := gnA_per fa fb.1 (s := a.vals.length - a.per.toNat) (Nat.le_refl _)
 have hB := gnB_per fa.1 fb (s := b.vals.length - b.per.toNat) (Nat.le_refl _)
 have HC := cvF_fin fa fb H
 have hne : h 400 ≠ inf := by
  rcases cv_bd fa.1 fb.1 H (t := 400) (by omega) with ⟨k, _⟩ | k
  ·exact absurd ⟨Nat.le_refl _, fa.not_infAt _, fb.not_infAt _⟩ (k 400)
  ·unfold inf; omega
 obtain ⟨q, G, hq, hP⟩ := lim_per hg hl hne
 obtain ⟨u, k1, k2, k3⟩ := att_of_per hA hB hG HC hq hP hs h4
 rcases hv with ⟨h6, _⟩ | ⟨_, h6⟩
 ·exact h6 u k1 (by omega) ⟨k2, fa.not_infAt _, fb.not_infAt _⟩
 ·have := h6 u k1 (by omega) ⟨k2, fa.not_infAt _, fb.not_infAt _⟩
  omega
end
end
end Go.Proofs.YtaejfleahamapaaGreat
