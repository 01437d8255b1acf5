/- What the two functions of the normal form return. -/
import Derived.Test.YthdibkmjoiipgaaTheory
import Derived.Test.YthdibkmjoiipgaaOrdLaw2
namespace Go.Proofs.Ythdibkmjoiipgaa
set_option linter.unusedVariables false

/-- what the two functions of the normal form return -/
def NormR (f g : Cv) (er : Int) : Prop := (f.Ok ∧ NF f.at g ∧ g.Ok ∧ er = 0) ∨ (¬ f.Ok ∧ g = Cv.none ∧ er = 1)
theorem NormR.unique {f g g' : Cv} {er er' : Int} (h : NormR f g er) (k : NormR f g' er') : g = g' ∧ er = er' := by
  rcases h with ⟨h1, h2, _, rfl⟩ | ⟨h1, rfl, rfl⟩ <;> rcases k with ⟨k1, k2, _, rfl⟩ | ⟨k1, rfl, rfl⟩
  · exact ⟨h2.unique k2, rfl⟩
  · exact absurd h1 k1
  · exact absurd k1 h1
  · exact ⟨rfl, rfl⟩
theorem NormR.of {f g : Cv} {er : Int} (h : NormalS f g er) : NormR f g er := by
  by_cases hf : f.Ok
  · obtain ⟨h1, h2, h3, _⟩ := normal_ok hf h
    exact .inl ⟨hf, h2, h3, h1⟩
  · rcases h with ⟨h, _⟩ | ⟨_, h1, h2⟩
    · exact absurd (Cv.okB_iff.1 h) hf
    · exact .inr ⟨hf, h1, h2⟩
theorem NormR.len {f g : Cv} {er : Int} (h : NormR f g er) : g.vals.length ≤ 400 := by
  rcases h with ⟨_, _, h, _⟩ | ⟨_, rfl, _⟩
  · exact h.n2
  · decide
end Go.Proofs.Ythdibkmjoiipgaa
namespace Go.Proofs.Ythdibkmjoiipgaa
set_option linter.unusedVariables false

/-- given like a curve, perhaps beyond the limits -/
structure Pre (f : Cv) : Prop where
  p1 : 1 ≤ f.per
  pn : f.per ≤ f.vals.length
  i0 : 0 ≤ f.inc
  i1 : f.inc ≤ 1099511627776
  n2 : f.vals.length ≤ 100000
  v : ∀ k, 0 ≤ nth f.vals k ∧ nth f.vals k ≤ 4611686018427387904
theorem Cv.Ok.pre {f : Cv} (h : f.Ok) : Pre f := ⟨h.p1, h.pn, h.i1, by have := h.i2; omega, by have := h.n2; omega, h.nn⟩

/-- what the reference tests of a period -/
def RefT (f : Cv) (r : Nat) : Prop := (f.per % r = 0 ∧ f.inc * r % f.per = 0) ∧ ∀ j, j < f.per.toNat → f.at (f.vals.length - f.per.toNat + j + r) = f.at (f.vals.length - f.per.toNat + j) + f.inc * r / f.per

theorem refT_LT {f : Cv} (hf : f.FinL) {r : Nat} (h1 : 1 ≤ r) (hr : r ≤ f.per.toNat) : RefT f r ↔ LT (tab f.at (f.vals.length - f.per.toNat) f.per.toNat) f.inc r := by
  have H := hf.step
  have hp1 := hf.p1; have hpn := hf.pn
  obtain ⟨s, hs⟩ : ∃ s, s = f.vals.length - f.per.toNat := ⟨_, rfl⟩
  have hP : ((f.per.toNat : Nat) : Int) = f.per := by omega
  unfold RefT LT LTi
  rw [← hs, tab_length, hP]
  rw [← hs] at H
  refine and_congr Iff.rfl ⟨fun h j hj => ?_, fun h j hj => ?_⟩
  · have h2 := h j hj
    split
    · rename_i e
      rw [tab_nth _ _ _ _ e, tab_nth _ _ _ _ hj, ← Nat.add_assoc]; exact h2
    · rename_i e
      rw [tab_nth _ _ _ _ (by omega), tab_nth _ _ _ _ hj, ← h2, ← H _ (by omega)]
      congr 1; omega
  · have h2 := h j hj
    split at h2
    · rename_i e
      rw [tab_nth _ _ _ _ e, tab_nth _ _ _ _ hj, ← Nat.add_assoc] at h2; exact h2
    · rename_i e
      rw [tab_nth _ _ _ _ (by omega), tab_nth _ _ _ _ hj, ← H _ (by omega)] at h2
      rw [← h2]
      congr 1; omega

theorem refT_per {f : Cv} (hf : f.FinL) : RefT f f.per.toNat := by
  have H := hf.step
  have hp1 := hf.p1; have hpn := hf.pn
  have hP : ((f.per.toNat : Nat) : Int) = f.per := by omega
  refine ⟨⟨by rw [hP]; exact Int.emod_self, by rw [hP]; exact Int.mul_emod_left _ _⟩, fun j hj => ?_⟩
  rw [hP, Int.mul_ediv_cancel _ (by omega)]
  exact H _ (by omega)

theorem nf_of {h : Nat → Int} {s p q s' : Nat} {i : Int} (hp : 1 ≤ p) (H : Per h s p i) (hfin : ∀ j, j < s + p → h j ≠ inf) (hq1 : 1 ≤ q) (hqp : q ≤ p) (hq : q = p ∨ LT (tab h s p) i q) (hno : ∀ r, 1 ≤ r → r < q → ¬ LT (tab h s p) i r)
    (hss : s' ≤ s) (hgood : ∀ t, s' ≤ t → t < s → h t + i * q / p = h (t + q)) (hst : s' = 0 ∨ h (s' - 1) + i * q / p ≠ h (s' - 1 + q)) : NFin h ⟨tab h 0 (s' + q), q, i * q / p⟩ := by
  obtain ⟨hq', hmin⟩ := least_is hp H hq1 hqp hq hno
  generalize i * q / p = st at *
  have hPs : Per h s' q st := by
    intro t ht
    by_cases e : t < s
    · exact (hgood t ht e).symm
    · exact hq' t (by omega)
  have hl : (Cv.mk (tab h 0 (s' + q)) q st).vals.length = s' + q := tab_length _ _ _
  have hpn : (Cv.mk (tab h 0 (s' + q)) q st).per.toNat = q := Int.toNat_natCast q
  refine ⟨by show (1 : Int) ≤ q; omega, by rw [hl]; show (q : Int) ≤ _; omega, ?_, ?_, ?_, ?_, fun t ht => hfin t (by rw [hl] at ht; omega)⟩
  · intro t ht
    rw [hl] at ht
    show nth (tab h 0 (s' + q)) t = _
    rw [tab_nth _ _ _ _ ht, Nat.zero_add]
  · rw [hl, hpn, Nat.add_sub_cancel]; exact hPs
  · rw [hpn]; exact fun r s'' b h1 h2 => hmin r s'' b h1 h2
  · rw [hl, hpn, Nat.add_sub_cancel]
    rcases hst with e | e
    · left; omega
    · by_cases e0 : s' = 0
      · left; omega
      · right
        show h (s' - 1) + st ≠ h (s' + q - 1)
        rw [show s' + q - 1 = s' - 1 + q by omega]
        exact e

/-- what the reference of the normal form returns -/
def LeastS (f g : Cv) : Prop :=
  (∃ m, m < f.vals.length ∧ nth f.vals m = inf ∧ (∀ j, j < m → nth f.vals j ≠ inf) ∧ g = ⟨tab f.at 0 (m + 1), 1, 0⟩) ∨ ((∀ j, j < f.vals.length → nth f.vals j ≠ inf) ∧ NFin f.at g)

theorem LeastS.nf {f g : Cv} (h : LeastS f g) (hinf : ∀ m t, m < f.vals.length → nth f.vals m = inf → m ≤ t → f.at t = inf) : NF f.at g := by
  rcases h with ⟨m, hm, hi, hlt, rfl⟩ | ⟨_, h⟩
  · refine .inr ⟨rfl, rfl, by rw [tab_length]; omega, fun t ht => ?_, fun t ht => ?_, fun t ht => ?_⟩
    · rw [tab_length] at ht; rw [tab_nth _ _ _ _ ht, Nat.zero_add]
    · rw [tab_length] at ht; rw [Cv.at_lt (by omega)]; exact hlt t (by omega)
    · rw [tab_length] at ht; exact hinf m t hm hi (by omega)
  · exact .inl h

theorem LeastS.ok {f g : Cv} (hf : f.Ok) (h : LeastS f g) : NF f.at g ∧ g.Ok ∧ g.vals.length ≤ f.vals.length ∧ g.per ≤ f.per := by
  have hn := h.nf (fun m t hm hi ht => hf.inf_from hm ht (by rw [Cv.at_lt hm]; exact hi))
  have hs := nf_small hf hn
  exact ⟨hn, hs.1, hs.2.1, hs.2.2.1⟩
end Go.Proofs.Ythdibkmjoiipgaa
namespace Go.Proofs.Ythdibkmjoiipgaa
set_option linter.unusedVariables false

theorem MadeS.congr {h h' : Nat → Int} {f : Cv} {er : Int} (m : MadeS h f er) (e : ∀ t, h t = h' t) : MadeS h' f er := by
  obtain rfl : h = h' := funext e
  exact m
theorem NF.congr {h h' : Nat → Int} {f : Cv} (m : NF h f) (e : ∀ t, h t = h' t) : NF h' f := by
  obtain rfl : h = h' := funext e
  exact m
theorem NF.same {f g : Cv} (m : NF f.at g) : g.at = f.at := funext m.at

/-- values that do not decrease, from 0 on -/
structure Up0 (h : Nat → Int) : Prop where
  z : 0 ≤ h 0
  m : ∀ t, h t ≤ h (t + 1)
theorem Up0.le {h : Nat → Int} (H : Up0 h) {a b : Nat} (hab : a ≤ b) : h a ≤ h b := by
  induction b with
  | zero => rw [show a = 0 by omega]; exact Int.le_refl _
  | succ b ih =>
    by_cases e : a = b + 1
    · rw [e]; exact Int.le_refl _
    · exact Int.le_trans (ih (by omega)) (H.m b)
theorem Up0.nn {h : Nat → Int} (H : Up0 h) (t : Nat) : 0 ≤ h t := Int.le_trans H.z (H.le (Nat.zero_le t))
theorem Cv.Ok.up0 {f : Cv} (h : f.Ok) : Up0 f.at := ⟨by rw [Cv.at_lt (by have := h.n1; omega)]; exact h.z, h.at_mono⟩

/-- a normal form of such values is a curve if it is within the limits -/
theorem nf_lim_ok {h : Nat → Int} {g : Cv} (hg : NF h g) (H : Up0 h) (hl : Lim g) : g.Ok := by
  have hv : ∀ k, k < g.vals.length → nth g.vals k = h k := by
    rcases hg with hg | hg
    · exact hg.vals
    · exact hg.vals
  have hmono : ∀ k, k + 1 < g.vals.length → nth g.vals k ≤ nth g.vals (k + 1) := fun k hk => by rw [hv k (by omega), hv _ hk]; exact H.m k
  rcases hg with hg | hg
  · have hp1 := hg.p1; have hpn := hg.pn
    have hi : 0 ≤ g.inc := by
      have h1 := hg.per (g.vals.length - g.per.toNat) (Nat.le_refl _)
      have h2 := H.le (show g.vals.length - g.per.toNat ≤ g.vals.length - g.per.toNat + g.per.toNat by omega)
      omega
    refine ⟨by omega, hl.1, hp1, hl.2.2.1, hpn, hi, hl.2.2.2, hl.2.1, by rw [hv 0 (by omega)]; exact H.z, hmono, fun e => ?_, fun _ => ?_⟩
    · exact absurd (by rw [← hv _ (by omega)]; exact e) (hg.fin (g.vals.length - 1) (by omega))
    · rw [hv _ (by omega), hv _ (by omega), ← hg.per _ (Nat.le_refl _)]
      exact H.le (by omega)
  · have hn1 := hg.n1; have hp1 := hg.p1; have hi0 := hg.i0
    refine ⟨hn1, hl.1, by omega, hl.2.2.1, by omega, by omega, hl.2.2.2, hl.2.1, by rw [hv 0 (by omega)]; exact H.z, hmono, fun _ => ⟨hp1, hi0⟩, fun e => ?_⟩
    exact absurd (by rw [hv _ (by omega)]; exact hg.from_ _ (by omega)) e
theorem Cv.Ok.lim {g : Cv} (h : g.Ok) : Lim g := ⟨h.n2, h.v, h.p2, h.i2⟩
theorem MadeS.get {h : Nat → Int} {f : Cv} {er : Int} (m : MadeS h f er) (H : Up0 h) : (er = 0 ∧ f.Ok ∧ NF h f) ∨ (er = 3 ∧ f = Cv.none) := by
  obtain ⟨g, hg, ⟨hl, rfl, rfl⟩ | ⟨_, rfl, rfl⟩⟩ := m
  · exact .inl ⟨rfl, nf_lim_ok hg H hl, hg⟩
  · exact .inr ⟨rfl, rfl⟩
theorem MadeS.of_nf {h : Nat → Int} {g f : Cv} {er : Int} (hg : NF h g) (H : Up0 h) (k : (g.Ok ∧ f = g ∧ er = 0) ∨ (¬ g.Ok ∧ f = Cv.none ∧ er = 3)) : MadeS h f er := by
  refine ⟨g, hg, ?_⟩
  rcases k with ⟨k1, k2, k3⟩ | ⟨k1, k2, k3⟩
  · exact .inl ⟨k1.lim, k2, k3⟩
  · exact .inr ⟨fun hl => k1 (nf_lim_ok hg H hl), k2, k3⟩

/-! ### From a function that is periodic to its normal form -/
theorem nf_exists {h : Nat → Int} {s p : Nat} {i : Int} (hp : 1 ≤ p) (H : Per h s p i) (hne : ∀ t, t < s + p → h t ≠ inf) : ∃ g, NFin h g ∧ g.vals.length ≤ s + p ∧ g.per ≤ p := by
  obtain ⟨r, k, b, hr, hk, hb, hR, hle⟩ := per_least hp H
  obtain ⟨s', ⟨hs1, hs2⟩, hs3⟩ := nat_least (Q := fun s' => s' ≤ s ∧ Per h s' r b) ⟨s, Nat.le_refl _, hR⟩
  have hrp : r ≤ p := by
    rw [hk]
    refine Nat.le_mul_of_pos_left _ ?_
    rcases Nat.eq_zero_or_pos k with e | e
    · rw [e, Nat.zero_mul] at hk; omega
    · exact e
  have hl : (Cv.mk (tab h 0 (s' + r)) r b).vals.length = s' + r := tab_length _ _ _
  have hpn : (Cv.mk (tab h 0 (s' + r)) r b).per.toNat = r := Int.toNat_natCast r
  refine ⟨⟨tab h 0 (s' + r), r, b⟩, ⟨by show (1 : Int) ≤ r; omega, by rw [hl]; show (r : Int) ≤ _; omega, ?_, ?_, ?_, ?_, fun t ht => hne t (by rw [hl] at ht; omega)⟩, by rw [hl]; omega, by show (r : Int) ≤ p; omega⟩
  · intro t ht
    rw [hl] at ht
    show nth (tab h 0 (s' + r)) t = _
    rw [tab_nth _ _ _ _ ht, Nat.zero_add]
  · rw [hl, hpn, Nat.add_sub_cancel]; exact hs2
  · rw [hpn]; exact fun q s'' b h1 h2 => hle q s'' b h1 h2
  · rw [hl, hpn, Nat.add_sub_cancel]
    by_cases e0 : s' = 0
    · left; omega
    · right
      intro e
      apply hs3 (s' - 1) (by omega)
      refine ⟨by omega, fun t ht => ?_⟩
      by_cases et : t = s' - 1
      · rw [et]
        show h (s' - 1 + r) = h (s' - 1) + b
        have e' : h (s' - 1) + b = h (s' + r - 1) := e
        rw [e', show s' - 1 + r = s' + r - 1 by omega]
      · exact hs2 t (by omega)

/-! ### Operations on two curves -/
open Classical in
/-- a sum of values: infinite where one of them is -/
noncomputable def sumV (a b : Cv) (t : Nat) : Int := if a.infAt t ∨ b.infAt t then inf else a.at t + b.at t
/-- a sum as the program reckons it -/
def pl (a b : Int) : Int := if a = inf ∨ b = inf then inf else a + b
theorem sumV_pl {a b : Cv} (ha : a.Ok) (hb : b.Ok) {t : Nat} (ht : t ≤ 4000000000) : sumV a b t = pl (a.at t) (b.at t) := by
  unfold sumV pl
  have h1 := ha.at_bd ht; have h2 := hb.at_bd ht
  have e1 : a.infAt t ↔ a.at t = inf := ⟨fun h => h.2, h1.2.2⟩
  have e2 : b.infAt t ↔ b.at t = inf := ⟨fun h => h.2, h2.2.2⟩
  simp only [e1, e2]

/-- what Pair returns -/
def PairR (f g a b : Cv) (l er : Int) : Prop :=
  (¬ (f.Ok ∧ g.Ok) ∧ er = 1) ∨
  (f.Ok ∧ g.Ok ∧ NF f.at a ∧ NF g.at b ∧ a.Ok ∧ b.Ok ∧ ((120 < comm a.per.toNat b.per.toNat ∧ er = 3) ∨ (comm a.per.toNat b.per.toNat ≤ 120 ∧ l = (comm a.per.toNat b.per.toNat : Nat) ∧ er = 0)))

/-- what an operation on two curves returns, where S tells it of two normal forms -/
def PairS (S : Cv → Cv → Cv → Int → Prop) (f g r : Cv) (er : Int) : Prop :=
  (¬ (f.Ok ∧ g.Ok) ∧ r = Cv.none ∧ er = 1) ∨
  (f.Ok ∧ g.Ok ∧ ∃ a b, NF f.at a ∧ NF g.at b ∧ ((120 < comm a.per.toNat b.per.toNat ∧ r = Cv.none ∧ er = 3) ∨ (comm a.per.toNat b.per.toNat ≤ 120 ∧ S a b r er)))
theorem PairS.unique {S : Cv → Cv → Cv → Int → Prop} (hS : ∀ {a b r r' : Cv} {e e' : Int}, S a b r e → S a b r' e' → r = r' ∧ e = e') {f g r r' : Cv} {e e' : Int} (h : PairS S f g r e) (k : PairS S f g r' e') : r = r' ∧ e = e' := by
  rcases h with ⟨h0, rfl, rfl⟩ | ⟨hf, hg, a, b, ha, hb, h⟩ <;> rcases k with ⟨k0, rfl, rfl⟩ | ⟨kf, kg, a', b', ka, kb, k⟩
  · exact ⟨rfl, rfl⟩
  · exact absurd ⟨kf, kg⟩ h0
  · exact absurd ⟨hf, hg⟩ k0
  · obtain rfl := ha.unique ka
    obtain rfl := hb.unique kb
    rcases h with ⟨h1, rfl, rfl⟩ | ⟨h1, h⟩ <;> rcases k with ⟨k1, rfl, rfl⟩ | ⟨k1, k⟩
    · exact ⟨rfl, rfl⟩
    · omega
    · omega
    · exact hS h k

/-- what Sum returns -/
def SumS : Cv → Cv → Cv → Int → Prop := PairS fun a b r er => MadeS (sumV a b) r er
theorem SumS.unique {f g r r' : Cv} {e e' : Int} (h : SumS f g r e) (k : SumS f g r' e') : r = r' ∧ e = e' := PairS.unique (S := fun a b r er => MadeS (sumV a b) r er) (fun h k => MadeS.unique h k) h k

theorem NF.inf_iff {f a : Cv} (hf : f.Ok) (h : NF f.at a) (t : Nat) : a.infAt t ↔ f.infAt t := by
  have h1 := nf_small hf h
  unfold Cv.infAt
  rw [h.at t, h1.2.2.2.2]
theorem NF.fin_iff {f a : Cv} (hf : f.Ok) (h : NF f.at a) : a.Fin ↔ f.Fin := by
  have h1 := nf_small hf h
  constructor
  · rintro ⟨_, h2⟩; exact ⟨hf, fun e => h2 (h1.2.2.2.2.2 e)⟩
  · rintro ⟨_, h2⟩; exact ⟨h1.1, fun e => h2 (h1.2.2.2.2.1 e)⟩
theorem ite_iff {p q : Prop} (ip : Decidable p) (iq : Decidable q) (h : p ↔ q) {x y : Int} : (if p then x else y) = if q then x else y := by
  by_cases hq : q
  · rw [if_pos hq, if_pos (h.2 hq)]
  · rw [if_neg hq, if_neg (fun k => hq (h.1 k))]
theorem sumV_nf {f g a b : Cv} (hf : f.Ok) (hg : g.Ok) (ha : NF f.at a) (hb : NF g.at b) : sumV a b = sumV f g := by
  funext t
  unfold sumV
  rw [ha.at, hb.at]
  exact ite_iff _ _ (or_congr (ha.inf_iff hf t) (hb.inf_iff hg t))
/-- the last finite tick of a curve that is infinite later -/
theorem Cv.Ok.last_fin {a : Cv} (ha : a.Ok) {t : Nat} (h0 : ¬ a.infAt t) (h1 : a.infAt (t + 1)) : t < 400 := by
  have hn := ha.n2
  rcases Nat.lt_or_ge t 400 with h | h
  · exact h
  · exact absurd ⟨h1.1, ha.at_inf h1.1 (by omega)⟩ h0
theorem Cv.Ok.fin_bd {a : Cv} (ha : a.Ok) {t : Nat} (h0 : ¬ a.infAt t) (ht : t < 400) : 0 ≤ a.at t ∧ a.at t ≤ 430570471424 := by
  refine ⟨ha.up0.nn t, ?_⟩
  rcases ha.fin_or with h | h
  · have := (h.at_bd t).2
    have h2 : (t : Int) * 1073741824 ≤ 400 * 1073741824 := Int.mul_le_mul_of_nonneg_right (by omega) (by omega)
    omega
  · have hlt : t < a.vals.length := by
      rcases Nat.lt_or_ge t a.vals.length with h' | h'
      · exact h'
      · exact absurd ⟨h, ha.at_inf h (by omega)⟩ h0
    have h2 := (okv_iff _).1 (ha.v t hlt)
    rw [Cv.at_lt hlt]
    rcases h2 with h2 | h2
    · exact absurd ⟨h, by rw [Cv.at_lt hlt]; exact h2⟩ h0
    · omega
theorem sumV_up {a b : Cv} (ha : a.Ok) (hb : b.Ok) : Up0 (sumV a b) := by
  refine ⟨?_, fun t => ?_⟩
  · unfold sumV
    split
    · unfold inf; omega
    · have h1 := ha.up0.z; have h2 := hb.up0.z; omega
  · unfold sumV
    by_cases h2 : a.infAt (t + 1) ∨ b.infAt (t + 1)
    · rw [if_pos h2]
      split
      · exact Int.le_refl _
      · rename_i h1
        have h0 : ¬ a.infAt t ∧ ¬ b.infAt t := not_or.1 h1
        have ht : t < 400 := by
          rcases h2 with h2 | h2
          · exact ha.last_fin h0.1 h2
          · exact hb.last_fin h0.2 h2
        have := ha.fin_bd h0.1 ht; have := hb.fin_bd h0.2 ht
        unfold inf; omega
    · have h1 : ¬ (a.infAt t ∨ b.infAt t) := fun h => h2 (h.imp (fun h => h.later ha (by omega)) (fun h => h.later hb (by omega)))
      rw [if_neg h1, if_neg h2]
      have := ha.at_mono t; have := hb.at_mono t
      omega

/-! ### Values that are laid out in a list -/
/-- a list of values with a period says the same as the function -/
theorem tab_at {h : Nat → Int} {N p : Nat} {i : Int} (hp : 1 ≤ p) (hpN : p ≤ N) (hinf : ∀ m t, m < N → h m = inf → m ≤ t → h t = inf) (hearly : ∀ m, m < N → h m = inf → h (N - p) = inf)
    (hper : (∀ j, j < N → h j ≠ inf) → Per h (N - p) p i) (t : Nat) : Cv.at ⟨tab h 0 N, p, i⟩ t = h t := by
  have hl : (Cv.mk (tab h 0 N) p i).vals.length = N := tab_length _ _ _
  have hpn : (Cv.mk (tab h 0 N) p i).per.toNat = p := Int.toNat_natCast p
  have hv : ∀ k, k < N → nth (Cv.mk (tab h 0 N) p i).vals k = h k := fun k hk => by show nth (tab h 0 N) k = _; rw [tab_nth _ _ _ _ hk, Nat.zero_add]
  by_cases hx : ∃ m, m < N ∧ h m = inf
  · obtain ⟨m, hm, hi⟩ := hx
    by_cases ht : t < N
    · rw [Cv.at_lt (by rw [hl]; exact ht), hv t ht]
    · have hd := idx_bd (t := t) (n := N) (p := p) hp hpN (by omega)
      unfold Cv.at
      rw [hl, hpn, if_neg ht, hv _ hd.2.1, if_pos (hinf (N - p) _ (by omega) (hearly m hm hi) (by omega))]
      exact (hinf m t hm hi (by omega)).symm
  · have hne : ∀ j, j < N → h j ≠ inf := fun j hj e => hx ⟨j, hj, e⟩
    have hP := hper hne
    exact Cv.FinL.unique ⟨by show (1 : Int) ≤ p; omega, by rw [hl]; show (p : Int) ≤ N; omega, fun k hk => by rw [hl] at hk; rw [hv k hk]; exact hne k hk⟩ (fun t ht => by rw [hl] at ht; exact hv t ht)
      (by rw [hl, hpn]; exact hP) t
theorem LeastS.len {f g : Cv} (hp : Pre f) (h : LeastS f g) : g.vals.length ≤ f.vals.length := by
  rcases h with ⟨m, hm, _, _, rfl⟩ | ⟨hne, h⟩
  · rw [tab_length]; omega
  · have hF : f.FinL := ⟨hp.p1, hp.pn, hne⟩
    have hp1 := hp.p1; have hpn := hp.pn
    obtain ⟨g', hg', hl, _⟩ := nf_exists (h := f.at) (s := f.vals.length - f.per.toNat) (p := f.per.toNat) (by omega) hF.step (fun t ht => by rw [Cv.at_lt (by omega)]; exact hne t (by omega))
    obtain rfl := NF.unique (.inl h) (.inl hg')
    omega
theorem LeastS.small {f g : Cv} (hp : Pre f) (h : LeastS f g) : g.per ≤ 100000 := by
  have h1 := h.len hp
  have h2 := hp.n2
  rcases h with ⟨m, hm, _, _, rfl⟩ | ⟨hne, h⟩
  · show (1 : Int) ≤ 100000; omega
  · have := h.pn; omega

/-! ### The sum of two curves -/
theorem Cv.Ok.notFin {a : Cv} (ha : a.Ok) {t : Nat} (h : ¬ a.infAt t) (ht : a.vals.length ≤ t + 1) : a.Fin := by
  rcases ha.fin_or with h' | h'
  · exact h'
  · exact absurd ⟨h', ha.at_inf h' ht⟩ h
theorem Cv.Fin.add_ne {a b : Cv} (ha : a.Fin) (hb : b.Fin) {t : Nat} (ht : t ≤ 1000000) : a.at t + b.at t ≠ inf := by
  have h1 := ha.at_bd t; have h2 := hb.at_bd t
  have h3 : (t : Int) * 1073741824 ≤ 1000000 * 1073741824 := Int.mul_le_mul_of_nonneg_right (by omega) (by omega)
  unfold inf; omega
theorem sumV_fin {a b : Cv} (ha : a.Fin) (hb : b.Fin) (t : Nat) : sumV a b t = a.at t + b.at t := by
  unfold sumV
  rw [if_neg (by rintro (h | h); exact ha.not_infAt t h; exact hb.not_infAt t h)]
theorem sumV_inf {a b : Cv} {t : Nat} (h : a.infAt t ∨ b.infAt t) : sumV a b t = inf := by unfold sumV; rw [if_pos h]
theorem sumV_small {a b : Cv} (ha : a.Ok) (hb : b.Ok) {t : Nat} (ht : t ≤ 1000000) : 0 ≤ sumV a b t ∧ sumV a b t ≤ 4611686018427387904 := by
  by_cases h : a.infAt t ∨ b.infAt t
  · rw [sumV_inf h]; unfold inf; omega
  · rw [not_or] at h
    unfold sumV
    rw [if_neg (by rintro (h' | h'); exact h.1 h'; exact h.2 h')]
    have key : ∀ {c : Cv}, c.Ok → ¬ c.infAt t → 0 ≤ c.at t ∧ c.at t ≤ 1073741824 + 1000000 * 1073741824 := by
      intro c hc h0
      rcases hc.fin_or with h' | h'
      · have h1 := h'.at_bd t
        have h2 : (t : Int) * 1073741824 ≤ 1000000 * 1073741824 := Int.mul_le_mul_of_nonneg_right (by omega) (by omega)
        omega
      · have hlt : t < 400 := by
          rcases Nat.lt_or_ge t 400 with hh | hh
          · exact hh
          · exact absurd ⟨h', hc.at_inf h' (by have := hc.n2; omega)⟩ h0
        have := hc.fin_bd h0 hlt
        omega
    have h1 := key ha h.1; have h2 := key hb h.2
    omega
theorem sumV_later {a b : Cv} (ha : a.Ok) (hb : b.Ok) {m t : Nat} (hm : m ≤ 1000000) (h : sumV a b m = inf) (hmt : m ≤ t) : (a.infAt t ∨ b.infAt t) := by
  have h0 : a.infAt m ∨ b.infAt m := by
    by_cases hx : a.infAt m ∨ b.infAt m
    · exact hx
    · exfalso
      have h1 := sumV_small ha hb hm
      rw [not_or] at hx
      rw [sumV_pl ha hb (by omega)] at h
      unfold pl at h
      have e1 : a.at m ≠ inf := fun e => hx.1 ((ha.at_bd (by omega)).2.2 e)
      have e2 : b.at m ≠ inf := fun e => hx.2 ((hb.at_bd (by omega)).2.2 e)
      rw [if_neg (by rintro (e | e); exact e1 e; exact e2 e)] at h
      have key : ∀ {c : Cv}, c.Ok → ¬ c.infAt m → 0 ≤ c.at m ∧ c.at m ≤ 1073741824 + 1000000 * 1073741824 := by
        intro c hc h0
        rcases hc.fin_or with h' | h'
        · have h1 := h'.at_bd m
          have h2 : (m : Int) * 1073741824 ≤ 1000000 * 1073741824 := Int.mul_le_mul_of_nonneg_right (by omega) (by omega)
          omega
        · have hlt : m < 400 := by
            rcases Nat.lt_or_ge m 400 with hh | hh
            · exact hh
            · exact absurd ⟨h', hc.at_inf h' (by have := hc.n2; omega)⟩ h0
          have := hc.fin_bd h0 hlt
          omega
      have h3 := key ha hx.1; have h4 := key hb hx.2
      unfold inf at h
      omega
  exact h0.imp (fun h => h.later ha hmt) (fun h => h.later hb hmt)
/-- without infinite values up to a common period behind both starts -/
theorem sum_per {a b : Cv} (ha : a.Ok) (hb : b.Ok) {s c : Nat} (h1 : a.vals.length - a.per.toNat ≤ s) (h2 : b.vals.length - b.per.toNat ≤ s) (hc : c = comm a.per.toNat b.per.toNat) (hne : ∀ j, j < s + c → sumV a b j ≠ inf) :
    a.Fin ∧ b.Fin ∧ Per (sumV a b) s c ((c / a.per.toNat : Nat) * a.inc + (c / b.per.toNat : Nat) * b.inc) := by
  have hp := ha.p1; have hq := hb.p1
  have hk := comm_facts (p := a.per.toNat) (q := b.per.toNat) (by omega) (by omega)
  rw [← hc] at hk
  have key : ∀ {d : Cv}, d.Ok → d.vals.length - d.per.toNat ≤ s → ¬ d.infAt s → d.Fin := by
    intro d hd h h0
    rcases hd.fin_or with h' | h'
    · exact h'
    · exact absurd (hd.infAt_start h' h) h0
  have hs : ¬ (a.infAt s ∨ b.infAt s) := fun h => hne s (by omega) (sumV_inf h)
  rw [not_or] at hs
  have fa := key ha h1 hs.1
  have fb := key hb h2 hs.2
  refine ⟨fa, fb, fun t ht => ?_⟩
  rw [sumV_fin fa fb, sumV_fin fa fb]
  have e1 := fa.toL.step.mul (c / a.per.toNat) t (by omega)
  have e2 := fb.toL.step.mul (c / b.per.toNat) t (by omega)
  rw [← hk.1] at e1
  rw [← hk.2.1] at e2
  omega
/-- the start -/
def cst (f : Cv) : Nat := f.vals.length - f.per.toNat
/-- what a curve gains in l ticks -/
def gnl (h : Cv) (l : Nat) : Int := ((l / h.per.toNat : Nat) : Int) * h.inc
section
variable {a : Cv}
theorem cst_le (ha : a.Ok) : cst a ≤ 400 := by have := ha.n2; unfold cst; omega
theorem notfin_inf (ha : a.Ok) (h : ¬ a.Fin) : nth a.vals (a.vals.length - 1) = inf := ha.fin_or.resolve_left h
theorem nfa_at (ha : a.Ok) {t : Nat} (ht : t ≤ 4000000000) : a.at t = inf ↔ a.infAt t := ⟨(ha.at_bd ht).2.2, fun h => h.2⟩
theorem fin_at_ne (fa : a.Fin) {t : Nat} (ht : t ≤ 4000000000) : a.at t ≠ inf := fun e => fa.not_infAt t ((nfa_at fa.1 ht).1 e)
end
end Go.Proofs.Ythdibkmjoiipgaa
