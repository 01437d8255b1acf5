/- Plain words: a curve moved to later ticks, and multiplied; nothing of the program. -/
import Derived.Test.YthdibkmjoiipgaaDevLaw
namespace Go.Proofs.Ythdibkmjoiipgaa
set_option linter.unusedVariables false

/-- what an operation on a curve and a number returns, where S tells it of the normal form -/
def OneS (lo hi : Int) (S : Cv → Cv → Int → Prop) (f : Cv) (n : Int) (r : Cv) (er : Int) : Prop :=
  (¬ f.Ok ∧ r = Cv.none ∧ er = 1) ∨ (f.Ok ∧ (n < lo ∨ hi < n) ∧ r = Cv.none ∧ er = 2) ∨ (f.Ok ∧ lo ≤ n ∧ n ≤ hi ∧ ∃ a, NF f.at a ∧ S a r er)
theorem OneS.unique {lo hi : Int} {S : Cv → Cv → Int → Prop} (hS : ∀ {a r r' : Cv} {e e' : Int}, S a r e → S a r' e' → r = r' ∧ e = e') {f r r' : Cv} {n e e' : Int} (h : OneS lo hi S f n r e) (k : OneS lo hi S f n r' e') : r = r' ∧ e = e' := by
  rcases h with ⟨h0, rfl, rfl⟩ | ⟨h0, h1, rfl, rfl⟩ | ⟨h0, h1, h2, a, ha, h⟩ <;> rcases k with ⟨k0, rfl, rfl⟩ | ⟨k0, k1, rfl, rfl⟩ | ⟨k0, k1, k2, b, kb, k⟩
  · exact ⟨rfl, rfl⟩
  · exact absurd k0 h0
  · exact absurd k0 h0
  · exact absurd h0 k0
  · exact ⟨rfl, rfl⟩
  · omega
  · exact absurd h0 k0
  · omega
  · obtain rfl := ha.unique kb
    exact hS h k

/-! ### Later -/
def laterV (a : Cv) (d t : Nat) : Int := if t < d then 0 else a.at (t - d)
theorem laterV_lt {a : Cv} {d t : Nat} (h : t < d) : laterV a d t = 0 := if_pos h
theorem laterV_ge {a : Cv} {d t : Nat} (h : d ≤ t) : laterV a d t = a.at (t - d) := if_neg (by omega)
theorem later_up {a : Cv} (ha : a.Ok) (d : Nat) : Up0 (laterV a d) := by
  have hz := ha.up0.nn
  refine ⟨?_, fun t => ?_⟩
  · by_cases h : 0 < d
    · rw [laterV_lt h]; exact Int.le_refl _
    · rw [laterV_ge (by omega)]; exact hz _
  · by_cases h : t + 1 < d
    · rw [laterV_lt h, laterV_lt (by omega)]; exact Int.le_refl _
    · rw [laterV_ge (t := t + 1) (by omega)]
      by_cases h2 : t < d
      · rw [laterV_lt h2]; exact hz _
      · rw [laterV_ge (by omega), show t + 1 - d = t - d + 1 by omega]; exact ha.at_mono _
theorem later_nf {f a : Cv} (ha : NF f.at a) (d : Nat) : laterV a d = laterV f d := by
  funext t; unfold laterV; rw [ha.at]
theorem later_per {a : Cv} (ha : a.Fin) (d : Nat) : Per (laterV a d) (d + (a.vals.length - a.per.toNat)) a.per.toNat a.inc := fun t ht => by
  rw [laterV_ge (by omega), laterV_ge (by omega), show t + a.per.toNat - d = t - d + a.per.toNat by omega]
  exact ha.toL.step _ (by omega)
theorem inf_pos : (0 : Int) ≠ inf := by unfold inf; omega
theorem later_inf {a : Cv} (ha : a.Ok) {d m t : Nat} (hm : m < d + a.vals.length) (h : laterV a d m = inf) (hmt : m ≤ t) : nth a.vals (a.vals.length - 1) = inf ∧ laterV a d t = inf := by
  by_cases h1 : m < d
  · rw [laterV_lt h1] at h; exact absurd h inf_pos
  · rw [laterV_ge (by omega)] at h
    have h2 : a.infAt (m - d) := (ha.at_bd (by have := ha.n2; omega)).2.2 h
    refine ⟨h2.1, ?_⟩
    rw [laterV_ge (by omega)]
    exact (h2.later ha (by omega)).2
theorem later_tab {a : Cv} (ha : a.Ok) (d t : Nat) : Cv.at ⟨tab (laterV a d) 0 (d + a.vals.length), a.per, a.inc⟩ t = laterV a d t := by
  have hp1 := ha.p1; have hpn := ha.pn
  have e : a.per = ((a.per.toNat : Nat) : Int) := by omega
  rw [e]
  refine tab_at (by omega) (by omega) (fun m t hm h hmt => (later_inf ha hm h hmt).2) (fun m hm h => ?_) (fun hne => ?_) t
  · have hl := (later_inf ha hm h (Nat.le_refl _)).1
    have := (ha.last hl).1
    rw [laterV_ge (by omega), ha.at_inf hl (by omega)]
  · have hF : a.Fin := by
      refine ⟨ha, fun e => hne (d + (a.vals.length - 1)) (by omega) ?_⟩
      rw [laterV_ge (by omega), ha.at_inf e (by omega)]
    rw [show d + a.vals.length - a.per.toNat = d + (a.vals.length - a.per.toNat) by omega]
    exact later_per hF d
theorem later_long {a g : Cv} {d : Nat} (hd : 400 < d) (hg : NF (laterV a d) g) (hl : g.vals.length ≤ 400) (t : Nat) : a.at t = 0 := by
  rcases hg with hg | hg
  · have hp1 := hg.p1; have hpn := hg.pn
    have h1 := hg.per (g.vals.length - g.per.toNat) (Nat.le_refl _)
    rw [show g.vals.length - g.per.toNat + g.per.toNat = g.vals.length by omega, laterV_lt (by omega), laterV_lt (by omega)] at h1
    have key : ∀ u, laterV a d u = 0 := by
      intro u
      induction u using Nat.strongRecOn with
      | _ u ih =>
        by_cases hu : u < g.vals.length
        · exact laterV_lt (by omega)
        · obtain ⟨v, rfl⟩ : ∃ v, u = v + g.per.toNat := ⟨u - g.per.toNat, by omega⟩
          rw [hg.per v (by omega), ih v (by omega)]; omega
    have := key (t + d)
    rwa [laterV_ge (by omega), Nat.add_sub_cancel] at this
  · have := hg.from_ (g.vals.length - 1) (by have := hg.n1; omega)
    rw [laterV_lt (by omega)] at this
    exact absurd this inf_pos
theorem later_exists {f a : Cv} (hf : f.Ok) (ha : NF f.at a) (d : Nat) : ∃ g, NF (laterV a d) g := by
  have ok := (nf_small hf ha).1
  have hp1 := ok.p1; have hpn := ok.pn
  rcases ok.fin_or with hF | hi
  · obtain ⟨g, hg, _⟩ := nf_exists (h := laterV a d) (s := d + (a.vals.length - a.per.toNat)) (p := a.per.toNat) (by omega) (later_per hF d) (fun t ht e => hF.2 (later_inf ok (by omega) e (Nat.le_refl _)).1)
    exact ⟨g, .inl hg⟩
  · have hl := (ok.last hi).1
    rcases ha with ha | ha
    · exact absurd hi (fun e => ha.fin (a.vals.length - 1) (by omega) (by rw [← ha.vals _ (by omega)]; exact e))
    · have hn := ha.n1
      have he : (Cv.mk (tab (laterV a d) 0 (d + a.vals.length)) 1 0).vals.length = d + a.vals.length := tab_length _ _ _
      refine ⟨⟨tab (laterV a d) 0 (d + a.vals.length), 1, 0⟩, .inr ⟨rfl, rfl, by rw [he]; omega, fun t ht => ?_, fun t ht => ?_, fun t ht => ?_⟩⟩
      · rw [he] at ht; show nth (tab (laterV a d) 0 (d + a.vals.length)) t = _; rw [tab_nth _ _ _ _ ht, Nat.zero_add]
      · rw [he] at ht
        by_cases h1 : t < d
        · rw [laterV_lt h1]; exact inf_pos
        · rw [laterV_ge (by omega), Cv.at_lt (by omega), ha.vals _ (by omega)]; exact ha.before _ (by omega)
      · rw [he] at ht
        rw [laterV_ge (by omega)]
        exact ok.at_inf hi (by omega)
/-- what Later returns -/
def LaterS (f : Cv) (d : Int) : Cv → Int → Prop := OneS 0 1048576 (fun a r er => MadeS (laterV a d.toNat) r er) f d
theorem LaterS.unique {f r r' : Cv} {d e e' : Int} (h : LaterS f d r e) (k : LaterS f d r' e') : r = r' ∧ e = e' := OneS.unique (S := fun a r er => MadeS (laterV a d.toNat) r er) (fun h k => MadeS.unique h k) h k
/-- a delay by so many ticks is beyond the limits, however many they are -/
theorem later_cut {f a : Cv} (hf : f.Ok) (ha : NF f.at a) {d e : Nat} (hd : 400 < d) (he : 400 < e) {r : Cv} {er : Int} (h : MadeS (laterV a e) r er) : (∃ t, a.at t ≠ 0) → MadeS (laterV a d) r er := by
  rintro ⟨t, ht⟩
  obtain ⟨g, hg, h⟩ := h
  have hl : ¬ Lim g := fun hl => ht (later_long he hg hl.1 t)
  rcases h with ⟨h1, _⟩ | ⟨_, rfl, rfl⟩
  · exact absurd h1 hl
  · obtain ⟨g', hg'⟩ := later_exists hf ha d
    exact ⟨g', hg', .inr ⟨fun hl' => ht (later_long hd hg' hl'.1 t), rfl, rfl⟩⟩
theorem later_none {f a : Cv} (hf : f.Ok) (ha : NF f.at a) {d : Nat} (hd : 400 < d) (ht : ∃ t, a.at t ≠ 0) : MadeS (laterV a d) Cv.none 3 := by
  obtain ⟨t, ht⟩ := ht
  obtain ⟨g', hg'⟩ := later_exists hf ha d
  exact ⟨g', hg', .inr ⟨fun hl' => ht (later_long hd hg' hl'.1 t), rfl, rfl⟩⟩
theorem zero_nf : NF (fun _ => 0) ⟨[0], 1, 0⟩ := by
  refine .inl ⟨by show (1 : Int) ≤ 1; omega, by show (1 : Int) ≤ 1; omega, fun t ht => ?_, fun t ht => by show (0 : Int) = 0 + 0; omega, fun q s b h1 h2 => h1, .inl rfl, fun t ht => inf_pos⟩
  have : t = 0 := by have : t < 1 := ht; omega
  rw [this]; rfl
theorem nf_zero {f a : Cv} (ha : NF f.at a) (h : ∀ t, a.at t = 0) : a = ⟨[0], 1, 0⟩ := by
  have e : f.at = fun _ => 0 := funext fun t => by rw [← ha.at]; exact h t
  rw [e] at ha
  exact ha.unique zero_nf
theorem later_zero (d : Nat) : MadeS (laterV ⟨[0], 1, 0⟩ d) ⟨[0], 1, 0⟩ 0 := by
  have hz : ∀ t, Cv.at ⟨[0], 1, 0⟩ t = 0 := fun t => zero_nf.at t
  have e : laterV ⟨[0], 1, 0⟩ d = fun _ => 0 := funext fun t => by unfold laterV; split <;> simp [hz]
  rw [e]
  refine ⟨_, zero_nf, .inl ⟨⟨by decide, fun k hk => ?_, by decide, by decide⟩, rfl, rfl⟩⟩
  have : k = 0 := by have : k < 1 := hk; omega
  rw [this]; rfl

/-! ### Scale -/
open Classical in
noncomputable def scaleV (a : Cv) (k : Int) (t : Nat) : Int := if a.infAt t then inf else a.at t * k
theorem scaleV_fin {a : Cv} (ha : a.Fin) (k : Int) (t : Nat) : scaleV a k t = a.at t * k := by unfold scaleV; rw [if_neg (ha.not_infAt t)]
theorem scaleV_inf {a : Cv} {k : Int} {t : Nat} (h : a.infAt t) : scaleV a k t = inf := by unfold scaleV; rw [if_pos h]
theorem scaleV_not {a : Cv} {k : Int} {t : Nat} (h : ¬ a.infAt t) : scaleV a k t = a.at t * k := by unfold scaleV; rw [if_neg h]
theorem scale_nf {f a : Cv} (hf : f.Ok) (ha : NF f.at a) (k : Int) : scaleV a k = scaleV f k := by
  funext t; unfold scaleV; rw [ha.at]
  exact ite_iff _ _ (ha.inf_iff hf t)
/-- the listed values, each multiplied -/
noncomputable def scaleL (a : Cv) (k : Int) : Cv := ⟨tab (scaleV a k) 0 a.vals.length, a.per, a.inc * k⟩
theorem small_mul {x k : Int} (h0 : 0 ≤ x) (h1 : x ≤ 1073741824) (hk : 1 ≤ k) (hk2 : k ≤ 1073741824) : 0 ≤ x * k ∧ x * k ≤ 1152921504606846976 := by
  have h2 : x * k ≤ 1073741824 * 1073741824 := Int.mul_le_mul h1 hk2 (by omega) (by omega)
  exact ⟨Int.mul_nonneg h0 (by omega), by omega⟩
theorem scaleL_len (a : Cv) (k : Int) : (scaleL a k).vals.length = a.vals.length := tab_length _ _ _
theorem scaleL_nth (a : Cv) (k : Int) {t : Nat} (ht : t < a.vals.length) : nth (scaleL a k).vals t = scaleV a k t := by
  show nth (tab (scaleV a k) 0 a.vals.length) t = _
  rw [tab_nth _ _ _ _ ht, Nat.zero_add]
/-- a multiple of a normal form is one -/
theorem scale_is {f a : Cv} (hf : f.Ok) (ha : NF f.at a) {k : Int} (hk : 1 ≤ k) (hk2 : k ≤ 1073741824) : NF (scaleV a k) (scaleL a k) := by
  have ok := (nf_small hf ha).1
  have hp1 := ok.p1; have hpn := ok.pn; have hn1 := ok.n1
  have hl := scaleL_len a k
  have hv := fun t ht => scaleL_nth a k (t := t) ht
  rcases ha with ha | ha
  · have hF : a.Fin := ⟨ok, fun e => ha.fin (a.vals.length - 1) (by omega) (by rw [← ha.vals _ (by omega)]; exact e)⟩
    have hat : f.at = a.at := by funext t; exact (NF.at (.inl ha) t).symm
    rw [hat] at ha
    refine .inl ⟨hp1, by rw [hl]; exact hpn, fun t ht => hv t (by rw [hl] at ht; exact ht), ?_, ?_, ?_, ?_⟩
    · rw [hl]
      intro t ht
      rw [scaleV_fin hF, scaleV_fin hF]
      have := ha.per t ht
      show a.at (t + a.per.toNat) * k = a.at t * k + a.inc * k
      rw [this, Int.add_mul]
    · intro q s b h1 h2
      refine ha.least q s (a.at (s + q) - a.at s) h1 (fun t ht => ?_)
      have e1 := h2 t ht
      have e2 := h2 s (Nat.le_refl _)
      rw [scaleV_fin hF, scaleV_fin hF] at e1 e2
      have e3 : (a.at (t + q) - a.at t) * k = (a.at (s + q) - a.at s) * k := by rw [Int.sub_mul, Int.sub_mul]; omega
      have e4 := Int.eq_of_mul_eq_mul_right (by omega) e3
      omega
    · rw [hl]
      rcases ha.start with h | h
      · exact .inl h
      · right
        rw [scaleV_fin hF, scaleV_fin hF]
        show a.at (a.vals.length - a.per.toNat - 1) * k + a.inc * k ≠ _
        rw [← Int.add_mul]
        exact fun e => h (Int.eq_of_mul_eq_mul_right (by omega) e)
    · intro t ht
      rw [hl] at ht
      rw [scaleV_fin hF]
      have h1 := ok.nn t
      have h2 := hF.ne t ht
      rw [Cv.at_lt ht]
      have := small_mul h1.1 h2.2 hk hk2
      unfold inf; omega
  · have hi : nth a.vals (a.vals.length - 1) = inf := by rw [ha.vals _ (by omega)]; exact ha.from_ _ (by omega)
    have hat : f.at = a.at := by funext t; exact (NF.at (.inr ha) t).symm
    rw [hat] at ha
    refine .inr ⟨ha.p1, by show a.inc * k = 0; rw [ha.i0]; omega, by rw [hl]; exact hn1, fun t ht => hv t (by rw [hl] at ht; exact ht), fun t ht => ?_, fun t ht => ?_⟩
    · rw [hl] at ht
      have h0 := ha.before t ht
      rw [scaleV_not (fun h => h0 h.2), Cv.at_lt (by omega)]
      rw [Cv.at_lt (by omega)] at h0
      have h1 := ok.nn t
      have h2 := (okv_iff _).1 (ok.v t (by omega))
      have := small_mul h1.1 (h2.resolve_left h0) hk hk2
      unfold inf; omega
    · rw [hl] at ht
      exact scaleV_inf ⟨hi, ok.at_inf hi ht⟩
theorem scale_up {a : Cv} (ha : a.Ok) {k : Int} (hk : 1 ≤ k) (hk2 : k ≤ 1073741824) : Up0 (scaleV a k) := by
  refine ⟨?_, fun t => ?_⟩
  · by_cases h : a.infAt 0
    · rw [scaleV_inf h]; unfold inf; omega
    · rw [scaleV_not h]; exact Int.mul_nonneg ha.up0.z (by omega)
  · by_cases h2 : a.infAt (t + 1)
    · rw [scaleV_inf h2]
      by_cases h : a.infAt t
      · rw [scaleV_inf h]; exact Int.le_refl _
      · rw [scaleV_not h]
        have ht : t + 1 < a.vals.length := by
          rcases Nat.lt_or_ge (t + 1) a.vals.length with h' | h'
          · exact h'
          · exact absurd ⟨h2.1, ha.at_inf h2.1 (by omega)⟩ h
        have h1 := ha.nn t
        have h3 := (okv_iff _).1 (ha.v t (by omega))
        rw [Cv.at_lt (by omega)]
        have h4 : nth a.vals t ≠ inf := fun e => h ⟨h2.1, by rw [Cv.at_lt (by omega)]; exact e⟩
        have := small_mul h1.1 (h3.resolve_left h4) hk hk2
        unfold inf; omega
    · have h : ¬ a.infAt t := fun h => h2 (h.later ha (by omega))
      rw [scaleV_not h, scaleV_not h2]
      exact Int.mul_le_mul_of_nonneg_right (ha.at_mono t) (by omega)
/-- what Scale returns -/
def ScaleS (f : Cv) (k : Int) : Cv → Int → Prop := OneS 1 1073741824 (fun a r er => MadeS (scaleV a k) r er) f k
theorem ScaleS.unique {f r r' : Cv} {d e e' : Int} (h : ScaleS f d r e) (k : ScaleS f d r' e') : r = r' ∧ e = e' := OneS.unique (S := fun a r er => MadeS (scaleV a d) r er) (fun h k => MadeS.unique h k) h k
end Go.Proofs.Ythdibkmjoiipgaa
