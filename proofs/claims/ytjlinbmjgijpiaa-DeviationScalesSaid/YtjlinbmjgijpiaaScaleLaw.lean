/- Plain words for the statement DeviationScales. -/
import Derived.Test.YtjlinbmjgijpiaaMonoLaw
import Derived.Test.YtjlinbmjgijpiaaDevSmall
namespace Go.Proofs.Ytjlinbmjgijpiaa
set_option linter.unusedVariables false

theorem DrawC.at_fin {most : Nat} {f : Cv} (h : DrawC most f) (hF : f.Fin) (t : Nat) : 0 ≤ f.at t ∧ f.at t ≤ 400 + 1000 * t := ⟨hF.1.up0.nn t, h.at_bd (hF.not_infAt t)⟩
theorem scale_ok {most : Nat} {f : Cv} (h : DrawC most f) (hF : f.Fin) {k : Int} (hk : 1 ≤ k) (hk2 : k ≤ 9) : (scaleL f k).Ok ∧ ∀ t, (scaleL f k).at t = f.at t * k := by
  have hl := scaleL_len f k
  have hn1 := hF.1.n1; have hp1 := hF.1.p1; have hpn := hF.1.pn; have hn2 := hF.1.n2
  have hv : ∀ t, t < f.vals.length → nth (scaleL f k).vals t = f.at t * k := fun t ht => by rw [scaleL_nth _ _ ht, scaleV_fin hF]
  have hb : ∀ t, t < f.vals.length → 0 ≤ f.at t * k ∧ f.at t * k ≤ 3600 * 1000 := fun t ht => by
    have h1 := h.at_fin hF t
    have h2 : f.at t ≤ 400 := by
      rcases h.small t ht with h' | h'
      · exact absurd h' (hF.ne t ht).1
      · rw [Cv.at_lt ht]; exact h'
    have h3 : f.at t * k ≤ 400 * 9 := Int.mul_le_mul h2 hk2 (by omega) (by omega)
    exact ⟨Int.mul_nonneg h1.1 (by omega), by omega⟩
  have hinc := h.inc; have hi1 := hF.1.i1
  have hi2 : f.inc * k ≤ 1000 * 9 := Int.mul_le_mul hinc hk2 (by omega) (by omega)
  have hi0 : 0 ≤ f.inc * k := Int.mul_nonneg hi1 (by omega)
  have hlast : nth (scaleL f k).vals ((scaleL f k).vals.length - 1) ≠ inf := by
    rw [hl, hv _ (by omega)]
    have := hb (f.vals.length - 1) (by omega)
    unfold inf; omega
  have ok : (scaleL f k).Ok := by
    refine ⟨by omega, by omega, hp1, hF.1.p2, by rw [hl]; exact hpn, hi0, by show f.inc * k ≤ _; omega, fun q hq => (okv_iff _).2 (.inr ?_), ?_, fun q hq => ?_, fun e => absurd e hlast, fun _ => ?_⟩
    · rw [hl] at hq
      rw [hv q hq]; have := hb q hq; omega
    · rw [hv 0 (by omega)]; exact (hb 0 (by omega)).1
    · rw [hl] at hq
      rw [hv q (by omega), hv (q + 1) hq]
      exact Int.mul_le_mul_of_nonneg_right (hF.1.at_mono q) (by omega)
    · rw [hl]
      show _ ≤ nth (scaleL f k).vals (f.vals.length - f.per.toNat) + f.inc * k
      rw [hv _ (by omega), hv _ (by omega), ← Int.add_mul]
      have hw := hF.1.wrap hF.2
      rw [← Cv.at_lt (t := f.vals.length - 1) (by omega), ← Cv.at_lt (t := f.vals.length - f.per.toNat) (by omega)] at hw
      exact Int.mul_le_mul_of_nonneg_right hw (by omega)
  refine ⟨ok, fun t => ?_⟩
  have hF2 : (scaleL f k).Fin := ⟨ok, hlast⟩
  refine Cv.FinL.unique (f := scaleL f k) (h := fun t => f.at t * k) hF2.toL (fun t ht => ?_) (fun t ht => ?_) t
  · rw [hl] at ht; exact hv t ht
  · show f.at (t + f.per.toNat) * k = f.at t * k + f.inc * k
    have ht' : f.vals.length - f.per.toNat ≤ t := by
      have h1 : (scaleL f k).vals.length - f.per.toNat ≤ t := ht
      rw [hl] at h1; exact h1
    rw [hF.toL.step t ht', Int.add_mul]
theorem scale_made {most : Nat} {f a : Cv} {er : Int} (h : DrawC most f) (hF : f.Fin) {k : Int} (hk : 1 ≤ k) (hk2 : k ≤ 9) (hS : ScaleS f k a er) : er = 0 ∧ a.Fin ∧ ∀ t, a.at t = f.at t * k := by
  obtain ⟨ok, hat⟩ := scale_ok h hF hk hk2
  rcases hS with ⟨h0, _⟩ | ⟨_, h0, _⟩ | ⟨_, _, _, a0, ha0, g', hg', hS⟩
  · exact absurd hF.1 h0
  · omega
  · rw [scale_nf hF.1 ha0] at hg'
    have e : scaleV f k = (scaleL f k).at := by funext t; rw [hat, scaleV_fin hF]
    rw [e] at hg'
    have hgo := (nf_small ok hg').1
    rcases hS with ⟨_, rfl, rfl⟩ | ⟨h1, _⟩
    · have hatt : ∀ t, a.at t = f.at t * k := fun t => by rw [hg'.at, hat]
      refine ⟨rfl, ⟨hgo, fun e2 => ?_⟩, hatt⟩
      have hn1 := hgo.n1; have hn2 := hgo.n2
      have h2 := hatt (a.vals.length - 1)
      rw [Cv.at_lt (by omega), e2] at h2
      have h3 := h.at_fin hF (a.vals.length - 1)
      have h4 : f.at (a.vals.length - 1) * k ≤ 500000 * 9 := Int.mul_le_mul (by omega) hk2 (by omega) (by omega)
      unfold inf at h2; omega
    · exact absurd hgo.lim h1
theorem scale_dvd {most : Nat} {f a b : Cv} (hD : DrawC most f) {k : Int} (e : ∀ t, a.at t = f.at t * k) (hb : NF a.at b) : b.per.toNat ∣ 12 := by
  obtain ⟨s, q, y, h1, h2, h3⟩ := hD.p4
  refine Nat.dvd_trans (hb.per_dvd (s := s) (p := q) (b := y * k) h1 (fun t ht => ?_)) (dvd12 h1 h2)
  rw [e, e, h3 t ht, Int.add_mul]
section
variable {f g a b : Cv} {k : Nat}
theorem scale_leAt (ff : f.Fin) (fg : g.Fin) (fa : a.Fin) (fb : b.Fin) (hk : 1 ≤ k) (ea : ∀ t, a.at t = f.at t * k) (eb : ∀ t, b.at t = g.at t * k) (t u : Nat) : LeAt a b t u ↔ LeAt f g t u := by
  have key : a.at t ≤ b.at u ↔ f.at t ≤ g.at u := by
    rw [ea, eb]
    exact ⟨fun h => Int.le_of_mul_le_mul_right h (by omega), fun h => Int.mul_le_mul_of_nonneg_right h (by omega)⟩
  unfold LeAt
  constructor
  · rintro (h | h)
    · exact absurd h (fb.not_infAt u)
    · exact .inr ⟨ff.not_infAt t, key.1 h.2⟩
  · rintro (h | h)
    · exact absurd h (fg.not_infAt u)
    · exact .inr ⟨fa.not_infAt t, key.2 h.2⟩
theorem scale_delay (ff : f.Fin) (fg : g.Fin) (fa : a.Fin) (fb : b.Fin) (hk : 1 ≤ k) (ea : ∀ t, a.at t = f.at t * k) (eb : ∀ t, b.at t = g.at t * k) {i : Bool} {v A : Nat} (h : DelayS f g i v A) : DelayS a b i v A := by
  have e : LeAt a b = LeAt f g := by funext t u; exact propext (scale_leAt ff fg fa fb hk ea eb t u)
  have e2 : DB a b = DB f g := by unfold DB; rw [e]
  unfold DelayS
  rw [e, e2]
  exact h
theorem scale_ahead (ff : f.Fin) (fg : g.Fin) (fa : a.Fin) (fb : b.Fin) (hk : 1 ≤ k) (ea : ∀ t, a.at t = f.at t * k) (eb : ∀ t, b.at t = g.at t * k) {K : Nat} {i : Bool} {v A : Nat} (h : AheadS f g K i v A) : AheadS a b K i (v * k) A := by
  have le1 : ∀ (x y : Int) (M : Nat), x ≤ y + M → x * k ≤ y * k + ((M * k : Nat) : Int) := fun x y M h => by
    have := Int.mul_le_mul_of_nonneg_right h (show (0 : Int) ≤ k by omega)
    rw [Int.add_mul] at this
    rw [Int.natCast_mul]; exact this
  rcases h with ⟨rfl, rfl, rfl, h⟩ | ⟨rfl, h1, h2, h3⟩
  · refine .inl ⟨rfl, by simp, rfl, fun M hM => h M fun t => .inr ⟨ff.not_infAt _, ?_⟩⟩
    rcases hM t with h' | h'
    · exact absurd h' (fb.not_infAt _)
    · have h4 := h'.2
      rw [ea, eb] at h4
      have h5 : (M : Int) * 1 ≤ (M : Int) * k := Int.mul_le_mul_of_nonneg_left (by omega) (by omega)
      have h6 : f.at (t + K) * k ≤ (g.at t + M) * k := by rw [Int.add_mul]; omega
      exact Int.le_of_mul_le_mul_right h6 (by omega)
  · refine .inr ⟨rfl, fun t => .inr ⟨fa.not_infAt _, ?_⟩, fun e => ?_, fun hv => ?_⟩
    · rcases h1 t with h' | h'
      · exact absurd h' (fg.not_infAt _)
      · rw [ea, eb]; exact le1 _ _ _ h'.2
    · rcases Nat.mul_eq_zero.1 e with h' | h'
      · exact h2 h'
      · omega
    · have hv' : 0 < v := Nat.pos_of_ne_zero fun e => by rw [e] at hv; simp at hv
      obtain ⟨⟨_, h4⟩, h5⟩ := h3 hv'
      refine ⟨⟨fb.not_infAt _, ?_⟩, fun t ht => .inr ?_⟩
      · rw [ea, eb, h4, Int.add_mul, Int.natCast_mul]
      · rcases h5 t ht with h' | h'
        · exact absurd h' (fg.not_infAt _)
        · rw [ea, eb, Int.natCast_mul, ← Int.add_mul]
          exact Int.mul_lt_mul_of_pos_right h' (by omega)
theorem AheadS.at_lt (ff : f.Fin) (fg : g.Fin) {K v A : Nat} (h : AheadS f g K false v A) : A ≤ 14800 := by
  have hl : ¬ Loose f g := fun hl => by
    have := (AheadS.unique (loose_ahead ff.1 K hl) h).1
    cases this
  have hd : ordD f g ≤ 0 := by
    rcases Int.lt_or_le 0 (ordD f g) with h' | h'
    · exact absurd ⟨fg, .inr h'⟩ hl
    · exact h'
  have hb1 := ordFC_le ff.1 fg.1
  rcases h with ⟨h, _⟩ | ⟨_, _, h0, h1⟩
  · cases h
  · rcases Nat.eq_zero_or_pos v with e | e
    · rw [h0 e]; omega
    · obtain ⟨⟨_, h2⟩, h3⟩ := h1 e
      rcases Nat.lt_or_ge A (ordF f g + ordC f g) with h4 | h4
      · omega
      · exfalso
        have hp := ff.1.p1; have hq := fg.1.p1
        have hc := comm_facts (p := f.per.toNat) (q := g.per.toNat) (by omega) (by omega)
        have hc1 : 1 ≤ ordC f g := hc.2.2.1
        obtain ⟨r, rfl⟩ : ∃ r, A = r + ordC f g := ⟨A - ordC f g, by omega⟩
        have e1 := ff.toL.step.mul (ordC f g / f.per.toNat) (r + K) (by unfold ordF at h4; omega)
        have e2 := fg.toL.step.mul (ordC f g / g.per.toNat) r (by unfold ordF at h4; omega)
        have k1 : ordC f g / f.per.toNat * f.per.toNat = ordC f g := hc.1.symm
        have k2 : ordC f g / g.per.toNat * g.per.toNat = ordC f g := hc.2.1.symm
        rw [k1] at e1
        rw [k2] at e2
        unfold ordD at hd
        rw [show r + ordC f g + K = r + K + ordC f g by omega, e1, e2] at h2
        rcases h3 r (by omega) with h5 | h5
        · exact fg.not_infAt _ h5
        · omega
theorem AheadS.small (ff : f.Fin) (fg : g.Fin) {K v A : Nat} (hK : K ≤ 1) (h : AheadS f g K false v A) : (v : Int) ≤ 20000000000000 := by
  have hA := h.at_lt ff fg
  rcases h with ⟨h, _⟩ | ⟨_, _, h0, h1⟩
  · cases h
  · rcases Nat.eq_zero_or_pos v with e | e
    · omega
    · have h2 := (h1 e).1.2
      have h3 := ff.at_bd (A + K)
      have h4 := fg.1.up0.nn A
      omega
end
end Go.Proofs.Ytjlinbmjgijpiaa
