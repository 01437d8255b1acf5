/- Plain words: the curves that netcalculuskeep draws. -/
import Derived.Test.YthdibkmjoiipgaaTheory
namespace Go.Proofs.Ythdibkmjoiipgaa
set_option linter.unusedVariables false

/-- a drawn curve: valid, with few and small values -/
structure DrawC (most : Nat) (f : Cv) : Prop where
  ok : f.Ok
  len : f.vals.length ≤ most + 8
  per : f.per ≤ 8
  inc : f.inc ≤ 1000
  small : ∀ k, k < f.vals.length → nth f.vals k = inf ∨ nth f.vals k ≤ 400
  slope : f.inc ≤ 9 * f.per
  p4 : ∃ (s q : Nat) (b : Int), 1 ≤ q ∧ q ≤ 4 ∧ Per f.at s q b

/-- values that do not decrease, from 0 on, up to v, by at most 9 each -/
structure Rise (zs : List Int) (v : Int) : Prop where
  z : ∀ k, k < zs.length → 0 ≤ nth zs k ∧ nth zs k ≤ v
  mono : ∀ k, k + 1 < zs.length → nth zs k ≤ nth zs (k + 1)
  step : ∀ k, k + 1 < zs.length → nth zs (k + 1) ≤ nth zs k + 9
  top : ∀ k, k + 1 = zs.length → v ≤ nth zs k + 9

theorem Rise.nil (v : Int) : Rise [] v := ⟨fun k h => by simp at h, fun k h => by simp at h, fun k h => by simp at h, fun k h => by simp at h⟩
theorem Rise.snoc {zs : List Int} {v u : Int} (h : Rise zs v) (h0 : 0 ≤ v) (hu : v ≤ u) (hu2 : u ≤ v + 9) : Rise (zs ++ [v]) u := by
  have hl : (zs ++ [v]).length = zs.length + 1 := by simp
  have hlast : nth (zs ++ [v]) zs.length = v := by rw [nth_append, if_neg (by omega), Nat.sub_self]; rfl
  refine ⟨fun k hk => ?_, fun k hk => ?_, fun k hk => ?_, fun k hk => ?_⟩
  · by_cases e : k < zs.length
    · rw [nth_append, if_pos e]; have := h.z k e; omega
    · rw [show k = zs.length by omega, hlast]; omega
  · by_cases e : k + 1 < zs.length
    · rw [nth_append, nth_append, if_pos e, if_pos (by omega)]; exact h.mono k e
    · rw [show k + 1 = zs.length by omega, hlast, nth_append, if_pos (by omega)]
      exact (h.z k (by omega)).2
  · by_cases e : k + 1 < zs.length
    · rw [nth_append, nth_append, if_pos e, if_pos (by omega)]; exact h.step k e
    · rw [show k + 1 = zs.length by omega, hlast, nth_append, if_pos (by omega)]
      exact h.top k (by omega)
  · rw [show k = zs.length by omega, hlast]; omega
theorem Rise.far {zs : List Int} {v : Int} (h : Rise zs v) : ∀ d k, k + d < zs.length → nth zs (k + d) ≤ nth zs k + 9 * d
  | 0, k, hk => by simp
  | d + 1, k, hk => by
    have h1 := h.far d k (by omega)
    have h2 := h.step (k + d) (by omega)
    rw [show k + (d + 1) = k + d + 1 by omega]
    omega

theorem ok_of_rise {zs : List Int} {v p d : Int} (h : Rise zs v) (hn1 : 1 ≤ zs.length) (hn : zs.length ≤ 400) (hv : v ≤ 1000) (hp : 1 ≤ p) (hp2 : p ≤ 120) (hpn : p ≤ zs.length) (hd : 0 ≤ d) (hd2 : d ≤ 1000) :
    Cv.Fin ⟨zs, p, nth zs (zs.length - 1) - nth zs (zs.length - p.toNat) + d⟩ := by
  have hm : ∀ a b, a ≤ b → b < zs.length → nth zs a ≤ nth zs b := by
    intro a b hab hb
    induction b with
    | zero => rw [show a = 0 by omega]; exact Int.le_refl _
    | succ b ih =>
      by_cases e : a = b + 1
      · rw [e]; exact Int.le_refl _
      · exact Int.le_trans (ih (by omega) (by omega)) (h.mono b hb)
  have h1 := h.z (zs.length - 1) (by omega)
  have h2 := h.z (zs.length - p.toNat) (by omega)
  have h3 := hm (zs.length - p.toNat) (zs.length - 1) (by omega) (by omega)
  refine ⟨⟨hn1, hn, hp, hp2, hpn, ?_, ?_, ?_, (h.z 0 (by omega)).1, h.mono, ?_, ?_⟩, ?_⟩
  · show 0 ≤ nth zs (zs.length - 1) - nth zs (zs.length - p.toNat) + d; omega
  · show nth zs (zs.length - 1) - nth zs (zs.length - p.toNat) + d ≤ 1073741824; omega
  · intro k hk; exact (okv_iff _).2 (.inr (by have := h.z k hk; show nth zs k ≤ 1073741824; omega))
  · intro e; exfalso; have e' : nth zs (zs.length - 1) = inf := e; unfold inf at e'; omega
  · intro e; show nth zs (zs.length - 1) ≤ nth zs (zs.length - p.toNat) + (nth zs (zs.length - 1) - nth zs (zs.length - p.toNat) + d); omega
  · intro e; have e' : nth zs (zs.length - 1) = inf := e; unfold inf at e'; omega

theorem draw_rise {zs : List Int} {v p d : Int} {most : Nat} (h : Rise zs v) (hn1 : 1 ≤ zs.length) (hn : zs.length ≤ most) (hm : most ≤ 12) (hv : v ≤ 120) (hp : 1 ≤ p) (hp2 : p ≤ 4) (hpn : p ≤ zs.length) (hd : 0 ≤ d) (hd2 : d ≤ 8) :
    DrawC most ⟨zs, p, nth zs (zs.length - 1) - nth zs (zs.length - p.toNat) + d⟩ := by
  have h1 := h.z (zs.length - 1) (by omega)
  have h2 := h.z (zs.length - p.toNat) (by omega)
  refine ⟨(ok_of_rise h hn1 (by omega) (by omega) hp (by omega) hpn hd (by omega)).1, by show zs.length ≤ most + 8; omega, by show p ≤ 8; omega, ?_, fun k hk => .inr (by have := h.z k hk; show nth zs k ≤ 400; omega), ?_, ⟨_, p.toNat, _, by omega, by omega, (ok_of_rise h hn1 (by omega) (by omega) hp (by omega) hpn hd (by omega)).toL.step⟩⟩
  · show nth zs (zs.length - 1) - nth zs (zs.length - p.toNat) + d ≤ 1000
    omega
  · show nth zs (zs.length - 1) - nth zs (zs.length - p.toNat) + d ≤ 9 * p
    have h3 := h.far (p.toNat - 1) (zs.length - p.toNat) (by omega)
    rw [show zs.length - p.toNat + (p.toNat - 1) = zs.length - 1 by omega] at h3
    omega

theorem draw_inf {zs : List Int} {v : Int} {most : Nat} (h : Rise zs v) (hn : zs.length ≤ most) (hm : most ≤ 12) (hv : v ≤ 120) : DrawC most ⟨zs ++ [inf], 1, 0⟩ := by
  have hl : (zs ++ [inf]).length = zs.length + 1 := by simp
  have hlast : nth (zs ++ [inf]) zs.length = inf := by rw [nth_append, if_neg (by omega), Nat.sub_self]; rfl
  have hlt : ∀ k, k < zs.length → nth (zs ++ [inf]) k = nth zs k := fun k hk => by rw [nth_append, if_pos hk]
  have hsm : ∀ k, k < (zs ++ [inf]).length → nth (zs ++ [inf]) k = inf ∨ (0 ≤ nth (zs ++ [inf]) k ∧ nth (zs ++ [inf]) k ≤ v) := by
    intro k hk
    by_cases e : k < zs.length
    · rw [hlt k e]; exact .inr (h.z k e)
    · rw [show k = zs.length by omega, hlast]; exact .inl rfl
  have hok : Cv.Ok ⟨zs ++ [inf], 1, 0⟩ := by
    refine ⟨by show 1 ≤ (zs ++ [inf]).length; omega, by show (zs ++ [inf]).length ≤ 400; omega, by show (1 : Int) ≤ 1; omega, by show (1 : Int) ≤ 120; omega, by show (1 : Int) ≤ ((zs ++ [inf]).length : Nat); omega, by show (0 : Int) ≤ 0; omega, by show (0 : Int) ≤ 1073741824; omega, ?_, ?_, ?_, fun _ => ⟨rfl, rfl⟩, ?_⟩
    · intro k hk
      rcases hsm k hk with e | e
      · exact (okv_iff _).2 (.inl e)
      · exact (okv_iff _).2 (.inr (by show nth (zs ++ [inf]) k ≤ _; omega))
    · rcases hsm 0 (by omega) with e | e
      · show 0 ≤ nth (zs ++ [inf]) 0; rw [e]; unfold inf; omega
      · exact e.1
    · intro k hk
      have hk' : k + 1 < (zs ++ [inf]).length := hk
      show nth (zs ++ [inf]) k ≤ nth (zs ++ [inf]) (k + 1)
      by_cases e : k + 1 < zs.length
      · rw [hlt _ e, hlt k (by omega)]; exact h.mono k e
      · rw [show k + 1 = zs.length by omega, hlast, hlt k (by omega)]
        have := h.z k (by omega)
        unfold inf; omega
    · intro e
      exact absurd (by show nth (zs ++ [inf]) ((zs ++ [inf]).length - 1) = inf; rw [hl, Nat.add_sub_cancel, hlast]) e
  refine ⟨hok, by show (zs ++ [inf]).length ≤ most + 8; omega, by show (1 : Int) ≤ 8; omega, by show (0 : Int) ≤ 1000; omega, ?_, by show (0 : Int) ≤ 9 * 1; omega, ⟨(zs ++ [inf]).length, 1, 0, by omega, by omega, fun t ht => ?_⟩⟩
  · intro k hk
    rcases hsm k hk with e | e
    · exact .inl e
    · exact .inr (by show nth (zs ++ [inf]) k ≤ 400; omega)
  · have hl2 : nth (Cv.mk (zs ++ [inf]) 1 0).vals ((Cv.mk (zs ++ [inf]) 1 0).vals.length - 1) = inf := by show nth (zs ++ [inf]) ((zs ++ [inf]).length - 1) = inf; rw [hl, Nat.add_sub_cancel, hlast]
    rw [hok.at_inf hl2 (t := t + 1) (by show (zs ++ [inf]).length ≤ _; omega), hok.at_inf hl2 (t := t) (by show (zs ++ [inf]).length ≤ _; omega)]; omega

theorem Cv.Fin.at_small {f : Cv} (h : f.Fin) {M I : Int} (hM : ∀ k, k < f.vals.length → nth f.vals k ≤ M) (hI : f.inc ≤ I) (hI0 : 0 ≤ I) (t : Nat) : f.at t ≤ M + (t : Int) * I := by
  have hti : 0 ≤ (t : Int) * I := Int.mul_nonneg (by omega) hI0
  by_cases hlt : t < f.vals.length
  · rw [Cv.at_lt hlt]
    have := hM t hlt
    omega
  · have hp1 := h.1.p1; have hpn := h.1.pn; have hi1 := h.1.i1; have hn1 := h.1.n1
    have hx := idx_bd (t := t) (n := f.vals.length) (p := f.per.toNat) (by omega) (by omega) (by omega)
    rw [h.at_ge (by omega)]
    have h1 := hM _ hx.2.1
    have hk : (t - f.vals.length) / f.per.toNat + 1 ≤ t := by
      have := Nat.div_le_self (t - f.vals.length) f.per.toNat
      omega
    generalize (t - f.vals.length) / f.per.toNat + 1 = k at *
    have h3 : (k : Int) * f.inc ≤ (t : Int) * I := Int.mul_le_mul (by omega) hI hi1 (by omega)
    omega

theorem Cv.Fin.at_slope {f : Cv} (h : f.Fin) {M : Int} (hM : ∀ k, k < f.vals.length → nth f.vals k ≤ M) (hI : f.inc ≤ 9 * f.per) (t : Nat) : f.at t ≤ M + 9 * (t : Int) := by
  by_cases hlt : t < f.vals.length
  · rw [Cv.at_lt hlt]
    have := hM t hlt
    omega
  · have hp1 := h.1.p1; have hpn := h.1.pn; have hi1 := h.1.i1; have hn1 := h.1.n1
    have hx := idx_bd (t := t) (n := f.vals.length) (p := f.per.toNat) (by omega) (by omega) (by omega)
    rw [h.at_ge (by omega)]
    have h1 := hM _ hx.2.1
    have hkp := hx.1
    generalize (t - f.vals.length) / f.per.toNat + 1 = k at *
    have h3 : (k : Int) * f.inc ≤ (k : Int) * (9 * f.per) := Int.mul_le_mul_of_nonneg_left hI (by omega)
    have h4 : (k : Int) * f.per = ((k * f.per.toNat : Nat) : Int) := by rw [Int.natCast_mul]; congr 1; omega
    have h5 : (k : Int) * (9 * f.per) = 9 * ((k : Int) * f.per) := by rw [Int.mul_left_comm]
    omega

/-- a longer curve has the same values -/
theorem ok_longer {f g : Cv} {more times : Nat} (ok : f.Ok) (h : LongerS f more times g) (ht : 1 ≤ times) (hlen : f.vals.length + (more + (times - 1) * f.per.toNat) ≤ 400) (hper : f.per * times ≤ 120) (hinc : f.inc * times ≤ 1000000)
    (hsm : ∀ k, k < f.vals.length → nth f.vals k = inf ∨ nth f.vals k ≤ 100000) (hi : f.inc ≤ 1000) : g.Ok ∧ (∀ t, g.at t = f.at t) ∧ f.vals.length ≤ g.vals.length ∧ f.per ≤ g.per := by
  rcases h with ⟨_, rfl⟩ | ⟨hF, hgp, hgi, hgv⟩
  · exact ⟨ok, fun t => rfl, Nat.le_refl _, Int.le_refl _⟩
  · have hp1 := ok.p1; have hpn := ok.pn; have hi1 := ok.i1; have hn1 := ok.n1
    obtain ⟨N, hN⟩ : ∃ N, N = f.vals.length + (more + (times - 1) * f.per.toNat) := ⟨_, rfl⟩
    rw [← hN] at hgv hlen
    have hgl : g.vals.length = N := by rw [hgv, tab_length]
    have hgn : ∀ k, k < N → nth g.vals k = f.at k := fun k hk => by rw [hgv, tab_nth _ _ _ _ hk, Nat.zero_add]
    have hpt : g.per.toNat = times * f.per.toNat := by
      have : g.per = ((times * f.per.toNat : Nat) : Int) := by rw [hgp, Int.natCast_mul, Int.mul_comm]; congr 1; omega
      rw [this, Int.toNat_natCast]
    have hts : times * f.per.toNat = (times - 1) * f.per.toNat + f.per.toNat := by
      obtain ⟨u, rfl⟩ : ∃ u, times = u + 1 := ⟨times - 1, by omega⟩
      rw [Nat.add_mul, Nat.one_mul, Nat.add_sub_cancel]
    have hple : f.per.toNat ≤ times * f.per.toNat := Nat.le_mul_of_pos_left _ ht
    have hgpn : g.per.toNat ≤ N := by omega
    have hfs : ∀ k, k < f.vals.length → nth f.vals k ≤ 100000 := fun k hk => by
      rcases hsm k hk with e | e
      · exact absurd e (hF.ne k hk).1
      · exact e
    have hb : ∀ k, k < N → nth g.vals k ≤ 1073741824 := fun k hk => by
      rw [hgn k hk]
      have h1 := hF.at_small hfs hi (by omega) k
      have h2 : (k : Int) * 1000 ≤ 400 * 1000 := Int.mul_le_mul_of_nonneg_right (by omega) (by omega)
      omega
    have hstep : Per f.at (N - g.per.toNat) g.per.toNat g.inc := by
      have h1 := hF.toL.step.mul times
      rw [hpt]
      have e : (times : Int) * f.inc = g.inc := by rw [hgi, Int.mul_comm]
      rw [e] at h1
      exact h1.mono (by omega)
    have hz : ∀ k, 0 ≤ f.at k := fun k => Int.le_trans (by rw [Cv.at_lt (by omega)]; exact ok.z) (ok.at_le (Nat.zero_le k))
    have hgp1 : 1 ≤ g.per := by omega
    have hne : ∀ k, k < N → nth g.vals k ≠ inf := fun k hk e => by have := hb k hk; rw [e] at this; unfold inf at this; omega
    have hgi0 : 0 ≤ g.inc := by rw [hgi]; exact Int.mul_nonneg hi1 (by omega)
    refine ⟨⟨by omega, by omega, hgp1, by rw [hgp]; exact hper, by omega, hgi0, by rw [hgi]; omega, fun k hk => (okv_iff _).2 (.inr (hb k (by omega))), by rw [hgn 0 (by omega)]; exact hz 0, ?_, fun e => absurd e (hne _ (by omega)), fun _ => ?_⟩, ?_, by omega, by omega⟩
    · intro k hk; rw [hgn k (by omega), hgn _ (by omega)]; exact ok.at_mono k
    · rw [hgl, hgn _ (by omega), hgn _ (by omega), ← hstep _ (Nat.le_refl _), show N - g.per.toNat + g.per.toNat = N by omega]
      exact ok.at_le (by omega)
    · intro t
      exact Cv.FinL.unique ⟨hgp1, by omega, fun k hk => hne k (by omega)⟩ (fun k hk => hgn k (by omega)) (by rw [hgl]; exact hstep) t

theorem DrawC.len1 {most : Nat} {f : Cv} (h : DrawC most f) : 1 ≤ f.vals.length := h.ok.n1

/-- what s.Curve makes by Longer -/
theorem draw_longer {zs : List Int} {v p d : Int} {most more times : Nat} {g : Cv} (h : Rise zs v) (hn1 : 1 ≤ zs.length) (hn : zs.length ≤ most) (hm : most ≤ 12) (hv : v ≤ 120) (hp : 1 ≤ p) (hp2 : p ≤ 4) (hpn : p ≤ zs.length) (hd : 0 ≤ d) (hd2 : d ≤ 8)
    (hL : LongerS ⟨zs, p, nth zs (zs.length - 1) - nth zs (zs.length - p.toNat) + d⟩ more times g) (ht : 1 ≤ times) (ht2 : times ≤ 2) (hmo : more ≤ 3) : DrawC most g := by
  have h1 := h.z (zs.length - 1) (by omega)
  have h2 := h.z (zs.length - p.toNat) (by omega)
  have hF := ok_of_rise h hn1 (by omega) (by omega) hp (by omega) hpn hd (by omega)
  obtain ⟨i, hi⟩ : ∃ i, nth zs (zs.length - 1) - nth zs (zs.length - p.toNat) + d = i := ⟨_, rfl⟩
  rw [hi] at hF hL
  have hi2 : i ≤ 128 := by omega
  have hi0 : 0 ≤ i := hF.1.i1
  have hpt : p * (times : Int) ≤ 4 * 2 := Int.mul_le_mul hp2 (by omega) (by omega) (by omega)
  have hit : i * (times : Int) ≤ 128 * 2 := Int.mul_le_mul hi2 (by omega) (by omega) (by omega)
  have htp : (times - 1) * p.toNat ≤ 1 * 4 := Nat.mul_le_mul (by omega) (by omega)
  have hsm : ∀ k, k < (Cv.mk zs p i).vals.length → nth (Cv.mk zs p i).vals k = inf ∨ nth (Cv.mk zs p i).vals k ≤ 100000 := fun k hk => .inr (by have := h.z k hk; show nth zs k ≤ _; omega)
  obtain ⟨ok, hat, hl1, hl2⟩ := ok_longer hF.1 hL ht (by show zs.length + (more + (times - 1) * p.toNat) ≤ 400; omega) (by show p * times ≤ 120; omega) (by show i * times ≤ _; omega) hsm (by show i ≤ 1000; omega)
  rcases hL with ⟨e, rfl⟩ | ⟨_, hgp, hgi, hgv⟩
  · exact absurd e hF.2
  · have hgl : g.vals.length = zs.length + (more + (times - 1) * p.toNat) := by rw [hgv, tab_length]
    have hsl : i ≤ 9 * p := by
      have h3 := h.far (p.toNat - 1) (zs.length - p.toNat) (by omega)
      rw [show zs.length - p.toNat + (p.toNat - 1) = zs.length - 1 by omega] at h3
      omega
    refine ⟨ok, by omega, by rw [hgp]; show p * times ≤ 8; omega, by rw [hgi]; show i * times ≤ 1000; omega, fun k hk => .inr ?_, ?_, ⟨_, p.toNat, i, by omega, by omega, fun t ht => by rw [hat, hat]; exact hF.toL.step t ht⟩⟩
    · rw [hgv, tab_nth _ _ _ _ (by rw [← hgl]; exact hk), Nat.zero_add]
      have h3 := hF.at_slope (M := 120) (fun k hk => by have := h.z k hk; show nth zs k ≤ 120; omega) hsl k
      omega
    · rw [hgi, hgp]
      show i * times ≤ 9 * (p * times)
      rw [← Int.mul_assoc]
      exact Int.mul_le_mul_of_nonneg_right hsl (by omega)
end Go.Proofs.Ythdibkmjoiipgaa
