/- Curves that grow less and less, in plain words. -/
import Derived.Test.YthdibkmjoiipgaaMade
namespace Go.Proofs.Ythdibkmjoiipgaa
set_option linter.unusedVariables false

/-- grows less and less -/
def Conc (f : Nat → Int) : Prop := ∀ t, f (t + 2) - f (t + 1) ≤ f (t + 1) - f t
theorem conc_right {f g : Nat → Int} (hf : Conc f) (hg : Conc g) (g0 : g 0 = 0) : ∀ u s, (u = 0 ∨ f (s + 1) - f s ≤ g u - g (u - 1)) → f (s + u) ≤ f s + g u := by
  intro u
  induction u with
  | zero => intro s _; rw [g0]; show f s ≤ _; omega
  | succ u ih =>
    intro s h
    have h1 : f (s + 1) - f s ≤ g (u + 1) - g u := by
      rcases h with h | h
      · omega
      · exact h
    have h2 := ih (s + 1) (by
      rcases Nat.eq_zero_or_pos u with e | e
      · exact .inl e
      · right
        obtain ⟨v, rfl⟩ : ∃ v, u = v + 1 := ⟨u - 1, by omega⟩
        have := hg v
        have := hf s
        rw [show v + 1 - 1 = v by omega]
        rw [show v + 1 + 1 = v + 2 by omega] at h1
        rw [show s + 1 + 1 = s + 2 by omega]
        omega)
    rw [show s + 1 + u = s + (u + 1) by omega] at h2
    omega
theorem conc_min {f g : Nat → Int} (hf : Conc f) (hg : Conc g) (f0 : f 0 = 0) (g0 : g 0 = 0) (s u : Nat) : min (f (s + u)) (g (s + u)) ≤ f s + g u := by
  rcases Nat.eq_zero_or_pos u with e | e
  · have := conc_right hf hg g0 u s (.inl e); omega
  · rcases Nat.eq_zero_or_pos s with e' | e'
    · have := conc_right hg hf f0 s u (.inl e')
      rw [Nat.add_comm u s] at this; omega
    · rcases (show f (s + 1) - f s ≤ g u - g (u - 1) ∨ g u - g (u - 1) < f (s + 1) - f s by omega) with h | h
      · have := conc_right hf hg g0 u s (.inr h); omega
      · have h1 : g (u + 1) - g u ≤ f s - f (s - 1) := by
          obtain ⟨v, rfl⟩ : ∃ v, u = v + 1 := ⟨u - 1, by omega⟩
          obtain ⟨r, rfl⟩ : ∃ r, s = r + 1 := ⟨s - 1, by omega⟩
          have k1 := hg v
          have k2 := hf r
          rw [show v + 1 - 1 = v by omega] at h
          rw [show r + 1 - 1 = r by omega]
          rw [show v + 1 + 1 = v + 2 by omega]
          rw [show r + 1 + 1 = r + 2 by omega] at h
          omega
        have := conc_right hg hf f0 s u (.inr h1)
        rw [Nat.add_comm u s] at this; omega
/-- a list of values that grow less and less, by at least st -/
structure CcS (zs : List Int) (st : Int) : Prop where
  n1 : 1 ≤ zs.length
  z0 : nth zs 0 = 0
  s0 : 0 ≤ st
  s1 : st ≤ 39
  up : ∀ k, k + 1 < zs.length → st ≤ nth zs (k + 1) - nth zs k
  conc : ∀ k, k + 2 < zs.length → nth zs (k + 2) - nth zs (k + 1) ≤ nth zs (k + 1) - nth zs k
  sm : ∀ k, k < zs.length → nth zs k ≤ 39 * k
theorem CcS.nn {zs : List Int} {st : Int} (h : CcS zs st) : ∀ k, k < zs.length → 0 ≤ nth zs k := by
  intro k
  induction k with
  | zero => intro _; rw [h.z0]; omega
  | succ k ih => intro hk; have := ih (by omega); have := h.up k hk; have := h.s0; omega
theorem CcS.first {st : Int} (h0 : 0 ≤ st) (h1 : st ≤ 39) : CcS [0] st :=
  ⟨by show 1 ≤ 1; omega, rfl, h0, h1, fun k hk => by have hk' : k + 1 < 1 := hk; omega, fun k hk => by have hk' : k + 2 < 1 := hk; omega, fun k hk => by
    have hk' : k < 1 := hk
    have e : k = 0 := by omega
    subst e; show (0 : Int) ≤ _; omega⟩
theorem CcS.snoc {zs : List Int} {st st' : Int} (h : CcS zs st) (h0 : 0 ≤ st') (h1 : st' ≤ st) : CcS (zs ++ [nth zs (zs.length - 1) + st]) st' := by
  have n1 := h.n1
  have s1 := h.s1
  obtain ⟨M, hM⟩ : ∃ M, zs.length = M + 1 := ⟨zs.length - 1, by omega⟩
  rw [show zs.length - 1 = M by omega]
  obtain ⟨ys, hys⟩ : ∃ ys, ys = zs ++ [nth zs M + st] := ⟨_, rfl⟩
  have hl : ys.length = M + 2 := by rw [hys]; simp; omega
  have lo : ∀ k, k < M + 1 → nth ys k = nth zs k := fun k hk => by rw [hys, nth_append, if_pos (by omega)]
  have hi : nth ys (M + 1) = nth zs M + st := by rw [hys, nth_append, if_neg (by omega), show M + 1 - zs.length = 0 by omega]; rfl
  rw [← hys]
  refine ⟨by omega, by rw [lo 0 (by omega)]; exact h.z0, h0, by omega, fun k hk => ?_, fun k hk => ?_, fun k hk => ?_⟩
  · rw [hl] at hk
    rcases Nat.lt_or_ge (k + 1) (M + 1) with q | q
    · rw [lo _ q, lo _ (by omega)]; have := h.up k (by omega); omega
    · obtain rfl : k = M := by omega
      rw [hi, lo _ (by omega)]; omega
  · rw [hl] at hk
    rcases Nat.lt_or_ge (k + 2) (M + 1) with q | q
    · rw [lo _ q, lo _ (by omega), lo _ (by omega)]; exact h.conc k (by omega)
    · obtain rfl : M = k + 1 := by omega
      rw [hi, lo _ (by omega), lo _ (by omega)]
      have := h.up k (by omega)
      omega
  · rw [hl] at hk
    rcases Nat.lt_or_ge k (M + 1) with q | q
    · rw [lo _ q]; exact h.sm k (by omega)
    · obtain rfl : k = M + 1 := by omega
      rw [hi]
      have := h.sm M (by omega)
      omega
theorem cc_fin {zs : List Int} {st : Int} (h : CcS zs st) (hl : zs.length ≤ 20) : Cv.Fin ⟨zs, 1, st⟩ := by
  have n1 := h.n1; have s0 := h.s0; have s1 := h.s1
  have sm : ∀ k, k < zs.length → nth zs k ≤ 1000 := fun k hk => by have := h.sm k hk; omega
  have ni : nth zs (zs.length - 1) ≠ inf := by have := sm (zs.length - 1) (by omega); unfold inf; omega
  exact ⟨⟨n1, by show zs.length ≤ 400; omega, by show (1 : Int) ≤ 1; omega, by show (1 : Int) ≤ 120; omega, by show (1 : Int) ≤ (zs.length : Int); omega, s0, by show st ≤ 1073741824; omega, fun k hk => (okv_iff _).2 (.inr (by have := sm k hk; show nth zs k ≤ _; omega)),
    by show 0 ≤ nth zs 0; rw [h.z0]; omega, fun k hk => by have := h.up k hk; show nth zs k ≤ nth zs (k + 1); omega, fun hh => absurd hh ni, fun _ => by show nth zs (zs.length - 1) ≤ nth zs (zs.length - 1) + st; omega⟩, ni⟩
theorem cc_at {zs : List Int} {st : Int} (h : CcS zs st) (hl : zs.length ≤ 20) : Conc (Cv.at ⟨zs, 1, st⟩) ∧ Cv.at ⟨zs, 1, st⟩ 0 = 0 := by
  have F := cc_fin h hl
  have n1 := h.n1
  have lo : ∀ k, k < zs.length → Cv.at ⟨zs, 1, st⟩ k = nth zs k := fun k hk => Cv.at_lt hk
  have hi : ∀ k, zs.length ≤ k + 1 → Cv.at ⟨zs, 1, st⟩ (k + 1) = Cv.at ⟨zs, 1, st⟩ k + st := fun k hk => F.toL.step k (by show zs.length - 1 ≤ k; omega)
  refine ⟨fun t => ?_, by rw [lo 0 (by omega)]; exact h.z0⟩
  rcases Nat.lt_or_ge (t + 2) zs.length with q | q
  · rw [lo _ q, lo _ (by omega), lo _ (by omega)]; exact h.conc t q
  · have e1 := hi (t + 1) (by omega)
    rcases Nat.lt_or_ge (t + 1) zs.length with q2 | q2
    · have := h.up t q2
      rw [← lo _ q2, ← lo t (by omega)] at this
      rw [show t + 1 + 1 = t + 2 by omega] at e1
      omega
    · have e2 := hi t (by omega)
      rw [show t + 1 + 1 = t + 2 by omega] at e1
      omega
end Go.Proofs.Ythdibkmjoiipgaa
