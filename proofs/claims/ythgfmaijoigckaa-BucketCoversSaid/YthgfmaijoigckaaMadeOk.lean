/- Plain words: when a function of the ticks has a curve within the limits. -/
import Derived.Test.YthgfmaijoigckaaPwEx
import Derived.Test.YthgfmaijoigckaaMonoLaw
import Derived.Test.YthgfmaijoigckaaLaterLaw
namespace Go.Proofs.Ythgfmaijoigckaa
set_option linter.unusedVariables false

theorem made_curve {f r : Cv} {er : Int} (hf : f.Ok) (m : MadeL f.at r er) : er = 0 ∧ r.Ok ∧ NF f.at r := by
  obtain ⟨a, ha⟩ := hf.nf
  have hk := (nf_small hf ha).1
  obtain ⟨rfl, rfl⟩ := m.is ha hk.lim
  exact ⟨rfl, hk, ha⟩
/-- a function that repeats early and is small -/
theorem made_fin {h : Nat → Int} {r : Cv} {er : Int} (m : MadeL h r er) (H : Up0 h) {s p : Nat} {i : Int} (hp : 1 ≤ p) (P : Per h s p i) (hsp : s + p ≤ 400) (hp2 : p ≤ 120) (hv : ∀ t, t < s + p → h t ≤ 1073741824) (hi : i ≤ 1073741824) :
    er = 0 ∧ r.Ok ∧ NF h r ∧ r.Fin := by
  obtain ⟨g, hg, h1, h2⟩ := nf_exists hp P (fun t ht => by have := hv t ht; unfold inf; omega)
  have gp1 := hg.p1; have gpn := hg.pn
  have hinc : g.inc ≤ 1073741824 := by
    have h3 := hg.per (g.vals.length - g.per.toNat) (Nat.le_refl _)
    rw [show g.vals.length - g.per.toNat + g.per.toNat = g.vals.length by omega] at h3
    have h4 := H.nn (g.vals.length - g.per.toNat)
    by_cases e : g.vals.length < s + p
    · have := hv _ e; omega
    · have h5 := P s (Nat.le_refl _)
      have h6 := H.le (show s ≤ g.vals.length - g.per.toNat by omega)
      rw [show g.vals.length = s + p by omega] at h3 h6
      omega
  have hl : Lim g := ⟨by omega, fun k hk => (okv_iff _).2 (.inr (by rw [hg.vals k hk]; exact hv k (by omega))), by omega, hinc⟩
  obtain ⟨rfl, rfl⟩ := m.is (.inl hg) hl
  have ok := nf_lim_ok (.inl hg) H hl
  have hn := ok.n1
  exact ⟨rfl, ok, .inl hg, ok, by rw [hg.vals _ (by omega)]; exact hg.fin _ (by omega)⟩
/-- a function that is infinite early and small before -/
theorem made_inf {h : Nat → Int} {r : Cv} {er : Int} (m : MadeL h r er) (H : Up0 h) {k : Nat} (hk : k < 400) (hinf : ∀ t, k ≤ t → h t = inf) (hv : ∀ t, t < k → h t = inf ∨ h t ≤ 1073741824) : er = 0 ∧ r.Ok ∧ NF h r := by
  obtain ⟨q, hq1, hq2⟩ := nat_least (Q := fun q => h q = inf) ⟨k, hinf k (Nat.le_refl _)⟩
  have hqk : q ≤ k := by
    rcases Nat.lt_or_ge k q with h' | h'
    · exact absurd (hinf k (Nat.le_refl _)) (hq2 k h')
    · exact h'
  have hle : ∀ t, h t ≤ inf := fun t => by
    have h1 := H.le (show t ≤ t + k by omega)
    rw [hinf (t + k) (by omega)] at h1
    exact h1
  have hl : (Cv.mk (tab h 0 (q + 1)) 1 0).vals.length = q + 1 := tab_length _ _ _
  have hvv : ∀ t, t < q + 1 → nth (Cv.mk (tab h 0 (q + 1)) 1 0).vals t = h t := fun t ht => by
    show nth (tab h 0 (q + 1)) t = _
    rw [tab_nth _ _ _ _ ht, Nat.zero_add]
  have nf : NF h ⟨tab h 0 (q + 1), 1, 0⟩ := by
    refine .inr ⟨rfl, rfl, by rw [hl]; omega, fun t ht => hvv t (by rw [hl] at ht; exact ht), fun t ht => hq2 t (by rw [hl] at ht; omega), fun t ht => ?_⟩
    rw [hl] at ht
    have h1 := H.le (show q ≤ t by omega)
    have h2 := hle t
    rw [hq1] at h1
    omega
  have lim : Lim ⟨tab h 0 (q + 1), 1, 0⟩ := by
    refine ⟨by rw [hl]; omega, fun t ht => ?_, by show (1 : Int) ≤ 120; omega, by show (0 : Int) ≤ 1073741824; omega⟩
    rw [hl] at ht
    rw [hvv t ht]
    by_cases e : t = q
    · exact (okv_iff _).2 (.inl (by rw [e]; exact hq1))
    · exact (okv_iff _).2 ((hv t (by omega)).elim .inl .inr)
  obtain ⟨rfl, rfl⟩ := m.is nf lim
  exact ⟨rfl, nf_lim_ok nf H lim, nf⟩
/-- a curve that is made has the function's values -/
theorem NF.ats {h : Nat → Int} {r : Cv} (n : NF h r) : r.at = h := funext n.at

/-! ### The statement PointwiseUndoes -/
theorem undo_raise {f a : Cv} {N e : Int} (hD : DrawC 9 f) (hF : f.Fin) (h0 : 0 ≤ N) (h1 : N ≤ 29) (m : RaiseS f N a e) : e = 0 ∧ a.Ok ∧ a.at = raiseV f N ∧ a.Fin := by
  have hm := RaiseS.made hF.1 h0 (by omega) m
  have hn := hD.len; have hp := hD.per; have hp1 := hF.1.p1; have hpn := hF.1.pn; have hi := hD.inc
  have P := raise_per hF (c := N) (s := f.vals.length) (by omega) (by omega)
  obtain ⟨h3, h4, h5, h6⟩ := made_fin hm (raise_up hF.1 h0 (by omega)) (by omega) P (by omega) (by omega) (fun t ht => by
    rcases Nat.eq_zero_or_pos t with h | h
    · subst h; rw [raiseV_zero]; omega
    · rw [raiseV_fin h (hF.not_infAt t)]
      have := hD.at_bd (hF.not_infAt t)
      omega) (by omega)
  exact ⟨h3, h4, h5.ats, h6⟩
theorem undo_lower {f a b : Cv} {N e : Int} (hF : f.Fin) (hz : nth f.vals 0 = 0) (h0 : 0 ≤ N) (h1 : N ≤ 29) (ha : a.Fin) (hat : a.at = raiseV f N) (m : LowerS a N b e) : e = 0 ∧ b.Ok ∧ NF f.at b := by
  have hm := LowerS.made ha.1 h0 (by omega) m
  refine made_curve hF.1 (hm.congr fun t => ?_)
  rw [lowerV_fin (ha.not_infAt t), hat]
  rcases Nat.eq_zero_or_pos t with h | h
  · subst h
    rw [raiseV_zero, Cv.at_lt (by have := hF.1.n1; omega), hz]; omega
  · rw [raiseV_fin h (hF.not_infAt t)]
    have := hF.1.up0.nn t
    omega
theorem undo_later {f c : Cv} {N : Nat} {e : Int} (hD : DrawC 9 f) (hF : f.Fin) (h1 : N ≤ 58) (m : LaterS f N c e) : e = 0 ∧ c.Ok ∧ c.at = laterV f N ∧ c.Fin := by
  have hn := hD.len
  obtain ⟨h2, h3, h4⟩ := later_made hF.1 (n := N) (by omega) m
  refine ⟨h2, h3, funext h4, h3, fun e => ?_⟩
  have hc := h3.n1
  exact later_nfin hF h3 h4 (c.vals.length - 1) ⟨e, by rw [Cv.at_lt (by omega)]; exact e⟩
theorem undo_ahead {f c d : Cv} {N : Nat} {e : Int} (hF : f.Fin) (hz : nth f.vals 0 = 0) (h1 : N ≤ 29) (hc : c.Fin) (hat : c.at = laterV f N) (m : AheadFS c N d e) : e = 0 ∧ d.Ok ∧ NF f.at d := by
  have hm := AheadFS.made hc.1 (by omega) (by omega) m
  rw [Int.toNat_natCast] at hm
  refine made_curve hF.1 (hm.congr fun t => ?_)
  rcases Nat.eq_zero_or_pos t with h | h
  · subst h
    rw [aheadV_zero, Cv.at_lt (by have := hF.1.n1; omega), hz]
  · rw [aheadV_pos h, hat, laterV_ge (by omega), Nat.add_sub_cancel]
theorem undo_two {f c p q : Cv} {N M : Nat} {j k : Int} (hF : f.Fin) (h1 : N ≤ 29) (h2 : M ≤ 29) (hc : c.Fin) (hat : c.at = laterV f N) (m : LaterS c M p j) (m2 : LaterS f ((N + M : Nat) : Int) q k) : p = q ∧ j = k := by
  have a := LaterS.made hc.1 (by omega) (by omega) m
  have b := LaterS.made hF.1 (by omega) (by omega) m2
  rw [Int.toNat_natCast] at a b
  refine a.unique (b.congr fun t => ?_)
  unfold laterV
  by_cases h : t < M
  · rw [if_pos h, if_pos (by omega)]
  · rw [if_neg h, hat]
    unfold laterV
    by_cases h' : t - M < N
    · rw [if_pos h', if_pos (by omega)]
    · rw [if_neg h', if_neg (by omega), show t - M - N = t - (N + M) by omega]
end Go.Proofs.Ythgfmaijoigckaa
