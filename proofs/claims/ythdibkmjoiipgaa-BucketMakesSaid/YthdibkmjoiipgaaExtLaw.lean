/- Plain words for the reference's minimum and maximum. -/
import Derived.Test.YthdibkmjoiipgaaPwLaw2
namespace Go.Proofs.Ythdibkmjoiipgaa
set_option linter.unusedVariables false

section
variable {l : Bool} {a b : Cv}
theorem ext_perA (ha : a.Ok) (hb : b.Ok) (hn : ¬ a.Fin) (hne : ∀ j, j < 400 + ordC a b → exV l a b j ≠ inf) : Per (exV l a b) 400 (ordC a b) (gnB a b) := by
  have B := ord_b ha hb
  have h0 := B.f0; have h1 := B.c1; have h2 := B.gs
  rcases exV_one ha hb (fun h => hn h.1) (hne _ (by omega)) with ⟨h, _⟩ | ⟨_, fb, k⟩
  · exact absurd h hn
  · intro t ht
    rw [k t (by omega), k (t + _) (by omega)]
    exact gnB_per ha fb (s := 400) (by omega) t ht
theorem ext_perB (ha : a.Ok) (hb : b.Ok) (hf : a.Fin) (hn : ¬ b.Fin) (hne : ∀ j, j < 400 + ordC a b → exV l a b j ≠ inf) : Per (exV l a b) 400 (ordC a b) (gnA a b) := by
  have B := ord_b ha hb
  have h0 := B.f0; have h1 := B.c1; have h2 := B.fs
  rcases exV_one ha hb (fun h => hn h.2) (hne _ (by omega)) with ⟨_, k⟩ | ⟨h, _⟩
  · intro t ht
    rw [k t (by omega), k (t + _) (by omega)]
    exact gnA_per hf hb (s := 400) (by omega) t ht
  · exact absurd hf h
/-- the reference's errors: the steeper curve has not passed yet -/
def ExtBad (a b : Cv) (t : Nat) : Prop := (ordD a b < 0 ∧ 0 < a.at t - b.at t) ∨ (0 < ordD a b ∧ a.at t - b.at t < 0)
theorem ext_per2 (fa : a.Fin) (fb : b.Fin) (hall : ∀ t, 400 ≤ t → t < 400 + ordC a b → ¬ ExtBad a b t) : Per (exV l a b) 400 (ordC a b) (if l = decide (0 < ordD a b) then gnB a b else gnA a b) := by
  have B := ord_b fa.1 fb.1
  have h0 := B.f0; have h1 := B.c1; have h2 := B.fs; have h3 := B.gs
  have hD := ordD_gn a b
  have kA : ∀ (_ : firstS l (gnA a b) (gnB a b)) (_ : ∀ t, 400 ≤ t → t < 400 + ordC a b → exV l a b t = a.at t), Per (exV l a b) 400 (ordC a b) (gnA a b) := fun h1 h2 t ht => by
    rw [exV_stayA fa fb h1 h2 t ht, exV_stayA fa fb h1 h2 _ (by omega)]
    exact gnA_per fa fb.1 (s := 400) (by omega) t ht
  have kB : ∀ (_ : firstS l (gnB a b) (gnA a b)) (_ : ∀ t, 400 ≤ t → t < 400 + ordC a b → exV l a b t = b.at t), Per (exV l a b) 400 (ordC a b) (gnB a b) := fun h1 h2 t ht => by
    rw [exV_stayB fa fb h1 h2 t ht, exV_stayB fa fb h1 h2 _ (by omega)]
    exact gnB_per fa.1 fb (s := 400) (by omega) t ht
  have bad : ∀ t, 400 ≤ t → t < 400 + ordC a b → ¬ ((ordD a b < 0 ∧ 0 < a.at t - b.at t) ∨ (0 < ordD a b ∧ a.at t - b.at t < 0)) := hall
  rcases Int.lt_trichotomy (ordD a b) 0 with h | h | h
  · rw [show decide (0 < ordD a b) = false from by simp; omega]
    cases l
    · rw [if_pos rfl]
      refine kB (by show gnA a b < gnB a b; omega) (fun t h1 h2 => ?_)
      have := bad t h1 h2
      rw [exV_fin fa fb, pk_false]; omega
    · rw [if_neg (by decide)]
      refine kA (by show gnA a b < gnB a b; omega) (fun t h1 h2 => ?_)
      have := bad t h1 h2
      rw [exV_fin fa fb, pk_true]; omega
  · have he : gnA a b = gnB a b := by omega
    have := exV_eq (l := l) fa fb he (s := 400) (by omega)
    split
    · rw [← he]; exact this
    · exact this
  · rw [show decide (0 < ordD a b) = true from by simp; omega]
    cases l
    · rw [if_neg (by decide)]
      refine kA (by show gnB a b < gnA a b; omega) (fun t h1 h2 => ?_)
      have := bad t h1 h2
      rw [exV_fin fa fb, pk_false]; omega
    · rw [if_pos rfl]
      refine kB (by show gnB a b < gnA a b; omega) (fun t h1 h2 => ?_)
      have := bad t h1 h2
      rw [exV_fin fa fb, pk_true]; omega
theorem ext_no (fa : a.Fin) (fb : b.Fin) {t : Nat} (ht : 400 ≤ t) (hb : ExtBad a b t) : MadeL (exV l a b) Cv.none 3 := by
  have hD := ordD_gn a b
  refine MadeL.none_ ?_
  rcases hb with ⟨h1, h2⟩ | ⟨h1, h2⟩
  · cases l
    · exact exV_noB fa fb (by show gnA a b < gnB a b; omega) ht (by rw [exV_fin fa fb, pk_false]; omega)
    · exact exV_noA fa fb (by show gnA a b < gnB a b; omega) ht (by rw [exV_fin fa fb, pk_true]; omega)
  · cases l
    · exact exV_noA fa fb (by show gnB a b < gnA a b; omega) ht (by rw [exV_fin fa fb, pk_false]; omega)
    · exact exV_noB fa fb (by show gnB a b < gnA a b; omega) ht (by rw [exV_fin fa fb, pk_true]; omega)
/-- what the reference's list holds, with the increment J -/
structure ExtJ (l : Bool) (a b : Cv) (C : Nat) (J : Int) : Prop where
  j0 : 0 ≤ J
  j1 : J ≤ 1099511627776
  per : (∀ j, j < 400 + C → exV l a b j ≠ inf) → Per (exV l a b) 400 C J
theorem gn_b (ha : a.Ok) (hb : b.Ok) (hc : ordC a b ≤ 120) : (0 ≤ gnA a b ∧ gnA a b ≤ 128849018880) ∧ 0 ≤ gnB a b ∧ gnB a b ≤ 128849018880 := by
  have hp1 := ha.p1; have hp2 := ha.p2; have hi1 := ha.i1; have hi2 := ha.i2
  have hq1 := hb.p1; have hq2 := hb.p2; have hj1 := hb.i1; have hj2 := hb.i2
  obtain ⟨e1, e2, e3, e4, e5, e6⟩ := comm_facts (p := a.per.toNat) (q := b.per.toNat) (by omega) (by omega)
  have a1 : ((ordC a b / a.per.toNat : Nat) : Int) * a.inc ≤ 120 * 1073741824 := Int.mul_le_mul (by show ((comm _ _ / _ : Nat) : Int) ≤ _; omega) hi2 hi1 (by omega)
  have a2 : ((ordC a b / b.per.toNat : Nat) : Int) * b.inc ≤ 120 * 1073741824 := Int.mul_le_mul (by show ((comm _ _ / _ : Nat) : Int) ≤ _; omega) hj2 hj1 (by omega)
  have a3 : 0 ≤ ((ordC a b / a.per.toNat : Nat) : Int) * a.inc := Int.mul_nonneg (Int.natCast_nonneg _) hi1
  have a4 : 0 ≤ ((ordC a b / b.per.toNat : Nat) : Int) * b.inc := Int.mul_nonneg (Int.natCast_nonneg _) hj1
  unfold gnA gnB
  omega
end
theorem finB_t {a : Cv} (h : a.Fin) : Cv.finB a = true := by
  unfold Cv.finB
  rw [Cv.okB_true h.1]
  simpa using h.2
theorem finB_f {a : Cv} (ha : a.Ok) (h : ¬ a.Fin) : Cv.finB a = false := by
  have h1 := ha.fin_or.resolve_left h
  unfold Cv.finB
  rw [h1]
  simp
end Go.Proofs.Ythdibkmjoiipgaa
