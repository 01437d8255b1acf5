/- Plain words: the least tick at which a curve has a value, by the residues of its last period (ref10.First). -/
import Derived.Test.YtmieikfmbnaoaaaDevLaw
namespace Go.Proofs.Ytmieikfmbnaoaaa
set_option linter.unusedVariables false

/-- along one residue of the last period: the first tick with the value v is that behind k + 1 periods -/
theorem fst_res {f : Cv} (hF : f.Fin) {v : Int} (hv : v ≠ inf) {t k : Nat} (ht : f.vals.length - f.per.toNat ≤ t) (h1 : (k : Int) * f.inc < v - f.at t) (h2 : v - f.at t ≤ ((k : Int) + 1) * f.inc) :
    Geq f v (t + (k + 1) * f.per.toNat) ∧ ∀ j, j ≤ k → ¬ Geq f v (t + j * f.per.toNat) := by
  have hi := hF.1.i1
  refine ⟨.inr ⟨hv, ?_⟩, fun j hj => ?_⟩
  · have e := hF.toL.step.mul (k + 1) t ht
    rw [e]
    have : (((k + 1 : Nat) : Int)) = (k : Int) + 1 := by omega
    rw [this]; omega
  · rintro (h | ⟨_, h⟩)
    · exact hF.not_infAt _ h
    · rw [hF.toL.step.mul j t ht] at h
      have : (j : Int) * f.inc ≤ (k : Int) * f.inc := Int.mul_le_mul_of_nonneg_right (by omega) hi
      omega
/-- the least of these ticks is the tick of Reach -/
theorem fst_all {f : Cv} (hF : f.Fin) {v : Int} (hv : v ≠ inf) (hno : NoGeq f v f.vals.length) {kf : Nat → Nat}
    (hk : ∀ t, f.vals.length - f.per.toNat ≤ t → t < f.vals.length → (kf t : Int) * f.inc < v - f.at t ∧ v - f.at t ≤ ((kf t : Int) + 1) * f.inc)
    {X : Nat} (hX : ∃ t, f.vals.length - f.per.toNat ≤ t ∧ t < f.vals.length ∧ X = t + (kf t + 1) * f.per.toNat)
    (hle : ∀ t, f.vals.length - f.per.toNat ≤ t → t < f.vals.length → X ≤ t + (kf t + 1) * f.per.toNat) : ExS (Geq f v) X true := by
  obtain ⟨t, ht1, ht2, rfl⟩ := hX
  have h0 := hk t ht1 ht2
  have hp1 := hF.1.p1; have hpn := hF.1.pn
  refine .inl ⟨rfl, _, rfl, (fst_res hF hv ht1 h0.1 h0.2).1, fun n hn hg => ?_⟩
  by_cases hl : n < f.vals.length
  · exact hno n hl hg
  · obtain ⟨s, hs1, hs2, j, rfl⟩ : ∃ s, f.vals.length - f.per.toNat ≤ s ∧ s < f.vals.length ∧ ∃ j, n = s + j * f.per.toNat := by
      have hd := Nat.div_add_mod (n - (f.vals.length - f.per.toNat)) f.per.toNat
      have hm := Nat.mod_lt (n - (f.vals.length - f.per.toNat)) (show 0 < f.per.toNat by omega)
      rw [Nat.mul_comm] at hd
      exact ⟨f.vals.length - f.per.toNat + (n - (f.vals.length - f.per.toNat)) % f.per.toNat, by omega, by omega, (n - (f.vals.length - f.per.toNat)) / f.per.toNat, by omega⟩
    have h1 := hk s hs1 hs2
    have h2 := hle s hs1 hs2
    rcases Nat.lt_or_ge (kf s) j with h3 | h3
    · have h4 : (kf s + 1) * f.per.toNat ≤ j * f.per.toNat := Nat.mul_le_mul_right _ (by omega)
      omega
    · exact (fst_res hF hv hs1 h1.1 h1.2).2 j h3 hg
/-- how many periods behind a tick whose value is y -/
def fstK (v y i : Int) : Nat := ((v - y - 1) / i).toNat
theorem fstK_spec {v y i : Int} (hy : y < v) (hi : 1 ≤ i) : (v - y - 1) / i = (fstK v y i : Int) ∧ (v - y - 1).tdiv i = (fstK v y i : Int) ∧ (fstK v y i : Int) * i < v - y ∧ v - y ≤ ((fstK v y i : Int) + 1) * i ∧ (fstK v y i : Int) ≤ v - y := by
  have h1 := Int.mul_ediv_add_emod (v - y - 1) i
  have h2 := Int.emod_nonneg (v - y - 1) (show i ≠ 0 by omega)
  have h3 := Int.emod_lt_of_pos (v - y - 1) (show 0 < i by omega)
  have h4 : 0 ≤ (v - y - 1) / i := Int.ediv_nonneg (by omega) (by omega)
  have hK : (v - y - 1) / i = (fstK v y i : Int) := by unfold fstK; omega
  rw [hK] at h1
  have h5 : i * (fstK v y i : Int) = (fstK v y i : Int) * i := Int.mul_comm _ _
  have h6 : ((fstK v y i : Int) + 1) * i = (fstK v y i : Int) * i + i := by rw [Int.add_mul, Int.one_mul]
  have h7 : (fstK v y i : Int) * 1 ≤ (fstK v y i : Int) * i := Int.mul_le_mul_of_nonneg_left hi (by omega)
  exact ⟨hK, by rw [Int.tdiv_eq_ediv_of_nonneg (by omega)]; exact hK, by omega, by omega, by omega⟩
/-- while the residues from a to s are looked at -/
def FstI (x : Nat → Nat) (a s : Nat) (l : Int) : Prop := (s = a ∧ l = -1) ∨ ∃ X : Nat, l = X ∧ (∃ t, a ≤ t ∧ t < s ∧ X = x t) ∧ ∀ t, a ≤ t → t < s → X ≤ x t
theorem FstI.zero (x : Nat → Nat) (a : Nat) : FstI x a a (-1) := .inl ⟨rfl, rfl⟩
theorem FstI.take {x : Nat → Nat} {a s : Nat} {l : Int} (h : FstI x a s l) (ha : a ≤ s) (hl : l < 0 ∨ (x s : Int) < l) : FstI x a (s + 1) (x s) := by
  refine .inr ⟨x s, rfl, ⟨s, ha, by omega, rfl⟩, fun t h1 h2 => ?_⟩
  rcases h with ⟨rfl, _⟩ | ⟨X, rfl, _, h⟩
  · rw [show t = s by omega]; exact Nat.le_refl _
  · by_cases e : t = s
    · rw [e]; exact Nat.le_refl _
    · have := h t h1 (by omega)
      omega
theorem FstI.keep {x : Nat → Nat} {a s : Nat} {l : Int} (h : FstI x a s l) (hl : ¬ (l < 0 ∨ (x s : Int) < l)) : FstI x a (s + 1) l := by
  rw [not_or] at hl
  rcases h with ⟨_, rfl⟩ | ⟨X, rfl, ⟨t, h1, h2, h3⟩, h⟩
  · omega
  · refine .inr ⟨X, rfl, ⟨t, h1, by omega, h3⟩, fun u h4 h5 => ?_⟩
    by_cases e : u = s
    · rw [e]; omega
    · exact h u h4 (by omega)
end Go.Proofs.Ytmieikfmbnaoaaa
