/- Plain words: the normal form by the reference (Least); nothing of the program. -/
import Derived.Test.YtmieikfmbnaoaaaTheory
namespace Go.Proofs.Ytmieikfmbnaoaaa
set_option linter.unusedVariables false

/-- given like a curve, perhaps beyond the limits -/
structure Pre (f : Cv) : Prop where
  p1 : 1 ≤ f.per
  pn : f.per ≤ f.vals.length
  i0 : 0 ≤ f.inc
  i1 : f.inc ≤ 1099511627776
  n2 : f.vals.length ≤ 100000
  v : ∀ k, 0 ≤ nth f.vals k ∧ nth f.vals k ≤ 4611686018427387904
theorem Cv.Ok.pre {f : Cv} (h : f.Ok) : Pre f := ⟨h.p1, h.pn, h.i1, by have := h.i2; omega, by have := h.n2; omega, h.nn⟩

/-- what the reference tests of a period -/
def RefT (f : Cv) (r : Nat) : Prop := (f.per % r = 0 ∧ f.inc * r % f.per = 0) ∧ ∀ j, j < f.per.toNat → f.at (f.vals.length - f.per.toNat + j + r) = f.at (f.vals.length - f.per.toNat + j) + f.inc * r / f.per

theorem refT_LT {f : Cv} (hf : f.FinL) {r : Nat} (h1 : 1 ≤ r) (hr : r ≤ f.per.toNat) : RefT f r ↔ LT (tab f.at (f.vals.length - f.per.toNat) f.per.toNat) f.inc r := by
  have H := hf.step
  have hp1 := hf.p1; have hpn := hf.pn
  obtain ⟨s, hs⟩ : ∃ s, s = f.vals.length - f.per.toNat := ⟨_, rfl⟩
  have hP : ((f.per.toNat : Nat) : Int) = f.per := by omega
  unfold RefT LT LTi
  rw [← hs, tab_length, hP]
  rw [← hs] at H
  refine and_congr Iff.rfl ⟨fun h j hj => ?_, fun h j hj => ?_⟩
  · have h2 := h j hj
    split
    · rename_i e
      rw [tab_nth _ _ _ _ e, tab_nth _ _ _ _ hj, ← Nat.add_assoc]; exact h2
    · rename_i e
      rw [tab_nth _ _ _ _ (by omega), tab_nth _ _ _ _ hj, ← h2, ← H _ (by omega)]
      congr 1; omega
  · have h2 := h j hj
    split at h2
    · rename_i e
      rw [tab_nth _ _ _ _ e, tab_nth _ _ _ _ hj, ← Nat.add_assoc] at h2; exact h2
    · rename_i e
      rw [tab_nth _ _ _ _ (by omega), tab_nth _ _ _ _ hj, ← H _ (by omega)] at h2
      rw [← h2]
      congr 1; omega

theorem refT_per {f : Cv} (hf : f.FinL) : RefT f f.per.toNat := by
  have H := hf.step
  have hp1 := hf.p1; have hpn := hf.pn
  have hP : ((f.per.toNat : Nat) : Int) = f.per := by omega
  refine ⟨⟨by rw [hP]; exact Int.emod_self, by rw [hP]; exact Int.mul_emod_left _ _⟩, fun j hj => ?_⟩
  rw [hP, Int.mul_ediv_cancel _ (by omega)]
  exact H _ (by omega)

theorem nf_of {h : Nat → Int} {s p q s' : Nat} {i : Int} (hp : 1 ≤ p) (H : Per h s p i) (hfin : ∀ j, j < s + p → h j ≠ inf) (hq1 : 1 ≤ q) (hqp : q ≤ p) (hq : q = p ∨ LT (tab h s p) i q) (hno : ∀ r, 1 ≤ r → r < q → ¬ LT (tab h s p) i r)
    (hss : s' ≤ s) (hgood : ∀ t, s' ≤ t → t < s → h t + i * q / p = h (t + q)) (hst : s' = 0 ∨ h (s' - 1) + i * q / p ≠ h (s' - 1 + q)) : NFin h ⟨tab h 0 (s' + q), q, i * q / p⟩ := by
  obtain ⟨hq', hmin⟩ := least_is hp H hq1 hqp hq hno
  generalize i * q / p = st at *
  have hPs : Per h s' q st := by
    intro t ht
    by_cases e : t < s
    · exact (hgood t ht e).symm
    · exact hq' t (by omega)
  have hl : (Cv.mk (tab h 0 (s' + q)) q st).vals.length = s' + q := tab_length _ _ _
  have hpn : (Cv.mk (tab h 0 (s' + q)) q st).per.toNat = q := Int.toNat_natCast q
  refine ⟨by show (1 : Int) ≤ q; omega, by rw [hl]; show (q : Int) ≤ _; omega, ?_, ?_, ?_, ?_, fun t ht => hfin t (by rw [hl] at ht; omega)⟩
  · intro t ht
    rw [hl] at ht
    show nth (tab h 0 (s' + q)) t = _
    rw [tab_nth _ _ _ _ ht, Nat.zero_add]
  · rw [hl, hpn, Nat.add_sub_cancel]; exact hPs
  · rw [hpn]; exact fun r s'' b h1 h2 => hmin r s'' b h1 h2
  · rw [hl, hpn, Nat.add_sub_cancel]
    rcases hst with e | e
    · left; omega
    · by_cases e0 : s' = 0
      · left; omega
      · right
        show h (s' - 1) + st ≠ h (s' + q - 1)
        rw [show s' + q - 1 = s' - 1 + q by omega]
        exact e

/-- what the reference of the normal form returns -/
def LeastS (f g : Cv) : Prop :=
  (∃ m, m < f.vals.length ∧ nth f.vals m = inf ∧ (∀ j, j < m → nth f.vals j ≠ inf) ∧ g = ⟨tab f.at 0 (m + 1), 1, 0⟩) ∨ ((∀ j, j < f.vals.length → nth f.vals j ≠ inf) ∧ NFin f.at g)

theorem LeastS.nf {f g : Cv} (h : LeastS f g) (hinf : ∀ m t, m < f.vals.length → nth f.vals m = inf → m ≤ t → f.at t = inf) : NF f.at g := by
  rcases h with ⟨m, hm, hi, hlt, rfl⟩ | ⟨_, h⟩
  · refine .inr ⟨rfl, rfl, by rw [tab_length]; omega, fun t ht => ?_, fun t ht => ?_, fun t ht => ?_⟩
    · rw [tab_length] at ht; rw [tab_nth _ _ _ _ ht, Nat.zero_add]
    · rw [tab_length] at ht; rw [Cv.at_lt (by omega)]; exact hlt t (by omega)
    · rw [tab_length] at ht; exact hinf m t hm hi (by omega)
  · exact .inl h

theorem LeastS.ok {f g : Cv} (hf : f.Ok) (h : LeastS f g) : NF f.at g ∧ g.Ok ∧ g.vals.length ≤ f.vals.length ∧ g.per ≤ f.per := by
  have hn := h.nf (fun m t hm hi ht => hf.inf_from hm ht (by rw [Cv.at_lt hm]; exact hi))
  have hs := nf_small hf hn
  exact ⟨hn, hs.1, hs.2.1, hs.2.2.1⟩
end Go.Proofs.Ytmieikfmbnaoaaa
