/- Words for sums and lists of values. -/
import Derived.Test.YthdibkmjoiipgaaRefPair
import Derived.Test.YthdibkmjoiipgaaRefMade
import Derived.Test.YthdibkmjoiipgaaHeldT
import Derived.BigQuiet
import Derived.Deep.QuietTactic
import Derived.Deep.LoopGhost
import Derived.Deep.DeepCutAuto
namespace Go.Proofs.Ythdibkmjoiipgaa
open Go.RowKit
set_option linter.unusedVariables false

def RetI (x : Int) (w : World) (e : Ending) (w' : World) : Prop := e = .returned (.int .i64 x) ∧ w = w'
theorem tab_snoc (h : Nat → Int) (k : Nat) : tab h 0 k ++ [h k] = tab h 0 (k + 1) := by
  refine list_ext (by simp [tab_length]) (fun q hq => ?_)
  simp [tab_length] at hq
  rw [nth_append, tab_length, tab_nth _ _ _ _ hq, Nat.zero_add]
  by_cases hqj : q < k
  · rw [if_pos hqj, tab_nth _ _ _ _ hqj, Nat.zero_add]
  · rw [if_neg hqj, show q = k by omega, Nat.sub_self]; rfl
/-- a value at a tick that is not far -/
theorem at_mid {a : Cv} (ha : a.Ok) {t : Nat} (ht : t ≤ 100000) : 0 ≤ a.at t ∧ (a.at t = inf ∨ a.at t ≤ 1152921504606846976) := by
  refine ⟨ha.up0.nn t, ?_⟩
  rcases ha.fin_or with h | h
  · right
    have h1 := h.at_bd t
    have h2 : (t : Int) * 1073741824 ≤ 100000 * 1073741824 := Int.mul_le_mul_of_nonneg_right (by omega) (by omega)
    omega
  · by_cases hi : a.at t = inf
    · exact .inl hi
    · right
      have hlt : t < a.vals.length := by
        rcases Nat.lt_or_ge t a.vals.length with h' | h'
        · exact h'
        · exact absurd (ha.at_inf h (by omega)) hi
      rw [Cv.at_lt hlt] at hi ⊢
      have := ((okv_iff _).1 (ha.v t hlt)).resolve_left hi
      omega

theorem Up0.congr {h h' : Nat → Int} (H : Up0 h) (e : ∀ t, h' t = h t) : Up0 h' := by
  obtain rfl : h' = h := funext e
  exact H
/-- the curve that Sum lists -/
theorem sum_tab {a b : Cv} (ha : a.Ok) (hb : b.Ok) {C N : Nat} (hC : C = comm a.per.toNat b.per.toNat) (hC2 : C ≤ 120) (hN : N = max a.vals.length b.vals.length + C) {I : Int} (hI : I = (C / a.per.toNat : Nat) * a.inc + (C / b.per.toNat : Nat) * b.inc) (t : Nat) :
    Cv.at ⟨tab (sumV a b) 0 N, C, I⟩ t = sumV a b t := by
  have hp := ha.p1; have hq := hb.p1
  have hk := comm_facts (p := a.per.toNat) (q := b.per.toNat) (by omega) (by omega)
  rw [← hC] at hk
  have hn1 := ha.n2; have hn2 := hb.n2
  refine tab_at (by omega) (by omega) (fun m t hm h hmt => sumV_inf (sumV_later ha hb (by omega) h hmt)) (fun m hm h => ?_) (fun hne => ?_) t
  · have h1 := sumV_later ha hb (by omega) h (Nat.le_refl m)
    have h2 : N - C = max a.vals.length b.vals.length := by omega
    refine sumV_inf ?_
    rcases h1 with h1 | h1
    · exact .inl ⟨h1.1, ha.at_inf h1.1 (by omega)⟩
    · exact .inr ⟨h1.1, hb.at_inf h1.1 (by omega)⟩
  · have h2 : N - C = max a.vals.length b.vals.length := by omega
    have h3 := sum_per ha hb (s := N - C) (c := C) (by omega) (by omega) hC (fun j hj => hne j (by omega))
    rw [hI]
    exact h3.2.2


end Go.Proofs.Ythdibkmjoiipgaa
