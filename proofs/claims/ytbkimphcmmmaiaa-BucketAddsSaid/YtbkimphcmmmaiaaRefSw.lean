/- Words for netcalculusref05.Sum. -/
import Derived.Test.YtbkimphcmmmaiaaRefPair
import Derived.Test.YtbkimphcmmmaiaaRefMade
import Derived.Test.YtbkimphcmmmaiaaHeldT
import Derived.BigQuiet
import Derived.Deep.QuietTactic
import Derived.Deep.LoopGhost
import Derived.Deep.DeepCutAuto
namespace Go.Proofs.Ytbkimphcmmmaiaa
open Go.RowKit
set_option linter.unusedVariables false

def RetI (x : Int) (w : World) (e : Ending) (w' : World) : Prop := e = .returned (.int .i64 x) ∧ w = w'
theorem rplus_any (x y : Int) (w : World) (hx0 : 0 ≤ x) (hx : x = inf ∨ x ≤ 1152921504606846976) (hy0 : 0 ≤ y) (hy : y = inf ∨ y ≤ 1152921504606846976) :
    Calls Try.prog 73 #[.int .i64 x, .int .i64 y] w (RetI (pl x y) w) := by
  by_cases h1 : x = inf
  · have fin : pl x y = inf := by unfold pl; rw [if_pos (.inl h1)]
    rw [fin]
    subst h1
    clear fin hx hx0 hy hy0
    unfold inf
    go_enter Try.func73, Try.ntmps73
    go_wp2_with fail
    go_ret
    exact ⟨rfl, rfl⟩
  · have hx' := hx.resolve_left h1
    have d1 : (x == 4611686018427387904) = false := by simp only [beq_eq_false_iff_ne]; exact h1
    by_cases h2 : y = inf
    · have fin : pl x y = inf := by unfold pl; rw [if_pos (.inr h2)]
      rw [fin]
      have d2 : (y == 4611686018427387904) = true := by rw [h2]; rfl
      clear fin hx hx0 hy hy0 h1 h2 hx'
      unfold inf
      go_enter Try.func73, Try.ntmps73
      go_wp2_with fail
      go_ret
      exact ⟨rfl, rfl⟩
    · have hy' := hy.resolve_left h2
      have d2 : (y == 4611686018427387904) = false := by simp only [beq_eq_false_iff_ne]; exact h2
      have fin : pl x y = x + y := by unfold pl; rw [if_neg (by rintro (h | h); exact h1 h; exact h2 h)]
      rw [fin]
      clear fin hx hy h1 h2
      go_enter Try.func73, Try.ntmps73
      go_wp2_with fail
      go_ret
      exact ⟨rfl, rfl⟩
theorem tab_snoc (h : Nat → Int) (k : Nat) : tab h 0 k ++ [h k] = tab h 0 (k + 1) := by
  refine list_ext (by simp [tab_length]) (fun q hq => ?_)
  simp [tab_length] at hq
  rw [nth_append, tab_length, tab_nth _ _ _ _ hq, Nat.zero_add]
  by_cases hqj : q < k
  · rw [if_pos hqj, tab_nth _ _ _ _ hqj, Nat.zero_add]
  · rw [if_neg hqj, show q = k by omega, Nat.sub_self]; rfl
/-- a value at a tick that is not far -/
theorem at_mid {a : Cv} (ha : a.Ok) {t : Nat} (ht : t ≤ 100000) : 0 ≤ a.at t ∧ (a.at t = inf ∨ a.at t ≤ 1152921504606846976) := by
  refine ⟨ha.up0.nn t, ?_⟩
  rcases ha.fin_or with h | h
  · right
    have h1 := h.at_bd t
    have h2 : (t : Int) * 1073741824 ≤ 100000 * 1073741824 := Int.mul_le_mul_of_nonneg_right (by omega) (by omega)
    omega
  · by_cases hi : a.at t = inf
    · exact .inl hi
    · right
      have hlt : t < a.vals.length := by
        rcases Nat.lt_or_ge t a.vals.length with h' | h'
        · exact h'
        · exact absurd (ha.at_inf h (by omega)) hi
      rw [Cv.at_lt hlt] at hi ⊢
      have := ((okv_iff _).1 (ha.v t hlt)).resolve_left hi
      omega

theorem Up0.congr {h h' : Nat → Int} (H : Up0 h) (e : ∀ t, h' t = h t) : Up0 h' := by
  obtain rfl : h' = h := funext e
  exact H
/-- the curve that Sum lists -/
theorem sum_tab {a b : Cv} (ha : a.Ok) (hb : b.Ok) {C N : Nat} (hC : C = comm a.per.toNat b.per.toNat) (hC2 : C ≤ 120) (hN : N = max a.vals.length b.vals.length + C) {I : Int} (hI : I = (C / a.per.toNat : Nat) * a.inc + (C / b.per.toNat : Nat) * b.inc) (t : Nat) :
    Cv.at ⟨tab (sumV a b) 0 N, C, I⟩ t = sumV a b t := by
  have hp := ha.p1; have hq := hb.p1
  have hk := comm_facts (p := a.per.toNat) (q := b.per.toNat) (by omega) (by omega)
  rw [← hC] at hk
  have hn1 := ha.n2; have hn2 := hb.n2
  refine tab_at (by omega) (by omega) (fun m t hm h hmt => sumV_inf (sumV_later ha hb (by omega) h hmt)) (fun m hm h => ?_) (fun hne => ?_) t
  · have h1 := sumV_later ha hb (by omega) h (Nat.le_refl m)
    have h2 : N - C = max a.vals.length b.vals.length := by omega
    refine sumV_inf ?_
    rcases h1 with h1 | h1
    · exact .inl ⟨h1.1, ha.at_inf h1.1 (by omega)⟩
    · exact .inr ⟨h1.1, hb.at_inf h1.1 (by omega)⟩
  · have h2 : N - C = max a.vals.length b.vals.length := by omega
    have h3 := sum_per ha hb (s := N - C) (c := C) (by omega) (by omega) hC (fun j hj => hne j (by omega))
    rw [hI]
    exact h3.2.2


end Go.Proofs.Ytbkimphcmmmaiaa
