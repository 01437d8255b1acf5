/- The references of the fractions and the curves: Gcd, Lcm, At, Finite. -/
import Derived.Test.YthdibkmjoiipgaaRefValid
import Derived.Test.YthdibkmjoiipgaaOrdLaw2
import Derived.BigQuiet
import Derived.Deep.QuietTactic
import Derived.Deep.LoopGhost
import Derived.Outline
namespace Go.Proofs.Ythdibkmjoiipgaa
open Go.RowKit
set_option linter.unusedVariables false

theorem refGcd_any (a b : Nat) (w : World) (ha : (a : Int) ≤ 4611686018427387904) (hb : (b : Int) ≤ 4611686018427387904) :
    Calls Try.prog 111 #[.int .i64 a, .int .i64 b] w fun e w' => e = .returned (.int .i64 (Nat.gcd a b : Nat)) ∧ Below w.heap.size w w' := by
  go_enter Try.func111, Try.ntmps111
  go_wp2
  go_loopg [0, 1] b (fun g s0 s1 wx => ∃ x y : Nat, s0 = .int .i64 x ∧ s1 = .int .i64 y ∧ y = g ∧ (x : Int) ≤ 4611686018427387904 ∧ (y : Int) ≤ 4611686018427387904 ∧ Hid (Nat.gcd x y = Nat.gcd a b) ∧ Below w.heap.size w wx)
  case atStart => exact ⟨a, b, rfl, rfl, rfl, ha, hb, rfl, Below.refl _ _⟩
  case round =>
    obtain ⟨x, y, rfl, rfl, hyg, hx, hy, hgcd, bw⟩ := hrel
    have HY := Lib.hid hyg; clear hyg
    have HG := Lib.hid hgcd; clear hgcd
    by_cases hy0 : y = 0
    · have hb1 : ((y : Int) != 0) = false := by simpa using hy0
      have F := Lib.hid (show (x : Int) = (Nat.gcd a b : Nat) by rw [← HG.out.out, hy0, Nat.gcd_zero_right]); clear HG hy0
      go_wp2
      go_ret
      exact ⟨ret_int F.out, bw⟩
    · have hb1 : ((y : Int) != 0) = true := by simpa using hy0
      have hlt : x % y < y := Nat.mod_lt _ (by omega)
      have F := Lib.hid (show Nat.gcd y (x % y) = Nat.gcd a b by rw [Nat.gcd_comm, ← Nat.gcd_rec, Nat.gcd_comm]; exact HG.out.out); clear HG
      have hy0' : (y : Int) ≠ 0 := by omega
      clear hlt
      go_wp2_with fail
      go_quiet (fail)
      go_wp2
      go_roundg (x % y)
      case measure => rw [← HY.out]; exact Nat.mod_lt _ (by omega)
      case rel => exact ⟨y, x % y, by go_num, by go_num, rfl, hy, by have := Nat.mod_lt x (show y > 0 by omega); omega, F.out, bdrewN bw⟩

theorem refLcm_any (a b : Nat) (w : World) (ha : (a : Int) ≤ 1000000) (hb : (b : Int) ≤ 1000000) (ha1 : 1 ≤ a) :
    Calls Try.prog 138 #[.int .i64 a, .int .i64 b] w fun e w' => e = .returned (.int .i64 (comm a b : Nat)) ∧ Below w.heap.size w w' := by
  obtain ⟨x, hx⟩ : ∃ x, x = Nat.gcd a b := ⟨_, rfl⟩
  have hx0 : 0 < x := by rw [hx]; exact Nat.gcd_pos_of_pos_left _ (by omega)
  obtain ⟨k, hk⟩ : ∃ k, k = a / x := ⟨_, rfl⟩
  have hka : k ≤ a := by rw [hk]; exact Nat.div_le_self _ _
  have ed : ((a : Int).tdiv (x : Int)) = (k : Int) := by rw [hk]; rfl
  have hxn : (x : Int) ≠ 0 := by omega
  have hkb : (k : Int) * b ≤ 1000000 * 1000000 := Int.mul_le_mul (by omega) hb (by omega) (by omega)
  have hkb0 : 0 ≤ (k : Int) * b := Int.mul_nonneg (by omega) (by omega)
  have F := Lib.hid (show (k : Int) * b = (comm a b : Nat) by unfold comm; rw [← hx, ← hk]; simp)
  have HX := Lib.hid hx
  clear hx hk
  go_enter Try.func138, Try.ntmps138
  go_wp2_with fail
  refine (refGcd_any a b _ (by omega) (by omega)).mono ?_
  rw [← HX.out]
  rintro e w1 ⟨rfl, hb⟩
  go_wp2_with fail
  go_ret
  exact ⟨ret_int F.out, hb⟩

set_option maxHeartbeats 400000 in
theorem refAt_any (A : Option Addr) (n c : Nat) (p i t : Int) (zs : List Int) (w : World) (hA : Ints w w.heap.size A n zs) (hn : (n : Int) ≤ 1000000)
    (hp : 1 ≤ p) (hpn : p ≤ n) (hi : 0 ≤ i) (hi2 : i ≤ 1099511627776) (hz : ∀ k, 0 ≤ nth zs k ∧ nth zs k ≤ 4611686018427387904) (ht0 : 0 ≤ t) (ht : t ≤ 2097152) :
    Calls Try.prog 48 #[.agg #[.slice A n c, .int .i64 p, .int .i64 i], .int .i64 t] w fun e w' => e = .returned (.int .i64 (Cv.at ⟨zs, p, i⟩ t.toNat)) ∧ Below w.heap.size w w' := by
  obtain ⟨p, rfl⟩ := Int.eq_ofNat_of_zero_le (show 0 ≤ p by omega)
  obtain ⟨t, rfl⟩ := Int.eq_ofNat_of_zero_le ht0
  obtain ⟨b, off, rfl, hb, hc⟩ := hA.2 (by omega)
  have hl := hA.1
  have d0 : decide ((t : Int) < 0) = false := by simp
  have d1 : decide ((p : Int) < 1) = false := by simp; omega
  have d2 : decide (n < p) = false := by simp; omega
  by_cases hlt : t < n
  · have hcell := hc t hlt
    clear hc hz hA
    have fin : Cv.at ⟨zs, p, i⟩ t = nth zs t := by simp [Cv.at, hl, hlt]
    have F := Lib.hid fin; clear fin
    have HL := Lib.hid hl; clear hl
    have d3 : decide (n ≤ t) = false := by simp; omega
    go_enter Try.func48, Try.ntmps48
    go_wp2
    go_ret
    exact ⟨by rw [← F.out]; rfl, (Below.refl _ _).alloc (Nat.le_refl _) _⟩
  · obtain ⟨h1, h2, h3⟩ := idx_bd (t := t) (n := n) (p := p) (by omega) (by omega) (by omega)
    have d3 : decide (n ≤ t) = true := by simp; omega
    have e1 : ((t : Int) - n) / p = (((t - n) / p : Nat) : Int) := by rw [show (t : Int) - n = ((t - n : Nat) : Int) by omega]; rfl
    have fin : Cv.at ⟨zs, p, i⟩ t = if nth zs (t - ((t - n) / p + 1) * p) = inf then inf else nth zs (t - ((t - n) / p + 1) * p) + (((t - n) / p + 1 : Nat) : Int) * i := by simp [Cv.at, hl, hlt]
    have hq : (t - n) / p ≤ t := by have := Nat.div_le_self (t - n) p; omega
    generalize (t - n) / p = q at *
    obtain ⟨j, hj⟩ : ∃ j, t - (q + 1) * p = j := ⟨_, rfl⟩
    rw [hj] at fin h2 h3
    have hki : ((q : Int) + 1) * i ≤ 2097153 * 1099511627776 := by
      refine Int.le_trans (Int.mul_le_mul_of_nonneg_left hi2 (by omega)) ?_
      omega
    have hki0 : 0 ≤ ((q : Int) + 1) * i := Int.mul_nonneg (by omega) hi
    have hpp : ((q : Int) + 1) * p = ((q + 1) * p : Nat) := by simp
    have hqp0 : 0 ≤ ((q : Int) + 1) * p := by omega
    have hqp1 : ((q : Int) + 1) * p ≤ t := by omega
    have e2 : (t : Int) - ((q : Int) + 1) * p = j := by omega
    have hcell := hc _ h2
    have hzz := hz j
    generalize nth zs j = v at *
    clear hc hz hA hpp hj h1
    have F := Lib.hid fin; clear fin
    have HL := Lib.hid hl; clear hl
    rw [show ((q + 1 : Nat) : Int) = (q : Int) + 1 by omega] at F
    by_cases hv : v = inf
    · subst hv
      unfold inf at hcell hzz
      go_enter Try.func48, Try.ntmps48
      go_wp2
      go_ret
      exact ⟨ret_int (by rw [F.out, if_pos trivial]; rfl), (Below.refl _ _).alloc (Nat.le_refl _) _⟩
    · have hv' : (v == 4611686018427387904) = false := by simp only [beq_eq_false_iff_ne]; exact hv
      rw [if_neg hv] at F
      clear hv
      go_enter Try.func48, Try.ntmps48
      go_wp2
      go_ret
      exact ⟨ret_int F.out.symm, (Below.refl _ _).alloc (Nat.le_refl _) _⟩

theorem refFinite_any (A : Option Addr) (n c : Nat) (p i : Int) (zs : List Int) (w : World) (hA : Ints w w.heap.size A n zs) (hn : (n : Int) ≤ 1000000) :
    Calls Try.prog 146 #[.agg #[.slice A n c, .int .i64 p, .int .i64 i]] w fun e w' => e = .returned (.bool (Cv.finB ⟨zs, p, i⟩)) ∧ Below w.heap.size w w' := by
  have hl := hA.1
  have hA1 := Lib.hid (hA.alloc' (.cells #[.slice A n c, .int .i64 p, .int .i64 i] 46))
  have zb := Blk.new w 46 #[.slice A n c, .int .i64 p, .int .i64 i]
  by_cases ok : Cv.okB ⟨zs, p, i⟩ = true
  · have hok := Cv.okB_iff.1 ok
    have hn1 := hok.n1
    have hn2 := hok.n2
    simp only [hl] at hn1 hn2
    obtain ⟨m, rfl⟩ : ∃ m, n = m + 1 := ⟨n - 1, by omega⟩
    have fin : Cv.finB ⟨zs, p, i⟩ = (nth zs m != inf) := by unfold Cv.finB; rw [ok, Bool.true_and, hl]; rfl
    have F := Lib.hid fin
    have OK := Lib.hid ok
    have HL := Lib.hid hl
    clear fin hok ok hl hA
    have ZB := Lib.hid zb
    clear zb
    go_enter Try.func146, Try.ntmps146
    go_wp2_with fail
    refine (refValid_any A (m + 1) c p i zs _ hA1.out hn).mono ?_
    rw [OK.out]
    rintro e w1 ⟨rfl, hb⟩
    obtain ⟨b, off, rfl, hbb, hcc⟩ := (hA1.out.ext hb).2 (by omega)
    have hm := hcc m (by omega)
    have zb := ZB.out.below hb (by simp)
    have z0 := zb.cell 0; simp at z0
    have hlz := zb.lt
    have BW := Lib.hid (bthen (balloc w _) hb)
    clear hcc zb hb
    go_wp2_with fail
    go_ret
    exact ⟨ret_bool (by rw [F.out]; rfl), BW.out⟩
  · have ok' : Cv.okB ⟨zs, p, i⟩ = false := by simpa using ok
    have F := Lib.hid (show Cv.finB ⟨zs, p, i⟩ = false by unfold Cv.finB; rw [ok', Bool.false_and])
    have OK := Lib.hid ok'
    have HL := Lib.hid hl
    clear ok ok' hl hA zb
    go_enter Try.func146, Try.ntmps146
    go_wp2_with fail
    refine (refValid_any A n c p i zs _ hA1.out hn).mono ?_
    rw [OK.out]
    rintro e w1 ⟨rfl, hb⟩
    have BW := Lib.hid (bthen (balloc w _) hb)
    clear hb
    go_wp2_with fail
    go_ret
    exact ⟨ret_bool F.out.symm, BW.out⟩
end Go.Proofs.Ythdibkmjoiipgaa
