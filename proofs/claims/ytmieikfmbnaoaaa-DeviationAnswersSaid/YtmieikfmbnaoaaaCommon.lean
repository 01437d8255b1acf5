/- wave.Common: the least common multiple. -/
import Derived.Test.YtmieikfmbnaoaaaCurve2
import Derived.Test.YtmieikfmbnaoaaaOrdLaw2
import Derived.BigQuiet
import Derived.Deep.QuietTactic
import Derived.Deep.LoopGhost
import Derived.Deep.RegionHeld3
import Derived.Deep.DeepCutAuto
import Derived.Deep.MidRow
import Derived.Laws.Rows
import Derived.Outline
namespace Go.Proofs.Ytmieikfmbnaoaaa
open Go.RowKit
set_option linter.unusedVariables false

theorem common_any (a b : Nat) (w : World) (ha : (a : Int) ≤ 1000) (hb : (b : Int) ≤ 1000) (ha1 : 1 ≤ a) :
    Calls Try.prog 141 #[.int .i64 a, .int .i64 b] w fun e w' => e = .returned (.int .i64 (comm a b : Nat)) ∧ Below w.heap.size w w' := by
  go_enter Try.func141, Try.ntmps141
  go_wp2
  go_loopg [5, 6] b (fun g s0 s1 wx => ∃ x y : Nat, s0 = .int .i64 x ∧ s1 = .int .i64 y ∧ y = g ∧ (x : Int) ≤ 1000 ∧ (y : Int) ≤ 1000 ∧ Hid (Nat.gcd x y = Nat.gcd a b) ∧ Below w.heap.size w wx)
  case atStart => exact ⟨a, b, rfl, rfl, rfl, ha, hb, rfl, Below.refl _ _⟩
  case round =>
    obtain ⟨x, y, rfl, rfl, hyg, hx, hy, hgcd, bw⟩ := hrel
    have HY := Lib.hid hyg; clear hyg
    have HG := Lib.hid hgcd; clear hgcd
    by_cases hy0 : y = 0
    · have hb1 : ((y : Int) != 0) = false := by simpa using hy0
      have hxg : x = Nat.gcd a b := by rw [← HG.out.out, hy0, Nat.gcd_zero_right]
      have hx0 : 0 < x := by rw [hxg]; exact Nat.gcd_pos_of_pos_left _ (by omega)
      obtain ⟨k, hk⟩ : ∃ k, k = a / x := ⟨_, rfl⟩
      have hka : k ≤ a := by rw [hk]; exact Nat.div_le_self _ _
      have ed : ((a : Int).tdiv (x : Int)) = (k : Int) := by rw [hk]; rfl
      have hxn : (x : Int) ≠ 0 := by omega
      have hkb : (k : Int) * b ≤ 1000 * 1000 := Int.mul_le_mul (by omega) hb (by omega) (by omega)
      have hkb0 : 0 ≤ (k : Int) * b := Int.mul_nonneg (by omega) (by omega)
      have F := Lib.hid (show (k : Int) * b = (comm a b : Nat) by unfold comm; rw [← hxg, ← hk]; simp); clear HG hy0 hxg hk
      go_wp2
      go_ret
      exact ⟨ret_int F.out, bw⟩
    · have hb1 : ((y : Int) != 0) = true := by simpa using hy0
      have F := Lib.hid (show Nat.gcd y (x % y) = Nat.gcd a b by rw [Nat.gcd_comm, ← Nat.gcd_rec, Nat.gcd_comm]; exact HG.out.out); clear HG
      have hy0' : (y : Int) ≠ 0 := by omega
      go_wp2_with fail
      go_quiet (fail)
      go_wp2
      go_roundg (x % y)
      case measure => rw [← HY.out]; exact Nat.mod_lt _ (by omega)
      case rel => exact ⟨y, x % y, by go_num, by go_num, rfl, hy, by have := Nat.mod_lt x (show y > 0 by omega); omega, F.out, bdrewN bw⟩

end Go.Proofs.Ytmieikfmbnaoaaa
