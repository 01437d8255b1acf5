/- The functions of package fraction that are used: size, divisor, New. -/
import Derived.Test.YthdibkmjoiipgaaCurve2
import Derived.BigQuiet
import Derived.Deep.QuietTactic
import Derived.Deep.LoopGhost
import Derived.Outline
namespace Go.Proofs.Ythdibkmjoiipgaa
open Go.RowKit
set_option linter.unusedVariables false

theorem divisor_any (a b : Nat) (w : World) (ha : (a : Int) ≤ 4611686018427387904) (hb : (b : Int) ≤ 4611686018427387904) :
    Calls Try.prog 155 #[.int .u64 a, .int .u64 b] w fun e w' => e = .returned (.int .u64 (Nat.gcd a b : Nat)) ∧ Below w.heap.size w w' := by
  go_enter Try.func155, Try.ntmps155
  go_wp2
  go_loopg [0, 1] b (fun g s0 s1 wx => ∃ x y : Nat, s0 = .int .u64 x ∧ s1 = .int .u64 y ∧ y = g ∧ (x : Int) ≤ 4611686018427387904 ∧ (y : Int) ≤ 4611686018427387904 ∧ Hid (Nat.gcd x y = Nat.gcd a b) ∧ Below w.heap.size w wx)
  case atStart => exact ⟨a, b, rfl, rfl, rfl, ha, hb, rfl, Below.refl _ _⟩
  case round =>
    obtain ⟨x, y, rfl, rfl, hyg, hx, hy, hgcd, bw⟩ := hrel
    have HY := Lib.hid hyg; clear hyg
    have HG := Lib.hid hgcd; clear hgcd
    by_cases hy0 : y = 0
    · have hb1 : ((y : Int) != 0) = false := by simpa using hy0
      have F := Lib.hid (show (x : Int) = (Nat.gcd a b : Nat) by rw [← HG.out.out, hy0, Nat.gcd_zero_right]); clear HG hy0
      go_wp2
      go_ret
      exact ⟨ret_int F.out, bw⟩
    · have hb1 : ((y : Int) != 0) = true := by simpa using hy0
      have hlt : x % y < y := Nat.mod_lt _ (by omega)
      have F := Lib.hid (show Nat.gcd y (x % y) = Nat.gcd a b by rw [Nat.gcd_comm, ← Nat.gcd_rec, Nat.gcd_comm]; exact HG.out.out); clear HG
      have hy0' : (y : Int) ≠ 0 := by omega
      clear hlt
      go_wp2_with fail
      go_quiet (fail)
      go_wp2
      go_roundg (x % y)
      case measure => rw [← HY.out]; exact Nat.mod_lt _ (by omega)
      case rel => exact ⟨y, x % y, by go_num, by go_num, rfl, hy, by have := Nat.mod_lt x (show y > 0 by omega); omega, F.out, bdrewN bw⟩

theorem size_any (a : Nat) (w : World) (ha : (a : Int) ≤ 4611686018427387904) :
    Calls Try.prog 156 #[.int .i64 a] w fun e w' => e = .returned (.int .u64 (a : Nat)) ∧ w' = w := by
  have d1 : decide ((a : Int) < 0) = false := by simp
  go_enter Try.func156, Try.ntmps156
  go_wp2
  go_ret
  exact ⟨ret_int (by omega), rfl⟩

def RetF (x y er : Int) (w : World) (e : Ending) (w' : World) : Prop := e = .returned (.tuple #[.agg #[.int .i64 x, .int .i64 y], .int .i64 er]) ∧ Below w.heap.size w w'

theorem frac_any (a b : Nat) (w : World) (ha : (a : Int) ≤ 1073741824) (hb : (b : Int) ≤ 1073741824) (hb1 : 1 ≤ b) :
    Calls Try.prog 124 #[.int .i64 a, .int .i64 b] w (RetF (a / Nat.gcd a b : Nat) (b / Nat.gcd a b : Nat) 0 w) := by
  have d0 : decide ((b : Int) < 0) = false := by simp
  have d1 : decide ((a : Int) < 0) = false := by simp
  have b0 : ((b : Int) == 0) = false := by simp; omega
  obtain ⟨g, hg⟩ : ∃ g, g = Nat.gcd a b := ⟨_, rfl⟩
  have hg1 : 0 < g := by rw [hg]; exact Nat.gcd_pos_of_pos_right _ (by omega)
  obtain ⟨x, hx⟩ : ∃ x, x = a / g := ⟨_, rfl⟩
  obtain ⟨y, hy⟩ : ∃ y, y = b / g := ⟨_, rfl⟩
  have hxa : x ≤ a := by rw [hx]; exact Nat.div_le_self _ _
  have hyb : y ≤ b := by rw [hy]; exact Nat.div_le_self _ _
  rw [← hg, ← hx, ← hy]
  have HG := Lib.hid hg; have HX := Lib.hid hx; have HY := Lib.hid hy
  clear hg hx hy
  go_enter Try.func124, Try.ntmps124
  go_wp2_with fail
  refine (size_any a _ (by omega)).mono ?_
  rintro e w1 ⟨rfl, rfl⟩
  go_wp2_with fail
  refine (size_any b _ (by omega)).mono ?_
  rintro e w1 ⟨rfl, rfl⟩
  go_wp2_with fail
  refine (divisor_any a b _ (by omega) (by omega)).mono ?_
  rintro e w1 ⟨rfl, hb⟩
  rw [← HG.out]
  have zb := (Blk.new w 23 #[.int .i64 0, .int .i64 0]).below hb (by simp)
  have z0 := zb.cell 0; have z1 := zb.cell 1; have v0 := zb.frozen 0; have v1 := zb.frozen 1
  simp at z0 z1
  have hlz := zb.lt
  have BW := Lib.hid (bthen (balloc w _) hb)
  have ZB := Lib.hid zb
  clear zb hb
  have hgn : (g : Int) ≠ 0 := by omega
  have ed1 : ((a : Int).tdiv (g : Int)) = (x : Int) := by rw [HX.out]; rfl
  have ed2 : ((b : Int).tdiv (g : Int)) = (y : Int) := by rw [HY.out]; rfl
  have dx : decide (1073741824 < (x : Int)) = false := by simp; omega
  have dy : decide (1073741824 < (y : Int)) = false := by simp; omega
  go_wp2_with fail
  go_quiet (fail)
  go_wp2_with fail
  have rb := (((ZB.out.drewN nq).set_ 0 (.int .i64 x)).set_ 1 (.int .i64 y))
  exact bodyPost_ret (v := .tuple #[.agg #[.int .i64 x, .int .i64 y], .int .i64 0]) (by simp [results, Try.results124, go_sem, rb.cell]) rfl ⟨rfl, (((bdrewN BW.out).setCell (by simp) _).setCell (by simp) _)⟩
end Go.Proofs.Ythdibkmjoiipgaa
