/- wave.Plus: what it returns. -/
import Derived.Test.YtaejfleahamapaaGreatTc11
import Derived.Test.YtaejfleahamapaaGreatTc3
namespace Go.Proofs.YtaejfleahamapaaGreat
open Go.RowKit
set_option linter.unusedVariables false

def RetIw (x : Int) (w : World) (e : Ending) (w' : World) : Prop := e = .returned (.int .i64 x) ∧ w = w'
theorem plus_any (x y : Int) (w : World) (hx0 : 0 ≤ x) (hx : x = inf ∨ x ≤ 1152921504606846976) (hy0 : 0 ≤ y) (hy : y = inf ∨ y ≤ 1152921504606846976) :
    Calls Tryz.prog 44 #[.int .i64 x, .int .i64 y] w (RetIw (pl x y) w) := by
  by_cases h1 : x = inf
  · have fin : pl x y = inf := by unfold pl; rw [if_pos (.inl h1)]
    rw [fin]
    subst h1
    clear fin hx hx0 hy hy0
    unfold inf
    go_enter Tryz.func44, Tryz.ntmps44
    go_wp2_with fail
    go_ret
    exact ⟨rfl, rfl⟩
  · have hx' := hx.resolve_left h1
    have d1 : (x == 4611686018427387904) = false := by simp only [beq_eq_false_iff_ne]; exact h1
    by_cases h2 : y = inf
    · have fin : pl x y = inf := by unfold pl; rw [if_pos (.inr h2)]
      rw [fin]
      have d2 : (y == 4611686018427387904) = true := by rw [h2]; rfl
      clear fin hx hx0 hy hy0 h1 h2 hx'
      unfold inf
      go_enter Tryz.func44, Tryz.ntmps44
      go_wp2_with fail
      go_ret
      exact ⟨rfl, rfl⟩
    · have hy' := hy.resolve_left h2
      have d2 : (y == 4611686018427387904) = false := by simp only [beq_eq_false_iff_ne]; exact h2
      have fin : pl x y = x + y := by unfold pl; rw [if_neg (by rintro (h | h); exact h1 h; exact h2 h)]
      rw [fin]
      clear fin hx hy h1 h2
      go_enter Tryz.func44, Tryz.ntmps44
      go_wp2_with fail
      go_ret
      exact ⟨rfl, rfl⟩
end Go.Proofs.YtaejfleahamapaaGreat

