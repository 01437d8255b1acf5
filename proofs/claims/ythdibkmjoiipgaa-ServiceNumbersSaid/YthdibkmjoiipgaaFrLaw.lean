/- Plain words: valid fractions, and a quotient in lowest terms; nothing of the program. -/
import Derived.Test.YthdibkmjoiipgaaMath
namespace Go.Proofs.Ythdibkmjoiipgaa
set_option linter.unusedVariables false

/-- in lowest terms, and in range -/
def FOk (n d : Int) : Prop := 1 ≤ d ∧ d ≤ 1073741824 ∧ -1073741824 ≤ n ∧ n ≤ 1073741824 ∧ Nat.gcd n.natAbs d.natAbs = 1
instance (n d : Int) : Decidable (FOk n d) := by unfold FOk; infer_instance
def fokB (n d : Int) : Bool := decide (FOk n d)
theorem fokB_t {n d : Int} (h : FOk n d) : fokB n d = true := decide_eq_true h
theorem fokB_f {n d : Int} (h : ¬ FOk n d) : fokB n d = false := decide_eq_false h
theorem fokB_iff {n d : Int} : fokB n d = true ↔ FOk n d := decide_eq_true_iff
/-- valid and not negative -/
def GOk (n d : Int) : Prop := FOk n d ∧ 0 ≤ n
instance (n d : Int) : Decidable (GOk n d) := by unfold GOk; infer_instance
def gokB (n d : Int) : Bool := decide (GOk n d)
theorem gokB_t {n d : Int} (h : GOk n d) : gokB n d = true := decide_eq_true h
theorem gokB_f {n d : Int} (h : ¬ GOk n d) : gokB n d = false := decide_eq_false h

/-- n / d in lowest terms, or ErrLimit (d is at least 1) -/
def fnew (n d : Int) : Int × Int × Int :=
  if n.natAbs / Nat.gcd n.natAbs d.natAbs ≤ 1073741824 ∧ d.natAbs / Nat.gcd n.natAbs d.natAbs ≤ 1073741824 then
    (if n < 0 then -((n.natAbs / Nat.gcd n.natAbs d.natAbs : Nat) : Int) else ((n.natAbs / Nat.gcd n.natAbs d.natAbs : Nat) : Int), ((d.natAbs / Nat.gcd n.natAbs d.natAbs : Nat) : Int), 0)
  else (0, 0, 3)
theorem gcd_self_div {a b : Nat} (hb : 1 ≤ b) : Nat.gcd (a / Nat.gcd a b) (b / Nat.gcd a b) = 1 := by
  have hg : 0 < Nat.gcd a b := Nat.gcd_pos_of_pos_right _ (by omega)
  rw [Nat.gcd_div (Nat.gcd_dvd_left a b) (Nat.gcd_dvd_right a b)]
  exact Nat.div_self hg
theorem fnew_ok {n d : Int} (hd : 1 ≤ d) (h : (fnew n d).2.2 = 0) : FOk (fnew n d).1 (fnew n d).2.1 := by
  have hb : 1 ≤ d.natAbs := by omega
  have h1 := gcd_self_div (a := n.natAbs) hb
  have h2 : 1 ≤ d.natAbs / Nat.gcd n.natAbs d.natAbs := Nat.div_pos (Nat.le_of_dvd (by omega) (Nat.gcd_dvd_right _ _)) (Nat.gcd_pos_of_pos_right _ (by omega))
  unfold fnew at *
  split at h
  · rename_i hc
    rw [if_pos hc]
    generalize n.natAbs / Nat.gcd n.natAbs d.natAbs = x at *
    generalize d.natAbs / Nat.gcd n.natAbs d.natAbs = y at *
    refine ⟨by show (1 : Int) ≤ y; omega, by show (y : Int) ≤ _; omega, ?_, ?_, ?_⟩
    · show _ ≤ (if n < 0 then -(x : Int) else (x : Int)); split <;> omega
    · show (if n < 0 then -(x : Int) else (x : Int)) ≤ _; split <;> omega
    · have : (if n < 0 then -(x : Int) else (x : Int)).natAbs = x := by split <;> omega
      show Nat.gcd (if n < 0 then -(x : Int) else (x : Int)).natAbs ((y : Int)).natAbs = 1
      rw [this]; exact h1
  · cases h
end Go.Proofs.Ythdibkmjoiipgaa
