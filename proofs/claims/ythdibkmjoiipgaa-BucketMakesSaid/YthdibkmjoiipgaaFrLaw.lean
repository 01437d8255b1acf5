/- Plain words: valid fractions, and a quotient in lowest terms; nothing of the program. -/
import Derived.Test.YthdibkmjoiipgaaMath
namespace Go.Proofs.Ythdibkmjoiipgaa
set_option linter.unusedVariables false

/-- in lowest terms, and in range -/
def FOk (n d : Int) : Prop := 1 ≤ d ∧ d ≤ 1073741824 ∧ -1073741824 ≤ n ∧ n ≤ 1073741824 ∧ Nat.gcd n.natAbs d.natAbs = 1
instance (n d : Int) : Decidable (FOk n d) := by unfold FOk; infer_instance
def fokB (n d : Int) : Bool := decide (FOk n d)
theorem fokB_t {n d : Int} (h : FOk n d) : fokB n d = true := decide_eq_true h
theorem fokB_f {n d : Int} (h : ¬ FOk n d) : fokB n d = false := decide_eq_false h
theorem fokB_iff {n d : Int} : fokB n d = true ↔ FOk n d := decide_eq_true_iff
/-- valid and not negative -/
def GOk (n d : Int) : Prop := FOk n d ∧ 0 ≤ n
instance (n d : Int) : Decidable (GOk n d) := by unfold GOk; infer_instance
def gokB (n d : Int) : Bool := decide (GOk n d)
theorem gokB_t {n d : Int} (h : GOk n d) : gokB n d = true := decide_eq_true h
theorem gokB_f {n d : Int} (h : ¬ GOk n d) : gokB n d = false := decide_eq_false h

/-- n / d in lowest terms, or ErrLimit (d is at least 1) -/
def fnew (n d : Int) : Int × Int × Int :=
  if n.natAbs / Nat.gcd n.natAbs d.natAbs ≤ 1073741824 ∧ d.natAbs / Nat.gcd n.natAbs d.natAbs ≤ 1073741824 then
    (if n < 0 then -((n.natAbs / Nat.gcd n.natAbs d.natAbs : Nat) : Int) else ((n.natAbs / Nat.gcd n.natAbs d.natAbs : Nat) : Int), ((d.natAbs / Nat.gcd n.natAbs d.natAbs : Nat) : Int), 0)
  else (0, 0, 3)
theorem gcd_self_div {a b : Nat} (hb : 1 ≤ b) : Nat.gcd (a / Nat.gcd a b) (b / Nat.gcd a b) = 1 := by
  have hg : 0 < Nat.gcd a b := Nat.gcd_pos_of_pos_right _ (by omega)
  rw [Nat.gcd_div (Nat.gcd_dvd_left a b) (Nat.gcd_dvd_right a b)]
  exact Nat.div_self hg
theorem fnew_ok {n d : Int} (hd : 1 ≤ d) (h : (fnew n d).2.2 = 0) : FOk (fnew n d).1 (fnew n d).2.1 := by
  have hb : 1 ≤ d.natAbs := by omega
  have h1 := gcd_self_div (a := n.natAbs) hb
  have h2 : 1 ≤ d.natAbs / Nat.gcd n.natAbs d.natAbs := Nat.div_pos (Nat.le_of_dvd (by omega) (Nat.gcd_dvd_right _ _)) (Nat.gcd_pos_of_pos_right _ (by omega))
  unfold fnew at *
  split at h
  · rename_i hc
    rw [if_pos hc]
    generalize n.natAbs / Nat.gcd n.natAbs d.natAbs = x at *
    generalize d.natAbs / Nat.gcd n.natAbs d.natAbs = y at *
    refine ⟨by show (1 : Int) ≤ y; omega, by show (y : Int) ≤ _; omega, ?_, ?_, ?_⟩
    · show _ ≤ (if n < 0 then -(x : Int) else (x : Int)); split <;> omega
    · show (if n < 0 then -(x : Int) else (x : Int)) ≤ _; split <;> omega
    · have : (if n < 0 then -(x : Int) else (x : Int)).natAbs = x := by split <;> omega
      show Nat.gcd (if n < 0 then -(x : Int) else (x : Int)).natAbs ((y : Int)).natAbs = 1
      rw [this]; exact h1
  · cases h
end Go.Proofs.Ythdibkmjoiipgaa
namespace Go.Proofs.Ythdibkmjoiipgaa
set_option linter.unusedVariables false

/-- the sum of the first k sizes -/
def pre (z : List Int) : Nat → Int
  | 0 => 0
  | k + 1 => pre z k + nth z k
theorem pre_succ (z : List Int) (k : Nat) : pre z (k + 1) = pre z k + nth z k := rfl
/-- sizes as they may be -/
def SzOk (z : List Int) (n : Nat) : Prop := ∀ k, k < n → 0 ≤ nth z k ∧ nth z k ≤ 1500
theorem pre_bd {z : List Int} {n : Nat} (h : SzOk z n) : ∀ k, k ≤ n → ∀ i, i ≤ k → pre z i ≤ pre z k ∧ pre z k ≤ pre z i + 1500 * ((k : Int) - i) := by
  intro k
  induction k with
  | zero => intro _ i hi; rw [show i = 0 by omega]; omega
  | succ k ih =>
    intro hk i hi
    rcases Nat.lt_or_ge i (k + 1) with e | e
    · have h1 := ih (by omega) i (by omega)
      have h2 := h k (by omega)
      rw [pre_succ]; omega
    · rw [show i = k + 1 by omega]; omega
/-- what the sizes i to j need at the rate R / D, times D -/
def excT (z : List Int) (R D : Int) (i j : Nat) : Int := (pre z (j + 1) - pre z i) * D - R * ((j : Int) - i)
theorem excT_self (z : List Int) (R D : Int) (k : Nat) : excT z R D k k = nth z k * D := by
  unfold excT
  rw [pre_succ, show pre z k + nth z k - pre z k = nth z k by omega, Int.sub_self, Int.mul_zero]
  omega
theorem excT_succ (z : List Int) (R D : Int) (i k : Nat) : excT z R D i (k + 1) = excT z R D i k - R + nth z (k + 1) * D := by
  unfold excT
  rw [pre_succ z (k + 1)]
  have e1 : (pre z (k + 1) + nth z (k + 1) - pre z i) * D = (pre z (k + 1) - pre z i) * D + nth z (k + 1) * D := by
    rw [← Int.add_mul]; congr 1; omega
  have e2 : R * (((k + 1 : Nat) : Int) - i) = R * ((k : Int) - i) + R := by
    have : (((k + 1 : Nat) : Int) - i) = ((k : Int) - i) + 1 := by omega
    rw [this, Int.mul_add, Int.mul_one]
  rw [e1, e2]; omega
theorem excT_le {z : List Int} {n : Nat} (h : SzOk z n) {R D : Int} (hR : 0 ≤ R) (hD : 0 ≤ D) {i j : Nat} (hij : i ≤ j) (hj : j < n) : excT z R D i j ≤ 1500 * (n : Int) * D := by
  unfold excT
  have h1 := pre_bd h (j + 1) (by omega) i (by omega)
  have h2 : (pre z (j + 1) - pre z i) * D ≤ (1500 * (n : Int)) * D := Int.mul_le_mul_of_nonneg_right (by omega) hD
  have h3 : 0 ≤ R * ((j : Int) - i) := Int.mul_nonneg hR (by omega)
  omega
/-- the most that is needed -/
def ExcM (z : List Int) (R D : Int) (n : Nat) (m : Int) : Prop := 0 ≤ m ∧ (∀ i j, i ≤ j → j < n → excT z R D i j ≤ m) ∧ (m = 0 ∨ ∃ i j, i ≤ j ∧ j < n ∧ m = excT z R D i j)
theorem ExcM.unique {z : List Int} {R D : Int} {n : Nat} {m m' : Int} (h : ExcM z R D n m) (k : ExcM z R D n m') : m = m' := by
  have h1 : m ≤ m' := by
    rcases h.2.2 with e | ⟨i, j, h1, h2, e⟩
    · rw [e]; exact k.1
    · rw [e]; exact k.2.1 i j h1 h2
  have h2 : m' ≤ m := by
    rcases k.2.2 with e | ⟨i, j, h1, h2, e⟩
    · rw [e]; exact h.1
    · rw [e]; exact h.2.1 i j h1 h2
  omega
theorem ExcM.zero (z : List Int) (R D : Int) : ExcM z R D 0 0 := ⟨by omega, fun i j _ h => by omega, .inl rfl⟩
theorem ExcM.le {z : List Int} {R D : Int} {n N : Nat} {m : Int} (h : ExcM z R D n m) (hz : SzOk z N) (hn : n ≤ N) (hR : 0 ≤ R) (hD : 0 ≤ D) : m ≤ 1500 * (N : Int) * D := by
  rcases h.2.2 with e | ⟨i, j, h1, h2, e⟩
  · rw [e]; exact Int.mul_nonneg (by omega) hD
  · rw [e]; exact excT_le hz hR hD h1 (by omega)
/-- what the sizes up to the last one need -/
def NeedS (z : List Int) (R D : Int) (k : Nat) (m : Int) : Prop := 0 ≤ m ∧ ((k = 0 ∧ m = 0) ∨ ∃ j, k = j + 1 ∧ (∀ i, i ≤ j → excT z R D i j ≤ m) ∧ ∃ i, i ≤ j ∧ m = excT z R D i j)
theorem NeedS.zero (z : List Int) (R D : Int) : NeedS z R D 0 0 := ⟨by omega, .inl ⟨rfl, rfl⟩⟩
theorem NeedS.le {z : List Int} {R D : Int} {k N : Nat} {m : Int} (h : NeedS z R D k m) (hz : SzOk z N) (hn : k ≤ N) (hR : 0 ≤ R) (hD : 0 ≤ D) : m ≤ 1500 * (N : Int) * D := by
  rcases h.2 with ⟨_, e⟩ | ⟨j, e1, _, i, h1, e⟩
  · rw [e]; exact Int.mul_nonneg (by omega) hD
  · rw [e]; exact excT_le hz hR hD h1 (by omega)
theorem NeedS.succ {z : List Int} {R D : Int} {k : Nat} {m : Int} (h : NeedS z R D k m) (hz : 0 ≤ nth z k) (hR : 0 ≤ R) (hD : 0 ≤ D) : NeedS z R D (k + 1) ((if 0 < m - R then m - R else 0) + nth z k * D) := by
  have h0 : 0 ≤ nth z k * D := Int.mul_nonneg hz hD
  refine ⟨by split <;> omega, .inr ⟨k, rfl, fun i hi => ?_, ?_⟩⟩
  · rcases h.2 with ⟨rfl, rfl⟩ | ⟨j, rfl, h1, _⟩
    · rw [show i = 0 by omega, excT_self]; split <;> omega
    · by_cases e : i = j + 1
      · rw [e, excT_self]; split <;> omega
      · have := h1 i (by omega)
        rw [excT_succ]; split <;> omega
  · rcases h.2 with ⟨rfl, rfl⟩ | ⟨j, rfl, _, i, h1, h2⟩
    · exact ⟨0, Nat.le_refl _, by rw [excT_self, if_neg (by omega)]; omega⟩
    · by_cases e : 0 < m - R
      · exact ⟨i, by omega, by rw [excT_succ, if_pos e, h2]⟩
      · exact ⟨j + 1, Nat.le_refl _, by rw [excT_self, if_neg e]; omega⟩
theorem ExcM.succ {z : List Int} {R D : Int} {k : Nat} {m x : Int} (h : ExcM z R D k m) (hn : NeedS z R D (k + 1) x) : ExcM z R D (k + 1) (if m < x then x else m) := by
  rcases hn.2 with ⟨e, _⟩ | ⟨j, e, h1, i0, h2, h3⟩
  · omega
  · obtain rfl : k = j := by omega
    refine ⟨by have := h.1; have := hn.1; split <;> omega, fun i j' hij hj => ?_, ?_⟩
    · by_cases e : j' = k
      · subst e; have := h1 i hij; split <;> omega
      · have := h.2.1 i j' hij (by omega); split <;> omega
    · by_cases e : m < x
      · rw [if_pos e]; exact .inr ⟨i0, k, h2, by omega, h3⟩
      · rw [if_neg e]
        rcases h.2.2 with e2 | ⟨i, j', g1, g2, g3⟩
        · exact .inl e2
        · exact .inr ⟨i, j', g1, by omega, g3⟩
/-- while all pairs are looked at: those of a first one less than i, and those of i up to j - 1 -/
def ExcI (z : List Int) (R D : Int) (n i j : Nat) (m : Int) : Prop := 0 ≤ m ∧ (∀ a b, a ≤ b → b < n → (a < i ∨ (a = i ∧ b < j)) → excT z R D a b ≤ m) ∧ (m = 0 ∨ ∃ a b, a ≤ b ∧ b < n ∧ m = excT z R D a b)
theorem ExcI.zero (z : List Int) (R D : Int) (n : Nat) : ExcI z R D n 0 0 0 := ⟨by omega, fun a b _ _ h => by omega, .inl rfl⟩
theorem ExcI.start {z : List Int} {R D : Int} {n i j : Nat} {m : Int} (h : ExcI z R D n i j m) (hj : j ≤ i) (k : Nat) (hk : k ≤ i) : ExcI z R D n i k m := ⟨h.1, fun a b h1 h2 h3 => h.2.1 a b h1 h2 (by omega), h.2.2⟩
theorem ExcI.next {z : List Int} {R D : Int} {n i : Nat} {m : Int} (h : ExcI z R D n i n m) : ExcI z R D n (i + 1) (i + 1) m := ⟨h.1, fun a b h1 h2 h3 => h.2.1 a b h1 h2 (by omega), h.2.2⟩
theorem ExcI.step {z : List Int} {R D : Int} {n i j : Nat} {m x : Int} (h : ExcI z R D n i j m) (hij : i ≤ j) (hj : j < n) (hx : x = excT z R D i j) : ExcI z R D n i (j + 1) (if m < x then x else m) := by
  refine ⟨by have := h.1; split <;> omega, fun a b h1 h2 h3 => ?_, ?_⟩
  · by_cases e : a = i ∧ b = j
    · obtain ⟨rfl, rfl⟩ := e; split <;> omega
    · have := h.2.1 a b h1 h2 (by omega); split <;> omega
  · by_cases e : m < x
    · rw [if_pos e]; exact .inr ⟨i, j, hij, hj, hx⟩
    · rw [if_neg e]; exact h.2.2
theorem ExcI.done {z : List Int} {R D : Int} {n j : Nat} {m : Int} (h : ExcI z R D n n j m) : ExcM z R D n m := ⟨h.1, fun a b h1 h2 => h.2.1 a b h1 h2 (by omega), h.2.2⟩
/-- what the two functions Excess return -/
def ExcOk (B b R r : Int) (z : List Int) (n : Nat) : Prop := GOk B b ∧ GOk R r ∧ n ≤ 381 ∧ SzOk z n
def ExcS (B b R r : Int) (z : List Int) (n : Nat) (x y er : Int) : Prop :=
  (¬ ExcOk B b R r z n ∧ x = 0 ∧ y = 0 ∧ er = 2) ∨ (ExcOk B b R r z n ∧ ∃ m, ExcM z R r n m ∧ x = (fnew m r).1 ∧ y = (fnew m r).2.1 ∧ er = (fnew m r).2.2)
theorem ExcS.unique {B b R r : Int} {z : List Int} {n : Nat} {x y er x' y' er' : Int} (h : ExcS B b R r z n x y er) (k : ExcS B b R r z n x' y' er') : x = x' ∧ y = y' ∧ er = er' := by
  rcases h with ⟨h0, rfl, rfl, rfl⟩ | ⟨h0, m, h1, rfl, rfl, rfl⟩ <;> rcases k with ⟨k0, rfl, rfl, rfl⟩ | ⟨k0, m', k1, rfl, rfl, rfl⟩
  · exact ⟨rfl, rfl, rfl⟩
  · exact absurd k0 h0
  · exact absurd h0 k0
  · rw [h1.unique k1]; exact ⟨rfl, rfl, rfl⟩
end Go.Proofs.Ythdibkmjoiipgaa
