/- Sizes keep a bucket's curve exactly if their excess is at most the burst: the plain law. -/
import Derived.Test.YthgfmaijoigckaaExcLaw
import Derived.Test.YthgfmaijoigckaaTokLaw
import Derived.Test.YthgfmaijoigckaaArith
namespace Go.Proofs.Ythgfmaijoigckaa
open Go.RowKit
set_option linter.unusedVariables false

/-- the sizes keep to h -/
def SumsP (h : Nat → Int) (z : List Int) (n : Nat) : Prop := ∀ i j, i ≤ j → j < n → pre z (j + 1) - pre z i ≤ h (j - i + 1)
theorem SumsP.congr {h k : Nat → Int} (e : ∀ t, h t = k t) {z : List Int} {n : Nat} : SumsP h z n ↔ SumsP k z n := by
  obtain rfl : h = k := funext e
  exact Iff.rfl
theorem tok_iff {B b R r S : Int} (hb : 1 ≤ b) (hr : 1 ≤ r) {t : Nat} (ht : 1 ≤ t) : S ≤ tokV B b R r t ↔ (S * r - R * ((t : Int) - 1)) * b ≤ B * r := by
  have hbr : 1 ≤ b * r := by
    have : 1 * 1 ≤ b * r := Int.mul_le_mul hb hr (by omega) (by omega)
    omega
  rw [tok_pos _ _ _ _ ht, Int.le_ediv_iff_mul_le (by omega), Int.sub_mul]
  have e1 : S * (b * r) = S * r * b := by rw [Int.mul_comm b r, Int.mul_assoc]
  rw [e1]
  constructor <;> intro h <;> omega
theorem keeps_iff {B b R r m : Int} {z : List Int} {n : Nat} (hB : 0 ≤ B) (hb : 1 ≤ b) (hr : 1 ≤ r) (h : ExcM z R r n m) : SumsP (tokV B b R r) z n ↔ m * b ≤ B * r := by
  have e : ∀ i j, i ≤ j → (pre z (j + 1) - pre z i ≤ tokV B b R r (j - i + 1) ↔ excT z R r i j * b ≤ B * r) := fun i j hij => by
    rw [tok_iff hb hr (by omega)]
    unfold excT
    rw [show (((j - i + 1 : Nat) : Int) - 1) = (j : Int) - i by omega]
  constructor
  · intro hS
    rcases h.2.2 with h0 | ⟨i, j, h1, h2, h3⟩
    · rw [h0, Int.zero_mul]; exact Int.mul_nonneg hB (by omega)
    · rw [h3]; exact (e i j h1).1 (hS i j h1 h2)
  · intro hm i j hij hj
    exact (e i j hij).2 (Int.le_trans (Int.mul_le_mul_of_nonneg_right (h.2.1 i j hij hj) (by omega)) hm)
theorem fnew_small {m d : Int} (h0 : 0 ≤ m) (h1 : m ≤ 1073741824) (h2 : 1 ≤ d) (h3 : d ≤ 1073741824) : (fnew m d).2.2 = 0 ∧ (fnew m d).1 * d = m * (fnew m d).2.1 := by
  have hg : 0 < Nat.gcd m.natAbs d.natAbs := Nat.gcd_pos_of_pos_right _ (by omega)
  have d1 := Nat.div_mul_cancel (Nat.gcd_dvd_left m.natAbs d.natAbs)
  have d2 := Nat.div_mul_cancel (Nat.gcd_dvd_right m.natAbs d.natAbs)
  have l1 := Nat.div_le_self m.natAbs (Nat.gcd m.natAbs d.natAbs)
  have l2 := Nat.div_le_self d.natAbs (Nat.gcd m.natAbs d.natAbs)
  unfold fnew
  generalize m.natAbs / Nat.gcd m.natAbs d.natAbs = x at *
  generalize d.natAbs / Nat.gcd m.natAbs d.natAbs = y at *
  generalize Nat.gcd m.natAbs d.natAbs = g at *
  rw [if_pos (by omega), if_neg (by omega)]
  refine ⟨rfl, ?_⟩
  show (x : Int) * d = m * (y : Int)
  have em : m = ((x * g : Nat) : Int) := by omega
  have ed : d = ((y * g : Nat) : Int) := by omega
  rw [em, ed]
  simp only [Int.natCast_mul]
  rw [Int.mul_assoc, Int.mul_comm (y : Int) (g : Int)]
theorem mul_le_iff {a b k : Int} (hk : 1 ≤ k) : a * k ≤ b * k ↔ a ≤ b :=
  ⟨fun h => Int.le_of_mul_le_mul_right h (by omega), fun h => Int.mul_le_mul_of_nonneg_right h (by omega)⟩
theorem cmp_iff {B b r m x y : Int} (hx : FOk x y) (hB : FOk B b) (hr : 1 ≤ r) (he : x * r = m * y) : fcmp x y B b ≤ 0 ↔ m * b ≤ B * r := by
  have h1 : fcmp x y B b ≤ 0 ↔ x * b ≤ B * y := by
    unfold fcmp
    rw [if_pos ⟨hx, hB⟩]
    split
    · constructor <;> intro <;> omega
    · split
      · constructor <;> intro <;> omega
      · constructor <;> intro <;> omega
  rw [h1, ← mul_le_iff hr, show x * b * r = x * r * b by rw [Int.mul_assoc, Int.mul_comm b r, ← Int.mul_assoc], he, show m * y * b = m * b * y by rw [Int.mul_assoc, Int.mul_comm y b, ← Int.mul_assoc],
    show B * y * r = B * r * y by rw [Int.mul_assoc, Int.mul_comm y r, ← Int.mul_assoc], mul_le_iff hx.1]
theorem keeps_bool {B b R r m x y : Int} {z : List Int} {n : Nat} {bl : Bool} (hB : GOk B b) (hr : 1 ≤ r) (hx : FOk x y) (he : x * r = m * y) (h : ExcM z R r n m) (hb : bl = true ↔ SumsP (tokV B b R r) z n) : bl = decide (fcmp x y B b ≤ 0) := by
  have h1 := (keeps_iff hB.2 hB.1.1 hr h).trans (cmp_iff hx hB.1 hr he).symm
  cases bl
  · have : ¬ fcmp x y B b ≤ 0 := fun k => by have := hb.2 (h1.2 k); cases this
    simp [this]
  · simp [h1.1 (hb.1 rfl)]
/-- the sums that begin before i, and those from i that end before j, keep to h -/
def SumsI (h : Nat → Int) (z : List Int) (n i j : Nat) : Prop := (∀ u v, u ≤ v → u < i → v < n → pre z (v + 1) - pre z u ≤ h (v - u + 1)) ∧ ∀ v, i ≤ v → v < j → pre z (v + 1) - pre z i ≤ h (v - i + 1)
theorem SumsI.start (h : Nat → Int) (z : List Int) (n : Nat) : SumsI h z n 0 0 := ⟨fun u v _ h => by omega, fun v _ h => by omega⟩
theorem SumsI.step {h : Nat → Int} {z : List Int} {n i j : Nat} (H : SumsI h z n i j) (hs : pre z (j + 1) - pre z i ≤ h (j - i + 1)) : SumsI h z n i (j + 1) :=
  ⟨H.1, fun v h1 h2 => by
    rcases Nat.lt_or_ge v j with h3 | h3
    · exact H.2 v h1 h3
    · obtain rfl : v = j := by omega
      exact hs⟩
theorem SumsI.next {h : Nat → Int} {z : List Int} {n i : Nat} (H : SumsI h z n i n) : SumsI h z n (i + 1) (i + 1) :=
  ⟨fun u v h1 h2 h3 => by
    rcases Nat.lt_or_ge u i with h4 | h4
    · exact H.1 u v h1 h4 h3
    · obtain rfl : u = i := by omega
      exact H.2 v h1 h3, fun v h1 h2 => by omega⟩
theorem SumsI.done {h : Nat → Int} {z : List Int} {n : Nat} (H : SumsI h z n n n) : SumsP h z n := fun i j h1 h2 => H.1 i j h1 (by omega) h2
end Go.Proofs.Ythgfmaijoigckaa
