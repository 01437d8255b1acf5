/- The delay of a token bucket at a pace is at most the wait, rounded up: the plain law. -/
import Derived.Test.YthgfmaijoigckaaWait
import Derived.Test.YthgfmaijoigckaaDelLaw
import Derived.Test.YthgfmaijoigckaaKpLaw
import Derived.Test.YthgfmaijoigckaaDev2
namespace Go.Proofs.Ythgfmaijoigckaa
open Go.RowKit
set_option linter.unusedVariables false

/-- the normal form's period is at most any -/
theorem nf_per_le {h : Nat → Int} {g : Cv} {s p : Nat} {i : Int} (hg : NF h g) (hp : 1 ≤ p) (H : Per h s p i) (hne : ∀ t, t < s + p → h t ≠ inf) : g.per ≤ p := by
  obtain ⟨k, hk, _, hq⟩ := nf_exists hp H hne
  obtain rfl := NF.unique hg (.inl hk)
  exact hq
theorem nf_fin {h : Nat → Int} {g : Cv} (hg : NF h g) (ho : g.Ok) (hne : ∀ t, t ≤ 400 → h t ≠ inf) : g.Fin := by
  have h1 := ho.n1; have h2 := ho.n2
  refine ⟨ho, ?_⟩
  rw [← Cv.at_lt (by omega), hg.at]
  exact hne _ (by omega)
theorem nf_self {h : Nat → Int} {g a : Cv} (hg : NF h g) (ha : NF g.at a) : a = g := by
  have e : g.at = h := funext hg.at
  rw [e] at ha
  exact NF.unique ha hg
/-- exact fractions: W is at least the wait, as a product -/
theorem wait_chain {B b P p L l W a1 b1 a2 b2 a3 b3 : Int} (hb : 1 ≤ b) (hP : 1 ≤ P) (hp : 1 ≤ p) (hl : 1 ≤ l) (h1 : 1 ≤ b1) (h2 : 1 ≤ b2) (h3 : 1 ≤ b3)
    (e1 : a1 * (b * P) = (B * p) * b1) (e2 : a2 * (b1 * l) = (a1 * l + L * b1) * b2) (e3 : a3 * b2 = (a2 - b2) * b3) (hW : a3 ≤ W * b3) : B * p * l + L * b * P ≤ (W + 1) * l * b * P := by
  have s1 : a2 ≤ (W + 1) * b2 := by
    have : (a2 - b2) * b3 ≤ W * b2 * b3 := by
      rw [← e3, show W * b2 * b3 = W * b3 * b2 by rw [Int.mul_assoc, Int.mul_comm b2 b3, ← Int.mul_assoc]]
      exact Int.mul_le_mul_of_nonneg_right hW (by omega)
    have := (mul_le_iff h3).1 this
    rw [Int.add_mul, Int.one_mul]; omega
  have s2 : a1 * l + L * b1 ≤ (W + 1) * b1 * l := by
    refine (mul_le_iff h2).1 ?_
    rw [← e2, show (W + 1) * b1 * l * b2 = (W + 1) * b2 * (b1 * l) by
      rw [Int.mul_assoc, Int.mul_assoc, Int.mul_assoc, ← Int.mul_assoc b1, Int.mul_comm (b1 * l) b2]]
    exact Int.mul_le_mul_of_nonneg_right s1 (Int.mul_nonneg (by omega) (by omega))
  refine (mul_le_iff h1).1 ?_
  have s3 := Int.mul_le_mul_of_nonneg_right s2 (show 0 ≤ b * P from Int.mul_nonneg (by omega) (by omega))
  have q1 : (a1 * l + L * b1) * (b * P) = (B * p * l + L * b * P) * b1 := by
    rw [Int.add_mul, Int.add_mul, show a1 * l * (b * P) = a1 * (b * P) * l by rw [Int.mul_assoc, Int.mul_comm l, ← Int.mul_assoc], e1]
    congr 1
    · rw [Int.mul_assoc, Int.mul_assoc (B * p), Int.mul_comm b1 l]
    · rw [Int.mul_assoc, Int.mul_assoc L, Int.mul_assoc L, Int.mul_comm b1]
  have q2 : (W + 1) * b1 * l * (b * P) = (W + 1) * l * b * P * b1 := by
    rw [show (W + 1) * b1 * l = (W + 1) * l * b1 by rw [Int.mul_assoc, Int.mul_comm b1 l, ← Int.mul_assoc], Int.mul_assoc, Int.mul_comm b1, ← Int.mul_assoc, ← Int.mul_assoc]
  rw [q1, q2] at s3
  exact s3
theorem wait_at {B b R r P p L l : Int} {W : Nat} (hb : 1 ≤ b) (hr : 1 ≤ r) (hP : 1 ≤ P) (hp : 1 ≤ p) (hl : 1 ≤ l) (hRP : R * p ≤ P * r) (hW : B * p * l + L * b * P ≤ ((W : Int) + 1) * l * b * P) (t : Nat) : tokV B b R r t ≤ pcV P p L l (t + W) := by
  have hnn := pc_nn P p L l (t + W)
  by_cases h0 : t = 0
  · rw [h0, tok_zero]; rw [h0] at hnn; exact hnn
  · obtain ⟨S, hS⟩ : ∃ S, S = tokV B b R r t := ⟨_, rfl⟩
    rw [← hS]
    have hpl := rl_pos hp hl
    have h1 := (tok_iff (B := B) (R := R) (S := S) hb hr (t := t) (by omega)).1 (by omega)
    have key : S * (p * l) ≤ P * ((t + W : Nat) : Int) * l - P * L := by
      refine (mul_le_iff hr).1 ((mul_le_iff hb).1 ?_)
      have k1 := Int.mul_le_mul_of_nonneg_right h1 (show 0 ≤ p * l by omega)
      have k2 := Int.mul_le_mul_of_nonneg_right hRP (show 0 ≤ ((t : Int) - 1) * b * l from Int.mul_nonneg (Int.mul_nonneg (by omega) (by omega)) (by omega))
      have k3 := Int.mul_le_mul_of_nonneg_right hW (show 0 ≤ r by omega)
      rw [Int.natCast_add]
      generalize (t : Int) = T at *
      generalize (W : Int) = V at *
      have m1 : (S * r - R * (T - 1)) * b * (p * l) = S * (p * l) * r * b - R * p * ((T - 1) * b * l) := by grind
      have m2 : (P * (T + V) * l - P * L) * r * b = P * r * ((T - 1) * b * l) + ((V + 1) * l * b * P * r - L * b * P * r) := by grind
      have m3 : (B * p * l + L * b * P) * r = B * r * (p * l) + L * b * P * r := by grind
      rw [m1] at k1
      rw [m2]
      rw [m3] at k3
      omega
    have h2 : ¬ cdiv (P * ((t + W : Nat) : Int) * l - P * L) (p * l) ≤ S - 1 := by
      rw [cdiv_le hpl, Int.sub_mul]
      omega
    unfold pcV
    split <;> omega
/-- fractions of small numbers are exact -/
theorem fnew_small2 {n d : Int} (h1 : -1073741824 ≤ n) (h1' : n ≤ 1073741824) (h2 : 1 ≤ d) (h3 : d ≤ 1073741824) : (fnew n d).2.2 = 0 ∧ (fnew n d).1 * d = n * (fnew n d).2.1 ∧ (0 ≤ n → 0 ≤ (fnew n d).1 ∧ (fnew n d).1 ≤ n) ∧ (fnew n d).2.1 ≤ d := by
  have hg : 0 < Nat.gcd n.natAbs d.natAbs := Nat.gcd_pos_of_pos_right _ (by omega)
  have d1 := Nat.div_mul_cancel (Nat.gcd_dvd_left n.natAbs d.natAbs)
  have d2 := Nat.div_mul_cancel (Nat.gcd_dvd_right n.natAbs d.natAbs)
  have l1 := Nat.div_le_self n.natAbs (Nat.gcd n.natAbs d.natAbs)
  have l2 := Nat.div_le_self d.natAbs (Nat.gcd n.natAbs d.natAbs)
  unfold fnew
  generalize n.natAbs / Nat.gcd n.natAbs d.natAbs = x at *
  generalize d.natAbs / Nat.gcd n.natAbs d.natAbs = y at *
  generalize Nat.gcd n.natAbs d.natAbs = g at *
  rw [if_pos (by omega)]
  refine ⟨rfl, ?_, ?_, ?_⟩
  · show (if n < 0 then -(x : Int) else (x : Int)) * d = n * (y : Int)
    have ed : d = (y : Int) * (g : Int) := by
      have : d = ((y * g : Nat) : Int) := by omega
      rw [this, Int.natCast_mul]
    have ex : (x : Int) * (g : Int) = ((x * g : Nat) : Int) := by rw [Int.natCast_mul]
    split
    · have en : n = -((x : Int) * (g : Int)) := by omega
      rw [ed, en, Int.neg_mul, Int.neg_mul, Int.mul_assoc, Int.mul_comm (y : Int) (g : Int)]
    · have en : n = (x : Int) * (g : Int) := by omega
      rw [ed, en, Int.mul_assoc, Int.mul_comm (y : Int) (g : Int)]
  · intro h
    show 0 ≤ (if n < 0 then -(x : Int) else (x : Int)) ∧ (if n < 0 then -(x : Int) else (x : Int)) ≤ n
    rw [if_neg (by omega)]
    omega
  · show (y : Int) ≤ d
    omega
theorem fadd_small {a b c d : Int} (h1 : FOk a b) (h2 : FOk c d) (ha : 0 ≤ a) (ha1 : a ≤ 1000) (hb : b ≤ 1000) (hc : 0 ≤ c) (hc1 : c ≤ 1000) (hd : d ≤ 1000) : (fadd a b c d).2.2 = 0 ∧ FOk (fadd a b c d).1 (fadd a b c d).2.1 ∧ (fadd a b c d).1 * (b * d) = (a * d + c * b) * (fadd a b c d).2.1 ∧ 0 ≤ (fadd a b c d).1 ∧ (fadd a b c d).1 ≤ 2000000 ∧ (fadd a b c d).2.1 ≤ 1000000 := by
  have hb0 := h1.1; have hd0 := h2.1
  have m1 : 0 ≤ a * d := Int.mul_nonneg ha (by omega)
  have m2 : a * d ≤ 1000 * 1000 := Int.mul_le_mul ha1 hd (by omega) (by omega)
  have m3 : 0 ≤ c * b := Int.mul_nonneg hc (by omega)
  have m4 : c * b ≤ 1000 * 1000 := Int.mul_le_mul hc1 hb (by omega) (by omega)
  have m5 : 1 * 1 ≤ b * d := Int.mul_le_mul hb0 hd0 (by omega) (by omega)
  have m6 : b * d ≤ 1000 * 1000 := Int.mul_le_mul hb hd (by omega) (by omega)
  unfold fadd
  rw [if_pos ⟨h1, h2⟩]
  obtain ⟨e1, e2, e3, e4⟩ := fnew_small2 (n := a * d + c * b) (d := b * d) (by omega) (by omega) (by omega) (by omega)
  have := e3 (by omega)
  exact ⟨e1, fnew_ok (by omega) e1, e2, this.1, by omega, by omega⟩
theorem fsub_one {a b : Int} (h1 : FOk a b) (ha : 0 ≤ a) (ha1 : a ≤ 2000000) (hb : b ≤ 1000000) : (fsub a b 1 1).2.2 = 0 ∧ FOk (fsub a b 1 1).1 (fsub a b 1 1).2.1 ∧ (fsub a b 1 1).1 * b = (a - b) * (fsub a b 1 1).2.1 := by
  have hb0 := h1.1
  unfold fsub
  rw [if_pos ⟨h1, by decide⟩, Int.mul_one, Int.mul_one, Int.one_mul]
  obtain ⟨e1, e2, _⟩ := fnew_small2 (n := a - b) (d := b) (by omega) (by omega) (by omega) (by omega)
  exact ⟨e1, fnew_ok (by omega) e1, e2⟩
/-- what Wait answers for the numbers that the law draws -/
theorem wt_cases {B b R r P p L l : Int} (hB : GOk B b) (hP : GOk P p) (hL : GOk L l) (hB1 : B ≤ 200) (hb1 : b ≤ 5) (hP1 : P ≤ 100) (hp1 : p ≤ 5) (hL1 : L ≤ 100) (hl1 : l ≤ 5) :
    (wtG B b R r P p L l = (0, 0, 5) ∧ (P = 0 ∨ 0 < fcmp R r P p)) ∨ (1 ≤ P ∧ ¬ 0 < fcmp R r P p ∧ ∃ x y, wtG B b R r P p L l = (x, y, 0) ∧ GOk x y ∧ ∀ W : Int, 0 ≤ W → x ≤ W * y → B * p * l + L * b * P ≤ (W + 1) * l * b * P) := by
  have hb0 := hB.1.1; have hp0 := hP.1.1; have hl0 := hL.1.1; have hB0 := hB.2; have hP0 := hP.2; have hL0 := hL.2
  unfold wtG
  by_cases hc : 0 < fcmp R r P p ∨ P = 0
  · rw [if_pos hc]
    exact .inl ⟨rfl, hc.symm⟩
  · rw [if_neg hc]
    right
    have hPp : 1 ≤ P := by omega
    have m1 : 0 ≤ B * p := Int.mul_nonneg hB0 (by omega)
    have m2 : B * p ≤ 200 * 5 := Int.mul_le_mul hB1 hp1 (by omega) (by omega)
    have m3 : 1 * 1 ≤ b * P := Int.mul_le_mul hb0 hPp (by omega) (by omega)
    have m4 : b * P ≤ 5 * 100 := Int.mul_le_mul hb1 hP1 (by omega) (by omega)
    obtain ⟨e1, e2, e3, e4⟩ := fnew_small2 (n := B * p) (d := b * P) (by omega) (by omega) (by omega) (by omega)
    have e5 := e3 m1
    have o1 := fnew_ok (n := B * p) (d := b * P) (by omega) e1
    obtain ⟨f1, f2, f3, f4, f5, f6⟩ := fadd_small o1 hL.1 e5.1 (by omega) (by omega) hL0 (by omega) (by omega)
    obtain ⟨g1, g2, g3⟩ := fsub_one f2 f4 f5 f6
    refine ⟨hPp, by omega, ?_⟩
    rw [if_neg (by rw [e1]; simp), if_neg (by rw [f1]; simp)]
    generalize fnew (B * p) (b * P) = q1 at *
    obtain ⟨a1, b1, z1⟩ := q1
    dsimp only at *
    generalize fadd a1 b1 L l = q2 at *
    obtain ⟨a2, b2, z2⟩ := q2
    dsimp only at *
    generalize fsub a2 b2 1 1 = q3 at *
    obtain ⟨a3, b3, z3⟩ := q3
    dsimp only at *
    subst z1 z2 z3
    rw [if_neg (by simp)]
    have fin : ∀ W : Int, a3 ≤ W * b3 → B * p * l + L * b * P ≤ (W + 1) * l * b * P := fun W hW => wait_chain hb0 hPp hp0 hl0 o1.1 f2.1 g2.1 e2 f3 g3 hW
    by_cases ha : a3 < 0
    · rw [if_pos ha]
      refine ⟨0, 1, rfl, by decide, fun W h0 h1 => fin W ?_⟩
      have : 0 ≤ W * b3 := Int.mul_nonneg h0 (by have := g2.1; omega)
      omega
    · rw [if_neg ha]
      exact ⟨a3, b3, rfl, ⟨g2, by omega⟩, fun W _ h1 => fin W h1⟩
theorem fcmp_le {a b c d : Int} (h1 : FOk a b) (h2 : FOk c d) (h : ¬ 0 < fcmp a b c d) : a * d ≤ c * b := by
  unfold fcmp at h
  rw [if_pos ⟨h1, h2⟩] at h
  split at h
  · omega
  · split at h
    · omega
    · omega
/-- the delay -/
theorem sw_delay {B b R r P p L l : Int} (hB : GOk B b) (hR : GOk R r) (hP : GOk P p) (hL : GOk L l) (hr : r ≤ 5) (hp : p ≤ 5) (hL1 : L ≤ 100) {f g : Cv} (hf : NF (tokV B b R r) f) (hfo : f.Ok) (hg : NF (pcV P p L l) g) (hgo : g.Ok)
    {W : Nat} (hle : ∀ t, tokV B b R r t ≤ pcV P p L l (t + W)) {i : Bool} {v A er : Int} (h : DevE (DelayS f g) f g i v A er) : er = 0 ∧ i = false ∧ v ≤ W := by
  have tb : ∀ t, t ≤ 1000 → tokV B b R r t ≠ inf := fun t ht => small_ne (by have := tok_bd hB hR ht; omega)
  have pb : ∀ t, t ≤ 1000 → pcV P p L l t ≠ inf := fun t ht => small_ne (by have := pc_bd hP hL ht; omega)
  have hr0 := hR.1.1; have hp0 := hP.1.1; have hl0 := hL.1.1
  have ff := nf_fin hf hfo (fun t ht => tb t (by omega))
  have gf := nf_fin hg hgo (fun t ht => pb t (by omega))
  have hc : cdiv L l ≤ L := (cdiv_le hl0).2 (by
    have : L * 1 ≤ L * l := Int.mul_le_mul_of_nonneg_left hl0 hL.2
    omega)
  have q1 := nf_per_le hf (s := 1) (p := r.toNat) (i := R) (by omega) (tok_per hB.1.1 hr0) (fun t ht => tb t (by omega))
  have q2 := nf_per_le hg (s := L.toNat) (p := p.toNat) (i := P) (by omega) (pc_per hP.2 hp0 hl0 (by have := hL.2; omega)) (fun t ht => pb t (by have := hL.2; omega))
  have db : DB f g W := fun t => .inr ⟨ff.not_infAt t, by rw [hf.at, hg.at]; exact hle t⟩
  rcases h with ⟨h, _⟩ | ⟨_, _, _, h1, v', A', rfl, rfl, h2⟩
  · exfalso
    rcases h with ⟨h, _⟩ | ⟨_, _, _, a, c, ha, hc', hk⟩
    · exact h ⟨hfo, hgo⟩
    · obtain rfl := nf_self hf ha
      obtain rfl := nf_self hg hc'
      have a1 := hfo.p1; have c1 := hgo.p1
      have k1 := (comm_facts (p := a.per.toNat) (q := c.per.toNat) (by omega) (by omega)).2.2.2.1
      have k2 : a.per.toNat * c.per.toNat ≤ 5 * 5 := Nat.mul_le_mul (by omega) (by omega)
      omega
  · refine ⟨h1, ?_⟩
    rcases h2 with ⟨_, _, _, h2⟩ | ⟨rfl, _, _, h3⟩
    · exact absurd db (h2 W)
    · refine ⟨rfl, ?_⟩
      rcases Nat.lt_or_ge W v' with k | k
      · exfalso
        obtain ⟨u, rfl⟩ : ∃ u, v' = u + 1 := ⟨v' - 1, by omega⟩
        exact (h3 u rfl).1 ((db A').mono hgo (by omega))
      · omega
end Go.Proofs.Ythgfmaijoigckaa
