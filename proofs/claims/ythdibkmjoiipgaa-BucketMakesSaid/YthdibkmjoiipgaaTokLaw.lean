/- Plain words: the curves of token buckets and of staircases; nothing of the program. -/
import Derived.Test.YthdibkmjoiipgaaMade
import Derived.Test.YthdibkmjoiipgaaFrLaw
namespace Go.Proofs.Ythdibkmjoiipgaa
set_option linter.unusedVariables false

/-- a function that does not decrease, is 0 or more, and grows by i in each p ticks from 1 on, has a curve, if its numbers are small enough -/
theorem lim_of {h : Nat → Int} (hu : Up0 h) {p : Nat} {i : Int} (hp : 1 ≤ p) (hp2 : p ≤ 120) (H : Per h 1 p i) (hb : ∀ t, t ≤ p → h t ≤ 1073741824) (hi : i ≤ 1073741824) : ∃ g, NF h g ∧ Lim g ∧ g.Ok := by
  obtain ⟨g, hg, hl, hq⟩ := nf_exists hp H (fun t ht => by have := hb t (by omega); unfold inf; omega)
  have hp1 := hg.p1; have hpn := hg.pn
  have hinc : g.inc ≤ i := by
    have h1 := hg.per (1 + g.vals.length) (by omega)
    have h2 := H (1 + g.vals.length) (by omega)
    have h3 := hu.le (show 1 + g.vals.length + g.per.toNat ≤ 1 + g.vals.length + p by omega)
    omega
  have hL : Lim g := ⟨by omega, fun k hk => (okv_iff _).2 (.inr (by rw [hg.vals k hk]; exact hb k (by omega))), by omega, by omega⟩
  exact ⟨g, .inl hg, hL, nf_lim_ok (.inl hg) hu hL⟩
theorem MadeS.eq {h : Nat → Int} {f g : Cv} {er : Int} (m : MadeS h f er) (hg : NF h g) (hl : Lim g) : f = g ∧ er = 0 := MadeS.unique m ⟨g, hg, .inl ⟨hl, rfl, rfl⟩⟩

/-! ### Token buckets: burst B / b, rate R / r -/
def tokV (B b R r : Int) (t : Nat) : Int := if t = 0 then 0 else (B * r + R * ((t : Int) - 1) * b) / (b * r)
theorem tok_parts {B b X r : Int} (hb : 1 ≤ b) (hr : 1 ≤ r) : (B * r + X * b) / (b * r) = B / b + X / r + (B % b * r + X % r * b) / (b * r) := by
  have hbr : b * r ≠ 0 := by
    have : 0 < b * r := Int.mul_pos (by omega) (by omega)
    omega
  have h1 := Int.mul_ediv_add_emod B b
  have h2 := Int.mul_ediv_add_emod X r
  have e : B * r + X * b = (B % b * r + X % r * b) + (b * r) * (B / b + X / r) := by
    generalize B / b = u at *
    generalize B % b = v at *
    generalize X / r = y at *
    generalize X % r = z at *
    subst h1 h2
    simp only [Int.add_mul, Int.mul_add]
    have e1 : b * u * r = b * r * u := by rw [Int.mul_assoc, Int.mul_comm u r, ← Int.mul_assoc]
    have e2 : r * y * b = b * r * y := by rw [Int.mul_comm (r * y) b, ← Int.mul_assoc]
    rw [e1, e2]
    omega
  rw [e, Int.add_mul_ediv_left _ _ hbr]
  omega
theorem tok_zero (B b R r : Int) : tokV B b R r 0 = 0 := rfl
theorem tok_pos (B b R r : Int) {t : Nat} (ht : 1 ≤ t) : tokV B b R r t = (B * r + R * ((t : Int) - 1) * b) / (b * r) := if_neg (by omega)
theorem tok_per {B b R r : Int} (hb : 1 ≤ b) (hr : 1 ≤ r) : Per (tokV B b R r) 1 r.toNat R := by
  intro t ht
  have hbr : b * r ≠ 0 := by
    have : 0 < b * r := Int.mul_pos (by omega) (by omega)
    omega
  rw [tok_pos _ _ _ _ (by omega), tok_pos _ _ _ _ ht]
  have e : B * r + R * (((t + r.toNat : Nat) : Int) - 1) * b = B * r + R * ((t : Int) - 1) * b + (b * r) * R := by
    have h1 : (((t + r.toNat : Nat) : Int) - 1) = ((t : Int) - 1) + r := by omega
    rw [h1, Int.mul_add, Int.add_mul]
    have e1 : R * r * b = b * r * R := by rw [Int.mul_comm, Int.mul_comm R r, ← Int.mul_assoc]
    rw [e1]; omega
  rw [e, Int.add_mul_ediv_left _ _ hbr]
theorem tok_up {B b R r : Int} (hB : 0 ≤ B) (hb : 1 ≤ b) (hR : 0 ≤ R) (hr : 1 ≤ r) : Up0 (tokV B b R r) := by
  have hbr : 0 < b * r := Int.mul_pos (by omega) (by omega)
  have hBr : 0 ≤ B * r := Int.mul_nonneg hB (by omega)
  refine ⟨Int.le_refl _, fun t => ?_⟩
  have hpos : ∀ t : Nat, 1 ≤ t → 0 ≤ R * ((t : Int) - 1) * b := fun t ht => Int.mul_nonneg (Int.mul_nonneg hR (by omega)) (by omega)
  by_cases h0 : t = 0
  · subst h0
    rw [tok_zero, tok_pos _ _ _ _ (by omega)]
    have := hpos 1 (by omega)
    exact Int.ediv_nonneg (by omega) (by omega)
  · rw [tok_pos _ _ _ _ (by omega), tok_pos _ _ _ _ (by omega)]
    refine Int.ediv_le_ediv hbr ?_
    have : R * ((t : Int) - 1) * b ≤ R * (((t + 1 : Nat) : Int) - 1) * b :=
      Int.mul_le_mul_of_nonneg_right (Int.mul_le_mul_of_nonneg_left (by omega) hR) (by omega)
    omega
theorem tok_le {B b R r : Int} (hB : 0 ≤ B) (hb : 1 ≤ b) (hR : 0 ≤ R) (hr : 1 ≤ r) {t : Nat} (ht : 1 ≤ t) : tokV B b R r t ≤ B + R * ((t : Int) - 1) := by
  have hbr : 0 < b * r := Int.mul_pos (by omega) (by omega)
  rw [tok_pos _ _ _ _ ht]
  have hX : 0 ≤ R * ((t : Int) - 1) := Int.mul_nonneg hR (by omega)
  obtain ⟨X, hXe⟩ : ∃ X, X = R * ((t : Int) - 1) := ⟨_, rfl⟩
  rw [← hXe] at hX ⊢
  have h1 : B * r ≤ B * (b * r) := Int.mul_le_mul_of_nonneg_left (by
    have : 1 * r ≤ b * r := Int.mul_le_mul_of_nonneg_right hb (by omega)
    omega) hB
  have h2 : X * b ≤ X * (b * r) := Int.mul_le_mul_of_nonneg_left (by
    have : b * 1 ≤ b * r := Int.mul_le_mul_of_nonneg_left hr (by omega)
    omega) hX
  have h3 : (B * r + X * b) / (b * r) ≤ ((B + X) * (b * r)) / (b * r) := Int.ediv_le_ediv hbr (by rw [Int.add_mul]; omega)
  rw [Int.mul_ediv_cancel _ (by omega)] at h3
  exact h3

/-! ### Staircases: S bytes every E ticks, A ticks ahead -/
def stV (S E A : Int) (t : Nat) : Int := if t = 0 then 0 else S * (((t : Int) + A + E - 1) / E)
theorem st_zero (S E A : Int) : stV S E A 0 = 0 := rfl
theorem st_pos (S E A : Int) {t : Nat} (ht : 1 ≤ t) : stV S E A t = S * (((t : Int) + A + E - 1) / E) := if_neg (by omega)
theorem st_per {S E A : Int} (hE : 1 ≤ E) : Per (stV S E A) 1 E.toNat S := by
  intro t ht
  rw [st_pos _ _ _ (by omega), st_pos _ _ _ ht]
  have e : ((t + E.toNat : Nat) : Int) + A + E - 1 = ((t : Int) + A + E - 1) + E * 1 := by omega
  rw [e, Int.add_mul_ediv_left _ _ (by omega), Int.mul_add, Int.mul_one]
theorem st_up {S E A : Int} (hS : 0 ≤ S) (hE : 1 ≤ E) (hA : 0 ≤ A) : Up0 (stV S E A) := by
  refine ⟨Int.le_refl _, fun t => ?_⟩
  by_cases h0 : t = 0
  · subst h0
    rw [st_zero, st_pos _ _ _ (by omega)]
    exact Int.mul_nonneg hS (Int.ediv_nonneg (by omega) (by omega))
  · rw [st_pos _ _ _ (by omega), st_pos _ _ _ (by omega)]
    exact Int.mul_le_mul_of_nonneg_left (Int.ediv_le_ediv (by omega) (by omega)) hS
theorem st_le {S E A : Int} (hS : 0 ≤ S) (hE : 1 ≤ E) (hA : 0 ≤ A) {t : Nat} (ht : 1 ≤ t) : stV S E A t ≤ S * ((t : Int) + A) := by
  rw [st_pos _ _ _ ht]
  refine Int.mul_le_mul_of_nonneg_left ?_ hS
  have h1 : ((t : Int) + A + E - 1) / E ≤ (((t : Int) + A) * E) / E := Int.ediv_le_ediv (by omega) (by
    have : ((t : Int) + A - 1) * 1 ≤ ((t : Int) + A - 1) * E := Int.mul_le_mul_of_nonneg_left hE (by omega)
    have e : ((t : Int) + A - 1) * E = ((t : Int) + A) * E - E := by rw [Int.sub_mul, Int.one_mul]
    omega)
  rw [Int.mul_ediv_cancel _ (by omega)] at h1
  exact h1
end Go.Proofs.Ythdibkmjoiipgaa
namespace Go.Proofs.Ythdibkmjoiipgaa
set_option linter.unusedVariables false

/-- as lim_of, from a later start on -/
theorem lim_of2 {h : Nat → Int} (hu : Up0 h) {s p : Nat} {i : Int} (hp : 1 ≤ p) (hp2 : p ≤ 120) (hs : s + p ≤ 400) (H : Per h s p i) (hb : ∀ t, t ≤ s + p → h t ≤ 1073741824) (hi : i ≤ 1073741824) : ∃ g, NF h g ∧ Lim g ∧ g.Ok := by
  obtain ⟨g, hg, hl, hq⟩ := nf_exists hp H (fun t ht => by have := hb t (by omega); unfold inf; omega)
  have hp1 := hg.p1; have hpn := hg.pn
  have hinc : g.inc ≤ i := by
    have h1 := hg.per (s + g.vals.length) (by omega)
    have h2 := H (s + g.vals.length) (by omega)
    have h3 := hu.le (show s + g.vals.length + g.per.toNat ≤ s + g.vals.length + p by omega)
    omega
  have hL : Lim g := ⟨by omega, fun k hk => (okv_iff _).2 (.inr (by rw [hg.vals k hk]; exact hb k (by omega))), by omega, by omega⟩
  exact ⟨g, .inl hg, hL, nf_lim_ok (.inl hg) hu hL⟩
/-- a quotient, rounded up -/
def cdiv (x d : Int) : Int := -((-x) / d)
theorem cdiv_le {x d m : Int} (hd : 1 ≤ d) : cdiv x d ≤ m ↔ x ≤ m * d := by
  unfold cdiv
  have h : -m ≤ (-x) / d ↔ -m * d ≤ -x := Int.le_ediv_iff_mul_le (by omega)
  have e : -m * d = -(m * d) := Int.neg_mul m d
  constructor
  · intro h1
    have := h.1 (by omega)
    omega
  · intro h1
    have := h.2 (by omega)
    omega
theorem cdiv_mono {x y d : Int} (hd : 1 ≤ d) (h : x ≤ y) : cdiv x d ≤ cdiv y d := (cdiv_le hd).2 (Int.le_trans h ((cdiv_le hd).1 (Int.le_refl _)))
theorem cdiv_add {x d k : Int} (hd : 1 ≤ d) : cdiv (x + k * d) d = cdiv x d + k := by
  unfold cdiv
  rw [show -(x + k * d) = -x + d * (-k) by rw [Int.mul_neg, Int.mul_comm d k]; omega, Int.add_mul_ediv_left _ _ (by omega)]
  omega
theorem cdiv_small {x d : Int} (hd : 1 ≤ d) (h1 : -d < x) (h2 : x < d) : cdiv x d = if 0 < x then 1 else 0 := by
  have a := cdiv_le (x := x) (m := 0) hd
  have b := cdiv_le (x := x) (m := 1) hd
  have c := cdiv_le (x := x) (m := -1) hd
  rw [Int.zero_mul] at a
  rw [Int.one_mul] at b
  rw [Int.neg_mul, Int.one_mul] at c
  by_cases h : 0 < x
  · rw [if_pos h]; omega
  · rw [if_neg h]; omega
theorem cdiv_quo {n d : Int} (hn : 0 ≤ n) (hd : 1 ≤ d) : cdiv n d = if n / d * d < n then n / d + 1 else n / d := by
  have h1 := Int.mul_ediv_add_emod n d
  have h2 := Int.emod_nonneg n (show d ≠ 0 by omega)
  have h3 := Int.emod_lt_of_pos n (show 0 < d by omega)
  have e : n = n % d + n / d * d := by rw [Int.mul_comm (n / d)]; omega
  have h4 : cdiv n d = cdiv (n % d) d + n / d := by rw [← cdiv_add hd, ← e]
  rw [h4, cdiv_small hd (by omega) h3]
  by_cases h : 0 < n % d
  · rw [if_pos h, if_pos (by omega)]; omega
  · rw [if_neg h, if_neg (by omega)]; omega
/-- the value of a pace's curve -/
def pcV (R r L l : Int) (t : Nat) : Int := if 0 < cdiv (R * t * l - R * L) (r * l) then cdiv (R * t * l - R * L) (r * l) else 0
theorem pc_nn (R r L l : Int) (t : Nat) : 0 ≤ pcV R r L l t := by unfold pcV; split <;> omega
section
variable {R r L l : Int}
theorem rl_pos (hr : 1 ≤ r) (hl : 1 ≤ l) : 1 ≤ r * l := by
  have : 1 * 1 ≤ r * l := Int.mul_le_mul hr hl (by omega) (by omega)
  omega
theorem pc_mono (hR : 0 ≤ R) (hr : 1 ≤ r) (hl : 1 ≤ l) (t : Nat) : pcV R r L l t ≤ pcV R r L l (t + 1) := by
  have h : R * (t : Int) * l - R * L ≤ R * ((t + 1 : Nat) : Int) * l - R * L := by
    have : R * (t : Int) * l ≤ R * ((t + 1 : Nat) : Int) * l := Int.mul_le_mul_of_nonneg_right (Int.mul_le_mul_of_nonneg_left (by omega) hR) (by omega)
    omega
  have h2 := cdiv_mono (rl_pos hr hl) h
  unfold pcV
  split <;> split <;> omega
theorem pc_up (hR : 0 ≤ R) (hr : 1 ≤ r) (hl : 1 ≤ l) : Up0 (pcV R r L l) := ⟨pc_nn _ _ _ _ 0, pc_mono hR hr hl⟩
theorem pc_le (hR : 0 ≤ R) (hr : 1 ≤ r) (hL : 0 ≤ L) (hl : 1 ≤ l) (t : Nat) : pcV R r L l t ≤ R * t := by
  have hRt : 0 ≤ R * (t : Int) := Int.mul_nonneg hR (by omega)
  have h : cdiv (R * t * l - R * L) (r * l) ≤ R * t := (cdiv_le (rl_pos hr hl)).2 (by
    have h1 : 0 ≤ R * L := Int.mul_nonneg hR hL
    have h2 : R * (t : Int) * l ≤ R * t * (r * l) := Int.mul_le_mul_of_nonneg_left (by
      have : 1 * l ≤ r * l := Int.mul_le_mul_of_nonneg_right hr (by omega)
      omega) hRt
    omega)
  unfold pcV; split <;> omega
/-- ahead of the latency nothing is served -/
theorem pc_early (hR : 0 ≤ R) (hr : 1 ≤ r) (hl : 1 ≤ l) {t : Nat} (ht : (t : Int) * l ≤ L) : pcV R r L l t = 0 := by
  have h : cdiv (R * t * l - R * L) (r * l) ≤ 0 := (cdiv_le (rl_pos hr hl)).2 (by
    rw [Int.zero_mul, Int.mul_assoc]
    have := Int.mul_le_mul_of_nonneg_left ht hR
    omega)
  unfold pcV; rw [if_neg (by omega)]
theorem pc_late (hR : 0 ≤ R) (hr : 1 ≤ r) (hl : 1 ≤ l) {t : Nat} (ht : L ≤ (t : Int) * l) : pcV R r L l t = cdiv (R * t * l - R * L) (r * l) := by
  have h : ¬ cdiv (R * t * l - R * L) (r * l) ≤ -1 := by
    rw [cdiv_le (rl_pos hr hl), Int.neg_mul, Int.one_mul, Int.mul_assoc]
    have := Int.mul_le_mul_of_nonneg_left ht hR
    have := rl_pos hr hl
    omega
  unfold pcV
  split <;> omega
theorem start_le (hl : 1 ≤ l) {t : Nat} : cdiv L l ≤ t ↔ L ≤ (t : Int) * l := cdiv_le hl
theorem pc_per (hR : 0 ≤ R) (hr : 1 ≤ r) (hl : 1 ≤ l) {s : Nat} (hs : cdiv L l ≤ s) : Per (pcV R r L l) s r.toNat R := by
  intro t ht
  have h1 : L ≤ (t : Int) * l := (start_le hl).1 (by omega)
  have h2 : L ≤ ((t + r.toNat : Nat) : Int) * l := (start_le hl).1 (by omega)
  rw [pc_late hR hr hl h1, pc_late hR hr hl h2]
  rw [← cdiv_add (rl_pos hr hl)]
  congr 1
  have e : ((t + r.toNat : Nat) : Int) = (t : Int) + r := by omega
  rw [e, Int.mul_add, Int.add_mul, Int.mul_assoc R r l]
  omega
/-- the value by whole units and rests -/
theorem pc_parts (hR : 0 ≤ R) (hr : 1 ≤ r) (hL : 0 ≤ L) (hl : 1 ≤ l) {t : Nat} (ht : L ≤ (t : Int) * l) :
    pcV R r L l t = R * t / r - R * L / (r * l) + (if R * L % (r * l) < R * t % r * l then 1 else 0) := by
  have hd := rl_pos hr hl
  have hRt : 0 ≤ R * (t : Int) := Int.mul_nonneg hR (by omega)
  have hRL : 0 ≤ R * L := Int.mul_nonneg hR hL
  rw [pc_late hR hr hl ht]
  have a1 := Int.mul_ediv_add_emod (R * (t : Int)) r
  have a2 := Int.emod_nonneg (R * (t : Int)) (show r ≠ 0 by omega)
  have a3 := Int.emod_lt_of_pos (R * (t : Int)) (show 0 < r by omega)
  have b1 := Int.mul_ediv_add_emod (R * L) (r * l)
  have b2 := Int.emod_nonneg (R * L) (show r * l ≠ 0 by omega)
  have b3 := Int.emod_lt_of_pos (R * L) (show 0 < r * l by omega)
  generalize R * (t : Int) / r = q at *
  generalize R * (t : Int) % r = m at *
  generalize R * L / (r * l) = u at *
  generalize R * L % (r * l) = v at *
  have c1 : 0 ≤ m * l := Int.mul_nonneg a2 (by omega)
  have c2 : m * l < r * l := Int.mul_lt_mul_of_pos_right a3 (by omega)
  have e : R * (t : Int) * l - R * L = (m * l - v) + (q - u) * (r * l) := by
    rw [← a1, ← b1, Int.add_mul, Int.sub_mul, Int.mul_comm (r * l) u]
    have : r * q * l = q * (r * l) := by rw [Int.mul_comm r q, Int.mul_assoc]
    rw [this]; omega
  rw [e, cdiv_add hd, cdiv_small hd (by omega) (by omega)]
  by_cases h : v < m * l
  · rw [if_pos h, if_pos (by omega)]; omega
  · rw [if_neg h, if_neg (by omega)]; omega
theorem pc_none (r L l : Int) : pcV 0 r L l = fun _ => 0 := by
  funext t
  unfold pcV cdiv
  rw [Int.zero_mul, Int.zero_mul, Int.zero_mul]
  simp
/-- a latency of n more ticks -/
theorem pc_shift (hR : 0 ≤ R) (hr : 1 ≤ r) (hl : 1 ≤ l) (hL : 0 ≤ L) (n t : Nat) : pcV R r (L + n * l) l t = if t < n then 0 else pcV R r L l (t - n) := by
  by_cases h : t < n
  · rw [if_pos h]
    refine pc_early hR hr hl ?_
    have : (t : Int) * l ≤ n * l := Int.mul_le_mul_of_nonneg_right (by omega) (by omega)
    omega
  · rw [if_neg h]
    have e : R * (t : Int) * l - R * (L + n * l) = R * ((t - n : Nat) : Int) * l - R * L := by
      have : ((t - n : Nat) : Int) = (t : Int) - n := by omega
      rw [this, Int.mul_add, Int.mul_sub, Int.sub_mul, Int.mul_assoc R n l]
      omega
    unfold pcV
    rw [e]
end
end Go.Proofs.Ythdibkmjoiipgaa
