/- Plain words: the curves of paces (rates with latencies); nothing of the program. -/
import Derived.Test.YthdibkmjoiipgaaTokLaw
import Derived.Test.YthdibkmjoiipgaaFrLaw
namespace Go.Proofs.Ythdibkmjoiipgaa
set_option linter.unusedVariables false

/-- as lim_of, from a later start on -/
theorem lim_of2 {h : Nat → Int} (hu : Up0 h) {s p : Nat} {i : Int} (hp : 1 ≤ p) (hp2 : p ≤ 120) (hs : s + p ≤ 400) (H : Per h s p i) (hb : ∀ t, t ≤ s + p → h t ≤ 1073741824) (hi : i ≤ 1073741824) : ∃ g, NF h g ∧ Lim g ∧ g.Ok := by
  obtain ⟨g, hg, hl, hq⟩ := nf_exists hp H (fun t ht => by have := hb t (by omega); unfold inf; omega)
  have hp1 := hg.p1; have hpn := hg.pn
  have hinc : g.inc ≤ i := by
    have h1 := hg.per (s + g.vals.length) (by omega)
    have h2 := H (s + g.vals.length) (by omega)
    have h3 := hu.le (show s + g.vals.length + g.per.toNat ≤ s + g.vals.length + p by omega)
    omega
  have hL : Lim g := ⟨by omega, fun k hk => (okv_iff _).2 (.inr (by rw [hg.vals k hk]; exact hb k (by omega))), by omega, by omega⟩
  exact ⟨g, .inl hg, hL, nf_lim_ok (.inl hg) hu hL⟩
/-- a quotient, rounded up -/
def cdiv (x d : Int) : Int := -((-x) / d)
theorem cdiv_le {x d m : Int} (hd : 1 ≤ d) : cdiv x d ≤ m ↔ x ≤ m * d := by
  unfold cdiv
  have h : -m ≤ (-x) / d ↔ -m * d ≤ -x := Int.le_ediv_iff_mul_le (by omega)
  have e : -m * d = -(m * d) := Int.neg_mul m d
  constructor
  · intro h1
    have := h.1 (by omega)
    omega
  · intro h1
    have := h.2 (by omega)
    omega
theorem cdiv_mono {x y d : Int} (hd : 1 ≤ d) (h : x ≤ y) : cdiv x d ≤ cdiv y d := (cdiv_le hd).2 (Int.le_trans h ((cdiv_le hd).1 (Int.le_refl _)))
theorem cdiv_add {x d k : Int} (hd : 1 ≤ d) : cdiv (x + k * d) d = cdiv x d + k := by
  unfold cdiv
  rw [show -(x + k * d) = -x + d * (-k) by rw [Int.mul_neg, Int.mul_comm d k]; omega, Int.add_mul_ediv_left _ _ (by omega)]
  omega
theorem cdiv_small {x d : Int} (hd : 1 ≤ d) (h1 : -d < x) (h2 : x < d) : cdiv x d = if 0 < x then 1 else 0 := by
  have a := cdiv_le (x := x) (m := 0) hd
  have b := cdiv_le (x := x) (m := 1) hd
  have c := cdiv_le (x := x) (m := -1) hd
  rw [Int.zero_mul] at a
  rw [Int.one_mul] at b
  rw [Int.neg_mul, Int.one_mul] at c
  by_cases h : 0 < x
  · rw [if_pos h]; omega
  · rw [if_neg h]; omega
theorem cdiv_quo {n d : Int} (hn : 0 ≤ n) (hd : 1 ≤ d) : cdiv n d = if n / d * d < n then n / d + 1 else n / d := by
  have h1 := Int.mul_ediv_add_emod n d
  have h2 := Int.emod_nonneg n (show d ≠ 0 by omega)
  have h3 := Int.emod_lt_of_pos n (show 0 < d by omega)
  have e : n = n % d + n / d * d := by rw [Int.mul_comm (n / d)]; omega
  have h4 : cdiv n d = cdiv (n % d) d + n / d := by rw [← cdiv_add hd, ← e]
  rw [h4, cdiv_small hd (by omega) h3]
  by_cases h : 0 < n % d
  · rw [if_pos h, if_pos (by omega)]; omega
  · rw [if_neg h, if_neg (by omega)]; omega
/-- the value of a pace's curve -/
def pcV (R r L l : Int) (t : Nat) : Int := if 0 < cdiv (R * t * l - R * L) (r * l) then cdiv (R * t * l - R * L) (r * l) else 0
theorem pc_nn (R r L l : Int) (t : Nat) : 0 ≤ pcV R r L l t := by unfold pcV; split <;> omega
section
variable {R r L l : Int}
theorem rl_pos (hr : 1 ≤ r) (hl : 1 ≤ l) : 1 ≤ r * l := by
  have : 1 * 1 ≤ r * l := Int.mul_le_mul hr hl (by omega) (by omega)
  omega
theorem pc_mono (hR : 0 ≤ R) (hr : 1 ≤ r) (hl : 1 ≤ l) (t : Nat) : pcV R r L l t ≤ pcV R r L l (t + 1) := by
  have h : R * (t : Int) * l - R * L ≤ R * ((t + 1 : Nat) : Int) * l - R * L := by
    have : R * (t : Int) * l ≤ R * ((t + 1 : Nat) : Int) * l := Int.mul_le_mul_of_nonneg_right (Int.mul_le_mul_of_nonneg_left (by omega) hR) (by omega)
    omega
  have h2 := cdiv_mono (rl_pos hr hl) h
  unfold pcV
  split <;> split <;> omega
theorem pc_up (hR : 0 ≤ R) (hr : 1 ≤ r) (hl : 1 ≤ l) : Up0 (pcV R r L l) := ⟨pc_nn _ _ _ _ 0, pc_mono hR hr hl⟩
theorem pc_le (hR : 0 ≤ R) (hr : 1 ≤ r) (hL : 0 ≤ L) (hl : 1 ≤ l) (t : Nat) : pcV R r L l t ≤ R * t := by
  have hRt : 0 ≤ R * (t : Int) := Int.mul_nonneg hR (by omega)
  have h : cdiv (R * t * l - R * L) (r * l) ≤ R * t := (cdiv_le (rl_pos hr hl)).2 (by
    have h1 : 0 ≤ R * L := Int.mul_nonneg hR hL
    have h2 : R * (t : Int) * l ≤ R * t * (r * l) := Int.mul_le_mul_of_nonneg_left (by
      have : 1 * l ≤ r * l := Int.mul_le_mul_of_nonneg_right hr (by omega)
      omega) hRt
    omega)
  unfold pcV; split <;> omega
/-- ahead of the latency nothing is served -/
theorem pc_early (hR : 0 ≤ R) (hr : 1 ≤ r) (hl : 1 ≤ l) {t : Nat} (ht : (t : Int) * l ≤ L) : pcV R r L l t = 0 := by
  have h : cdiv (R * t * l - R * L) (r * l) ≤ 0 := (cdiv_le (rl_pos hr hl)).2 (by
    rw [Int.zero_mul, Int.mul_assoc]
    have := Int.mul_le_mul_of_nonneg_left ht hR
    omega)
  unfold pcV; rw [if_neg (by omega)]
theorem pc_late (hR : 0 ≤ R) (hr : 1 ≤ r) (hl : 1 ≤ l) {t : Nat} (ht : L ≤ (t : Int) * l) : pcV R r L l t = cdiv (R * t * l - R * L) (r * l) := by
  have h : ¬ cdiv (R * t * l - R * L) (r * l) ≤ -1 := by
    rw [cdiv_le (rl_pos hr hl), Int.neg_mul, Int.one_mul, Int.mul_assoc]
    have := Int.mul_le_mul_of_nonneg_left ht hR
    have := rl_pos hr hl
    omega
  unfold pcV
  split <;> omega
theorem start_le (hl : 1 ≤ l) {t : Nat} : cdiv L l ≤ t ↔ L ≤ (t : Int) * l := cdiv_le hl
theorem pc_per (hR : 0 ≤ R) (hr : 1 ≤ r) (hl : 1 ≤ l) {s : Nat} (hs : cdiv L l ≤ s) : Per (pcV R r L l) s r.toNat R := by
  intro t ht
  have h1 : L ≤ (t : Int) * l := (start_le hl).1 (by omega)
  have h2 : L ≤ ((t + r.toNat : Nat) : Int) * l := (start_le hl).1 (by omega)
  rw [pc_late hR hr hl h1, pc_late hR hr hl h2]
  rw [← cdiv_add (rl_pos hr hl)]
  congr 1
  have e : ((t + r.toNat : Nat) : Int) = (t : Int) + r := by omega
  rw [e, Int.mul_add, Int.add_mul, Int.mul_assoc R r l]
  omega
/-- the value by whole units and rests -/
theorem pc_parts (hR : 0 ≤ R) (hr : 1 ≤ r) (hL : 0 ≤ L) (hl : 1 ≤ l) {t : Nat} (ht : L ≤ (t : Int) * l) :
    pcV R r L l t = R * t / r - R * L / (r * l) + (if R * L % (r * l) < R * t % r * l then 1 else 0) := by
  have hd := rl_pos hr hl
  have hRt : 0 ≤ R * (t : Int) := Int.mul_nonneg hR (by omega)
  have hRL : 0 ≤ R * L := Int.mul_nonneg hR hL
  rw [pc_late hR hr hl ht]
  have a1 := Int.mul_ediv_add_emod (R * (t : Int)) r
  have a2 := Int.emod_nonneg (R * (t : Int)) (show r ≠ 0 by omega)
  have a3 := Int.emod_lt_of_pos (R * (t : Int)) (show 0 < r by omega)
  have b1 := Int.mul_ediv_add_emod (R * L) (r * l)
  have b2 := Int.emod_nonneg (R * L) (show r * l ≠ 0 by omega)
  have b3 := Int.emod_lt_of_pos (R * L) (show 0 < r * l by omega)
  generalize R * (t : Int) / r = q at *
  generalize R * (t : Int) % r = m at *
  generalize R * L / (r * l) = u at *
  generalize R * L % (r * l) = v at *
  have c1 : 0 ≤ m * l := Int.mul_nonneg a2 (by omega)
  have c2 : m * l < r * l := Int.mul_lt_mul_of_pos_right a3 (by omega)
  have e : R * (t : Int) * l - R * L = (m * l - v) + (q - u) * (r * l) := by
    rw [← a1, ← b1, Int.add_mul, Int.sub_mul, Int.mul_comm (r * l) u]
    have : r * q * l = q * (r * l) := by rw [Int.mul_comm r q, Int.mul_assoc]
    rw [this]; omega
  rw [e, cdiv_add hd, cdiv_small hd (by omega) (by omega)]
  by_cases h : v < m * l
  · rw [if_pos h, if_pos (by omega)]; omega
  · rw [if_neg h, if_neg (by omega)]; omega
theorem pc_none (r L l : Int) : pcV 0 r L l = fun _ => 0 := by
  funext t
  unfold pcV cdiv
  rw [Int.zero_mul, Int.zero_mul, Int.zero_mul]
  simp
/-- a latency of n more ticks -/
theorem pc_shift (hR : 0 ≤ R) (hr : 1 ≤ r) (hl : 1 ≤ l) (hL : 0 ≤ L) (n t : Nat) : pcV R r (L + n * l) l t = if t < n then 0 else pcV R r L l (t - n) := by
  by_cases h : t < n
  · rw [if_pos h]
    refine pc_early hR hr hl ?_
    have : (t : Int) * l ≤ n * l := Int.mul_le_mul_of_nonneg_right (by omega) (by omega)
    omega
  · rw [if_neg h]
    have e : R * (t : Int) * l - R * (L + n * l) = R * ((t - n : Nat) : Int) * l - R * L := by
      have : ((t - n : Nat) : Int) = (t : Int) - n := by omega
      rw [this, Int.mul_add, Int.mul_sub, Int.sub_mul, Int.mul_assoc R n l]
      omega
    unfold pcV
    rw [e]
end
end Go.Proofs.Ythdibkmjoiipgaa
