/- Closure: its values and its certificates, in plain words. -/
import Derived.Test.YtaejfleahamapaaGreatTa2
namespace Go.Proofs.YtaejfleahamapaaGreat
set_option linter.unusedVariables false
set_option linter.unusedSimpArgs false
section
theorem pl_fin {a b : Int} (ha : a ≠ inf) (hb : b ≠ inf) : pl a b = a + b := if_neg fun h => h.elim ha hb
theorem pl_l (b : Int) : pl inf b = inf := if_pos (.inl rfl)
theorem pl_r (a : Int) : pl a inf = inf := if_pos (.inr rfl)
theorem pl_symm (a b : Int) : pl a b = pl b a := by
 unfold pl
 by_cases h : a = inf ∨ b = inf
 ·rw [if_pos h, if_pos h.symm]
 ·rw [if_neg h, if_neg fun k => h k.symm, Int.add_comm]
theorem pl_ne {a b : Int} (h : pl a b ≠ inf) : a ≠ inf ∧ b ≠ inf := ⟨fun e => h (by rw [e, pl_l]), fun e => h (by rw [e, pl_r])⟩
structure CloI (f c : Nat → Int) (t S : Nat) (v : Int) : Prop where
 le : v ≤ f t
 sub : ∀ s, 1 ≤ s → s < S → v ≤ pl (c s) (c (t - s))
 att : v = f t ∨ ∃ s, 1 ≤ s ∧ s < S ∧ v = pl (c s) (c (t - s))
section
variable {f c c' : Nat → Int} {t S : Nat} {v v' : Int}
theorem CloI.start : CloI f c t 1 (f t) := ⟨Int.le_refl _, fun s h1 h2 => by omega, .inl rfl⟩
theorem CloI.step (h : CloI f c t S v) (hS : 1 ≤ S) : CloI f c t (S + 1) (min v (pl (c S) (c (t - S)))) := by
 have hl := h.le
 refine ⟨by omega, fun s h1 h2 => ?_, ?_⟩
 ·by_cases e : s = S
  ·subst e; omega
  ·have := h.sub s h1 (by omega); omega
 ·by_cases e : v ≤ pl (c S) (c (t - S))
  ·rw [Int.min_eq_left e]
   rcases h.att with k | ⟨s, h1, h2, k⟩
   ·exact .inl k
   ·exact .inr ⟨s, h1, by omega, k⟩
  ·rw [Int.min_eq_right (by omega)]
   exact .inr ⟨S, hS, by omega, rfl⟩
theorem CloI.unique (h : CloI f c t S v) (k : CloI f c t S v') : v = v' := by
 have a : v ≤ v' := by
  rcases k.att with e | ⟨s, h1, h2, e⟩
  ·rw [e]; exact h.le
  ·rw [e]; exact h.sub s h1 h2
 have b : v' ≤ v := by
  rcases h.att with e | ⟨s, h1, h2, e⟩
  ·rw [e]; exact k.le
  ·rw [e]; exact k.sub s h1 h2
 omega
theorem CloI.half (h : CloI f c t S v) (h1 : 1 ≤ t) (hS : S = t / 2 + 1) : CloI f c t t v := by
 refine ⟨h.le, fun s h2 h3 => ?_, ?_⟩
 ·by_cases e : s < S
  ·exact h.sub s h2 e
  ·have := h.sub (t - s) (by omega) (by omega)
   rw [show t - (t - s) = s by omega, pl_symm] at this
   exact this
 ·rcases h.att with k | ⟨s, k1, k2, k⟩
  ·exact .inl k
  ·exact .inr ⟨s, k1, by omega, k⟩
theorem CloI.congr (h : CloI f c t t v) (e : ∀ s, s < t → c s = c' s) : CloI f c' t t v := by
 refine ⟨h.le, fun s h2 h3 => ?_, ?_⟩
 ·rw [← e s h3, ← e (t - s) (by omega)]; exact h.sub s h2 h3
 ·rcases h.att with k | ⟨s, k1, k2, k⟩
  ·exact .inl k
  ·exact .inr ⟨s, k1, k2, by rw [← e s k2, ← e (t - s) (by omega)]; exact k⟩
end
def cmin (f c : Nat → Int) (t : Nat) : Nat → Int
 | 0 => f t
 | S + 1 => if S = 0 then f t else min (cmin f c t S) (pl (c S) (c (t - S)))
theorem cmin_I (f c : Nat → Int) (t S : Nat) : CloI f c t S (cmin f c t S) := by
 induction S with
 | zero => exact ⟨Int.le_refl _, fun s h1 h2 => by omega, .inl rfl⟩
 | succ S ih =>
   unfold cmin
   by_cases e : S = 0
   ·subst e; rw [if_pos rfl]; exact CloI.start
   ·rw [if_neg e]; exact ih.step (by omega)
def cloL (f : Nat → Int) : Nat → List Int
 | 0 => []
 | n + 1 => cloL f n ++ [if n = 0 then 0 else cmin f (nth (cloL f n)) n n]
def clo (f : Nat → Int) (t : Nat) : Int := nth (cloL f (t + 1)) t
theorem cloL_len (f : Nat → Int) (n : Nat) : (cloL f n).length = n := by
 induction n with
 | zero => rfl
 | succ n ih => unfold cloL; rw [List.length_append, ih]; rfl
theorem cloL_nth (f : Nat → Int) (n k : Nat) (hk : k < n) : nth (cloL f n) k = clo f k := by
 induction n with
 | zero => omega
 | succ n ih =>
   by_cases e : k = n
   ·subst e; rfl
   ·rw [← ih (by omega)]
    show nth (cloL f n ++ _) k = _
    rw [nth_append, cloL_len, if_pos (by omega)]
theorem clo_zero (f : Nat → Int) : clo f 0 = 0 := rfl
theorem clo_I (f : Nat → Int) {t : Nat} (ht : 1 ≤ t) : CloI f (clo f) t t (clo f t) := by
 have e : clo f t = cmin f (nth (cloL f t)) t t := by
  show nth (cloL f t ++ _) t = _
  rw [nth_append, cloL_len, if_neg (by omega), Nat.sub_self, if_neg (by omega)]
  rfl
 rw [e]
 exact (cmin_I f _ t t).congr fun s hs => cloL_nth f t s hs
section
variable {f : Nat → Int}
theorem clo_le {t : Nat} (ht : 1 ≤ t) : clo f t ≤ f t := (clo_I f ht).le
theorem clo_sub {s u : Nat} (hs : 1 ≤ s) (hu : 1 ≤ u) : clo f (s + u) ≤ pl (clo f s) (clo f u) := by
 have := (clo_I f (t := s + u) (by omega)).sub s hs (by omega)
 rw [show s + u - s = u by omega] at this
 exact this
theorem clo_att {t : Nat} (ht : 1 ≤ t) : clo f t = f t ∨ ∃ s, 1 ≤ s ∧ s < t ∧ clo f t = pl (clo f s) (clo f (t - s)) := (clo_I f ht).att
theorem clo_nn (h0 : ∀ t, 0 ≤ f t) (t : Nat) : 0 ≤ clo f t := by
 induction t using Nat.strongRecOn with
 | _ t ih =>
   by_cases e : t = 0
   ·subst e; exact Int.le_refl _
   ·rcases clo_att (f := f) (t := t) (by omega) with k | ⟨s, k1, k2, k⟩
    ·rw [k]; exact h0 t
    ·rw [k]
     have a := ih s k2; have b := ih (t - s) (by omega)
     unfold pl
     split
     ·unfold inf; omega
     ·omega
theorem clo_bd (h0 : ∀ t, 0 ≤ f t) (h1 : f 1 ≤ 2147483648) (t : Nat) (ht : t ≤ 100000) : clo f t ≤ t * 2147483648 := by
 induction t with
 | zero => rw [clo_zero]; omega
 | succ t ih =>
   by_cases e : t = 0
   ·subst e
    have := clo_le (f := f) (t := 1) (by omega)
    show clo f 1 ≤ _
    omega
   ·have a := clo_sub (f := f) (s := t) (u := 1) (by omega) (by omega)
    have b := ih (by omega)
    have c := clo_le (f := f) (t := 1) (by omega)
    have d := clo_nn h0 t; have d' := clo_nn h0 1
    rw [pl_fin (by unfold inf; omega) (by unfold inf; omega)] at a
    omega
theorem clo_ne (h0 : ∀ t, 0 ≤ f t) (h1 : f 1 ≤ 2147483648) {t : Nat} (ht : t ≤ 100000) : clo f t ≠ inf := by
 have := clo_bd h0 h1 t ht
 unfold inf
 omega
theorem clo_pl (h0 : ∀ t, 0 ≤ f t) (h1 : f 1 ≤ 2147483648) {s u : Nat} (hs : s ≤ 100000) (hu : u ≤ 100000) : pl (clo f s) (clo f u) = clo f s + clo f u := pl_fin (clo_ne h0 h1 hs) (clo_ne h0 h1 hu)
theorem clo_inf (hi : ∀ t, 1 ≤ t → f t = inf) {t : Nat} (ht : 1 ≤ t) : clo f t = inf := by
 induction t using Nat.strongRecOn with
 | _ t ih =>
   rcases clo_att (f := f) ht with k | ⟨s, k1, k2, k⟩
   ·rw [k]; exact hi t ht
   ·rw [k, ih s k2 k1, pl_l]
theorem clo_mono (H : Up0 f) (h1 : f 1 ≤ 2147483648) (t : Nat) (ht : t + 1 ≤ 100000) : clo f t ≤ clo f (t + 1) := by
 have h0 := H.nn
 induction t using Nat.strongRecOn with
 | _ t ih =>
   have hn := clo_nn h0
   by_cases e : t = 0
   ·subst e; rw [clo_zero]; exact hn 1
   ·rcases clo_att (f := f) (t := t + 1) (by omega) with k | ⟨s, k1, k2, k⟩
    ·rw [k]
     exact Int.le_trans (clo_le (by omega)) (H.m t)
    ·rw [k, clo_pl h0 h1 (by omega) (by omega)]
     by_cases e2 : s = t
     ·subst e2; have := hn (s + 1 - s); omega
     ·have a := ih (t - s) (by omega) (by omega)
      have b := clo_sub (f := f) (s := s) (u := t - s) k1 (by omega)
      rw [clo_pl h0 h1 (by omega) (by omega), show s + (t - s) = t by omega] at b
      rw [show t - s + 1 = t + 1 - s by omega] at a
      omega
end
/-! ### The only curve that the closure can be -/
def CandS (c : Nat → Int) (r : Cv) (er : Int) : Prop :=
 (er = 0 ∧ r.Ok ∧ NF r.at r ∧ ∀ t, t < 640 → r.at t = c t) ∨ (er = 3 ∧ r = Cv.none ∧ ∀ g : Cv, g.Ok → NF g.at g → ¬ ∀ t, t < 640 → g.at t = c t)
theorem per_agree {u v : Nat → Int} {p q : Nat} {i j : Int} (hp : 1 ≤ p) (hp2 : p ≤ 120) (hq : 1 ≤ q) (hq2 : q ≤ 120) (hu : Per u 400 p i) (hv : Per v 400 q j) (h : ∀ t, t < 640 → u t = v t) (t : Nat) : u t = v t := by
 induction t using Nat.strongRecOn with
 | _ t ih =>
   by_cases e : t < 640
   ·exact h t e
   ·have a := hu (t - p) (by omega); have b := hv (t - q) (by omega)
    have a' := hu (t - p - q) (by omega); have b' := hv (t - p - q) (by omega)
    rw [show t - p + p = t by omega] at a
    rw [show t - q + q = t by omega] at b
    rw [show t - p - q + p = t - q by omega] at a'
    rw [show t - p - q + q = t - p by omega] at b'
    have c := ih (t - p) (by omega); have d := ih (t - q) (by omega); have k := ih (t - p - q) (by omega)
    omega
theorem Cv.Fin.per400 {g : Cv} (h : g.Fin) : Per g.at 400 g.per.toNat g.inc := h.toL.step.mono (by have := h.1.n2; have := h.1.p1; omega)
theorem ok_fin640 {g : Cv} (h : g.Ok) {c : Nat → Int} (e : ∀ t, t < 640 → g.at t = c t) (hne : c 639 ≠ inf) : g.Fin := by
 rcases h.fin_or with k | k
 ·exact k
 ·exfalso
  apply hne
  rw [← e 639 (by omega)]
  exact h.at_inf k (by have := h.n2; omega)
theorem NF.to_at {h : Nat → Int} {g : Cv} (k : NF h g) : NF g.at g := by
 have : h = g.at := funext fun t => (k.at t).symm
 rw [← this]; exact k
def PerW (c : Nat → Int) (s p : Nat) (i : Int) : Prop := ∀ t, s ≤ t → t + p < 640 → c (t + p) = c t + i
section
variable {c : Nat → Int} {N p : Nat} {i : Int}
theorem candX_fin (hp : 1 ≤ p) (hN : p ≤ N) (hN2 : N ≤ 640) (hc : ∀ t, t < 640 → c t ≠ inf) : (Cv.mk (tab c 0 N) p i).FinL := by
 refine ⟨by show (1 : Int) ≤ p; omega, ?_, fun k hk => ?_⟩
 ·show (p : Int) ≤ ((tab c 0 N).length : Int); rw [tab_length]; omega
 ·have hk' : k < N := by simpa [tab_length] using hk
  show nth (tab c 0 N) k ≠ inf
  rw [tab_nth _ _ _ _ hk', Nat.zero_add]
  exact hc k (by omega)
theorem candX_step (hp : 1 ≤ p) (hN : p ≤ N) (hN2 : N ≤ 640) (hc : ∀ t, t < 640 → c t ≠ inf) : Per (Cv.mk (tab c 0 N) p i).at (N - p) p i := by
 have h := (candX_fin (i := i) hp hN hN2 hc).step
 have e : (Cv.mk (tab c 0 N) p i).vals.length - (Cv.mk (tab c 0 N) p i).per.toNat = N - p := by
  show (tab c 0 N).length - (p : Int).toNat = _
  rw [tab_length, Int.toNat_natCast]
 rw [e] at h
 exact h
theorem candX_at (hp : 1 ≤ p) (hN : p ≤ N) (hN2 : N ≤ 640) (hc : ∀ t, t < 640 → c t ≠ inf) (W : PerW c (N - p) p i) (t : Nat) (ht : t < 640) : (Cv.mk (tab c 0 N) p i).at t = c t := by
 induction t using Nat.strongRecOn with
 | _ t ih =>
   by_cases e : t < N
   ·rw [Cv.at_lt (by show t < (tab c 0 N).length; rw [tab_length]; exact e)]
    show nth (tab c 0 N) t = _
    rw [tab_nth _ _ _ _ e, Nat.zero_add]
   ·have a := candX_step (i := i) hp hN hN2 hc (t - p) (by omega)
    have b := W (t - p) (by omega) (by omega)
    rw [show t - p + p = t by omega] at a b
    rw [a, b, ih (t - p) (by omega) (by omega)]
theorem candX_up (hp : 1 ≤ p) (hN : p ≤ N) (hN2 : N + p < 640) (hc : ∀ t, t < 640 → c t ≠ inf) (W : PerW c (N - p) p i) (h0 : 0 ≤ c 0) (hm : ∀ t, t + 1 < 640 → c t ≤ c (t + 1)) : Up0 (Cv.mk (tab c 0 N) p i).at := by
 refine ⟨by rw [candX_at hp hN (by omega) hc W 0 (by omega)]; exact h0, fun t => ?_⟩
 induction t using Nat.strongRecOn with
 | _ t ih =>
   by_cases e : t + 1 < 640
   ·rw [candX_at hp hN (by omega) hc W t (by omega), candX_at hp hN (by omega) hc W (t + 1) e]
    exact hm t e
   ·have a := candX_step (i := i) hp hN (by omega) hc (t - p) (by omega)
    have b := candX_step (i := i) hp hN (by omega) hc (t + 1 - p) (by omega)
    have k := ih (t - p) (by omega)
    rw [show t - p + p = t by omega] at a
    rw [show t + 1 - p + p = t + 1 by omega, show t + 1 - p = t - p + 1 by omega] at b
    omega
theorem cand_yes {r : Cv} {er : Int} (hp : 1 ≤ p) (hp2 : p ≤ 120) (hc : ∀ t, t < 640 → c t ≠ inf) (h0 : 0 ≤ c 0) (hm : ∀ t, t + 1 < 640 → c t ≤ c (t + 1)) (W : PerW c (400 - p) p i)
 (hB : BuildS (Cv.mk (tab c 0 400) p i).at (400 - p) p i r er) : CandS c r er := by
 have hat := candX_at (N := 400) hp (by omega) (by omega) hc W
 have hst := candX_step (N := 400) (i := i) hp (by omega) (by omega) hc
 have hup := candX_up (N := 400) hp (by omega) (by omega) hc W h0 hm
 generalize hX : (Cv.mk (tab c 0 400) p i) = X at *
 have hM : MadeS X.at r er := build_made hp (fun t u ht htu hi => absurd (by rw [← hat t (by omega)]; exact hi) (hc t (by omega))) (fun _ => hst) hB
 rcases hM.get hup with ⟨rfl, h1, h2⟩ | ⟨rfl, rfl⟩
 ·exact .inl ⟨rfl, h1, h2.to_at, fun t ht => by rw [h2.at, hat t ht]⟩
 ·refine .inr ⟨rfl, rfl, fun g hg hn he => ?_⟩
  have fg := ok_fin640 hg he (hc 639 (by omega))
  have a := hg.p1; have b := hg.p2
  have e : g.at = X.at := funext (per_agree (by omega) (by omega) hp hp2 fg.per400 (hst.mono (by omega)) fun t ht => by rw [he t ht, hat t ht])
  rw [e] at hn
  obtain ⟨g', hg', k⟩ := hM
  rw [hg'.unique hn] at k
  rcases k with ⟨_, _, k⟩ | ⟨k, _⟩
  ·omega
  ·exact k hg.lim
theorem cand_no (hc : ∀ t, t < 640 → c t ≠ inf) (hno : ∀ p, 1 ≤ p → p ≤ 120 → ¬ PerW c (400 - p) p (c 400 - c (400 - p))) : CandS c Cv.none 3 := by
 refine .inr ⟨rfl, rfl, fun g hg hn he => ?_⟩
 have fg := ok_fin640 hg he (hc 639 (by omega))
 have a := hg.p1; have b := hg.p2; have n2 := hg.n2; have pn := hg.pn
 have hst := fg.toL.step.mono (s' := 400 - g.per.toNat) (by omega)
 refine hno g.per.toNat (by omega) (by omega) fun t h1 h2 => ?_
 have k := hst t h1
 have k0 := hst (400 - g.per.toNat) (by omega)
 rw [show 400 - g.per.toNat + g.per.toNat = 400 by omega] at k0
 rw [← he _ h2, ← he t (by omega), ← he 400 (by omega), ← he (400 - g.per.toNat) (by omega)]
 omega
end
def cw0 : Cv := ⟨[0, inf], 1, 0⟩
theorem cw0_at (t : Nat) : cw0.at t = if t = 0 then 0 else inf := by
 rcases t with _ | _ | t
 ·rfl
 ·rfl
 ·unfold Cv.at
  rw [if_neg (by show ¬ (t + 2 < 2); omega)]
  have e : t + 1 + 1 - ((t + 1 + 1 - cw0.vals.length) / cw0.per.toNat + 1) * cw0.per.toNat = 1 := by
   show t + 1 + 1 - ((t + 1 + 1 - 2) / 1 + 1) * 1 = 1
   rw [Nat.div_one]; omega
  rw [e, if_pos (show nth cw0.vals 1 = inf from rfl), if_neg (by omega)]
theorem cw0_ok : cw0.Ok := by
 refine ⟨by decide, by decide, by decide, by decide, by decide, by decide, by decide, ?_, by decide, ?_, fun _ => ⟨rfl, rfl⟩, fun h => absurd rfl h⟩
 ·intro k hk
  have hk' : k < 2 := hk
  rcases k with _ | _ | k
  ·decide
  ·decide
  ·omega
 ·intro k hk
  have hk' : k + 1 < 2 := hk
  obtain rfl : k = 0 := by omega
  show (0 : Int) ≤ inf
  unfold inf; omega
theorem cw0_nf : NF cw0.at cw0 := by
 refine .inr ⟨rfl, rfl, by decide, fun k hk => ?_, fun k hk => ?_, fun t ht => ?_⟩
 ·rw [Cv.at_lt hk]
 ·have hk' : k + 1 < 2 := hk
  obtain rfl : k = 0 := by omega
  show (0 : Int) ≠ inf
  unfold inf; omega
 ·rw [cw0_at, if_neg]
  have ht' : 2 ≤ t + 1 := ht
  omega
theorem cand_wait {f : Nat → Int} (hi : ∀ t, 1 ≤ t → f t = inf) : CandS (clo f) cw0 0 := by
 refine .inl ⟨rfl, cw0_ok, cw0_nf, fun t ht => ?_⟩
 rw [cw0_at]
 by_cases e : t = 0
 ·subst e; rw [if_pos rfl, clo_zero]
 ·rw [if_neg e, clo_inf hi (by omega)]
/-! ### Certificates -/
open Classical in
noncomputable def clL (a h : Cv) : Nat := if h.Fin then comm a.per.toNat h.per.toNat else 1
noncomputable def clF (a h : Cv) : Nat := max (cst a) (2 * cst h) + clL a h + 1
def ClT (a h : Cv) : Prop := a.Fin ∧ h.Fin ∧ gnl a (clL a h) = gnl h (clL a h)
def ClFit (a h : Cv) (t s : Nat) : Prop := (s = 0 ∧ a.at t = h.at t ∧ (t < clF a h ∨ h.at t = inf ∨ ClT a h)) ∨ (1 ≤ s ∧ s < t ∧ pl (h.at s) (h.at (t - s)) = h.at t ∧ (t < clF a h ∨ cst h ≤ t - s))
def ClAt (a h : Cv) (fr : Int) (cs : List Int) : Prop := fr = (clF a h : Nat) ∧ cs.length = clF a h + clL a h ∧ nth cs 0 = 0 ∧ ∀ t, 1 ≤ t → t < cs.length → 0 ≤ nth cs t ∧ ClFit a h t (nth cs t).toNat
def AddB (h : Cv) : Prop := ∀ s u, s < h.vals.length → u < h.vals.length → h.at (s + u) ≤ pl (h.at s) (h.at u)
def SubA (h : Cv) : Prop := ∀ s u, h.infAt s ∨ h.infAt u ∨ (¬ h.infAt (s + u) ∧ h.at (s + u) ≤ h.at s + h.at u)
def CkC (f h : Cv) (fr : Int) (cs : List Int) : Prop := f.Ok ∧ h.Ok ∧ NF h.at h ∧ nth h.vals 0 = 0 ∧ ∃ a, NF f.at a ∧ clL a h ≤ 120 ∧ ClAt a h fr cs ∧ LEC h a ∧ AddB h
def PvAtC (a h : Cv) (cs : List Int) : Prop := cs.length = clF a h + clL a h ∧ ∀ t, t < cs.length → ∃ u : Nat, nth cs t = u ∧ u ≤ t ∧ (u < t → ClFit a h t u) ∧ ∀ x, x < u → ¬ ClFit a h t x
theorem part_exists (a h : Cv) (t : Nat) : ∃ u : Nat, u ≤ t ∧ (u < t → ClFit a h t u) ∧ ∀ x, x < u → ¬ ClFit a h t x := by
 by_cases e : ∃ u, u < t ∧ ClFit a h t u
 ·obtain ⟨u, ⟨h1, h2⟩, h3⟩ := nat_least e
  exact ⟨u, by omega, fun _ => h2, fun x hx hc => h3 x hx ⟨by omega, hc⟩⟩
 ·exact ⟨t, Nat.le_refl _, fun k => by omega, fun x hx hc => e ⟨x, hx, hc⟩⟩
theorem pvAtC_exists (a h : Cv) : ∃ cs, PvAtC a h cs := by
 refine ⟨tab (fun t => ((Classical.choose (part_exists a h t) : Nat) : Int)) 0 (clF a h + clL a h), tab_length _ _ _, fun t ht => ?_⟩
 rw [tab_length] at ht
 rw [tab_nth _ _ _ _ ht, Nat.zero_add]
 exact ⟨_, rfl, Classical.choose_spec (part_exists a h t)⟩
def PvC (f r : Cv) (fr : Int) (cs : List Int) (er : Int) : Prop :=
 (¬ f.Ok ∧ r = Cv.none ∧ fr = 0 ∧ cs = [] ∧ er = 1) ∨
 (f.Ok ∧ ∃ a, NF f.at a ∧
  ((60 < a.vals.length ∧ r = Cv.none ∧ fr = 0 ∧ cs = [] ∧ er = 3) ∨
    (a.vals.length ≤ 60 ∧ ∃ h e0, CandS (clo a.at) h e0 ∧
     ((e0 = 3 ∧ r = Cv.none ∧ fr = 0 ∧ cs = [] ∧ er = 3) ∨
       (e0 = 0 ∧ ∃ cs0, PvAtC a h cs0 ∧ ((CkC f h (clF a h : Nat) cs0 ∧ r = h ∧ fr = (clF a h : Nat) ∧ cs = cs0 ∧ er = 0) ∨ (¬ CkC f h (clF a h : Nat) cs0 ∧ r = Cv.none ∧ fr = 0 ∧ cs = [] ∧ er = 3)))))))
/-! ### What a certificate proves -/
section
variable {a h k : Cv}
theorem gnl_per {g : Cv} (hg : g.Fin) {l : Nat} (hd : g.per.toNat ∣ l) : Per g.at (cst g) l (gnl g l) := by
 have := hg.toL.step.mul (l / g.per.toNat)
 rw [Nat.div_mul_cancel hd] at this
 exact this
theorem clL_dvd (ha : a.Ok) (hh : h.Fin) : a.per.toNat ∣ clL a h ∧ h.per.toNat ∣ clL a h := by
 have h1 := ha.p1; have h2 := hh.1.p1
 have := comm_facts (p := a.per.toNat) (q := h.per.toNat) (by omega) (by omega)
 unfold clL
 rw [if_pos hh]
 exact ⟨⟨_, by rw [Nat.mul_comm]; exact this.1⟩, ⟨_, by rw [Nat.mul_comm]; exact this.2.1⟩⟩
theorem clL_pos (ha : a.Ok) (hh : h.Ok) : 1 ≤ clL a h := by
 have h1 := ha.p1; have h2 := hh.p1
 unfold clL
 split
 ·exact (comm_facts (by omega) (by omega)).2.2.1
 ·omega
def AttF (a h : Cv) (t : Nat) : Prop := h.infAt t ∨ (¬ a.infAt t ∧ a.at t = h.at t) ∨ ∃ s, 1 ≤ s ∧ s < t ∧ ¬ h.infAt s ∧ ¬ h.infAt (t - s) ∧ h.at t = h.at s + h.at (t - s)
theorem fit_att (ha : a.Ok) (hh : h.Ok) {t s : Nat} (ht : t ≤ 4000000) (H : ClFit a h t s) : AttF a h t := by
 rcases H with ⟨rfl, h1, _⟩ | ⟨h1, h2, h3, _⟩
 ·by_cases e : h.infAt t
  ·exact .inl e
  ·exact .inr (.inl ⟨fun k => e ((nfa_at hh (by omega)).1 (by rw [← h1]; exact k.2)), h1⟩)
 ·by_cases e : h.infAt t
  ·exact .inl e
  ·have hne : h.at t ≠ inf := fun k => e ((nfa_at hh (by omega)).1 k)
   obtain ⟨e1, e2⟩ := pl_ne (by rw [h3]; exact hne)
   rw [pl_fin e1 e2] at h3
   exact .inr (.inr ⟨s, h1, h2, fun k => e1 k.2, fun k => e2 k.2, h3.symm⟩)
theorem cert_att (ha : a.Ok) (hh : h.Ok) (hl : clL a h ≤ 120) {fr : Int} {cs : List Int} (H : ClAt a h fr cs) (t : Nat) (ht : 1 ≤ t) : AttF a h t := by
 obtain ⟨_, hlen, _, H⟩ := H
 have hL := clL_pos ha hh
 have ca := cst_le ha; have ch := cst_le hh
 have hF : clF a h = max (cst a) (2 * cst h) + clL a h + 1 := rfl
 by_cases fh : h.Fin
 ·obtain ⟨d1, d2⟩ := clL_dvd ha fh
  have ph := gnl_per fh d2
  have hT : ClT a h → a.Fin ∧ gnl a (clL a h) = gnl h (clL a h) := fun k => ⟨k.1, k.2.2⟩
  generalize clL a h = l at *
  have hnh : ∀ n, ¬ h.infAt n := fun n => fh.not_infAt n
  have key : ∀ m t, clF a h ≤ t → t < clF a h + l → ((a.Fin ∧ gnl a l = gnl h l ∧ a.at (t + m * l) = h.at (t + m * l)) ∨ ∃ s, 1 ≤ s ∧ s < t + m * l ∧ cst h ≤ t + m * l - s ∧ h.at (t + m * l) = h.at s + h.at (t + m * l - s)) := by
   intro m
   induction m with
   | zero =>
     intro t h1 h2
     rw [Nat.zero_mul, Nat.add_zero]
     obtain ⟨_, k⟩ := H t (by omega) (by omega)
     rcases k with ⟨_, k1, k2⟩ | ⟨k1, k2, k3, k4⟩
     ·rcases k2 with k2 | k2 | k2
      ·omega
      ·exact absurd k2 (fin_at_ne fh (by omega))
      ·exact .inl ⟨(hT k2).1, (hT k2).2, k1⟩
     ·refine .inr ⟨(nth cs t).toNat, k1, k2, k4.resolve_left (by omega), ?_⟩
      rw [pl_fin (fin_at_ne fh (by omega)) (fin_at_ne fh (by omega))] at k3
      exact k3.symm
   | succ m ih =>
     intro t h1 h2
     have e : t + (m + 1) * l = t + m * l + l := by rw [Nat.add_mul, Nat.one_mul]; omega
     rw [e]
     have hml : 0 ≤ m * l := Nat.zero_le _
     rcases ih t h1 h2 with ⟨k1, k2, k3⟩ | ⟨s, k1, k2, k3, k4⟩
     ·refine .inl ⟨k1, k2, ?_⟩
      rw [gnl_per k1 d1 _ (by omega), ph _ (by omega), k2, k3]
     ·refine .inr ⟨s, k1, by omega, by omega, ?_⟩
      rw [ph _ (by omega), k4, show t + m * l + l - s = t + m * l - s + l by omega, ph _ k3]
      omega
  by_cases e : t < clF a h + l
  ·exact fit_att ha hh (by omega) (H t ht (by omega)).2
  ·have hd := Nat.div_add_mod (t - clF a h) l
   have hm := Nat.mod_lt (t - clF a h) (show 0 < l by omega)
   have et : t = clF a h + (t - clF a h) % l + (t - clF a h) / l * l := by rw [Nat.mul_comm]; omega
   have := key ((t - clF a h) / l) (clF a h + (t - clF a h) % l) (by omega) (by omega)
   rw [← et] at this
   rcases this with ⟨k1, _, k3⟩ | ⟨s, k1, k2, _, k4⟩
   ·exact .inr (.inl ⟨k1.not_infAt t, k3⟩)
   ·exact .inr (.inr ⟨s, k1, k2, hnh _, hnh _, k4⟩)
 ·have il := notfin_inf hh fh
  by_cases e : cst h ≤ t
  ·exact .inl (hh.infAt_start il e)
  ·exact fit_att ha hh (by omega) (H t ht (by omega)).2
theorem att_low (H : ∀ t, 1 ≤ t → AttF a h t) (h0 : h.at 0 = 0) (hk : SubA k) (k0 : k.at 0 = 0) (hl : LEC k a) : LEC k h := fun n => by
 induction n using Nat.strongRecOn with
 | _ n ih =>
   by_cases e : n = 0
   ·subst e
    refine .inr ⟨fun hi => ?_, by rw [k0, h0]; exact Int.le_refl _⟩
    have := hi.2
    rw [k0] at this
    unfold inf at this
    omega
   ·rcases H n (by omega) with h1 | ⟨h1, h2⟩ | ⟨s, h1, h2, h3, h4, h5⟩
    ·exact .inl h1
    ·rcases hl n with l1 | ⟨l1, l2⟩
     ·exact absurd l1 h1
     ·exact .inr ⟨l1, by rw [← h2]; exact l2⟩
    ·rcases ih s h2 with l1 | ⟨l1, l2⟩
     ·exact absurd l1 h3
     rcases ih (n - s) (by omega) with m1 | ⟨m1, m2⟩
     ·exact absurd m1 h4
     rcases hk s (n - s) with q | q | ⟨q1, q2⟩
     ·exact absurd q l1
     ·exact absurd q m1
     ·rw [show s + (n - s) = n by omega] at q1 q2
      exact .inr ⟨q1, by omega⟩
theorem addB_sub (hh : h.Ok) (H : AddB h) : SubA h := by
 have n1 := hh.n1; have n2 := hh.n2; have p1 := hh.p1; have pn := hh.pn
 rcases hh.fin_or with fh | ih
 ·have st := fh.toL.step
  have hni := fh.not_infAt
  have key : ∀ m s u, s + u ≤ m → h.at (s + u) ≤ h.at s + h.at u := by
   intro m
   induction m with
   | zero =>
     intro s u hm
     obtain rfl : s = 0 := by omega
     obtain rfl : u = 0 := by omega
     have := H 0 0 (by omega) (by omega)
     rw [pl_fin (fin_at_ne fh (by omega)) (fin_at_ne fh (by omega))] at this
     exact this
   | succ m im =>
     intro s u hm
     by_cases hs : s < h.vals.length
     ·by_cases hu : u < h.vals.length
      ·have := H s u hs hu
       rw [pl_fin (fin_at_ne fh (by omega)) (fin_at_ne fh (by omega))] at this
       exact this
      ·have a := st (u - h.per.toNat) (by omega); have b := st (s + (u - h.per.toNat)) (by omega)
       have c := im s (u - h.per.toNat) (by omega)
       rw [show u - h.per.toNat + h.per.toNat = u by omega] at a
       rw [show s + (u - h.per.toNat) + h.per.toNat = s + u by omega] at b
       omega
     ·have a := st (s - h.per.toNat) (by omega); have b := st (s - h.per.toNat + u) (by omega)
      have c := im (s - h.per.toNat) u (by omega)
      rw [show s - h.per.toNat + h.per.toNat = s by omega] at a
      rw [show s - h.per.toNat + u + h.per.toNat = s + u by omega] at b
      omega
  exact fun s u => .inr (.inr ⟨hni _, key _ s u (Nat.le_refl _)⟩)
 ·intro s u
  by_cases hs : h.infAt s
  ·exact .inl hs
  by_cases hu : h.infAt u
  ·exact .inr (.inl hu)
  have lt : ∀ n, ¬ h.infAt n → n < h.vals.length := fun n hn => Nat.lt_of_not_le fun e => hn ⟨ih, hh.at_inf ih (by omega)⟩
  have ls := lt s hs; have lu := lt u hu
  have es : h.at s ≠ inf := fun e => hs ⟨ih, e⟩
  have eu : h.at u ≠ inf := fun e => hu ⟨ih, e⟩
  have := H s u ls lu
  rw [pl_fin es eu] at this
  refine .inr (.inr ⟨fun e => ?_, this⟩)
  rw [e.2] at this
  have b1 := (okv_iff _).1 (hh.v s ls); have b2 := (okv_iff _).1 (hh.v u lu)
  rw [← Cv.at_lt ls] at b1
  rw [← Cv.at_lt lu] at b2
  have b1 := b1.resolve_left es; have b2 := b2.resolve_left eu
  unfold inf at this
  omega
theorem lec_nf {f a g : Cv} (hf : f.Ok) (ha : NF f.at a) : LEC g a ↔ LEC g f := by
 refine ⟨fun h n => ?_, fun h n => ?_⟩
 ·rcases h n with k | ⟨k1, k2⟩
  ·exact .inl ((ha.inf_iff hf n).1 k)
  ·exact .inr ⟨k1, by rw [← ha.at]; exact k2⟩
 ·rcases h n with k | ⟨k1, k2⟩
  ·exact .inl ((ha.inf_iff hf n).2 k)
  ·exact .inr ⟨k1, by rw [ha.at]; exact k2⟩
theorem ck_get {f : Cv} {fr : Int} {cs : List Int} (H : CkC f h fr cs) : h.Ok ∧ NF h.at h ∧ h.at 0 = 0 ∧ LEC h f ∧ SubA h ∧ ∀ k : Cv, SubA k → k.at 0 = 0 → LEC k f → LEC k h := by
 obtain ⟨hf, hh, hn, h0, a, ha, hl, hA, hle, hB⟩ := H
 have h00 : h.at 0 = 0 := by rw [Cv.at_lt (by have := hh.n1; omega)]; exact h0
 exact ⟨hh, hn, h00, (lec_nf hf ha).1 hle, addB_sub hh hB, fun k hk k0 hkf => att_low (cert_att (nf_small hf ha).1 hh hl hA) h00 hk k0 ((lec_nf hf ha).2 hkf)⟩
theorem pv_ck {f r : Cv} {fr : Int} {cs : List Int} (H : PvC f r fr cs 0) : CkC f r fr cs := by
 rcases H with ⟨_, _, _, _, h⟩ | ⟨_, a, ha, ⟨_, _, _, _, h⟩ | ⟨_, g, e0, hc, ⟨_, _, _, _, h⟩ | ⟨_, cs0, hp, ⟨h1, rfl, rfl, rfl, _⟩ | ⟨_, _, _, _, h⟩⟩⟩⟩
 ·omega
 ·omega
 ·omega
 ·exact h1
 ·omega
theorem pv_er {f r : Cv} {fr : Int} {cs : List Int} {er : Int} (hf : f.Ok) (H : PvC f r fr cs er) : er = 0 ∨ (er = 3 ∧ r = Cv.none) := by
 rcases H with ⟨h, _⟩ | ⟨_, a, ha, ⟨_, k, _, _, h⟩ | ⟨_, g, e0, hc, ⟨_, k, _, _, h⟩ | ⟨_, cs0, hp, ⟨h1, _, _, _, h⟩ | ⟨_, k, _, _, h⟩⟩⟩⟩
 ·exact absurd hf h
 ·exact .inr ⟨h, k⟩
 ·exact .inr ⟨h, k⟩
 ·exact .inl h
 ·exact .inr ⟨h, k⟩
def ClS (f r : Cv) (er : Int) : Prop := ∃ fr cs, PvC f r fr cs er
end
end
section
section
variable {f g h k r : Cv} {fr fr' : Int} {cs cs' : List Int}
end
end
end Go.Proofs.YtaejfleahamapaaGreat
