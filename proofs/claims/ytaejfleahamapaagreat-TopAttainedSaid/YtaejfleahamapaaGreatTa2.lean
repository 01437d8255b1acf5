/- Plain words: what is at most what, at every tick. -/
namespace Go.Proofs.YtaejfleahamapaaGreat
set_option linter.unusedVariables false
set_option linter.unusedSimpArgs false
section
def nth (zs : List Int) (k : Nat) : Int := zs.getD k 0
def inf : Int := 4611686018427387904
structure Cv where
 vals : List Int
 per : Int
 inc : Int
def Cv.none : Cv := ⟨[], 0, 0⟩
def Cv.at (f : Cv) (t : Nat) : Int :=
 if t < f.vals.length then nth f.vals t
 else if nth f.vals (t - ((t - f.vals.length) / f.per.toNat + 1) * f.per.toNat) = inf then inf
 else nth f.vals (t - ((t - f.vals.length) / f.per.toNat + 1) * f.per.toNat) + (((t - f.vals.length) / f.per.toNat + 1 : Nat) : Int) * f.inc
def okv (x : Int) : Bool := x == inf || decide (x ≤ 1073741824)
theorem okv_iff (x : Int) : okv x = true ↔ x = inf ∨ x ≤ 1073741824 := by simp [okv]
structure Cv.Ok (f : Cv) : Prop where
 n1 : 1 ≤ f.vals.length
 n2 : f.vals.length ≤ 400
 p1 : 1 ≤ f.per
 p2 : f.per ≤ 120
 pn : f.per ≤ f.vals.length
 i1 : 0 ≤ f.inc
 i2 : f.inc ≤ 1073741824
 v : ∀ k, k < f.vals.length → okv (nth f.vals k) = true
 z : 0 ≤ nth f.vals 0
 mono : ∀ k, k + 1 < f.vals.length → nth f.vals k ≤ nth f.vals (k + 1)
 last : nth f.vals (f.vals.length - 1) = inf → f.per = 1 ∧ f.inc = 0
 wrap : nth f.vals (f.vals.length - 1) ≠ inf → nth f.vals (f.vals.length - 1) ≤ nth f.vals (f.vals.length - f.per.toNat) + f.inc
open Classical in
noncomputable def Cv.okB (f : Cv) : Bool := decide f.Ok
theorem Cv.okB_true {f : Cv} (h : f.Ok) : f.okB = true := by simp [Cv.okB, h]
theorem Cv.okB_false {f : Cv} (h : ¬ f.Ok) : f.okB = false := by simp [Cv.okB, h]
theorem Cv.okB_iff {f : Cv} : f.okB = true ↔ f.Ok := by simp [Cv.okB]
theorem nth_set (zs : List Int) (k j : Nat) (x : Int) (h : k < zs.length) : nth (zs.set k x) j = if j = k then x else nth zs j := by
 unfold nth
 by_cases e : j = k
 ·subst e; simp [h]
 ·rw [if_neg e]; simp [Ne.symm e]
theorem nth_replicate (n j : Nat) : nth (List.replicate n 0) j = 0 := by
 unfold nth
 by_cases h : j < n <;> simp [h]
theorem nth_out (zs : List Int) (k : Nat) (hk : zs.length ≤ k) : nth zs k = 0 := by simp [nth, hk]
theorem list_ext {xs ys : List Int} (hl : xs.length = ys.length) (h : ∀ k, k < xs.length → nth xs k = nth ys k) : xs = ys := by
 apply List.ext_getElem hl
 intro k h1 h2
 have := h k h1
 simpa [nth, h1, h2] using this
theorem nth_drop (zs : List Int) (s k : Nat) : nth (zs.drop s) k = nth zs (s + k) := by simp [nth]
theorem nth_take (zs : List Int) (n k : Nat) (hk : k < n) : nth (zs.take n) k = nth zs k := by simp [nth, hk]
theorem nth_append (xs ys : List Int) (k : Nat) : nth (xs ++ ys) k = if k < xs.length then nth xs k else nth ys (k - xs.length) := by
 unfold nth
 split
 ·rename_i h; simp [List.getElem?_append_left h]
 ·rename_i h; simp [List.getElem?_append_right (Nat.le_of_not_lt h)]
def tab (h : Nat → Int) (s n : Nat) : List Int := (List.range n).map fun j => h (s + j)
theorem tab_length (h : Nat → Int) (s n : Nat) : (tab h s n).length = n := by simp [tab]
theorem tab_nth (h : Nat → Int) (s n k : Nat) (hk : k < n) : nth (tab h s n) k = h (s + k) := by simp [tab, nth, hk]
theorem eq_tab {zs : List Int} {h : Nat → Int} {s n : Nat} (hl : zs.length = n) (hz : ∀ j, j < n → nth zs j = h (s + j)) : zs = tab h s n :=
 list_ext (by rw [tab_length, hl]) (fun k hk => by rw [tab_nth _ _ _ _ (by omega), hz k (by omega)])
def chk (zs : List Int) (p i : Int) : Cv × Int := if zs.length ≤ 400 ∧ (∀ k, k < zs.length → okv (nth zs k) = true) then (⟨zs, p, i⟩, 0) else (Cv.none, 3)
def LTi (zs : List Int) (inc : Int) (p i : Nat) : Prop :=
 if i + p < zs.length then nth zs (i + p) = nth zs i + inc * p / zs.length else nth zs (i + p - zs.length) + inc = nth zs i + inc * p / zs.length
def LT (zs : List Int) (inc : Int) (p : Nat) : Prop :=
 ((zs.length : Int) % p = 0 ∧ inc * p % zs.length = 0) ∧ ∀ i, i < zs.length → LTi zs inc p i
def BuildS (h : Nat → Int) (s p : Nat) (i : Int) (f : Cv) (er : Int) : Prop :=
 (∃ m, m < s + p ∧ h m = inf ∧ (∀ j, j < m → h j ≠ inf) ∧ f = (chk (tab h 0 (m + 1)) 1 0).1 ∧ er = (chk (tab h 0 (m + 1)) 1 0).2) ∨
 ((∀ j, j < s + p → h j ≠ inf) ∧ ∃ q s' : Nat, 1 ≤ q ∧ q ≤ p ∧ (q = p ∨ LT (tab h s p) i q) ∧ (∀ r, 1 ≤ r → r < q → ¬ LT (tab h s p) i r) ∧ s' ≤ s ∧
   (∀ t, s' ≤ t → t < s → h t + i * q / p = h (t + q)) ∧ (s' = 0 ∨ h (s' - 1) + i * q / p ≠ h (s' - 1 + q)) ∧
   ((q ≤ 120 ∧ i * q / p ≤ 1073741824 ∧ f = (chk (tab h 0 (s' + q)) q (i * q / p)).1 ∧ er = (chk (tab h 0 (s' + q)) q (i * q / p)).2) ∨
     (¬ (q ≤ 120 ∧ i * q / p ≤ 1073741824) ∧ f = Cv.none ∧ er = 3)))
theorem idx_bd {t n p : Nat} (h1 : 1 ≤ p) (h2 : p ≤ n) (ht : n ≤ t) : ((t - n) / p + 1) * p ≤ t ∧ t - ((t - n) / p + 1) * p < n ∧ n ≤ t - ((t - n) / p + 1) * p + p := by
 have hd := Nat.div_add_mod (t - n) p
 have hm := Nat.mod_lt (t - n) (show 0 < p by omega)
 rw [Nat.add_mul, Nat.one_mul, Nat.mul_comm]
 generalize hq : p * ((t - n) / p) = q at *
 omega
theorem Cv.Ok.le {f : Cv} (h : f.Ok) : ∀ a b, a ≤ b → b < f.vals.length → nth f.vals a ≤ nth f.vals b := by
 intro a b hab hb
 induction b with
 | zero => rw [show a = 0 by omega]; exact Int.le_refl _
 | succ b ih =>
   by_cases e : a = b + 1
   ·rw [e]; exact Int.le_refl _
   ·exact Int.le_trans (ih (by omega) (by omega)) (h.mono b hb)
theorem Cv.Ok.nn {f : Cv} (h : f.Ok) (k : Nat) : 0 ≤ nth f.vals k ∧ nth f.vals k ≤ 4611686018427387904 := by
 by_cases hk : k < f.vals.length
 ·have h1 := h.le 0 k (by omega) hk
  have h2 := h.z
  have h3 := (okv_iff _).1 (h.v k hk)
  unfold inf at h3
  omega
 ·rw [nth_out _ _ (by omega)]; omega
noncomputable def Cv.value (f : Cv) (t : Int) : Int × Int := if f.okB = true then (if t < 0 ∨ 1048576 < t then (0, 2) else (f.at t.toNat, 0)) else (0, 1)
def eqL (xs ys : List Int) : Bool := decide (xs = ys)
theorem eqL_true {xs ys : List Int} (h : xs = ys) : eqL xs ys = true := by simp [eqL, h]
theorem eqL_false {xs ys : List Int} (h : xs ≠ ys) : eqL xs ys = false := by simp [eqL, h]
def Cv.same (f g : Cv) : Bool := eqL f.vals g.vals && f.per == g.per && f.inc == g.inc
theorem Cv.same_iff (f g : Cv) : Cv.same f g = true ↔ f = g := by
 cases f; cases g
 simp [Cv.same, eqL, and_assoc]
def NormalS (f g : Cv) (er : Int) : Prop :=
 (f.okB = true ∧ BuildS f.at (f.vals.length - f.per.toNat) f.per.toNat f.inc g er) ∨ (f.okB = false ∧ g = Cv.none ∧ er = 1)
def Cv.Fin (f : Cv) : Prop := f.Ok ∧ nth f.vals (f.vals.length - 1) ≠ inf
theorem Cv.Fin.ne {f : Cv} (h : f.Fin) (k : Nat) (hk : k < f.vals.length) : nth f.vals k ≠ inf ∧ nth f.vals k ≤ 1073741824 := by
 have h1 := h.1.le k (f.vals.length - 1) (by omega) (by omega)
 have h2 := (okv_iff _).1 (h.1.v (f.vals.length - 1) (by have := h.1.n1; omega))
 have h3 : nth f.vals (f.vals.length - 1) ≤ 1073741824 := by
  rcases h2 with h2 | h2
  ·exact absurd h2 h.2
  ·exact h2
 unfold inf
 omega
theorem Cv.at_lt {f : Cv} {t : Nat} (h : t < f.vals.length) : f.at t = nth f.vals t := by unfold Cv.at; rw [if_pos h]
theorem Cv.Fin.at_ge {f : Cv} (h : f.Fin) {t : Nat} (ht : f.vals.length ≤ t) :
 f.at t = nth f.vals (t - ((t - f.vals.length) / f.per.toNat + 1) * f.per.toNat) + (((t - f.vals.length) / f.per.toNat + 1 : Nat) : Int) * f.inc := by
 have hp1 := h.1.p1; have hpn := h.1.pn
 have := idx_bd (t := t) (n := f.vals.length) (p := f.per.toNat) (by omega) (by omega) ht
 unfold Cv.at
 rw [if_neg (by omega), if_neg (h.ne _ this.2.1).1]
theorem Cv.Fin.step {f : Cv} (h : f.Fin) {t : Nat} (ht : f.vals.length ≤ t + f.per.toNat) : f.at (t + f.per.toNat) = f.at t + f.inc := by
 have hp1 := h.1.p1; have hpn := h.1.pn
 obtain ⟨p, hp⟩ : ∃ p, p = f.per.toNat := ⟨_, rfl⟩
 have hpp : 1 ≤ p := by omega
 rw [h.at_ge ht, ← hp]
 rw [← hp] at ht
 by_cases hlt : t < f.vals.length
 ·rw [Cv.at_lt hlt, Nat.div_eq_of_lt (show t + p - f.vals.length < p by omega)]
  simp
 ·rw [h.at_ge (by omega), ← hp]
  have e : (t + p - f.vals.length) / p = (t - f.vals.length) / p + 1 := by
   rw [show t + p - f.vals.length = (t - f.vals.length) + p by omega, Nat.add_div_right _ (by omega)]
  rw [e, show t + p - ((t - f.vals.length) / p + 1 + 1) * p = t - ((t - f.vals.length) / p + 1) * p by rw [Nat.add_mul _ 1 p]; omega]
  rw [show (((t - f.vals.length) / p + 1 + 1 : Nat) : Int) = (((t - f.vals.length) / p + 1 : Nat) : Int) + 1 by omega, Int.add_mul, Int.one_mul]
  omega
theorem Cv.Ok.at_inf {f : Cv} (h : f.Ok) (hl : nth f.vals (f.vals.length - 1) = inf) {t : Nat} (ht : f.vals.length ≤ t + 1) : f.at t = inf := by
 have hp := (h.last hl).1
 have hn := h.n1
 by_cases hlt : t < f.vals.length
 ·rw [Cv.at_lt hlt, show t = f.vals.length - 1 by omega]; exact hl
 ·unfold Cv.at
  rw [if_neg hlt, hp, show (1 : Int).toNat = 1 from rfl, Nat.div_one, Nat.mul_one, show t - (t - f.vals.length + 1) = f.vals.length - 1 by omega, if_pos hl]
def LongerS (f : Cv) (more times : Nat) (g : Cv) : Prop :=
 (nth f.vals (f.vals.length - 1) = inf ∧ g = f) ∨
 (f.Fin ∧ g.per = f.per * times ∧ g.inc = f.inc * times ∧ g.vals = tab f.at 0 (f.vals.length + (more + (times - 1) * f.per.toNat)))
theorem Cv.Fin.at_bd {f : Cv} (h : f.Fin) (t : Nat) : 0 ≤ f.at t ∧ f.at t ≤ 1073741824 + (t : Int) * 1073741824 := by
 by_cases hlt : t < f.vals.length
 ·rw [Cv.at_lt hlt]
  have h1 := h.1.nn t
  have h2 := h.ne t hlt
  omega
 ·have hp1 := h.1.p1; have hpn := h.1.pn; have hi1 := h.1.i1; have hi2 := h.1.i2
  have hx := idx_bd (t := t) (n := f.vals.length) (p := f.per.toNat) (by omega) (by omega) (by omega)
  rw [h.at_ge (by omega)]
  have h1 := h.1.nn (t - ((t - f.vals.length) / f.per.toNat + 1) * f.per.toNat)
  have h2 := h.ne _ hx.2.1
  generalize nth f.vals (t - ((t - f.vals.length) / f.per.toNat + 1) * f.per.toNat) = v at *
  have hk : (t - f.vals.length) / f.per.toNat + 1 ≤ t := by
   have := Nat.div_le_self (t - f.vals.length) f.per.toNat
   have := h.1.n1
   omega
  generalize (t - f.vals.length) / f.per.toNat + 1 = k at *
  have h3 : (k : Int) * f.inc ≤ (t : Int) * 1073741824 := Int.mul_le_mul (by omega) hi2 hi1 (by omega)
  have h4 : 0 ≤ (k : Int) * f.inc := Int.mul_nonneg (by omega) hi1
  omega
theorem g8a {α : Type} {xs : List α} {i : Nat} : xs.toArray[i]? = xs[i]? := List.getElem?_toArray
theorem g8s {α : Type} {a : α} {l : List α} {i : Nat} : (a :: l)[i + 1]? = l[i]? := List.getElem?_cons_succ
theorem g8z {α : Type} {a : α} {l : List α} : (a :: l)[0]? = some a := List.getElem?_cons_zero
theorem g8b {α : Type} {l : List α} {i : Nat} {a : α} : l.toArray.setIfInBounds i a = (l.set i a).toArray := by simp
theorem g8c {α : Type} {x : α} {xs : List α} {n : Nat} {a : α} : (x :: xs).set (n + 1) a = x :: xs.set n a := List.set_cons_succ
theorem g8d {α : Type} {x : α} {xs : List α} {a : α} : (x :: xs).set 0 a = a :: xs := List.set_cons_zero
end
section
def Per (h : Nat → Int) (s p : Nat) (a : Int) : Prop := ∀ t, s ≤ t → h (t + p) = h t + a
theorem Per.mono {h : Nat → Int} {s s' p : Nat} {a : Int} (k : Per h s p a) (hs : s ≤ s') : Per h s' p a := fun t ht => k t (by omega)
theorem Per.mul {h : Nat → Int} {s p : Nat} {a : Int} (k : Per h s p a) (m : Nat) : Per h s (m * p) (m * a) := by
 intro t ht
 induction m with
 | zero => simp
 | succ m ih =>
   rw [Nat.add_mul, Nat.one_mul, ← Nat.add_assoc, k _ (by omega), ih, Int.natCast_add, Int.add_mul]
   omega
structure Cv.FinL (f : Cv) : Prop where
 p1 : 1 ≤ f.per
 pn : f.per ≤ f.vals.length
 ne : ∀ k, k < f.vals.length → nth f.vals k ≠ inf
theorem Cv.Fin.toL {f : Cv} (h : f.Fin) : f.FinL := ⟨h.1.p1, h.1.pn, fun k hk => (h.ne k hk).1⟩
theorem Cv.FinL.at_ge {f : Cv} (h : f.FinL) {t : Nat} (ht : f.vals.length ≤ t) :
 f.at t = nth f.vals (t - ((t - f.vals.length) / f.per.toNat + 1) * f.per.toNat) + (((t - f.vals.length) / f.per.toNat + 1 : Nat) : Int) * f.inc := by
 have hp1 := h.p1; have hpn := h.pn
 have := idx_bd (t := t) (n := f.vals.length) (p := f.per.toNat) (by omega) (by omega) ht
 unfold Cv.at
 rw [if_neg (by omega), if_neg (h.ne _ this.2.1)]
theorem Cv.FinL.step {f : Cv} (h : f.FinL) : Per f.at (f.vals.length - f.per.toNat) f.per.toNat f.inc := by
 intro t ht
 have hp1 := h.p1; have hpn := h.pn
 obtain ⟨p, hp⟩ : ∃ p, p = f.per.toNat := ⟨_, rfl⟩
 have hpp : 1 ≤ p := by omega
 rw [h.at_ge (by omega), ← hp]
 rw [← hp] at ht
 by_cases hlt : t < f.vals.length
 ·rw [Cv.at_lt hlt, Nat.div_eq_of_lt (show t + p - f.vals.length < p by omega)]
  simp
 ·rw [h.at_ge (by omega), ← hp]
  have e : (t + p - f.vals.length) / p = (t - f.vals.length) / p + 1 := by
   rw [show t + p - f.vals.length = (t - f.vals.length) + p by omega, Nat.add_div_right _ (by omega)]
  rw [e, show t + p - ((t - f.vals.length) / p + 1 + 1) * p = t - ((t - f.vals.length) / p + 1) * p by rw [Nat.add_mul _ 1 p]; omega]
  rw [show (((t - f.vals.length) / p + 1 + 1 : Nat) : Int) = (((t - f.vals.length) / p + 1 : Nat) : Int) + 1 by omega, Int.add_mul, Int.one_mul]
  omega
theorem Cv.FinL.unique {f : Cv} (hf : f.FinL) {h : Nat → Int} (h0 : ∀ t, t < f.vals.length → nth f.vals t = h t) (h1 : Per h (f.vals.length - f.per.toNat) f.per.toNat f.inc) (t : Nat) : f.at t = h t := by
 have hp1 := hf.p1; have hpn := hf.pn
 induction t using Nat.strongRecOn with
 | _ t ih =>
   by_cases hlt : t < f.vals.length
   ·rw [Cv.at_lt hlt, h0 t hlt]
   ·obtain ⟨u, rfl⟩ : ∃ u, t = u + f.per.toNat := ⟨t - f.per.toNat, by omega⟩
    rw [hf.step u (by omega), h1 u (by omega), ih u (by omega)]
theorem Cv.Ok.at_mono {f : Cv} (h : f.Ok) (t : Nat) : f.at t ≤ f.at (t + 1) := by
 by_cases hl : nth f.vals (f.vals.length - 1) = inf
 ·by_cases ht : f.vals.length ≤ t + 1 + 1
  ·rw [h.at_inf hl (t := t + 1) (by omega)]
   by_cases hlt : t < f.vals.length
   ·rw [Cv.at_lt hlt]; exact (h.nn t).2
   ·rw [h.at_inf hl (by omega)]; exact Int.le_refl _
  ·rw [Cv.at_lt (by omega), Cv.at_lt (by omega)]; exact h.mono t (by omega)
 ·have hF : f.Fin := ⟨h, hl⟩
  have hp1 := h.p1; have hpn := h.pn
  induction t using Nat.strongRecOn with
  | _ t ih =>
    by_cases h1 : t + 1 < f.vals.length
    ·rw [Cv.at_lt h1, Cv.at_lt (by omega)]; exact h.mono t h1
    ·by_cases h2 : t + 1 = f.vals.length
     ·rw [h2, show f.vals.length = (f.vals.length - f.per.toNat) + f.per.toNat by omega, hF.toL.step _ (by omega)]
      rw [Cv.at_lt (by omega), Cv.at_lt (by omega), show t = f.vals.length - 1 by omega]
      exact h.wrap hl
     ·obtain ⟨u, rfl⟩ : ∃ u, t = u + f.per.toNat := ⟨t - f.per.toNat, by omega⟩
      rw [show u + f.per.toNat + 1 = (u + 1) + f.per.toNat by omega, hF.toL.step _ (by omega), hF.toL.step _ (by omega)]
      have := ih u (by omega)
      omega
theorem Cv.Ok.at_le {f : Cv} (h : f.Ok) {t u : Nat} (htu : t ≤ u) : f.at t ≤ f.at u := by
 induction u with
 | zero => rw [show t = 0 by omega]; exact Int.le_refl _
 | succ u ih =>
   by_cases e : t = u + 1
   ·rw [e]; exact Int.le_refl _
   ·exact Int.le_trans (ih (by omega)) (h.at_mono u)
/-! ### The normal form -/
structure NFin (h : Nat → Int) (g : Cv) : Prop where
 p1 : 1 ≤ g.per
 pn : g.per ≤ g.vals.length
 vals : ∀ t, t < g.vals.length → nth g.vals t = h t
 per : Per h (g.vals.length - g.per.toNat) g.per.toNat g.inc
 least : ∀ (q s : Nat) (b : Int), 1 ≤ q → Per h s q b → g.per.toNat ≤ q
 start : g.vals.length = g.per.toNat ∨ h (g.vals.length - g.per.toNat - 1) + g.inc ≠ h (g.vals.length - 1)
 fin : ∀ t, t < g.vals.length → h t ≠ inf
structure NInf (h : Nat → Int) (g : Cv) : Prop where
 p1 : g.per = 1
 i0 : g.inc = 0
 n1 : 1 ≤ g.vals.length
 vals : ∀ t, t < g.vals.length → nth g.vals t = h t
 before : ∀ t, t + 1 < g.vals.length → h t ≠ inf
 from_ : ∀ t, g.vals.length ≤ t + 1 → h t = inf
def NF (h : Nat → Int) (g : Cv) : Prop := NFin h g ∨ NInf h g
theorem cv_ext {f g : Cv} (h1 : f.vals = g.vals) (h2 : f.per = g.per) (h3 : f.inc = g.inc) : f = g := by
 cases f; cases g; simp_all
theorem NFin.len_le {h : Nat → Int} {f g : Cv} (a : NFin h f) (b : NFin h g) (hp : f.per = g.per) (hi : f.inc = g.inc) : g.vals.length ≤ f.vals.length := by
 rcases Nat.lt_or_ge f.vals.length g.vals.length with hlt | hge
 ·exfalso
  have := a.pn; have := a.p1
  rcases b.start with hs | hs
  ·omega
  ·apply hs
   have := a.per (g.vals.length - g.per.toNat - 1) (by omega)
   rw [← hi, ← this]
   congr 1
   omega
 ·exact hge
theorem NFin.not_inf {h : Nat → Int} {f g : Cv} (a : NFin h f) (b : NInf h g) : False := by
 have hp1 := a.p1; have hpn := a.pn
 have h1 := a.per.mul g.vals.length (f.vals.length - 1) (by omega)
 have h2 := a.per.mul (g.vals.length + 1) (f.vals.length - 1) (by omega)
 have hle : g.vals.length ≤ g.vals.length * f.per.toNat := Nat.le_mul_of_pos_right _ (by omega)
 rw [b.from_ _ (by omega)] at h1
 rw [b.from_ _ (by rw [Nat.add_mul]; omega), Int.natCast_add, Int.add_mul] at h2
 apply a.fin (f.vals.length - 1) (by omega)
 have hi : f.inc = 0 := by omega
 rw [hi] at h1
 omega
theorem NF.unique {h : Nat → Int} {f g : Cv} (a : NF h f) (b : NF h g) : f = g := by
 rcases a with a | a <;> rcases b with b | b
 ·have hp : f.per = g.per := by
   have h1 := a.least _ _ _ (by have := b.p1; omega) b.per
   have h2 := b.least _ _ _ (by have := a.p1; omega) a.per
   have := a.p1; have := b.p1
   omega
  have hi : f.inc = g.inc := by
   have h1 := a.per (f.vals.length + g.vals.length) (by omega)
   have h2 := b.per (f.vals.length + g.vals.length) (by omega)
   rw [hp] at h1
   omega
  have hn := Nat.le_antisymm (b.len_le a hp.symm hi.symm) (a.len_le b hp hi)
  exact cv_ext (list_ext hn (fun k hk => by rw [a.vals k hk, b.vals k (by omega)])) hp hi
 ·exact (a.not_inf b).elim
 ·exact (b.not_inf a).elim
 ·have hn : f.vals.length = g.vals.length := by
   have := a.n1; have := b.n1
   rcases Nat.lt_trichotomy f.vals.length g.vals.length with e | e | e
   ·exact absurd (a.from_ (f.vals.length - 1) (by omega)) (b.before _ (by omega))
   ·exact e
   ·exact absurd (b.from_ (g.vals.length - 1) (by omega)) (a.before _ (by omega))
  exact cv_ext (list_ext hn (fun k hk => by rw [a.vals k hk, b.vals k (by omega)])) (by rw [a.p1, b.p1]) (by rw [a.i0, b.i0])
theorem NF.at {h : Nat → Int} {g : Cv} (a : NF h g) (t : Nat) : g.at t = h t := by
 rcases a with a | a
 ·exact Cv.FinL.unique ⟨a.p1, a.pn, fun k hk => by rw [a.vals k hk]; exact a.fin k hk⟩ a.vals a.per t
 ·by_cases hlt : t < g.vals.length
  ·rw [Cv.at_lt hlt, a.vals t hlt]
  ·rw [a.from_ t (by omega)]
   unfold Cv.at
   have hn := a.n1
   rw [if_neg hlt, a.p1, show (1 : Int).toNat = 1 from rfl, Nat.div_one, Nat.mul_one, show t - (t - g.vals.length + 1) = g.vals.length - 1 by omega, a.vals _ (by omega), a.from_ _ (by omega), if_pos rfl]
/-! ### The least period -/
theorem nat_least {Q : Nat → Prop} (h : ∃ n, Q n) : ∃ n, Q n ∧ ∀ m, m < n → ¬ Q m := by
 obtain ⟨n, hn⟩ := h
 induction n using Nat.strongRecOn with
 | _ n ih =>
   by_cases hm : ∃ m, m < n ∧ Q m
   ·obtain ⟨m, h1, h2⟩ := hm
    exact ih m h1 h2
   ·exact ⟨n, hn, fun m h1 h2 => hm ⟨m, h1, h2⟩⟩
theorem ediv_mul {a b : Int} {k : Nat} (hk : 1 ≤ k) (h : a = k * b) : a / k = b := by
 subst h
 exact Int.mul_ediv_cancel_left _ (by omega)
theorem LT.per {h : Nat → Int} {s p r : Nat} {i : Int} (hp : 1 ≤ p) (H : Per h s p i) (hl : LT (tab h s p) i r) (hr : r ≤ p) : Per h s r (i * r / p) := by
 have hlen := tab_length h s p
 have hb : ∀ j, j < p → h (s + j + r) = h (s + j) + i * r / p := by
  intro j hj
  have := hl.2 j (by rw [hlen]; exact hj)
  unfold LTi at this
  rw [hlen, tab_nth _ _ _ _ hj] at this
  by_cases e : j + r < p
  ·rw [if_pos e, tab_nth _ _ _ _ e, ← Nat.add_assoc] at this
   exact this
  ·rw [if_neg e, tab_nth _ _ _ _ (by omega)] at this
   rw [← this, ← H _ (by omega)]
   congr 1
   omega
 intro t ht
 obtain ⟨u, rfl⟩ : ∃ u, t = s + u := ⟨t - s, by omega⟩
 have hu := Nat.div_add_mod u p
 have hm := Nat.mod_lt u (show 0 < p by omega)
 have e1 : s + u = s + u % p + (u / p) * p := by rw [Nat.mul_comm]; omega
 have e2 : s + u + r = s + u % p + r + (u / p) * p := by omega
 rw [e2, H.mul (u / p) _ (by omega), e1, H.mul (u / p) _ (by omega), hb _ hm]
 omega
theorem LT.of_per {h : Nat → Int} {s p r : Nat} {i b : Int} (hp : 1 ≤ p) (hr : 1 ≤ r) (H : Per h s p i) (hR : Per h s r b) (k : Nat) (hk : p = k * r) (hb : i = k * b) : LT (tab h s p) i r := by
 have hlen := tab_length h s p
 have hk1 : 1 ≤ k := by
  rcases Nat.eq_zero_or_pos k with e | e
  ·rw [e, Nat.zero_mul] at hk; omega
  ·exact e
 have hdiv : i * r / p = b := by
  have : i * (r : Int) = (p : Int) * b := by
   rw [hb, hk, Int.natCast_mul, Int.mul_assoc, Int.mul_assoc, Int.mul_comm b]
  rw [this]
  exact Int.mul_ediv_cancel_left _ (by omega)
 refine ⟨⟨?_, ?_⟩, fun j hj => ?_⟩
 ·rw [hlen, hk, Int.natCast_mul]; exact Int.mul_emod_left _ _
 ·have : i * (r : Int) = (p : Int) * b := by
   rw [hb, hk, Int.natCast_mul, Int.mul_assoc, Int.mul_assoc, Int.mul_comm b]
  rw [hlen, this]
  exact Int.mul_emod_right _ _
 ·rw [hlen] at hj
  have hrp : r ≤ p := by rw [hk]; exact Nat.le_mul_of_pos_left _ hk1
  unfold LTi
  rw [hlen, tab_nth _ _ _ _ hj, hdiv]
  by_cases e : j + r < p
  ·rw [if_pos e, tab_nth _ _ _ _ e, ← Nat.add_assoc, hR _ (by omega)]
  ·rw [if_neg e, tab_nth _ _ _ _ (by omega), ← H _ (by omega), ← hR _ (by omega)]
   congr 1
   omega
theorem per_least {h : Nat → Int} {s p : Nat} {i : Int} (hp : 1 ≤ p) (H : Per h s p i) :
 ∃ (r k : Nat) (b : Int), 1 ≤ r ∧ p = k * r ∧ i = k * b ∧ Per h s r b ∧ ∀ (q s' : Nat) (b' : Int), 1 ≤ q → Per h s' q b' → r ≤ q := by
 obtain ⟨r, ⟨hr1, s1, b, hb⟩, hmin⟩ := nat_least (Q := fun r => 1 ≤ r ∧ ∃ s' b, Per h s' r b) ⟨p, hp, s, i, H⟩
 have hle : ∀ (q s' : Nat) (b' : Int), 1 ≤ q → Per h s' q b' → r ≤ q := by
  intro q s' b' h1 h2
  rcases Nat.lt_or_ge q r with e | e
  ·exact absurd ⟨h1, s', b', h2⟩ (hmin q e)
  ·exact e
 have hd := Nat.div_add_mod p r
 have hm := Nat.mod_lt p (show 0 < r by omega)
 have hz : p % r = 0 := by
  rcases Nat.eq_zero_or_pos (p % r) with e | e
  ·exact e
  ·exfalso
   have hper : Per h (max s s1) (p % r) (i - (p / r : Nat) * b) := by
    intro t ht
    have h1 := hb.mul (p / r) (t + p % r) (by omega)
    have h2 := H t (by omega)
    have e3 : t + p % r + p / r * r = t + p := by rw [Nat.mul_comm (p / r) r]; omega
    rw [e3, h2] at h1
    omega
   have := hle _ _ _ e hper
   omega
 have hpk : p = (p / r) * r := by rw [Nat.mul_comm]; omega
 have hik : i = (p / r : Nat) * b := by
  have h1 := hb.mul (p / r) (max s s1) (by omega)
  have h2 := H (max s s1) (by omega)
  rw [← hpk, h2] at h1
  omega
 refine ⟨r, p / r, b, hr1, hpk, hik, fun t ht => ?_, hle⟩
 have h1 := H.mul s1 t ht
 have h2 := H.mul s1 (t + r) (by omega)
 have h3 : s1 ≤ t + s1 * p := by
  have : s1 * 1 ≤ s1 * p := Nat.mul_le_mul_left _ hp
  omega
 have h4 := hb (t + s1 * p) h3
 rw [show t + s1 * p + r = t + r + s1 * p by omega] at h4
 rw [h2, h1] at h4
 omega
theorem least_is {h : Nat → Int} {s p q : Nat} {i : Int} (hp : 1 ≤ p) (H : Per h s p i) (hq1 : 1 ≤ q) (hqp : q ≤ p) (hq : q = p ∨ LT (tab h s p) i q) (hno : ∀ r, 1 ≤ r → r < q → ¬ LT (tab h s p) i r) :
 Per h s q (i * q / p) ∧ ∀ (r s' : Nat) (b : Int), 1 ≤ r → Per h s' r b → q ≤ r := by
 refine ⟨?_, ?_⟩
 ·rcases hq with e | e
  ·subst e
   rw [Int.mul_ediv_cancel _ (by omega)]
   exact H
  ·exact e.per hp H hqp
 ·obtain ⟨r, k, b, hr, hk, hb, hR, hle⟩ := per_least hp H
  intro r' s' b' h1 h2
  have h3 := hle r' s' b' h1 h2
  have h4 : ¬ r < q := fun e => hno r hr e (LT.of_per hp hr H hR k hk hb)
  omega
def Lim (g : Cv) : Prop := g.vals.length ≤ 400 ∧ (∀ k, k < g.vals.length → okv (nth g.vals k) = true) ∧ g.per ≤ 120 ∧ g.inc ≤ 1073741824
def MadeS (h : Nat → Int) (f : Cv) (er : Int) : Prop := ∃ g, NF h g ∧ ((Lim g ∧ f = g ∧ er = 0) ∨ (¬ Lim g ∧ f = Cv.none ∧ er = 3))
theorem MadeS.unique {h : Nat → Int} {f f' : Cv} {e e' : Int} (a : MadeS h f e) (b : MadeS h f' e') : f = f' ∧ e = e' := by
 obtain ⟨g, hg, a⟩ := a
 obtain ⟨g', hg', b⟩ := b
 obtain rfl := hg.unique hg'
 rcases a with ⟨h1, rfl, rfl⟩ | ⟨h1, rfl, rfl⟩ <;> rcases b with ⟨h2, rfl, rfl⟩ | ⟨h2, rfl, rfl⟩
 ·exact ⟨rfl, rfl⟩
 ·exact absurd h1 h2
 ·exact absurd h2 h1
 ·exact ⟨rfl, rfl⟩
theorem chk_made {h : Nat → Int} {zs : List Int} {p i : Int} (hg : NF h ⟨zs, p, i⟩) (hp : p ≤ 120) (hi : i ≤ 1073741824) : MadeS h (chk zs p i).1 (chk zs p i).2 := by
 refine ⟨_, hg, ?_⟩
 unfold chk
 split
 ·rename_i hc; exact .inl ⟨⟨hc.1, hc.2, hp, hi⟩, rfl, rfl⟩
 ·rename_i hc; exact .inr ⟨fun hl => hc ⟨hl.1, hl.2.1⟩, rfl, rfl⟩
theorem build_made {h : Nat → Int} {s p : Nat} {i : Int} {f : Cv} {er : Int} (hp : 1 ≤ p) (hinf : ∀ t u, t < s + p → t ≤ u → h t = inf → h u = inf)
 (hper : (∀ j, j < s + p → h j ≠ inf) → Per h s p i) (hb : BuildS h s p i f er) : MadeS h f er := by
 rcases hb with ⟨m, hm, hi, hlt, rfl, rfl⟩ | ⟨hfin, q, s', hq1, hqp, hq, hno, hss, hgood, hst, hres⟩
 ·refine chk_made (.inr ⟨rfl, rfl, by rw [tab_length]; omega, ?_, ?_, ?_⟩) (by omega) (by omega)
  ·intro t ht; rw [tab_length] at ht; rw [tab_nth _ _ _ _ ht, Nat.zero_add]
  ·intro t ht; rw [tab_length] at ht; exact hlt t (by omega)
  ·intro t ht; rw [tab_length] at ht; exact hinf m t hm (by omega) hi
 ·have H := hper hfin
  obtain ⟨hq', hmin⟩ := least_is hp H hq1 hqp hq hno
  generalize i * q / p = st at *
  have hPs : Per h s' q st := by
   intro t ht
   by_cases e : t < s
   ·exact (hgood t ht e).symm
   ·exact hq' t (by omega)
  have hnf : NF h ⟨tab h 0 (s' + q), q, st⟩ := by
   have hl : (Cv.mk (tab h 0 (s' + q)) q st).vals.length = s' + q := tab_length _ _ _
   have hpn : (Cv.mk (tab h 0 (s' + q)) q st).per.toNat = q := Int.toNat_natCast q
   refine .inl ⟨by show (1 : Int) ≤ q; omega, by rw [hl]; show (q : Int) ≤ _; omega, ?_, ?_, ?_, ?_, fun t ht => hfin t (by rw [hl] at ht; omega)⟩
   ·intro t ht
    rw [hl] at ht
    show nth (tab h 0 (s' + q)) t = _
    rw [tab_nth _ _ _ _ ht, Nat.zero_add]
   ·rw [hl, hpn, Nat.add_sub_cancel]; exact hPs
   ·rw [hpn]; exact fun r s'' b h1 h2 => hmin r s'' b h1 h2
   ·rw [hl, hpn, Nat.add_sub_cancel]
    rcases hst with e | e
    ·left; omega
    ·by_cases e0 : s' = 0
     ·left; omega
     ·right
      show h (s' - 1) + st ≠ h (s' + q - 1)
      rw [show s' + q - 1 = s' - 1 + q by omega]
      exact e
  rcases hres with ⟨h1, h2, rfl, rfl⟩ | ⟨h1, rfl, rfl⟩
  ·exact chk_made hnf (by omega) h2
  ·refine ⟨_, hnf, .inr ⟨fun hl => h1 ⟨?_, hl.2.2.2⟩, rfl, rfl⟩⟩
   have : (q : Int) ≤ 120 := hl.2.2.1
   omega
theorem Cv.Ok.inf_from {f : Cv} (h : f.Ok) {t u : Nat} (ht : t < f.vals.length) (htu : t ≤ u) (hi : f.at t = inf) : f.at u = inf := by
 have hl : nth f.vals (f.vals.length - 1) = inf := by
  rw [Cv.at_lt ht] at hi
  have h1 := h.le t (f.vals.length - 1) (by omega) (by omega)
  have h2 := (h.nn (f.vals.length - 1)).2
  rw [hi] at h1
  unfold inf at *
  omega
 by_cases e : f.vals.length ≤ u + 1
 ·exact h.at_inf hl e
 ·have h1 := h.le t u htu (by omega)
  have h2 := (h.nn u).2
  rw [Cv.at_lt (by omega)]
  rw [Cv.at_lt ht] at hi
  rw [hi] at h1
  unfold inf at *
  omega
theorem Cv.Ok.per_at {f : Cv} (h : f.Ok) (hne : ∀ j, j < f.vals.length - f.per.toNat + f.per.toNat → f.at j ≠ inf) : Per f.at (f.vals.length - f.per.toNat) f.per.toNat f.inc := by
 have hp1 := h.p1; have hpn := h.pn
 have hF : f.Fin := ⟨h, fun e => hne (f.vals.length - 1) (by omega) (by rw [Cv.at_lt (by omega)]; exact e)⟩
 exact hF.toL.step
theorem normal_made {f g : Cv} {er : Int} (ok : f.Ok) (h : NormalS f g er) : MadeS f.at g er := by
 have hp1 := ok.p1; have hpn := ok.pn
 rcases h with ⟨_, hb⟩ | ⟨h1, _⟩
 ·exact build_made (by omega) (fun t u ht htu hi => ok.inf_from (by omega) htu hi) (fun hne => ok.per_at hne) hb
 ·rw [Cv.okB_true ok] at h1; cases h1
theorem nf_small {f g : Cv} (ok : f.Ok) (h : NF f.at g) : g.Ok ∧ g.vals.length ≤ f.vals.length ∧ g.per ≤ f.per ∧ g.inc ≤ f.inc ∧ (nth g.vals (g.vals.length - 1) = inf ↔ nth f.vals (f.vals.length - 1) = inf) := by
 have hp1 := ok.p1; have hpn := ok.pn; have hn1 := ok.n1; have hi1 := ok.i1
 have hv : ∀ k, k < g.vals.length → nth g.vals k = f.at k := by
  rcases h with h | h
  ·exact h.vals
  ·exact h.vals
 have hmono : ∀ k, k + 1 < g.vals.length → nth g.vals k ≤ nth g.vals (k + 1) := fun k hk => by rw [hv k (by omega), hv _ hk]; exact ok.at_mono k
 have hz : ∀ k, 0 ≤ f.at k := fun k => Int.le_trans (by rw [Cv.at_lt (by omega)]; exact ok.z) (ok.at_le (Nat.zero_le k))
 rcases h with h | h
 ·have hlf : nth f.vals (f.vals.length - 1) ≠ inf := by
   intro e
   have hh : NInf f.at ⟨tab f.at 0 0, 1, 0⟩ → False := fun b => h.not_inf b
   have h1 := h.per.mul f.vals.length (g.vals.length - 1) (by have := h.p1; omega)
   have h2 := h.per.mul (f.vals.length + 1) (g.vals.length - 1) (by have := h.p1; omega)
   have hgp := h.p1; have hgn := h.pn
   have hle : f.vals.length ≤ f.vals.length * g.per.toNat := Nat.le_mul_of_pos_right _ (by omega)
   rw [ok.at_inf e (by omega)] at h1
   rw [ok.at_inf e (by rw [Nat.add_mul]; omega), Int.natCast_add, Int.add_mul] at h2
   apply h.fin (g.vals.length - 1) (by omega)
   have hi : g.inc = 0 := by omega
   rw [hi] at h1
   omega
  have hF : f.Fin := ⟨ok, hlf⟩
  have hstep := hF.toL.step
  have hgp := h.p1; have hgn := h.pn
  have hple : g.per ≤ f.per := by
   have := h.least _ _ _ (by omega) hstep
   omega
  have hinc : g.inc * f.per = f.inc * g.per := by
   have h1 := h.per.mul f.per.toNat (f.vals.length + g.vals.length) (by omega)
   have h2 := hstep.mul g.per.toNat (f.vals.length + g.vals.length) (by omega)
   rw [Nat.mul_comm] at h1
   rw [h1] at h2
   have e1 : (f.per.toNat : Int) = f.per := by omega
   have e2 : (g.per.toNat : Int) = g.per := by omega
   rw [e1, e2] at h2
   rw [Int.mul_comm g.inc, Int.mul_comm f.inc]
   omega
  have hg0 : 0 ≤ g.inc := by
   have h1 := h.per (g.vals.length) (by omega)
   have h2 := ok.at_le (t := g.vals.length) (u := g.vals.length + g.per.toNat) (by omega)
   omega
  have hgi : g.inc ≤ f.inc := by
   rcases Int.lt_or_le f.inc g.inc with e | e
   ·exfalso
    have h3 : f.inc * g.per ≤ f.inc * f.per := Int.mul_le_mul_of_nonneg_left hple hi1
    have h4 : f.inc * f.per < g.inc * f.per := Int.mul_lt_mul_of_pos_right e (by omega)
    omega
   ·exact e
  have hlen : g.vals.length ≤ f.vals.length := by
   rcases Nat.lt_or_ge f.vals.length g.vals.length with e | e
   ·exfalso
    rcases h.start with hs | hs
    ·omega
    ·apply hs
     have hfrom : Per f.at (f.vals.length - f.per.toNat) g.per.toNat g.inc := by
      intro t ht
      have h1 := hstep.mul g.vals.length t ht
      have h2 := hstep.mul g.vals.length (t + g.per.toNat) (by omega)
      have hle : g.vals.length ≤ g.vals.length * f.per.toNat := Nat.le_mul_of_pos_right _ (by omega)
      have h3 := h.per (t + g.vals.length * f.per.toNat) (by omega)
      rw [show t + g.vals.length * f.per.toNat + g.per.toNat = t + g.per.toNat + g.vals.length * f.per.toNat by omega] at h3
      rw [h2, h1] at h3
      omega
     have := hfrom (g.vals.length - g.per.toNat - 1) (by omega)
     rw [← this]
     congr 1
     omega
   ·exact e
  have hsm : ∀ k, k < g.vals.length → nth g.vals k ≤ 1073741824 := fun k hk => by
   rw [hv k hk, Cv.at_lt (by omega)]; exact (hF.ne k (by omega)).2
  have hne : ∀ k, k < g.vals.length → nth g.vals k ≠ inf := fun k hk => by rw [hv k hk]; exact h.fin k hk
  refine ⟨⟨by omega, by have := ok.n2; omega, hgp, by have := ok.p2; omega, hgn, hg0, by have := ok.i2; omega, fun k hk => (okv_iff _).2 (.inr (hsm k hk)), ?_, hmono, fun e => absurd e (hne _ (by omega)), fun _ => ?_⟩, hlen, hple, hgi, ?_⟩
  ·rw [hv 0 (by omega)]; exact hz 0
  ·rw [hv _ (by omega), hv _ (by omega), ← h.per _ (Nat.le_refl _), show g.vals.length - g.per.toNat + g.per.toNat = g.vals.length by omega]
   exact ok.at_le (by omega)
  ·exact ⟨fun e => absurd e (hne _ (by omega)), fun e => absurd e hlf⟩
 ·have hn := h.n1
  have hlf : nth f.vals (f.vals.length - 1) = inf := by
   rcases Classical.em (nth f.vals (f.vals.length - 1) = inf) with e | e
   ·exact e
   ·exfalso
    have hF : f.Fin := ⟨ok, e⟩
    have h1 := hF.toL.step.mul g.vals.length (f.vals.length - 1) (by omega)
    have h2 := hF.toL.step.mul (g.vals.length + 1) (f.vals.length - 1) (by omega)
    have hle : g.vals.length ≤ g.vals.length * f.per.toNat := Nat.le_mul_of_pos_right _ (by omega)
    rw [h.from_ _ (by omega)] at h1
    rw [h.from_ _ (by rw [Nat.add_mul]; omega), Int.natCast_add, Int.add_mul] at h2
    have hi : f.inc = 0 := by omega
    rw [hi] at h1
    apply e
    rw [Cv.at_lt (by omega)] at h1
    omega
  have hlen : g.vals.length ≤ f.vals.length := by
   rcases Nat.lt_or_ge f.vals.length g.vals.length with e | e
   ·exact absurd (ok.at_inf hlf (t := f.vals.length - 1) (by omega)) (h.before _ (by omega))
   ·exact e
  refine ⟨⟨hn, by have := ok.n2; omega, by rw [h.p1]; omega, by rw [h.p1]; omega, by rw [h.p1]; omega, by rw [h.i0]; omega, by rw [h.i0]; omega, ?_, ?_, hmono, fun _ => ⟨h.p1, h.i0⟩, fun e => ?_⟩, hlen, by rw [h.p1]; exact hp1, by rw [h.i0]; exact hi1, ?_⟩
  ·intro k hk; rw [hv k hk, Cv.at_lt (by omega)]; exact ok.v k (by omega)
  ·rw [hv 0 (by omega)]; exact hz 0
  ·exact absurd (by rw [hv _ (by omega)]; exact h.from_ _ (by omega)) e
  ·exact ⟨fun _ => hlf, fun _ => by rw [hv _ (by omega)]; exact h.from_ _ (by omega)⟩
theorem normal_ok {f g : Cv} {er : Int} (ok : f.Ok) (h : NormalS f g er) : er = 0 ∧ NF f.at g ∧ g.Ok ∧ g.vals.length ≤ f.vals.length ∧ g.per ≤ f.per := by
 obtain ⟨g', hg, h⟩ := normal_made ok h
 obtain ⟨ok', h1, h2, h3, _⟩ := nf_small ok hg
 rcases h with ⟨_, rfl, rfl⟩ | ⟨hl, _⟩
 ·exact ⟨rfl, hg, ok', h1, h2⟩
 ·exact absurd ⟨ok'.n2, ok'.v, ok'.p2, ok'.i2⟩ hl
end
section
structure DrawC (most : Nat) (f : Cv) : Prop where
 ok : f.Ok
 len : f.vals.length ≤ most + 8
 per : f.per ≤ 8
 inc : f.inc ≤ 1000
 small : ∀ k, k < f.vals.length → nth f.vals k = inf ∨ nth f.vals k ≤ 400
 slope : f.inc ≤ 9 * f.per
 p4 : ∃ (s q : Nat) (b : Int), 1 ≤ q ∧ q ≤ 4 ∧ Per f.at s q b
structure Rise (zs : List Int) (v : Int) : Prop where
 z : ∀ k, k < zs.length → 0 ≤ nth zs k ∧ nth zs k ≤ v
 mono : ∀ k, k + 1 < zs.length → nth zs k ≤ nth zs (k + 1)
 step : ∀ k, k + 1 < zs.length → nth zs (k + 1) ≤ nth zs k + 9
 top : ∀ k, k + 1 = zs.length → v ≤ nth zs k + 9
theorem Rise.nil (v : Int) : Rise [] v := ⟨fun k h => by simp at h, fun k h => by simp at h, fun k h => by simp at h, fun k h => by simp at h⟩
theorem Rise.snoc {zs : List Int} {v u : Int} (h : Rise zs v) (h0 : 0 ≤ v) (hu : v ≤ u) (hu2 : u ≤ v + 9) : Rise (zs ++ [v]) u := by
 have hl : (zs ++ [v]).length = zs.length + 1 := by simp
 have hlast : nth (zs ++ [v]) zs.length = v := by rw [nth_append, if_neg (by omega), Nat.sub_self]; rfl
 refine ⟨fun k hk => ?_, fun k hk => ?_, fun k hk => ?_, fun k hk => ?_⟩
 ·by_cases e : k < zs.length
  ·rw [nth_append, if_pos e]; have := h.z k e; omega
  ·rw [show k = zs.length by omega, hlast]; omega
 ·by_cases e : k + 1 < zs.length
  ·rw [nth_append, nth_append, if_pos e, if_pos (by omega)]; exact h.mono k e
  ·rw [show k + 1 = zs.length by omega, hlast, nth_append, if_pos (by omega)]
   exact (h.z k (by omega)).2
 ·by_cases e : k + 1 < zs.length
  ·rw [nth_append, nth_append, if_pos e, if_pos (by omega)]; exact h.step k e
  ·rw [show k + 1 = zs.length by omega, hlast, nth_append, if_pos (by omega)]
   exact h.top k (by omega)
 ·rw [show k = zs.length by omega, hlast]; omega
theorem Rise.far {zs : List Int} {v : Int} (h : Rise zs v) : ∀ d k, k + d < zs.length → nth zs (k + d) ≤ nth zs k + 9 * d
 | 0, k, hk => by simp
 | d + 1, k, hk => by
   have h1 := h.far d k (by omega)
   have h2 := h.step (k + d) (by omega)
   rw [show k + (d + 1) = k + d + 1 by omega]
   omega
theorem ok_of_rise {zs : List Int} {v p d : Int} (h : Rise zs v) (hn1 : 1 ≤ zs.length) (hn : zs.length ≤ 400) (hv : v ≤ 1000) (hp : 1 ≤ p) (hp2 : p ≤ 120) (hpn : p ≤ zs.length) (hd : 0 ≤ d) (hd2 : d ≤ 1000) :
 Cv.Fin ⟨zs, p, nth zs (zs.length - 1) - nth zs (zs.length - p.toNat) + d⟩ := by
 have hm : ∀ a b, a ≤ b → b < zs.length → nth zs a ≤ nth zs b := by
  intro a b hab hb
  induction b with
  | zero => rw [show a = 0 by omega]; exact Int.le_refl _
  | succ b ih =>
    by_cases e : a = b + 1
    ·rw [e]; exact Int.le_refl _
    ·exact Int.le_trans (ih (by omega) (by omega)) (h.mono b hb)
 have h1 := h.z (zs.length - 1) (by omega)
 have h2 := h.z (zs.length - p.toNat) (by omega)
 have h3 := hm (zs.length - p.toNat) (zs.length - 1) (by omega) (by omega)
 refine ⟨⟨hn1, hn, hp, hp2, hpn, ?_, ?_, ?_, (h.z 0 (by omega)).1, h.mono, ?_, ?_⟩, ?_⟩
 ·show 0 ≤ nth zs (zs.length - 1) - nth zs (zs.length - p.toNat) + d; omega
 ·show nth zs (zs.length - 1) - nth zs (zs.length - p.toNat) + d ≤ 1073741824; omega
 ·intro k hk; exact (okv_iff _).2 (.inr (by have := h.z k hk; show nth zs k ≤ 1073741824; omega))
 ·intro e; exfalso; have e' : nth zs (zs.length - 1) = inf := e; unfold inf at e'; omega
 ·intro e; show nth zs (zs.length - 1) ≤ nth zs (zs.length - p.toNat) + (nth zs (zs.length - 1) - nth zs (zs.length - p.toNat) + d); omega
 ·intro e; have e' : nth zs (zs.length - 1) = inf := e; unfold inf at e'; omega
theorem draw_rise {zs : List Int} {v p d : Int} {most : Nat} (h : Rise zs v) (hn1 : 1 ≤ zs.length) (hn : zs.length ≤ most) (hm : most ≤ 12) (hv : v ≤ 120) (hp : 1 ≤ p) (hp2 : p ≤ 4) (hpn : p ≤ zs.length) (hd : 0 ≤ d) (hd2 : d ≤ 8) :
 DrawC most ⟨zs, p, nth zs (zs.length - 1) - nth zs (zs.length - p.toNat) + d⟩ := by
 have h1 := h.z (zs.length - 1) (by omega)
 have h2 := h.z (zs.length - p.toNat) (by omega)
 refine ⟨(ok_of_rise h hn1 (by omega) (by omega) hp (by omega) hpn hd (by omega)).1, by show zs.length ≤ most + 8; omega, by show p ≤ 8; omega, ?_, fun k hk => .inr (by have := h.z k hk; show nth zs k ≤ 400; omega), ?_, ⟨_, p.toNat, _, by omega, by omega, (ok_of_rise h hn1 (by omega) (by omega) hp (by omega) hpn hd (by omega)).toL.step⟩⟩
 ·show nth zs (zs.length - 1) - nth zs (zs.length - p.toNat) + d ≤ 1000
  omega
 ·show nth zs (zs.length - 1) - nth zs (zs.length - p.toNat) + d ≤ 9 * p
  have h3 := h.far (p.toNat - 1) (zs.length - p.toNat) (by omega)
  rw [show zs.length - p.toNat + (p.toNat - 1) = zs.length - 1 by omega] at h3
  omega
theorem draw_inf {zs : List Int} {v : Int} {most : Nat} (h : Rise zs v) (hn : zs.length ≤ most) (hm : most ≤ 12) (hv : v ≤ 120) : DrawC most ⟨zs ++ [inf], 1, 0⟩ := by
 have hl : (zs ++ [inf]).length = zs.length + 1 := by simp
 have hlast : nth (zs ++ [inf]) zs.length = inf := by rw [nth_append, if_neg (by omega), Nat.sub_self]; rfl
 have hlt : ∀ k, k < zs.length → nth (zs ++ [inf]) k = nth zs k := fun k hk => by rw [nth_append, if_pos hk]
 have hsm : ∀ k, k < (zs ++ [inf]).length → nth (zs ++ [inf]) k = inf ∨ (0 ≤ nth (zs ++ [inf]) k ∧ nth (zs ++ [inf]) k ≤ v) := by
  intro k hk
  by_cases e : k < zs.length
  ·rw [hlt k e]; exact .inr (h.z k e)
  ·rw [show k = zs.length by omega, hlast]; exact .inl rfl
 have hok : Cv.Ok ⟨zs ++ [inf], 1, 0⟩ := by
  refine ⟨by show 1 ≤ (zs ++ [inf]).length; omega, by show (zs ++ [inf]).length ≤ 400; omega, by show (1 : Int) ≤ 1; omega, by show (1 : Int) ≤ 120; omega, by show (1 : Int) ≤ ((zs ++ [inf]).length : Nat); omega, by show (0 : Int) ≤ 0; omega, by show (0 : Int) ≤ 1073741824; omega, ?_, ?_, ?_, fun _ => ⟨rfl, rfl⟩, ?_⟩
  ·intro k hk
   rcases hsm k hk with e | e
   ·exact (okv_iff _).2 (.inl e)
   ·exact (okv_iff _).2 (.inr (by show nth (zs ++ [inf]) k ≤ _; omega))
  ·rcases hsm 0 (by omega) with e | e
   ·show 0 ≤ nth (zs ++ [inf]) 0; rw [e]; unfold inf; omega
   ·exact e.1
  ·intro k hk
   have hk' : k + 1 < (zs ++ [inf]).length := hk
   show nth (zs ++ [inf]) k ≤ nth (zs ++ [inf]) (k + 1)
   by_cases e : k + 1 < zs.length
   ·rw [hlt _ e, hlt k (by omega)]; exact h.mono k e
   ·rw [show k + 1 = zs.length by omega, hlast, hlt k (by omega)]
    have := h.z k (by omega)
    unfold inf; omega
  ·intro e
   exact absurd (by show nth (zs ++ [inf]) ((zs ++ [inf]).length - 1) = inf; rw [hl, Nat.add_sub_cancel, hlast]) e
 refine ⟨hok, by show (zs ++ [inf]).length ≤ most + 8; omega, by show (1 : Int) ≤ 8; omega, by show (0 : Int) ≤ 1000; omega, ?_, by show (0 : Int) ≤ 9 * 1; omega, ⟨(zs ++ [inf]).length, 1, 0, by omega, by omega, fun t ht => ?_⟩⟩
 ·intro k hk
  rcases hsm k hk with e | e
  ·exact .inl e
  ·exact .inr (by show nth (zs ++ [inf]) k ≤ 400; omega)
 ·have hl2 : nth (Cv.mk (zs ++ [inf]) 1 0).vals ((Cv.mk (zs ++ [inf]) 1 0).vals.length - 1) = inf := by show nth (zs ++ [inf]) ((zs ++ [inf]).length - 1) = inf; rw [hl, Nat.add_sub_cancel, hlast]
  rw [hok.at_inf hl2 (t := t + 1) (by show (zs ++ [inf]).length ≤ _; omega), hok.at_inf hl2 (t := t) (by show (zs ++ [inf]).length ≤ _; omega)]; omega
theorem Cv.Fin.at_small {f : Cv} (h : f.Fin) {M I : Int} (hM : ∀ k, k < f.vals.length → nth f.vals k ≤ M) (hI : f.inc ≤ I) (hI0 : 0 ≤ I) (t : Nat) : f.at t ≤ M + (t : Int) * I := by
 have hti : 0 ≤ (t : Int) * I := Int.mul_nonneg (by omega) hI0
 by_cases hlt : t < f.vals.length
 ·rw [Cv.at_lt hlt]
  have := hM t hlt
  omega
 ·have hp1 := h.1.p1; have hpn := h.1.pn; have hi1 := h.1.i1; have hn1 := h.1.n1
  have hx := idx_bd (t := t) (n := f.vals.length) (p := f.per.toNat) (by omega) (by omega) (by omega)
  rw [h.at_ge (by omega)]
  have h1 := hM _ hx.2.1
  have hk : (t - f.vals.length) / f.per.toNat + 1 ≤ t := by
   have := Nat.div_le_self (t - f.vals.length) f.per.toNat
   omega
  generalize (t - f.vals.length) / f.per.toNat + 1 = k at *
  have h3 : (k : Int) * f.inc ≤ (t : Int) * I := Int.mul_le_mul (by omega) hI hi1 (by omega)
  omega
theorem Cv.Fin.at_slope {f : Cv} (h : f.Fin) {M : Int} (hM : ∀ k, k < f.vals.length → nth f.vals k ≤ M) (hI : f.inc ≤ 9 * f.per) (t : Nat) : f.at t ≤ M + 9 * (t : Int) := by
 by_cases hlt : t < f.vals.length
 ·rw [Cv.at_lt hlt]
  have := hM t hlt
  omega
 ·have hp1 := h.1.p1; have hpn := h.1.pn; have hi1 := h.1.i1; have hn1 := h.1.n1
  have hx := idx_bd (t := t) (n := f.vals.length) (p := f.per.toNat) (by omega) (by omega) (by omega)
  rw [h.at_ge (by omega)]
  have h1 := hM _ hx.2.1
  have hkp := hx.1
  generalize (t - f.vals.length) / f.per.toNat + 1 = k at *
  have h3 : (k : Int) * f.inc ≤ (k : Int) * (9 * f.per) := Int.mul_le_mul_of_nonneg_left hI (by omega)
  have h4 : (k : Int) * f.per = ((k * f.per.toNat : Nat) : Int) := by rw [Int.natCast_mul]; congr 1; omega
  have h5 : (k : Int) * (9 * f.per) = 9 * ((k : Int) * f.per) := by rw [Int.mul_left_comm]
  omega
theorem ok_longer {f g : Cv} {more times : Nat} (ok : f.Ok) (h : LongerS f more times g) (ht : 1 ≤ times) (hlen : f.vals.length + (more + (times - 1) * f.per.toNat) ≤ 400) (hper : f.per * times ≤ 120) (hinc : f.inc * times ≤ 1000000)
 (hsm : ∀ k, k < f.vals.length → nth f.vals k = inf ∨ nth f.vals k ≤ 100000) (hi : f.inc ≤ 1000) : g.Ok ∧ (∀ t, g.at t = f.at t) ∧ f.vals.length ≤ g.vals.length ∧ f.per ≤ g.per := by
 rcases h with ⟨_, rfl⟩ | ⟨hF, hgp, hgi, hgv⟩
 ·exact ⟨ok, fun t => rfl, Nat.le_refl _, Int.le_refl _⟩
 ·have hp1 := ok.p1; have hpn := ok.pn; have hi1 := ok.i1; have hn1 := ok.n1
  obtain ⟨N, hN⟩ : ∃ N, N = f.vals.length + (more + (times - 1) * f.per.toNat) := ⟨_, rfl⟩
  rw [← hN] at hgv hlen
  have hgl : g.vals.length = N := by rw [hgv, tab_length]
  have hgn : ∀ k, k < N → nth g.vals k = f.at k := fun k hk => by rw [hgv, tab_nth _ _ _ _ hk, Nat.zero_add]
  have hpt : g.per.toNat = times * f.per.toNat := by
   have : g.per = ((times * f.per.toNat : Nat) : Int) := by rw [hgp, Int.natCast_mul, Int.mul_comm]; congr 1; omega
   rw [this, Int.toNat_natCast]
  have hts : times * f.per.toNat = (times - 1) * f.per.toNat + f.per.toNat := by
   obtain ⟨u, rfl⟩ : ∃ u, times = u + 1 := ⟨times - 1, by omega⟩
   rw [Nat.add_mul, Nat.one_mul, Nat.add_sub_cancel]
  have hple : f.per.toNat ≤ times * f.per.toNat := Nat.le_mul_of_pos_left _ ht
  have hgpn : g.per.toNat ≤ N := by omega
  have hfs : ∀ k, k < f.vals.length → nth f.vals k ≤ 100000 := fun k hk => by
   rcases hsm k hk with e | e
   ·exact absurd e (hF.ne k hk).1
   ·exact e
  have hb : ∀ k, k < N → nth g.vals k ≤ 1073741824 := fun k hk => by
   rw [hgn k hk]
   have h1 := hF.at_small hfs hi (by omega) k
   have h2 : (k : Int) * 1000 ≤ 400 * 1000 := Int.mul_le_mul_of_nonneg_right (by omega) (by omega)
   omega
  have hstep : Per f.at (N - g.per.toNat) g.per.toNat g.inc := by
   have h1 := hF.toL.step.mul times
   rw [hpt]
   have e : (times : Int) * f.inc = g.inc := by rw [hgi, Int.mul_comm]
   rw [e] at h1
   exact h1.mono (by omega)
  have hz : ∀ k, 0 ≤ f.at k := fun k => Int.le_trans (by rw [Cv.at_lt (by omega)]; exact ok.z) (ok.at_le (Nat.zero_le k))
  have hgp1 : 1 ≤ g.per := by omega
  have hne : ∀ k, k < N → nth g.vals k ≠ inf := fun k hk e => by have := hb k hk; rw [e] at this; unfold inf at this; omega
  have hgi0 : 0 ≤ g.inc := by rw [hgi]; exact Int.mul_nonneg hi1 (by omega)
  refine ⟨⟨by omega, by omega, hgp1, by rw [hgp]; exact hper, by omega, hgi0, by rw [hgi]; omega, fun k hk => (okv_iff _).2 (.inr (hb k (by omega))), by rw [hgn 0 (by omega)]; exact hz 0, ?_, fun e => absurd e (hne _ (by omega)), fun _ => ?_⟩, ?_, by omega, by omega⟩
  ·intro k hk; rw [hgn k (by omega), hgn _ (by omega)]; exact ok.at_mono k
  ·rw [hgl, hgn _ (by omega), hgn _ (by omega), ← hstep _ (Nat.le_refl _), show N - g.per.toNat + g.per.toNat = N by omega]
   exact ok.at_le (by omega)
  ·intro t
   exact Cv.FinL.unique ⟨hgp1, by omega, fun k hk => hne k (by omega)⟩ (fun k hk => hgn k (by omega)) (by rw [hgl]; exact hstep) t
theorem draw_longer {zs : List Int} {v p d : Int} {most more times : Nat} {g : Cv} (h : Rise zs v) (hn1 : 1 ≤ zs.length) (hn : zs.length ≤ most) (hm : most ≤ 12) (hv : v ≤ 120) (hp : 1 ≤ p) (hp2 : p ≤ 4) (hpn : p ≤ zs.length) (hd : 0 ≤ d) (hd2 : d ≤ 8)
 (hL : LongerS ⟨zs, p, nth zs (zs.length - 1) - nth zs (zs.length - p.toNat) + d⟩ more times g) (ht : 1 ≤ times) (ht2 : times ≤ 2) (hmo : more ≤ 3) : DrawC most g := by
 have h1 := h.z (zs.length - 1) (by omega)
 have h2 := h.z (zs.length - p.toNat) (by omega)
 have hF := ok_of_rise h hn1 (by omega) (by omega) hp (by omega) hpn hd (by omega)
 obtain ⟨i, hi⟩ : ∃ i, nth zs (zs.length - 1) - nth zs (zs.length - p.toNat) + d = i := ⟨_, rfl⟩
 rw [hi] at hF hL
 have hi2 : i ≤ 128 := by omega
 have hi0 : 0 ≤ i := hF.1.i1
 have hpt : p * (times : Int) ≤ 4 * 2 := Int.mul_le_mul hp2 (by omega) (by omega) (by omega)
 have hit : i * (times : Int) ≤ 128 * 2 := Int.mul_le_mul hi2 (by omega) (by omega) (by omega)
 have htp : (times - 1) * p.toNat ≤ 1 * 4 := Nat.mul_le_mul (by omega) (by omega)
 have hsm : ∀ k, k < (Cv.mk zs p i).vals.length → nth (Cv.mk zs p i).vals k = inf ∨ nth (Cv.mk zs p i).vals k ≤ 100000 := fun k hk => .inr (by have := h.z k hk; show nth zs k ≤ _; omega)
 obtain ⟨ok, hat, hl1, hl2⟩ := ok_longer hF.1 hL ht (by show zs.length + (more + (times - 1) * p.toNat) ≤ 400; omega) (by show p * times ≤ 120; omega) (by show i * times ≤ _; omega) hsm (by show i ≤ 1000; omega)
 rcases hL with ⟨e, rfl⟩ | ⟨_, hgp, hgi, hgv⟩
 ·exact absurd e hF.2
 ·have hgl : g.vals.length = zs.length + (more + (times - 1) * p.toNat) := by rw [hgv, tab_length]
  have hsl : i ≤ 9 * p := by
   have h3 := h.far (p.toNat - 1) (zs.length - p.toNat) (by omega)
   rw [show zs.length - p.toNat + (p.toNat - 1) = zs.length - 1 by omega] at h3
   omega
  refine ⟨ok, by omega, by rw [hgp]; show p * times ≤ 8; omega, by rw [hgi]; show i * times ≤ 1000; omega, fun k hk => .inr ?_, ?_, ⟨_, p.toNat, i, by omega, by omega, fun t ht => by rw [hat, hat]; exact hF.toL.step t ht⟩⟩
  ·rw [hgv, tab_nth _ _ _ _ (by rw [← hgl]; exact hk), Nat.zero_add]
   have h3 := hF.at_slope (M := 120) (fun k hk => by have := h.z k hk; show nth zs k ≤ 120; omega) hsl k
   omega
  ·rw [hgi, hgp]
   show i * times ≤ 9 * (p * times)
   rw [← Int.mul_assoc]
   exact Int.mul_le_mul_of_nonneg_right hsl (by omega)
end
section
def Cv.infAt (f : Cv) (n : Nat) : Prop := nth f.vals (f.vals.length - 1) = inf ∧ f.at n = inf
def Up (f g : Cv) (n : Nat) : Prop := ¬ g.infAt n ∧ (f.infAt n ∨ g.at n < f.at n)
def ExS (U : Nat → Prop) (t : Int) (ok : Bool) : Prop := (ok = true ∧ ∃ n : Nat, t = n ∧ U n ∧ ∀ m, m < n → ¬ U m) ∨ (ok = false ∧ t = 0 ∧ ∀ n, ¬ U n)
theorem Cv.Fin.not_infAt {f : Cv} (h : f.Fin) (n : Nat) : ¬ f.infAt n := fun h' => h.2 h'.1
theorem Cv.Ok.fin_or {f : Cv} (h : f.Ok) : f.Fin ∨ nth f.vals (f.vals.length - 1) = inf := by
 by_cases e : nth f.vals (f.vals.length - 1) = inf
 ·exact .inr e
 ·exact .inl ⟨h, e⟩
theorem Cv.Ok.at_bd {f : Cv} (h : f.Ok) {n : Nat} (hn : n ≤ 4000000000) : 0 ≤ f.at n ∧ f.at n ≤ inf ∧ (f.at n = inf → f.infAt n) := by
 rcases h.fin_or with hf | hf
 ·have := hf.at_bd n
  unfold inf
  refine ⟨this.1, by omega, fun e => by omega⟩
 ·by_cases hlt : n < f.vals.length
  ·rw [Cv.at_lt hlt]
   have h1 := h.nn n
   unfold inf
   refine ⟨h1.1, h1.2, fun e => ⟨hf, by rw [Cv.at_lt hlt]; exact e⟩⟩
  ·have := h.at_inf hf (t := n) (by omega)
   rw [this]
   unfold inf
   exact ⟨by omega, by omega, fun _ => ⟨hf, this⟩⟩
theorem up_iff {f g : Cv} (hf : f.Ok) (hg : g.Ok) {n : Nat} (hn : n ≤ 4000000000) : Up f g n ↔ g.at n < f.at n := by
 obtain ⟨a1, a2, a3⟩ := hf.at_bd hn
 obtain ⟨b1, b2, b3⟩ := hg.at_bd hn
 constructor
 ·rintro ⟨h1, h2⟩
  rcases h2 with h2 | h2
  ·have : g.at n ≠ inf := fun e => h1 (b3 e)
   rw [h2.2]; omega
  ·exact h2
 ·intro h
  exact ⟨fun e => by rw [e.2] at h; omega, .inr h⟩
theorem up_fin {f g : Cv} (hf : f.Fin) (hg : g.Fin) (n : Nat) : Up f g n ↔ g.at n < f.at n :=
 ⟨fun h => by
  rcases h.2 with h2 | h2
  ·exact absurd h2 (hf.not_infAt n)
  ·exact h2, fun h => ⟨hg.not_infAt n, .inr h⟩⟩
theorem Cv.infAt.later {f : Cv} (h : f.Ok) {n m : Nat} (hi : f.infAt n) (hnm : n ≤ m) : f.infAt m := by
 by_cases hlt : n < f.vals.length
 ·exact ⟨hi.1, h.inf_from hlt hnm hi.2⟩
 ·exact ⟨hi.1, h.at_inf hi.1 (by omega)⟩
theorem Cv.Ok.infAt_start {f : Cv} (h : f.Ok) (hi : nth f.vals (f.vals.length - 1) = inf) {n : Nat} (hn : f.vals.length - f.per.toNat ≤ n) : f.infAt n := by
 have hp := (h.last hi).1
 refine ⟨hi, h.at_inf hi ?_⟩
 rw [hp] at hn
 have : (1 : Int).toNat = 1 := rfl
 omega
theorem up_inf {f g : Cv} (hf : f.Ok) (hg : g.Ok) (hi : ¬ (f.Fin ∧ g.Fin)) {s n : Nat} (h1 : f.vals.length - f.per.toNat ≤ s) (h2 : g.vals.length - g.per.toNat ≤ s) (hs : s ≤ n) : Up f g n ↔ Up f g s := by
 rcases hf.fin_or with a | a <;> rcases hg.fin_or with b | b
 ·exact absurd ⟨a, b⟩ hi
 ·have c1 := hg.infAt_start b h2
  have c2 := c1.later hg hs
  exact ⟨fun h => absurd c2 h.1, fun h => absurd c1 h.1⟩
 ·have c1 := hf.infAt_start a h1
  have c2 := c1.later hf hs
  exact ⟨fun h => ⟨b.not_infAt _, .inl c1⟩, fun h => ⟨b.not_infAt _, .inl c2⟩⟩
 ·have c1 := hg.infAt_start b h2
  have c2 := c1.later hg hs
  exact ⟨fun h => absurd c2 h.1, fun h => absurd c1 h.1⟩
def dif (f g : Cv) (n : Nat) : Int := f.at n - g.at n
theorem Per.dif {f g : Cv} {s s' p q c a b : Nat} {x y : Int} (hf : Per f.at s p x) (hg : Per g.at s' q y) (ha : c = a * p) (hb : c = b * q) (F : Nat) (h1 : s ≤ F) (h2 : s' ≤ F) : Per (dif f g) F c (a * x - b * y) := by
 intro t ht
 have e1 := (hf.mono h1).mul a t ht
 have e2 := (hg.mono h2).mul b t ht
 rw [← ha] at e1
 rw [← hb] at e2
 show f.at (t + c) - g.at (t + c) = f.at t - g.at t + _
 rw [e1, e2]; omega
theorem Per.times {h : Nat → Int} {s p : Nat} {a : Int} (k : Per h s p a) (m t : Nat) (ht : s ≤ t) : h (t + m * p) = h t + m * a := k.mul m t ht
def ExI (d : Nat → Int) (s c k : Nat) (found : Bool) (L : Int) : Prop :=
 (found = false ∧ L = 0 ∧ ∀ r, r < k → ∀ m : Nat, d (s + r + m * c) ≤ 0) ∨ (found = true ∧ ∃ n : Nat, L = n ∧ 0 < d n ∧ ∀ r, r < k → ∀ m : Nat, s + r + m * c < n → d (s + r + m * c) ≤ 0)
theorem res_of {s c n : Nat} (hc : 1 ≤ c) (hn : s ≤ n) : ∃ r m, r < c ∧ n = s + r + m * c :=
 ⟨(n - s) % c, (n - s) / c, Nat.mod_lt _ (by omega), by have := Nat.mod_add_div (n - s) c; rw [Nat.mul_comm]; omega⟩
theorem ExI.done {d : Nat → Int} {s c : Nat} {found : Bool} {L : Int} (hc : 1 ≤ c) (h : ExI d s c c found L) (h0 : ∀ n, n < s → d n ≤ 0) : ExS (fun n => 0 < d n) L found := by
 rcases h with ⟨rfl, rfl, h⟩ | ⟨rfl, n, rfl, h1, h2⟩
 ·refine .inr ⟨rfl, rfl, fun n => ?_⟩
  by_cases hn : n < s
  ·have := h0 n hn; simp only; omega
  ·obtain ⟨r, m, hr, rfl⟩ := res_of hc (show s ≤ n by omega)
   have := h r hr m; simp only; omega
 ·refine .inl ⟨rfl, n, rfl, h1, fun k hk => ?_⟩
  by_cases hn : k < s
  ·have := h0 k hn; simp only; omega
  ·obtain ⟨r, m, hr, rfl⟩ := res_of hc (show s ≤ k by omega)
   have := h2 r hr m hk; simp only; omega
theorem ExI.skip {d : Nat → Int} {s c k : Nat} {found : Bool} {L D : Int} (h : ExI d s c k found L) (hP : Per d s c D) (hd : d (s + k) ≤ 0) (hD : D ≤ 0) : ExI d s c (k + 1) found L := by
 have hk : ∀ m : Nat, d (s + k + m * c) ≤ 0 := fun m => by
  rw [hP.times m (s + k) (by omega)]
  have : (m : Int) * D ≤ 0 := by have := Int.mul_le_mul_of_nonneg_left (c := (m : Int)) hD (by omega); simpa using this
  omega
 rcases h with ⟨rfl, rfl, h⟩ | ⟨rfl, n, rfl, h1, h2⟩
 ·refine .inl ⟨rfl, rfl, fun r hr m => ?_⟩
  by_cases e : r = k
  ·subst e; exact hk m
  ·exact h r (by omega) m
 ·refine .inr ⟨rfl, n, rfl, h1, fun r hr m hm => ?_⟩
  by_cases e : r = k
  ·subst e; exact hk m
  ·exact h2 r (by omega) m hm
theorem ExI.cand {d : Nat → Int} {s c k : Nat} {found : Bool} {L : Int} (h : ExI d s c k found L) {M : Nat} (hd : 0 < d (s + k + M * c)) (hlt : ∀ m, m < M → d (s + k + m * c) ≤ 0) (hc : 1 ≤ c) :
 (found = false ∨ ((s + k + M * c : Nat) : Int) < L → ExI d s c (k + 1) true ((s + k + M * c : Nat) : Int)) ∧ (¬ (found = false ∨ ((s + k + M * c : Nat) : Int) < L) → ExI d s c (k + 1) found L) := by
 have hk : ∀ m : Nat, s + k + m * c < s + k + M * c → d (s + k + m * c) ≤ 0 := fun m hm => hlt m (by
  rcases Nat.lt_or_ge m M with e | e
  ·exact e
  ·have := Nat.mul_le_mul_right c e; omega)
 refine ⟨fun hh => .inr ⟨rfl, _, rfl, hd, fun r hr m hm => ?_⟩, fun hh => ?_⟩
 ·by_cases e : r = k
  ·subst e; exact hk m hm
  ·rcases h with ⟨rfl, rfl, h⟩ | ⟨rfl, n, rfl, h1, h2⟩
   ·exact h r (by omega) m
   ·rcases hh with hh | hh
    ·cases hh
    ·exact h2 r (by omega) m (by omega)
 ·rcases h with ⟨rfl, rfl, h⟩ | ⟨rfl, n, rfl, h1, h2⟩
  ·exact absurd (.inl rfl) hh
  ·refine .inr ⟨rfl, n, rfl, h1, fun r hr m hm => ?_⟩
   by_cases e : r = k
   ·subst e
    refine hk m ?_
    have : ¬ ((s + r + M * c : Nat) : Int) < (n : Int) := fun e => hh (.inr e)
    omega
   ·exact h2 r (by omega) m hm
theorem grow_first {d : Nat → Int} {s c k : Nat} {D : Int} (hP : Per d s c D) (hD : 0 < D) (hd : d (s + k) ≤ 0) :
 0 < d (s + k + ((-(d (s + k)) / D).toNat + 1) * c) ∧ ∀ m, m < (-(d (s + k)) / D).toNat + 1 → d (s + k + m * c) ≤ 0 := by
 obtain ⟨v, hv⟩ : ∃ v, d (s + k) = v := ⟨_, rfl⟩
 have hq : 0 ≤ -v / D := Int.ediv_nonneg (by omega) (by omega)
 have h1 := Int.mul_ediv_add_emod (-v) D
 have h2 := Int.emod_nonneg (-v) (show D ≠ 0 by omega)
 have h3 := Int.emod_lt_of_pos (-v) hD
 obtain ⟨q, hq'⟩ := Int.eq_ofNat_of_zero_le hq
 rw [hv, hq', Int.toNat_natCast]
 rw [hq'] at h1
 refine ⟨?_, fun m hm => ?_⟩
 ·rw [hP.times _ _ (by omega), hv]
  have : ((q + 1 : Nat) : Int) * D = D * q + D := by rw [Int.natCast_add, Int.add_mul, Int.mul_comm D]; simp
  rw [this]; omega
 ·rw [hP.times _ _ (by omega), hv]
  have : (m : Int) * D ≤ q * D := Int.mul_le_mul_of_nonneg_right (by omega) (by omega)
  rw [Int.mul_comm (q : Int)] at this
  omega
theorem ExS.congr {U V : Nat → Prop} {t : Int} {ok : Bool} (h : ExS U t ok) (e : ∀ n, U n ↔ V n) : ExS V t ok := by
 have : U = V := funext fun n => propext (e n)
 rw [← this]; exact h
end
section
def comm (p q : Nat) : Nat := p / Nat.gcd p q * q
theorem comm_facts {p q : Nat} (hp : 1 ≤ p) (hq : 1 ≤ q) : comm p q = comm p q / p * p ∧ comm p q = comm p q / q * q ∧ 1 ≤ comm p q ∧ comm p q ≤ p * q ∧ comm p q / p ≤ q ∧ comm p q / q ≤ p := by
 obtain ⟨a, ha⟩ := Nat.gcd_dvd_left p q
 obtain ⟨b, hb⟩ := Nat.gcd_dvd_right p q
 have hg : 0 < Nat.gcd p q := Nat.gcd_pos_of_pos_left _ hp
 have e1 : p / Nat.gcd p q = a := by
  rw (config := { occs := .pos [1] }) [ha]; exact Nat.mul_div_cancel_left _ hg
 have hc : comm p q = a * q := by unfold comm; rw [e1]
 have hc2 : comm p q = b * p := by
  have h1 : a * q = a * (Nat.gcd p q * b) := congrArg (a * ·) hb
  have h2 : b * p = b * (Nat.gcd p q * a) := congrArg (b * ·) ha
  rw [hc, h1, h2]
  ac_rfl
 have d1 : comm p q / p = b := by rw [hc2]; exact Nat.mul_div_cancel _ hp
 have d2 : comm p q / q = a := by rw [hc]; exact Nat.mul_div_cancel _ hq
 have hap : a ≤ p := by rw [← e1]; exact Nat.div_le_self _ _
 have hbq : b ≤ q := by
  have : q / Nat.gcd p q = b := by
   rw (config := { occs := .pos [1] }) [hb]; exact Nat.mul_div_cancel_left _ hg
  rw [← this]; exact Nat.div_le_self _ _
 have ha1 : 1 ≤ a := by
  rcases Nat.eq_zero_or_pos a with e | e
  ·rw [e] at ha; omega
  ·exact e
 refine ⟨by rw [d1]; exact hc2, by rw [d2]; exact hc, by rw [hc]; exact Nat.mul_pos ha1 hq, by rw [hc]; exact Nat.mul_le_mul_right q hap, by rw [d1]; exact hbq, by rw [d2]; exact hap⟩
def ordF (f g : Cv) : Nat := max (f.vals.length - f.per.toNat) (g.vals.length - g.per.toNat)
def ordC (f g : Cv) : Nat := comm f.per.toNat g.per.toNat
def ordD (f g : Cv) : Int := (ordC f g / f.per.toNat : Nat) * f.inc - (ordC f g / g.per.toNat : Nat) * g.inc
structure OrdB (f g : Cv) : Prop where
 f0 : ordF f g ≤ 400
 fs : f.vals.length - f.per.toNat ≤ ordF f g
 gs : g.vals.length - g.per.toNat ≤ ordF f g
 c1 : 1 ≤ ordC f g
 c2 : ordC f g ≤ 14400
 d1 : ordD f g ≤ 128849018880
 d2 : -128849018880 ≤ ordD f g
 a1 : 0 ≤ ((ordC f g / f.per.toNat : Nat) : Int) * f.inc ∧ ((ordC f g / f.per.toNat : Nat) : Int) * f.inc ≤ 128849018880
 a2 : 0 ≤ ((ordC f g / g.per.toNat : Nat) : Int) * g.inc ∧ ((ordC f g / g.per.toNat : Nat) : Int) * g.inc ≤ 128849018880
 b1 : ordC f g / f.per.toNat ≤ 120
 b2 : ordC f g / g.per.toNat ≤ 120
theorem ord_b {f g : Cv} (hf : f.Ok) (hg : g.Ok) : OrdB f g := by
 have hn := hf.n2; have hm := hg.n2
 have hp1 := hf.p1; have hp2 := hf.p2; have hi1 := hf.i1; have hi2 := hf.i2
 have hq1 := hg.p1; have hq2 := hg.p2; have hj1 := hg.i1; have hj2 := hg.i2
 obtain ⟨e1, e2, e3, e4, e5, e6⟩ := comm_facts (p := f.per.toNat) (q := g.per.toNat) (by omega) (by omega)
 have hpq : f.per.toNat * g.per.toNat ≤ 120 * 120 := Nat.mul_le_mul (by omega) (by omega)
 have a1 : ((ordC f g / f.per.toNat : Nat) : Int) * f.inc ≤ 120 * 1073741824 := Int.mul_le_mul (by show ((comm _ _ / _ : Nat) : Int) ≤ _; omega) hi2 hi1 (by omega)
 have a2 : ((ordC f g / g.per.toNat : Nat) : Int) * g.inc ≤ 120 * 1073741824 := Int.mul_le_mul (by show ((comm _ _ / _ : Nat) : Int) ≤ _; omega) hj2 hj1 (by omega)
 have a3 : 0 ≤ ((ordC f g / f.per.toNat : Nat) : Int) * f.inc := Int.mul_nonneg (Int.natCast_nonneg _) hi1
 have a4 : 0 ≤ ((ordC f g / g.per.toNat : Nat) : Int) * g.inc := Int.mul_nonneg (Int.natCast_nonneg _) hj1
 refine ⟨by unfold ordF; omega, by unfold ordF; omega, by unfold ordF; omega, e3, by unfold ordC; omega, by unfold ordD; omega, by unfold ordD; omega, ⟨a3, by omega⟩, ⟨a4, by omega⟩, by show comm _ _ / _ ≤ _; omega, by show comm _ _ / _ ≤ _; omega⟩
theorem ord_per {f g : Cv} (hf : f.Fin) (hg : g.Fin) : Per (dif f g) (ordF f g) (ordC f g) (ordD f g) := by
 have B := ord_b hf.1 hg.1
 obtain ⟨e1, e2, e3, e4, e5, e6⟩ := comm_facts (p := f.per.toNat) (q := g.per.toNat) (by have := hf.1.p1; omega) (by have := hg.1.p1; omega)
 exact Per.dif hf.toL.step hg.toL.step e1 e2 _ B.fs B.gs
theorem up_dif {f g : Cv} (hf : f.Fin) (hg : g.Fin) (n : Nat) : Up f g n ↔ 0 < dif f g n := by
 rw [up_fin hf hg]; unfold dif; omega
def OrdS (S : Prop) (f g : Cv) (t : Int) (ok : Bool) (er : Int) : Prop := (f.Ok ∧ g.Ok ∧ er = 0 ∧ S) ∨ (¬ (f.Ok ∧ g.Ok) ∧ er = 1 ∧ t = 0 ∧ ok = false)
theorem ex_inf {f g : Cv} (hf : f.Ok) (hg : g.Ok) (hi : ¬ (f.Fin ∧ g.Fin)) (h : ∀ n, n < ordF f g + 1 → ¬ g.at n < f.at n) : ExS (Up f g) 0 false := by
 have B := ord_b hf hg
 have b0 := B.f0
 refine .inr ⟨rfl, rfl, fun n => ?_⟩
 by_cases hn : n ≤ ordF f g
 ·rw [up_iff hf hg (by omega)]; exact h n (by omega)
 ·rw [up_inf hf hg hi B.fs B.gs (show ordF f g ≤ n by omega), up_iff hf hg (by omega)]; exact h _ (by omega)
theorem ex_early {f g : Cv} (hf : f.Ok) (hg : g.Ok) {t : Nat} (ht : t ≤ 1000) (h : ∀ n, n < t → ¬ g.at n < f.at n) (hu : g.at t < f.at t) : ExS (Up f g) t true :=
 .inl ⟨rfl, t, rfl, (up_iff hf hg (by omega)).2 hu, fun m hm => by rw [up_iff hf hg (by omega)]; exact h m hm⟩
theorem ex_late {f g : Cv} (hf : f.Fin) (hg : g.Fin) {b : Bool} {L : Int} (h : ExI (dif f g) (ordF f g) (ordC f g) (ordC f g) b L) (h0 : ∀ n, n < ordF f g + 1 → ¬ g.at n < f.at n) : ExS (Up f g) L b :=
 (h.done (ord_b hf.1 hg.1).c1 (fun n hn => by have := h0 n (by omega); unfold dif; omega)).congr fun n => (up_dif hf hg n).symm
theorem dif_bd {f g : Cv} (hf : f.Fin) (hg : g.Fin) {n : Nat} (hn : n ≤ 20000) : dif f g n ≤ 30000000000000 ∧ -30000000000000 ≤ dif f g n := by
 have h1 := hf.at_bd n
 have h2 := hg.at_bd n
 unfold dif
 omega
theorem at_inf_bd {f : Cv} (hf : f.Ok) {n : Nat} (hn : n ≤ 20000) : 0 ≤ f.at n ∧ f.at n ≤ 4611686018427387904 := by
 have := hf.at_bd (n := n) (by omega)
 unfold inf at this
 exact ⟨this.1, this.2.1⟩
end
section
def NormR (f g : Cv) (er : Int) : Prop := (f.Ok ∧ NF f.at g ∧ g.Ok ∧ er = 0) ∨ (¬ f.Ok ∧ g = Cv.none ∧ er = 1)
theorem NormR.of {f g : Cv} {er : Int} (h : NormalS f g er) : NormR f g er := by
 by_cases hf : f.Ok
 ·obtain ⟨h1, h2, h3, _⟩ := normal_ok hf h
  exact .inl ⟨hf, h2, h3, h1⟩
 ·rcases h with ⟨h, _⟩ | ⟨_, h1, h2⟩
  ·exact absurd (Cv.okB_iff.1 h) hf
  ·exact .inr ⟨hf, h1, h2⟩
end
section
end
section
theorem MadeS.congr {h h' : Nat → Int} {f : Cv} {er : Int} (m : MadeS h f er) (e : ∀ t, h t = h' t) : MadeS h' f er := by
 obtain rfl : h = h' := funext e
 exact m
theorem NF.same {f g : Cv} (m : NF f.at g) : g.at = f.at := funext m.at
structure Up0 (h : Nat → Int) : Prop where
 z : 0 ≤ h 0
 m : ∀ t, h t ≤ h (t + 1)
theorem Up0.le {h : Nat → Int} (H : Up0 h) {a b : Nat} (hab : a ≤ b) : h a ≤ h b := by
 induction b with
 | zero => rw [show a = 0 by omega]; exact Int.le_refl _
 | succ b ih =>
   by_cases e : a = b + 1
   ·rw [e]; exact Int.le_refl _
   ·exact Int.le_trans (ih (by omega)) (H.m b)
theorem Up0.nn {h : Nat → Int} (H : Up0 h) (t : Nat) : 0 ≤ h t := Int.le_trans H.z (H.le (Nat.zero_le t))
theorem Cv.Ok.up0 {f : Cv} (h : f.Ok) : Up0 f.at := ⟨by rw [Cv.at_lt (by have := h.n1; omega)]; exact h.z, h.at_mono⟩
theorem nf_lim_ok {h : Nat → Int} {g : Cv} (hg : NF h g) (H : Up0 h) (hl : Lim g) : g.Ok := by
 have hv : ∀ k, k < g.vals.length → nth g.vals k = h k := by
  rcases hg with hg | hg
  ·exact hg.vals
  ·exact hg.vals
 have hmono : ∀ k, k + 1 < g.vals.length → nth g.vals k ≤ nth g.vals (k + 1) := fun k hk => by rw [hv k (by omega), hv _ hk]; exact H.m k
 rcases hg with hg | hg
 ·have hp1 := hg.p1; have hpn := hg.pn
  have hi : 0 ≤ g.inc := by
   have h1 := hg.per (g.vals.length - g.per.toNat) (Nat.le_refl _)
   have h2 := H.le (show g.vals.length - g.per.toNat ≤ g.vals.length - g.per.toNat + g.per.toNat by omega)
   omega
  refine ⟨by omega, hl.1, hp1, hl.2.2.1, hpn, hi, hl.2.2.2, hl.2.1, by rw [hv 0 (by omega)]; exact H.z, hmono, fun e => ?_, fun _ => ?_⟩
  ·exact absurd (by rw [← hv _ (by omega)]; exact e) (hg.fin (g.vals.length - 1) (by omega))
  ·rw [hv _ (by omega), hv _ (by omega), ← hg.per _ (Nat.le_refl _)]
   exact H.le (by omega)
 ·have hn1 := hg.n1; have hp1 := hg.p1; have hi0 := hg.i0
  refine ⟨hn1, hl.1, by omega, hl.2.2.1, by omega, by omega, hl.2.2.2, hl.2.1, by rw [hv 0 (by omega)]; exact H.z, hmono, fun _ => ⟨hp1, hi0⟩, fun e => ?_⟩
  exact absurd (by rw [hv _ (by omega)]; exact hg.from_ _ (by omega)) e
theorem Cv.Ok.lim {g : Cv} (h : g.Ok) : Lim g := ⟨h.n2, h.v, h.p2, h.i2⟩
theorem MadeS.get {h : Nat → Int} {f : Cv} {er : Int} (m : MadeS h f er) (H : Up0 h) : (er = 0 ∧ f.Ok ∧ NF h f) ∨ (er = 3 ∧ f = Cv.none) := by
 obtain ⟨g, hg, ⟨hl, rfl, rfl⟩ | ⟨_, rfl, rfl⟩⟩ := m
 ·exact .inl ⟨rfl, nf_lim_ok hg H hl, hg⟩
 ·exact .inr ⟨rfl, rfl⟩
/-! ### From a function that is periodic to its normal form -/
theorem nf_exists {h : Nat → Int} {s p : Nat} {i : Int} (hp : 1 ≤ p) (H : Per h s p i) (hne : ∀ t, t < s + p → h t ≠ inf) : ∃ g, NFin h g ∧ g.vals.length ≤ s + p ∧ g.per ≤ p := by
 obtain ⟨r, k, b, hr, hk, hb, hR, hle⟩ := per_least hp H
 obtain ⟨s', ⟨hs1, hs2⟩, hs3⟩ := nat_least (Q := fun s' => s' ≤ s ∧ Per h s' r b) ⟨s, Nat.le_refl _, hR⟩
 have hrp : r ≤ p := by
  rw [hk]
  refine Nat.le_mul_of_pos_left _ ?_
  rcases Nat.eq_zero_or_pos k with e | e
  ·rw [e, Nat.zero_mul] at hk; omega
  ·exact e
 have hl : (Cv.mk (tab h 0 (s' + r)) r b).vals.length = s' + r := tab_length _ _ _
 have hpn : (Cv.mk (tab h 0 (s' + r)) r b).per.toNat = r := Int.toNat_natCast r
 refine ⟨⟨tab h 0 (s' + r), r, b⟩, ⟨by show (1 : Int) ≤ r; omega, by rw [hl]; show (r : Int) ≤ _; omega, ?_, ?_, ?_, ?_, fun t ht => hne t (by rw [hl] at ht; omega)⟩, by rw [hl]; omega, by show (r : Int) ≤ p; omega⟩
 ·intro t ht
  rw [hl] at ht
  show nth (tab h 0 (s' + r)) t = _
  rw [tab_nth _ _ _ _ ht, Nat.zero_add]
 ·rw [hl, hpn, Nat.add_sub_cancel]; exact hs2
 ·rw [hpn]; exact fun q s'' b h1 h2 => hle q s'' b h1 h2
 ·rw [hl, hpn, Nat.add_sub_cancel]
  by_cases e0 : s' = 0
  ·left; omega
  ·right
   intro e
   apply hs3 (s' - 1) (by omega)
   refine ⟨by omega, fun t ht => ?_⟩
   by_cases et : t = s' - 1
   ·rw [et]
    show h (s' - 1 + r) = h (s' - 1) + b
    have e' : h (s' - 1) + b = h (s' + r - 1) := e
    rw [e', show s' - 1 + r = s' + r - 1 by omega]
   ·exact hs2 t (by omega)
/-! ### Operations on two curves -/
open Classical in
noncomputable def sumV (a b : Cv) (t : Nat) : Int := if a.infAt t ∨ b.infAt t then inf else a.at t + b.at t
def pl (a b : Int) : Int := if a = inf ∨ b = inf then inf else a + b
theorem sumV_pl {a b : Cv} (ha : a.Ok) (hb : b.Ok) {t : Nat} (ht : t ≤ 4000000000) : sumV a b t = pl (a.at t) (b.at t) := by
 unfold sumV pl
 have h1 := ha.at_bd ht; have h2 := hb.at_bd ht
 have e1 : a.infAt t ↔ a.at t = inf := ⟨fun h => h.2, h1.2.2⟩
 have e2 : b.infAt t ↔ b.at t = inf := ⟨fun h => h.2, h2.2.2⟩
 simp only [e1, e2]
def PairS (S : Cv → Cv → Cv → Int → Prop) (f g r : Cv) (er : Int) : Prop :=
 (¬ (f.Ok ∧ g.Ok) ∧ r = Cv.none ∧ er = 1) ∨
 (f.Ok ∧ g.Ok ∧ ∃ a b, NF f.at a ∧ NF g.at b ∧ ((120 < comm a.per.toNat b.per.toNat ∧ r = Cv.none ∧ er = 3) ∨ (comm a.per.toNat b.per.toNat ≤ 120 ∧ S a b r er)))
theorem PairS.unique {S : Cv → Cv → Cv → Int → Prop} (hS : ∀ {a b r r' : Cv} {e e' : Int}, S a b r e → S a b r' e' → r = r' ∧ e = e') {f g r r' : Cv} {e e' : Int} (h : PairS S f g r e) (k : PairS S f g r' e') : r = r' ∧ e = e' := by
 rcases h with ⟨h0, rfl, rfl⟩ | ⟨hf, hg, a, b, ha, hb, h⟩ <;> rcases k with ⟨k0, rfl, rfl⟩ | ⟨kf, kg, a', b', ka, kb, k⟩
 ·exact ⟨rfl, rfl⟩
 ·exact absurd ⟨kf, kg⟩ h0
 ·exact absurd ⟨hf, hg⟩ k0
 ·obtain rfl := ha.unique ka
  obtain rfl := hb.unique kb
  rcases h with ⟨h1, rfl, rfl⟩ | ⟨h1, h⟩ <;> rcases k with ⟨k1, rfl, rfl⟩ | ⟨k1, k⟩
  ·exact ⟨rfl, rfl⟩
  ·omega
  ·omega
  ·exact hS h k
def SumS : Cv → Cv → Cv → Int → Prop := PairS fun a b r er => MadeS (sumV a b) r er
theorem NF.inf_iff {f a : Cv} (hf : f.Ok) (h : NF f.at a) (t : Nat) : a.infAt t ↔ f.infAt t := by
 have h1 := nf_small hf h
 unfold Cv.infAt
 rw [h.at t, h1.2.2.2.2]
theorem ite_iff {p q : Prop} (ip : Decidable p) (iq : Decidable q) (h : p ↔ q) {x y : Int} : (if p then x else y) = if q then x else y := by
 by_cases hq : q
 ·rw [if_pos hq, if_pos (h.2 hq)]
 ·rw [if_neg hq, if_neg (fun k => hq (h.1 k))]
theorem sumV_nf {f g a b : Cv} (hf : f.Ok) (hg : g.Ok) (ha : NF f.at a) (hb : NF g.at b) : sumV a b = sumV f g := by
 funext t
 unfold sumV
 rw [ha.at, hb.at]
 exact ite_iff _ _ (or_congr (ha.inf_iff hf t) (hb.inf_iff hg t))
theorem Cv.Ok.last_fin {a : Cv} (ha : a.Ok) {t : Nat} (h0 : ¬ a.infAt t) (h1 : a.infAt (t + 1)) : t < 400 := by
 have hn := ha.n2
 rcases Nat.lt_or_ge t 400 with h | h
 ·exact h
 ·exact absurd ⟨h1.1, ha.at_inf h1.1 (by omega)⟩ h0
theorem Cv.Ok.fin_bd {a : Cv} (ha : a.Ok) {t : Nat} (h0 : ¬ a.infAt t) (ht : t < 400) : 0 ≤ a.at t ∧ a.at t ≤ 430570471424 := by
 refine ⟨ha.up0.nn t, ?_⟩
 rcases ha.fin_or with h | h
 ·have := (h.at_bd t).2
  have h2 : (t : Int) * 1073741824 ≤ 400 * 1073741824 := Int.mul_le_mul_of_nonneg_right (by omega) (by omega)
  omega
 ·have hlt : t < a.vals.length := by
   rcases Nat.lt_or_ge t a.vals.length with h' | h'
   ·exact h'
   ·exact absurd ⟨h, ha.at_inf h (by omega)⟩ h0
  have h2 := (okv_iff _).1 (ha.v t hlt)
  rw [Cv.at_lt hlt]
  rcases h2 with h2 | h2
  ·exact absurd ⟨h, by rw [Cv.at_lt hlt]; exact h2⟩ h0
  ·omega
theorem sumV_up {a b : Cv} (ha : a.Ok) (hb : b.Ok) : Up0 (sumV a b) := by
 refine ⟨?_, fun t => ?_⟩
 ·unfold sumV
  split
  ·unfold inf; omega
  ·have h1 := ha.up0.z; have h2 := hb.up0.z; omega
 ·unfold sumV
  by_cases h2 : a.infAt (t + 1) ∨ b.infAt (t + 1)
  ·rw [if_pos h2]
   split
   ·exact Int.le_refl _
   ·rename_i h1
    have h0 : ¬ a.infAt t ∧ ¬ b.infAt t := not_or.1 h1
    have ht : t < 400 := by
     rcases h2 with h2 | h2
     ·exact ha.last_fin h0.1 h2
     ·exact hb.last_fin h0.2 h2
    have := ha.fin_bd h0.1 ht; have := hb.fin_bd h0.2 ht
    unfold inf; omega
  ·have h1 : ¬ (a.infAt t ∨ b.infAt t) := fun h => h2 (h.imp (fun h => h.later ha (by omega)) (fun h => h.later hb (by omega)))
   rw [if_neg h1, if_neg h2]
   have := ha.at_mono t; have := hb.at_mono t
   omega
/-! ### Values that are laid out in a list -/
/-! ### The sum of two curves -/
theorem Cv.Fin.add_ne {a b : Cv} (ha : a.Fin) (hb : b.Fin) {t : Nat} (ht : t ≤ 1000000) : a.at t + b.at t ≠ inf := by
 have h1 := ha.at_bd t; have h2 := hb.at_bd t
 have h3 : (t : Int) * 1073741824 ≤ 1000000 * 1073741824 := Int.mul_le_mul_of_nonneg_right (by omega) (by omega)
 unfold inf; omega
theorem sumV_fin {a b : Cv} (ha : a.Fin) (hb : b.Fin) (t : Nat) : sumV a b t = a.at t + b.at t := by
 unfold sumV
 rw [if_neg (by rintro (h | h); exact ha.not_infAt t h; exact hb.not_infAt t h)]
theorem sumV_inf {a b : Cv} {t : Nat} (h : a.infAt t ∨ b.infAt t) : sumV a b t = inf := by unfold sumV; rw [if_pos h]
theorem sumV_small {a b : Cv} (ha : a.Ok) (hb : b.Ok) {t : Nat} (ht : t ≤ 1000000) : 0 ≤ sumV a b t ∧ sumV a b t ≤ 4611686018427387904 := by
 by_cases h : a.infAt t ∨ b.infAt t
 ·rw [sumV_inf h]; unfold inf; omega
 ·rw [not_or] at h
  unfold sumV
  rw [if_neg (by rintro (h' | h'); exact h.1 h'; exact h.2 h')]
  have key : ∀ {c : Cv}, c.Ok → ¬ c.infAt t → 0 ≤ c.at t ∧ c.at t ≤ 1073741824 + 1000000 * 1073741824 := by
   intro c hc h0
   rcases hc.fin_or with h' | h'
   ·have h1 := h'.at_bd t
    have h2 : (t : Int) * 1073741824 ≤ 1000000 * 1073741824 := Int.mul_le_mul_of_nonneg_right (by omega) (by omega)
    omega
   ·have hlt : t < 400 := by
     rcases Nat.lt_or_ge t 400 with hh | hh
     ·exact hh
     ·exact absurd ⟨h', hc.at_inf h' (by have := hc.n2; omega)⟩ h0
    have := hc.fin_bd h0 hlt
    omega
  have h1 := key ha h.1; have h2 := key hb h.2
  omega
theorem sumV_later {a b : Cv} (ha : a.Ok) (hb : b.Ok) {m t : Nat} (hm : m ≤ 1000000) (h : sumV a b m = inf) (hmt : m ≤ t) : (a.infAt t ∨ b.infAt t) := by
 have h0 : a.infAt m ∨ b.infAt m := by
  by_cases hx : a.infAt m ∨ b.infAt m
  ·exact hx
  ·exfalso
   have h1 := sumV_small ha hb hm
   rw [not_or] at hx
   rw [sumV_pl ha hb (by omega)] at h
   unfold pl at h
   have e1 : a.at m ≠ inf := fun e => hx.1 ((ha.at_bd (by omega)).2.2 e)
   have e2 : b.at m ≠ inf := fun e => hx.2 ((hb.at_bd (by omega)).2.2 e)
   rw [if_neg (by rintro (e | e); exact e1 e; exact e2 e)] at h
   have key : ∀ {c : Cv}, c.Ok → ¬ c.infAt m → 0 ≤ c.at m ∧ c.at m ≤ 1073741824 + 1000000 * 1073741824 := by
    intro c hc h0
    rcases hc.fin_or with h' | h'
    ·have h1 := h'.at_bd m
     have h2 : (m : Int) * 1073741824 ≤ 1000000 * 1073741824 := Int.mul_le_mul_of_nonneg_right (by omega) (by omega)
     omega
    ·have hlt : m < 400 := by
      rcases Nat.lt_or_ge m 400 with hh | hh
      ·exact hh
      ·exact absurd ⟨h', hc.at_inf h' (by have := hc.n2; omega)⟩ h0
     have := hc.fin_bd h0 hlt
     omega
   have h3 := key ha hx.1; have h4 := key hb hx.2
   unfold inf at h
   omega
 exact h0.imp (fun h => h.later ha hmt) (fun h => h.later hb hmt)
theorem sum_per {a b : Cv} (ha : a.Ok) (hb : b.Ok) {s c : Nat} (h1 : a.vals.length - a.per.toNat ≤ s) (h2 : b.vals.length - b.per.toNat ≤ s) (hc : c = comm a.per.toNat b.per.toNat) (hne : ∀ j, j < s + c → sumV a b j ≠ inf) :
 a.Fin ∧ b.Fin ∧ Per (sumV a b) s c ((c / a.per.toNat : Nat) * a.inc + (c / b.per.toNat : Nat) * b.inc) := by
 have hp := ha.p1; have hq := hb.p1
 have hk := comm_facts (p := a.per.toNat) (q := b.per.toNat) (by omega) (by omega)
 rw [← hc] at hk
 have key : ∀ {d : Cv}, d.Ok → d.vals.length - d.per.toNat ≤ s → ¬ d.infAt s → d.Fin := by
  intro d hd h h0
  rcases hd.fin_or with h' | h'
  ·exact h'
  ·exact absurd (hd.infAt_start h' h) h0
 have hs : ¬ (a.infAt s ∨ b.infAt s) := fun h => hne s (by omega) (sumV_inf h)
 rw [not_or] at hs
 have fa := key ha h1 hs.1
 have fb := key hb h2 hs.2
 refine ⟨fa, fb, fun t ht => ?_⟩
 rw [sumV_fin fa fb, sumV_fin fa fb]
 have e1 := fa.toL.step.mul (c / a.per.toNat) t (by omega)
 have e2 := fb.toL.step.mul (c / b.per.toNat) t (by omega)
 rw [← hk.1] at e1
 rw [← hk.2.1] at e2
 omega
def cst (f : Cv) : Nat := f.vals.length - f.per.toNat
def gnl (h : Cv) (l : Nat) : Int := ((l / h.per.toNat : Nat) : Int) * h.inc
section
variable {a : Cv}
theorem cst_le (ha : a.Ok) : cst a ≤ 400 := by have := ha.n2; unfold cst; omega
theorem notfin_inf (ha : a.Ok) (h : ¬ a.Fin) : nth a.vals (a.vals.length - 1) = inf := ha.fin_or.resolve_left h
theorem nfa_at (ha : a.Ok) {t : Nat} (ht : t ≤ 4000000000) : a.at t = inf ↔ a.infAt t := ⟨(ha.at_bd ht).2.2, fun h => h.2⟩
theorem fin_at_ne (fa : a.Fin) {t : Nat} (ht : t ≤ 4000000000) : a.at t ≠ inf := fun e => fa.not_infAt t ((nfa_at fa.1 ht).1 e)
end
end
section
def LEC (f g : Cv) : Prop := ∀ n, g.infAt n ∨ (¬ f.infAt n ∧ f.at n ≤ g.at n)
theorem LEC.up {f g : Cv} (h : LEC f g) (n : Nat) : ¬ Up f g n := fun hu => by
 rcases h n with h | ⟨h1, h2⟩
 ·exact hu.1 h
 ·rcases hu.2 with h3 | h3
  ·exact h1 h3
  ·omega
theorem LEC.of {f g : Cv} (h : ∀ n, ¬ Up f g n) : LEC f g := fun n => by
 by_cases hg : g.infAt n
 ·exact .inl hg
 ·refine .inr ⟨fun hf => h n ⟨hg, .inl hf⟩, ?_⟩
  by_cases hl : f.at n ≤ g.at n
  ·exact hl
  ·exact absurd ⟨hg, .inr (by omega)⟩ (h n)
end
end Go.Proofs.YtaejfleahamapaaGreat
