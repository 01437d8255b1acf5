/- Plain words on lists of numbers and on curves; nothing of the program. -/
namespace Go.Proofs.Ythdibkmjoiipgaa
set_option linter.unusedVariables false

/-- the k-th number of a list; a name that the walk does not open -/
def nth (zs : List Int) (k : Nat) : Int := zs.getD k 0

/-- the infinite value; a name that the walk does not open -/
def inf : Int := 4611686018427387904

/-- a curve as data -/
structure Cv where
  vals : List Int
  per : Int
  inc : Int

/-- no curve -/
def Cv.none : Cv := ⟨[], 0, 0⟩

/-- the value at a tick -/
def Cv.at (f : Cv) (t : Nat) : Int :=
  if t < f.vals.length then nth f.vals t
  else if nth f.vals (t - ((t - f.vals.length) / f.per.toNat + 1) * f.per.toNat) = inf then inf
  else nth f.vals (t - ((t - f.vals.length) / f.per.toNat + 1) * f.per.toNat) + (((t - f.vals.length) / f.per.toNat + 1 : Nat) : Int) * f.inc

/-- a value that a curve may list -/
def okv (x : Int) : Bool := x == inf || decide (x ≤ 1073741824)

theorem okv_iff (x : Int) : okv x = true ↔ x = inf ∨ x ≤ 1073741824 := by simp [okv]

/-- a valid curve -/
structure Cv.Ok (f : Cv) : Prop where
  n1 : 1 ≤ f.vals.length
  n2 : f.vals.length ≤ 400
  p1 : 1 ≤ f.per
  p2 : f.per ≤ 120
  pn : f.per ≤ f.vals.length
  i1 : 0 ≤ f.inc
  i2 : f.inc ≤ 1073741824
  v : ∀ k, k < f.vals.length → okv (nth f.vals k) = true
  z : 0 ≤ nth f.vals 0
  mono : ∀ k, k + 1 < f.vals.length → nth f.vals k ≤ nth f.vals (k + 1)
  last : nth f.vals (f.vals.length - 1) = inf → f.per = 1 ∧ f.inc = 0
  wrap : nth f.vals (f.vals.length - 1) ≠ inf → nth f.vals (f.vals.length - 1) ≤ nth f.vals (f.vals.length - f.per.toNat) + f.inc

open Classical in
noncomputable def Cv.okB (f : Cv) : Bool := decide f.Ok
theorem Cv.okB_true {f : Cv} (h : f.Ok) : f.okB = true := by simp [Cv.okB, h]
theorem Cv.okB_false {f : Cv} (h : ¬ f.Ok) : f.okB = false := by simp [Cv.okB, h]
theorem Cv.okB_iff {f : Cv} : f.okB = true ↔ f.Ok := by simp [Cv.okB]

theorem nth_set (zs : List Int) (k j : Nat) (x : Int) (h : k < zs.length) : nth (zs.set k x) j = if j = k then x else nth zs j := by
  unfold nth
  by_cases e : j = k
  · subst e; simp [h]
  · rw [if_neg e]; simp [Ne.symm e]
theorem nth_replicate (n j : Nat) : nth (List.replicate n 0) j = 0 := by
  unfold nth
  by_cases h : j < n <;> simp [h]
theorem nth_out (zs : List Int) (k : Nat) (hk : zs.length ≤ k) : nth zs k = 0 := by simp [nth, hk]
theorem list_ext {xs ys : List Int} (hl : xs.length = ys.length) (h : ∀ k, k < xs.length → nth xs k = nth ys k) : xs = ys := by
  apply List.ext_getElem hl
  intro k h1 h2
  have := h k h1
  simpa [nth, h1, h2] using this
theorem nth_drop (zs : List Int) (s k : Nat) : nth (zs.drop s) k = nth zs (s + k) := by simp [nth]
theorem nth_take (zs : List Int) (n k : Nat) (hk : k < n) : nth (zs.take n) k = nth zs k := by simp [nth, hk]
theorem nth_append (xs ys : List Int) (k : Nat) : nth (xs ++ ys) k = if k < xs.length then nth xs k else nth ys (k - xs.length) := by
  unfold nth
  split
  · rename_i h; simp [List.getElem?_append_left h]
  · rename_i h; simp [List.getElem?_append_right (Nat.le_of_not_lt h)]

/-- so many values of a function from s on -/
def tab (h : Nat → Int) (s n : Nat) : List Int := (List.range n).map fun j => h (s + j)
theorem tab_length (h : Nat → Int) (s n : Nat) : (tab h s n).length = n := by simp [tab]
theorem tab_nth (h : Nat → Int) (s n k : Nat) (hk : k < n) : nth (tab h s n) k = h (s + k) := by simp [tab, nth, hk]
theorem eq_tab {zs : List Int} {h : Nat → Int} {s n : Nat} (hl : zs.length = n) (hz : ∀ j, j < n → nth zs j = h (s + j)) : zs = tab h s n :=
  list_ext (by rw [tab_length, hl]) (fun k hk => by rw [tab_nth _ _ _ _ (by omega), hz k (by omega)])

/-- what wave.checked returns -/
def chk (zs : List Int) (p i : Int) : Cv × Int := if zs.length ≤ 400 ∧ (∀ k, k < zs.length → okv (nth zs k) = true) then (⟨zs, p, i⟩, 0) else (Cv.none, 3)

/-- what wave.least tests of the position i -/
def LTi (zs : List Int) (inc : Int) (p i : Nat) : Prop :=
  if i + p < zs.length then nth zs (i + p) = nth zs i + inc * p / zs.length else nth zs (i + p - zs.length) + inc = nth zs i + inc * p / zs.length

/-- what wave.least tests of a period p -/
def LT (zs : List Int) (inc : Int) (p : Nat) : Prop :=
  ((zs.length : Int) % p = 0 ∧ inc * p % zs.length = 0) ∧ ∀ i, i < zs.length → LTi zs inc p i

/-- what wave.Build returns for the function h -/
def BuildS (h : Nat → Int) (s p : Nat) (i : Int) (f : Cv) (er : Int) : Prop :=
  (∃ m, m < s + p ∧ h m = inf ∧ (∀ j, j < m → h j ≠ inf) ∧ f = (chk (tab h 0 (m + 1)) 1 0).1 ∧ er = (chk (tab h 0 (m + 1)) 1 0).2) ∨
  ((∀ j, j < s + p → h j ≠ inf) ∧ ∃ q s' : Nat, 1 ≤ q ∧ q ≤ p ∧ (q = p ∨ LT (tab h s p) i q) ∧ (∀ r, 1 ≤ r → r < q → ¬ LT (tab h s p) i r) ∧ s' ≤ s ∧
    (∀ t, s' ≤ t → t < s → h t + i * q / p = h (t + q)) ∧ (s' = 0 ∨ h (s' - 1) + i * q / p ≠ h (s' - 1 + q)) ∧
    ((q ≤ 120 ∧ i * q / p ≤ 1073741824 ∧ f = (chk (tab h 0 (s' + q)) q (i * q / p)).1 ∧ er = (chk (tab h 0 (s' + q)) q (i * q / p)).2) ∨
      (¬ (q ≤ 120 ∧ i * q / p ≤ 1073741824) ∧ f = Cv.none ∧ er = 3)))

/-- the index into the last period -/
theorem idx_bd {t n p : Nat} (h1 : 1 ≤ p) (h2 : p ≤ n) (ht : n ≤ t) : ((t - n) / p + 1) * p ≤ t ∧ t - ((t - n) / p + 1) * p < n ∧ n ≤ t - ((t - n) / p + 1) * p + p := by
  have hd := Nat.div_add_mod (t - n) p
  have hm := Nat.mod_lt (t - n) (show 0 < p by omega)
  rw [Nat.add_mul, Nat.one_mul, Nat.mul_comm]
  generalize hq : p * ((t - n) / p) = q at *
  omega

theorem Cv.Ok.le {f : Cv} (h : f.Ok) : ∀ a b, a ≤ b → b < f.vals.length → nth f.vals a ≤ nth f.vals b := by
  intro a b hab hb
  induction b with
  | zero => rw [show a = 0 by omega]; exact Int.le_refl _
  | succ b ih =>
    by_cases e : a = b + 1
    · rw [e]; exact Int.le_refl _
    · exact Int.le_trans (ih (by omega) (by omega)) (h.mono b hb)
theorem Cv.Ok.nn {f : Cv} (h : f.Ok) (k : Nat) : 0 ≤ nth f.vals k ∧ nth f.vals k ≤ 4611686018427387904 := by
  by_cases hk : k < f.vals.length
  · have h1 := h.le 0 k (by omega) hk
    have h2 := h.z
    have h3 := (okv_iff _).1 (h.v k hk)
    unfold inf at h3
    omega
  · rw [nth_out _ _ (by omega)]; omega

/-- what curve.Value returns -/
noncomputable def Cv.value (f : Cv) (t : Int) : Int × Int := if f.okB = true then (if t < 0 ∨ 1048576 < t then (0, 2) else (f.at t.toNat, 0)) else (0, 1)

def eqL (xs ys : List Int) : Bool := decide (xs = ys)
theorem eqL_true {xs ys : List Int} (h : xs = ys) : eqL xs ys = true := by simp [eqL, h]
theorem eqL_false {xs ys : List Int} (h : xs ≠ ys) : eqL xs ys = false := by simp [eqL, h]

/-- two curves written alike -/
def Cv.same (f g : Cv) : Bool := eqL f.vals g.vals && f.per == g.per && f.inc == g.inc
theorem Cv.same_iff (f g : Cv) : Cv.same f g = true ↔ f = g := by
  cases f; cases g
  simp [Cv.same, eqL, and_assoc]

/-- valid and finite -/
noncomputable def Cv.finB (f : Cv) : Bool := f.okB && nth f.vals (f.vals.length - 1) != inf

/-- what curve.Normal returns, in the terms of wave.Build -/
def NormalS (f g : Cv) (er : Int) : Prop :=
  (f.okB = true ∧ BuildS f.at (f.vals.length - f.per.toNat) f.per.toNat f.inc g er) ∨ (f.okB = false ∧ g = Cv.none ∧ er = 1)

/-- no value is infinite -/
def Cv.Fin (f : Cv) : Prop := f.Ok ∧ nth f.vals (f.vals.length - 1) ≠ inf

theorem Cv.Fin.ne {f : Cv} (h : f.Fin) (k : Nat) (hk : k < f.vals.length) : nth f.vals k ≠ inf ∧ nth f.vals k ≤ 1073741824 := by
  have h1 := h.1.le k (f.vals.length - 1) (by omega) (by omega)
  have h2 := (okv_iff _).1 (h.1.v (f.vals.length - 1) (by have := h.1.n1; omega))
  have h3 : nth f.vals (f.vals.length - 1) ≤ 1073741824 := by
    rcases h2 with h2 | h2
    · exact absurd h2 h.2
    · exact h2
  unfold inf
  omega
theorem Cv.at_lt {f : Cv} {t : Nat} (h : t < f.vals.length) : f.at t = nth f.vals t := by unfold Cv.at; rw [if_pos h]
theorem Cv.Fin.at_ge {f : Cv} (h : f.Fin) {t : Nat} (ht : f.vals.length ≤ t) :
    f.at t = nth f.vals (t - ((t - f.vals.length) / f.per.toNat + 1) * f.per.toNat) + (((t - f.vals.length) / f.per.toNat + 1 : Nat) : Int) * f.inc := by
  have hp1 := h.1.p1; have hpn := h.1.pn
  have := idx_bd (t := t) (n := f.vals.length) (p := f.per.toNat) (by omega) (by omega) ht
  unfold Cv.at
  rw [if_neg (by omega), if_neg (h.ne _ this.2.1).1]
/-- behind the start a finite curve grows by its increment in each period -/
theorem Cv.Fin.step {f : Cv} (h : f.Fin) {t : Nat} (ht : f.vals.length ≤ t + f.per.toNat) : f.at (t + f.per.toNat) = f.at t + f.inc := by
  have hp1 := h.1.p1; have hpn := h.1.pn
  obtain ⟨p, hp⟩ : ∃ p, p = f.per.toNat := ⟨_, rfl⟩
  have hpp : 1 ≤ p := by omega
  rw [h.at_ge ht, ← hp]
  rw [← hp] at ht
  by_cases hlt : t < f.vals.length
  · rw [Cv.at_lt hlt, Nat.div_eq_of_lt (show t + p - f.vals.length < p by omega)]
    simp
  · rw [h.at_ge (by omega), ← hp]
    have e : (t + p - f.vals.length) / p = (t - f.vals.length) / p + 1 := by
      rw [show t + p - f.vals.length = (t - f.vals.length) + p by omega, Nat.add_div_right _ (by omega)]
    rw [e, show t + p - ((t - f.vals.length) / p + 1 + 1) * p = t - ((t - f.vals.length) / p + 1) * p by rw [Nat.add_mul _ 1 p]; omega]
    rw [show (((t - f.vals.length) / p + 1 + 1 : Nat) : Int) = (((t - f.vals.length) / p + 1 : Nat) : Int) + 1 by omega, Int.add_mul, Int.one_mul]
    omega
/-- behind its first infinite value a curve is infinite -/
theorem Cv.Ok.at_inf {f : Cv} (h : f.Ok) (hl : nth f.vals (f.vals.length - 1) = inf) {t : Nat} (ht : f.vals.length ≤ t + 1) : f.at t = inf := by
  have hp := (h.last hl).1
  have hn := h.n1
  by_cases hlt : t < f.vals.length
  · rw [Cv.at_lt hlt, show t = f.vals.length - 1 by omega]; exact hl
  · unfold Cv.at
    rw [if_neg hlt, hp, show (1 : Int).toNat = 1 from rfl, Nat.div_one, Nat.mul_one, show t - (t - f.vals.length + 1) = f.vals.length - 1 by omega, if_pos hl]

/-- what keep.Longer returns -/
def LongerS (f : Cv) (more times : Nat) (g : Cv) : Prop :=
  (nth f.vals (f.vals.length - 1) = inf ∧ g = f) ∨
  (f.Fin ∧ g.per = f.per * times ∧ g.inc = f.inc * times ∧ g.vals = tab f.at 0 (f.vals.length + (more + (times - 1) * f.per.toNat)))

theorem Cv.Fin.at_bd {f : Cv} (h : f.Fin) (t : Nat) : 0 ≤ f.at t ∧ f.at t ≤ 1073741824 + (t : Int) * 1073741824 := by
  by_cases hlt : t < f.vals.length
  · rw [Cv.at_lt hlt]
    have h1 := h.1.nn t
    have h2 := h.ne t hlt
    omega
  · have hp1 := h.1.p1; have hpn := h.1.pn; have hi1 := h.1.i1; have hi2 := h.1.i2
    have hx := idx_bd (t := t) (n := f.vals.length) (p := f.per.toNat) (by omega) (by omega) (by omega)
    rw [h.at_ge (by omega)]
    have h1 := h.1.nn (t - ((t - f.vals.length) / f.per.toNat + 1) * f.per.toNat)
    have h2 := h.ne _ hx.2.1
    generalize nth f.vals (t - ((t - f.vals.length) / f.per.toNat + 1) * f.per.toNat) = v at *
    have hk : (t - f.vals.length) / f.per.toNat + 1 ≤ t := by
      have := Nat.div_le_self (t - f.vals.length) f.per.toNat
      have := h.1.n1
      omega
    generalize (t - f.vals.length) / f.per.toNat + 1 = k at *
    have h3 : (k : Int) * f.inc ≤ (t : Int) * 1073741824 := Int.mul_le_mul (by omega) hi2 hi1 (by omega)
    have h4 : 0 ≤ (k : Int) * f.inc := Int.mul_nonneg (by omega) hi1
    omega
theorem g8a {α : Type} {xs : List α} {i : Nat} : xs.toArray[i]? = xs[i]? := List.getElem?_toArray
theorem g8s {α : Type} {a : α} {l : List α} {i : Nat} : (a :: l)[i + 1]? = l[i]? := List.getElem?_cons_succ
theorem g8z {α : Type} {a : α} {l : List α} : (a :: l)[0]? = some a := List.getElem?_cons_zero
theorem g8b {α : Type} {l : List α} {i : Nat} {a : α} : l.toArray.setIfInBounds i a = (l.set i a).toArray := by simp
theorem g8c {α : Type} {x : α} {xs : List α} {n : Nat} {a : α} : (x :: xs).set (n + 1) a = x :: xs.set n a := List.set_cons_succ
theorem g8d {α : Type} {x : α} {xs : List α} {a : α} : (x :: xs).set 0 a = a :: xs := List.set_cons_zero
end Go.Proofs.Ythdibkmjoiipgaa
