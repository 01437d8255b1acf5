/- Plain words: functions that are periodic behind a start, and their normal form. -/
import Derived.Test.YthdibkmjoiipgaaMath
namespace Go.Proofs.Ythdibkmjoiipgaa
set_option linter.unusedVariables false

/-- from s on the function grows by a in each p ticks -/
def Per (h : Nat → Int) (s p : Nat) (a : Int) : Prop := ∀ t, s ≤ t → h (t + p) = h t + a

theorem Per.mono {h : Nat → Int} {s s' p : Nat} {a : Int} (k : Per h s p a) (hs : s ≤ s') : Per h s' p a := fun t ht => k t (by omega)
theorem Per.mul {h : Nat → Int} {s p : Nat} {a : Int} (k : Per h s p a) (m : Nat) : Per h s (m * p) (m * a) := by
  intro t ht
  induction m with
  | zero => simp
  | succ m ih =>
    rw [Nat.add_mul, Nat.one_mul, ← Nat.add_assoc, k _ (by omega), ih, Int.natCast_add, Int.add_mul]
    omega

/-- a curve without infinite values, as far as its own values say -/
structure Cv.FinL (f : Cv) : Prop where
  p1 : 1 ≤ f.per
  pn : f.per ≤ f.vals.length
  ne : ∀ k, k < f.vals.length → nth f.vals k ≠ inf

theorem Cv.Fin.toL {f : Cv} (h : f.Fin) : f.FinL := ⟨h.1.p1, h.1.pn, fun k hk => (h.ne k hk).1⟩

theorem Cv.FinL.at_ge {f : Cv} (h : f.FinL) {t : Nat} (ht : f.vals.length ≤ t) :
    f.at t = nth f.vals (t - ((t - f.vals.length) / f.per.toNat + 1) * f.per.toNat) + (((t - f.vals.length) / f.per.toNat + 1 : Nat) : Int) * f.inc := by
  have hp1 := h.p1; have hpn := h.pn
  have := idx_bd (t := t) (n := f.vals.length) (p := f.per.toNat) (by omega) (by omega) ht
  unfold Cv.at
  rw [if_neg (by omega), if_neg (h.ne _ this.2.1)]
theorem Cv.FinL.step {f : Cv} (h : f.FinL) : Per f.at (f.vals.length - f.per.toNat) f.per.toNat f.inc := by
  intro t ht
  have hp1 := h.p1; have hpn := h.pn
  obtain ⟨p, hp⟩ : ∃ p, p = f.per.toNat := ⟨_, rfl⟩
  have hpp : 1 ≤ p := by omega
  rw [h.at_ge (by omega), ← hp]
  rw [← hp] at ht
  by_cases hlt : t < f.vals.length
  · rw [Cv.at_lt hlt, Nat.div_eq_of_lt (show t + p - f.vals.length < p by omega)]
    simp
  · rw [h.at_ge (by omega), ← hp]
    have e : (t + p - f.vals.length) / p = (t - f.vals.length) / p + 1 := by
      rw [show t + p - f.vals.length = (t - f.vals.length) + p by omega, Nat.add_div_right _ (by omega)]
    rw [e, show t + p - ((t - f.vals.length) / p + 1 + 1) * p = t - ((t - f.vals.length) / p + 1) * p by rw [Nat.add_mul _ 1 p]; omega]
    rw [show (((t - f.vals.length) / p + 1 + 1 : Nat) : Int) = (((t - f.vals.length) / p + 1 : Nat) : Int) + 1 by omega, Int.add_mul, Int.one_mul]
    omega
/-- the values and the step say all -/
theorem Cv.FinL.unique {f : Cv} (hf : f.FinL) {h : Nat → Int} (h0 : ∀ t, t < f.vals.length → nth f.vals t = h t) (h1 : Per h (f.vals.length - f.per.toNat) f.per.toNat f.inc) (t : Nat) : f.at t = h t := by
  have hp1 := hf.p1; have hpn := hf.pn
  induction t using Nat.strongRecOn with
  | _ t ih =>
    by_cases hlt : t < f.vals.length
    · rw [Cv.at_lt hlt, h0 t hlt]
    · obtain ⟨u, rfl⟩ : ∃ u, t = u + f.per.toNat := ⟨t - f.per.toNat, by omega⟩
      rw [hf.step u (by omega), h1 u (by omega), ih u (by omega)]
theorem Cv.FinL.at_ne {f : Cv} (hf : f.FinL) (hv : ∀ k, k < f.vals.length → nth f.vals k ≤ 1073741824) (hi : f.inc ≤ 1073741824) (hi0 : 0 ≤ f.inc) (t : Nat) (ht : t ≤ 1000000000) : f.at t ≠ inf := by
  have hp1 := hf.p1; have hpn := hf.pn
  by_cases hlt : t < f.vals.length
  · rw [Cv.at_lt hlt]; exact hf.ne t hlt
  · rw [hf.at_ge (by omega)]
    have hx := idx_bd (t := t) (n := f.vals.length) (p := f.per.toNat) (by omega) (by omega) (by omega)
    have h1 := hv _ hx.2.1
    have hk : (t - f.vals.length) / f.per.toNat + 1 ≤ t + 1 := by
      have := Nat.div_le_self (t - f.vals.length) f.per.toNat; omega
    generalize (t - f.vals.length) / f.per.toNat + 1 = k at *
    have h2 : (k : Int) * f.inc ≤ (1000000001 : Int) * 1073741824 := Int.mul_le_mul (by omega) hi hi0 (by omega)
    unfold inf
    omega

/-- the values of a valid curve do not decrease -/
theorem Cv.Ok.at_mono {f : Cv} (h : f.Ok) (t : Nat) : f.at t ≤ f.at (t + 1) := by
  by_cases hl : nth f.vals (f.vals.length - 1) = inf
  · by_cases ht : f.vals.length ≤ t + 1 + 1
    · rw [h.at_inf hl (t := t + 1) (by omega)]
      by_cases hlt : t < f.vals.length
      · rw [Cv.at_lt hlt]; exact (h.nn t).2
      · rw [h.at_inf hl (by omega)]; exact Int.le_refl _
    · rw [Cv.at_lt (by omega), Cv.at_lt (by omega)]; exact h.mono t (by omega)
  · have hF : f.Fin := ⟨h, hl⟩
    have hp1 := h.p1; have hpn := h.pn
    induction t using Nat.strongRecOn with
    | _ t ih =>
      by_cases h1 : t + 1 < f.vals.length
      · rw [Cv.at_lt h1, Cv.at_lt (by omega)]; exact h.mono t h1
      · by_cases h2 : t + 1 = f.vals.length
        · rw [h2, show f.vals.length = (f.vals.length - f.per.toNat) + f.per.toNat by omega, hF.toL.step _ (by omega)]
          rw [Cv.at_lt (by omega), Cv.at_lt (by omega), show t = f.vals.length - 1 by omega]
          exact h.wrap hl
        · obtain ⟨u, rfl⟩ : ∃ u, t = u + f.per.toNat := ⟨t - f.per.toNat, by omega⟩
          rw [show u + f.per.toNat + 1 = (u + 1) + f.per.toNat by omega, hF.toL.step _ (by omega), hF.toL.step _ (by omega)]
          have := ih u (by omega)
          omega
theorem Cv.Ok.at_le {f : Cv} (h : f.Ok) {t u : Nat} (htu : t ≤ u) : f.at t ≤ f.at u := by
  induction u with
  | zero => rw [show t = 0 by omega]; exact Int.le_refl _
  | succ u ih =>
    by_cases e : t = u + 1
    · rw [e]; exact Int.le_refl _
    · exact Int.le_trans (ih (by omega)) (h.at_mono u)

/-! ### The normal form -/
/-- g is the normal form of a function without infinite values -/
structure NFin (h : Nat → Int) (g : Cv) : Prop where
  p1 : 1 ≤ g.per
  pn : g.per ≤ g.vals.length
  vals : ∀ t, t < g.vals.length → nth g.vals t = h t
  per : Per h (g.vals.length - g.per.toNat) g.per.toNat g.inc
  least : ∀ (q s : Nat) (b : Int), 1 ≤ q → Per h s q b → g.per.toNat ≤ q
  start : g.vals.length = g.per.toNat ∨ h (g.vals.length - g.per.toNat - 1) + g.inc ≠ h (g.vals.length - 1)
  fin : ∀ t, t < g.vals.length → h t ≠ inf
/-- g is the normal form of a function that is infinite from some tick on -/
structure NInf (h : Nat → Int) (g : Cv) : Prop where
  p1 : g.per = 1
  i0 : g.inc = 0
  n1 : 1 ≤ g.vals.length
  vals : ∀ t, t < g.vals.length → nth g.vals t = h t
  before : ∀ t, t + 1 < g.vals.length → h t ≠ inf
  from_ : ∀ t, g.vals.length ≤ t + 1 → h t = inf
def NF (h : Nat → Int) (g : Cv) : Prop := NFin h g ∨ NInf h g

theorem cv_ext {f g : Cv} (h1 : f.vals = g.vals) (h2 : f.per = g.per) (h3 : f.inc = g.inc) : f = g := by
  cases f; cases g; simp_all

theorem NFin.len_le {h : Nat → Int} {f g : Cv} (a : NFin h f) (b : NFin h g) (hp : f.per = g.per) (hi : f.inc = g.inc) : g.vals.length ≤ f.vals.length := by
  rcases Nat.lt_or_ge f.vals.length g.vals.length with hlt | hge
  · exfalso
    have := a.pn; have := a.p1
    rcases b.start with hs | hs
    · omega
    · apply hs
      have := a.per (g.vals.length - g.per.toNat - 1) (by omega)
      rw [← hi, ← this]
      congr 1
      omega
  · exact hge

theorem NFin.not_inf {h : Nat → Int} {f g : Cv} (a : NFin h f) (b : NInf h g) : False := by
  have hp1 := a.p1; have hpn := a.pn
  have h1 := a.per.mul g.vals.length (f.vals.length - 1) (by omega)
  have h2 := a.per.mul (g.vals.length + 1) (f.vals.length - 1) (by omega)
  have hle : g.vals.length ≤ g.vals.length * f.per.toNat := Nat.le_mul_of_pos_right _ (by omega)
  rw [b.from_ _ (by omega)] at h1
  rw [b.from_ _ (by rw [Nat.add_mul]; omega), Int.natCast_add, Int.add_mul] at h2
  apply a.fin (f.vals.length - 1) (by omega)
  have hi : f.inc = 0 := by omega
  rw [hi] at h1
  omega

theorem NF.unique {h : Nat → Int} {f g : Cv} (a : NF h f) (b : NF h g) : f = g := by
  rcases a with a | a <;> rcases b with b | b
  · have hp : f.per = g.per := by
      have h1 := a.least _ _ _ (by have := b.p1; omega) b.per
      have h2 := b.least _ _ _ (by have := a.p1; omega) a.per
      have := a.p1; have := b.p1
      omega
    have hi : f.inc = g.inc := by
      have h1 := a.per (f.vals.length + g.vals.length) (by omega)
      have h2 := b.per (f.vals.length + g.vals.length) (by omega)
      rw [hp] at h1
      omega
    have hn := Nat.le_antisymm (b.len_le a hp.symm hi.symm) (a.len_le b hp hi)
    exact cv_ext (list_ext hn (fun k hk => by rw [a.vals k hk, b.vals k (by omega)])) hp hi
  · exact (a.not_inf b).elim
  · exact (b.not_inf a).elim
  · have hn : f.vals.length = g.vals.length := by
      have := a.n1; have := b.n1
      rcases Nat.lt_trichotomy f.vals.length g.vals.length with e | e | e
      · exact absurd (a.from_ (f.vals.length - 1) (by omega)) (b.before _ (by omega))
      · exact e
      · exact absurd (b.from_ (g.vals.length - 1) (by omega)) (a.before _ (by omega))
    exact cv_ext (list_ext hn (fun k hk => by rw [a.vals k hk, b.vals k (by omega)])) (by rw [a.p1, b.p1]) (by rw [a.i0, b.i0])

/-- a normal form has the function's values -/
theorem NF.at {h : Nat → Int} {g : Cv} (a : NF h g) (t : Nat) : g.at t = h t := by
  rcases a with a | a
  · exact Cv.FinL.unique ⟨a.p1, a.pn, fun k hk => by rw [a.vals k hk]; exact a.fin k hk⟩ a.vals a.per t
  · by_cases hlt : t < g.vals.length
    · rw [Cv.at_lt hlt, a.vals t hlt]
    · rw [a.from_ t (by omega)]
      unfold Cv.at
      have hn := a.n1
      rw [if_neg hlt, a.p1, show (1 : Int).toNat = 1 from rfl, Nat.div_one, Nat.mul_one, show t - (t - g.vals.length + 1) = g.vals.length - 1 by omega, a.vals _ (by omega), a.from_ _ (by omega), if_pos rfl]

/-! ### The least period -/
theorem nat_least {Q : Nat → Prop} (h : ∃ n, Q n) : ∃ n, Q n ∧ ∀ m, m < n → ¬ Q m := by
  obtain ⟨n, hn⟩ := h
  induction n using Nat.strongRecOn with
  | _ n ih =>
    by_cases hm : ∃ m, m < n ∧ Q m
    · obtain ⟨m, h1, h2⟩ := hm
      exact ih m h1 h2
    · exact ⟨n, hn, fun m h1 h2 => hm ⟨m, h1, h2⟩⟩

theorem ediv_mul {a b : Int} {k : Nat} (hk : 1 ≤ k) (h : a = k * b) : a / k = b := by
  subst h
  exact Int.mul_ediv_cancel_left _ (by omega)

/-- what wave.least tests is a period from s on -/
theorem LT.per {h : Nat → Int} {s p r : Nat} {i : Int} (hp : 1 ≤ p) (H : Per h s p i) (hl : LT (tab h s p) i r) (hr : r ≤ p) : Per h s r (i * r / p) := by
  have hlen := tab_length h s p
  have hb : ∀ j, j < p → h (s + j + r) = h (s + j) + i * r / p := by
    intro j hj
    have := hl.2 j (by rw [hlen]; exact hj)
    unfold LTi at this
    rw [hlen, tab_nth _ _ _ _ hj] at this
    by_cases e : j + r < p
    · rw [if_pos e, tab_nth _ _ _ _ e, ← Nat.add_assoc] at this
      exact this
    · rw [if_neg e, tab_nth _ _ _ _ (by omega)] at this
      rw [← this, ← H _ (by omega)]
      congr 1
      omega
  intro t ht
  obtain ⟨u, rfl⟩ : ∃ u, t = s + u := ⟨t - s, by omega⟩
  have hu := Nat.div_add_mod u p
  have hm := Nat.mod_lt u (show 0 < p by omega)
  have e1 : s + u = s + u % p + (u / p) * p := by rw [Nat.mul_comm]; omega
  have e2 : s + u + r = s + u % p + r + (u / p) * p := by omega
  rw [e2, H.mul (u / p) _ (by omega), e1, H.mul (u / p) _ (by omega), hb _ hm]
  omega

theorem LT.of_per {h : Nat → Int} {s p r : Nat} {i b : Int} (hp : 1 ≤ p) (hr : 1 ≤ r) (H : Per h s p i) (hR : Per h s r b) (k : Nat) (hk : p = k * r) (hb : i = k * b) : LT (tab h s p) i r := by
  have hlen := tab_length h s p
  have hk1 : 1 ≤ k := by
    rcases Nat.eq_zero_or_pos k with e | e
    · rw [e, Nat.zero_mul] at hk; omega
    · exact e
  have hdiv : i * r / p = b := by
    have : i * (r : Int) = (p : Int) * b := by
      rw [hb, hk, Int.natCast_mul, Int.mul_assoc, Int.mul_assoc, Int.mul_comm b]
    rw [this]
    exact Int.mul_ediv_cancel_left _ (by omega)
  refine ⟨⟨?_, ?_⟩, fun j hj => ?_⟩
  · rw [hlen, hk, Int.natCast_mul]; exact Int.mul_emod_left _ _
  · have : i * (r : Int) = (p : Int) * b := by
      rw [hb, hk, Int.natCast_mul, Int.mul_assoc, Int.mul_assoc, Int.mul_comm b]
    rw [hlen, this]
    exact Int.mul_emod_right _ _
  · rw [hlen] at hj
    have hrp : r ≤ p := by rw [hk]; exact Nat.le_mul_of_pos_left _ hk1
    unfold LTi
    rw [hlen, tab_nth _ _ _ _ hj, hdiv]
    by_cases e : j + r < p
    · rw [if_pos e, tab_nth _ _ _ _ e, ← Nat.add_assoc, hR _ (by omega)]
    · rw [if_neg e, tab_nth _ _ _ _ (by omega), ← H _ (by omega), ← hR _ (by omega)]
      congr 1
      omega

/-- the least of all periods divides, and holds from the same start on -/
theorem per_least {h : Nat → Int} {s p : Nat} {i : Int} (hp : 1 ≤ p) (H : Per h s p i) :
    ∃ (r k : Nat) (b : Int), 1 ≤ r ∧ p = k * r ∧ i = k * b ∧ Per h s r b ∧ ∀ (q s' : Nat) (b' : Int), 1 ≤ q → Per h s' q b' → r ≤ q := by
  obtain ⟨r, ⟨hr1, s1, b, hb⟩, hmin⟩ := nat_least (Q := fun r => 1 ≤ r ∧ ∃ s' b, Per h s' r b) ⟨p, hp, s, i, H⟩
  have hle : ∀ (q s' : Nat) (b' : Int), 1 ≤ q → Per h s' q b' → r ≤ q := by
    intro q s' b' h1 h2
    rcases Nat.lt_or_ge q r with e | e
    · exact absurd ⟨h1, s', b', h2⟩ (hmin q e)
    · exact e
  have hd := Nat.div_add_mod p r
  have hm := Nat.mod_lt p (show 0 < r by omega)
  have hz : p % r = 0 := by
    rcases Nat.eq_zero_or_pos (p % r) with e | e
    · exact e
    · exfalso
      have hper : Per h (max s s1) (p % r) (i - (p / r : Nat) * b) := by
        intro t ht
        have h1 := hb.mul (p / r) (t + p % r) (by omega)
        have h2 := H t (by omega)
        have e3 : t + p % r + p / r * r = t + p := by rw [Nat.mul_comm (p / r) r]; omega
        rw [e3, h2] at h1
        omega
      have := hle _ _ _ e hper
      omega
  have hpk : p = (p / r) * r := by rw [Nat.mul_comm]; omega
  have hik : i = (p / r : Nat) * b := by
    have h1 := hb.mul (p / r) (max s s1) (by omega)
    have h2 := H (max s s1) (by omega)
    rw [← hpk, h2] at h1
    omega
  refine ⟨r, p / r, b, hr1, hpk, hik, fun t ht => ?_, hle⟩
  have h1 := H.mul s1 t ht
  have h2 := H.mul s1 (t + r) (by omega)
  have h3 : s1 ≤ t + s1 * p := by
    have : s1 * 1 ≤ s1 * p := Nat.mul_le_mul_left _ hp
    omega
  have h4 := hb (t + s1 * p) h3
  rw [show t + s1 * p + r = t + r + s1 * p by omega] at h4
  rw [h2, h1] at h4
  omega

theorem least_is {h : Nat → Int} {s p q : Nat} {i : Int} (hp : 1 ≤ p) (H : Per h s p i) (hq1 : 1 ≤ q) (hqp : q ≤ p) (hq : q = p ∨ LT (tab h s p) i q) (hno : ∀ r, 1 ≤ r → r < q → ¬ LT (tab h s p) i r) :
    Per h s q (i * q / p) ∧ ∀ (r s' : Nat) (b : Int), 1 ≤ r → Per h s' r b → q ≤ r := by
  refine ⟨?_, ?_⟩
  · rcases hq with e | e
    · subst e
      rw [Int.mul_ediv_cancel _ (by omega)]
      exact H
    · exact e.per hp H hqp
  · obtain ⟨r, k, b, hr, hk, hb, hR, hle⟩ := per_least hp H
    intro r' s' b' h1 h2
    have h3 := hle r' s' b' h1 h2
    have h4 : ¬ r < q := fun e => hno r hr e (LT.of_per hp hr H hR k hk hb)
    omega

/-- within the limits of a curve -/
def Lim (g : Cv) : Prop := g.vals.length ≤ 400 ∧ (∀ k, k < g.vals.length → okv (nth g.vals k) = true) ∧ g.per ≤ 120 ∧ g.inc ≤ 1073741824

/-- what a function returns that makes the curve with the values h -/
def MadeS (h : Nat → Int) (f : Cv) (er : Int) : Prop := ∃ g, NF h g ∧ ((Lim g ∧ f = g ∧ er = 0) ∨ (¬ Lim g ∧ f = Cv.none ∧ er = 3))

theorem MadeS.unique {h : Nat → Int} {f f' : Cv} {e e' : Int} (a : MadeS h f e) (b : MadeS h f' e') : f = f' ∧ e = e' := by
  obtain ⟨g, hg, a⟩ := a
  obtain ⟨g', hg', b⟩ := b
  obtain rfl := hg.unique hg'
  rcases a with ⟨h1, rfl, rfl⟩ | ⟨h1, rfl, rfl⟩ <;> rcases b with ⟨h2, rfl, rfl⟩ | ⟨h2, rfl, rfl⟩
  · exact ⟨rfl, rfl⟩
  · exact absurd h1 h2
  · exact absurd h2 h1
  · exact ⟨rfl, rfl⟩

theorem chk_made {h : Nat → Int} {zs : List Int} {p i : Int} (hg : NF h ⟨zs, p, i⟩) (hp : p ≤ 120) (hi : i ≤ 1073741824) : MadeS h (chk zs p i).1 (chk zs p i).2 := by
  refine ⟨_, hg, ?_⟩
  unfold chk
  split
  · rename_i hc; exact .inl ⟨⟨hc.1, hc.2, hp, hi⟩, rfl, rfl⟩
  · rename_i hc; exact .inr ⟨fun hl => hc ⟨hl.1, hl.2.1⟩, rfl, rfl⟩

/-- what wave.Build returns is the normal form -/
theorem build_made {h : Nat → Int} {s p : Nat} {i : Int} {f : Cv} {er : Int} (hp : 1 ≤ p) (hinf : ∀ t u, t < s + p → t ≤ u → h t = inf → h u = inf)
    (hper : (∀ j, j < s + p → h j ≠ inf) → Per h s p i) (hb : BuildS h s p i f er) : MadeS h f er := by
  rcases hb with ⟨m, hm, hi, hlt, rfl, rfl⟩ | ⟨hfin, q, s', hq1, hqp, hq, hno, hss, hgood, hst, hres⟩
  · refine chk_made (.inr ⟨rfl, rfl, by rw [tab_length]; omega, ?_, ?_, ?_⟩) (by omega) (by omega)
    · intro t ht; rw [tab_length] at ht; rw [tab_nth _ _ _ _ ht, Nat.zero_add]
    · intro t ht; rw [tab_length] at ht; exact hlt t (by omega)
    · intro t ht; rw [tab_length] at ht; exact hinf m t hm (by omega) hi
  · have H := hper hfin
    obtain ⟨hq', hmin⟩ := least_is hp H hq1 hqp hq hno
    generalize i * q / p = st at *
    have hPs : Per h s' q st := by
      intro t ht
      by_cases e : t < s
      · exact (hgood t ht e).symm
      · exact hq' t (by omega)
    have hnf : NF h ⟨tab h 0 (s' + q), q, st⟩ := by
      have hl : (Cv.mk (tab h 0 (s' + q)) q st).vals.length = s' + q := tab_length _ _ _
      have hpn : (Cv.mk (tab h 0 (s' + q)) q st).per.toNat = q := Int.toNat_natCast q
      refine .inl ⟨by show (1 : Int) ≤ q; omega, by rw [hl]; show (q : Int) ≤ _; omega, ?_, ?_, ?_, ?_, fun t ht => hfin t (by rw [hl] at ht; omega)⟩
      · intro t ht
        rw [hl] at ht
        show nth (tab h 0 (s' + q)) t = _
        rw [tab_nth _ _ _ _ ht, Nat.zero_add]
      · rw [hl, hpn, Nat.add_sub_cancel]; exact hPs
      · rw [hpn]; exact fun r s'' b h1 h2 => hmin r s'' b h1 h2
      · rw [hl, hpn, Nat.add_sub_cancel]
        rcases hst with e | e
        · left; omega
        · by_cases e0 : s' = 0
          · left; omega
          · right
            show h (s' - 1) + st ≠ h (s' + q - 1)
            rw [show s' + q - 1 = s' - 1 + q by omega]
            exact e
    rcases hres with ⟨h1, h2, rfl, rfl⟩ | ⟨h1, rfl, rfl⟩
    · exact chk_made hnf (by omega) h2
    · refine ⟨_, hnf, .inr ⟨fun hl => h1 ⟨?_, hl.2.2.2⟩, rfl, rfl⟩⟩
      have : (q : Int) ≤ 120 := hl.2.2.1
      omega

theorem Cv.Ok.inf_from {f : Cv} (h : f.Ok) {t u : Nat} (ht : t < f.vals.length) (htu : t ≤ u) (hi : f.at t = inf) : f.at u = inf := by
  have hl : nth f.vals (f.vals.length - 1) = inf := by
    rw [Cv.at_lt ht] at hi
    have h1 := h.le t (f.vals.length - 1) (by omega) (by omega)
    have h2 := (h.nn (f.vals.length - 1)).2
    rw [hi] at h1
    unfold inf at *
    omega
  by_cases e : f.vals.length ≤ u + 1
  · exact h.at_inf hl e
  · have h1 := h.le t u htu (by omega)
    have h2 := (h.nn u).2
    rw [Cv.at_lt (by omega)]
    rw [Cv.at_lt ht] at hi
    rw [hi] at h1
    unfold inf at *
    omega

theorem Cv.Ok.per_at {f : Cv} (h : f.Ok) (hne : ∀ j, j < f.vals.length - f.per.toNat + f.per.toNat → f.at j ≠ inf) : Per f.at (f.vals.length - f.per.toNat) f.per.toNat f.inc := by
  have hp1 := h.p1; have hpn := h.pn
  have hF : f.Fin := ⟨h, fun e => hne (f.vals.length - 1) (by omega) (by rw [Cv.at_lt (by omega)]; exact e)⟩
  exact hF.toL.step

/-- what curve.Normal returns for a valid curve -/
theorem normal_made {f g : Cv} {er : Int} (ok : f.Ok) (h : NormalS f g er) : MadeS f.at g er := by
  have hp1 := ok.p1; have hpn := ok.pn
  rcases h with ⟨_, hb⟩ | ⟨h1, _⟩
  · exact build_made (by omega) (fun t u ht htu hi => ok.inf_from (by omega) htu hi) (fun hne => ok.per_at hne) hb
  · rw [Cv.okB_true ok] at h1; cases h1

/-- the normal form of a valid curve is short and valid -/
theorem nf_small {f g : Cv} (ok : f.Ok) (h : NF f.at g) : g.Ok ∧ g.vals.length ≤ f.vals.length ∧ g.per ≤ f.per ∧ g.inc ≤ f.inc ∧ (nth g.vals (g.vals.length - 1) = inf ↔ nth f.vals (f.vals.length - 1) = inf) := by
  have hp1 := ok.p1; have hpn := ok.pn; have hn1 := ok.n1; have hi1 := ok.i1
  have hv : ∀ k, k < g.vals.length → nth g.vals k = f.at k := by
    rcases h with h | h
    · exact h.vals
    · exact h.vals
  have hmono : ∀ k, k + 1 < g.vals.length → nth g.vals k ≤ nth g.vals (k + 1) := fun k hk => by rw [hv k (by omega), hv _ hk]; exact ok.at_mono k
  have hz : ∀ k, 0 ≤ f.at k := fun k => Int.le_trans (by rw [Cv.at_lt (by omega)]; exact ok.z) (ok.at_le (Nat.zero_le k))
  rcases h with h | h
  · have hlf : nth f.vals (f.vals.length - 1) ≠ inf := by
      intro e
      have hh : NInf f.at ⟨tab f.at 0 0, 1, 0⟩ → False := fun b => h.not_inf b
      have h1 := h.per.mul f.vals.length (g.vals.length - 1) (by have := h.p1; omega)
      have h2 := h.per.mul (f.vals.length + 1) (g.vals.length - 1) (by have := h.p1; omega)
      have hgp := h.p1; have hgn := h.pn
      have hle : f.vals.length ≤ f.vals.length * g.per.toNat := Nat.le_mul_of_pos_right _ (by omega)
      rw [ok.at_inf e (by omega)] at h1
      rw [ok.at_inf e (by rw [Nat.add_mul]; omega), Int.natCast_add, Int.add_mul] at h2
      apply h.fin (g.vals.length - 1) (by omega)
      have hi : g.inc = 0 := by omega
      rw [hi] at h1
      omega
    have hF : f.Fin := ⟨ok, hlf⟩
    have hstep := hF.toL.step
    have hgp := h.p1; have hgn := h.pn
    have hple : g.per ≤ f.per := by
      have := h.least _ _ _ (by omega) hstep
      omega
    -- the increment: over f.per * g.per ticks both grow alike
    have hinc : g.inc * f.per = f.inc * g.per := by
      have h1 := h.per.mul f.per.toNat (f.vals.length + g.vals.length) (by omega)
      have h2 := hstep.mul g.per.toNat (f.vals.length + g.vals.length) (by omega)
      rw [Nat.mul_comm] at h1
      rw [h1] at h2
      have e1 : (f.per.toNat : Int) = f.per := by omega
      have e2 : (g.per.toNat : Int) = g.per := by omega
      rw [e1, e2] at h2
      rw [Int.mul_comm g.inc, Int.mul_comm f.inc]
      omega
    have hg0 : 0 ≤ g.inc := by
      have h1 := h.per (g.vals.length) (by omega)
      have h2 := ok.at_le (t := g.vals.length) (u := g.vals.length + g.per.toNat) (by omega)
      omega
    have hgi : g.inc ≤ f.inc := by
      rcases Int.lt_or_le f.inc g.inc with e | e
      · exfalso
        have h3 : f.inc * g.per ≤ f.inc * f.per := Int.mul_le_mul_of_nonneg_left hple hi1
        have h4 : f.inc * f.per < g.inc * f.per := Int.mul_lt_mul_of_pos_right e (by omega)
        omega
      · exact e
    have hlen : g.vals.length ≤ f.vals.length := by
      rcases Nat.lt_or_ge f.vals.length g.vals.length with e | e
      · exfalso
        rcases h.start with hs | hs
        · omega
        · apply hs
          -- the period of g holds from f's start on
          have hfrom : Per f.at (f.vals.length - f.per.toNat) g.per.toNat g.inc := by
            intro t ht
            have h1 := hstep.mul g.vals.length t ht
            have h2 := hstep.mul g.vals.length (t + g.per.toNat) (by omega)
            have hle : g.vals.length ≤ g.vals.length * f.per.toNat := Nat.le_mul_of_pos_right _ (by omega)
            have h3 := h.per (t + g.vals.length * f.per.toNat) (by omega)
            rw [show t + g.vals.length * f.per.toNat + g.per.toNat = t + g.per.toNat + g.vals.length * f.per.toNat by omega] at h3
            rw [h2, h1] at h3
            omega
          have := hfrom (g.vals.length - g.per.toNat - 1) (by omega)
          rw [← this]
          congr 1
          omega
      · exact e
    have hsm : ∀ k, k < g.vals.length → nth g.vals k ≤ 1073741824 := fun k hk => by
      rw [hv k hk, Cv.at_lt (by omega)]; exact (hF.ne k (by omega)).2
    have hne : ∀ k, k < g.vals.length → nth g.vals k ≠ inf := fun k hk => by rw [hv k hk]; exact h.fin k hk
    refine ⟨⟨by omega, by have := ok.n2; omega, hgp, by have := ok.p2; omega, hgn, hg0, by have := ok.i2; omega, fun k hk => (okv_iff _).2 (.inr (hsm k hk)), ?_, hmono, fun e => absurd e (hne _ (by omega)), fun _ => ?_⟩, hlen, hple, hgi, ?_⟩
    · rw [hv 0 (by omega)]; exact hz 0
    · rw [hv _ (by omega), hv _ (by omega), ← h.per _ (Nat.le_refl _), show g.vals.length - g.per.toNat + g.per.toNat = g.vals.length by omega]
      exact ok.at_le (by omega)
    · exact ⟨fun e => absurd e (hne _ (by omega)), fun e => absurd e hlf⟩
  · have hn := h.n1
    have hlf : nth f.vals (f.vals.length - 1) = inf := by
      rcases Classical.em (nth f.vals (f.vals.length - 1) = inf) with e | e
      · exact e
      · exfalso
        have hF : f.Fin := ⟨ok, e⟩
        have h1 := hF.toL.step.mul g.vals.length (f.vals.length - 1) (by omega)
        have h2 := hF.toL.step.mul (g.vals.length + 1) (f.vals.length - 1) (by omega)
        have hle : g.vals.length ≤ g.vals.length * f.per.toNat := Nat.le_mul_of_pos_right _ (by omega)
        rw [h.from_ _ (by omega)] at h1
        rw [h.from_ _ (by rw [Nat.add_mul]; omega), Int.natCast_add, Int.add_mul] at h2
        have hi : f.inc = 0 := by omega
        rw [hi] at h1
        apply e
        rw [Cv.at_lt (by omega)] at h1
        omega
    have hlen : g.vals.length ≤ f.vals.length := by
      rcases Nat.lt_or_ge f.vals.length g.vals.length with e | e
      · exact absurd (ok.at_inf hlf (t := f.vals.length - 1) (by omega)) (h.before _ (by omega))
      · exact e
    refine ⟨⟨hn, by have := ok.n2; omega, by rw [h.p1]; omega, by rw [h.p1]; omega, by rw [h.p1]; omega, by rw [h.i0]; omega, by rw [h.i0]; omega, ?_, ?_, hmono, fun _ => ⟨h.p1, h.i0⟩, fun e => ?_⟩, hlen, by rw [h.p1]; exact hp1, by rw [h.i0]; exact hi1, ?_⟩
    · intro k hk; rw [hv k hk, Cv.at_lt (by omega)]; exact ok.v k (by omega)
    · rw [hv 0 (by omega)]; exact hz 0
    · exact absurd (by rw [hv _ (by omega)]; exact h.from_ _ (by omega)) e
    · exact ⟨fun _ => hlf, fun _ => by rw [hv _ (by omega)]; exact h.from_ _ (by omega)⟩

/-- what curve.Normal returns for a valid curve: its normal form, valid, and no longer -/
theorem normal_ok {f g : Cv} {er : Int} (ok : f.Ok) (h : NormalS f g er) : er = 0 ∧ NF f.at g ∧ g.Ok ∧ g.vals.length ≤ f.vals.length ∧ g.per ≤ f.per := by
  obtain ⟨g', hg, h⟩ := normal_made ok h
  obtain ⟨ok', h1, h2, h3, _⟩ := nf_small ok hg
  rcases h with ⟨_, rfl, rfl⟩ | ⟨hl, _⟩
  · exact ⟨rfl, hg, ok', h1, h2⟩
  · exact absurd ⟨ok'.n2, ok'.v, ok'.p2, ok'.i2⟩ hl
end Go.Proofs.Ythdibkmjoiipgaa
