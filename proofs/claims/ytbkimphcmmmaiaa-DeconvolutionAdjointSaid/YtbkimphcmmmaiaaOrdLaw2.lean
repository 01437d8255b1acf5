/- Plain words: two curves compared at every tick; nothing of the program. -/
import Derived.Test.YtbkimphcmmmaiaaDraw
namespace Go.Proofs.Ytbkimphcmmmaiaa
set_option linter.unusedVariables false

/-- the curve is infinite at a tick -/
def Cv.infAt (f : Cv) (n : Nat) : Prop := nth f.vals (f.vals.length - 1) = inf ∧ f.at n = inf

/-- f is greater than g at a tick -/
def Up (f g : Cv) (n : Nat) : Prop := ¬ g.infAt n ∧ (f.infAt n ∨ g.at n < f.at n)

/-- the least tick of a set; none -/
def ExS (U : Nat → Prop) (t : Int) (ok : Bool) : Prop := (ok = true ∧ ∃ n : Nat, t = n ∧ U n ∧ ∀ m, m < n → ¬ U m) ∨ (ok = false ∧ t = 0 ∧ ∀ n, ¬ U n)

/-- the least tick from which on none is in a set; none -/
def SeS (U : Nat → Prop) (t : Int) (ok : Bool) : Prop := (ok = true ∧ ∃ n : Nat, t = n ∧ (∀ m, n ≤ m → ¬ U m) ∧ ∀ k, n = k + 1 → U k) ∨ (ok = false ∧ t = 0 ∧ ∀ m, ∃ n, m ≤ n ∧ U n)

theorem ExS.unique {U : Nat → Prop} {t t' : Int} {b b' : Bool} (h : ExS U t b) (h' : ExS U t' b') : t = t' ∧ b = b' := by
  rcases h with ⟨rfl, n, rfl, h1, h2⟩ | ⟨rfl, rfl, h1⟩
  · rcases h' with ⟨rfl, n', rfl, h1', h2'⟩ | ⟨rfl, rfl, h1'⟩
    · rcases Nat.lt_trichotomy n n' with e | e | e
      · exact absurd h1 (h2' n e)
      · subst e; exact ⟨rfl, rfl⟩
      · exact absurd h1' (h2 n' e)
    · exact absurd h1 (h1' n)
  · rcases h' with ⟨rfl, n', rfl, h1', h2'⟩ | ⟨rfl, rfl, h1'⟩
    · exact absurd h1' (h1 n')
    · exact ⟨rfl, rfl⟩

theorem SeS.unique {U : Nat → Prop} {t t' : Int} {b b' : Bool} (h : SeS U t b) (h' : SeS U t' b') : t = t' ∧ b = b' := by
  rcases h with ⟨rfl, n, rfl, h1, h2⟩ | ⟨rfl, rfl, h1⟩
  · rcases h' with ⟨rfl, n', rfl, h1', h2'⟩ | ⟨rfl, rfl, h1'⟩
    · rcases Nat.lt_trichotomy n n' with e | e | e
      · obtain ⟨k, rfl⟩ : ∃ k, n' = k + 1 := ⟨n' - 1, by omega⟩
        exact absurd (h2' k rfl) (h1 k (by omega))
      · subst e; exact ⟨rfl, rfl⟩
      · obtain ⟨k, rfl⟩ : ∃ k, n = k + 1 := ⟨n - 1, by omega⟩
        exact absurd (h2 k rfl) (h1' k (by omega))
    · obtain ⟨m, hm, hu⟩ := h1' n
      exact absurd hu (h1 m hm)
  · rcases h' with ⟨rfl, n', rfl, h1', h2'⟩ | ⟨rfl, rfl, h1'⟩
    · obtain ⟨m, hm, hu⟩ := h1 n'
      exact absurd hu (h1' m hm)
    · exact ⟨rfl, rfl⟩

theorem Cv.Fin.not_infAt {f : Cv} (h : f.Fin) (n : Nat) : ¬ f.infAt n := fun h' => h.2 h'.1

theorem Cv.Ok.fin_or {f : Cv} (h : f.Ok) : f.Fin ∨ nth f.vals (f.vals.length - 1) = inf := by
  by_cases e : nth f.vals (f.vals.length - 1) = inf
  · exact .inr e
  · exact .inl ⟨h, e⟩

/-- at the ticks that a machine can name, infinite is greater than any value -/
theorem Cv.Ok.at_bd {f : Cv} (h : f.Ok) {n : Nat} (hn : n ≤ 4000000000) : 0 ≤ f.at n ∧ f.at n ≤ inf ∧ (f.at n = inf → f.infAt n) := by
  rcases h.fin_or with hf | hf
  · have := hf.at_bd n
    unfold inf
    refine ⟨this.1, by omega, fun e => by omega⟩
  · by_cases hlt : n < f.vals.length
    · rw [Cv.at_lt hlt]
      have h1 := h.nn n
      unfold inf
      refine ⟨h1.1, h1.2, fun e => ⟨hf, by rw [Cv.at_lt hlt]; exact e⟩⟩
    · have := h.at_inf hf (t := n) (by omega)
      rw [this]
      unfold inf
      exact ⟨by omega, by omega, fun _ => ⟨hf, this⟩⟩

theorem up_iff {f g : Cv} (hf : f.Ok) (hg : g.Ok) {n : Nat} (hn : n ≤ 4000000000) : Up f g n ↔ g.at n < f.at n := by
  obtain ⟨a1, a2, a3⟩ := hf.at_bd hn
  obtain ⟨b1, b2, b3⟩ := hg.at_bd hn
  constructor
  · rintro ⟨h1, h2⟩
    rcases h2 with h2 | h2
    · have : g.at n ≠ inf := fun e => h1 (b3 e)
      rw [h2.2]; omega
    · exact h2
  · intro h
    exact ⟨fun e => by rw [e.2] at h; omega, .inr h⟩

theorem up_fin {f g : Cv} (hf : f.Fin) (hg : g.Fin) (n : Nat) : Up f g n ↔ g.at n < f.at n :=
  ⟨fun h => by
    rcases h.2 with h2 | h2
    · exact absurd h2 (hf.not_infAt n)
    · exact h2, fun h => ⟨hg.not_infAt n, .inr h⟩⟩

theorem Cv.infAt.later {f : Cv} (h : f.Ok) {n m : Nat} (hi : f.infAt n) (hnm : n ≤ m) : f.infAt m := by
  by_cases hlt : n < f.vals.length
  · exact ⟨hi.1, h.inf_from hlt hnm hi.2⟩
  · exact ⟨hi.1, h.at_inf hi.1 (by omega)⟩

theorem Cv.Ok.infAt_start {f : Cv} (h : f.Ok) (hi : nth f.vals (f.vals.length - 1) = inf) {n : Nat} (hn : f.vals.length - f.per.toNat ≤ n) : f.infAt n := by
  have hp := (h.last hi).1
  refine ⟨hi, h.at_inf hi ?_⟩
  rw [hp] at hn
  have : (1 : Int).toNat = 1 := rfl
  omega

/-- where one curve is infinite, what holds at the start holds for ever -/
theorem up_inf {f g : Cv} (hf : f.Ok) (hg : g.Ok) (hi : ¬ (f.Fin ∧ g.Fin)) {s n : Nat} (h1 : f.vals.length - f.per.toNat ≤ s) (h2 : g.vals.length - g.per.toNat ≤ s) (hs : s ≤ n) : Up f g n ↔ Up f g s := by
  rcases hf.fin_or with a | a <;> rcases hg.fin_or with b | b
  · exact absurd ⟨a, b⟩ hi
  · have c1 := hg.infAt_start b h2
    have c2 := c1.later hg hs
    exact ⟨fun h => absurd c2 h.1, fun h => absurd c1 h.1⟩
  · have c1 := hf.infAt_start a h1
    have c2 := c1.later hf hs
    exact ⟨fun h => ⟨b.not_infAt _, .inl c1⟩, fun h => ⟨b.not_infAt _, .inl c2⟩⟩
  · have c1 := hg.infAt_start b h2
    have c2 := c1.later hg hs
    exact ⟨fun h => absurd c2 h.1, fun h => absurd c1 h.1⟩

/-- the difference of two finite curves -/
def dif (f g : Cv) (n : Nat) : Int := f.at n - g.at n

theorem Per.dif {f g : Cv} {s s' p q c a b : Nat} {x y : Int} (hf : Per f.at s p x) (hg : Per g.at s' q y) (ha : c = a * p) (hb : c = b * q) (F : Nat) (h1 : s ≤ F) (h2 : s' ≤ F) : Per (dif f g) F c (a * x - b * y) := by
  intro t ht
  have e1 := (hf.mono h1).mul a t ht
  have e2 := (hg.mono h2).mul b t ht
  rw [← ha] at e1
  rw [← hb] at e2
  show f.at (t + c) - g.at (t + c) = f.at t - g.at t + _
  rw [e1, e2]; omega

theorem Per.times {h : Nat → Int} {s p : Nat} {a : Int} (k : Per h s p a) (m t : Nat) (ht : s ≤ t) : h (t + m * p) = h t + m * a := k.mul m t ht

/-- what order.Exceeds knows after k residues -/
def ExI (d : Nat → Int) (s c k : Nat) (found : Bool) (L : Int) : Prop :=
  (found = false ∧ L = 0 ∧ ∀ r, r < k → ∀ m : Nat, d (s + r + m * c) ≤ 0) ∨ (found = true ∧ ∃ n : Nat, L = n ∧ 0 < d n ∧ ∀ r, r < k → ∀ m : Nat, s + r + m * c < n → d (s + r + m * c) ≤ 0)

theorem res_of {s c n : Nat} (hc : 1 ≤ c) (hn : s ≤ n) : ∃ r m, r < c ∧ n = s + r + m * c :=
  ⟨(n - s) % c, (n - s) / c, Nat.mod_lt _ (by omega), by have := Nat.mod_add_div (n - s) c; rw [Nat.mul_comm]; omega⟩

theorem ExI.done {d : Nat → Int} {s c : Nat} {found : Bool} {L : Int} (hc : 1 ≤ c) (h : ExI d s c c found L) (h0 : ∀ n, n < s → d n ≤ 0) : ExS (fun n => 0 < d n) L found := by
  rcases h with ⟨rfl, rfl, h⟩ | ⟨rfl, n, rfl, h1, h2⟩
  · refine .inr ⟨rfl, rfl, fun n => ?_⟩
    by_cases hn : n < s
    · have := h0 n hn; simp only; omega
    · obtain ⟨r, m, hr, rfl⟩ := res_of hc (show s ≤ n by omega)
      have := h r hr m; simp only; omega
  · refine .inl ⟨rfl, n, rfl, h1, fun k hk => ?_⟩
    by_cases hn : k < s
    · have := h0 k hn; simp only; omega
    · obtain ⟨r, m, hr, rfl⟩ := res_of hc (show s ≤ k by omega)
      have := h2 r hr m hk; simp only; omega

/-- a residue without a tick -/
theorem ExI.skip {d : Nat → Int} {s c k : Nat} {found : Bool} {L D : Int} (h : ExI d s c k found L) (hP : Per d s c D) (hd : d (s + k) ≤ 0) (hD : D ≤ 0) : ExI d s c (k + 1) found L := by
  have hk : ∀ m : Nat, d (s + k + m * c) ≤ 0 := fun m => by
    rw [hP.times m (s + k) (by omega)]
    have : (m : Int) * D ≤ 0 := by have := Int.mul_le_mul_of_nonneg_left (c := (m : Int)) hD (by omega); simpa using this
    omega
  rcases h with ⟨rfl, rfl, h⟩ | ⟨rfl, n, rfl, h1, h2⟩
  · refine .inl ⟨rfl, rfl, fun r hr m => ?_⟩
    by_cases e : r = k
    · subst e; exact hk m
    · exact h r (by omega) m
  · refine .inr ⟨rfl, n, rfl, h1, fun r hr m hm => ?_⟩
    by_cases e : r = k
    · subst e; exact hk m
    · exact h2 r (by omega) m hm

/-- a residue with its first tick -/
theorem ExI.cand {d : Nat → Int} {s c k : Nat} {found : Bool} {L : Int} (h : ExI d s c k found L) {M : Nat} (hd : 0 < d (s + k + M * c)) (hlt : ∀ m, m < M → d (s + k + m * c) ≤ 0) (hc : 1 ≤ c) :
    (found = false ∨ ((s + k + M * c : Nat) : Int) < L → ExI d s c (k + 1) true ((s + k + M * c : Nat) : Int)) ∧ (¬ (found = false ∨ ((s + k + M * c : Nat) : Int) < L) → ExI d s c (k + 1) found L) := by
  have hk : ∀ m : Nat, s + k + m * c < s + k + M * c → d (s + k + m * c) ≤ 0 := fun m hm => hlt m (by
    rcases Nat.lt_or_ge m M with e | e
    · exact e
    · have := Nat.mul_le_mul_right c e; omega)
  refine ⟨fun hh => .inr ⟨rfl, _, rfl, hd, fun r hr m hm => ?_⟩, fun hh => ?_⟩
  · by_cases e : r = k
    · subst e; exact hk m hm
    · rcases h with ⟨rfl, rfl, h⟩ | ⟨rfl, n, rfl, h1, h2⟩
      · exact h r (by omega) m
      · rcases hh with hh | hh
        · cases hh
        · exact h2 r (by omega) m (by omega)
  · rcases h with ⟨rfl, rfl, h⟩ | ⟨rfl, n, rfl, h1, h2⟩
    · exact absurd (.inl rfl) hh
    · refine .inr ⟨rfl, n, rfl, h1, fun r hr m hm => ?_⟩
      by_cases e : r = k
      · subst e
        refine hk m ?_
        have : ¬ ((s + r + M * c : Nat) : Int) < (n : Int) := fun e => hh (.inr e)
        omega
      · exact h2 r (by omega) m hm

/-- the first tick of a residue at which a growing difference is positive -/
theorem grow_first {d : Nat → Int} {s c k : Nat} {D : Int} (hP : Per d s c D) (hD : 0 < D) (hd : d (s + k) ≤ 0) :
    0 < d (s + k + ((-(d (s + k)) / D).toNat + 1) * c) ∧ ∀ m, m < (-(d (s + k)) / D).toNat + 1 → d (s + k + m * c) ≤ 0 := by
  obtain ⟨v, hv⟩ : ∃ v, d (s + k) = v := ⟨_, rfl⟩
  have hq : 0 ≤ -v / D := Int.ediv_nonneg (by omega) (by omega)
  have h1 := Int.mul_ediv_add_emod (-v) D
  have h2 := Int.emod_nonneg (-v) (show D ≠ 0 by omega)
  have h3 := Int.emod_lt_of_pos (-v) hD
  obtain ⟨q, hq'⟩ := Int.eq_ofNat_of_zero_le hq
  rw [hv, hq', Int.toNat_natCast]
  rw [hq'] at h1
  refine ⟨?_, fun m hm => ?_⟩
  · rw [hP.times _ _ (by omega), hv]
    have : ((q + 1 : Nat) : Int) * D = D * q + D := by rw [Int.natCast_add, Int.add_mul, Int.mul_comm D]; simp
    rw [this]; omega
  · rw [hP.times _ _ (by omega), hv]
    have : (m : Int) * D ≤ q * D := Int.mul_le_mul_of_nonneg_right (by omega) (by omega)
    rw [Int.mul_comm (q : Int)] at this
    omega

/-- what order.Settles knows after k residues -/
structure SeI (d : Nat → Int) (s c k : Nat) (L : Int) : Prop where
  lo : -1 ≤ L
  hit : 0 ≤ L → 0 < d L.toNat
  low : ∀ n : Nat, n ≤ s → 0 < d n → (n : Int) ≤ L
  res : ∀ r, r < k → ∀ m : Nat, 0 < d (s + r + m * c) → ((s + r + m * c : Nat) : Int) ≤ L

theorem SeI.done {d : Nat → Int} {s c : Nat} {L : Int} (hc : 1 ≤ c) (h : SeI d s c c L) : SeS (fun n => 0 < d n) (L + 1) true := by
  have hlo := h.lo
  refine .inl ⟨rfl, (L + 1).toNat, by omega, fun n hn hu => ?_, fun k hk => ?_⟩
  · by_cases e : n ≤ s
    · have := h.low n e hu; omega
    · obtain ⟨r, m, hr, rfl⟩ := res_of hc (show s ≤ n by omega)
      have := h.res r hr m hu; omega
  · have h0 : 0 ≤ L := by omega
    have := h.hit h0
    rwa [show L.toNat = k by omega] at this

theorem SeI.skip {d : Nat → Int} {s c k : Nat} {L D : Int} (h : SeI d s c k L) (hP : Per d s c D) (hD : D ≤ 0) (hd : d (s + k) ≤ 0) : SeI d s c (k + 1) L :=
  ⟨h.lo, h.hit, h.low, fun r hr m hm => by
    by_cases e : r = k
    · subst e
      rw [hP.times m (s + r) (by omega)] at hm
      have : (m : Int) * D ≤ 0 := by have := Int.mul_le_mul_of_nonneg_left (c := (m : Int)) hD (by omega); simpa using this
      omega
    · exact h.res r (by omega) m hm⟩

theorem SeI.cand {d : Nat → Int} {s c k : Nat} {L D : Int} (h : SeI d s c k L) (hP : Per d s c D) (hD : D < 0) (hd : 0 < d (s + k)) :
    SeI d s c (k + 1) (max L ((s + k + ((d (s + k) - 1) / -D).toNat * c : Nat) : Int)) := by
  obtain ⟨v, hv⟩ : ∃ v, d (s + k) = v := ⟨_, rfl⟩
  rw [hv] at hd ⊢
  have hq : 0 ≤ (v - 1) / -D := Int.ediv_nonneg (by omega) (by omega)
  have h1 := Int.mul_ediv_add_emod (v - 1) (-D)
  have h2 := Int.emod_nonneg (v - 1) (show -D ≠ 0 by omega)
  have h3 := Int.emod_lt_of_pos (v - 1) (show 0 < -D by omega)
  obtain ⟨q, hq'⟩ := Int.eq_ofNat_of_zero_le hq
  rw [hq', Int.toNat_natCast]
  rw [hq'] at h1
  have hlo := h.lo
  have hneg : -D * (q : Int) = -((q : Int) * D) := by rw [Int.neg_mul, Int.mul_comm]
  have hhit : 0 < d (s + k + q * c) := by
    rw [hP.times _ _ (by omega), hv]
    omega
  obtain ⟨T, hT⟩ : ∃ T, s + k + q * c = T := ⟨_, rfl⟩
  refine ⟨by omega, fun h0 => ?_, fun n hn hu => by have := h.low n hn hu; omega, fun r hr m hm => ?_⟩
  · rw [hT] at hhit ⊢
    by_cases e : L ≤ (T : Int)
    · rw [Int.max_eq_right e, Int.toNat_natCast]; exact hhit
    · rw [Int.max_eq_left (by omega)]; exact h.hit (by omega)
  · by_cases e : r = k
    · subst e
      rw [hP.times _ _ (by omega), hv] at hm
      have hmq : m ≤ q := by
        rcases Nat.lt_or_ge q m with e | e
        · exfalso
          have : ((q : Int) + 1) * -D ≤ m * -D := Int.mul_le_mul_of_nonneg_right (by omega) (by omega)
          rw [Int.add_mul, Int.one_mul, Int.mul_neg, Int.mul_neg] at this
          omega
        · exact e
      have := Nat.mul_le_mul_right c hmq
      omega
    · have := h.res r (by omega) m hm; omega

/-- again and again -/
theorem often_flat {d : Nat → Int} {s c n : Nat} {D : Int} (hc : 1 ≤ c) (hP : Per d s c D) (hD : 0 ≤ D) (hn : s ≤ n) (hd : 0 < d n) : ∀ m, ∃ k, m ≤ k ∧ 0 < d k := fun m =>
  ⟨n + m * c, by have := Nat.le_mul_of_pos_right m (show 0 < c by omega); omega, by
    rw [hP.times m n hn]
    have : 0 ≤ (m : Int) * D := Int.mul_nonneg (by omega) hD
    omega⟩

theorem often_grow {d : Nat → Int} {s c : Nat} {D : Int} (hc : 1 ≤ c) (hP : Per d s c D) (hD : 0 < D) : ∀ m, ∃ k, m ≤ k ∧ 0 < d k := fun m => by
  obtain ⟨M, hM⟩ : ∃ M : Nat, M = (1 - d s).toNat + m := ⟨_, rfl⟩
  refine ⟨s + M * c, by have := Nat.le_mul_of_pos_right M (show 0 < c by omega); omega, ?_⟩
  rw [hP.times M s (Nat.le_refl _)]
  have : (M : Int) * 1 ≤ M * D := Int.mul_le_mul_of_nonneg_left (by omega) (by omega)
  omega

theorem SeS.congr {U V : Nat → Prop} {t : Int} {ok : Bool} (h : SeS U t ok) (e : ∀ n, U n ↔ V n) : SeS V t ok := by
  have : U = V := funext fun n => propext (e n)
  rw [← this]; exact h
theorem ExS.congr {U V : Nat → Prop} {t : Int} {ok : Bool} (h : ExS U t ok) (e : ∀ n, U n ↔ V n) : ExS V t ok := by
  have : U = V := funext fun n => propext (e n)
  rw [← this]; exact h

/-- not alike at a tick -/
def Ne2 (f g : Cv) (n : Nat) : Prop := Up f g n ∨ Up g f n

/-- the statement OrderDual, plain -/
theorem dual_plain {f g : Cv} {t u x m : Int} {ok is ex meets : Bool} (h1 : SeS (Up f g) t ok) (h2 : SeS (Up g f) u is) (h3 : ExS (Up f g) x ex) (h4 : SeS (Ne2 f g) m meets) :
    ¬ ((ok = true ∧ (decide (0 < t) ≠ ex)) ∨ (ok = true ∧ ex = true ∧ t ≤ x) ∨ (ok = false ∧ ex = false)) ∧ (meets = true ↔ ok = true ∧ is = true) ∧ (meets = true → m = max t u) := by
  refine ⟨?_, ?_, ?_⟩
  · rcases h1 with ⟨rfl, n, rfl, a1, a2⟩ | ⟨rfl, rfl, a1⟩
    · rcases h3 with ⟨rfl, y, rfl, b1, b2⟩ | ⟨rfl, rfl, b1⟩
      · have : y < n := by
          rcases Nat.lt_or_ge y n with e | e
          · exact e
          · exact absurd b1 (a1 y e)
        rintro (⟨_, h⟩ | ⟨_, _, h⟩ | ⟨h, _⟩)
        · apply h; simp; omega
        · omega
        · cases h
      · have : n = 0 := by
          rcases n with _ | k
          · rfl
          · exact absurd (a2 k rfl) (b1 k)
        subst this
        rintro (⟨_, h⟩ | ⟨_, h, _⟩ | ⟨h, _⟩)
        · apply h; rfl
        · cases h
        · cases h
    · rcases h3 with ⟨rfl, y, rfl, b1, b2⟩ | ⟨rfl, rfl, b1⟩
      · rintro (⟨h, _⟩ | ⟨h, _⟩ | ⟨_, h⟩) <;> cases h
      · obtain ⟨k, _, hk⟩ := a1 0
        exact absurd hk (b1 k)
  · rcases h1 with ⟨rfl, n, rfl, a1, a2⟩ | ⟨rfl, rfl, a1⟩
    · rcases h2 with ⟨rfl, y, rfl, b1, b2⟩ | ⟨rfl, rfl, b1⟩
      · rcases h4 with ⟨rfl, z, rfl, c1, c2⟩ | ⟨rfl, rfl, c1⟩
        · simp
        · exfalso
          obtain ⟨k, hk, hu⟩ := c1 (max n y)
          rcases hu with hu | hu
          · exact a1 k (by omega) hu
          · exact b1 k (by omega) hu
      · rcases h4 with ⟨rfl, z, rfl, c1, c2⟩ | ⟨rfl, rfl, c1⟩
        · exfalso
          obtain ⟨k, hk, hu⟩ := b1 z
          exact c1 k hk (.inr hu)
        · simp
    · rcases h4 with ⟨rfl, z, rfl, c1, c2⟩ | ⟨rfl, rfl, c1⟩
      · exfalso
        obtain ⟨k, hk, hu⟩ := a1 z
        exact c1 k hk (.inl hu)
      · simp
  · intro hm
    rcases h4 with ⟨rfl, z, rfl, c1, c2⟩ | ⟨rfl, rfl, c1⟩
    · rcases h1 with ⟨rfl, n, rfl, a1, a2⟩ | ⟨rfl, rfl, a1⟩
      · rcases h2 with ⟨rfl, y, rfl, b1, b2⟩ | ⟨rfl, rfl, b1⟩
        · have hn : n ≤ z := by
            rcases n with _ | k
            · omega
            · rcases Nat.lt_or_ge z (k + 1) with e | e
              · exact absurd (Or.inl (a2 k rfl)) (c1 k (by omega))
              · exact e
          have hy : y ≤ z := by
            rcases y with _ | k
            · omega
            · rcases Nat.lt_or_ge z (k + 1) with e | e
              · exact absurd (Or.inr (b2 k rfl)) (c1 k (by omega))
              · exact e
          have hz : z ≤ max n y := by
            rcases z with _ | k
            · omega
            · rcases Nat.lt_or_ge (max n y) (k + 1) with e | e
              · rcases c2 k rfl with hu | hu
                · exact absurd hu (a1 k (by omega))
                · exact absurd hu (b1 k (by omega))
              · exact e
          omega
        · exfalso
          obtain ⟨k, hk, hu⟩ := b1 z
          exact c1 k hk (.inr hu)
      · exfalso
        obtain ⟨k, hk, hu⟩ := a1 z
        exact c1 k hk (.inl hu)
    · cases hm
end Go.Proofs.Ytbkimphcmmmaiaa
namespace Go.Proofs.Ytbkimphcmmmaiaa
set_option linter.unusedVariables false

def comm (p q : Nat) : Nat := p / Nat.gcd p q * q
theorem comm_facts {p q : Nat} (hp : 1 ≤ p) (hq : 1 ≤ q) : comm p q = comm p q / p * p ∧ comm p q = comm p q / q * q ∧ 1 ≤ comm p q ∧ comm p q ≤ p * q ∧ comm p q / p ≤ q ∧ comm p q / q ≤ p := by
  obtain ⟨a, ha⟩ := Nat.gcd_dvd_left p q
  obtain ⟨b, hb⟩ := Nat.gcd_dvd_right p q
  have hg : 0 < Nat.gcd p q := Nat.gcd_pos_of_pos_left _ hp
  have e1 : p / Nat.gcd p q = a := by
    exact (congrArg (fun x => x / Nat.gcd p q) ha).trans (Nat.mul_div_cancel_left _ hg)
  have hc : comm p q = a * q := by unfold comm; rw [e1]
  have hc2 : comm p q = b * p := by
    have h1 : a * q = a * (Nat.gcd p q * b) := congrArg (a * ·) hb
    have h2 : b * p = b * (Nat.gcd p q * a) := congrArg (b * ·) ha
    rw [hc, h1, h2]
    ac_rfl
  have d1 : comm p q / p = b := by rw [hc2]; exact Nat.mul_div_cancel _ hp
  have d2 : comm p q / q = a := by rw [hc]; exact Nat.mul_div_cancel _ hq
  have hap : a ≤ p := by rw [← e1]; exact Nat.div_le_self _ _
  have hbq : b ≤ q := by
    have : q / Nat.gcd p q = b := by
      exact (congrArg (fun x => x / Nat.gcd p q) hb).trans (Nat.mul_div_cancel_left _ hg)
    rw [← this]; exact Nat.div_le_self _ _
  have ha1 : 1 ≤ a := by
    rcases Nat.eq_zero_or_pos a with e | e
    · rw [e] at ha; omega
    · exact e
  refine ⟨by rw [d1]; exact hc2, by rw [d2]; exact hc, by rw [hc]; exact Nat.mul_pos ha1 hq, by rw [hc]; exact Nat.mul_le_mul_right q hap, by rw [d1]; exact hbq, by rw [d2]; exact hap⟩

def ordF (f g : Cv) : Nat := max (f.vals.length - f.per.toNat) (g.vals.length - g.per.toNat)
def ordC (f g : Cv) : Nat := comm f.per.toNat g.per.toNat
def ordD (f g : Cv) : Int := (ordC f g / f.per.toNat : Nat) * f.inc - (ordC f g / g.per.toNat : Nat) * g.inc

structure OrdB (f g : Cv) : Prop where
  f0 : ordF f g ≤ 400
  fs : f.vals.length - f.per.toNat ≤ ordF f g
  gs : g.vals.length - g.per.toNat ≤ ordF f g
  c1 : 1 ≤ ordC f g
  c2 : ordC f g ≤ 14400
  d1 : ordD f g ≤ 128849018880
  d2 : -128849018880 ≤ ordD f g
  a1 : 0 ≤ ((ordC f g / f.per.toNat : Nat) : Int) * f.inc ∧ ((ordC f g / f.per.toNat : Nat) : Int) * f.inc ≤ 128849018880
  a2 : 0 ≤ ((ordC f g / g.per.toNat : Nat) : Int) * g.inc ∧ ((ordC f g / g.per.toNat : Nat) : Int) * g.inc ≤ 128849018880
  b1 : ordC f g / f.per.toNat ≤ 120
  b2 : ordC f g / g.per.toNat ≤ 120

theorem ord_b {f g : Cv} (hf : f.Ok) (hg : g.Ok) : OrdB f g := by
  have hn := hf.n2; have hm := hg.n2
  have hp1 := hf.p1; have hp2 := hf.p2; have hi1 := hf.i1; have hi2 := hf.i2
  have hq1 := hg.p1; have hq2 := hg.p2; have hj1 := hg.i1; have hj2 := hg.i2
  obtain ⟨e1, e2, e3, e4, e5, e6⟩ := comm_facts (p := f.per.toNat) (q := g.per.toNat) (by omega) (by omega)
  have hpq : f.per.toNat * g.per.toNat ≤ 120 * 120 := Nat.mul_le_mul (by omega) (by omega)
  have a1 : ((ordC f g / f.per.toNat : Nat) : Int) * f.inc ≤ 120 * 1073741824 := Int.mul_le_mul (by show ((comm _ _ / _ : Nat) : Int) ≤ _; omega) hi2 hi1 (by omega)
  have a2 : ((ordC f g / g.per.toNat : Nat) : Int) * g.inc ≤ 120 * 1073741824 := Int.mul_le_mul (by show ((comm _ _ / _ : Nat) : Int) ≤ _; omega) hj2 hj1 (by omega)
  have a3 : 0 ≤ ((ordC f g / f.per.toNat : Nat) : Int) * f.inc := Int.mul_nonneg (Int.natCast_nonneg _) hi1
  have a4 : 0 ≤ ((ordC f g / g.per.toNat : Nat) : Int) * g.inc := Int.mul_nonneg (Int.natCast_nonneg _) hj1
  refine ⟨by unfold ordF; omega, by unfold ordF; omega, by unfold ordF; omega, e3, by unfold ordC; omega, by unfold ordD; omega, by unfold ordD; omega, ⟨a3, by omega⟩, ⟨a4, by omega⟩, by show comm _ _ / _ ≤ _; omega, by show comm _ _ / _ ≤ _; omega⟩

theorem ord_per {f g : Cv} (hf : f.Fin) (hg : g.Fin) : Per (dif f g) (ordF f g) (ordC f g) (ordD f g) := by
  have B := ord_b hf.1 hg.1
  obtain ⟨e1, e2, e3, e4, e5, e6⟩ := comm_facts (p := f.per.toNat) (q := g.per.toNat) (by have := hf.1.p1; omega) (by have := hg.1.p1; omega)
  exact Per.dif hf.toL.step hg.toL.step e1 e2 _ B.fs B.gs

theorem up_dif {f g : Cv} (hf : f.Fin) (hg : g.Fin) (n : Nat) : Up f g n ↔ 0 < dif f g n := by
  rw [up_fin hf hg]; unfold dif; omega

/-- what order.Exceeds, order.Settles and order.Meets return -/
def OrdS (S : Prop) (f g : Cv) (t : Int) (ok : Bool) (er : Int) : Prop := (f.Ok ∧ g.Ok ∧ er = 0 ∧ S) ∨ (¬ (f.Ok ∧ g.Ok) ∧ er = 1 ∧ t = 0 ∧ ok = false)

/-- without a tick up to the start, and not both finite: none -/
theorem ex_inf {f g : Cv} (hf : f.Ok) (hg : g.Ok) (hi : ¬ (f.Fin ∧ g.Fin)) (h : ∀ n, n < ordF f g + 1 → ¬ g.at n < f.at n) : ExS (Up f g) 0 false := by
  have B := ord_b hf hg
  have b0 := B.f0
  refine .inr ⟨rfl, rfl, fun n => ?_⟩
  by_cases hn : n ≤ ordF f g
  · rw [up_iff hf hg (by omega)]; exact h n (by omega)
  · rw [up_inf hf hg hi B.fs B.gs (show ordF f g ≤ n by omega), up_iff hf hg (by omega)]; exact h _ (by omega)

/-- the first tick up to the start -/
theorem ex_early {f g : Cv} (hf : f.Ok) (hg : g.Ok) {t : Nat} (ht : t ≤ 1000) (h : ∀ n, n < t → ¬ g.at n < f.at n) (hu : g.at t < f.at t) : ExS (Up f g) t true :=
  .inl ⟨rfl, t, rfl, (up_iff hf hg (by omega)).2 hu, fun m hm => by rw [up_iff hf hg (by omega)]; exact h m hm⟩

theorem ex_late {f g : Cv} (hf : f.Fin) (hg : g.Fin) {b : Bool} {L : Int} (h : ExI (dif f g) (ordF f g) (ordC f g) (ordC f g) b L) (h0 : ∀ n, n < ordF f g + 1 → ¬ g.at n < f.at n) : ExS (Up f g) L b :=
  (h.done (ord_b hf.1 hg.1).c1 (fun n hn => by have := h0 n (by omega); unfold dif; omega)).congr fun n => (up_dif hf hg n).symm

/-- the bound of the values that are compared -/
theorem dif_bd {f g : Cv} (hf : f.Fin) (hg : g.Fin) {n : Nat} (hn : n ≤ 20000) : dif f g n ≤ 30000000000000 ∧ -30000000000000 ≤ dif f g n := by
  have h1 := hf.at_bd n
  have h2 := hg.at_bd n
  unfold dif
  omega
theorem at_inf_bd {f : Cv} (hf : f.Ok) {n : Nat} (hn : n ≤ 20000) : 0 ≤ f.at n ∧ f.at n ≤ 4611686018427387904 := by
  have := hf.at_bd (n := n) (by omega)
  unfold inf at this
  exact ⟨this.1, this.2.1⟩

/-- what order.Settles knows behind its first loop -/
structure SeL (f g : Cv) (k : Nat) (L : Int) : Prop where
  lo : -1 ≤ L
  hi : L < k
  hit : 0 ≤ L → g.at L.toNat < f.at L.toNat
  low : ∀ n : Nat, n < k → g.at n < f.at n → (n : Int) ≤ L

theorem SeL.zero (f g : Cv) : SeL f g 0 (-1) := ⟨by omega, by omega, fun h => by omega, fun n hn => by omega⟩
theorem SeL.yes {f g : Cv} {k : Nat} {L : Int} (h : SeL f g k L) (hu : g.at k < f.at k) : SeL f g (k + 1) k :=
  ⟨by omega, by omega, fun _ => by rw [Int.toNat_natCast]; exact hu, fun n hn hu => by omega⟩
theorem SeL.no {f g : Cv} {k : Nat} {L : Int} (h : SeL f g k L) (hu : ¬ g.at k < f.at k) : SeL f g (k + 1) L :=
  ⟨h.lo, by have := h.hi; omega, h.hit, fun n hn hn2 => by
    by_cases e : n = k
    · subst e; exact absurd hn2 hu
    · exact h.low n (by omega) hn2⟩

theorem se_inf {f g : Cv} (hf : f.Ok) (hg : g.Ok) (hi : ¬ (f.Fin ∧ g.Fin)) {L : Int} (h : SeL f g (ordF f g + 1) L) :
    (L = ordF f g → SeS (Up f g) 0 false) ∧ (L ≠ ordF f g → SeS (Up f g) (L + 1) true) := by
  have B := ord_b hf hg
  have b0 := B.f0
  have hlo := h.lo; have hhi := h.hi
  refine ⟨fun e => .inr ⟨rfl, rfl, fun m => ⟨max m (ordF f g), by omega, ?_⟩⟩, fun e => .inl ⟨rfl, (L + 1).toNat, by omega, fun m hm hu => ?_, fun k hk => ?_⟩⟩
  · rw [up_inf hf hg hi B.fs B.gs (show ordF f g ≤ max m (ordF f g) by omega), up_iff hf hg (by omega)]
    have := h.hit (by omega)
    rwa [show L.toNat = ordF f g by omega] at this
  · by_cases hn : m ≤ ordF f g
    · rw [up_iff hf hg (by omega)] at hu
      have := h.low m (by omega) hu; omega
    · rw [up_inf hf hg hi B.fs B.gs (show ordF f g ≤ m by omega), up_iff hf hg (by omega)] at hu
      have := h.low _ (by omega) hu; omega
  · have := h.hit (by omega)
    rw [show L.toNat = k by omega] at this
    exact (up_iff hf hg (by omega)).2 this

theorem se_start {f g : Cv} (hf : f.Fin) (hg : g.Fin) {L : Int} (h : SeL f g (ordF f g + 1) L) : SeI (dif f g) (ordF f g) (ordC f g) 0 L :=
  ⟨h.lo, fun h0 => by have := h.hit h0; unfold dif; omega, fun n hn hu => h.low n (by omega) (by unfold dif at hu; omega), fun r hr => by omega⟩

theorem se_late {f g : Cv} (hf : f.Fin) (hg : g.Fin) {L : Int} (h : SeI (dif f g) (ordF f g) (ordC f g) (ordC f g) L) : SeS (Up f g) (L + 1) true :=
  (h.done (ord_b hf.1 hg.1).c1).congr fun n => (up_dif hf hg n).symm

theorem se_never {f g : Cv} (hf : f.Fin) (hg : g.Fin) {n : Nat} (hn : ordF f g ≤ n) (h : (0 < dif f g n ∧ 0 ≤ ordD f g) ∨ 0 < ordD f g) : SeS (Up f g) 0 false := by
  refine .inr ⟨rfl, rfl, fun m => ?_⟩
  have B := ord_b hf.1 hg.1
  have : ∃ k, m ≤ k ∧ 0 < dif f g k := by
    rcases h with ⟨h1, h2⟩ | h
    · exact often_flat B.c1 (ord_per hf hg) h2 hn h1 m
    · exact often_grow B.c1 (ord_per hf hg) h m
  obtain ⟨k, h1, h2⟩ := this
  exact ⟨k, h1, (up_dif hf hg k).2 h2⟩

theorem ne2_iff {f g : Cv} (hf : f.Ok) (hg : g.Ok) {n : Nat} (hn : n ≤ 4000000000) : Ne2 f g n ↔ f.at n ≠ g.at n := by
  unfold Ne2
  rw [up_iff hf hg hn, up_iff hg hf hn]; omega
theorem ne2_inf {f g : Cv} (hf : f.Ok) (hg : g.Ok) (hi : ¬ (f.Fin ∧ g.Fin)) {n : Nat} (hs : ordF f g ≤ n) : Ne2 f g n ↔ Ne2 f g (ordF f g) := by
  have B := ord_b hf hg
  unfold Ne2
  rw [up_inf hf hg hi B.fs B.gs hs, up_inf hg hf (fun h => hi ⟨h.2, h.1⟩) B.gs B.fs hs]
theorem ne2_fin {f g : Cv} (hf : f.Fin) (hg : g.Fin) (n : Nat) : Ne2 f g n ↔ dif f g n ≠ 0 := by
  unfold Ne2
  rw [up_dif hf hg, up_dif hg hf]; unfold dif; omega

/-- the window that order.Meets looks at differs somewhere -/
theorem me_differ {f g : Cv} (hf : f.Ok) (hg : g.Ok) {b : Bool} (hb : b = true ↔ (f.Fin ∧ g.Fin)) {r : Nat} (hr : r < if b = true then ordC f g else 1) (h : f.at (ordF f g + r) ≠ g.at (ordF f g + r)) : SeS (Ne2 f g) 0 false := by
  have B := ord_b hf hg
  refine .inr ⟨rfl, rfl, fun m => ?_⟩
  by_cases hfin : f.Fin ∧ g.Fin
  · have hP := ord_per hfin.1 hfin.2
    obtain ⟨d, hd⟩ : ∃ d, dif f g (ordF f g + r) = d := ⟨_, rfl⟩
    have hd0 : d ≠ 0 := by rw [← hd]; unfold dif; omega
    obtain ⟨D, hD⟩ : ∃ D, ordD f g = D := ⟨_, rfl⟩
    rw [hD] at hP
    have key : ∃ M : Nat, m ≤ M ∧ d + (M : Int) * D ≠ 0 := by
      by_cases e : d + (m : Int) * D = 0
      · refine ⟨m + 1, by omega, fun e2 => ?_⟩
        have : ((m + 1 : Nat) : Int) * D = m * D + D := by rw [Int.natCast_add, Int.add_mul]; simp
        rw [this] at e2
        have hD0 : D = 0 := by omega
        rw [hD0] at e
        simp at e
        exact hd0 e
      · exact ⟨m, Nat.le_refl _, e⟩
    obtain ⟨M, hM, hne⟩ := key
    refine ⟨ordF f g + r + M * ordC f g, ?_, ?_⟩
    · have := Nat.le_mul_of_pos_right M (show 0 < ordC f g from B.c1); omega
    · rw [ne2_fin hfin.1 hfin.2, hP.times _ _ (by omega), hd]; exact hne
  · have hbf : b = false := by
      rcases b with _ | _
      · rfl
      · exact absurd (hb.1 rfl) hfin
    rw [hbf] at hr
    have hr0 : r = 0 := by simp at hr; omega
    subst hr0
    refine ⟨max m (ordF f g), by omega, ?_⟩
    have b0 := B.f0
    rw [ne2_inf hf hg hfin (show ordF f g ≤ max m (ordF f g) by omega), ne2_iff hf hg (by omega)]
    exact h

/-- the curves drift apart -/
theorem me_drift {f g : Cv} (hf : f.Fin) (hg : g.Fin) (hD : ordD f g ≠ 0) (h : f.at (ordF f g) = g.at (ordF f g)) : SeS (Ne2 f g) 0 false := by
  have B := ord_b hf.1 hg.1
  refine .inr ⟨rfl, rfl, fun m => ⟨ordF f g + (m + 1) * ordC f g, ?_, ?_⟩⟩
  · have := Nat.le_mul_of_pos_right (m + 1) (show 0 < ordC f g from B.c1); omega
  · rw [ne2_fin hf hg, (ord_per hf hg).times _ _ (Nat.le_refl _)]
    have h0 : dif f g (ordF f g) = 0 := by unfold dif; omega
    rw [h0, Int.zero_add]
    exact Int.mul_ne_zero (by omega) hD

/-- they are alike from t on -/
def AlikeFrom (f g : Cv) (t : Nat) : Prop := ∀ n, t ≤ n → ¬ Ne2 f g n

theorem me_alike {f g : Cv} (hf : f.Ok) (hg : g.Ok) {b : Bool} (hb : b = true ↔ (f.Fin ∧ g.Fin)) (hD : b = true → ordD f g = 0) (h : ∀ r, r < (if b = true then ordC f g else 1) → f.at (ordF f g + r) = g.at (ordF f g + r)) : AlikeFrom f g (ordF f g) := by
  have B := ord_b hf hg
  have b0 := B.f0
  intro n hn
  by_cases hfin : f.Fin ∧ g.Fin
  · have hbt := hb.2 hfin
    obtain ⟨r, m, hr, rfl⟩ := res_of B.c1 hn
    have h1 := h r (by rw [if_pos hbt]; exact hr)
    rw [ne2_fin hfin.1 hfin.2, (ord_per hfin.1 hfin.2).times _ _ (by omega), hD hbt]
    unfold dif; simp; omega
  · have hbf : b = false := by
      rcases b with _ | _
      · rfl
      · exact absurd (hb.1 rfl) hfin
    have h1 := h 0 (by rw [hbf]; simp)
    rw [ne2_inf hf hg hfin hn, ne2_iff hf hg (by omega)]
    simpa using h1

theorem AlikeFrom.pred {f g : Cv} (hf : f.Ok) (hg : g.Ok) {t : Nat} (ht : t ≤ 1000) (h : AlikeFrom f g (t + 1)) (e : f.at t = g.at t) : AlikeFrom f g t := fun n hn => by
  by_cases e2 : n = t
  · subst e2; rw [ne2_iff hf hg (by omega)]; omega
  · exact h n (by omega)
theorem AlikeFrom.done {f g : Cv} (hf : f.Ok) (hg : g.Ok) {t : Nat} (ht : t ≤ 1000) (h : AlikeFrom f g t) (e : ∀ k, t = k + 1 → f.at k ≠ g.at k) : SeS (Ne2 f g) t true :=
  .inl ⟨rfl, t, rfl, h, fun k hk => (ne2_iff hf hg (by omega)).2 (e k hk)⟩
end Go.Proofs.Ytbkimphcmmmaiaa
