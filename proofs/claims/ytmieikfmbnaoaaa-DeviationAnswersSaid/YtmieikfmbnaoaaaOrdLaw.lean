/- Plain words: two curves compared at every tick; nothing of the program. -/
import Derived.Test.YtmieikfmbnaoaaaDraw
namespace Go.Proofs.Ytmieikfmbnaoaaa
set_option linter.unusedVariables false

/-- the curve is infinite at a tick -/
def Cv.infAt (f : Cv) (n : Nat) : Prop := nth f.vals (f.vals.length - 1) = inf ∧ f.at n = inf

/-- f is greater than g at a tick -/
def Up (f g : Cv) (n : Nat) : Prop := ¬ g.infAt n ∧ (f.infAt n ∨ g.at n < f.at n)

/-- the least tick of a set; none -/
def ExS (U : Nat → Prop) (t : Int) (ok : Bool) : Prop := (ok = true ∧ ∃ n : Nat, t = n ∧ U n ∧ ∀ m, m < n → ¬ U m) ∨ (ok = false ∧ t = 0 ∧ ∀ n, ¬ U n)

/-- the least tick from which on none is in a set; none -/
def SeS (U : Nat → Prop) (t : Int) (ok : Bool) : Prop := (ok = true ∧ ∃ n : Nat, t = n ∧ (∀ m, n ≤ m → ¬ U m) ∧ ∀ k, n = k + 1 → U k) ∨ (ok = false ∧ t = 0 ∧ ∀ m, ∃ n, m ≤ n ∧ U n)

theorem ExS.unique {U : Nat → Prop} {t t' : Int} {b b' : Bool} (h : ExS U t b) (h' : ExS U t' b') : t = t' ∧ b = b' := by
  rcases h with ⟨rfl, n, rfl, h1, h2⟩ | ⟨rfl, rfl, h1⟩
  · rcases h' with ⟨rfl, n', rfl, h1', h2'⟩ | ⟨rfl, rfl, h1'⟩
    · rcases Nat.lt_trichotomy n n' with e | e | e
      · exact absurd h1 (h2' n e)
      · subst e; exact ⟨rfl, rfl⟩
      · exact absurd h1' (h2 n' e)
    · exact absurd h1 (h1' n)
  · rcases h' with ⟨rfl, n', rfl, h1', h2'⟩ | ⟨rfl, rfl, h1'⟩
    · exact absurd h1' (h1 n')
    · exact ⟨rfl, rfl⟩

theorem SeS.unique {U : Nat → Prop} {t t' : Int} {b b' : Bool} (h : SeS U t b) (h' : SeS U t' b') : t = t' ∧ b = b' := by
  rcases h with ⟨rfl, n, rfl, h1, h2⟩ | ⟨rfl, rfl, h1⟩
  · rcases h' with ⟨rfl, n', rfl, h1', h2'⟩ | ⟨rfl, rfl, h1'⟩
    · rcases Nat.lt_trichotomy n n' with e | e | e
      · obtain ⟨k, rfl⟩ : ∃ k, n' = k + 1 := ⟨n' - 1, by omega⟩
        exact absurd (h2' k rfl) (h1 k (by omega))
      · subst e; exact ⟨rfl, rfl⟩
      · obtain ⟨k, rfl⟩ : ∃ k, n = k + 1 := ⟨n - 1, by omega⟩
        exact absurd (h2 k rfl) (h1' k (by omega))
    · obtain ⟨m, hm, hu⟩ := h1' n
      exact absurd hu (h1 m hm)
  · rcases h' with ⟨rfl, n', rfl, h1', h2'⟩ | ⟨rfl, rfl, h1'⟩
    · obtain ⟨m, hm, hu⟩ := h1 n'
      exact absurd hu (h1' m hm)
    · exact ⟨rfl, rfl⟩

theorem Cv.Fin.not_infAt {f : Cv} (h : f.Fin) (n : Nat) : ¬ f.infAt n := fun h' => h.2 h'.1

theorem Cv.Ok.fin_or {f : Cv} (h : f.Ok) : f.Fin ∨ nth f.vals (f.vals.length - 1) = inf := by
  by_cases e : nth f.vals (f.vals.length - 1) = inf
  · exact .inr e
  · exact .inl ⟨h, e⟩

/-- at the ticks that a machine can name, infinite is greater than any value -/
theorem Cv.Ok.at_bd {f : Cv} (h : f.Ok) {n : Nat} (hn : n ≤ 4000000000) : 0 ≤ f.at n ∧ f.at n ≤ inf ∧ (f.at n = inf → f.infAt n) := by
  rcases h.fin_or with hf | hf
  · have := hf.at_bd n
    unfold inf
    refine ⟨this.1, by omega, fun e => by omega⟩
  · by_cases hlt : n < f.vals.length
    · rw [Cv.at_lt hlt]
      have h1 := h.nn n
      unfold inf
      refine ⟨h1.1, h1.2, fun e => ⟨hf, by rw [Cv.at_lt hlt]; exact e⟩⟩
    · have := h.at_inf hf (t := n) (by omega)
      rw [this]
      unfold inf
      exact ⟨by omega, by omega, fun _ => ⟨hf, this⟩⟩

theorem up_iff {f g : Cv} (hf : f.Ok) (hg : g.Ok) {n : Nat} (hn : n ≤ 4000000000) : Up f g n ↔ g.at n < f.at n := by
  obtain ⟨a1, a2, a3⟩ := hf.at_bd hn
  obtain ⟨b1, b2, b3⟩ := hg.at_bd hn
  constructor
  · rintro ⟨h1, h2⟩
    rcases h2 with h2 | h2
    · have : g.at n ≠ inf := fun e => h1 (b3 e)
      rw [h2.2]; omega
    · exact h2
  · intro h
    exact ⟨fun e => by rw [e.2] at h; omega, .inr h⟩

theorem up_fin {f g : Cv} (hf : f.Fin) (hg : g.Fin) (n : Nat) : Up f g n ↔ g.at n < f.at n :=
  ⟨fun h => by
    rcases h.2 with h2 | h2
    · exact absurd h2 (hf.not_infAt n)
    · exact h2, fun h => ⟨hg.not_infAt n, .inr h⟩⟩

theorem Cv.infAt.later {f : Cv} (h : f.Ok) {n m : Nat} (hi : f.infAt n) (hnm : n ≤ m) : f.infAt m := by
  by_cases hlt : n < f.vals.length
  · exact ⟨hi.1, h.inf_from hlt hnm hi.2⟩
  · exact ⟨hi.1, h.at_inf hi.1 (by omega)⟩

theorem Cv.Ok.infAt_start {f : Cv} (h : f.Ok) (hi : nth f.vals (f.vals.length - 1) = inf) {n : Nat} (hn : f.vals.length - f.per.toNat ≤ n) : f.infAt n := by
  have hp := (h.last hi).1
  refine ⟨hi, h.at_inf hi ?_⟩
  rw [hp] at hn
  have : (1 : Int).toNat = 1 := rfl
  omega

/-- where one curve is infinite, what holds at the start holds for ever -/
theorem up_inf {f g : Cv} (hf : f.Ok) (hg : g.Ok) (hi : ¬ (f.Fin ∧ g.Fin)) {s n : Nat} (h1 : f.vals.length - f.per.toNat ≤ s) (h2 : g.vals.length - g.per.toNat ≤ s) (hs : s ≤ n) : Up f g n ↔ Up f g s := by
  rcases hf.fin_or with a | a <;> rcases hg.fin_or with b | b
  · exact absurd ⟨a, b⟩ hi
  · have c1 := hg.infAt_start b h2
    have c2 := c1.later hg hs
    exact ⟨fun h => absurd c2 h.1, fun h => absurd c1 h.1⟩
  · have c1 := hf.infAt_start a h1
    have c2 := c1.later hf hs
    exact ⟨fun h => ⟨b.not_infAt _, .inl c1⟩, fun h => ⟨b.not_infAt _, .inl c2⟩⟩
  · have c1 := hg.infAt_start b h2
    have c2 := c1.later hg hs
    exact ⟨fun h => absurd c2 h.1, fun h => absurd c1 h.1⟩

/-- the difference of two finite curves -/
def dif (f g : Cv) (n : Nat) : Int := f.at n - g.at n

theorem Per.dif {f g : Cv} {s s' p q c a b : Nat} {x y : Int} (hf : Per f.at s p x) (hg : Per g.at s' q y) (ha : c = a * p) (hb : c = b * q) (F : Nat) (h1 : s ≤ F) (h2 : s' ≤ F) : Per (dif f g) F c (a * x - b * y) := by
  intro t ht
  have e1 := (hf.mono h1).mul a t ht
  have e2 := (hg.mono h2).mul b t ht
  rw [← ha] at e1
  rw [← hb] at e2
  show f.at (t + c) - g.at (t + c) = f.at t - g.at t + _
  rw [e1, e2]; omega

theorem Per.times {h : Nat → Int} {s p : Nat} {a : Int} (k : Per h s p a) (m t : Nat) (ht : s ≤ t) : h (t + m * p) = h t + m * a := k.mul m t ht

/-- what order.Exceeds knows after k residues -/
def ExI (d : Nat → Int) (s c k : Nat) (found : Bool) (L : Int) : Prop :=
  (found = false ∧ L = 0 ∧ ∀ r, r < k → ∀ m : Nat, d (s + r + m * c) ≤ 0) ∨ (found = true ∧ ∃ n : Nat, L = n ∧ 0 < d n ∧ ∀ r, r < k → ∀ m : Nat, s + r + m * c < n → d (s + r + m * c) ≤ 0)

theorem res_of {s c n : Nat} (hc : 1 ≤ c) (hn : s ≤ n) : ∃ r m, r < c ∧ n = s + r + m * c :=
  ⟨(n - s) % c, (n - s) / c, Nat.mod_lt _ (by omega), by have := Nat.mod_add_div (n - s) c; rw [Nat.mul_comm]; omega⟩

theorem ExI.done {d : Nat → Int} {s c : Nat} {found : Bool} {L : Int} (hc : 1 ≤ c) (h : ExI d s c c found L) (h0 : ∀ n, n < s → d n ≤ 0) : ExS (fun n => 0 < d n) L found := by
  rcases h with ⟨rfl, rfl, h⟩ | ⟨rfl, n, rfl, h1, h2⟩
  · refine .inr ⟨rfl, rfl, fun n => ?_⟩
    by_cases hn : n < s
    · have := h0 n hn; simp only; omega
    · obtain ⟨r, m, hr, rfl⟩ := res_of hc (show s ≤ n by omega)
      have := h r hr m; simp only; omega
  · refine .inl ⟨rfl, n, rfl, h1, fun k hk => ?_⟩
    by_cases hn : k < s
    · have := h0 k hn; simp only; omega
    · obtain ⟨r, m, hr, rfl⟩ := res_of hc (show s ≤ k by omega)
      have := h2 r hr m hk; simp only; omega

/-- a residue without a tick -/
theorem ExI.skip {d : Nat → Int} {s c k : Nat} {found : Bool} {L D : Int} (h : ExI d s c k found L) (hP : Per d s c D) (hd : d (s + k) ≤ 0) (hD : D ≤ 0) : ExI d s c (k + 1) found L := by
  have hk : ∀ m : Nat, d (s + k + m * c) ≤ 0 := fun m => by
    rw [hP.times m (s + k) (by omega)]
    have : (m : Int) * D ≤ 0 := by have := Int.mul_le_mul_of_nonneg_left (c := (m : Int)) hD (by omega); simpa using this
    omega
  rcases h with ⟨rfl, rfl, h⟩ | ⟨rfl, n, rfl, h1, h2⟩
  · refine .inl ⟨rfl, rfl, fun r hr m => ?_⟩
    by_cases e : r = k
    · subst e; exact hk m
    · exact h r (by omega) m
  · refine .inr ⟨rfl, n, rfl, h1, fun r hr m hm => ?_⟩
    by_cases e : r = k
    · subst e; exact hk m
    · exact h2 r (by omega) m hm

/-- a residue with its first tick -/
theorem ExI.cand {d : Nat → Int} {s c k : Nat} {found : Bool} {L : Int} (h : ExI d s c k found L) {M : Nat} (hd : 0 < d (s + k + M * c)) (hlt : ∀ m, m < M → d (s + k + m * c) ≤ 0) (hc : 1 ≤ c) :
    (found = false ∨ ((s + k + M * c : Nat) : Int) < L → ExI d s c (k + 1) true ((s + k + M * c : Nat) : Int)) ∧ (¬ (found = false ∨ ((s + k + M * c : Nat) : Int) < L) → ExI d s c (k + 1) found L) := by
  have hk : ∀ m : Nat, s + k + m * c < s + k + M * c → d (s + k + m * c) ≤ 0 := fun m hm => hlt m (by
    rcases Nat.lt_or_ge m M with e | e
    · exact e
    · have := Nat.mul_le_mul_right c e; omega)
  refine ⟨fun hh => .inr ⟨rfl, _, rfl, hd, fun r hr m hm => ?_⟩, fun hh => ?_⟩
  · by_cases e : r = k
    · subst e; exact hk m hm
    · rcases h with ⟨rfl, rfl, h⟩ | ⟨rfl, n, rfl, h1, h2⟩
      · exact h r (by omega) m
      · rcases hh with hh | hh
        · cases hh
        · exact h2 r (by omega) m (by omega)
  · rcases h with ⟨rfl, rfl, h⟩ | ⟨rfl, n, rfl, h1, h2⟩
    · exact absurd (.inl rfl) hh
    · refine .inr ⟨rfl, n, rfl, h1, fun r hr m hm => ?_⟩
      by_cases e : r = k
      · subst e
        refine hk m ?_
        have : ¬ ((s + r + M * c : Nat) : Int) < (n : Int) := fun e => hh (.inr e)
        omega
      · exact h2 r (by omega) m hm

/-- the first tick of a residue at which a growing difference is positive -/
theorem grow_first {d : Nat → Int} {s c k : Nat} {D : Int} (hP : Per d s c D) (hD : 0 < D) (hd : d (s + k) ≤ 0) :
    0 < d (s + k + ((-(d (s + k)) / D).toNat + 1) * c) ∧ ∀ m, m < (-(d (s + k)) / D).toNat + 1 → d (s + k + m * c) ≤ 0 := by
  obtain ⟨v, hv⟩ : ∃ v, d (s + k) = v := ⟨_, rfl⟩
  have hq : 0 ≤ -v / D := Int.ediv_nonneg (by omega) (by omega)
  have h1 := Int.mul_ediv_add_emod (-v) D
  have h2 := Int.emod_nonneg (-v) (show D ≠ 0 by omega)
  have h3 := Int.emod_lt_of_pos (-v) hD
  obtain ⟨q, hq'⟩ := Int.eq_ofNat_of_zero_le hq
  rw [hv, hq', Int.toNat_natCast]
  rw [hq'] at h1
  refine ⟨?_, fun m hm => ?_⟩
  · rw [hP.times _ _ (by omega), hv]
    have : ((q + 1 : Nat) : Int) * D = D * q + D := by rw [Int.natCast_add, Int.add_mul, Int.mul_comm D]; simp
    rw [this]; omega
  · rw [hP.times _ _ (by omega), hv]
    have : (m : Int) * D ≤ q * D := Int.mul_le_mul_of_nonneg_right (by omega) (by omega)
    rw [Int.mul_comm (q : Int)] at this
    omega

/-- what order.Settles knows after k residues -/
structure SeI (d : Nat → Int) (s c k : Nat) (L : Int) : Prop where
  lo : -1 ≤ L
  hit : 0 ≤ L → 0 < d L.toNat
  low : ∀ n : Nat, n ≤ s → 0 < d n → (n : Int) ≤ L
  res : ∀ r, r < k → ∀ m : Nat, 0 < d (s + r + m * c) → ((s + r + m * c : Nat) : Int) ≤ L

theorem SeI.done {d : Nat → Int} {s c : Nat} {L : Int} (hc : 1 ≤ c) (h : SeI d s c c L) : SeS (fun n => 0 < d n) (L + 1) true := by
  have hlo := h.lo
  refine .inl ⟨rfl, (L + 1).toNat, by omega, fun n hn hu => ?_, fun k hk => ?_⟩
  · by_cases e : n ≤ s
    · have := h.low n e hu; omega
    · obtain ⟨r, m, hr, rfl⟩ := res_of hc (show s ≤ n by omega)
      have := h.res r hr m hu; omega
  · have h0 : 0 ≤ L := by omega
    have := h.hit h0
    rwa [show L.toNat = k by omega] at this

theorem SeI.skip {d : Nat → Int} {s c k : Nat} {L D : Int} (h : SeI d s c k L) (hP : Per d s c D) (hD : D ≤ 0) (hd : d (s + k) ≤ 0) : SeI d s c (k + 1) L :=
  ⟨h.lo, h.hit, h.low, fun r hr m hm => by
    by_cases e : r = k
    · subst e
      rw [hP.times m (s + r) (by omega)] at hm
      have : (m : Int) * D ≤ 0 := by have := Int.mul_le_mul_of_nonneg_left (c := (m : Int)) hD (by omega); simpa using this
      omega
    · exact h.res r (by omega) m hm⟩

theorem SeI.cand {d : Nat → Int} {s c k : Nat} {L D : Int} (h : SeI d s c k L) (hP : Per d s c D) (hD : D < 0) (hd : 0 < d (s + k)) :
    SeI d s c (k + 1) (max L ((s + k + ((d (s + k) - 1) / -D).toNat * c : Nat) : Int)) := by
  obtain ⟨v, hv⟩ : ∃ v, d (s + k) = v := ⟨_, rfl⟩
  rw [hv] at hd ⊢
  have hq : 0 ≤ (v - 1) / -D := Int.ediv_nonneg (by omega) (by omega)
  have h1 := Int.mul_ediv_add_emod (v - 1) (-D)
  have h2 := Int.emod_nonneg (v - 1) (show -D ≠ 0 by omega)
  have h3 := Int.emod_lt_of_pos (v - 1) (show 0 < -D by omega)
  obtain ⟨q, hq'⟩ := Int.eq_ofNat_of_zero_le hq
  rw [hq', Int.toNat_natCast]
  rw [hq'] at h1
  have hlo := h.lo
  have hneg : -D * (q : Int) = -((q : Int) * D) := by rw [Int.neg_mul, Int.mul_comm]
  have hhit : 0 < d (s + k + q * c) := by
    rw [hP.times _ _ (by omega), hv]
    omega
  obtain ⟨T, hT⟩ : ∃ T, s + k + q * c = T := ⟨_, rfl⟩
  refine ⟨by omega, fun h0 => ?_, fun n hn hu => by have := h.low n hn hu; omega, fun r hr m hm => ?_⟩
  · rw [hT] at hhit ⊢
    by_cases e : L ≤ (T : Int)
    · rw [Int.max_eq_right e, Int.toNat_natCast]; exact hhit
    · rw [Int.max_eq_left (by omega)]; exact h.hit (by omega)
  · by_cases e : r = k
    · subst e
      rw [hP.times _ _ (by omega), hv] at hm
      have hmq : m ≤ q := by
        rcases Nat.lt_or_ge q m with e | e
        · exfalso
          have : ((q : Int) + 1) * -D ≤ m * -D := Int.mul_le_mul_of_nonneg_right (by omega) (by omega)
          rw [Int.add_mul, Int.one_mul, Int.mul_neg, Int.mul_neg] at this
          omega
        · exact e
      have := Nat.mul_le_mul_right c hmq
      omega
    · have := h.res r (by omega) m hm; omega

/-- again and again -/
theorem often_flat {d : Nat → Int} {s c n : Nat} {D : Int} (hc : 1 ≤ c) (hP : Per d s c D) (hD : 0 ≤ D) (hn : s ≤ n) (hd : 0 < d n) : ∀ m, ∃ k, m ≤ k ∧ 0 < d k := fun m =>
  ⟨n + m * c, by have := Nat.le_mul_of_pos_right m (show 0 < c by omega); omega, by
    rw [hP.times m n hn]
    have : 0 ≤ (m : Int) * D := Int.mul_nonneg (by omega) hD
    omega⟩

theorem often_grow {d : Nat → Int} {s c : Nat} {D : Int} (hc : 1 ≤ c) (hP : Per d s c D) (hD : 0 < D) : ∀ m, ∃ k, m ≤ k ∧ 0 < d k := fun m => by
  obtain ⟨M, hM⟩ : ∃ M : Nat, M = (1 - d s).toNat + m := ⟨_, rfl⟩
  refine ⟨s + M * c, by have := Nat.le_mul_of_pos_right M (show 0 < c by omega); omega, ?_⟩
  rw [hP.times M s (Nat.le_refl _)]
  have : (M : Int) * 1 ≤ M * D := Int.mul_le_mul_of_nonneg_left (by omega) (by omega)
  omega

theorem SeS.congr {U V : Nat → Prop} {t : Int} {ok : Bool} (h : SeS U t ok) (e : ∀ n, U n ↔ V n) : SeS V t ok := by
  have : U = V := funext fun n => propext (e n)
  rw [← this]; exact h
theorem ExS.congr {U V : Nat → Prop} {t : Int} {ok : Bool} (h : ExS U t ok) (e : ∀ n, U n ↔ V n) : ExS V t ok := by
  have : U = V := funext fun n => propext (e n)
  rw [← this]; exact h

/-- not alike at a tick -/
def Ne2 (f g : Cv) (n : Nat) : Prop := Up f g n ∨ Up g f n

/-- the statement OrderDual, plain -/
theorem dual_plain {f g : Cv} {t u x m : Int} {ok is ex meets : Bool} (h1 : SeS (Up f g) t ok) (h2 : SeS (Up g f) u is) (h3 : ExS (Up f g) x ex) (h4 : SeS (Ne2 f g) m meets) :
    ¬ ((ok = true ∧ (decide (0 < t) ≠ ex)) ∨ (ok = true ∧ ex = true ∧ t ≤ x) ∨ (ok = false ∧ ex = false)) ∧ (meets = true ↔ ok = true ∧ is = true) ∧ (meets = true → m = max t u) := by
  refine ⟨?_, ?_, ?_⟩
  · rcases h1 with ⟨rfl, n, rfl, a1, a2⟩ | ⟨rfl, rfl, a1⟩
    · rcases h3 with ⟨rfl, y, rfl, b1, b2⟩ | ⟨rfl, rfl, b1⟩
      · have : y < n := by
          rcases Nat.lt_or_ge y n with e | e
          · exact e
          · exact absurd b1 (a1 y e)
        rintro (⟨_, h⟩ | ⟨_, _, h⟩ | ⟨h, _⟩)
        · apply h; simp; omega
        · omega
        · cases h
      · have : n = 0 := by
          rcases n with _ | k
          · rfl
          · exact absurd (a2 k rfl) (b1 k)
        subst this
        rintro (⟨_, h⟩ | ⟨_, h, _⟩ | ⟨h, _⟩)
        · apply h; rfl
        · cases h
        · cases h
    · rcases h3 with ⟨rfl, y, rfl, b1, b2⟩ | ⟨rfl, rfl, b1⟩
      · rintro (⟨h, _⟩ | ⟨h, _⟩ | ⟨_, h⟩) <;> cases h
      · obtain ⟨k, _, hk⟩ := a1 0
        exact absurd hk (b1 k)
  · rcases h1 with ⟨rfl, n, rfl, a1, a2⟩ | ⟨rfl, rfl, a1⟩
    · rcases h2 with ⟨rfl, y, rfl, b1, b2⟩ | ⟨rfl, rfl, b1⟩
      · rcases h4 with ⟨rfl, z, rfl, c1, c2⟩ | ⟨rfl, rfl, c1⟩
        · simp
        · exfalso
          obtain ⟨k, hk, hu⟩ := c1 (max n y)
          rcases hu with hu | hu
          · exact a1 k (by omega) hu
          · exact b1 k (by omega) hu
      · rcases h4 with ⟨rfl, z, rfl, c1, c2⟩ | ⟨rfl, rfl, c1⟩
        · exfalso
          obtain ⟨k, hk, hu⟩ := b1 z
          exact c1 k hk (.inr hu)
        · simp
    · rcases h4 with ⟨rfl, z, rfl, c1, c2⟩ | ⟨rfl, rfl, c1⟩
      · exfalso
        obtain ⟨k, hk, hu⟩ := a1 z
        exact c1 k hk (.inl hu)
      · simp
  · intro hm
    rcases h4 with ⟨rfl, z, rfl, c1, c2⟩ | ⟨rfl, rfl, c1⟩
    · rcases h1 with ⟨rfl, n, rfl, a1, a2⟩ | ⟨rfl, rfl, a1⟩
      · rcases h2 with ⟨rfl, y, rfl, b1, b2⟩ | ⟨rfl, rfl, b1⟩
        · have hn : n ≤ z := by
            rcases n with _ | k
            · omega
            · rcases Nat.lt_or_ge z (k + 1) with e | e
              · exact absurd (Or.inl (a2 k rfl)) (c1 k (by omega))
              · exact e
          have hy : y ≤ z := by
            rcases y with _ | k
            · omega
            · rcases Nat.lt_or_ge z (k + 1) with e | e
              · exact absurd (Or.inr (b2 k rfl)) (c1 k (by omega))
              · exact e
          have hz : z ≤ max n y := by
            rcases z with _ | k
            · omega
            · rcases Nat.lt_or_ge (max n y) (k + 1) with e | e
              · rcases c2 k rfl with hu | hu
                · exact absurd hu (a1 k (by omega))
                · exact absurd hu (b1 k (by omega))
              · exact e
          omega
        · exfalso
          obtain ⟨k, hk, hu⟩ := b1 z
          exact c1 k hk (.inr hu)
      · exfalso
        obtain ⟨k, hk, hu⟩ := a1 z
        exact c1 k hk (.inl hu)
    · cases hm
end Go.Proofs.Ytmieikfmbnaoaaa
