/- Plain words: the references of Exceeds, Settles and Meets; nothing of the program. -/
import Derived.Test.YthgfmaijoigckaaOrdLaw2
namespace Go.Proofs.Ythgfmaijoigckaa
set_option linter.unusedVariables false

/-- by how much f is above g at a tick (1, if f alone is infinite) -/
def abv (f g : Cv) (t : Nat) : Int := if g.at t = inf then 0 else if f.at t = inf then 1 else f.at t - g.at t

theorem abv_pos {f g : Cv} (hf : f.Ok) (hg : g.Ok) {t : Nat} (ht : t ≤ 20000) : 0 < abv f g t ↔ g.at t < f.at t := by
  have h1 := at_inf_bd hf ht; have h2 := at_inf_bd hg ht
  unfold abv
  unfold inf at *
  split
  · omega
  · split <;> omega
theorem abv_fin {f g : Cv} (hf : f.Fin) (hg : g.Fin) {t : Nat} (ht : t ≤ 20000) : abv f g t = dif f g t := by
  have h1 := hf.at_bd t; have h2 := hg.at_bd t
  unfold abv dif inf
  rw [if_neg (by omega), if_neg (by omega)]
theorem abv_bd {f g : Cv} (hf : f.Ok) (hg : g.Ok) {t : Nat} (ht : t ≤ 20000) : -4611686018427387904 ≤ abv f g t ∧ abv f g t ≤ 4611686018427387904 := by
  have h1 := at_inf_bd hf ht; have h2 := at_inf_bd hg ht
  unfold abv
  split
  · omega
  · split <;> omega

/-- the tick from which the references look on -/
def ordM (f g : Cv) : Nat := max f.vals.length g.vals.length
theorem ordF_le (f g : Cv) : ordF f g ≤ ordM f g := by unfold ordF ordM; omega

/-- no tick in the window is above -/
def NoUpTo (f g : Cv) (k : Nat) : Prop := ∀ n, n < k → ¬ g.at n < f.at n
theorem NoUpTo.zero (f g : Cv) : NoUpTo f g 0 := fun n h => by omega
theorem NoUpTo.succ {f g : Cv} {k : Nat} (h : NoUpTo f g k) (h1 : ¬ g.at k < f.at k) : NoUpTo f g (k + 1) := fun n hn => by
  by_cases e : n = k
  · rw [e]; exact h1
  · exact h n (by omega)

theorem ex2_found {f g : Cv} (hf : f.Ok) (hg : g.Ok) {k : Nat} (hk : k ≤ 20000) (h : NoUpTo f g k) (hu : g.at k < f.at k) : ExS (Up f g) k true :=
  .inl ⟨rfl, k, rfl, (up_iff hf hg (by omega)).2 hu, fun m hm hum => h m hm ((up_iff hf hg (by omega)).1 hum)⟩

theorem ex2_none {f g : Cv} (hf : f.Ok) (hg : g.Ok) (h : NoUpTo f g (ordM f g + ordC f g)) (hd : ¬ (f.Fin ∧ g.Fin) ∨ ordD f g ≤ 0) : ExS (Up f g) 0 false := by
  have B := ord_b hf hg
  have hF := ordF_le f g; have hc := B.c1
  by_cases hfin : f.Fin ∧ g.Fin
  · have hD : ordD f g ≤ 0 := hd.elim (fun h => absurd hfin h) id
    have hP := (ord_per hfin.1 hfin.2).mono hF
    have hx : ExI (dif f g) (ordM f g) (ordC f g) (ordC f g) false 0 := .inl ⟨rfl, rfl, fun r hr m => by
      rw [hP.times m _ (by omega)]
      have h1 := h (ordM f g + r) (by omega)
      have h2 : (m : Int) * ordD f g ≤ 0 := by have := Int.mul_le_mul_of_nonneg_left (c := (m : Int)) hD (by omega); simpa using this
      unfold dif; omega⟩
    exact (hx.done hc (fun n hn => by have := h n (by omega); unfold dif; omega)).congr fun n => (up_dif hfin.1 hfin.2 n).symm
  · exact ex_inf hf hg hfin fun n hn => h n (by omega)

/-- what the second loop of the reference knows -/
def ExR (f g : Cv) (r : Nat) (L : Int) : Prop := (r = 0 ∧ L = -1) ∨ (1 ≤ r ∧ 0 ≤ L ∧ ExI (dif f g) (ordM f g) (ordC f g) r true L)
theorem ExR.start (f g : Cv) : ExR f g 0 (-1) := .inl ⟨rfl, rfl⟩
theorem ExR.next {f g : Cv} (hf : f.Fin) (hg : g.Fin) (hD : 0 < ordD f g) {r : Nat} {L : Int} (h : ExR f g r L) (hd : dif f g (ordM f g + r) ≤ 0) {T : Nat} (hT : T = ordM f g + r + ((-(dif f g (ordM f g + r)) / ordD f g).toNat + 1) * ordC f g) :
    (L < 0 ∨ (T : Int) < L → ExR f g (r + 1) T) ∧ (¬ (L < 0 ∨ (T : Int) < L) → ExR f g (r + 1) L) := by
  have hP := (ord_per hf hg).mono (ordF_le f g)
  have hc := (ord_b hf.1 hg.1).c1
  have hgf := grow_first hP hD hd
  rcases h with ⟨rfl, rfl⟩ | ⟨hr, hL, h⟩
  · have h0 : ExI (dif f g) (ordM f g) (ordC f g) 0 false 0 := .inl ⟨rfl, rfl, fun r hr => by omega⟩
    have := h0.cand hgf.1 hgf.2 hc
    rw [← hT] at this
    exact ⟨fun _ => .inr ⟨by omega, by omega, this.1 (.inl rfl)⟩, fun hh => absurd (.inl (by omega)) hh⟩
  · have := h.cand hgf.1 hgf.2 hc
    rw [← hT] at this
    refine ⟨fun hh => .inr ⟨by omega, by omega, this.1 (.inr (by omega))⟩, fun hh => .inr ⟨by omega, hL, this.2 (fun e => hh ?_)⟩⟩
    rcases e with e | e
    · cases e
    · exact .inr e
theorem ExR.done {f g : Cv} (hf : f.Fin) (hg : g.Fin) {L : Int} (h : ExR f g (ordC f g) L) (h0 : NoUpTo f g (ordM f g + ordC f g)) : ExS (Up f g) L true := by
  have hc := (ord_b hf.1 hg.1).c1
  rcases h with ⟨h, _⟩ | ⟨_, _, h⟩
  · omega
  · exact (h.done hc (fun n hn => by have := h0 n (by omega); unfold dif; omega)).congr fun n => (up_dif hf hg n).symm

/-- what the loop of the reference of Settles knows: of the ticks below M it is the last one above, of those behind one each residue's last -/
structure SeR (f g : Cv) (k : Nat) (L : Int) : Prop where
  lo : -1 ≤ L
  hit : 0 ≤ L → Up f g L.toNat
  low : ∀ n : Nat, n < k → n < ordM f g → g.at n < f.at n → (n : Int) ≤ L
  res : ∀ n : Nat, n < k → ordM f g ≤ n → ∀ m : Nat, Up f g (n + m * ordC f g) → ((n + m * ordC f g : Nat) : Int) ≤ L
  bd : L ≤ 461168601842738790
theorem SeR.zero (f g : Cv) : SeR f g 0 (-1) := ⟨by omega, fun h => by omega, fun n h => by omega, fun n h => by omega, by omega⟩

theorem SeR.no {f g : Cv} (hf : f.Ok) (hg : g.Ok) {k : Nat} {L : Int} (hk : k ≤ 20000) (h : SeR f g k L) (hd : ¬ g.at k < f.at k) (hD : f.Fin ∧ g.Fin → ordM f g ≤ k → ordD f g ≤ 0) : SeR f g (k + 1) L := by
  refine ⟨h.lo, h.hit, fun n hn hm hu => ?_, fun n hn hm m hu => ?_, h.bd⟩
  · by_cases e : n = k
    · rw [e] at hu; exact absurd hu hd
    · exact h.low n (by omega) hm hu
  · by_cases e : n = k
    · subst e
      exfalso
      have hF := ordF_le f g
      by_cases hfin : f.Fin ∧ g.Fin
      · have hP := (ord_per hfin.1 hfin.2).mono hF
        rw [up_dif hfin.1 hfin.2, hP.times m n hm] at hu
        have h2 : (m : Int) * ordD f g ≤ 0 := by have := Int.mul_le_mul_of_nonneg_left (c := (m : Int)) (hD hfin hm) (by omega); simpa using this
        unfold dif at hu; omega
      · have B := ord_b hf hg
        rw [up_inf hf hg hfin B.fs B.gs (show ordF f g ≤ n + m * ordC f g by omega), ← up_inf hf hg hfin B.fs B.gs (show ordF f g ≤ n by omega), up_iff hf hg (by omega)] at hu
        exact hd hu
    · exact h.res n (by omega) hm m hu

theorem SeR.early {f g : Cv} (hf : f.Ok) (hg : g.Ok) {k : Nat} {L : Int} (hk : k < ordM f g) (hk2 : k ≤ 20000) (h : SeR f g k L) (hu : g.at k < f.at k) : SeR f g (k + 1) (max L k) := by
  have hlo := h.lo; have hbd := h.bd
  refine ⟨by omega, fun h0 => ?_, fun n hn hm hu => ?_, fun n hn hm => by omega, by omega⟩
  · by_cases e : L ≤ (k : Int)
    · rw [Int.max_eq_right e, Int.toNat_natCast]; exact (up_iff hf hg (by omega)).2 hu
    · rw [Int.max_eq_left (by omega)]; exact h.hit (by omega)
  · by_cases e : n = k
    · omega
    · have := h.low n (by omega) hm hu; omega

theorem SeR.late {f g : Cv} (hf : f.Fin) (hg : g.Fin) {k : Nat} {L : Int} (hk : ordM f g ≤ k) (hk2 : k ≤ 20000) (h : SeR f g k L) (hu0 : g.at k < f.at k) (hD : ordD f g < 0) {T : Nat} (hT : T = k + ((dif f g k - 1) / -ordD f g).toNat * ordC f g) (hTb : (T : Int) ≤ 461168601842738790) :
    SeR f g (k + 1) (max L T) := by
  have hP := (ord_per hf hg).mono (ordF_le f g)
  obtain ⟨v, hv⟩ : ∃ v, dif f g k = v := ⟨_, rfl⟩
  have hv0 : 0 < v := by rw [← hv]; unfold dif; omega
  rw [hv] at hT
  have hq : 0 ≤ (v - 1) / -ordD f g := Int.ediv_nonneg (by omega) (by omega)
  have h1 := Int.mul_ediv_add_emod (v - 1) (-ordD f g)
  have h2 := Int.emod_nonneg (v - 1) (show -ordD f g ≠ 0 by omega)
  have h3 := Int.emod_lt_of_pos (v - 1) (show 0 < -ordD f g by omega)
  obtain ⟨q, hq'⟩ := Int.eq_ofNat_of_zero_le hq
  rw [hq', Int.toNat_natCast] at hT
  rw [hq'] at h1
  have hlo := h.lo; have hbd := h.bd
  have hneg : -ordD f g * (q : Int) = -((q : Int) * ordD f g) := by rw [Int.neg_mul, Int.mul_comm]
  have hhit : Up f g T := by
    rw [up_dif hf hg, hT, hP.times q k hk, hv]; omega
  refine ⟨by omega, fun h0 => ?_, fun n hn hm hu => by have := h.low n (by omega) hm hu; omega, fun n hn hm m hu => ?_, by omega⟩
  · by_cases e : L ≤ (T : Int)
    · rw [Int.max_eq_right e, Int.toNat_natCast]; exact hhit
    · rw [Int.max_eq_left (by omega)]; exact h.hit (by omega)
  · by_cases e : n = k
    · subst e
      rw [up_dif hf hg, hP.times m n hm, hv] at hu
      have hmq : m ≤ q := by
        rcases Nat.lt_or_ge q m with e | e
        · exfalso
          have : ((q : Int) + 1) * -ordD f g ≤ m * -ordD f g := Int.mul_le_mul_of_nonneg_right (by omega) (by omega)
          rw [Int.add_mul, Int.one_mul, Int.mul_neg, Int.mul_neg] at this
          omega
        · exact e
      have := Nat.mul_le_mul_right (ordC f g) hmq
      omega
    · have := h.res n (by omega) hm m hu; omega

theorem SeR.done {f g : Cv} (hf : f.Ok) (hg : g.Ok) {L : Int} (hM : ordM f g ≤ 400) (h : SeR f g (ordM f g + ordC f g) L) : SeS (Up f g) (L + 1) true := by
  have hlo := h.lo
  have B := ord_b hf hg
  refine .inl ⟨rfl, (L + 1).toNat, by omega, fun n hn hu => ?_, fun k hk => ?_⟩
  · by_cases e : n < ordM f g
    · have := h.low n (by omega) e ((up_iff hf hg (by omega)).1 hu); omega
    · obtain ⟨r, m, hr, rfl⟩ := res_of B.c1 (show ordM f g ≤ n by omega)
      have := h.res (ordM f g + r) (by omega) (by omega) m hu; omega
  · have := h.hit (by omega)
    rwa [show L.toNat = k by omega] at this

/-- a tick behind all values is above, and the difference does not shrink; or it grows -/
theorem se2_never {f g : Cv} (hf : f.Ok) (hg : g.Ok) {k : Nat} (hk : ordM f g ≤ k) (hk2 : k ≤ 20000) (h : (g.at k < f.at k ∧ (f.Fin ∧ g.Fin → 0 ≤ ordD f g)) ∨ (f.Fin ∧ g.Fin ∧ 0 < ordD f g)) : SeS (Up f g) 0 false := by
  have hF := ordF_le f g
  by_cases hfin : f.Fin ∧ g.Fin
  · refine se_never hfin.1 hfin.2 (n := k) (by omega) ?_
    rcases h with ⟨h1, h2⟩ | ⟨_, _, h⟩
    · exact .inl ⟨by unfold dif; omega, h2 hfin⟩
    · exact .inr h
  · have B := ord_b hf hg
    rcases h with ⟨h1, _⟩ | ⟨h1, h2, _⟩
    · refine .inr ⟨rfl, rfl, fun m => ⟨max m k, by omega, ?_⟩⟩
      rw [up_inf hf hg hfin B.fs B.gs (show ordF f g ≤ max m k by omega), ← up_inf hf hg hfin B.fs B.gs (show ordF f g ≤ k by omega), up_iff hf hg (by omega)]
      exact h1
    · exact absurd ⟨h1, h2⟩ hfin

/-- what the reference of Meets returns -/
theorem meets_ref {f g : Cv} {a b m : Int} {ok is meets : Bool} (h1 : SeS (Up f g) a ok) (h2 : SeS (Up g f) b is) (h4 : SeS (Ne2 f g) m meets) :
    meets = (ok && is) ∧ m = if (ok && is) = true then max a b else 0 := by
  obtain ⟨x, ex, hx⟩ : ∃ x ex, ExS (Up f g) x ex := by
    by_cases hu : ∃ n, Up f g n
    · obtain ⟨n, h3, h5⟩ : ∃ n, Up f g n ∧ ∀ m, m < n → ¬ Up f g m := by
        obtain ⟨n, hn⟩ := hu
        induction n using Nat.strongRecOn with
        | _ n ih =>
          by_cases hl : ∃ m, m < n ∧ Up f g m
          · obtain ⟨m, hm, hum⟩ := hl; exact ih m hm hum
          · exact ⟨n, hn, fun m hm hum => hl ⟨m, hm, hum⟩⟩
      exact ⟨n, true, .inl ⟨rfl, n, rfl, h3, h5⟩⟩
    · exact ⟨0, false, .inr ⟨rfl, rfl, fun n hn => hu ⟨n, hn⟩⟩⟩
  have h := dual_plain h1 h2 hx h4
  have e : meets = (ok && is) := by
    rw [Bool.eq_iff_iff, h.2.1, Bool.and_eq_true]
  refine ⟨e, ?_⟩
  rw [← e]
  cases meets
  · rcases h4 with ⟨h4, _⟩ | ⟨_, h4, _⟩
    · cases h4
    · rw [h4]; rfl
  · rw [if_pos rfl]; exact h.2.2 rfl
end Go.Proofs.Ythgfmaijoigckaa
