/- Plain words: the references of Exceeds, Settles and Meets; nothing of the program. -/
import Derived.Test.YthdibkmjoiipgaaOrdLaw2
import Derived.Test.YthdibkmjoiipgaaBy
import Derived.Test.YthdibkmjoiipgaaRefAt
import Derived.BigQuiet
import Derived.Deep.QuietTactic
import Derived.Deep.LoopGhost
import Derived.Deep.RegionHeld3
import Derived.Deep.DeepCutAuto
import Derived.Deep.MidRow
namespace Go.Proofs.Ythdibkmjoiipgaa
set_option linter.unusedVariables false

/-- by how much f is above g at a tick (1, if f alone is infinite) -/
def abv (f g : Cv) (t : Nat) : Int := if g.at t = inf then 0 else if f.at t = inf then 1 else f.at t - g.at t

theorem abv_pos {f g : Cv} (hf : f.Ok) (hg : g.Ok) {t : Nat} (ht : t ≤ 20000) : 0 < abv f g t ↔ g.at t < f.at t := by
  have h1 := at_inf_bd hf ht; have h2 := at_inf_bd hg ht
  unfold abv
  unfold inf at *
  split
  · omega
  · split <;> omega
theorem abv_fin {f g : Cv} (hf : f.Fin) (hg : g.Fin) {t : Nat} (ht : t ≤ 20000) : abv f g t = dif f g t := by
  have h1 := hf.at_bd t; have h2 := hg.at_bd t
  unfold abv dif inf
  rw [if_neg (by omega), if_neg (by omega)]
theorem abv_bd {f g : Cv} (hf : f.Ok) (hg : g.Ok) {t : Nat} (ht : t ≤ 20000) : -4611686018427387904 ≤ abv f g t ∧ abv f g t ≤ 4611686018427387904 := by
  have h1 := at_inf_bd hf ht; have h2 := at_inf_bd hg ht
  unfold abv
  split
  · omega
  · split <;> omega

/-- the tick from which the references look on -/
def ordM (f g : Cv) : Nat := max f.vals.length g.vals.length
theorem ordF_le (f g : Cv) : ordF f g ≤ ordM f g := by unfold ordF ordM; omega

/-- no tick in the window is above -/
def NoUpTo (f g : Cv) (k : Nat) : Prop := ∀ n, n < k → ¬ g.at n < f.at n
theorem NoUpTo.zero (f g : Cv) : NoUpTo f g 0 := fun n h => by omega
theorem NoUpTo.succ {f g : Cv} {k : Nat} (h : NoUpTo f g k) (h1 : ¬ g.at k < f.at k) : NoUpTo f g (k + 1) := fun n hn => by
  by_cases e : n = k
  · rw [e]; exact h1
  · exact h n (by omega)

theorem ex2_found {f g : Cv} (hf : f.Ok) (hg : g.Ok) {k : Nat} (hk : k ≤ 20000) (h : NoUpTo f g k) (hu : g.at k < f.at k) : ExS (Up f g) k true :=
  .inl ⟨rfl, k, rfl, (up_iff hf hg (by omega)).2 hu, fun m hm hum => h m hm ((up_iff hf hg (by omega)).1 hum)⟩

theorem ex2_none {f g : Cv} (hf : f.Ok) (hg : g.Ok) (h : NoUpTo f g (ordM f g + ordC f g)) (hd : ¬ (f.Fin ∧ g.Fin) ∨ ordD f g ≤ 0) : ExS (Up f g) 0 false := by
  have B := ord_b hf hg
  have hF := ordF_le f g; have hc := B.c1
  by_cases hfin : f.Fin ∧ g.Fin
  · have hD : ordD f g ≤ 0 := hd.elim (fun h => absurd hfin h) id
    have hP := (ord_per hfin.1 hfin.2).mono hF
    have hx : ExI (dif f g) (ordM f g) (ordC f g) (ordC f g) false 0 := .inl ⟨rfl, rfl, fun r hr m => by
      rw [hP.times m _ (by omega)]
      have h1 := h (ordM f g + r) (by omega)
      have h2 : (m : Int) * ordD f g ≤ 0 := by have := Int.mul_le_mul_of_nonneg_left (c := (m : Int)) hD (by omega); simpa using this
      unfold dif; omega⟩
    exact (hx.done hc (fun n hn => by have := h n (by omega); unfold dif; omega)).congr fun n => (up_dif hfin.1 hfin.2 n).symm
  · exact ex_inf hf hg hfin fun n hn => h n (by omega)

/-- what the second loop of the reference knows -/
def ExR (f g : Cv) (r : Nat) (L : Int) : Prop := (r = 0 ∧ L = -1) ∨ (1 ≤ r ∧ 0 ≤ L ∧ ExI (dif f g) (ordM f g) (ordC f g) r true L)
theorem ExR.start (f g : Cv) : ExR f g 0 (-1) := .inl ⟨rfl, rfl⟩
theorem ExR.next {f g : Cv} (hf : f.Fin) (hg : g.Fin) (hD : 0 < ordD f g) {r : Nat} {L : Int} (h : ExR f g r L) (hd : dif f g (ordM f g + r) ≤ 0) {T : Nat} (hT : T = ordM f g + r + ((-(dif f g (ordM f g + r)) / ordD f g).toNat + 1) * ordC f g) :
    (L < 0 ∨ (T : Int) < L → ExR f g (r + 1) T) ∧ (¬ (L < 0 ∨ (T : Int) < L) → ExR f g (r + 1) L) := by
  have hP := (ord_per hf hg).mono (ordF_le f g)
  have hc := (ord_b hf.1 hg.1).c1
  have hgf := grow_first hP hD hd
  rcases h with ⟨rfl, rfl⟩ | ⟨hr, hL, h⟩
  · have h0 : ExI (dif f g) (ordM f g) (ordC f g) 0 false 0 := .inl ⟨rfl, rfl, fun r hr => by omega⟩
    have := h0.cand hgf.1 hgf.2 hc
    rw [← hT] at this
    exact ⟨fun _ => .inr ⟨by omega, by omega, this.1 (.inl rfl)⟩, fun hh => absurd (.inl (by omega)) hh⟩
  · have := h.cand hgf.1 hgf.2 hc
    rw [← hT] at this
    refine ⟨fun hh => .inr ⟨by omega, by omega, this.1 (.inr (by omega))⟩, fun hh => .inr ⟨by omega, hL, this.2 (fun e => hh ?_)⟩⟩
    rcases e with e | e
    · cases e
    · exact .inr e
theorem ExR.done {f g : Cv} (hf : f.Fin) (hg : g.Fin) {L : Int} (h : ExR f g (ordC f g) L) (h0 : NoUpTo f g (ordM f g + ordC f g)) : ExS (Up f g) L true := by
  have hc := (ord_b hf.1 hg.1).c1
  rcases h with ⟨h, _⟩ | ⟨_, _, h⟩
  · omega
  · exact (h.done hc (fun n hn => by have := h0 n (by omega); unfold dif; omega)).congr fun n => (up_dif hf hg n).symm

/-- what the loop of the reference of Settles knows: of the ticks below M it is the last one above, of those behind one each residue's last -/
structure SeR (f g : Cv) (k : Nat) (L : Int) : Prop where
  lo : -1 ≤ L
  hit : 0 ≤ L → Up f g L.toNat
  low : ∀ n : Nat, n < k → n < ordM f g → g.at n < f.at n → (n : Int) ≤ L
  res : ∀ n : Nat, n < k → ordM f g ≤ n → ∀ m : Nat, Up f g (n + m * ordC f g) → ((n + m * ordC f g : Nat) : Int) ≤ L
  bd : L ≤ 461168601842738790
theorem SeR.zero (f g : Cv) : SeR f g 0 (-1) := ⟨by omega, fun h => by omega, fun n h => by omega, fun n h => by omega, by omega⟩

theorem SeR.no {f g : Cv} (hf : f.Ok) (hg : g.Ok) {k : Nat} {L : Int} (hk : k ≤ 20000) (h : SeR f g k L) (hd : ¬ g.at k < f.at k) (hD : f.Fin ∧ g.Fin → ordM f g ≤ k → ordD f g ≤ 0) : SeR f g (k + 1) L := by
  refine ⟨h.lo, h.hit, fun n hn hm hu => ?_, fun n hn hm m hu => ?_, h.bd⟩
  · by_cases e : n = k
    · rw [e] at hu; exact absurd hu hd
    · exact h.low n (by omega) hm hu
  · by_cases e : n = k
    · subst e
      exfalso
      have hF := ordF_le f g
      by_cases hfin : f.Fin ∧ g.Fin
      · have hP := (ord_per hfin.1 hfin.2).mono hF
        rw [up_dif hfin.1 hfin.2, hP.times m n hm] at hu
        have h2 : (m : Int) * ordD f g ≤ 0 := by have := Int.mul_le_mul_of_nonneg_left (c := (m : Int)) (hD hfin hm) (by omega); simpa using this
        unfold dif at hu; omega
      · have B := ord_b hf hg
        rw [up_inf hf hg hfin B.fs B.gs (show ordF f g ≤ n + m * ordC f g by omega), ← up_inf hf hg hfin B.fs B.gs (show ordF f g ≤ n by omega), up_iff hf hg (by omega)] at hu
        exact hd hu
    · exact h.res n (by omega) hm m hu

theorem SeR.early {f g : Cv} (hf : f.Ok) (hg : g.Ok) {k : Nat} {L : Int} (hk : k < ordM f g) (hk2 : k ≤ 20000) (h : SeR f g k L) (hu : g.at k < f.at k) : SeR f g (k + 1) (max L k) := by
  have hlo := h.lo; have hbd := h.bd
  refine ⟨by omega, fun h0 => ?_, fun n hn hm hu => ?_, fun n hn hm => by omega, by omega⟩
  · by_cases e : L ≤ (k : Int)
    · rw [Int.max_eq_right e, Int.toNat_natCast]; exact (up_iff hf hg (by omega)).2 hu
    · rw [Int.max_eq_left (by omega)]; exact h.hit (by omega)
  · by_cases e : n = k
    · omega
    · have := h.low n (by omega) hm hu; omega

theorem SeR.late {f g : Cv} (hf : f.Fin) (hg : g.Fin) {k : Nat} {L : Int} (hk : ordM f g ≤ k) (hk2 : k ≤ 20000) (h : SeR f g k L) (hu0 : g.at k < f.at k) (hD : ordD f g < 0) {T : Nat} (hT : T = k + ((dif f g k - 1) / -ordD f g).toNat * ordC f g) (hTb : (T : Int) ≤ 461168601842738790) :
    SeR f g (k + 1) (max L T) := by
  have hP := (ord_per hf hg).mono (ordF_le f g)
  obtain ⟨v, hv⟩ : ∃ v, dif f g k = v := ⟨_, rfl⟩
  have hv0 : 0 < v := by rw [← hv]; unfold dif; omega
  rw [hv] at hT
  have hq : 0 ≤ (v - 1) / -ordD f g := Int.ediv_nonneg (by omega) (by omega)
  have h1 := Int.mul_ediv_add_emod (v - 1) (-ordD f g)
  have h2 := Int.emod_nonneg (v - 1) (show -ordD f g ≠ 0 by omega)
  have h3 := Int.emod_lt_of_pos (v - 1) (show 0 < -ordD f g by omega)
  obtain ⟨q, hq'⟩ := Int.eq_ofNat_of_zero_le hq
  rw [hq', Int.toNat_natCast] at hT
  rw [hq'] at h1
  have hlo := h.lo; have hbd := h.bd
  have hneg : -ordD f g * (q : Int) = -((q : Int) * ordD f g) := by rw [Int.neg_mul, Int.mul_comm]
  have hhit : Up f g T := by
    rw [up_dif hf hg, hT, hP.times q k hk, hv]; omega
  refine ⟨by omega, fun h0 => ?_, fun n hn hm hu => by have := h.low n (by omega) hm hu; omega, fun n hn hm m hu => ?_, by omega⟩
  · by_cases e : L ≤ (T : Int)
    · rw [Int.max_eq_right e, Int.toNat_natCast]; exact hhit
    · rw [Int.max_eq_left (by omega)]; exact h.hit (by omega)
  · by_cases e : n = k
    · subst e
      rw [up_dif hf hg, hP.times m n hm, hv] at hu
      have hmq : m ≤ q := by
        rcases Nat.lt_or_ge q m with e | e
        · exfalso
          have : ((q : Int) + 1) * -ordD f g ≤ m * -ordD f g := Int.mul_le_mul_of_nonneg_right (by omega) (by omega)
          rw [Int.add_mul, Int.one_mul, Int.mul_neg, Int.mul_neg] at this
          omega
        · exact e
      have := Nat.mul_le_mul_right (ordC f g) hmq
      omega
    · have := h.res n (by omega) hm m hu; omega

theorem SeR.done {f g : Cv} (hf : f.Ok) (hg : g.Ok) {L : Int} (hM : ordM f g ≤ 400) (h : SeR f g (ordM f g + ordC f g) L) : SeS (Up f g) (L + 1) true := by
  have hlo := h.lo
  have B := ord_b hf hg
  refine .inl ⟨rfl, (L + 1).toNat, by omega, fun n hn hu => ?_, fun k hk => ?_⟩
  · by_cases e : n < ordM f g
    · have := h.low n (by omega) e ((up_iff hf hg (by omega)).1 hu); omega
    · obtain ⟨r, m, hr, rfl⟩ := res_of B.c1 (show ordM f g ≤ n by omega)
      have := h.res (ordM f g + r) (by omega) (by omega) m hu; omega
  · have := h.hit (by omega)
    rwa [show L.toNat = k by omega] at this

/-- a tick behind all values is above, and the difference does not shrink; or it grows -/
theorem se2_never {f g : Cv} (hf : f.Ok) (hg : g.Ok) {k : Nat} (hk : ordM f g ≤ k) (hk2 : k ≤ 20000) (h : (g.at k < f.at k ∧ (f.Fin ∧ g.Fin → 0 ≤ ordD f g)) ∨ (f.Fin ∧ g.Fin ∧ 0 < ordD f g)) : SeS (Up f g) 0 false := by
  have hF := ordF_le f g
  by_cases hfin : f.Fin ∧ g.Fin
  · refine se_never hfin.1 hfin.2 (n := k) (by omega) ?_
    rcases h with ⟨h1, h2⟩ | ⟨_, _, h⟩
    · exact .inl ⟨by unfold dif; omega, h2 hfin⟩
    · exact .inr h
  · have B := ord_b hf hg
    rcases h with ⟨h1, _⟩ | ⟨h1, h2, _⟩
    · refine .inr ⟨rfl, rfl, fun m => ⟨max m k, by omega, ?_⟩⟩
      rw [up_inf hf hg hfin B.fs B.gs (show ordF f g ≤ max m k by omega), ← up_inf hf hg hfin B.fs B.gs (show ordF f g ≤ k by omega), up_iff hf hg (by omega)]
      exact h1
    · exact absurd ⟨h1, h2⟩ hfin

/-- what the reference of Meets returns -/
theorem meets_ref {f g : Cv} {a b m : Int} {ok is meets : Bool} (h1 : SeS (Up f g) a ok) (h2 : SeS (Up g f) b is) (h4 : SeS (Ne2 f g) m meets) :
    meets = (ok && is) ∧ m = if (ok && is) = true then max a b else 0 := by
  obtain ⟨x, ex, hx⟩ : ∃ x ex, ExS (Up f g) x ex := by
    by_cases hu : ∃ n, Up f g n
    · obtain ⟨n, h3, h5⟩ : ∃ n, Up f g n ∧ ∀ m, m < n → ¬ Up f g m := by
        obtain ⟨n, hn⟩ := hu
        induction n using Nat.strongRecOn with
        | _ n ih =>
          by_cases hl : ∃ m, m < n ∧ Up f g m
          · obtain ⟨m, hm, hum⟩ := hl; exact ih m hm hum
          · exact ⟨n, hn, fun m hm hum => hl ⟨m, hm, hum⟩⟩
      exact ⟨n, true, .inl ⟨rfl, n, rfl, h3, h5⟩⟩
    · exact ⟨0, false, .inr ⟨rfl, rfl, fun n hn => hu ⟨n, hn⟩⟩⟩
  have h := dual_plain h1 h2 hx h4
  have e : meets = (ok && is) := by
    rw [Bool.eq_iff_iff, h.2.1, Bool.and_eq_true]
  refine ⟨e, ?_⟩
  rw [← e]
  cases meets
  · rcases h4 with ⟨h4, _⟩ | ⟨_, h4, _⟩
    · cases h4
    · rw [h4]; rfl
  · rw [if_pos rfl]; exact h.2.2 rfl
end Go.Proofs.Ythdibkmjoiipgaa
namespace Go.Proofs.Ythdibkmjoiipgaa
open Go.RowKit
set_option linter.unusedVariables false


set_option maxHeartbeats 1000000 in
theorem refWindow_any (A B : Option Addr) (n m c d : Nat) (p i q j : Int) (xs ys : List Int) (w : World) (hA : Ints w w.heap.size A n xs) (hB : Ints w w.heap.size B m ys) (hf : Cv.Ok ⟨xs, p, i⟩) (hg : Cv.Ok ⟨ys, q, j⟩) :
    Calls Try.prog 144 #[.agg #[.slice A n c, .int .i64 p, .int .i64 i], .agg #[.slice B m d, .int .i64 q, .int .i64 j]] w fun e w' => e = .returned (.tuple #[.int .i64 (ordM ⟨xs, p, i⟩ ⟨ys, q, j⟩ : Nat), .int .i64 (ordC ⟨xs, p, i⟩ ⟨ys, q, j⟩ : Nat), .int .i64 (ordD ⟨xs, p, i⟩ ⟨ys, q, j⟩)]) ∧ Below w.heap.size w w' := by
  have P := Lib.hid (PS.new (c := c) (p := p) (i := i) (d := d) (q := q) (j := j) hA hB)
  have OB := ord_b hf hg
  have hn := hf.n2; have hm := hg.n2
  have hp1 := hf.p1; have hp2 := hf.p2; have hi1 := hf.i1; have hi2 := hf.i2
  have hq1 := hg.p1; have hq2 := hg.p2; have hj1 := hg.i1; have hj2 := hg.i2
  have hl := hA.1; have hl2 := hB.1
  have hc1 := OB.c1; have hc2 := OB.c2
  have hd0 := OB.a1; have hd1 := OB.a2; have hb1 := OB.b1; have hb2 := OB.b2
  obtain ⟨M, hM⟩ : ∃ M, M = ordM ⟨xs, p, i⟩ ⟨ys, q, j⟩ := ⟨_, rfl⟩
  obtain ⟨C, hC⟩ : ∃ C, C = ordC ⟨xs, p, i⟩ ⟨ys, q, j⟩ := ⟨_, rfl⟩
  obtain ⟨D, hD⟩ : ∃ D, D = ordD ⟨xs, p, i⟩ ⟨ys, q, j⟩ := ⟨_, rfl⟩
  have hM' : M = max n m := by rw [hM]; unfold ordM; simp only [hl, hl2]
  have hC' : comm p.toNat q.toNat = C := by rw [hC]; rfl
  have hD' : D = ((C / p.toNat : Nat) : Int) * i - ((C / q.toNat : Nat) : Int) * j := by rw [hD, hC]; rfl
  rw [← hM, ← hC, ← hD]
  rw [← hC] at hc1 hc2 hd0 hd1 hb1 hb2
  simp only [hl, hl2] at hn hm hp1 hp2 hi1 hi2 hq1 hq2 hj1 hj2 hd0 hd1 hb1 hb2
  obtain ⟨pn, rfl⟩ := Int.eq_ofNat_of_zero_le (show 0 ≤ p by omega)
  obtain ⟨qn, rfl⟩ := Int.eq_ofNat_of_zero_le (show 0 ≤ q by omega)
  simp only [Int.toNat_natCast] at hC' hD' hd0 hd1 hb1 hb2
  obtain ⟨u, hu⟩ : ∃ u, u = C / pn := ⟨_, rfl⟩
  obtain ⟨v, hv⟩ : ∃ v, v = C / qn := ⟨_, rfl⟩
  rw [← hu] at hd0 hb1 hD'
  rw [← hv] at hd1 hb2 hD'
  have HM := Lib.hid hM'; have HC := Lib.hid hC'; have HD := Lib.hid hD'; have HU := Lib.hid hu; have HV := Lib.hid hv
  clear hA hB hf hg OB hl hl2 hM hC hD hM' hC' hD' hu hv
  go_enter Try.func144, Try.ntmps144
  obtain ⟨f0, f1, f2, g0, g1, g2, hlf, hlg⟩ := P.out.cells
  go_wp2_with fail
  have hmx : (if (n : Int) < (m : Int) then (m : Int) else (n : Int)) = (M : Int) := by have := HM.out; split <;> omega
  have hmx2 : (if n < m then (m : Int) else (n : Int)) = (M : Int) := by have := HM.out; split <;> omega
  go_region_held3 (fun w' => w'.cell? ⟨w.heap.size, 0, none⟩ = some (.slice A n c) ∧ w'.cell? ⟨w.heap.size, 1, none⟩ = some (.int .i64 pn) ∧ w'.cell? ⟨w.heap.size + 1, 0, none⟩ = some (.slice B m d) ∧ w'.cell? ⟨w.heap.size + 1, 1, none⟩ = some (.int .i64 qn)) (first | go_keep)
    (first
      | (go_at_call 138
         refine (refLcm_any pn qn _ (by omega) (by omega) (by omega)).mono ?_
         rw [HC.out]
         rintro e wq ⟨rfl, hbq⟩
         have P := Lib.hid (P.out.below (by first | exact hbq | exact bofdrew hbq))
         clear hbq
         clear f0 f1 f2 g0 g1 g2 hlf hlg
         obtain ⟨f0, f1, f2, g0, g1, g2, hlf, hlg⟩ := P.out.cells
         dsimp only))
  all_goals
    clear hmx hmx2
    have e1 : ((C : Int).tdiv (pn : Int)) = (u : Int) := by rw [HU.out]; rfl
    have e2 : ((C : Int).tdiv (qn : Int)) = (v : Int) := by rw [HV.out]; rfl
    have e3 : IntKind.i64.wrap (i * (u : Int)) = i * (u : Int) := by rw [Int.mul_comm i]; exact IntWalk.i64_in _ (by omega)
    have e4 : IntKind.i64.wrap (j * (v : Int)) = j * (v : Int) := by rw [Int.mul_comm j]; exact IntWalk.i64_in _ (by omega)
    have e5 : IntKind.i64.wrap (i * (u : Int) - j * (v : Int)) = D := by rw [HD.out, Int.mul_comm i, Int.mul_comm j]; exact IntWalk.i64_in _ (by omega)
    have hpn : (pn : Int) ≠ 0 := by omega
    have hqn : (qn : Int) ≠ 0 := by omega
    have bw := P.out.bw
    go_wp2_with fail
    go_quiet (fail)
    go_wp2_with fail
    refine bodyPost_ret (v := .tuple #[.int .i64 M, .int .i64 C, .int .i64 D]) (by simp [results, Try.results144, go_sem]) rfl ⟨rfl, bdrewN bw⟩

set_option maxHeartbeats 1000000 in
theorem refAbove_any (A B : Option Addr) (n m c d : Nat) (p i q j : Int) (xs ys : List Int) (w : World) (hA : Ints w w.heap.size A n xs) (hB : Ints w w.heap.size B m ys) (t : Int) (hf : Cv.Ok ⟨xs, p, i⟩) (hg : Cv.Ok ⟨ys, q, j⟩) (ht0 : 0 ≤ t) (ht : t ≤ 20000) :
    Calls Try.prog 145 #[.agg #[.slice A n c, .int .i64 p, .int .i64 i], .agg #[.slice B m d, .int .i64 q, .int .i64 j], .int .i64 t] w fun e w' => e = .returned (.int .i64 (abv ⟨xs, p, i⟩ ⟨ys, q, j⟩ t.toNat)) ∧ Below w.heap.size w w' := by
  have P := Lib.hid (PS.new (c := c) (p := p) (i := i) (d := d) (q := q) (j := j) hA hB)
  have hn := hf.n2; have hm := hg.n2
  have hp1 := hf.p1; have hpn := hf.pn; have hi1 := hf.i1; have hi2 := hf.i2
  have hq1 := hg.p1; have hqm := hg.pn; have hj1 := hg.i1; have hj2 := hg.i2
  have hl := hA.1; have hl2 := hB.1
  simp only [hl, hl2] at hn hm hp1 hpn hi1 hi2 hq1 hqm hj1 hj2
  have NF := Lib.hid hf.nn; have NG := Lib.hid hg.nn
  obtain ⟨x, hx⟩ : ∃ x, x = Cv.at ⟨xs, p, i⟩ t.toNat := ⟨_, rfl⟩
  obtain ⟨y, hy⟩ : ∃ y, y = Cv.at ⟨ys, q, j⟩ t.toNat := ⟨_, rfl⟩
  have hxb := at_inf_bd hf (n := t.toNat) (by omega)
  have hyb := at_inf_bd hg (n := t.toNat) (by omega)
  rw [← hx] at hxb
  rw [← hy] at hyb
  have fin : abv ⟨xs, p, i⟩ ⟨ys, q, j⟩ t.toNat = if y = 4611686018427387904 then 0 else if x = 4611686018427387904 then 1 else x - y := by unfold abv inf; rw [← hx, ← hy]
  obtain ⟨r, hr⟩ : ∃ r, r = abv ⟨xs, p, i⟩ ⟨ys, q, j⟩ t.toNat := ⟨_, rfl⟩
  rw [← hr] at fin ⊢
  have HX := Lib.hid hx; have HY := Lib.hid hy; have F := Lib.hid fin
  clear hx hy hf hg hl hl2 fin hA hB hr
  go_enter Try.func145, Try.ntmps145
  obtain ⟨f0, f1, f2, g0, g1, g2, hlf, hlg⟩ := P.out.cells
  go_wp2_with fail
  go_region_held3 (fun w' => w'.cell? ⟨w.heap.size, 0, none⟩ = some (.slice A n c) ∧ w'.cell? ⟨w.heap.size, 1, none⟩ = some (.int .i64 p) ∧ w'.cell? ⟨w.heap.size, 2, none⟩ = some (.int .i64 i) ∧ w'.cell? ⟨w.heap.size + 1, 0, none⟩ = some (.slice B m d) ∧ w'.cell? ⟨w.heap.size + 1, 1, none⟩ = some (.int .i64 q) ∧ w'.cell? ⟨w.heap.size + 1, 2, none⟩ = some (.int .i64 j)) (first | go_keep)
    (first
      | (go_at_call_of 48 (Value.agg #[.slice A n c, .int .i64 p, .int .i64 i])
         refine (refAt_any A n c p i t xs _ (by exact P.out.ia) (by omega) hp1 hpn hi1 (by omega) NF.out ht0 (by omega)).mono ?_
         rw [← HX.out]
         rintro e wq ⟨rfl, hbq⟩
         have P := Lib.hid (P.out.below (by first | exact hbq | exact bofdrew hbq))
         clear hbq
         clear f0 f1 f2 g0 g1 g2 hlf hlg
         obtain ⟨f0, f1, f2, g0, g1, g2, hlf, hlg⟩ := P.out.cells
         skip)
      | (go_at_call_of 48 (Value.agg #[.slice B m d, .int .i64 q, .int .i64 j])
         refine (refAt_any B m d q j t ys _ (by exact P.out.ib) (by omega) hq1 hqm hj1 (by omega) NG.out ht0 (by omega)).mono ?_
         rw [← HY.out]
         rintro e wq ⟨rfl, hbq⟩
         have P := Lib.hid (P.out.below (by first | exact hbq | exact bofdrew hbq))
         clear hbq
         clear f0 f1 f2 g0 g1 g2 hlf hlg
         obtain ⟨f0, f1, f2, g0, g1, g2, hlf, hlg⟩ := P.out.cells
         skip))
  all_goals
    have bw := P.out.bw
    by_cases hyi : y = 4611686018427387904
    · have F2 := Lib.hid (show r = 0 by rw [F.out, if_pos hyi])
      have hyf : (y == 4611686018427387904) = true := by simpa using hyi
      obtain ⟨bx, hbx⟩ : ∃ bx, (x == 4611686018427387904) = bx := ⟨_, rfl⟩
      clear hyi
      cases bx
      all_goals
        go_wp2_with fail
        go_ret
        exact ⟨ret_int F2.out.symm, bw⟩
    · have hyf : (y == 4611686018427387904) = false := by simpa using hyi
      by_cases hxi : x = 4611686018427387904
      · have F2 := Lib.hid (show r = 1 by rw [F.out, if_neg hyi, if_pos hxi])
        have hxf : (x == 4611686018427387904) = true := by simpa using hxi
        clear hyi hxi
        go_wp2_with fail
        go_ret
        exact ⟨ret_int F2.out.symm, bw⟩
      · have hxf : (x == 4611686018427387904) = false := by simpa using hxi
        have F2 := Lib.hid (show r = x - y by rw [F.out, if_neg hyi, if_neg hxi])
        clear hyi hxi
        go_wp2_with fail
        go_ret
        exact ⟨ret_int F2.out.symm, bw⟩
end Go.Proofs.Ythdibkmjoiipgaa
namespace Go.Proofs.Ythdibkmjoiipgaa
open Go.RowKit
set_option linter.unusedVariables false

theorem finB_iff {f : Cv} : f.finB = true ↔ f.Fin := by
  unfold Cv.finB Cv.Fin
  rw [Bool.and_eq_true, Cv.okB_iff, bne_iff_ne]

theorem refExceeds_bad (A B : Option Addr) (n m c d : Nat) (p i q j : Int) (xs ys : List Int) (w : World) (hA : Ints w w.heap.size A n xs) (hB : Ints w w.heap.size B m ys) (hn : (n : Int) ≤ 1000000) (hm : (m : Int) ≤ 1000000) (hbad : ¬ (Cv.Ok ⟨xs, p, i⟩ ∧ Cv.Ok ⟨ys, q, j⟩)) (S : Int → Bool → Prop) :
    Calls Try.prog 105 #[.agg #[.slice A n c, .int .i64 p, .int .i64 i], .agg #[.slice B m d, .int .i64 q, .int .i64 j]] w (RetE S ⟨xs, p, i⟩ ⟨ys, q, j⟩ w) := by
  have P := Lib.hid (PS.new (c := c) (p := p) (i := i) (d := d) (q := q) (j := j) hA hB)
  have HBAD := Lib.hid hbad
  clear hA hB hbad
  go_enter Try.func105, Try.ntmps105
  obtain ⟨f0, f1, f2, g0, g1, g2, hlf, hlg⟩ := P.out.cells
  go_wp2_with fail
  refine (refValid_any A n c p i xs _ P.out.ia hn).mono ?_
  rintro e w1 ⟨rfl, hbq⟩
  by_cases hof : Cv.Ok ⟨xs, p, i⟩
  · have hog : Cv.okB ⟨ys, q, j⟩ = false := Cv.okB_false (fun h => HBAD.out ⟨hof, h⟩)
    rw [Cv.okB_true hof]
    have OG := Lib.hid hog
    clear hof hog
    have P := Lib.hid (P.out.below (by first | exact hbq | exact bofdrew hbq))
    clear hbq
    clear f0 f1 f2 g0 g1 g2 hlf hlg
    obtain ⟨f0, f1, f2, g0, g1, g2, hlf, hlg⟩ := P.out.cells
    go_wp2_with fail
    refine (refValid_any B m d q j ys _ P.out.ib hm).mono ?_
    rw [OG.out]
    rintro e w1 ⟨rfl, hbq⟩
    have P := Lib.hid (P.out.below (by first | exact hbq | exact bofdrew hbq))
    clear hbq
    clear f0 f1 f2 g0 g1 g2 hlf hlg
    obtain ⟨f0, f1, f2, g0, g1, g2, hlf, hlg⟩ := P.out.cells
    have bw := P.out.bw
    go_wp2_with fail
    refine bodyPost_ret (v := .tuple #[.int .i64 0, .bool false, .int .i64 1]) (by simp [results, Try.results105, go_sem]) rfl ?_
    exact ⟨0, false, 1, .inr ⟨HBAD.out, rfl, rfl, rfl⟩, rfl, bw⟩
  · rw [Cv.okB_false hof]
    have P := Lib.hid (P.out.below (by first | exact hbq | exact bofdrew hbq))
    clear hbq
    clear f0 f1 f2 g0 g1 g2 hlf hlg
    obtain ⟨f0, f1, f2, g0, g1, g2, hlf, hlg⟩ := P.out.cells
    have bw := P.out.bw
    clear hof
    go_wp2_with fail
    refine bodyPost_ret (v := .tuple #[.int .i64 0, .bool false, .int .i64 1]) (by simp [results, Try.results105, go_sem]) rfl ?_
    exact ⟨0, false, 1, .inr ⟨HBAD.out, rfl, rfl, rfl⟩, rfl, bw⟩

set_option maxHeartbeats 4000000 in
set_option maxRecDepth 100000 in
theorem refExceeds_ok (A B : Option Addr) (n m c d : Nat) (p i q j : Int) (xs ys : List Int) (w : World) (hA : Ints w w.heap.size A n xs) (hB : Ints w w.heap.size B m ys) (hf : Cv.Ok ⟨xs, p, i⟩) (hg : Cv.Ok ⟨ys, q, j⟩) :
    Calls Try.prog 105 #[.agg #[.slice A n c, .int .i64 p, .int .i64 i], .agg #[.slice B m d, .int .i64 q, .int .i64 j]] w (RetE (fun t ok => ExS (Up ⟨xs, p, i⟩ ⟨ys, q, j⟩) t ok) ⟨xs, p, i⟩ ⟨ys, q, j⟩ w) := by
  have P := Lib.hid (PS.new (c := c) (p := p) (i := i) (d := d) (q := q) (j := j) hA hB)
  have OB := ord_b hf hg
  have hn := hf.n2; have hm := hg.n2
  have hl := hA.1; have hl2 := hB.1
  have hc1 := OB.c1; have hc2 := OB.c2; have hd1 := OB.d1; have hd2 := OB.d2
  simp only [hl, hl2] at hn hm
  obtain ⟨M, hM⟩ : ∃ M, M = ordM ⟨xs, p, i⟩ ⟨ys, q, j⟩ := ⟨_, rfl⟩
  obtain ⟨C, hC⟩ : ∃ C, C = ordC ⟨xs, p, i⟩ ⟨ys, q, j⟩ := ⟨_, rfl⟩
  obtain ⟨D, hD⟩ : ∃ D, D = ordD ⟨xs, p, i⟩ ⟨ys, q, j⟩ := ⟨_, rfl⟩
  have hM4 : M ≤ 400 := by rw [hM]; unfold ordM; simp only [hl, hl2]; omega
  rw [← hC] at hc1 hc2
  rw [← hD] at hd1 hd2
  have HF := Lib.hid hf; have HG := Lib.hid hg; have HM := Lib.hid hM; have HC := Lib.hid hC; have HD := Lib.hid hD
  clear hA hB hf hg OB hl hl2 hM hC hD
  go_enter Try.func105, Try.ntmps105
  obtain ⟨f0, f1, f2, g0, g1, g2, hlf, hlg⟩ := P.out.cells
  go_wp2_with fail
  refine (refValid_any A n c p i xs _ P.out.ia (by omega)).mono ?_
  rw [Cv.okB_true HF.out]
  rintro e w1 ⟨rfl, hbq⟩
  have P := Lib.hid (P.out.below (by first | exact hbq | exact bofdrew hbq))
  clear hbq
  clear f0 f1 f2 g0 g1 g2 hlf hlg
  obtain ⟨f0, f1, f2, g0, g1, g2, hlf, hlg⟩ := P.out.cells
  go_wp2_with fail
  refine (refValid_any B m d q j ys _ P.out.ib (by omega)).mono ?_
  rw [Cv.okB_true HG.out]
  rintro e w2 ⟨rfl, hbq⟩
  have P := Lib.hid (P.out.below (by first | exact hbq | exact bofdrew hbq))
  clear hbq
  clear f0 f1 f2 g0 g1 g2 hlf hlg
  obtain ⟨f0, f1, f2, g0, g1, g2, hlf, hlg⟩ := P.out.cells
  go_wp2_with fail
  refine (refWindow_any A B n m c d p i q j xs ys _ P.out.ia P.out.ib HF.out HG.out).mono ?_
  rw [← HM.out, ← HC.out, ← HD.out]
  rintro e w3 ⟨rfl, hbq⟩
  as_aux_lemma =>
  have P := Lib.hid (P.out.below (by first | exact hbq | exact bofdrew hbq))
  clear hbq
  clear f0 f1 f2 g0 g1 g2 hlf hlg
  obtain ⟨f0, f1, f2, g0, g1, g2, hlf, hlg⟩ := P.out.cells
  go_wp2_with fail
  clear f0 f1 f2 g0 g1 g2 hlf hlg
  go_loopg [10] (M + C) (fun gg s10 wx => ∃ k : Nat, k + gg = M + C ∧ s10 = .int .i64 k ∧ NoUpTo ⟨xs, p, i⟩ ⟨ys, q, j⟩ k ∧ PS w wx A n c p i xs B m d q j ys)
  case atStart => exact ⟨0, by omega, rfl, NoUpTo.zero _ _, P.out⟩
  case round =>
    as_aux_lemma =>
    clear P
    obtain ⟨k, hkg, rfl, hno, hP⟩ := hrel
    have P := Lib.hid hP; have HNO := Lib.hid hno
    clear hP hno
    obtain ⟨f0, f1, f2, g0, g1, g2, hlf, hlg⟩ := P.out.cells
    have hkT : k ≤ M + C := by omega
    by_cases hlt : k < M + C
    · have hlti : (k : Int) < (M : Int) + (C : Int) := by omega
      obtain ⟨v, hv⟩ : ∃ v, v = abv ⟨xs, p, i⟩ ⟨ys, q, j⟩ k := ⟨_, rfl⟩
      have HV := Lib.hid hv
      clear hv
      go_wp2_with fail
      refine (refAbove_any A B n m c d p i q j xs ys _ P.out.ia P.out.ib k HF.out HG.out (by omega) (by omega)).mono ?_
      rw [Int.toNat_natCast, ← HV.out]
      rintro e w4 ⟨rfl, hbq⟩
      have P := Lib.hid (P.out.below (by first | exact hbq | exact bofdrew hbq))
      clear hbq
      clear f0 f1 f2 g0 g1 g2 hlf hlg
      obtain ⟨f0, f1, f2, g0, g1, g2, hlf, hlg⟩ := P.out.cells
      by_cases hab : 0 < v
      · have dv : decide (0 < v) = true := by simpa using hab
        have F := Lib.hid (ex2_found HF.out HG.out (by omega) HNO.out ((abv_pos HF.out HG.out (by omega)).1 (by rw [← HV.out]; exact hab)))
        have bw := P.out.bw
        clear hab
        go_wp2_with fail
        refine bodyPost_ret (v := .tuple #[.int .i64 k, .bool true, .int .i64 0]) (by simp [results, Try.results105, go_sem]) rfl ?_
        exact ⟨k, true, 0, .inl ⟨HF.out, HG.out, rfl, F.out⟩, rfl, bw⟩
      · have dv : decide (0 < v) = false := by simpa using hab
        have F := Lib.hid (HNO.out.succ (fun h => hab (by rw [HV.out]; exact (abv_pos HF.out HG.out (by omega)).2 h)))
        clear hab
        go_wp2_with fail
        go_roundg (gk - 1)
        case measure => omega
        case rel => exact ⟨k + 1, by omega, by go_num, F.out, P.out⟩
    · have hkT2 : k = M + C := by omega
      have hge : ¬ ((k : Int) < (M : Int) + (C : Int)) := by omega
      have F := Lib.hid HNO.out
      rw [hkT2, HM.out, HC.out] at F
      clear hlt
      go_wp2_with fail
      refine (refFinite_any A n c p i xs _ P.out.ia (by omega)).mono ?_
      rintro e w4 ⟨rfl, hbq⟩
      as_aux_lemma =>
      have P := Lib.hid (P.out.below (by first | exact hbq | exact bofdrew hbq))
      clear hbq
      clear f0 f1 f2 g0 g1 g2 hlf hlg
      obtain ⟨f0, f1, f2, g0, g1, g2, hlf, hlg⟩ := P.out.cells
      clear hge
      by_cases hff : Cv.finB ⟨xs, p, i⟩ = true
      · rw [hff]
        have FF := Lib.hid (finB_iff.1 hff)
        clear hff
        go_wp2_with fail
        refine (refFinite_any B m d q j ys _ P.out.ib (by omega)).mono ?_
        rintro e w5 ⟨rfl, hbq⟩
        have P := Lib.hid (P.out.below (by first | exact hbq | exact bofdrew hbq))
        clear hbq
        clear f0 f1 f2 g0 g1 g2 hlf hlg
        obtain ⟨f0, f1, f2, g0, g1, g2, hlf, hlg⟩ := P.out.cells
        by_cases hgg : Cv.finB ⟨ys, q, j⟩ = true
        · rw [hgg]
          have GG := Lib.hid (finB_iff.1 hgg)
          clear hgg
          by_cases hD0 : D ≤ 0
          · have dD : decide (D ≤ 0) = true := by simpa using hD0
            have F2 := Lib.hid (ex2_none HF.out HG.out F.out (.inr (by rw [← HD.out]; exact hD0)))
            have bw := P.out.bw
            clear hD0
            go_wp2_with fail
            refine bodyPost_ret (v := .tuple #[.int .i64 0, .bool false, .int .i64 0]) (by simp [results, Try.results105, go_sem]) rfl ?_
            exact ⟨0, false, 0, .inl ⟨HF.out, HG.out, rfl, F2.out⟩, rfl, bw⟩
          · have dD : decide (D ≤ 0) = false := by simpa using hD0
            have hD1 : 0 < D := by omega
            clear hD0
            go_wp2_with fail
            clear f0 f1 f2 g0 g1 g2 hlf hlg
            go_loopg [12, 11] C (fun gg s12 s11 wx => ∃ (r : Nat) (L : Int), r + gg = C ∧ s12 = .int .i64 ((M + r : Nat) : Int) ∧ s11 = .int .i64 L ∧ Hid (ExR ⟨xs, p, i⟩ ⟨ys, q, j⟩ r L) ∧ -1 ≤ L ∧ L ≤ 2305843009213693952 ∧ PS w wx A n c p i xs B m d q j ys)
            case atStart => exact ⟨0, -1, by omega, by simp, rfl, ExR.start _ _, by omega, by omega, P.out⟩
            case round =>
              as_aux_lemma =>
              clear P
              obtain ⟨r, L, hrg, rfl, rfl, hex, hL0, hL1, hP⟩ := hrel
              have P := Lib.hid hP; have HEX := Lib.hid hex.out
              clear hP hex
              obtain ⟨f0, f1, f2, g0, g1, g2, hlf, hlg⟩ := P.out.cells
              by_cases hlt : r < C
              · obtain ⟨t, ht⟩ : ∃ t, M + r = t := ⟨_, rfl⟩
                rw [ht]
                have htb : t ≤ 20000 := by omega
                have hlti : (t : Int) < (M : Int) + (C : Int) := by omega
                obtain ⟨v, hv⟩ : ∃ v, v = abv ⟨xs, p, i⟩ ⟨ys, q, j⟩ t := ⟨_, rfl⟩
                have hvd : dif ⟨xs, p, i⟩ ⟨ys, q, j⟩ (ordM ⟨xs, p, i⟩ ⟨ys, q, j⟩ + r) = v := by rw [hv, abv_fin FF.out GG.out htb, ← ht, HM.out]
                have hdb := dif_bd FF.out GG.out (n := ordM ⟨xs, p, i⟩ ⟨ys, q, j⟩ + r) (by rw [← HM.out]; omega)
                have hv0 : v ≤ 0 := by
                  have h1 := F.out t (by rw [← HM.out, ← HC.out]; omega)
                  rw [← abv_pos HF.out HG.out htb, ← hv] at h1
                  omega
                rw [hvd] at hdb
                have hq0 : 0 ≤ -v / D := Int.ediv_nonneg (by omega) (by omega)
                have hq1 : -v / D ≤ -v := Int.ediv_le_self _ (by omega)
                have ed : -(v.tdiv D) = -v / D := by rw [← Int.neg_tdiv]; exact Int.tdiv_eq_ediv_of_nonneg (by omega)
                obtain ⟨u, hu⟩ := Int.eq_ofNat_of_zero_le hq0
                have hucc : (u + 1) * C ≤ 30000000000001 * 14400 := Nat.mul_le_mul (by omega) hc2
                obtain ⟨T, hT⟩ : ∃ T, T = t + (u + 1) * C := ⟨_, rfl⟩
                have CAND := Lib.hid (HEX.out.next FF.out GG.out (by rw [← HD.out]; exact hD1) (by rw [hvd]; exact hv0) (T := T) (by rw [hvd, ← HD.out, hu, Int.toNat_natCast, ← HM.out, ← HC.out, ht, hT]))
                rw [hu] at ed hq1
                have huc2 : ((u : Int) + 1) * (C : Int) = (((u + 1) * C : Nat) : Int) := by simp
                have hTI : (t : Int) + ((u : Int) + 1) * (C : Int) = T := by rw [hT, huc2]; omega
                have hub : (u : Int) ≤ 30000000000000 := by omega
                have hm1 : ((u : Int) + 1) * (C : Int) ≤ 432000000000014400 := by rw [huc2]; omega
                have hm0 : 0 ≤ ((u : Int) + 1) * (C : Int) := by rw [huc2]; omega
                have hTb : (T : Int) ≤ 2305843009213693952 := by omega
                have hDn : D ≠ 0 := by omega
                have HV := Lib.hid hv; have HT := Lib.hid ht
                have TN := Lib.hid (show ((t : Int) + 1) = ((M + (r + 1) : Nat) : Int) by omega)
                clear hv ht hvd hq0 hq1 hu hucc hT huc2
                go_wp2_with fail
                refine (refAbove_any A B n m c d p i q j xs ys _ P.out.ia P.out.ib t HF.out HG.out (by omega) (by omega)).mono ?_
                rw [Int.toNat_natCast, ← HV.out]
                rintro e w6 ⟨rfl, hbq⟩
                have P := Lib.hid (P.out.below (by first | exact hbq | exact bofdrew hbq))
                clear hbq
                clear f0 f1 f2 g0 g1 g2 hlf hlg
                obtain ⟨f0, f1, f2, g0, g1, g2, hlf, hlg⟩ := P.out.cells
                by_cases hc : L < 0 ∨ (T : Int) < L
                · have F2 := Lib.hid (CAND.out.1 hc)
                  rcases Int.lt_or_le L 0 with hL | hL
                  · have dL : decide (L < 0) = true := by simpa using hL
                    clear hc hL
                    go_wp2_with fail
                    go_roundg (gk - 1)
                    case measure => omega
                    case rel => exact ⟨r + 1, T, by omega, by rw [← TN.out], rfl, F2.out, by omega, by omega, P.out⟩
                  · have dL : decide (L < 0) = false := by simp; omega
                    have dT : decide ((T : Int) < L) = true := by simp; omega
                    clear hc hL
                    go_wp2_with fail
                    go_roundg (gk - 1)
                    case measure => omega
                    case rel => exact ⟨r + 1, T, by omega, by rw [← TN.out], rfl, F2.out, by omega, by omega, P.out⟩
                · have F2 := Lib.hid (CAND.out.2 hc)
                  have dL : decide (L < 0) = false := by simp; omega
                  have dT : decide ((T : Int) < L) = false := by simp; omega
                  clear hc
                  go_wp2_with fail
                  go_roundg (gk - 1)
                  case measure => omega
                  case rel => exact ⟨r + 1, L, by omega, by rw [← TN.out], rfl, F2.out, by omega, by omega, P.out⟩
              · have hrC : r = C := by omega
                have F2 := Lib.hid (ExR.done FF.out GG.out (by rw [← HC.out, ← hrC]; exact HEX.out) F.out)
                have hge : ¬ (((M + r : Nat) : Int) < (M : Int) + (C : Int)) := by omega
                obtain ⟨t, ht⟩ : ∃ t, M + r = t := ⟨_, rfl⟩
                rw [ht] at hge ⊢
                have bw := P.out.bw
                clear hlt hrC ht
                go_wp2_with fail
                refine bodyPost_ret (v := .tuple #[.int .i64 L, .bool true, .int .i64 0]) (by simp [results, Try.results105, go_sem]) rfl ?_
                exact ⟨L, true, 0, .inl ⟨HF.out, HG.out, rfl, F2.out⟩, rfl, bw⟩
        · rw [show Cv.finB ⟨ys, q, j⟩ = false by simpa using hgg]
          have F2 := Lib.hid (ex2_none HF.out HG.out F.out (.inl (fun h => hgg (finB_iff.2 h.2))))
          have bw := P.out.bw
          clear hgg
          go_wp2_with fail
          refine bodyPost_ret (v := .tuple #[.int .i64 0, .bool false, .int .i64 0]) (by simp [results, Try.results105, go_sem]) rfl ?_
          exact ⟨0, false, 0, .inl ⟨HF.out, HG.out, rfl, F2.out⟩, rfl, bw⟩
      · rw [show Cv.finB ⟨xs, p, i⟩ = false by simpa using hff]
        have F2 := Lib.hid (ex2_none HF.out HG.out F.out (.inl (fun h => hff (finB_iff.2 h.1))))
        have bw := P.out.bw
        clear hff
        go_wp2_with fail
        refine bodyPost_ret (v := .tuple #[.int .i64 0, .bool false, .int .i64 0]) (by simp [results, Try.results105, go_sem]) rfl ?_
        exact ⟨0, false, 0, .inl ⟨HF.out, HG.out, rfl, F2.out⟩, rfl, bw⟩

theorem refExceeds_any (A B : Option Addr) (n m c d : Nat) (p i q j : Int) (xs ys : List Int) (w : World) (hA : Ints w w.heap.size A n xs) (hB : Ints w w.heap.size B m ys) (hn : (n : Int) ≤ 1000000) (hm : (m : Int) ≤ 1000000) :
    Calls Try.prog 105 #[.agg #[.slice A n c, .int .i64 p, .int .i64 i], .agg #[.slice B m d, .int .i64 q, .int .i64 j]] w (RetE (fun t ok => ExS (Up ⟨xs, p, i⟩ ⟨ys, q, j⟩) t ok) ⟨xs, p, i⟩ ⟨ys, q, j⟩ w) := by
  by_cases h : Cv.Ok ⟨xs, p, i⟩ ∧ Cv.Ok ⟨ys, q, j⟩
  · exact refExceeds_ok A B n m c d p i q j xs ys w hA hB h.1 h.2
  · exact refExceeds_bad A B n m c d p i q j xs ys w hA hB hn hm h _

theorem refAtMost_any (A B : Option Addr) (n m c d : Nat) (p i q j : Int) (xs ys : List Int) (w : World) (hA : Ints w w.heap.size A n xs) (hB : Ints w w.heap.size B m ys) (hn : (n : Int) ≤ 1000000) (hm : (m : Int) ≤ 1000000) :
    Calls Try.prog 49 #[.agg #[.slice A n c, .int .i64 p, .int .i64 i], .agg #[.slice B m d, .int .i64 q, .int .i64 j]] w (RetM ⟨xs, p, i⟩ ⟨ys, q, j⟩ w) := by
  have P := Lib.hid (PS.new (c := c) (p := p) (i := i) (d := d) (q := q) (j := j) hA hB)
  clear hA hB
  go_enter Try.func49, Try.ntmps49
  obtain ⟨f0, f1, f2, g0, g1, g2, hlf, hlg⟩ := P.out.cells
  go_wp2_with fail
  refine (refExceeds_any A B n m c d p i q j xs ys _ P.out.ia P.out.ib hn hm).mono ?_
  rintro e w1 ⟨t, ok, er, hS, rfl, hbq⟩
  have P := Lib.hid (P.out.below (by first | exact hbq | exact bofdrew hbq))
  clear hbq
  clear f0 f1 f2 g0 g1 g2 hlf hlg
  obtain ⟨f0, f1, f2, g0, g1, g2, hlf, hlg⟩ := P.out.cells
  have bw := P.out.bw
  have HS := Lib.hid hS
  rcases hS with ⟨hf, hg, rfl, hx⟩ | ⟨hno, rfl, rfl, rfl⟩
  · have F := Lib.hid (show AtM ⟨xs, p, i⟩ ⟨ys, q, j⟩ (!ok) from .inl ⟨hf, hg, by
      rcases hx with ⟨rfl, k, rfl, h1, h2⟩ | ⟨rfl, rfl, h1⟩
      · simp; exact ⟨k, h1⟩
      · simp; exact h1⟩)
    clear hx
    go_wp2_with fail
    go_ret
    exact ⟨_, F.out, rfl, bw⟩
  · go_wp2_with fail
    go_ret
    exact ⟨false, .inr ⟨hno, rfl⟩, rfl, bw⟩
end Go.Proofs.Ythdibkmjoiipgaa
