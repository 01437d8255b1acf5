/- The closure of a multiple of a curve, in plain words. -/
import Derived.Test.YthdibkmjoiipgaaPwLaw
import Derived.Test.YthdibkmjoiipgaaClLaw
namespace Go.Proofs.Ythdibkmjoiipgaa
set_option linter.unusedVariables false

theorem clo_scale {u : Nat → Int} {k : Int} (h0 : ∀ t, 0 ≤ u t) (h1 : u 1 ≤ 10000) (hk : 1 ≤ k) (hk2 : k ≤ 100) (t : Nat) (ht : t ≤ 2000) : clo (fun t => u t * k) t = clo u t * k := by
  have v0 : ∀ t, 0 ≤ u t * k := fun t => Int.mul_nonneg (h0 t) (by omega)
  have v1 : u 1 * k ≤ 1073741824 := by
    have : u 1 * k ≤ 10000 * 100 := Int.mul_le_mul h1 hk2 (by omega) (by omega)
    omega
  have key : ∀ s u' : Nat, s ≤ 2000 → u' ≤ 2000 → clo u (s + u') ≤ pl (clo u s) (clo u u') → True := fun _ _ _ _ _ => trivial
  induction t using Nat.strongRecOn with
  | _ t ih =>
    by_cases e : t = 0
    · subst e; rw [clo_zero, clo_zero, Int.zero_mul]
    have I := clo_I u (t := t) (by omega)
    refine (clo_I (fun t => u t * k) (t := t) (by omega)).unique ⟨Int.mul_le_mul_of_nonneg_right I.le (by omega), fun s h2 h3 => ?_, ?_⟩
    · have q := I.sub s h2 h3
      rw [clo_pl h0 (by omega) (by omega) (by omega)] at q
      rw [clo_pl v0 (by omega) (by omega) (by omega), ih s h3 (by omega), ih (t - s) (by omega) (by omega), ← Int.add_mul]
      exact Int.mul_le_mul_of_nonneg_right q (by omega)
    · rcases I.att with q | ⟨s, h2, h3, q⟩
      · exact .inl (by rw [q])
      · refine .inr ⟨s, h2, h3, ?_⟩
        rw [clo_pl h0 (by omega) (by omega) (by omega)] at q
        rw [clo_pl v0 (by omega) (by omega) (by omega), ih s h3 (by omega), ih (t - s) (by omega) (by omega), ← Int.add_mul, q]

/-- x is the multiple of a -/
structure ScF (a x : Cv) (k : Int) : Prop where
  fa : a.Fin
  fx : x.Fin
  at_ : ∀ t, x.at t = a.at t * k
  len : x.vals.length = a.vals.length
  per : x.per = a.per
  inc : x.inc = a.inc * k
  k1 : 1 ≤ k
theorem scF_of {a : Cv} {k : Int} (fa : a.Fin) (na : NF a.at a) (hk : 1 ≤ k) (hk2 : k ≤ 100) (hv : ∀ t, t < a.vals.length → a.at t * k ≤ 1073741824) (hi : a.inc * k ≤ 1073741824) : ScF a (scaleL a k) k ∧ NF (scaleL a k).at (scaleL a k) := by
  have hn := scale_is fa.1 na hk (by omega)
  have hl := scaleL_len a k
  have n1 := fa.1.n1
  have hat : ∀ t, (scaleL a k).at t = a.at t * k := fun t => by rw [hn.at, scaleV_fin fa]
  have hnth : ∀ t, t < a.vals.length → nth (scaleL a k).vals t = a.at t * k := fun t ht => by rw [scaleL_nth a k ht, scaleV_fin fa]
  have ok : (scaleL a k).Ok := nf_lim_ok hn (scale_up fa.1 hk (by omega)) ⟨by rw [hl]; exact fa.1.n2, fun t ht => (okv_iff _).2 (.inr (by rw [hl] at ht; rw [hnth t ht]; exact hv t ht)), fa.1.p2, hi⟩
  refine ⟨⟨fa, ⟨ok, ?_⟩, hat, hl, rfl, rfl, hk⟩, hn.to_at⟩
  rw [hl, hnth _ (by omega)]
  have := hv (a.vals.length - 1) (by omega)
  unfold inf
  omega
theorem mul_cancel {x y k : Int} (hk : 1 ≤ k) : x * k = y * k ↔ x = y := ⟨fun h => Int.eq_of_mul_eq_mul_right (by omega) h, fun h => by rw [h]⟩
theorem mul_le_iff {x y k : Int} (hk : 1 ≤ k) : x * k ≤ y * k ↔ x ≤ y := ⟨fun h => Int.le_of_mul_le_mul_right h (by omega), fun h => Int.mul_le_mul_of_nonneg_right h (by omega)⟩
section
variable {a x h y f : Cv} {k : Int}
theorem sc_L (H : ScF a x k) (K : ScF h y k) : clL x y = clL a h := by unfold clL; rw [if_pos K.fx, if_pos K.fa, H.per, K.per]
theorem sc_cst (H : ScF a x k) : cst x = cst a := by unfold cst; rw [H.len, H.per]
theorem sc_F (H : ScF a x k) (K : ScF h y k) : clF x y = clF a h := by unfold clF; rw [sc_L H K, sc_cst H, sc_cst K]
theorem sc_gnl (H : ScF a x k) (l : Nat) : gnl x l = gnl a l * k := by unfold gnl; rw [H.per, H.inc, Int.mul_assoc]
theorem sc_T (H : ScF a x k) (K : ScF h y k) : ClT x y ↔ ClT a h := by
  unfold ClT
  rw [sc_L H K, sc_gnl H, sc_gnl K, mul_cancel H.k1]
  exact ⟨fun q => ⟨H.fa, K.fa, q.2.2⟩, fun q => ⟨H.fx, K.fx, q.2.2⟩⟩
theorem sc_fit (H : ScF a x k) (K : ScF h y k) {t s : Nat} (ht : t ≤ 4000000) : ClFit x y t s ↔ ClFit a h t s := by
  unfold ClFit
  have i1 : y.at t = inf ↔ h.at t = inf := ⟨fun q => absurd q (fin_at_ne K.fx (by omega)), fun q => absurd q (fin_at_ne K.fa (by omega))⟩
  rw [sc_F H K, sc_T H K, sc_cst K, i1, H.at_, K.at_ t, mul_cancel H.k1]
  have e : (1 ≤ s ∧ s < t ∧ pl (y.at s) (y.at (t - s)) = h.at t * k ∧ (t < clF a h ∨ cst h ≤ t - s)) ↔ (1 ≤ s ∧ s < t ∧ pl (h.at s) (h.at (t - s)) = h.at t ∧ (t < clF a h ∨ cst h ≤ t - s)) := by
    refine and_congr_right fun h1 => and_congr_right fun h2 => and_congr_left fun _ => ?_
    rw [pl_fin (fin_at_ne K.fx (by omega)) (fin_at_ne K.fx (by omega)), pl_fin (fin_at_ne K.fa (by omega)) (fin_at_ne K.fa (by omega)), K.at_, K.at_, ← Int.add_mul, mul_cancel K.k1]
  rw [e]
theorem sc_small (H : ScF a x k) (K : ScF h y k) : clF a h + clL a h ≤ 40000 := by
  have h1 := H.fa.1.p1; have h2 := K.fa.1.p1; have h3 := H.fa.1.p2; have h4 := K.fa.1.p2
  have c := comm_facts (p := a.per.toNat) (q := h.per.toNat) (by omega) (by omega)
  have d : a.per.toNat * h.per.toNat ≤ 120 * 120 := Nat.mul_le_mul (by omega) (by omega)
  have := cst_le H.fa.1; have := cst_le K.fa.1
  unfold clF clL
  rw [if_pos K.fa]
  omega
theorem sc_pv (H : ScF a x k) (K : ScF h y k) {cs : List Int} (P : PvAtC a h cs) : PvAtC x y cs := by
  have hs := sc_small H K
  refine ⟨by rw [sc_F H K, sc_L H K]; exact P.1, fun t ht => ?_⟩
  have hl := P.1
  obtain ⟨u, h1, h2, h3, h4⟩ := P.2 t ht
  exact ⟨u, h1, h2, fun q => (sc_fit H K (by omega)).2 (h3 q), fun z hz q => h4 z hz ((sc_fit H K (by omega)).1 q)⟩
theorem sc_lec (H : ScF a x k) (K : ScF h y k) : LEC y x ↔ LEC h a := by
  refine ⟨fun q n => ?_, fun q n => ?_⟩
  · rcases q n with r | ⟨_, r⟩
    · exact absurd r (H.fx.not_infAt n)
    · rw [H.at_, K.at_, mul_le_iff H.k1] at r
      exact .inr ⟨K.fa.not_infAt n, r⟩
  · rcases q n with r | ⟨_, r⟩
    · exact absurd r (H.fa.not_infAt n)
    · exact .inr ⟨K.fx.not_infAt n, by rw [H.at_, K.at_, mul_le_iff H.k1]; exact r⟩
theorem sc_add (K : ScF h y k) : AddB y ↔ AddB h := by
  have n2 := K.fa.1.n2; have n3 := K.len
  have e : ∀ s u, s < h.vals.length → u < h.vals.length → (y.at (s + u) ≤ pl (y.at s) (y.at u) ↔ h.at (s + u) ≤ pl (h.at s) (h.at u)) := fun s u hs hu => by
    rw [pl_fin (fin_at_ne K.fx (by omega)) (fin_at_ne K.fx (by omega)), pl_fin (fin_at_ne K.fa (by omega)) (fin_at_ne K.fa (by omega)), K.at_, K.at_, K.at_, ← Int.add_mul, mul_le_iff K.k1]
  exact ⟨fun q s u hs hu => (e s u hs hu).1 (q s u (by omega) (by omega)), fun q s u hs hu => (e s u (by omega) (by omega)).2 (q s u (by omega) (by omega))⟩
theorem sc_ck (hf : f.Ok) (ha : NF f.at a) (nx : NF x.at x) (ny : NF y.at y) (nh : NF h.at h) (H : ScF a x k) (K : ScF h y k) {cs : List Int} : CkC x y (clF x y : Nat) cs ↔ CkC f h (clF a h : Nat) cs := by
  have hs := sc_small H K
  have n1 := K.fa.1.n1
  have z : nth y.vals 0 = 0 ↔ nth h.vals 0 = 0 := by
    rw [← Cv.at_lt (f := y) (by rw [K.len]; omega), ← Cv.at_lt (f := h) (by omega), K.at_, show (0 : Int) = 0 * k from (Int.zero_mul k).symm, mul_cancel K.k1, Int.zero_mul]
  have at_ : ClAt x y (clF x y : Nat) cs ↔ ClAt a h (clF a h : Nat) cs := by
    unfold ClAt
    rw [sc_F H K, sc_L H K]
    refine and_congr_right fun _ => and_congr_right fun hl => and_congr_right fun _ => ?_
    exact ⟨fun q t h1 h2 => ⟨(q t h1 h2).1, (sc_fit H K (by omega)).1 (q t h1 h2).2⟩, fun q t h1 h2 => ⟨(q t h1 h2).1, (sc_fit H K (by omega)).2 (q t h1 h2).2⟩⟩
  constructor
  · rintro ⟨_, _, _, q0, a', na', q1, q2, q3, q4⟩
    obtain rfl := na'.unique nx
    exact ⟨hf, K.fa.1, nh, z.1 q0, a, ha, by rw [← sc_L H K]; exact q1, at_.1 q2, (sc_lec H K).1 q3, (sc_add K).1 q4⟩
  · rintro ⟨_, _, _, q0, a', na', q1, q2, q3, q4⟩
    obtain rfl := na'.unique ha
    exact ⟨H.fx.1, K.fx.1, ny, z.2 q0, x, nx, by rw [sc_L H K]; exact q1, at_.2 q2, (sc_lec H K).2 q3, (sc_add K).2 q4⟩
theorem sc_clo (H : ScF a x k) (h1 : a.at 1 ≤ 10000) (hk2 : k ≤ 100) (t : Nat) (ht : t ≤ 2000) : clo x.at t = clo a.at t * k := by
  rw [show x.at = fun t => a.at t * k from funext H.at_]
  exact clo_scale H.fa.1.up0.nn h1 H.k1 hk2 t ht
theorem clo_small (fa : a.Fin) (h1 : a.at 1 ≤ 10000) {t : Nat} (ht : t ≤ 2000) : clo a.at t ≤ 10000 * t := by
  have h0 := fa.1.up0.nn
  induction t with
  | zero => rw [clo_zero]; omega
  | succ t ih =>
    by_cases e : t = 0
    · subst e
      have := clo_le (f := a.at) (t := 1) (by omega)
      show clo a.at 1 ≤ _
      omega
    · have p := clo_sub (f := a.at) (s := t) (u := 1) (by omega) (by omega)
      have q := ih (by omega)
      have c := clo_le (f := a.at) (t := 1) (by omega)
      rw [clo_pl h0 (by omega) (by omega) (by omega)] at p
      omega
theorem cand_fin (fa : a.Fin) (h1 : a.at 1 ≤ 10000) (ho : h.Ok) (he : ∀ t, t < 640 → h.at t = clo a.at t) : h.Fin :=
  ok_fin640 ho he (clo_ne fa.1.up0.nn (by omega) (by omega))
theorem cand_inc (fh : h.Fin) {c : Nat → Int} (he : ∀ t, t < 640 → h.at t = c t) (hc : ∀ t, t < 640 → 0 ≤ c t ∧ c t ≤ 10000 * t) : h.inc ≤ 6400000 := by
  have p1 := fh.1.p1; have p2 := fh.1.p2
  have k0 := fh.per400 400 (by omega)
  rw [he _ (by omega), he 400 (by omega)] at k0
  have a := hc (400 + h.per.toNat) (by omega); have b := hc 400 (by omega)
  omega
theorem cand_sc0 (H : ScF a x k) (h1 : a.at 1 ≤ 10000) (hk2 : k ≤ 100) (hc : CandS (clo a.at) h 0) : ScF h (scaleL h k) k ∧ NF (scaleL h k).at (scaleL h k) ∧ NF h.at h ∧ CandS (clo x.at) (scaleL h k) 0 := by
  have hk := H.k1
  rcases hc with ⟨_, ho, hn, he⟩ | ⟨h, _⟩
  · have fh := cand_fin H.fa h1 ho he
    have n2 := ho.n2
    have hb : ∀ t, t < 640 → 0 ≤ clo a.at t ∧ clo a.at t ≤ 10000 * t := fun t ht => ⟨clo_nn H.fa.1.up0.nn t, clo_small H.fa h1 (by omega)⟩
    have hi := cand_inc fh he hb
    have i1 := ho.i1
    obtain ⟨q1, q2⟩ := scF_of (k := k) fh hn hk hk2 (fun t ht => by
      rw [he t (by omega)]
      have := hb t (by omega)
      have : clo a.at t * k ≤ 6400000 * 100 := Int.mul_le_mul (by omega) hk2 (by omega) (by omega)
      omega) (by
      have : h.inc * k ≤ 6400000 * 100 := Int.mul_le_mul hi hk2 (by omega) (by omega)
      omega)
    exact ⟨q1, q2, hn, .inl ⟨rfl, q1.fx.1, q2, fun t ht => by rw [q1.at_, he t ht, sc_clo H h1 hk2 t (by omega)]⟩⟩
  · omega
/-- a curve whose values are multiples is the multiple of a curve -/
theorem nf_div {g : Cv} (fg : g.Fin) (ng : NF g.at g) (hk : 1 ≤ k) (hd : ∀ t, t < 640 → k ∣ g.at t) : ∃ r : Cv, r.Ok ∧ NF r.at r ∧ ∀ t, g.at t = r.at t * k := by
  have p1 := fg.1.p1; have p2 := fg.1.p2; have n1 := fg.1.n1; have n2 := fg.1.n2; have pn := fg.1.pn; have i1 := fg.1.i1; have i2 := fg.1.i2
  have st := fg.per400
  have di : k ∣ g.inc := by
    have k0 := st 400 (by omega)
    have a := hd (400 + g.per.toNat) (by omega); have b := hd 400 (by omega)
    rw [show g.inc = g.at (400 + g.per.toNat) - g.at 400 by omega]
    exact Int.dvd_sub a b
  have da : ∀ t, k ∣ g.at t := by
    intro t
    induction t using Nat.strongRecOn with
    | _ t ih =>
      by_cases e : t < 640
      · exact hd t e
      · have q := st (t - g.per.toNat) (by omega)
        rw [show t - g.per.toNat + g.per.toNat = t by omega] at q
        rw [q]
        exact Int.dvd_add (ih _ (by omega)) di
  obtain ⟨u, hu⟩ : ∃ u : Nat → Int, ∀ t, g.at t = u t * k := ⟨fun t => Classical.choose (da t), fun t => by rw [Int.mul_comm]; exact Classical.choose_spec (da t)⟩
  obtain ⟨j, hj⟩ : ∃ j, g.inc = j * k := ⟨Classical.choose di, by rw [Int.mul_comm]; exact Classical.choose_spec di⟩
  have u0 : ∀ t, 0 ≤ u t := fun t => by
    have q := fg.1.up0.nn t
    rw [hu t] at q
    rcases Int.lt_or_le (u t) 0 with e | e
    · have : u t * k < 0 * k := Int.mul_lt_mul_of_pos_right e (by omega)
      omega
    · exact e
  have um : ∀ t, u t ≤ u (t + 1) := fun t => by
    have q := fg.1.at_mono t
    rw [hu, hu, mul_le_iff hk] at q
    exact q
  have ul : ∀ t, u t ≤ g.at t := fun t => by
    rw [hu t]
    have := Int.mul_le_mul_of_nonneg_left (a := 1) (b := k) hk (u0 t)
    omega
  have j0 : 0 ≤ j := by
    rcases Int.lt_or_le j 0 with e | e
    · have : j * k < 0 * k := Int.mul_lt_mul_of_pos_right e (by omega)
      omega
    · exact e
  have jl : j ≤ g.inc := by
    rw [hj]
    have := Int.mul_le_mul_of_nonneg_left (a := 1) (b := k) hk j0
    omega
  have pp : ∀ s p b, Per u s p b → Per g.at s p (b * k) := fun s p b H t ht => by rw [hu, hu, H t ht, Int.add_mul]
  have hn : NFin g.at g := by
    rcases ng with q | q
    · exact q
    · exfalso
      have := q.from_ (g.vals.length - 1) (by omega)
      exact fin_at_ne fg (by omega) this
  have hl : (Cv.mk (tab u 0 g.vals.length) g.per j).vals.length = g.vals.length := tab_length _ _ _
  have hf : NFin u ⟨tab u 0 g.vals.length, g.per, j⟩ := by
    refine ⟨p1, by rw [hl]; exact pn, fun t ht => ?_, fun t ht => ?_, fun q s b h1 h2 => hn.least q s (b * k) h1 (pp s q b h2), ?_, fun t ht => ?_⟩
    · rw [hl] at ht
      show nth (tab u 0 g.vals.length) t = _
      rw [tab_nth _ _ _ _ ht, Nat.zero_add]
    · rw [hl] at ht
      have q := hn.per t ht
      rw [hu, hu, hj, ← Int.add_mul, mul_cancel hk] at q
      exact q
    · rw [hl]
      rcases hn.start with q | q
      · exact .inl q
      · refine .inr fun e => q ?_
        rw [hu, hu, hj, ← Int.add_mul, mul_cancel hk]
        exact e
    · rw [hl] at ht
      have q := (fg.ne t ht).2
      have := ul t
      rw [Cv.at_lt ht] at this
      unfold inf
      omega
  have ok : (Cv.mk (tab u 0 g.vals.length) g.per j).Ok := by
    refine nf_lim_ok (.inl hf) ⟨u0 0, um⟩ ⟨by rw [hl]; exact n2, fun t ht => (okv_iff _).2 (.inr ?_), p2, by show j ≤ _; omega⟩
    rw [hl] at ht
    rw [hf.vals t (by rw [hl]; exact ht)]
    have q := (fg.ne t ht).2
    have := ul t
    rw [Cv.at_lt ht] at this
    omega
  exact ⟨_, ok, (NF.to_at (.inl hf)), fun t => by rw [NF.at (.inl hf)]; exact hu t⟩
theorem cand_sc3 (H : ScF a x k) (h1 : a.at 1 ≤ 10000) (hk2 : k ≤ 100) (hc : CandS (clo a.at) h 3) : CandS (clo x.at) Cv.none 3 := by
  rcases hc with ⟨h, _⟩ | ⟨_, _, hno⟩
  · omega
  refine .inr ⟨rfl, rfl, fun g hg ng he => ?_⟩
  have hne : clo x.at 639 ≠ inf := by
    rw [sc_clo H h1 hk2 639 (by omega)]
    have q1 := clo_small H.fa h1 (t := 639) (by omega)
    have q0 := clo_nn H.fa.1.up0.nn 639
    have k1 := H.k1
    have : clo a.at 639 * k ≤ 6390000 * 100 := Int.mul_le_mul (by omega) hk2 (by omega) (by omega)
    unfold inf
    omega
  have fg := ok_fin640 hg he hne
  obtain ⟨r, r1, r2, r3⟩ := nf_div fg ng H.k1 fun t ht => by rw [he t ht, sc_clo H h1 hk2 t (by omega)]; exact Int.dvd_mul_left _ _
  refine hno r r1 r2 fun t ht => ?_
  have q := r3 t
  rw [he t ht, sc_clo H h1 hk2 t (by omega), mul_cancel H.k1] at q
  exact q.symm
/-- the closure of a multiple -/
theorem pv_scale (hf : f.Ok) (ha : NF f.at a) (nx : NF x.at x) (H : ScF a x k) (h1 : a.at 1 ≤ 10000) (hk2 : k ≤ 100) {r : Cv} {fr : Int} {cs : List Int} {er : Int} (P : PvC f r fr cs er) :
    (er = 0 ∧ ClS x (scaleL r k) 0 ∧ ScF r (scaleL r k) k ∧ NF r.at r) ∨ (er = 3 ∧ ClS x Cv.none 3) := by
  rcases P with ⟨h, _⟩ | ⟨_, a', ha', P⟩
  · exact absurd hf h
  obtain rfl := ha'.unique ha
  rcases P with ⟨p1, rfl, rfl, rfl, rfl⟩ | ⟨p1, h, e0, hc, P⟩
  · exact .inr ⟨rfl, 0, [], .inr ⟨H.fx.1, x, nx, .inl ⟨by rw [H.len]; exact p1, rfl, rfl, rfl, rfl⟩⟩⟩
  have p1' : x.vals.length ≤ 60 := by rw [H.len]; exact p1
  rcases P with ⟨rfl, rfl, rfl, rfl, rfl⟩ | ⟨rfl, cs0, hp, P⟩
  · exact .inr ⟨rfl, 0, [], .inr ⟨H.fx.1, x, nx, .inr ⟨p1', _, 3, cand_sc3 H h1 hk2 hc, .inl ⟨rfl, rfl, rfl, rfl, rfl⟩⟩⟩⟩
  obtain ⟨K, ny, nh, hc'⟩ := cand_sc0 H h1 hk2 hc
  have hp' := sc_pv H K hp
  rcases P with ⟨p2, rfl, rfl, rfl, rfl⟩ | ⟨p2, rfl, rfl, rfl, rfl⟩
  · exact .inl ⟨rfl, ⟨_, _, .inr ⟨H.fx.1, x, nx, .inr ⟨p1', _, 0, hc', .inr ⟨rfl, _, hp', .inl ⟨(sc_ck hf ha nx ny nh H K).2 p2, rfl, rfl, rfl, rfl⟩⟩⟩⟩⟩, K, nh⟩
  · exact .inr ⟨rfl, _, _, .inr ⟨H.fx.1, x, nx, .inr ⟨p1', _, 0, hc', .inr ⟨rfl, _, hp', .inr ⟨fun q => p2 ((sc_ck hf ha nx ny nh H K).1 q), rfl, rfl, rfl, rfl⟩⟩⟩⟩⟩
end
end Go.Proofs.Ythdibkmjoiipgaa
