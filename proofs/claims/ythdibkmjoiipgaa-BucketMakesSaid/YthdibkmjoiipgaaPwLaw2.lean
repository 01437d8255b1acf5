/- Plain words: the values of Minimum, Maximum, Ahead, Lower and Raise, and what each of them returns. -/
import Derived.Test.YthdibkmjoiipgaaPwLaw
namespace Go.Proofs.Ythdibkmjoiipgaa
set_option linter.unusedVariables false

/-- what a function returns that makes the curve with the values h, if there is one within the limits -/
def MadeL (h : Nat → Int) (f : Cv) (er : Int) : Prop := (NF h f ∧ Lim f ∧ er = 0) ∨ ((∀ g, NF h g → ¬ Lim g) ∧ f = Cv.none ∧ er = 3)
theorem MadeS.toL {h : Nat → Int} {f : Cv} {er : Int} (m : MadeS h f er) : MadeL h f er := by
  obtain ⟨g, hg, ⟨hl, rfl, rfl⟩ | ⟨hl, rfl, rfl⟩⟩ := m
  · exact .inl ⟨hg, hl, rfl⟩
  · exact .inr ⟨fun g' hg' => by rw [hg'.unique hg]; exact hl, rfl, rfl⟩
theorem MadeL.unique {h : Nat → Int} {f f' : Cv} {e e' : Int} (a : MadeL h f e) (b : MadeL h f' e') : f = f' ∧ e = e' := by
  rcases a with ⟨h1, h2, rfl⟩ | ⟨h1, rfl, rfl⟩ <;> rcases b with ⟨k1, k2, rfl⟩ | ⟨k1, rfl, rfl⟩
  · exact ⟨h1.unique k1, rfl⟩
  · exact absurd h2 (k1 _ h1)
  · exact absurd k2 (h1 _ k1)
  · exact ⟨rfl, rfl⟩
theorem MadeL.congr {h h' : Nat → Int} {f : Cv} {er : Int} (m : MadeL h f er) (e : ∀ t, h t = h' t) : MadeL h' f er := by
  obtain rfl : h = h' := funext e
  exact m
theorem MadeL.get {h : Nat → Int} {f : Cv} {er : Int} (m : MadeL h f er) (H : Up0 h) : (er = 0 ∧ f.Ok ∧ NF h f) ∨ (er = 3 ∧ f = Cv.none) := by
  rcases m with ⟨h1, h2, rfl⟩ | ⟨_, rfl, rfl⟩
  · exact .inl ⟨rfl, nf_lim_ok h1 H h2, h1⟩
  · exact .inr ⟨rfl, rfl⟩
theorem MadeL.none_ {h : Nat → Int} (k : ∀ g, NF h g → ¬ Lim g) : MadeL h Cv.none 3 := .inr ⟨k, rfl, rfl⟩
/-- a curve within the limits repeats from the tick 400 on -/
theorem lim_per {h : Nat → Int} {g : Cv} (hg : NF h g) (hl : Lim g) (hne : h 400 ≠ inf) : ∃ (q : Nat) (b : Int), 1 ≤ q ∧ Per h 400 q b := by
  have h1 := hl.1
  rcases hg with hg | hg
  · have hp1 := hg.p1
    exact ⟨g.per.toNat, g.inc, by omega, hg.per.mono (by omega)⟩
  · exact absurd (hg.from_ 400 (by omega)) hne

/-! ### The lesser or the greater values -/
def pk (l : Bool) (x y : Int) : Int := if l = true then min x y else max x y
theorem pk_true (x y : Int) : pk true x y = min x y := rfl
theorem pk_false (x y : Int) : pk false x y = max x y := rfl
theorem pk_comm (l : Bool) (x y : Int) : pk l x y = pk l y x := by
  cases l
  · rw [pk_false, pk_false]; omega
  · rw [pk_true, pk_true]; omega
open Classical in
noncomputable def exV (l : Bool) (a b : Cv) (t : Nat) : Int :=
  if a.infAt t then (if l = true then b.at t else inf) else if b.infAt t then (if l = true then a.at t else inf) else pk l (a.at t) (b.at t)
section
variable {l : Bool} {a b : Cv}
theorem exV_pk (ha : a.Ok) (hb : b.Ok) {t : Nat} (ht : t ≤ 4000000000) : exV l a b t = pk l (a.at t) (b.at t) := by
  have h1 := ha.at_bd ht; have h2 := hb.at_bd ht
  unfold exV
  by_cases i1 : a.infAt t
  · rw [if_pos i1, i1.2]
    cases l
    · rw [pk_false]; simp only [Bool.false_eq_true, if_false]; omega
    · rw [pk_true]; simp only [if_true]; omega
  · rw [if_neg i1]
    by_cases i2 : b.infAt t
    · rw [if_pos i2, i2.2]
      cases l
      · rw [pk_false]; simp only [Bool.false_eq_true, if_false]; omega
      · rw [pk_true]; simp only [if_true]; omega
    · rw [if_neg i2]
theorem exV_fin (ha : a.Fin) (hb : b.Fin) (t : Nat) : exV l a b t = pk l (a.at t) (b.at t) := by
  unfold exV
  rw [if_neg (ha.not_infAt t), if_neg (hb.not_infAt t)]
theorem exV_infl {t : Nat} (h : a.infAt t) : exV l a b t = if l = true then b.at t else inf := by unfold exV; rw [if_pos h]
theorem exV_infr {t : Nat} (h0 : ¬ a.infAt t) (h : b.infAt t) : exV l a b t = if l = true then a.at t else inf := by unfold exV; rw [if_neg h0, if_pos h]
theorem exV_nf {f g : Cv} (hf : f.Ok) (hg : g.Ok) (ha : NF f.at a) (hb : NF g.at b) : exV l a b = exV l f g := by
  funext t
  unfold exV
  have e1 := ha.inf_iff hf t; have e2 := hb.inf_iff hg t
  rw [ha.at, hb.at]
  by_cases i1 : f.infAt t
  · rw [if_pos i1, if_pos (e1.2 i1)]
  · rw [if_neg i1, if_neg (fun h => i1 (e1.1 h))]
    by_cases i2 : g.infAt t
    · rw [if_pos i2, if_pos (e2.2 i2)]
    · rw [if_neg i2, if_neg (fun h => i2 (e2.1 h))]
theorem exV_small (ha : a.Ok) (hb : b.Ok) {t : Nat} (ht : t ≤ 4000000000) : 0 ≤ exV l a b t ∧ exV l a b t ≤ 4611686018427387904 := by
  rw [exV_pk ha hb ht]
  have h1 := ha.at_bd ht; have h2 := hb.at_bd ht
  unfold inf at h1 h2
  cases l
  · rw [pk_false]; omega
  · rw [pk_true]; omega
theorem exV_inf (ha : a.Ok) (hb : b.Ok) {m t : Nat} (hm : m ≤ 4000000000) (h : exV l a b m = inf) (hmt : m ≤ t) : exV l a b t = inf := by
  rw [exV_pk ha hb hm] at h
  have h1 := ha.at_bd hm; have h2 := hb.at_bd hm
  cases l
  · rw [pk_false] at h
    by_cases i1 : a.at m = inf
    · rw [exV_infl ((h1.2.2 i1).later ha hmt)]; rfl
    · have i2 : b.at m = inf := by omega
      by_cases i3 : a.infAt t
      · rw [exV_infl i3]; rfl
      · rw [exV_infr i3 ((h2.2.2 i2).later hb hmt)]; rfl
  · rw [pk_true] at h
    have i1 : a.at m = inf := by omega
    have i2 : b.at m = inf := by omega
    rw [exV_infl ((h1.2.2 i1).later ha hmt)]
    exact ((h2.2.2 i2).later hb hmt).2
theorem Cv.Ok.inf_or {a : Cv} (ha : a.Ok) {t : Nat} (ht : 400 ≤ t + 1) : a.Fin ∨ a.infAt t := by
  have := ha.n2
  rcases ha.fin_or with h | h
  · exact .inl h
  · exact .inr ⟨h, ha.at_inf h (by omega)⟩
theorem exV_up (ha : a.Ok) (hb : b.Ok) : Up0 (exV l a b) := by
  refine ⟨(exV_small ha hb (by omega)).1, fun t => ?_⟩
  rcases Nat.lt_or_ge t 1000 with ht | ht
  · rw [exV_pk ha hb (by omega), exV_pk ha hb (by omega)]
    have h1 := ha.at_mono t; have h2 := hb.at_mono t
    cases l
    · rw [pk_false, pk_false]; omega
    · rw [pk_true, pk_true]; omega
  · have h1 := ha.at_mono t; have h2 := hb.at_mono t
    rcases ha.inf_or (t := t) (by omega) with fa | ia
    · rcases hb.inf_or (t := t) (by omega) with fb | ib
      · rw [exV_fin fa fb, exV_fin fa fb]
        cases l
        · rw [pk_false, pk_false]; omega
        · rw [pk_true, pk_true]; omega
      · rw [exV_infr (fa.not_infAt _) ib, exV_infr (fa.not_infAt _) (ib.later hb (by omega))]
        cases l
        · exact Int.le_refl _
        · exact h1
    · rw [exV_infl ia, exV_infl (ia.later ha (by omega))]
      cases l
      · exact Int.le_refl _
      · exact h2
/-- where the first one is infinite, or the second one -/
theorem exV_one (ha : a.Ok) (hb : b.Ok) (h : ¬ (a.Fin ∧ b.Fin)) (hne : exV l a b (ordF a b) ≠ inf) :
    (a.Fin ∧ ∀ t, ordF a b ≤ t → exV l a b t = a.at t) ∨ (¬ a.Fin ∧ b.Fin ∧ ∀ t, ordF a b ≤ t → exV l a b t = b.at t) := by
  have B := ord_b ha hb
  rcases ha.fin_or with fa | ia
  · rcases hb.fin_or with fb | ib
    · exact absurd ⟨fa, fb⟩ h
    · have k : ∀ t, ordF a b ≤ t → b.infAt t := fun t ht => hb.infAt_start ib (Nat.le_trans B.gs ht)
      cases l
      · exact absurd (by rw [exV_infr (fa.not_infAt _) (k _ (Nat.le_refl _))]; rfl) hne
      · exact .inl ⟨fa, fun t ht => by rw [exV_infr (fa.not_infAt _) (k t ht)]; rfl⟩
  · have k : ∀ t, ordF a b ≤ t → a.infAt t := fun t ht => ha.infAt_start ia (Nat.le_trans B.fs ht)
    cases l
    · exact absurd (by rw [exV_infl (k _ (Nat.le_refl _))]; rfl) hne
    · refine .inr ⟨fun fa => fa.2 ia, ?_, fun t ht => by rw [exV_infl (k t ht)]; rfl⟩
      rcases hb.fin_or with fb | ib
      · exact fb
      · exact absurd (by rw [exV_infl (k _ (Nat.le_refl _))]; exact (hb.infAt_start ib B.gs).2) hne
end

/-- two functions that grow alike in each c ticks: what stays chosen -/
theorem ex_last {l : Bool} {z y : Nat → Int} {c : Nat} {Z Y : Int} (hc : 1 ≤ c) (hz : Per z 400 c Z) (hy : Per y 400 c Y) (hZY : if l = true then Z < Y else Y < Z) (hall : ∀ t, 400 ≤ t → t < 400 + c → pk l (z t) (y t) = z t) (t : Nat) (ht : 400 ≤ t) : pk l (z t) (y t) = z t := by
  obtain ⟨r, m, hr, rfl⟩ := res_of hc ht
  have e1 := hz.mul m (400 + r) (by omega)
  have e2 := hy.mul m (400 + r) (by omega)
  have h0 := hall (400 + r) (by omega) (by omega)
  rw [e1, e2]
  cases l
  · rw [pk_false] at h0 ⊢
    simp only [Bool.false_eq_true, if_false] at hZY
    have h3 : (m : Int) * Y ≤ (m : Int) * Z := Int.mul_le_mul_of_nonneg_left (by omega) (by omega)
    omega
  · rw [pk_true] at h0 ⊢
    simp only [if_true] at hZY
    have h3 : (m : Int) * Z ≤ (m : Int) * Y := Int.mul_le_mul_of_nonneg_left (by omega) (by omega)
    omega
/-- what repeats from the tick 400 on is the one that is chosen in the long run -/
theorem ex_not {l : Bool} {z y h : Nat → Int} {c q : Nat} {Z Y G : Int} (hc : 1 ≤ c) (hz : Per z 400 c Z) (hy : Per y 400 c Y) (hZY : if l = true then Z < Y else Y < Z) (hh : ∀ t, 400 ≤ t → h t = pk l (z t) (y t)) (hq : 1 ≤ q) (hP : Per h 400 q G) (t : Nat) (ht : 400 ≤ t) : h t = z t := by
  have p1 := hz.mul q; have p2 := hy.mul q; have p3 := hP.mul c
  rw [Nat.mul_comm c q] at p3
  have hD : if l = true then (q : Int) * Z + 1 ≤ (q : Int) * Y else (q : Int) * Y + 1 ≤ (q : Int) * Z := by
    cases l
    · simp only [Bool.false_eq_true, if_false] at hZY ⊢
      have : (q : Int) * (Y + 1) ≤ (q : Int) * Z := Int.mul_le_mul_of_nonneg_left (by omega) (by omega)
      rw [Int.mul_add, Int.mul_one] at this; omega
    · simp only [if_true] at hZY ⊢
      have : (q : Int) * (Z + 1) ≤ (q : Int) * Y := Int.mul_le_mul_of_nonneg_left (by omega) (by omega)
      rw [Int.mul_add, Int.mul_one] at this; omega
  generalize (q : Int) * Z = Z' at *
  generalize (q : Int) * Y = Y' at *
  generalize (c : Int) * G = G' at *
  generalize q * c = Q at *
  have key : ∀ m : Nat, (z t - y t ≤ m ∧ y t - z t ≤ m) → h t + m * G' = z t + m * Z' := by
    intro m hm
    have e1 := p1.mul m t ht; have e2 := p2.mul m t ht; have e3 := p3.mul m t ht
    rw [hh _ (by omega), e1, e2] at e3
    rw [← e3]
    cases l
    · simp only [Bool.false_eq_true, if_false] at hD
      have : (m : Int) * (Y' + 1) ≤ (m : Int) * Z' := Int.mul_le_mul_of_nonneg_left hD (by omega)
      rw [Int.mul_add, Int.mul_one] at this
      rw [pk_false]; omega
    · simp only [if_true] at hD
      have : (m : Int) * (Z' + 1) ≤ (m : Int) * Y' := Int.mul_le_mul_of_nonneg_left hD (by omega)
      rw [Int.mul_add, Int.mul_one] at this
      rw [pk_true]; omega
  have k1 := key ((z t - y t).toNat + (y t - z t).toNat) (by omega)
  have k2 := key ((z t - y t).toNat + (y t - z t).toNat + 1) (by omega)
  generalize (z t - y t).toNat + (y t - z t).toNat = M at *
  rw [show ((M + 1 : Nat) : Int) = (M : Int) + 1 by omega, Int.add_mul, Int.add_mul, Int.one_mul, Int.one_mul] at k2
  obtain rfl : G' = Z' := by omega
  omega

/-- the gain in a common period -/
def gnA (a b : Cv) : Int := (ordC a b / a.per.toNat : Nat) * a.inc
def gnB (a b : Cv) : Int := (ordC a b / b.per.toNat : Nat) * b.inc
theorem ordD_gn (a b : Cv) : ordD a b = gnA a b - gnB a b := rfl
theorem gnA_per {a b : Cv} (ha : a.Fin) (hb : b.Ok) {s : Nat} (hs : a.vals.length - a.per.toNat ≤ s) : Per a.at s (ordC a b) (gnA a b) := by
  have hp := ha.1.p1; have hq := hb.p1
  have hk := comm_facts (p := a.per.toNat) (q := b.per.toNat) (by omega) (by omega)
  have := (ha.toL.step.mono hs).mul (ordC a b / a.per.toNat)
  rwa [show ordC a b / a.per.toNat * a.per.toNat = ordC a b from hk.1.symm] at this
theorem gnB_per {a b : Cv} (ha : a.Ok) (hb : b.Fin) {s : Nat} (hs : b.vals.length - b.per.toNat ≤ s) : Per b.at s (ordC a b) (gnB a b) := by
  have hp := ha.p1; have hq := hb.1.p1
  have hk := comm_facts (p := a.per.toNat) (q := b.per.toNat) (by omega) (by omega)
  have := (hb.toL.step.mono hs).mul (ordC a b / b.per.toNat)
  rwa [show ordC a b / b.per.toNat * b.per.toNat = ordC a b from hk.2.1.symm] at this
section
variable {l : Bool} {a b : Cv}
theorem exV_eq (fa : a.Fin) (fb : b.Fin) (hD : gnA a b = gnB a b) {s : Nat} (hs : ordF a b ≤ s) : Per (exV l a b) s (ordC a b) (gnA a b) := fun t ht => by
  have B := ord_b fa.1 fb.1
  have h1 := gnA_per fa fb.1 (Nat.le_trans B.fs hs) t ht
  have h2 := gnB_per fa.1 fb (Nat.le_trans B.gs hs) t ht
  rw [exV_fin fa fb, exV_fin fa fb]
  cases l
  · rw [pk_false, pk_false]; omega
  · rw [pk_true, pk_true]; omega
/-- the slope of the first curve is that of the result -/
def firstS (l : Bool) (x y : Int) : Prop := if l = true then x < y else y < x
theorem exV_stayA (fa : a.Fin) (fb : b.Fin) (hf : firstS l (gnA a b) (gnB a b)) (hall : ∀ t, 400 ≤ t → t < 400 + ordC a b → exV l a b t = a.at t) (t : Nat) (ht : 400 ≤ t) : exV l a b t = a.at t := by
  have B := ord_b fa.1 fb.1
  have hn := B.fs; have hm := B.gs; have h0 := B.f0
  rw [exV_fin fa fb]
  exact ex_last B.c1 (gnA_per fa fb.1 (by omega)) (gnB_per fa.1 fb (by omega)) hf (fun t h1 h2 => by rw [← exV_fin fa fb]; exact hall t h1 h2) t ht
theorem exV_stayB (fa : a.Fin) (fb : b.Fin) (hf : firstS l (gnB a b) (gnA a b)) (hall : ∀ t, 400 ≤ t → t < 400 + ordC a b → exV l a b t = b.at t) (t : Nat) (ht : 400 ≤ t) : exV l a b t = b.at t := by
  have B := ord_b fa.1 fb.1
  have hn := B.fs; have hm := B.gs; have h0 := B.f0
  rw [exV_fin fa fb, pk_comm]
  exact ex_last B.c1 (gnB_per fa.1 fb (by omega)) (gnA_per fa fb.1 (by omega)) hf (fun t h1 h2 => by rw [pk_comm, ← exV_fin fa fb]; exact hall t h1 h2) t ht
theorem exV_400 (fa : a.Fin) (fb : b.Fin) : exV l a b 400 ≠ inf := by
  rw [exV_fin fa fb]
  have h1 := fa.at_bd 400; have h2 := fb.at_bd 400
  unfold inf
  cases l
  · rw [pk_false]; omega
  · rw [pk_true]; omega
theorem exV_noA (fa : a.Fin) (fb : b.Fin) (hf : firstS l (gnA a b) (gnB a b)) {t : Nat} (ht : 400 ≤ t) (hne : exV l a b t ≠ a.at t) : ∀ g, NF (exV l a b) g → ¬ Lim g := fun g hg hl => by
  have B := ord_b fa.1 fb.1
  have hn := B.fs; have hm := B.gs; have h0 := B.f0
  obtain ⟨q, G, hq, hP⟩ := lim_per hg hl (exV_400 fa fb)
  exact hne (ex_not B.c1 (gnA_per fa fb.1 (by omega)) (gnB_per fa.1 fb (by omega)) hf (fun t _ => exV_fin fa fb t) hq hP t ht)
theorem exV_noB (fa : a.Fin) (fb : b.Fin) (hf : firstS l (gnB a b) (gnA a b)) {t : Nat} (ht : 400 ≤ t) (hne : exV l a b t ≠ b.at t) : ∀ g, NF (exV l a b) g → ¬ Lim g := fun g hg hl => by
  have B := ord_b fa.1 fb.1
  have hn := B.fs; have hm := B.gs; have h0 := B.f0
  obtain ⟨q, G, hq, hP⟩ := lim_per hg hl (exV_400 fa fb)
  exact hne (ex_not B.c1 (gnB_per fa.1 fb (by omega)) (gnA_per fa fb.1 (by omega)) hf (fun t _ => by rw [pk_comm]; exact exV_fin fa fb t) hq hP t ht)
/-- what wave.Build makes of the chosen values -/
theorem ex_build (ha : a.Ok) (hb : b.Ok) {s p : Nat} {i : Int} {f : Cv} {er : Int} (hp : 1 ≤ p) (hsp : s + p ≤ 1000000) (hper : (∀ j, j < s + p → exV l a b j ≠ inf) → Per (exV l a b) s p i) (h : BuildS (exV l a b) s p i f er) : MadeL (exV l a b) f er :=
  (build_made hp (fun t u ht htu hi => exV_inf ha hb (by omega) hi htu) hper h).toL
end
/-- what Minimum (l) or Maximum returns -/
def ExtS (l : Bool) : Cv → Cv → Cv → Int → Prop := PairS fun a b r er => MadeL (exV l a b) r er
theorem ExtS.unique {l : Bool} {f g r r' : Cv} {e e' : Int} (h : ExtS l f g r e) (k : ExtS l f g r' e') : r = r' ∧ e = e' := PairS.unique (S := fun a b r er => MadeL (exV l a b) r er) (fun h k => MadeL.unique h k) h k

/-! ### Ahead -/
noncomputable def aheadV (a : Cv) (d t : Nat) : Int := if t = 0 then 0 else a.at (t + d)
section
variable {a : Cv} {d : Nat}
theorem aheadV_zero : aheadV a d 0 = 0 := if_pos rfl
theorem aheadV_pos {t : Nat} (h : 0 < t) : aheadV a d t = a.at (t + d) := if_neg (by omega)
theorem ahead_nf {f : Cv} (ha : NF f.at a) : aheadV a d = aheadV f d := by funext t; unfold aheadV; rw [ha.at]
theorem ahead_up (ha : a.Ok) : Up0 (aheadV a d) := by
  refine ⟨by rw [aheadV_zero]; omega, fun t => ?_⟩
  rw [aheadV_pos (t := t + 1) (by omega)]
  rcases Nat.eq_zero_or_pos t with e | e
  · subst e; rw [aheadV_zero]; exact ha.up0.nn _
  · rw [aheadV_pos e]; exact ha.at_le (by omega)
theorem ahead_small (ha : a.Ok) {t : Nat} (ht : t + d ≤ 4000000000) : 0 ≤ aheadV a d t ∧ aheadV a d t ≤ 4611686018427387904 := by
  refine ⟨(ahead_up ha).nn t, ?_⟩
  unfold aheadV
  split
  · omega
  · exact (ha.at_bd ht).2.1
theorem ahead_inf (ha : a.Ok) {m t : Nat} (hm : m + d ≤ 4000000000) (h : aheadV a d m = inf) (hmt : m ≤ t) : a.infAt (m + d) ∧ aheadV a d t = inf := by
  rcases Nat.eq_zero_or_pos m with e | e
  · subst e; rw [aheadV_zero] at h; exact absurd h inf_pos
  · rw [aheadV_pos e] at h
    have h1 := (ha.at_bd hm).2.2 h
    exact ⟨h1, by rw [aheadV_pos (by omega)]; exact (h1.later ha (by omega)).2⟩
theorem ahead_per (ha : a.Fin) {s : Nat} (h1 : 1 ≤ s) (h2 : a.vals.length - a.per.toNat ≤ s + d) : Per (aheadV a d) s a.per.toNat a.inc := fun t ht => by
  rw [aheadV_pos (by omega), aheadV_pos (by omega), show t + a.per.toNat + d = t + d + a.per.toNat by omega]
  exact ha.toL.step _ (by omega)
/-- without infinite values up to a period behind the start -/
theorem ahead_fin (ha : a.Ok) {s : Nat} (h1 : 1 ≤ s) (h2 : a.vals.length - a.per.toNat ≤ s + d) (hne : ∀ j, j < s + a.per.toNat → aheadV a d j ≠ inf) : a.Fin := by
  have hp := ha.p1
  rcases ha.fin_or with h | h
  · exact h
  · exact absurd (by rw [aheadV_pos (by omega)]; exact (ha.infAt_start h h2).2) (hne s (by omega))
theorem ahead_build (ha : a.Ok) {s : Nat} {f : Cv} {er : Int} (h1 : 1 ≤ s) (h2 : a.vals.length - a.per.toNat ≤ s + d) (h3 : s + a.per.toNat + d ≤ 4000000000) (h : BuildS (aheadV a d) s a.per.toNat a.inc f er) : MadeL (aheadV a d) f er :=
  (build_made (by have := ha.p1; omega) (fun t u ht htu hi => (ahead_inf ha (by omega) hi htu).2) (fun hne => ahead_per (ahead_fin ha h1 h2 hne) h1 h2) h).toL
theorem ahead_tab (ha : a.Ok) {N : Nat} (hN : a.vals.length + a.per.toNat + 1 ≤ N) (hd : N + d ≤ 4000000000) (t : Nat) : Cv.at ⟨tab (aheadV a d) 0 N, a.per, a.inc⟩ t = aheadV a d t := by
  have hp1 := ha.p1; have hpn := ha.pn
  have e : a.per = ((a.per.toNat : Nat) : Int) := by omega
  rw [e]
  refine tab_at (by omega) (by omega) (fun m t hm h hmt => (ahead_inf ha (by omega) h hmt).2) (fun m hm h => ?_) (fun hne => ?_) t
  · have h1 := (ahead_inf ha (by omega) h (Nat.le_refl _)).1
    rw [aheadV_pos (by omega)]
    exact ha.at_inf h1.1 (by omega)
  · exact ahead_per (ahead_fin ha (s := N - a.per.toNat) (by omega) (by omega) (fun j hj => hne j (by omega))) (by omega) (by omega)
end
/-- what Ahead returns -/
def AheadFS (f : Cv) (d : Int) : Cv → Int → Prop := OneS 0 1048576 (fun a r er => MadeL (aheadV a d.toNat) r er) f d
theorem AheadFS.unique {f r r' : Cv} {d e e' : Int} (h : AheadFS f d r e) (k : AheadFS f d r' e') : r = r' ∧ e = e' := OneS.unique (S := fun a r er => MadeL (aheadV a d.toNat) r er) (fun h k => MadeL.unique h k) h k

/-! ### Raise -/
open Classical in
noncomputable def raiseV (a : Cv) (c : Int) (t : Nat) : Int := if t = 0 then 0 else if a.infAt t then inf else a.at t + c
section
variable {a : Cv} {c : Int}
theorem raiseV_zero : raiseV a c 0 = 0 := if_pos rfl
theorem raiseV_fin {t : Nat} (h : 0 < t) (hf : ¬ a.infAt t) : raiseV a c t = a.at t + c := by unfold raiseV; rw [if_neg (by omega), if_neg hf]
theorem raiseV_inf {t : Nat} (h : 0 < t) (hf : a.infAt t) : raiseV a c t = inf := by unfold raiseV; rw [if_neg (by omega), if_pos hf]
theorem raise_nf {f : Cv} (hf : f.Ok) (ha : NF f.at a) : raiseV a c = raiseV f c := by
  funext t; unfold raiseV
  rw [ha.at]
  by_cases h : t = 0
  · rw [if_pos h, if_pos h]
  · rw [if_neg h, if_neg h]; exact ite_iff _ _ (ha.inf_iff hf t)
theorem raise_pl (ha : a.Ok) (hc : c ≤ 1073741824) {t : Nat} (h : 0 < t) (ht : t ≤ 4000000000) : raiseV a c t = pl (a.at t) c := by
  unfold raiseV pl
  rw [if_neg (by omega)]
  have h1 := ha.at_bd ht
  refine ite_iff _ _ ⟨fun h => .inl h.2, fun h => ?_⟩
  rcases h with h | h
  · exact h1.2.2 h
  · unfold inf at h; omega
theorem raise_up (ha : a.Ok) (hc0 : 0 ≤ c) (hc : c ≤ 1073741824) : Up0 (raiseV a c) := by
  refine ⟨by rw [raiseV_zero]; omega, fun t => ?_⟩
  rcases Nat.eq_zero_or_pos t with e | e
  · subst e
    rw [raiseV_zero]
    by_cases h : a.infAt (0 + 1)
    · rw [raiseV_inf (by omega) h]; unfold inf; omega
    · rw [raiseV_fin (by omega) h]; have := ha.up0.nn (0 + 1); omega
  · have h3 := ha.at_mono t
    by_cases h1 : a.infAt t
    · rw [raiseV_inf e h1, raiseV_inf (by omega) (h1.later ha (by omega))]; exact Int.le_refl _
    · by_cases h2 : a.infAt (t + 1)
      · rw [raiseV_fin e h1, raiseV_inf (by omega) h2]
        have := (ha.fin_bd h1 (ha.last_fin h1 h2)).2
        unfold inf; omega
      · rw [raiseV_fin e h1, raiseV_fin (by omega) h2]; omega
theorem raise_small (ha : a.Ok) (hc0 : 0 ≤ c) (hc : c ≤ 1073741824) {t : Nat} (ht : t ≤ 1000000) : 0 ≤ raiseV a c t ∧ raiseV a c t ≤ 4611686018427387904 := by
  refine ⟨(raise_up ha hc0 hc).nn t, ?_⟩
  rcases Nat.eq_zero_or_pos t with e | e
  · subst e; rw [raiseV_zero]; omega
  · by_cases h1 : a.infAt t
    · rw [raiseV_inf e h1]; unfold inf; omega
    · rw [raiseV_fin e h1]
      rcases ha.fin_or with h | h
      · have h2 := (h.at_bd t).2
        have h4 : (t : Int) * 1073741824 ≤ 1000000 * 1073741824 := Int.mul_le_mul_of_nonneg_right (by omega) (by omega)
        omega
      · have hlt : t < 400 := by
          rcases Nat.lt_or_ge t 400 with hh | hh
          · exact hh
          · exact absurd ⟨h, ha.at_inf h (by have := ha.n2; omega)⟩ h1
        have := (ha.fin_bd h1 hlt).2
        omega
theorem raise_inf (ha : a.Ok) (hc0 : 0 ≤ c) (hc : c ≤ 1073741824) {m t : Nat} (hm : m ≤ 1000000) (h : raiseV a c m = inf) (hmt : m ≤ t) : a.infAt m ∧ raiseV a c t = inf := by
  rcases Nat.eq_zero_or_pos m with e | e
  · subst e; rw [raiseV_zero] at h; exact absurd h inf_pos
  · have h1 : a.infAt m := by
      by_cases h1 : a.infAt m
      · exact h1
      · exfalso
        rw [raiseV_fin e h1] at h
        unfold inf at h
        rcases ha.fin_or with h' | h'
        · have h2 := (h'.at_bd m).2
          have h4 : (m : Int) * 1073741824 ≤ 1000000 * 1073741824 := Int.mul_le_mul_of_nonneg_right (by omega) (by omega)
          omega
        · have hlt : m < 400 := by
            rcases Nat.lt_or_ge m 400 with hh | hh
            · exact hh
            · exact absurd ⟨h', ha.at_inf h' (by have := ha.n2; omega)⟩ h1
          have := (ha.fin_bd h1 hlt).2
          omega
    exact ⟨h1, raiseV_inf (by omega) (h1.later ha hmt)⟩
theorem raise_per (ha : a.Fin) {s : Nat} (h1 : 1 ≤ s) (h2 : a.vals.length - a.per.toNat ≤ s) : Per (raiseV a c) s a.per.toNat a.inc := fun t ht => by
  rw [raiseV_fin (by omega) (ha.not_infAt _), raiseV_fin (by omega) (ha.not_infAt _), ha.toL.step t (by omega)]; omega
theorem raise_fin (ha : a.Ok) {s : Nat} (h1 : 1 ≤ s) (h2 : a.vals.length - a.per.toNat ≤ s) (hne : ∀ j, j < s + a.per.toNat → raiseV a c j ≠ inf) : a.Fin := by
  have hp := ha.p1
  rcases ha.fin_or with h | h
  · exact h
  · exact absurd (raiseV_inf (by omega) (ha.infAt_start h h2)) (hne s (by omega))
theorem raise_build (ha : a.Ok) (hc0 : 0 ≤ c) (hc : c ≤ 1073741824) {s : Nat} {f : Cv} {er : Int} (h1 : 1 ≤ s) (h2 : a.vals.length - a.per.toNat ≤ s) (h3 : s + a.per.toNat ≤ 1000000) (h : BuildS (raiseV a c) s a.per.toNat a.inc f er) : MadeL (raiseV a c) f er :=
  (build_made (by have := ha.p1; omega) (fun t u ht htu hi => (raise_inf ha hc0 hc (by omega) hi htu).2) (fun hne => raise_per (raise_fin ha h1 h2 hne) h1 h2) h).toL
theorem raise_tab (ha : a.Ok) (hc0 : 0 ≤ c) (hc : c ≤ 1073741824) {N : Nat} (hN : a.vals.length + a.per.toNat + 1 ≤ N) (hd : N ≤ 1000000) (t : Nat) : Cv.at ⟨tab (raiseV a c) 0 N, a.per, a.inc⟩ t = raiseV a c t := by
  have hp1 := ha.p1; have hpn := ha.pn
  have e : a.per = ((a.per.toNat : Nat) : Int) := by omega
  rw [e]
  refine tab_at (by omega) (by omega) (fun m t hm h hmt => (raise_inf ha hc0 hc (by omega) h hmt).2) (fun m hm h => ?_) (fun hne => ?_) t
  · have h1 := (raise_inf ha hc0 hc (by omega) h (Nat.le_refl _)).1
    exact raiseV_inf (by omega) ⟨h1.1, ha.at_inf h1.1 (by omega)⟩
  · exact raise_per (raise_fin ha (s := N - a.per.toNat) (by omega) (by omega) (fun j hj => hne j (by omega))) (by omega) (by omega)
end
/-- what Raise returns -/
def RaiseS (f : Cv) (c : Int) : Cv → Int → Prop := OneS 0 1073741824 (fun a r er => MadeL (raiseV a c) r er) f c
theorem RaiseS.unique {f r r' : Cv} {d e e' : Int} (h : RaiseS f d r e) (k : RaiseS f d r' e') : r = r' ∧ e = e' := OneS.unique (S := fun a r er => MadeL (raiseV a d) r er) (fun h k => MadeL.unique h k) h k

/-! ### Lower -/
open Classical in
noncomputable def lowerV (a : Cv) (c : Int) (t : Nat) : Int := if a.infAt t then inf else max 0 (a.at t - c)
section
variable {a : Cv} {c : Int}
theorem lowerV_inf {t : Nat} (h : a.infAt t) : lowerV a c t = inf := if_pos h
theorem lowerV_fin {t : Nat} (h : ¬ a.infAt t) : lowerV a c t = max 0 (a.at t - c) := if_neg h
theorem lower_nf {f : Cv} (hf : f.Ok) (ha : NF f.at a) : lowerV a c = lowerV f c := by
  funext t; unfold lowerV
  rw [ha.at]; exact ite_iff _ _ (ha.inf_iff hf t)
theorem lower_at (ha : a.Ok) {t : Nat} (ht : t ≤ 4000000000) : lowerV a c t = if a.at t = inf then inf else max 0 (a.at t - c) := by
  have h1 := ha.at_bd ht
  exact ite_iff _ _ ⟨fun h => h.2, h1.2.2⟩
theorem lower_up (ha : a.Ok) (hc0 : 0 ≤ c) : Up0 (lowerV a c) := by
  refine ⟨?_, fun t => ?_⟩
  · by_cases h : a.infAt 0
    · rw [lowerV_inf h]; unfold inf; omega
    · rw [lowerV_fin h]; omega
  · have h3 := ha.at_mono t
    by_cases h1 : a.infAt t
    · rw [lowerV_inf h1, lowerV_inf (h1.later ha (by omega))]; exact Int.le_refl _
    · by_cases h2 : a.infAt (t + 1)
      · rw [lowerV_fin h1, lowerV_inf h2]
        have := (ha.fin_bd h1 (ha.last_fin h1 h2)).2
        unfold inf; omega
      · rw [lowerV_fin h1, lowerV_fin h2]; omega
theorem lower_small (ha : a.Ok) (hc0 : 0 ≤ c) {t : Nat} (ht : t ≤ 4000000000) : 0 ≤ lowerV a c t ∧ lowerV a c t ≤ 4611686018427387904 := by
  refine ⟨(lower_up ha hc0).nn t, ?_⟩
  rw [lower_at ha ht]
  have h1 := (ha.at_bd ht).2.1
  unfold inf at h1 ⊢
  split
  · omega
  · omega
theorem lower_inf (ha : a.Ok) (hc0 : 0 ≤ c) {m t : Nat} (hm : m ≤ 4000000000) (h : lowerV a c m = inf) (hmt : m ≤ t) : a.infAt m ∧ lowerV a c t = inf := by
  have h1 : a.infAt m := by
    have h2 := ha.at_bd hm
    rw [lower_at ha hm] at h
    refine h2.2.2 ?_
    by_cases e : a.at m = inf
    · exact e
    · rw [if_neg e] at h
      unfold inf at *
      omega
  exact ⟨h1, lowerV_inf (h1.later ha hmt)⟩
theorem lower_flat (ha : a.Fin) (hi : a.inc = 0) {s : Nat} (h2 : a.vals.length - a.per.toNat ≤ s) : Per (lowerV a c) s a.per.toNat a.inc := fun t ht => by
  rw [lowerV_fin (ha.not_infAt _), lowerV_fin (ha.not_infAt _), ha.toL.step t (by omega), hi]; omega
theorem lower_per (ha : a.Fin) (h4 : c ≤ a.at 400) {s : Nat} (h2 : 400 ≤ s) : Per (lowerV a c) s a.per.toNat a.inc := fun t ht => by
  have hn := ha.1.n2; have hi := ha.1.i1
  have h5 := ha.1.at_le (show 400 ≤ t by omega)
  rw [lowerV_fin (ha.not_infAt _), lowerV_fin (ha.not_infAt _), ha.toL.step t (by omega)]; omega
theorem lower_fin (ha : a.Ok) {s : Nat} (h2 : a.vals.length - a.per.toNat ≤ s) (hne : ∀ j, j < s + a.per.toNat → lowerV a c j ≠ inf) : a.Fin := by
  have hp := ha.p1
  rcases ha.fin_or with h | h
  · exact h
  · exact absurd (lowerV_inf (ha.infAt_start h h2)) (hne s (by omega))
/-- it grows, but is 0 for too many ticks -/
theorem lower_no (ha : a.Ok) (hi : 0 < a.inc) (h4 : a.at 400 < c) : ∀ g, NF (lowerV a c) g → ¬ Lim g := fun g hg hl => by
  have fa : a.Fin := by
    rcases ha.fin_or with h | h
    · exact h
    · have := (ha.last h).2; omega
  have hn := ha.n2; have hp1 := ha.p1
  have e0 : lowerV a c 400 = 0 := by rw [lowerV_fin (fa.not_infAt _)]; omega
  obtain ⟨q, G, hq, hP⟩ := lim_per hg hl (by rw [e0]; exact inf_pos)
  have := ex_not (l := false) (z := fun t => a.at t - c) (y := fun _ => 0) (h := lowerV a c) (c := a.per.toNat) (Z := a.inc) (Y := 0) (by omega)
    (fun t ht => by show a.at (t + _) - c = a.at t - c + a.inc; rw [fa.toL.step t (by omega)]; omega) (fun t ht => by show (0 : Int) = 0 + 0; omega) (by simpa using hi)
    (fun t ht => by rw [lowerV_fin (fa.not_infAt _), pk_false]; show max 0 (a.at t - c) = max (a.at t - c) 0; omega) hq hP 400 (Nat.le_refl _)
  have h5 : lowerV a c 400 = a.at 400 - c := this
  omega
theorem lower_build0 (ha : a.Ok) (hc0 : 0 ≤ c) (hi : a.inc = 0) {f : Cv} {er : Int} (h : BuildS (lowerV a c) (a.vals.length - a.per.toNat) a.per.toNat a.inc f er) : MadeL (lowerV a c) f er := by
  have hn := ha.n2; have hp := ha.p2; have hp1 := ha.p1
  exact (build_made (by omega) (fun t u ht htu hi => (lower_inf ha hc0 (by omega) hi htu).2) (fun hne => lower_flat (lower_fin ha (Nat.le_refl _) hne) hi (Nat.le_refl _)) h).toL
theorem lower_build1 (ha : a.Ok) (hc0 : 0 ≤ c) (h4 : c ≤ a.at 400) {f : Cv} {er : Int} (h : BuildS (lowerV a c) 400 a.per.toNat a.inc f er) : MadeL (lowerV a c) f er := by
  have hn := ha.n2; have hp := ha.p2; have hp1 := ha.p1
  exact (build_made (by omega) (fun t u ht htu hi => (lower_inf ha hc0 (by omega) hi htu).2) (fun hne => lower_per (lower_fin ha (by omega) hne) h4 (Nat.le_refl _)) h).toL
theorem lower_tab (ha : a.Ok) (hc0 : 0 ≤ c) (h4 : a.inc = 0 ∨ c ≤ a.at 400) (t : Nat) : Cv.at ⟨tab (lowerV a c) 0 (400 + a.per.toNat), a.per, a.inc⟩ t = lowerV a c t := by
  have hp1 := ha.p1; have hp2 := ha.p2; have hpn := ha.pn; have hn := ha.n2
  have e : a.per = ((a.per.toNat : Nat) : Int) := by omega
  rw [e]
  refine tab_at (by omega) (by omega) (fun m t hm h hmt => (lower_inf ha hc0 (by omega) h hmt).2) (fun m hm h => ?_) (fun hne => ?_) t
  · have h1 := (lower_inf ha hc0 (by omega) h (Nat.le_refl _)).1
    exact lowerV_inf ⟨h1.1, ha.at_inf h1.1 (by omega)⟩
  · have fa := lower_fin ha (c := c) (s := 400) (by omega) (fun j hj => hne j (by omega))
    rw [show 400 + ((a.per.toNat : Nat) : Int).toNat - a.per.toNat = 400 by omega]
    rcases h4 with h4 | h4
    · exact lower_flat fa h4 (by omega)
    · exact lower_per fa h4 (Nat.le_refl _)
end
/-- what Lower returns -/
def LowerS (f : Cv) (c : Int) : Cv → Int → Prop := OneS 0 1073741824 (fun a r er => MadeL (lowerV a c) r er) f c
theorem LowerS.unique {f r r' : Cv} {d e e' : Int} (h : LowerS f d r e) (k : LowerS f d r' e') : r = r' ∧ e = e' := OneS.unique (S := fun a r er => MadeL (lowerV a d) r er) (fun h k => MadeL.unique h k) h k

/-! ### The table of the chosen values -/
theorem exV_tab {l : Bool} {a b : Cv} (ha : a.Ok) (hb : b.Ok) {c : Nat} {i : Int} (hc : 1 ≤ c) (hc2 : c ≤ 1000) (hper : (∀ j, j < 400 + c → exV l a b j ≠ inf) → Per (exV l a b) 400 c i) (t : Nat) : Cv.at ⟨tab (exV l a b) 0 (400 + c), c, i⟩ t = exV l a b t := by
  have hn := ha.n2; have hm := hb.n2
  refine tab_at hc (by omega) (fun m t hm h hmt => exV_inf ha hb (by omega) h hmt) (fun m hm h => ?_) (fun hne => ?_) t
  · rw [show 400 + c - c = 400 by omega]
    have h1 := exV_inf ha hb (by omega) h (Nat.le_max_left m 400)
    rcases ha.inf_or (t := 400) (by omega) with fa | ia
    · rcases hb.inf_or (t := 400) (by omega) with fb | ib
      · exfalso
        rw [exV_fin fa fb] at h
        have h2 := fa.at_bd m; have h3 := fb.at_bd m
        unfold inf at h
        cases l
        · rw [pk_false] at h; omega
        · rw [pk_true] at h; omega
      · rw [exV_infr (fa.not_infAt _) ib]
        cases l
        · rfl
        · exfalso
          have ib' := ib.later hb (Nat.le_max_right m 400)
          rw [exV_infr (fa.not_infAt _) ib'] at h1
          have h1' : a.at (max m 400) = inf := h1
          exact fa.not_infAt _ ((ha.at_bd (by omega)).2.2 h1')
    · rw [exV_infl ia]
      cases l
      · rfl
      · rcases hb.inf_or (t := 400) (by omega) with fb | ib
        · exfalso
          have ia' := ia.later ha (Nat.le_max_right m 400)
          rw [exV_infl ia'] at h1
          have h1' : b.at (max m 400) = inf := h1
          exact fb.not_infAt _ ((hb.at_bd (by omega)).2.2 h1')
        · exact ib.2
  · rw [show 400 + c - c = 400 by omega]
    exact hper hne
end Go.Proofs.Ythdibkmjoiipgaa
