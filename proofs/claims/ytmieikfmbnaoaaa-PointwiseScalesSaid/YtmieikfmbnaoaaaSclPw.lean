/- Plain words for the statement PointwiseScales: multiples of curves, of sums and of minima. -/
import Derived.Test.YtmieikfmbnaoaaaMonoPw
namespace Go.Proofs.Ytmieikfmbnaoaaa
set_option linter.unusedVariables false

theorem scale_infAt {a r : Cv} {k : Int} (ha : Tame a) (hk : 1 ≤ k) (hk2 : k ≤ 9) (hr : r.Ok) (e : r.at = scaleV a k) (n : Nat) : r.infAt n ↔ a.infAt n := by
  rw [inf_min hr, inf_min ha.ok, e]
  by_cases h : a.infAt (min n 1000)
  · rw [scaleV_inf h]; exact ⟨fun _ => h.2, fun _ => rfl⟩
  · rw [scaleV_not h]
    have h1 := (ha.bd (min n 1000)).resolve_left h
    have h0 := ha.ok.up0.nn (min n 1000)
    have h2 : a.at (min n 1000) * k ≤ 2000800 * 9 := Int.mul_le_mul (by omega) hk2 (by omega) (by omega)
    unfold inf
    constructor <;> intro h3 <;> omega
/-- a multiple of a small curve -/
theorem tame_scale {f a : Cv} {k e : Int} (hf : Tame f) (hk : 1 ≤ k) (hk2 : k ≤ 9) (m : ScaleS f k a e) : e = 0 ∧ a.Ok ∧ NF (scaleV f k) a ∧ ∃ f0, NF f.at f0 ∧ a.per = f0.per := by
  have hm := ScaleS.made hf.ok hk (by omega) m
  obtain ⟨f0, h0⟩ := hf.ok.nf
  have hs := nf_small hf.ok h0
  have hi := scale_is hf.ok h0 hk (by omega : k ≤ 1073741824)
  rw [scale_nf hf.ok h0] at hi
  have hlen := hf.len; have hper := hf.per; have hinc := hf.inc
  have h0i := hs.1.i1
  have hl : Lim (scaleL f0 k) := by
    refine ⟨by rw [scaleL_len]; omega, fun q hq => ?_, by show f0.per ≤ 120; omega, ?_⟩
    · rw [scaleL_len] at hq
      rw [scaleL_nth f0 k hq, scale_nf hf.ok h0]
      by_cases h : f.infAt q
      · rw [scaleV_inf h]; exact (okv_iff _).2 (.inl rfl)
      · rw [scaleV_not h]
        have h1 := (hf.bd q).resolve_left h
        have h2 := hf.ok.up0.nn q
        have h3 : f.at q * k ≤ 200800 * 9 := Int.mul_le_mul (by omega) hk2 (by omega) (by omega)
        exact (okv_iff _).2 (.inr (by omega))
    · show f0.inc * k ≤ 1073741824
      have h3 : f0.inc * k ≤ 200000 * 9 := Int.mul_le_mul (by omega) hk2 (by omega) (by omega)
      omega
  obtain ⟨rfl, rfl⟩ := hm.is hi hl
  exact ⟨rfl, nf_lim_ok hi (scale_up hf.ok hk (by omega)) hl, hi, f0, h0, rfl⟩
theorem scl_short {f g a b : Cv} {k : Int} {m1 m2 : Nat} (hf : DrawC m1 f) (hg : DrawC m2 g) (ha : NF (scaleV f k) a) (hb : NF (scaleV g k) b) (pa : ∃ f0, NF f.at f0 ∧ a.per = f0.per) (pb : ∃ g0, NF g.at g0 ∧ b.per = g0.per) : Short a b := by
  obtain ⟨f0, h1, e1⟩ := pa
  obtain ⟨g0, h2, e2⟩ := pb
  refine ⟨a, b, by rw [ha.ats]; exact ha, by rw [hb.ats]; exact hb, ?_⟩
  rw [e1, e2]
  have := comm_le (hf.dvd h1) (hg.dvd h2) (by omega)
  omega
section
variable {f g a b : Cv} {k : Int}
/-- the sum of the multiples -/
theorem scl_sum {x y z : Cv} {j m : Int} {m1 m2 : Nat} (hm1 : m1 ≤ 12) (hm2 : m2 ≤ 12) (hf : DrawC m1 f) (hg : DrawC m2 g) (hk : 1 ≤ k) (hk2 : k ≤ 9) (oa : a.Ok) (ob : b.Ok) (ha : NF (scaleV f k) a) (hb : NF (scaleV g k) b) (hs : Short a b)
    (tx : Tame x) (hx : ∀ t, x.at t = sumV f g t) (s1 : SumS a b y j) (s2 : ScaleS x k z m) : y = z ∧ j = m := by
  have m1' := SumS.made oa ob hs s1
  have m2' := ScaleS.made tx.ok hk (by omega) s2
  refine m1'.unique (m2'.congr fun t => ?_)
  have ia := scale_infAt (hf.tame hm1) hk hk2 oa ha.ats t
  have ib := scale_infAt (hg.tame hm2) hk hk2 ob hb.ats t
  have ix := sum_infAt hf.ok hg.ok tx.ok hx t
  by_cases h : f.infAt t ∨ g.infAt t
  · rw [scaleV_inf (ix.2 h), sumV_inf (h.imp ia.2 ib.2)]
  · rw [scaleV_not (fun e => h (ix.1 e))]
    have h' := not_or.1 h
    rw [sum_at hx h'.1 h'.2]
    unfold sumV
    rw [if_neg (by rw [not_or]; exact ⟨fun e => h'.1 (ia.1 e), fun e => h'.2 (ib.1 e)⟩), ha.at, hb.at, scaleV_not h'.1, scaleV_not h'.2, Int.add_mul]
/-- a curve and itself -/
theorem scl_two {u v : Cv} {m1 : Nat} (hf : DrawC m1 f) (hu : NF (sumV f f) u) (hv : NF (scaleV f 2) v) : u = v := by
  refine NF.unique hu (hv.congr fun t => ?_)
  by_cases h : f.infAt t
  · rw [scaleV_inf h, sumV_inf (.inl h)]
  · rw [scaleV_not h]
    unfold sumV
    rw [if_neg (by rintro (e | e) <;> exact h e)]; omega
theorem min_mul' (x y k : Int) (hk : 0 ≤ k) : min x y * k = min (x * k) (y * k) := by
  rcases Int.le_total x y with h | h
  · have := Int.mul_le_mul_of_nonneg_right h hk
    rw [Int.min_eq_left h, Int.min_eq_left this]
  · have := Int.mul_le_mul_of_nonneg_right h hk
    rw [Int.min_eq_right h, Int.min_eq_right this]
/-- where not both are infinite -/
theorem scl_exV (tf : Tame f) (tg : Tame g) (hk : 1 ≤ k) (hk2 : k ≤ 9) (oa : a.Ok) (ob : b.Ok) (ha : NF (scaleV f k) a) (hb : NF (scaleV g k) b) {t : Nat} (h : ¬ (f.infAt t ∧ g.infAt t)) : exV true a b t = exV true f g t * k := by
  have ia := scale_infAt tf hk hk2 oa ha.ats t
  have ib := scale_infAt tg hk hk2 ob hb.ats t
  by_cases i1 : f.infAt t
  · have i2 : ¬ g.infAt t := fun e => h ⟨i1, e⟩
    rw [exV_infl (ia.2 i1), exV_infl i1, hb.at, scaleV_not i2]
    rfl
  · by_cases i2 : g.infAt t
    · rw [exV_infr (fun e => i1 (ia.1 e)) (ib.2 i2), exV_infr i1 i2, ha.at, scaleV_not i1]
      rfl
    · unfold exV
      rw [if_neg (fun e => i1 (ia.1 e)), if_neg (fun e => i2 (ib.1 e)), if_neg i1, if_neg i2, pk_true, pk_true, ha.at, hb.at, scaleV_not i1, scaleV_not i2, min_mul' _ _ _ (by omega)]
theorem exT_bd (tf : Tame f) (tg : Tame g) {t : Nat} (h : ¬ (f.infAt t ∧ g.infAt t)) : 0 ≤ exV true f g t ∧ exV true f g t ≤ 800 + 2000 * t := by
  refine ⟨(exV_up tf.ok tg.ok).nn t, ?_⟩
  by_cases i1 : f.infAt t
  · rw [exV_infl i1]
    exact (tg.bd t).resolve_left (fun e => h ⟨i1, e⟩)
  · have h1 := (tf.bd t).resolve_left i1
    by_cases i2 : g.infAt t
    · rw [exV_infr i1 i2]; exact h1
    · unfold exV
      rw [if_neg i1, if_neg i2, pk_true]; omega
/-- the minimum of the multiples -/
theorem scl_min {x y : Cv} {i j : Int} (tf : Tame f) (tg : Tame g) (hk : 1 ≤ k) (hk2 : k ≤ 9) (oa : a.Ok) (ob : b.Ok) (ha : NF (scaleV f k) a) (hb : NF (scaleV g k) b) (hs : Short a b) (hs0 : Short f g) (s1 : ExtS true f g x i) (s2 : ExtS true a b y j) :
    (i = 0 ∧ j = 0 ∧ x.Ok ∧ y.Ok ∧ ∀ z m, ScaleS x k z m → m = 0 ∧ z = y) ∨ (i = 3 ∧ j = 3 ∧ x = Cv.none ∧ y = Cv.none) := by
  have m1 := ExtS.made tf.ok tg.ok hs0 s1
  have m2 := ExtS.made oa ob hs s2
  have up := exV_up (l := true) tf.ok tg.ok
  have up2 := exV_up (l := true) oa ob
  rcases m1.get up with ⟨rfl, ox, nx⟩ | ⟨rfl, rfl⟩
  · left
    -- the multiple of x is the minimum of the multiples
    have ix := exV_infAt tf.ok tg.ok ox nx.ats
    have e : ∀ t, scaleV x k t = exV true a b t := fun t => by
      have ixt := ix t
      simp only [if_true] at ixt
      by_cases h : f.infAt t ∧ g.infAt t
      · rw [scaleV_inf (ixt.2 h), exV_infl ((scale_infAt tf hk hk2 oa ha.ats t).2 h.1)]
        exact ((scale_infAt tg hk hk2 ob hb.ats t).2 h.2).2.symm
      · rw [scaleV_not (fun e => h (ixt.1 e)), scl_exV tf tg hk hk2 oa ob ha hb h, nx.at]
    have nxx : NF x.at x := by rw [nx.ats]; exact nx
    have hi := scale_is ox nxx hk (by omega : k ≤ 1073741824)
    have hn := ox.n2; have hp1 := ox.p1; have hpn := ox.pn
    have hl : Lim (scaleL x k) := by
      have h0i := ox.i1
      refine ⟨by rw [scaleL_len]; omega, fun q hq => ?_, ox.p2, ?_⟩
      · rw [scaleL_len] at hq
        rw [scaleL_nth x k hq]
        by_cases h : x.infAt q
        · rw [scaleV_inf h]; exact (okv_iff _).2 (.inl rfl)
        · have ixt := ix q
          simp only [if_true] at ixt
          have hb := exT_bd tf tg (t := q) (fun e => h (ixt.2 e))
          rw [scaleV_not h, nx.at]
          have h3 : exV true f g q * k ≤ 800800 * 9 := Int.mul_le_mul (by omega) hk2 (by omega) (by omega)
          exact (okv_iff _).2 (.inr (by omega))
      · show x.inc * k ≤ 1073741824
        have h5 : x.inc ≤ 2000000 := by
          rcases ox.fin_or with hF | hx
          · have h1 := hF.toL.step (x.vals.length - x.per.toNat) (Nat.le_refl _)
            have h2 := exT_bd tf tg (t := x.vals.length - x.per.toNat + x.per.toNat) (fun e => hF.not_infAt _ ((show x.infAt _ ↔ _ from ix _).2 (by simpa using e)))
            rw [← nx.at] at h2
            have h3 := ox.up0.nn (x.vals.length - x.per.toNat)
            omega
          · have := (ox.last hx).2; omega
        have h3 : x.inc * k ≤ 2000000 * 9 := Int.mul_le_mul h5 hk2 (by omega) (by omega)
        omega
    obtain ⟨rfl, rfl⟩ := m2.is (hi.congr e) hl
    refine ⟨rfl, rfl, ox, nf_lim_ok (hi.congr e) up2 hl, fun z m hz => ?_⟩
    have hm := ScaleS.made ox hk (by omega) hz
    obtain ⟨h1, h2⟩ := hm.is hi hl
    exact ⟨h2, h1⟩
  · right
    rcases m2.get up2 with ⟨rfl, oy, ny⟩ | ⟨rfl, rfl⟩
    · exfalso
      have hno : ∀ q, NF (exV true f g) q → ¬ Lim q := by
        rcases m1 with ⟨_, _, h⟩ | ⟨h, _⟩
        · omega
        · exact h
      have lf := tf.len; have lg := tg.len
      by_cases hJ : f.infAt 84 ∧ g.infAt 84
      · have hm3 : ∃ r er, MadeL (exV true f g) r er := ⟨_, _, m1⟩
        have h4 := made_inf m1 up (k := 84) (by omega) (fun t ht => by
          rw [exV_infl (hJ.1.later tf.ok ht)]
          exact (hJ.2.later tg.ok ht).2) (fun t ht => by
          by_cases h : f.infAt t ∧ g.infAt t
          · left; rw [exV_infl h.1]; exact h.2.2
          · right; have := exT_bd tf tg h; omega)
        have := h4.1
        omega
      · have hnoJ : ∀ t, ¬ (f.infAt t ∧ g.infAt t) := fun t h => hJ ⟨⟨h.1.1, tf.ok.at_inf h.1.1 (by omega)⟩, ⟨h.2.1, tg.ok.at_inf h.2.1 (by omega)⟩⟩
        have e : ∀ t, exV true a b t = exV true f g t * k := fun t => scl_exV tf tg hk hk2 oa ob ha hb (hnoJ t)
        have bd := fun t => exT_bd tf tg (hnoJ t)
        have yl := oy.n2; have yp2 := oy.p2
        rcases ny with ny | ny
        · have yp1 := ny.p1; have ypn := ny.pn
          obtain ⟨s, hs⟩ : ∃ s, s = y.vals.length - y.per.toNat := ⟨_, rfl⟩
          have P : Per (exV true f g) s y.per.toNat (exV true f g (s + y.per.toNat) - exV true f g s) := fun t ht => by
            have e1 := ny.per t (by omega)
            have e2 := ny.per s (by omega)
            rw [e, e] at e1 e2
            have e3 : (exV true f g (t + y.per.toNat) - exV true f g t) * k = (exV true f g (s + y.per.toNat) - exV true f g s) * k := by rw [Int.sub_mul, Int.sub_mul]; omega
            have e4 := Int.eq_of_mul_eq_mul_right (by omega) e3
            omega
          have b1 := bd (s + y.per.toNat)
          have b0 := (bd s).1
          obtain ⟨g', hg', l1, l2⟩ := nf_exists (by omega) P (fun t ht => by have := bd t; unfold inf; omega)
          have gp1 := hg'.p1; have gpn := hg'.pn
          refine hno g' (.inl hg') ⟨by omega, fun q hq => (okv_iff _).2 (.inr (by rw [hg'.vals q hq]; have := bd q; omega)), by omega, ?_⟩
          have h3 := hg'.per (g'.vals.length - g'.per.toNat) (Nat.le_refl _)
          have h4 := bd (g'.vals.length - g'.per.toNat + g'.per.toNat)
          have h5 := bd (g'.vals.length - g'.per.toNat)
          omega
        · have h1 := ny.from_ 400 (by omega)
          rw [e] at h1
          have h2 := bd 400
          have h3 : exV true f g 400 * k ≤ 800800 * 9 := Int.mul_le_mul (by omega) hk2 (by omega) (by omega)
          unfold inf at h1
          omega
    · exact ⟨rfl, rfl, rfl, rfl⟩
end
end Go.Proofs.Ytmieikfmbnaoaaa
