/- Plain words for the statement ConvolutionSpreads (with the words of Ex10 and LaterLaw). -/
import Derived.Test.YtbkimphcmmmaiaaDevLaw
import Derived.Test.YtbkimphcmmmaiaaPwLaw
import Derived.Test.YtbkimphcmmmaiaaAlgLaw
namespace Go.Proofs.Ytbkimphcmmmaiaa
set_option linter.unusedVariables false

/-- a valid curve has a normal form -/
theorem Cv.Ok.nf {f : Cv} (hf : f.Ok) : ∃ a, NF f.at a := by
  have hp1 := hf.p1; have hpn := hf.pn; have hn1 := hf.n1
  rcases hf.fin_or with hF | hi
  · obtain ⟨g, hg, _⟩ := nf_exists (h := f.at) (s := f.vals.length - f.per.toNat) (p := f.per.toNat) (by omega) hF.toL.step (fun t ht => by rw [Cv.at_lt (by omega)]; exact (hF.ne t (by omega)).1)
    exact ⟨g, .inl hg⟩
  · obtain ⟨m, hm1, hm2⟩ := nat_least (Q := fun m => f.at m = inf) ⟨f.vals.length - 1, hf.at_inf hi (by omega)⟩
    have hml : m ≤ f.vals.length - 1 := by
      rcases Nat.lt_or_ge (f.vals.length - 1) m with h | h
      · exact absurd (hf.at_inf hi (by omega)) (hm2 _ h)
      · exact h
    have hl : (Cv.mk (tab f.at 0 (m + 1)) 1 0).vals.length = m + 1 := tab_length _ _ _
    refine ⟨⟨tab f.at 0 (m + 1), 1, 0⟩, .inr ⟨rfl, rfl, by rw [hl]; omega, fun t ht => ?_, fun t ht => ?_, fun t ht => ?_⟩⟩
    · rw [hl] at ht; show nth (tab f.at 0 (m + 1)) t = _; rw [tab_nth _ _ _ _ ht, Nat.zero_add]
    · rw [hl] at ht; exact hm2 t (by omega)
    · rw [hl] at ht; exact hf.inf_from (t := m) (by omega) (by omega) hm1
/-- two normal forms with a short common period, where both have periods that divide n -/
theorem nf_pair {f g : Cv} (hf : f.Ok) (hg : g.Ok) {n : Nat} (hn : 1 ≤ n) (hn2 : n ≤ 120) (h1 : ∀ a, NF f.at a → a.per.toNat ∣ n) (h2 : ∀ b, NF g.at b → b.per.toNat ∣ n) : ∃ a b, NF f.at a ∧ NF g.at b ∧ comm a.per.toNat b.per.toNat ≤ 120 := by
  obtain ⟨a, ha⟩ := hf.nf
  obtain ⟨b, hb⟩ := hg.nf
  exact ⟨a, b, ha, hb, by have := comm_le (h1 a ha) (h2 b hb) hn; omega⟩

def exA : Cv := ⟨[0, 10, 12], 1, 2⟩
def exB : Cv := ⟨[0, 0, 0, 0], 1, 4⟩
theorem exA_at (n : Nat) : exA.at n = if n = 0 then 0 else 2 * n + 8 := by
  unfold Cv.at exA
  simp only [List.length_cons, List.length_nil]
  have h1 : (1 : Int).toNat = 1 := rfl
  by_cases h : n < 0 + 1 + 1 + 1
  · rw [if_pos h]
    have : n = 0 ∨ n = 1 ∨ n = 2 := by omega
    rcases this with rfl | rfl | rfl <;> rfl
  · rw [if_neg h, h1, Nat.div_one, show n - (n - (0 + 1 + 1 + 1) + 1) * 1 = 2 by omega, if_neg (by unfold nth inf; simp), if_neg (by omega)]
    have e : nth [0, 10, 12] 2 = 12 := rfl
    rw [e]; omega
theorem exB_at (n : Nat) : exB.at n = if n ≤ 3 then 0 else 4 * n - 12 := by
  unfold Cv.at exB
  simp only [List.length_cons, List.length_nil]
  have h1 : (1 : Int).toNat = 1 := rfl
  by_cases h : n < 0 + 1 + 1 + 1 + 1
  · rw [if_pos h, if_pos (by omega)]
    have : n = 0 ∨ n = 1 ∨ n = 2 ∨ n = 3 := by omega
    rcases this with rfl | rfl | rfl | rfl <;> rfl
  · rw [if_neg h, h1, Nat.div_one, show n - (n - (0 + 1 + 1 + 1 + 1) + 1) * 1 = 3 by omega, if_neg (by unfold nth inf; simp), if_neg (by omega)]
    have e : nth [0, 0, 0, 0] 3 = 0 := rfl
    rw [e]; omega
theorem exA_fin : exA.Fin := by
  refine ⟨⟨by decide, by decide, by decide, by decide, by decide, by decide, by decide, ?_, by decide, ?_, ?_, by decide⟩, by decide⟩
  · intro k hk
    have hk' : k < 3 := hk
    have : k = 0 ∨ k = 1 ∨ k = 2 := by omega
    rcases this with rfl | rfl | rfl <;> decide
  · intro k hk
    have hk' : k + 1 < 3 := hk
    have : k = 0 ∨ k = 1 := by omega
    rcases this with rfl | rfl <;> decide
  · intro h; exact absurd h (by decide)
theorem exB_fin : exB.Fin := by
  refine ⟨⟨by decide, by decide, by decide, by decide, by decide, by decide, by decide, ?_, by decide, ?_, ?_, by decide⟩, by decide⟩
  · intro k hk
    have hk' : k < 4 := hk
    have : k = 0 ∨ k = 1 ∨ k = 2 ∨ k = 3 := by omega
    rcases this with rfl | rfl | rfl | rfl <;> decide
  · intro k hk
    have hk' : k + 1 < 4 := hk
    have : k = 0 ∨ k = 1 ∨ k = 2 := by omega
    rcases this with rfl | rfl | rfl <;> decide
  · intro h; exact absurd h (by decide)
theorem leAt_fin {f g : Cv} (hf : f.Fin) (hg : g.Fin) (t u : Nat) : LeAt f g t u ↔ f.at t ≤ g.at u := by
  unfold LeAt
  constructor
  · rintro (h | h)
    · exact absurd h (hg.not_infAt u)
    · exact h.2
  · intro h; exact .inr ⟨hf.not_infAt t, h⟩
theorem ex_pair : ∃ a b, NF exA.at a ∧ NF exB.at b ∧ comm a.per.toNat b.per.toNat ≤ 120 :=
  nf_pair exA_fin.1 exB_fin.1 (n := 1) (by omega) (by omega) (fun a ha => ha.per_dvd (by omega) exA_fin.toL.step) (fun a ha => ha.per_dvd (by omega) exB_fin.toL.step)
theorem ex_pair2 : ∃ a b, NF exB.at a ∧ NF exA.at b ∧ comm a.per.toNat b.per.toNat ≤ 120 :=
  nf_pair exB_fin.1 exA_fin.1 (n := 1) (by omega) (by omega) (fun a ha => ha.per_dvd (by omega) exB_fin.toL.step) (fun a ha => ha.per_dvd (by omega) exA_fin.toL.step)
theorem ex_delay : DelayS exA exB false 5 1 := by
  refine .inr ⟨rfl, fun t => ?_, fun h => by omega, fun u hu => ⟨?_, fun t ht => ?_⟩⟩
  · rw [leAt_fin exA_fin exB_fin, exA_at, exB_at]
    by_cases h : t = 0
    · rw [if_pos h, if_neg (by omega)]; omega
    · rw [if_neg h, if_neg (by omega)]; omega
  · obtain rfl : u = 4 := by omega
    rw [leAt_fin exA_fin exB_fin, exA_at, exB_at]; decide
  · obtain rfl : u = 4 := by omega
    obtain rfl : t = 0 := by omega
    rw [leAt_fin exA_fin exB_fin, exA_at, exB_at]; decide
theorem ex_ahead (k : Nat) (hk : k ≤ 1) : AheadS exA exB k false (14 + 2 * k) 3 := by
  refine .inr ⟨rfl, fun t => .inr ⟨exA_fin.not_infAt _, ?_⟩, fun h => by omega, fun _ => ⟨⟨exB_fin.not_infAt _, ?_⟩, fun t ht => .inr ?_⟩⟩
  · rw [exA_at, exB_at]
    by_cases h : t + k = 0
    · rw [if_pos h]; split <;> omega
    · rw [if_neg h]; split <;> omega
  · rw [exA_at, exB_at, if_neg (by omega), if_pos (by omega)]; omega
  · rw [exA_at, exB_at, if_pos (show t ≤ 3 by omega)]
    split <;> omega
theorem ex_loose : DelayS exB exA true 0 0 := loose_del exB_fin.1 ⟨exA_fin, .inr (by decide)⟩
theorem ex_reach : ExS (Geq exB 10) 6 true := by
  refine .inl ⟨rfl, 6, rfl, .inr ⟨by decide, by rw [exB_at]; decide⟩, fun m hm => ?_⟩
  rintro (h | h)
  · exact exB_fin.not_infAt m h
  · have h2 := h.2
    rw [exB_at] at h2
    split at h2 <;> omega
end Go.Proofs.Ytbkimphcmmmaiaa
namespace Go.Proofs.Ytbkimphcmmmaiaa
set_option linter.unusedVariables false

/-- a valid curve that begins later is valid, where it is short enough -/
theorem later_ok {g : Cv} (hg : g.Ok) (d : Nat) (hd : d + g.vals.length ≤ 400) : Cv.Ok ⟨tab (laterV g d) 0 (d + g.vals.length), g.per, g.inc⟩ := by
  have hl : (tab (laterV g d) 0 (d + g.vals.length)).length = d + g.vals.length := tab_length _ _ _
  have hn : ∀ t, t < d + g.vals.length → nth (tab (laterV g d) 0 (d + g.vals.length)) t = laterV g d t := fun t ht => by rw [tab_nth _ _ _ _ ht, Nat.zero_add]
  have hn1 := hg.n1; have hp1 := hg.p1; have hpn := hg.pn
  have hge : ∀ t, t < g.vals.length → nth (tab (laterV g d) 0 (d + g.vals.length)) (d + t) = nth g.vals t := fun t ht => by
    rw [hn _ (by omega), laterV_ge (by omega), Nat.add_sub_cancel_left, Cv.at_lt ht]
  generalize tab (laterV g d) 0 (d + g.vals.length) = zs at hl hn hge
  have e1 : zs.length - 1 = d + (g.vals.length - 1) := by omega
  have e2 : zs.length - g.per.toNat = d + (g.vals.length - g.per.toNat) := by omega
  refine ⟨show 1 ≤ zs.length by omega, show zs.length ≤ 400 by omega, hg.p1, hg.p2, show g.per ≤ (zs.length : Nat) by omega, hg.i1, hg.i2, fun k hk => ?_, ?_, fun k hk => ?_, ?_, ?_⟩
  · have hk' : k < zs.length := hk
    show okv (nth zs k) = true
    rw [hn k (by omega)]
    by_cases h : k < d
    · rw [laterV_lt h]; rfl
    · rw [laterV_ge (by omega), Cv.at_lt (by omega)]; exact hg.v _ (by omega)
  · show 0 ≤ nth zs 0
    rw [hn 0 (by omega)]; exact (later_up hg d).z
  · have hk' : k + 1 < zs.length := hk
    show nth zs k ≤ nth zs (k + 1)
    rw [hn k (by omega), hn (k + 1) (by omega)]
    exact (later_up hg d).le (by omega)
  · show nth zs (zs.length - 1) = inf → _
    rw [e1, hge _ (by omega)]
    exact hg.last
  · show nth zs (zs.length - 1) ≠ inf → nth zs (zs.length - 1) ≤ nth zs (zs.length - g.per.toNat) + g.inc
    rw [e1, e2, hge _ (by omega), hge _ (by omega)]
    exact hg.wrap
theorem later_made {g late : Cv} {n : Nat} {er : Int} (hg : g.Ok) (hn : n + g.vals.length ≤ 400) (h : LaterS g n late er) : er = 0 ∧ late.Ok ∧ ∀ t, late.at t = laterV g n t := by
  rcases h with ⟨h, _⟩ | ⟨_, h, _⟩ | ⟨_, _, _, a, ha, g', hg', hk⟩
  · exact absurd hg h
  · omega
  · have e : laterV a ((n : Int)).toNat = Cv.at ⟨tab (laterV g n) 0 (n + g.vals.length), g.per, g.inc⟩ := by
      rw [Int.toNat_natCast, later_nf ha]
      funext t
      exact (later_tab hg n t).symm
    rw [e] at hg'
    have ok := (nf_small (later_ok hg n hn) hg').1
    rcases hk with ⟨_, rfl, rfl⟩ | ⟨h1, _⟩
    · exact ⟨rfl, ok, fun t => by rw [hg'.at, later_tab hg]⟩
    · exact absurd ok.lim h1
theorem later_nfin {g l : Cv} (hg : g.Fin) {n : Nat} (hl : l.Ok) (e : ∀ t, l.at t = laterV g n t) (u : Nat) : ¬ l.infAt u := by
  rintro ⟨h, _⟩
  have hn1 := hl.n1; have hn2 := hl.n2
  have h1 : l.at (l.vals.length - 1) = inf := by rw [Cv.at_lt (by omega)]; exact h
  rw [e] at h1
  by_cases h2 : l.vals.length - 1 < n
  · rw [laterV_lt h2] at h1; exact absurd h1 inf_pos
  · rw [laterV_ge (by omega)] at h1
    exact hg.not_infAt _ ((hg.1.at_bd (n := l.vals.length - 1 - n) (by omega)).2.2 h1)
theorem later_le {g : Cv} (hg : g.Ok) (n u : Nat) : laterV g n u ≤ g.at u := by
  by_cases h : u < n
  · rw [laterV_lt h]; exact hg.up0.nn u
  · rw [laterV_ge (by omega)]; exact hg.at_le (by omega)
theorem db_later {f g l : Cv} (hg : g.Fin) {n : Nat} (e : ∀ t, l.at t = laterV g n t) {M : Nat} (h : DB f g M) : DB f l (M + n) := fun t => by
  rcases h t with h | h
  · exact absurd h (hg.not_infAt _)
  · exact .inr ⟨h.1, by rw [e, laterV_ge (by omega), show t + (M + n) - n = t + M by omega]; exact h.2⟩
theorem later_db {f g l : Cv} (hg : g.Fin) {n : Nat} (hl : l.Ok) (e : ∀ t, l.at t = laterV g n t) {M : Nat} (h : DB f l M) : DB f g M := fun t => by
  rcases h t with h | h
  · exact absurd h (later_nfin hg hl e _)
  · refine .inr ⟨h.1, Int.le_trans h.2 ?_⟩
    rw [e]; exact later_le hg.1 n _
theorem DelayS.least {f g : Cv} (hg : g.Ok) {v A M : Nat} (h : DelayS f g false v A) (hM : DB f g M) : v ≤ M := by
  rcases h with ⟨h, _⟩ | ⟨_, _, _, h⟩
  · cases h
  · rcases Nat.lt_or_ge M v with hv | hv
    · obtain ⟨u, rfl⟩ : ∃ u, v = u + 1 := ⟨v - 1, by omega⟩
      exact absurd ((hM A).mono hg (by omega)) (h u rfl).1
    · exact hv
theorem later_law {f g l : Cv} (hg : g.Fin) {n : Nat} (hl : l.Ok) (e : ∀ t, l.at t = laterV g n t) {i j : Bool} {v A x B : Nat} (h : DelayS f g i v A) (k : DelayS f l j x B) : i = j ∧ (i = false → x ≤ v + n ∧ v ≤ x ∧ (v = 0 ∨ x = v + n)) := by
  cases i
  · cases j
    · refine ⟨rfl, fun _ => ?_⟩
      have hd : DB f g v := by rcases h with ⟨h, _⟩ | ⟨_, h, _⟩; cases h; exact h
      have kd : DB f l x := by rcases k with ⟨k, _⟩ | ⟨_, k, _⟩; cases k; exact k
      have h1 := k.least hl (db_later hg e hd)
      have h2 := h.least hg.1 (later_db hg hl e kd)
      refine ⟨h1, h2, ?_⟩
      rcases Nat.eq_zero_or_pos v with h0 | h0
      · exact .inl h0
      · right
        obtain ⟨u, rfl⟩ : ∃ u, v = u + 1 := ⟨v - 1, by omega⟩
        rcases h with ⟨h, _⟩ | ⟨_, _, _, h⟩
        · cases h
        · have h3 := (h u rfl).1
          rcases kd A with h4 | ⟨h4, h5⟩
          · exact absurd h4 (later_nfin hg hl e _)
          · rw [e] at h5
            by_cases h6 : A + x < n
            · rw [laterV_lt h6] at h5
              exact absurd (.inr ⟨h4, Int.le_trans h5 (hg.1.up0.nn _)⟩) h3
            · rw [laterV_ge (by omega)] at h5
              rcases Nat.lt_or_ge (A + u) (A + x - n) with h7 | h7
              · omega
              · exact absurd (.inr ⟨h4, Int.le_trans h5 (hg.1.at_le h7)⟩) h3
    · exfalso
      have hd : DB f g v := by rcases h with ⟨h, _⟩ | ⟨_, h, _⟩; cases h; exact h
      rcases k with ⟨_, _, _, k⟩ | ⟨k, _⟩
      · exact k _ (db_later hg e hd)
      · cases k
  · cases j
    · exfalso
      have kd : DB f l x := by rcases k with ⟨k, _⟩ | ⟨_, k, _⟩; cases k; exact k
      rcases h with ⟨_, _, _, h⟩ | ⟨h, _⟩
      · exact h _ (later_db hg hl e kd)
      · cases h
    · exact ⟨rfl, fun h => by cases h⟩
/-- the normal forms' periods of drawn curves, later or not, divide 12 -/
theorem later_dvd {most n : Nat} {g l b : Cv} (hD : DrawC most g) (hl : ∀ t, l.at t = laterV g n t) (hb : NF l.at b) : b.per.toNat ∣ 12 := by
  obtain ⟨s, q, y, h1, h2, h3⟩ := hD.p4
  refine Nat.dvd_trans (hb.per_dvd (s := n + s) (p := q) (b := y) h1 (fun t ht => ?_)) (dvd12 h1 h2)
  rw [hl, hl, laterV_ge (by omega), laterV_ge (by omega), show t + q - n = t - n + q by omega]
  exact h3 _ (by omega)
end Go.Proofs.Ytbkimphcmmmaiaa
namespace Go.Proofs.Ytbkimphcmmmaiaa
set_option linter.unusedVariables false

/-- the minimum is not finite where neither curve is -/
theorem ext_inf {g h m : Cv} (hg : g.Ok) (hh : h.Ok) (hm : m.Ok) (e : ∀ t, m.at t = exV true g h t) (u : Nat) : m.infAt u ↔ g.infAt u ∧ h.infAt u := by
  rw [inf_min' hm, inf_min' hg, inf_min' hh, e, exV_pk hg hh (by omega), pk_true]
  have h1 := (hg.at_bd (n := min u 1000) (by omega)).1; have h2 := (hg.at_bd (n := min u 1000) (by omega)).2.1
  have h3 := (hh.at_bd (n := min u 1000) (by omega)).1; have h4 := (hh.at_bd (n := min u 1000) (by omega)).2.1
  omega
theorem ex_le1 {a b : Cv} {t : Nat} (h : ¬ a.infAt t) : exV true a b t ≤ a.at t := by
  by_cases hb : b.infAt t
  · rw [exV_infr h hb]; simp
  · unfold exV; rw [if_neg h, if_neg hb, pk_true]; omega
theorem ex_le2 {a b : Cv} {t : Nat} (h : ¬ b.infAt t) : exV true a b t ≤ b.at t := by
  by_cases ha : a.infAt t
  · rw [exV_infl ha]; simp
  · unfold exV; rw [if_neg ha, if_neg h, pk_true]; omega
theorem ex_pick {a b : Cv} {t : Nat} (h : ¬ (a.infAt t ∧ b.infAt t)) : (¬ a.infAt t ∧ exV true a b t = a.at t) ∨ (¬ b.infAt t ∧ exV true a b t = b.at t) := by
  by_cases ha : a.infAt t
  · exact .inr ⟨fun hb => h ⟨ha, hb⟩, by rw [exV_infl ha]; simp⟩
  · by_cases hb : b.infAt t
    · exact .inl ⟨ha, by rw [exV_infr ha hb]; simp⟩
    · unfold exV
      rw [if_neg ha, if_neg hb, pk_true]
      by_cases hl : a.at t ≤ b.at t
      · exact .inl ⟨ha, by omega⟩
      · exact .inr ⟨hb, by omega⟩
/-- what Minimum returns, without an error -/
theorem ext_get {g h m : Cv} (H : ExtS true g h m 0) : g.Ok ∧ h.Ok ∧ m.Ok ∧ NF m.at m ∧ ∀ t, m.at t = exV true g h t := by
  rcases H with ⟨_, _, h⟩ | ⟨hfo, hgo, a, b, ha, hb, ⟨_, _, h⟩ | ⟨_, hM⟩⟩
  · cases h
  · cases h
  · rw [exV_nf hfo hgo ha hb] at hM
    rcases hM.get (exV_up hfo hgo) with ⟨_, h1, hn⟩ | ⟨h, _⟩
    · have e : ∀ t, m.at t = exV true g h t := fun t => hn.at t
      exact ⟨hfo, hgo, h1, by rw [show m.at = exV true g h from funext e]; exact hn, e⟩
    · cases h
theorem ext_er2 {l : Bool} {f g r : Cv} {er : Int} (hf : f.Ok) (hg : g.Ok) (H : ExtS l f g r er) : (er = 0 ∧ r.Ok) ∨ (er = 3 ∧ r = Cv.none) := by
  rcases H with ⟨h, _⟩ | ⟨hf, hg, a, b, ha, hb, H⟩
  · exact absurd ⟨hf, hg⟩ h
  · rcases H with ⟨_, h2, h⟩ | ⟨hc, h2⟩
    · exact .inr ⟨h, h2⟩
    · rw [exV_nf hf hg ha hb] at h2
      rcases h2.get (exV_up hf hg) with h3 | h3
      · exact .inl ⟨h3.1, h3.2.1⟩
      · exact .inr h3
/-- the convolution spreads over the minimum -/
theorem cv_spread {f g h m a b x y : Cv} (hm : ExtS true g h m 0) (ha : CvS f g a 0) (hb : CvS f h b 0) (hx : CvS f m x 0) (hy : ExtS true a b y 0) : x = y := by
  obtain ⟨hg, hh, mo, _, me⟩ := ext_get hm
  obtain ⟨_, _, yo, yn, ye⟩ := ext_get hy
  obtain ⟨_, _, ao, _, Ca, ia⟩ := cv_get ha
  obtain ⟨_, _, bo, _, Cb, ib⟩ := cv_get hb
  have im := ext_inf hg hh mo me
  refine cv_eq hx yn fun t => CvT.of ?_
  rw [ye]
  have up : ∀ s, CSp f m t s → exV true a b t ≤ f.at s + m.at (t - s) := fun s hs => by
    have h1 := hs.2.2
    rw [im] at h1
    rw [me]
    rcases ex_pick h1 with ⟨h2, h3⟩ | ⟨h2, h3⟩
    · have hc : CSp f g t s := ⟨hs.1, hs.2.1, h2⟩
      have na : ¬ a.infAt t := fun hi => (ia t).1 hi s hc
      have := ex_le1 (b := b) na
      rcases (Ca t).cases with ⟨k, _⟩ | ⟨_, k⟩
      · exact absurd hc (k s)
      · have := k s hc
        omega
    · have hc : CSp f h t s := ⟨hs.1, hs.2.1, h2⟩
      have na : ¬ b.infAt t := fun hi => (ib t).1 hi s hc
      have := ex_le2 (a := a) na
      rcases (Cb t).cases with ⟨k, _⟩ | ⟨_, k⟩
      · exact absurd hc (k s)
      · have := k s hc
        omega
  by_cases hi : a.infAt t ∧ b.infAt t
  · refine .inl ⟨fun s hs => ?_, by rw [exV_infl hi.1]; simp [hi.2.2]⟩
    have h1 := hs.2.2
    rw [im] at h1
    rcases ex_pick h1 with ⟨h2, _⟩ | ⟨h2, _⟩
    · exact (ia t).1 hi.1 s ⟨hs.1, hs.2.1, h2⟩
    · exact (ib t).1 hi.2 s ⟨hs.1, hs.2.1, h2⟩
  · refine .inr ⟨?_, up⟩
    rcases ex_pick hi with ⟨h1, h2⟩ | ⟨h1, h2⟩
    · rcases (Ca t).cases with ⟨k, _⟩ | ⟨⟨s, k1, k2⟩, _⟩
      · exact absurd ((ia t).2 k) h1
      · have hc : CSp f m t s := ⟨k1.1, k1.2.1, fun hi => k1.2.2 ((im _).1 hi).1⟩
        refine ⟨s, hc, ?_⟩
        have h3 := up s hc
        have h4 := ex_le1 (b := h) k1.2.2
        rw [me] at h3 ⊢
        omega
    · rcases (Cb t).cases with ⟨k, _⟩ | ⟨⟨s, k1, k2⟩, _⟩
      · exact absurd ((ib t).2 k) h1
      · have hc : CSp f m t s := ⟨k1.1, k1.2.1, fun hi => k1.2.2 ((im _).1 hi).2⟩
        refine ⟨s, hc, ?_⟩
        have h3 := up s hc
        have h4 := ex_le2 (a := g) k1.2.2
        rw [me] at h3 ⊢
        omega
/-- delaying one argument delays the result -/
theorem cv_delay {f g late b c x : Cv} {d : Nat} (F : f.Fin) (G : g.Fin) (f0 : f.at 0 = 0) (g0 : g.at 0 = 0) (lo : late.Ok) (le : ∀ t, late.at t = laterV f d t) (hb : CvS late g b 0) (hc : CvS f g c 0) (hx : LaterS c d x 0) : x = b := by
  obtain ⟨_, _, co, _, Cc, _⟩ := cv_get hc
  rcases hx with ⟨_, _, h⟩ | ⟨_, _, _, h⟩ | ⟨_, _, _, a, ha, g', hg', hk⟩
  · cases h
  · cases h
  · rcases hk with ⟨_, rfl, _⟩ | ⟨_, _, h⟩
    · rw [Int.toNat_natCast, later_nf ha] at hg'
      have e : x.at = laterV c d := funext hg'.at
      have ln := later_nfin F lo le
      refine (cv_eq hb (by rw [e]; exact hg') fun t => CvT.of (.inr ?_)).symm
      rw [e]
      by_cases ht : t < d
      · rw [laterV_lt ht]
        refine ⟨⟨t, ⟨Nat.le_refl _, ln _, G.not_infAt _⟩, by rw [le, laterV_lt ht, Nat.sub_self, g0]; rfl⟩, fun s hs => ?_⟩
        rw [le, laterV_lt (by have := hs.1; omega)]
        have := G.1.up0.nn (t - s)
        omega
      · rw [laterV_ge (by omega)]
        rcases (Cc (t - d)).cases with ⟨k, _⟩ | ⟨⟨s, k1, k2⟩, k3⟩
        · exact absurd ⟨Nat.zero_le _, F.not_infAt _, G.not_infAt _⟩ (k 0)
        · have up : ∀ s, CSp late g t s → c.at (t - d) ≤ late.at s + g.at (t - s) := fun s hs => by
            have hs1 := hs.1
            rw [le]
            by_cases hs2 : s < d
            · rw [laterV_lt hs2]
              have h1 := k3 0 ⟨Nat.zero_le _, F.not_infAt _, G.not_infAt _⟩
              rw [f0, Nat.sub_zero] at h1
              have h2 := G.1.at_le (show t - d ≤ t - s by omega)
              omega
            · rw [laterV_ge (by omega)]
              have h1 := k3 (s - d) ⟨by omega, F.not_infAt _, G.not_infAt _⟩
              rwa [show t - d - (s - d) = t - s by omega] at h1
          have hs1 := k1.1
          refine ⟨⟨s + d, ⟨by omega, ln _, G.not_infAt _⟩, ?_⟩, up⟩
          rw [le, laterV_ge (by omega), show s + d - d = s by omega, show t - (s + d) = t - d - s by omega]
          exact k2
    · cases h
theorem later_er {c x : Cv} {d : Nat} {er : Int} (hc : c.Ok) (hd : d ≤ 1048576) (h : LaterS c d x er) : er = 0 ∨ er = 3 := by
  rcases h with ⟨h, _⟩ | ⟨_, h, _⟩ | ⟨_, _, _, a, ha, g', hg', hk⟩
  · exact absurd hc h
  · omega
  · rcases hk with ⟨_, _, h⟩ | ⟨_, _, h⟩
    · exact .inl h
    · exact .inr h
end Go.Proofs.Ytbkimphcmmmaiaa
