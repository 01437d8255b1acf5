/- Plain words for the statement DeviationLater. -/
import Derived.Test.YtbkimphcmmmaiaaPwLaw
import Derived.Test.YtbkimphcmmmaiaaEx10
namespace Go.Proofs.Ytbkimphcmmmaiaa
set_option linter.unusedVariables false

/-- a valid curve that begins later is valid, where it is short enough -/
theorem later_ok {g : Cv} (hg : g.Ok) (d : Nat) (hd : d + g.vals.length ≤ 400) : Cv.Ok ⟨tab (laterV g d) 0 (d + g.vals.length), g.per, g.inc⟩ := by
  have hl : (tab (laterV g d) 0 (d + g.vals.length)).length = d + g.vals.length := tab_length _ _ _
  have hn : ∀ t, t < d + g.vals.length → nth (tab (laterV g d) 0 (d + g.vals.length)) t = laterV g d t := fun t ht => by rw [tab_nth _ _ _ _ ht, Nat.zero_add]
  have hn1 := hg.n1; have hp1 := hg.p1; have hpn := hg.pn
  have hge : ∀ t, t < g.vals.length → nth (tab (laterV g d) 0 (d + g.vals.length)) (d + t) = nth g.vals t := fun t ht => by
    rw [hn _ (by omega), laterV_ge (by omega), Nat.add_sub_cancel_left, Cv.at_lt ht]
  generalize tab (laterV g d) 0 (d + g.vals.length) = zs at hl hn hge
  have e1 : zs.length - 1 = d + (g.vals.length - 1) := by omega
  have e2 : zs.length - g.per.toNat = d + (g.vals.length - g.per.toNat) := by omega
  refine ⟨show 1 ≤ zs.length by omega, show zs.length ≤ 400 by omega, hg.p1, hg.p2, show g.per ≤ (zs.length : Nat) by omega, hg.i1, hg.i2, fun k hk => ?_, ?_, fun k hk => ?_, ?_, ?_⟩
  · have hk' : k < zs.length := hk
    show okv (nth zs k) = true
    rw [hn k (by omega)]
    by_cases h : k < d
    · rw [laterV_lt h]; rfl
    · rw [laterV_ge (by omega), Cv.at_lt (by omega)]; exact hg.v _ (by omega)
  · show 0 ≤ nth zs 0
    rw [hn 0 (by omega)]; exact (later_up hg d).z
  · have hk' : k + 1 < zs.length := hk
    show nth zs k ≤ nth zs (k + 1)
    rw [hn k (by omega), hn (k + 1) (by omega)]
    exact (later_up hg d).le (by omega)
  · show nth zs (zs.length - 1) = inf → _
    rw [e1, hge _ (by omega)]
    exact hg.last
  · show nth zs (zs.length - 1) ≠ inf → nth zs (zs.length - 1) ≤ nth zs (zs.length - g.per.toNat) + g.inc
    rw [e1, e2, hge _ (by omega), hge _ (by omega)]
    exact hg.wrap
theorem later_made {g late : Cv} {n : Nat} {er : Int} (hg : g.Ok) (hn : n + g.vals.length ≤ 400) (h : LaterS g n late er) : er = 0 ∧ late.Ok ∧ ∀ t, late.at t = laterV g n t := by
  rcases h with ⟨h, _⟩ | ⟨_, h, _⟩ | ⟨_, _, _, a, ha, g', hg', hk⟩
  · exact absurd hg h
  · omega
  · have e : laterV a ((n : Int)).toNat = Cv.at ⟨tab (laterV g n) 0 (n + g.vals.length), g.per, g.inc⟩ := by
      rw [Int.toNat_natCast, later_nf ha]
      funext t
      exact (later_tab hg n t).symm
    rw [e] at hg'
    have ok := (nf_small (later_ok hg n hn) hg').1
    rcases hk with ⟨_, rfl, rfl⟩ | ⟨h1, _⟩
    · exact ⟨rfl, ok, fun t => by rw [hg'.at, later_tab hg]⟩
    · exact absurd ok.lim h1
theorem later_nfin {g l : Cv} (hg : g.Fin) {n : Nat} (hl : l.Ok) (e : ∀ t, l.at t = laterV g n t) (u : Nat) : ¬ l.infAt u := by
  rintro ⟨h, _⟩
  have hn1 := hl.n1; have hn2 := hl.n2
  have h1 : l.at (l.vals.length - 1) = inf := by rw [Cv.at_lt (by omega)]; exact h
  rw [e] at h1
  by_cases h2 : l.vals.length - 1 < n
  · rw [laterV_lt h2] at h1; exact absurd h1 inf_pos
  · rw [laterV_ge (by omega)] at h1
    exact hg.not_infAt _ ((hg.1.at_bd (n := l.vals.length - 1 - n) (by omega)).2.2 h1)
theorem later_le {g : Cv} (hg : g.Ok) (n u : Nat) : laterV g n u ≤ g.at u := by
  by_cases h : u < n
  · rw [laterV_lt h]; exact hg.up0.nn u
  · rw [laterV_ge (by omega)]; exact hg.at_le (by omega)
theorem db_later {f g l : Cv} (hg : g.Fin) {n : Nat} (e : ∀ t, l.at t = laterV g n t) {M : Nat} (h : DB f g M) : DB f l (M + n) := fun t => by
  rcases h t with h | h
  · exact absurd h (hg.not_infAt _)
  · exact .inr ⟨h.1, by rw [e, laterV_ge (by omega), show t + (M + n) - n = t + M by omega]; exact h.2⟩
theorem later_db {f g l : Cv} (hg : g.Fin) {n : Nat} (hl : l.Ok) (e : ∀ t, l.at t = laterV g n t) {M : Nat} (h : DB f l M) : DB f g M := fun t => by
  rcases h t with h | h
  · exact absurd h (later_nfin hg hl e _)
  · refine .inr ⟨h.1, Int.le_trans h.2 ?_⟩
    rw [e]; exact later_le hg.1 n _
theorem DelayS.least {f g : Cv} (hg : g.Ok) {v A M : Nat} (h : DelayS f g false v A) (hM : DB f g M) : v ≤ M := by
  rcases h with ⟨h, _⟩ | ⟨_, _, _, h⟩
  · cases h
  · rcases Nat.lt_or_ge M v with hv | hv
    · obtain ⟨u, rfl⟩ : ∃ u, v = u + 1 := ⟨v - 1, by omega⟩
      exact absurd ((hM A).mono hg (by omega)) (h u rfl).1
    · exact hv
theorem later_law {f g l : Cv} (hg : g.Fin) {n : Nat} (hl : l.Ok) (e : ∀ t, l.at t = laterV g n t) {i j : Bool} {v A x B : Nat} (h : DelayS f g i v A) (k : DelayS f l j x B) : i = j ∧ (i = false → x ≤ v + n ∧ v ≤ x ∧ (v = 0 ∨ x = v + n)) := by
  cases i
  · cases j
    · refine ⟨rfl, fun _ => ?_⟩
      have hd : DB f g v := by rcases h with ⟨h, _⟩ | ⟨_, h, _⟩; cases h; exact h
      have kd : DB f l x := by rcases k with ⟨k, _⟩ | ⟨_, k, _⟩; cases k; exact k
      have h1 := k.least hl (db_later hg e hd)
      have h2 := h.least hg.1 (later_db hg hl e kd)
      refine ⟨h1, h2, ?_⟩
      rcases Nat.eq_zero_or_pos v with h0 | h0
      · exact .inl h0
      · right
        obtain ⟨u, rfl⟩ : ∃ u, v = u + 1 := ⟨v - 1, by omega⟩
        rcases h with ⟨h, _⟩ | ⟨_, _, _, h⟩
        · cases h
        · have h3 := (h u rfl).1
          rcases kd A with h4 | ⟨h4, h5⟩
          · exact absurd h4 (later_nfin hg hl e _)
          · rw [e] at h5
            by_cases h6 : A + x < n
            · rw [laterV_lt h6] at h5
              exact absurd (.inr ⟨h4, Int.le_trans h5 (hg.1.up0.nn _)⟩) h3
            · rw [laterV_ge (by omega)] at h5
              rcases Nat.lt_or_ge (A + u) (A + x - n) with h7 | h7
              · omega
              · exact absurd (.inr ⟨h4, Int.le_trans h5 (hg.1.at_le h7)⟩) h3
    · exfalso
      have hd : DB f g v := by rcases h with ⟨h, _⟩ | ⟨_, h, _⟩; cases h; exact h
      rcases k with ⟨_, _, _, k⟩ | ⟨k, _⟩
      · exact k _ (db_later hg e hd)
      · cases k
  · cases j
    · exfalso
      have kd : DB f l x := by rcases k with ⟨k, _⟩ | ⟨_, k, _⟩; cases k; exact k
      rcases h with ⟨_, _, _, h⟩ | ⟨h, _⟩
      · exact h _ (later_db hg hl e kd)
      · cases h
    · exact ⟨rfl, fun h => by cases h⟩
/-- the normal forms' periods of drawn curves, later or not, divide 12 -/
theorem later_dvd {most n : Nat} {g l b : Cv} (hD : DrawC most g) (hl : ∀ t, l.at t = laterV g n t) (hb : NF l.at b) : b.per.toNat ∣ 12 := by
  obtain ⟨s, q, y, h1, h2, h3⟩ := hD.p4
  refine Nat.dvd_trans (hb.per_dvd (s := n + s) (p := q) (b := y) h1 (fun t ht => ?_)) (dvd12 h1 h2)
  rw [hl, hl, laterV_ge (by omega), laterV_ge (by omega), show t + q - n = t - n + q by omega]
  exact h3 _ (by omega)
end Go.Proofs.Ytbkimphcmmmaiaa
