/- Plain words for the statement PointwiseLattice. -/
import Derived.Test.YthgfmaijoigckaaMonoPw
namespace Go.Proofs.Ythgfmaijoigckaa
set_option linter.unusedVariables false

theorem MadeS.len {h : Nat → Int} {r : Cv} {er : Int} (m : MadeS h r er) : r.vals.length ≤ 400 := by
  obtain ⟨g, hg, ⟨hl, rfl, _⟩ | ⟨_, rfl, _⟩⟩ := m
  · exact hl.1
  · decide
theorem MadeL.len {h : Nat → Int} {r : Cv} {er : Int} (m : MadeL h r er) : r.vals.length ≤ 400 := by
  rcases m with ⟨_, hl, _⟩ | ⟨_, rfl, _⟩
  · exact hl.1
  · decide
theorem SumS.len {f g r : Cv} {er : Int} (h : SumS f g r er) : r.vals.length ≤ 400 := by
  rcases h with ⟨_, rfl, _⟩ | ⟨_, _, a, b, _, _, ⟨_, rfl, _⟩ | ⟨_, h⟩⟩
  · decide
  · decide
  · exact MadeS.len (h := sumV a b) h
theorem ExtS.len {l : Bool} {f g r : Cv} {er : Int} (h : ExtS l f g r er) : r.vals.length ≤ 400 := by
  rcases h with ⟨_, rfl, _⟩ | ⟨_, _, a, b, _, _, ⟨_, rfl, _⟩ | ⟨_, h⟩⟩
  · decide
  · decide
  · exact MadeL.len (h := exV l a b) h
theorem SumS.ok0 {f g r : Cv} (h : SumS f g r 0) : f.Ok ∧ g.Ok ∧ r.Ok ∧ NF (sumV f g) r := by
  rcases h with ⟨_, _, h⟩ | ⟨hf, hg, a, b, ha, hb, ⟨_, _, h⟩ | ⟨_, h⟩⟩
  · omega
  · omega
  · have h' : MadeS (sumV a b) r 0 := h
    rw [sumV_nf hf hg ha hb] at h'
    rcases h'.get (sumV_up hf hg) with ⟨_, h1, h2⟩ | ⟨h1, _⟩
    · exact ⟨hf, hg, h1, h2⟩
    · omega
theorem ExtS.ok0 {l : Bool} {f g r : Cv} (h : ExtS l f g r 0) : f.Ok ∧ g.Ok ∧ r.Ok ∧ NF (exV l f g) r := by
  rcases h with ⟨_, _, h⟩ | ⟨hf, hg, a, b, ha, hb, ⟨_, _, h⟩ | ⟨_, h⟩⟩
  · omega
  · omega
  · have h' : MadeL (exV l a b) r 0 := h
    rw [exV_nf hf hg ha hb] at h'
    rcases h'.get (exV_up hf hg) with ⟨_, h1, h2⟩ | ⟨h1, _⟩
    · exact ⟨hf, hg, h1, h2⟩
    · omega
theorem exV_comm (l : Bool) (f g : Cv) : exV l f g = exV l g f := by
  funext t
  by_cases h1 : f.infAt t
  · rw [exV_infl h1]
    by_cases h2 : g.infAt t
    · rw [exV_infl h2]
      cases l
      · rfl
      · show g.at t = f.at t
        rw [h1.2, h2.2]
    · rw [exV_infr h2 h1]
  · by_cases h2 : g.infAt t
    · rw [exV_infr h1 h2, exV_infl h2]
    · unfold exV
      rw [if_neg h1, if_neg h2, if_neg h2, if_neg h1, pk_comm]
section
variable {f g h a c x u v left right : Cv}
theorem min_le1 (hf : f.Ok) (hg : g.Ok) (ha : a.Ok) (e : a.at = exV true f g) : LEC a f := fun n => by
  have i := exV_infAt hf hg ha e n
  simp only [if_true] at i
  by_cases j : f.infAt n
  · exact .inl j
  · refine .inr ⟨fun k => j (i.1 k).1, ?_⟩
    have v := exT_at e (n := n)
    by_cases j2 : g.infAt n
    · rw [v.2.1 j j2]; exact Int.le_refl _
    · rw [v.2.2 j j2]; omega
theorem min_le2 (hf : f.Ok) (hg : g.Ok) (ha : a.Ok) (e : a.at = exV true f g) : LEC a g := min_le1 hg hf ha (by rw [e, exV_comm])
theorem le_max1 (hf : f.Ok) (hg : g.Ok) (hc : c.Ok) (e : c.at = exV false f g) : LEC f c := fun n => by
  have i := exV_infAt hf hg hc e n
  simp only [Bool.false_eq_true, if_false] at i
  by_cases j : c.infAt n
  · exact .inl j
  · rw [i, not_or] at j
    exact .inr ⟨j.1, by rw [exF_at e j.1 j.2]; omega⟩
theorem le_max2 (hf : f.Ok) (hg : g.Ok) (hc : c.Ok) (e : c.at = exV false f g) : LEC g c := le_max1 hg hf hc (by rw [e, exV_comm])
/-- a sum and a minimum or a maximum -/
theorem lat_sum {l : Bool} (hf : f.Ok) (hg : g.Ok) (hh : h.Ok) (hx : x.Ok) (hu : u.Ok) (hv : v.Ok) (ex : x.at = exV l g h) (eu : u.at = sumV f g) (ev : v.at = sumV f h) (n1 : NF (sumV f x) left) (n2 : NF (exV l u v) right) : left = right := by
  refine NF.unique n1 (n2.congr fun t => Eq.symm ?_)
  have ix := exV_infAt hg hh hx ex t
  have iu := sum_infAt hf hg hu (fun t => by rw [eu]) t
  have iv := sum_infAt hf hh hv (fun t => by rw [ev]) t
  by_cases jf : f.infAt t
  · rw [sumV_inf (.inl jf), exV_infl (iu.2 (.inl jf))]
    cases l
    · rfl
    · exact (iv.2 (.inl jf)).2.symm
  · have vu := fun j => sum_at (f := f) (g := g) (r := u) (fun t => by rw [eu]) (t := t) jf j
    have vv := fun j => sum_at (f := f) (g := h) (r := v) (fun t => by rw [ev]) (t := t) jf j
    have sx : ∀ j : ¬ x.infAt t, sumV f x t = f.at t + x.at t := fun j => by unfold sumV; rw [if_neg (by rintro (e | e); exact jf e; exact j e)]
    cases l
    · simp only [Bool.false_eq_true, if_false] at ix
      by_cases j : x.infAt t
      · rw [sumV_inf (.inr j)]
        rcases ix.1 j with k | k
        · rw [exV_infl (iu.2 (.inr k))]; rfl
        · by_cases k2 : u.infAt t
          · rw [exV_infl k2]; rfl
          · rw [exV_infr k2 (iv.2 (.inr k))]; rfl
      · rw [sx j]
        have j2 := not_or.1 (fun k => j (ix.2 k))
        unfold exV
        rw [if_neg (fun k => j2.1 ((iu.1 k).resolve_left jf)), if_neg (fun k => j2.2 ((iv.1 k).resolve_left jf)), pk_false, vu j2.1, vv j2.2, exF_at ex j2.1 j2.2]
        omega
    · simp only [if_true] at ix
      have v0 := exT_at ex (n := t)
      by_cases jg : g.infAt t
      · rw [exV_infl (iu.2 (.inr jg))]
        by_cases jh : h.infAt t
        · rw [sumV_inf (.inr (ix.2 ⟨jg, jh⟩))]
          exact (iv.2 (.inr jh)).2.symm
        · rw [sx (fun k => jh (ix.1 k).2), v0.1 jg]
          exact (vv jh).symm
      · have ju : ¬ u.infAt t := fun k => jg ((iu.1 k).resolve_left jf)
        by_cases jh : h.infAt t
        · rw [exV_infr ju (iv.2 (.inr jh)), sx (fun k => jg (ix.1 k).1), v0.2.1 jg jh]
          exact (vu jg).symm
        · have jv : ¬ v.infAt t := fun k => jh ((iv.1 k).resolve_left jf)
          rw [sx (fun k => jg (ix.1 k).1), v0.2.2 jg jh]
          unfold exV
          rw [if_neg ju, if_neg jv, pk_true, vu jg, vv jh]
          omega
/-- a minimum of a maximum -/
theorem lat_min (hf : f.Ok) (hg : g.Ok) (hh : h.Ok) (hx : x.Ok) (hu : u.Ok) (hv : v.Ok) (ex : x.at = exV false g h) (eu : u.at = exV true f g) (ev : v.at = exV true f h) (n1 : NF (exV true f x) left) (n2 : NF (exV false u v) right) : left = right := by
  refine NF.unique n1 (n2.congr fun t => Eq.symm ?_)
  have ix := exV_infAt hg hh hx ex t
  have iu := exV_infAt hf hg hu eu t
  have iv := exV_infAt hf hh hv ev t
  simp only [Bool.false_eq_true, if_false] at ix
  simp only [if_true] at iu iv
  have vu := exT_at eu (n := t); have vv := exT_at ev (n := t)
  by_cases jf : f.infAt t
  · rw [exV_infl jf]
    show x.at t = _
    by_cases jg : g.infAt t
    · rw [exV_infl (iu.2 ⟨jf, jg⟩)]
      exact (ix.2 (.inl jg)).2
    · have ju : ¬ u.infAt t := fun k => jg (iu.1 k).2
      by_cases jh : h.infAt t
      · rw [exV_infr ju (iv.2 ⟨jf, jh⟩)]
        exact (ix.2 (.inr jh)).2
      · have jv : ¬ v.infAt t := fun k => jh (iv.1 k).2
        unfold exV
        rw [if_neg ju, if_neg jv, pk_false, vu.1 jf, vv.1 jf, exF_at ex jg jh]
  · have ju : ¬ u.infAt t := fun k => jf (iu.1 k).1
    have jv : ¬ v.infAt t := fun k => jf (iv.1 k).1
    have er : exV false u v t = max (u.at t) (v.at t) := by unfold exV; rw [if_neg ju, if_neg jv, pk_false]
    rw [er]
    by_cases jx : x.infAt t
    · rw [exV_infr jf jx]
      show f.at t = _
      rcases ix.1 jx with jg | jh
      · rw [vu.2.1 jf jg]
        by_cases jh : h.infAt t
        · rw [vv.2.1 jf jh]; omega
        · rw [vv.2.2 jf jh]; omega
      · rw [vv.2.1 jf jh]
        by_cases jg : g.infAt t
        · rw [vu.2.1 jf jg]; omega
        · rw [vu.2.2 jf jg]; omega
    · have j2 := not_or.1 (fun k => jx (ix.2 k))
      have el : exV true f x t = min (f.at t) (x.at t) := by unfold exV; rw [if_neg jf, if_neg jx, pk_true]
      rw [el, exF_at ex j2.1 j2.2, vu.2.2 jf j2.1, vv.2.2 jf j2.2]
      omega
end
end Go.Proofs.Ythgfmaijoigckaa
