/- Two servers one after the other: plain words. -/
import Derived.Test.YtbkimphcmmmaiaaSvChain
import Derived.Test.YtbkimphcmmmaiaaFrSum
import Derived.Test.YtbkimphcmmmaiaaSgLaw
import Derived.Test.YtbkimphcmmmaiaaCvEr
import Derived.Test.YtbkimphcmmmaiaaLec
namespace Go.Proofs.Ytbkimphcmmmaiaa
open Go.RowKit
set_option linter.unusedVariables false

theorem pc_le_iff {R r L l K : Int} (hr : 1 ≤ r) (hl : 1 ≤ l) (hK : 0 ≤ K) (t : Nat) : pcV R r L l t ≤ K ↔ R * t * l - R * L ≤ K * (r * l) := by
  rw [← cdiv_le (rl_pos hr hl)]
  unfold pcV
  split <;> omega
theorem pc_ge {R r L l : Int} (hr : 1 ≤ r) (hl : 1 ≤ l) (t : Nat) : R * t * l - R * L ≤ pcV R r L l t * (r * l) := (pc_le_iff hr hl (pc_nn _ _ _ _ _) t).1 (Int.le_refl _)
theorem pc_two {R r L l L1 l1 L2 l2 : Int} (hr : 1 ≤ r) (hl : 1 ≤ l) (hl1 : 1 ≤ l1) (hl2 : 1 ≤ l2) (hL : L * (l1 * l2) = (L1 * l2 + L2 * l1) * l) (s u : Nat) : pcV R r L l (s + u) ≤ pcV R r L1 l1 s + pcV R r L2 l2 u := by
  have hA := pc_ge (R := R) (L := L1) hr hl1 s
  have hB := pc_ge (R := R) (L := L2) hr hl2 u
  have nA := pc_nn R r L1 l1 s; have nB := pc_nn R r L2 l2 u
  refine (pc_le_iff hr hl (by omega) _).2 ?_
  generalize pcV R r L1 l1 s = a at *
  generalize pcV R r L2 l2 u = b at *
  have p2 := rl_pos hl2 hl; have p1 := rl_pos hl1 hl; have p0 := rl_pos hl1 hl2
  have hA' := Int.mul_le_mul_of_nonneg_right hA (show 0 ≤ l2 * l by omega)
  have hB' := Int.mul_le_mul_of_nonneg_right hB (show 0 ≤ l1 * l by omega)
  rw [← mul_le_iff p0]
  have e1 : (R * ((s + u : Nat) : Int) * l - R * L) * (l1 * l2) = (R * s * l1 - R * L1) * (l2 * l) + (R * u * l2 - R * L2) * (l1 * l) := by
    have h1 : R * (L * (l1 * l2)) = R * ((L1 * l2 + L2 * l1) * l) := by rw [hL]
    have h2 : ((s + u : Nat) : Int) = s + u := by omega
    rw [h2]
    grind
  have e2 : (a + b) * (r * l) * (l1 * l2) = a * (r * l1) * (l2 * l) + b * (r * l2) * (l1 * l) := by grind
  rw [e1, e2]
  omega
/-- the pace of two small ones -/
theorem chain_two {a b : PN} (ha : a.Good) (hb : b.Good) (h1 : a.R ≤ 100) (h2 : a.r ≤ 5) (h3 : a.L ≤ 20) (h4 : a.l ≤ 5) (k1 : b.R ≤ 100) (k2 : b.r ≤ 5) (k3 : b.L ≤ 20) (k4 : b.l ≤ 5) :
    ∃ c, foldP a [b] = (c, 0) ∧ c.Good ∧ c.R ≤ 100 ∧ c.r ≤ 5 ∧ c.L ≤ 200 ∧ c.l ≤ 25 ∧ ∀ s u : Nat, pcV c.R c.r c.L c.l (s + u) ≤ pcV a.R a.r a.L a.l s + pcV b.R b.r b.L b.l u := by
  obtain ⟨a1, a2⟩ := ha; obtain ⟨b1, b2⟩ := hb
  have ar := a1.1.1; have br := b1.1.1; have al := a2.1.1; have bl := b2.1.1
  have aR := a1.2; have bR := b1.2; have aL := a2.2; have bL := b2.2
  obtain ⟨e1, e2, _, e4, e5⟩ := fadd_fit a2 b2 (by omega) (by omega) (by omega) (by omega)
  have m1 : a.L * b.l ≤ 20 * 5 := Int.mul_le_mul h3 k4 (by omega) (by omega)
  have m2 : b.L * a.l ≤ 20 * 5 := Int.mul_le_mul k3 h4 (by omega) (by omega)
  have m3 : a.l * b.l ≤ 5 * 5 := Int.mul_le_mul h4 k4 (by omega) (by omega)
  have n1 : 0 ≤ a.L * b.l := Int.mul_nonneg aL (by omega)
  have n2 : 0 ≤ b.L * a.l := Int.mul_nonneg bL (by omega)
  have hd := rl_pos al bl
  have hE : chE a b = 0 := e1
  refine ⟨chJ a b, by unfold foldP; rw [if_pos hE]; rfl, chJ_good ⟨a1, a2⟩ ⟨b1, b2⟩ hE, ?_, ?_, ?_, ?_, ?_⟩
  · unfold chJ; dsimp only; split <;> assumption
  · unfold chJ; dsimp only; split <;> assumption
  · show (fadd a.L a.l b.L b.l).1 ≤ 200
    omega
  · show (fadd a.L a.l b.L b.l).2.1 ≤ 25
    omega
  · intro s u
    have hL : (fadd a.L a.l b.L b.l).1 * (a.l * b.l) = (a.L * b.l + b.L * a.l) * (fadd a.L a.l b.L b.l).2.1 := by
      unfold fadd
      rw [if_pos ⟨a2.1, b2.1⟩]
      exact (fnew_small2 (by omega) (by omega) hd (by omega)).2.1
    have hl := e2.1.1
    have key : ∀ R r : Int, 0 ≤ R → 1 ≤ r → R * a.r ≤ a.R * r → R * b.r ≤ b.R * r → pcV R r (fadd a.L a.l b.L b.l).1 (fadd a.L a.l b.L b.l).2.1 (s + u) ≤ pcV a.R a.r a.L a.l s + pcV b.R b.r b.L b.l u := fun R r hR hr q1 q2 => by
      have t1 := pc_two (R := R) hr hl al bl hL s u
      have t2 := pc_rate hR hr aR ar al q1 (L := a.L) s
      have t3 := pc_rate hR hr bR br bl q2 (L := b.L) u
      omega
    have hc : fcmp b.R b.r a.R a.r < 0 ↔ b.R * a.r < a.R * b.r := by
      unfold fcmp
      rw [if_pos ⟨b1.1, a1.1⟩]
      split
      · simp; assumption
      · split
        · constructor
          · intro h; omega
          · intro h; contradiction
        · constructor
          · intro h; omega
          · intro h; contradiction
    unfold chJ
    dsimp only
    split
    · rename_i h
      exact key _ _ bR br (by have := hc.1 h; omega) (Int.le_refl _)
    · rename_i h
      exact key _ _ aR ar (Int.le_refl _) (by
        rcases Int.lt_or_le (b.R * a.r) (a.R * b.r) with h' | h'
        · exact absurd (hc.2 h') h
        · exact h')
theorem chain_lec {h1 h2 h3 : Nat → Int} {f g w x : Cv} (hf : NF h1 f) (hg : NF h2 g) (hw : NF h3 w) (ff : f.Fin) (fg : g.Fin) (fw : w.Fin) (H : CvS f g x 0) (hle : ∀ s u : Nat, h3 (s + u) ≤ h1 s + h2 u) : LEC w x := fun n => by
  obtain ⟨fx, hC⟩ := cvS_ok ff fg H
  refine .inr ⟨fw.not_infAt n, ?_⟩
  obtain ⟨⟨s, hs, e⟩, _⟩ := hC n
  have := hle s (n - s)
  rw [show s + (n - s) = n by omega] at this
  rw [e, hf.at, hg.at, hw.at]
  exact this
end Go.Proofs.Ytbkimphcmmmaiaa
