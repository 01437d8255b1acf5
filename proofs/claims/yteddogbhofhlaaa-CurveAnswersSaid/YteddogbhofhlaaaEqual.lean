/- curve.Equal: what it returns. -/
import Derived.Test.YteddogbhofhlaaaOrder3
import Derived.Test.YteddogbhofhlaaaTheory
namespace Go.Proofs.Yteddogbhofhlaaa
open Go.RowKit
set_option linter.unusedVariables false

/-- what curve.Equal returns -/
def EqS (f g : Cv) (b : Bool) : Prop := (f.Ok ∧ g.Ok ∧ (b = true ↔ f.at = g.at)) ∨ (¬ (f.Ok ∧ g.Ok) ∧ b = false)
theorem EqS.unique {f g : Cv} {a b : Bool} (h : EqS f g a) (k : EqS f g b) : a = b := by
  rcases h with ⟨h1, h2, h⟩ | ⟨h1, rfl⟩ <;> rcases k with ⟨k1, k2, k⟩ | ⟨k1, rfl⟩
  · rw [← k] at h; cases a <;> cases b <;> simp_all
  · exact absurd ⟨h1, h2⟩ k1
  · exact absurd ⟨k1, k2⟩ h1
  · rfl
theorem eq_plain {f g a b : Cv} (hf : f.Ok) (hg : g.Ok) (ha : NF f.at a) (hb : NF g.at b) : EqS f g (Cv.same a b) := by
  refine .inl ⟨hf, hg, ?_⟩
  rw [Cv.same_iff]
  constructor
  · intro h
    funext t
    rw [← ha.at t, ← hb.at t, h]
  · intro h
    rw [h] at ha
    exact ha.unique hb

def RetEq (f g : Cv) (w : World) (e : Ending) (w' : World) : Prop := ∃ b, EqS f g b ∧ e = .returned (.bool b) ∧ Below w.heap.size w w'

set_option maxHeartbeats 1000000 in
theorem equal_any (A B : Option Addr) (n m c d : Nat) (p i q j : Int) (xs ys : List Int) (w : World) (hA : Ints w w.heap.size A n xs) (hB : Ints w w.heap.size B m ys) (hn : (n : Int) ≤ 1000000) (hm : (m : Int) ≤ 1000000) :
    Calls Try.prog 37 #[.agg #[.slice A n c, .int .i64 p, .int .i64 i], .agg #[.slice B m d, .int .i64 q, .int .i64 j]] w (RetEq ⟨xs, p, i⟩ ⟨ys, q, j⟩ w) := by
  have P0 := Lib.hid (PS.new (c := c) (p := p) (i := i) (d := d) (q := q) (j := j) hA hB)
  clear hA hB
  go_enter Try.func37, Try.ntmps37
  go_wp2_with fail
  refine (normal_any A n c p i xs _ P0.out.ia hn).mono ?_
  rintro e w1 ⟨a, er, hN, A1, n1, c1, rfl, hI1, hA1, hb1⟩
  as_aux_lemma =>
  have P1 := Lib.hid ((P0.out.below hb1).alloc (.cells #[.slice A1 n1 c1, .int .i64 a.per, .int .i64 a.inc] 26))
  have AB := Lib.hid (Blk.new w1 26 #[.slice A1 n1 c1, .int .i64 a.per, .int .i64 a.inc])
  have AI := Lib.hid (hI1.alloc' (.cells #[.slice A1 n1 c1, .int .i64 a.per, .int .i64 a.inc] 26))
  have HN1 := Lib.hid hN
  clear P0 hI1 hA1 hb1 hN
  obtain ⟨f0, f1, f2, g0, g1, g2, hlf, hlg⟩ := P1.out.cells
  go_wp2_with fail
  refine (normal_any B m d q j ys _ P1.out.ib hm).mono ?_
  rintro e w2 ⟨b, er2, hN, A2, n2, c2, rfl, hI2, hA2, hb2⟩
  as_aux_lemma =>
  have AB := Lib.hid ((AB.out.below hb2 AB.out.lt).alloc (.cells #[.slice A2 n2 c2, .int .i64 b.per, .int .i64 b.inc] 26))
  have AI := Lib.hid ((AI.out.ext hb2).alloc' (.cells #[.slice A2 n2 c2, .int .i64 b.per, .int .i64 b.inc] 26))
  have BB := Lib.hid (Blk.new w2 26 #[.slice A2 n2 c2, .int .i64 b.per, .int .i64 b.inc])
  have BI := Lib.hid (hI2.alloc' (.cells #[.slice A2 n2 c2, .int .i64 b.per, .int .i64 b.inc] 26))
  have BW := Lib.hid (bthen (bthen P1.out.bw hb2) (balloc w2 (.cells #[.slice A2 n2 c2, .int .i64 b.per, .int .i64 b.inc] 26)))
  have HN2 := Lib.hid hN
  clear P1 hI2 hA2 hb2 hN f0 f1 f2 g0 g1 g2 hlf hlg
  have a0 := AB.out.cell 0; have a1 := AB.out.cell 1; have a2 := AB.out.cell 2; have b0 := BB.out.cell 0; have b1 := BB.out.cell 1; have b2 := BB.out.cell 2
  simp at a0 a1 a2 b0 b1 b2
  have hla := AB.out.lt; have hlb := BB.out.lt
  by_cases hf : Cv.Ok ⟨xs, p, i⟩
  · obtain ⟨rfl, hna, oka, _⟩ := normal_ok hf HN1.out
    by_cases hg : Cv.Ok ⟨ys, q, j⟩
    · obtain ⟨rfl, hnb, okb, _⟩ := normal_ok hg HN2.out
      have F := Lib.hid (eq_plain hf hg hna hnb)
      have hn1 : (n1 : Int) ≤ 1000000 := by have h1 := oka.n2; have h2 : a.vals.length = n1 := AI.out.1; omega
      have hn2 : (n2 : Int) ≤ 1000000 := by have h1 := okb.n2; have h2 : b.vals.length = n2 := BI.out.1; omega
      clear hf hg hna hnb oka okb HN1 HN2
      go_wp2_with fail
      refine (same_any A1 A2 n1 n2 c1 c2 a.per b.per a.inc b.inc a.vals b.vals _ AI.out BI.out hn1 hn2).mono ?_
      rintro e w3 ⟨rfl, hb3⟩
      have bw := bthen BW.out hb3
      clear hb3
      go_wp2_with fail
      go_ret
      exact ⟨_, F.out, rfl, bw⟩
    · have F := Lib.hid (show EqS ⟨xs, p, i⟩ ⟨ys, q, j⟩ false from .inr ⟨fun h => hg h.2, rfl⟩)
      rcases HN2.out with ⟨h, _⟩ | ⟨_, rfl, rfl⟩
      · exact absurd (Cv.okB_iff.1 h) hg
      · clear hf hg hna oka HN1 HN2
        go_wp2_with fail
        go_ret
        exact ⟨_, F.out, rfl, BW.out⟩
  · have F := Lib.hid (show EqS ⟨xs, p, i⟩ ⟨ys, q, j⟩ false from .inr ⟨fun h => hf h.1, rfl⟩)
    rcases HN1.out with ⟨h, _⟩ | ⟨_, rfl, rfl⟩
    · exact absurd (Cv.okB_iff.1 h) hf
    · clear hf HN1 HN2
      go_wp2_with fail
      go_ret
      exact ⟨_, F.out, rfl, BW.out⟩
end Go.Proofs.Yteddogbhofhlaaa
