/- convolution.Of: what it returns. -/
import Derived.Test.YtbkimphcmmmaiaaCvOf
namespace Go.Proofs.Ytbkimphcmmmaiaa
open Go.RowKit
set_option linter.unusedVariables false

theorem CvS.of {f g a b : Cv} (hf : f.Ok) (hg : g.Ok) (ha : NF f.at a) (hb : NF g.at b) (hc : ordC a b ≤ 120) {r : Cv} {er : Int} (h : CvoS a b r er) : CvS f g r er := .inr ⟨hf, hg, a, b, ha, hb, .inr ⟨hc, h⟩⟩
set_option maxHeartbeats 4000000 in
set_option maxRecDepth 100000 in
theorem cvfn_any (A B : Option Addr) (n m c d : Nat) (p i q j : Int) (xs ys : List Int) (w : World) (hA : Ints w w.heap.size A n xs) (hB : Ints w w.heap.size B m ys) (hn : (n : Int) ≤ 1000000) (hm : (m : Int) ≤ 1000000) :
    Calls Try.prog 31 #[.agg #[.slice A n c, .int .i64 p, .int .i64 i], .agg #[.slice B m d, .int .i64 q, .int .i64 j]] w (RetSK (CvS ⟨xs, p, i⟩ ⟨ys, q, j⟩) w) := by
  have P := Lib.hid ((PS.new (c := c) (p := p) (i := i) (d := d) (q := q) (j := j) hA hB).alloc (.cells #[.slice none 0 0, .int .i64 0, .int .i64 0] 31))
  have rb := Blk.new ((w.alloc (.cells #[.slice A n c, .int .i64 p, .int .i64 i] 31)).alloc (.cells #[.slice B m d, .int .i64 q, .int .i64 j] 31)) 31 #[.slice none 0 0, .int .i64 0, .int .i64 0]
  rw [World.size_alloc, World.size_alloc] at rb
  have RB := Lib.hid rb
  clear hA hB rb
  go_enter Try.func31, Try.ntmps31
  obtain ⟨f0, f1, f2, g0, g1, g2, hlf, hlg⟩ := P.out.cells
  go_wp2_with fail
  refine (cvboth_any A B n m c d p i q j xs ys _ P.out.ia P.out.ib hn hm).mono ?_
  rintro e w1 (⟨er, hbad, rfl, hb⟩ | ⟨hfo, hgo, a, b, A1, n1, c1, B1, m1, d1, hna, hnb, hao, hbo, hcm, rfl, hI1, hI2, hA1, hB1, hb⟩)
  · have F := Lib.hid (show CvS ⟨xs, p, i⟩ ⟨ys, q, j⟩ Cv.none er from hbad.pair)
    have hne : (er != 0) = true := by simpa using hbad.ne
    have BW := Lib.hid (bthen P.out.bw hb)
    replace RB := Lib.hid (RB.out.below hb RB.out.lt)
    clear hbad hb P f0 f1 f2 g0 g1 g2 hlf hlg
    unfold zero7
    have hs0 : w.heap.size + 1 + 1 < w1.heap.size := RB.out.lt
    replace RB := Lib.hid (RB.out.alloc (.cells #[.slice none 0 0, .int .i64 0, .int .i64 0, .slice none 0 0, .int .i64 0, .int .i64 0, .int .i64 0] 114))
    replace BW := Lib.hid (bthen BW.out (balloc _ (.cells #[.slice none 0 0, .int .i64 0, .int .i64 0, .slice none 0 0, .int .i64 0, .int .i64 0, .int .i64 0] 114)))
    go_upto_region 2 with fail
    generalize hwe : w1.alloc (.cells #[.slice none 0 0, .int .i64 0, .int .i64 0, .slice none 0 0, .int .i64 0, .int .i64 0, .int .i64 0] 114) = w2 at *
    clear hwe
    obtain ⟨⟨r0, r1, r2⟩, ⟨y0, y1, y2⟩, hlr⟩ := RB.out.c3
    go_wp2_with fail
    have rb := RB.out.store3 (.slice none 0 0) (.int .i64 0) (.int .i64 0)
    exact bodyPost_ret (v := .tuple #[.agg #[.slice none 0 0, .int .i64 0, .int .i64 0], .int .i64 er]) (by simp [results, Try.results31, go_sem, rb.cell]) rfl
      ⟨Cv.none, er, F.out, none, 0, 0, Nat.le_refl 0, rfl, Ints.none_, (fun b off s h => by cases h), ((BW.out.setCell (by simp; omega) _).setCell (by simp; omega) _).setCell (by simp; omega) _⟩
  · have hsz := RB.out.lt
    replace RB := Lib.hid ((RB.out.below hb RB.out.lt).alloc (.cells (cpA A1 n1 c1 a B1 m1 d1 b (ordC a b : Nat)) 114))
    have BW := Lib.hid (bthen (bthen P.out.bw hb) (balloc _ (.cells (cpA A1 n1 c1 a B1 m1 d1 b (ordC a b : Nat)) 114)))
    have PB := Lib.hid (Blk.new w1 114 (cpA A1 n1 c1 a B1 m1 d1 b (ordC a b : Nat)))
    have I1 := Lib.hid (hI1.alloc' (.cells (cpA A1 n1 c1 a B1 m1 d1 b (ordC a b : Nat)) 114)); have I2 := Lib.hid (hI2.alloc' (.cells (cpA A1 n1 c1 a B1 m1 d1 b (ordC a b : Nat)) 114))
    have HFO := Lib.hid hfo; have HGO := Lib.hid hgo; have HNA := Lib.hid hna; have HNB := Lib.hid hnb; have HAO := Lib.hid hao; have HBO := Lib.hid hbo; have HCM := Lib.hid hcm
    clear hfo hgo hna hnb hao hbo hcm hI1 hI2 hA1 hB1 hb P f0 f1 f2 g0 g1 g2 hlf hlg
    unfold cpA at RB BW PB I1 I2 ⊢
    go_upto_region 2 with fail
    generalize hwe : w1.alloc (.cells #[.slice A1 n1 c1, .int .i64 a.per, .int .i64 a.inc, .slice B1 m1 d1, .int .i64 b.per, .int .i64 b.inc, .int .i64 (ordC a b : Nat)] 114) = w2 at *
    clear hwe
    generalize w1.heap.size = P1 at *
    have tb := cvof_any A1 B1 n1 m1 c1 d1 a b w2 I1.out I2.out HAO.out HBO.out HCM.out
    unfold cpA at tb
    have TB := Lib.hid tb
    clear tb
    obtain ⟨p0, p1, p2, p3⟩ : _ ∧ _ ∧ _ ∧ _ := ⟨PB.out.cell 0, PB.out.cell 1, PB.out.cell 2, PB.out.cell 3⟩
    obtain ⟨p4, p5, p6⟩ : _ ∧ _ ∧ _ := ⟨PB.out.cell 4, PB.out.cell 5, PB.out.cell 6⟩
    simp at p0 p1 p2 p3 p4 p5 p6
    have hlp := PB.out.lt
    go_wp2_with fail
    refine TB.out.mono ?_
    rintro e w5 ⟨f, er, hS, A5, n5, c5, hc5, rfl, hI5, hA5, hb⟩
    have F := Lib.hid (show CvS ⟨xs, p, i⟩ ⟨ys, q, j⟩ f er from CvS.of HFO.out HGO.out HNA.out HNB.out HCM.out hS)
    have hs1 := RB.out.lt
    replace RB := Lib.hid (RB.out.below hb RB.out.lt)
    replace BW := Lib.hid (bthen BW.out hb)
    have HI5 := Lib.hid hI5; have HA5 := Lib.hid hA5
    clear hI5 hA5 hb hS p0 p1 p2 p3 p4 p5 p6 hlp TB PB
    obtain ⟨⟨r0, r1, r2⟩, ⟨y0, y1, y2⟩, hlr⟩ := RB.out.c3
    go_wp2_with fail
    have rb := RB.out.store3 (.slice A5 n5 c5) (.int .i64 f.per) (.int .i64 f.inc)
    exact bodyPost_ret (v := .tuple #[.agg #[.slice A5 n5 c5, .int .i64 f.per, .int .i64 f.inc], .int .i64 er]) (by simp [results, Try.results31, go_sem, rb.cell]) rfl
      ⟨f, er, F.out, retK_store3' hc5 HA5.out (by omega) (by exact hs1) HI5.out BW.out⟩
end Go.Proofs.Ytbkimphcmmmaiaa
