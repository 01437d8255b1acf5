/- deconvolution.Of: what it returns. -/
import Derived.Test.YtbkimphcmmmaiaaDcOf
namespace Go.Proofs.Ytbkimphcmmmaiaa
open Go.RowKit
set_option linter.unusedVariables false

theorem nf_before {h : Nat → Int} {b : Cv} (H : NF h b) (hi : nth b.vals (b.vals.length - 1) = inf) : ∀ u, u < b.vals.length - b.per.toNat → b.at u ≠ inf := by
  rcases H with H | H
  · intro u _
    exfalso
    have h1 := H.p1; have h2 := H.pn
    have h3 := H.fin (b.vals.length - 1) (by omega)
    rw [← H.vals _ (by omega)] at h3
    exact h3 hi
  · intro u hu e
    have h1 := H.p1
    have h2 := H.before u (by omega)
    rw [← H.vals _ (by omega), ← Cv.at_lt (by omega)] at h2
    exact h2 e
set_option maxHeartbeats 4000000 in
set_option maxRecDepth 100000 in
theorem dcfn_any (A B : Option Addr) (n m c d : Nat) (p i q j : Int) (xs ys : List Int) (w : World) (hA : Ints w w.heap.size A n xs) (hB : Ints w w.heap.size B m ys) (hn : (n : Int) ≤ 1000000) (hm : (m : Int) ≤ 1000000) :
    Calls Try.prog 27 #[.agg #[.slice A n c, .int .i64 p, .int .i64 i], .agg #[.slice B m d, .int .i64 q, .int .i64 j]] w (RetSK (DcS ⟨xs, p, i⟩ ⟨ys, q, j⟩) w) := by
  have P := Lib.hid ((PS.new (c := c) (p := p) (i := i) (d := d) (q := q) (j := j) hA hB).alloc (.cells #[.slice none 0 0, .int .i64 0, .int .i64 0] 31))
  have rb := Blk.new ((w.alloc (.cells #[.slice A n c, .int .i64 p, .int .i64 i] 31)).alloc (.cells #[.slice B m d, .int .i64 q, .int .i64 j] 31)) 31 #[.slice none 0 0, .int .i64 0, .int .i64 0]
  rw [World.size_alloc, World.size_alloc] at rb
  have RB := Lib.hid rb
  clear hA hB rb
  go_enter Try.func27, Try.ntmps27
  obtain ⟨f0, f1, f2, g0, g1, g2, hlf, hlg⟩ := P.out.cells
  go_wp2_with fail
  refine (dcboth_any A B n m c d p i q j xs ys _ P.out.ia P.out.ib hn hm).mono ?_
  rintro e w1 (⟨er, hbad, rfl, hb⟩ | ⟨hfo, hgo, a, b, A1, n1, c1, B1, m1, d1, l, hna, hnb, hao, hbo, h0, hcm, hl, rfl, hI1, hI2, hA1, hB1, hb⟩)
  · have F := Lib.hid (show DcS ⟨xs, p, i⟩ ⟨ys, q, j⟩ Cv.none er from .inl ⟨hbad, rfl⟩)
    have hne : (er != 0) = true := by
      rcases hbad with ⟨_, rfl⟩ | ⟨_, _, _, rfl⟩ | ⟨_, _, _, rfl, _⟩ <;> rfl
    have BW := Lib.hid (bthen P.out.bw hb)
    replace RB := Lib.hid (RB.out.below hb RB.out.lt)
    clear hbad hb P f0 f1 f2 g0 g1 g2 hlf hlg
    unfold zero8
    have hs0 : w.heap.size + 1 + 1 < w1.heap.size := RB.out.lt
    replace RB := Lib.hid (RB.out.alloc (.cells #[.slice none 0 0, .int .i64 0, .int .i64 0, .slice none 0 0, .int .i64 0, .int .i64 0, .int .i64 0, .bool false] 101))
    replace BW := Lib.hid (bthen BW.out (balloc _ (.cells #[.slice none 0 0, .int .i64 0, .int .i64 0, .slice none 0 0, .int .i64 0, .int .i64 0, .int .i64 0, .bool false] 101)))
    go_upto_region 2 with fail
    generalize hwe : w1.alloc (.cells #[.slice none 0 0, .int .i64 0, .int .i64 0, .slice none 0 0, .int .i64 0, .int .i64 0, .int .i64 0, .bool false] 101) = w2 at *
    clear hwe
    obtain ⟨⟨r0, r1, r2⟩, ⟨y0, y1, y2⟩, hlr⟩ := RB.out.c3
    go_wp2_with fail
    have rb := RB.out.store3 (.slice none 0 0) (.int .i64 0) (.int .i64 0)
    exact bodyPost_ret (v := .tuple #[.agg #[.slice none 0 0, .int .i64 0, .int .i64 0], .int .i64 er]) (by simp [results, Try.results27, go_sem, rb.cell]) rfl
      ⟨Cv.none, er, F.out, none, 0, 0, Nat.le_refl 0, rfl, Ints.none_, (fun b off s h => by cases h), ((BW.out.setCell (by simp; omega) _).setCell (by simp; omega) _).setCell (by simp; omega) _⟩
  · have hsz := RB.out.lt
    replace RB := Lib.hid ((RB.out.below hb RB.out.lt).alloc (.cells (dpA A1 n1 c1 a B1 m1 d1 b (dcK a b : Nat) l) 101))
    have BW := Lib.hid (bthen (bthen P.out.bw hb) (balloc _ (.cells (dpA A1 n1 c1 a B1 m1 d1 b (dcK a b : Nat) l) 101)))
    have PB := Lib.hid (Blk.new w1 101 (dpA A1 n1 c1 a B1 m1 d1 b (dcK a b : Nat) l))
    have I1 := Lib.hid (hI1.alloc' (.cells (dpA A1 n1 c1 a B1 m1 d1 b (dcK a b : Nat) l) 101)); have I2 := Lib.hid (hI2.alloc' (.cells (dpA A1 n1 c1 a B1 m1 d1 b (dcK a b : Nat) l) 101))
    have HFO := Lib.hid hfo; have HGO := Lib.hid hgo; have HNA := Lib.hid hna; have HNB := Lib.hid hnb; have HAO := Lib.hid hao; have HBO := Lib.hid hbo; have H0 := Lib.hid h0; have HCM := Lib.hid hcm; have HL := Lib.hid hl
    clear hfo hgo hna hnb hao hbo h0 hcm hl hI1 hI2 hA1 hB1 hb P f0 f1 f2 g0 g1 g2 hlf hlg
    unfold dpA at RB BW PB I1 I2 ⊢
    go_upto_region 2 with fail
    generalize hwe : w1.alloc (.cells #[.slice A1 n1 c1, .int .i64 a.per, .int .i64 a.inc, .slice B1 m1 d1, .int .i64 b.per, .int .i64 b.inc, .int .i64 (dcK a b : Nat), .bool l] 101) = w2 at *
    clear hwe
    generalize w1.heap.size = P1 at *
    have tb := dcof_any A1 B1 n1 m1 c1 d1 a b l w2 I1.out I2.out HAO.out HBO.out H0.out HCM.out HL.out (nf_before HNB.out)
    unfold dpA at tb
    have TB := Lib.hid tb
    clear tb
    obtain ⟨p0, p1, p2, p3⟩ : _ ∧ _ ∧ _ ∧ _ := ⟨PB.out.cell 0, PB.out.cell 1, PB.out.cell 2, PB.out.cell 3⟩
    obtain ⟨p4, p5, p6, p7⟩ : _ ∧ _ ∧ _ ∧ _ := ⟨PB.out.cell 4, PB.out.cell 5, PB.out.cell 6, PB.out.cell 7⟩
    simp at p0 p1 p2 p3 p4 p5 p6 p7
    have hlp := PB.out.lt
    go_wp2_with fail
    refine TB.out.mono ?_
    rintro e w5 ⟨f, er, ⟨h, hh, hM⟩, A5, n5, c5, hc5, rfl, hI5, hA5, hb⟩
    have F := Lib.hid (show DcS ⟨xs, p, i⟩ ⟨ys, q, j⟩ f er from .inr ⟨HFO.out, HGO.out, by rw [← HNB.out.at]; exact H0.out, ⟨a, b, HNA.out, HNB.out, HCM.out⟩, h, hh.nf HFO.out HGO.out HNA.out HNB.out, hM⟩)
    have hs1 := RB.out.lt
    replace RB := Lib.hid (RB.out.below hb RB.out.lt)
    replace BW := Lib.hid (bthen BW.out hb)
    have HI5 := Lib.hid hI5; have HA5 := Lib.hid hA5
    clear hI5 hA5 hb hh hM p0 p1 p2 p3 p4 p5 p6 p7 hlp TB PB
    obtain ⟨⟨r0, r1, r2⟩, ⟨y0, y1, y2⟩, hlr⟩ := RB.out.c3
    go_wp2_with fail
    have rb := RB.out.store3 (.slice A5 n5 c5) (.int .i64 f.per) (.int .i64 f.inc)
    exact bodyPost_ret (v := .tuple #[.agg #[.slice A5 n5 c5, .int .i64 f.per, .int .i64 f.inc], .int .i64 er]) (by simp [results, Try.results27, go_sem, rb.cell]) rfl
      ⟨f, er, F.out, retK_store3' hc5 HA5.out (by omega) (by exact hs1) HI5.out BW.out⟩
end Go.Proofs.Ytbkimphcmmmaiaa
