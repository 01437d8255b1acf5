/- package pointwise: both, one, gain, and wave.Plus. -/
import Derived.Test.YthdibkmjoiipgaaPwKit
import Derived.Test.YthdibkmjoiipgaaBy
import Derived.Test.YthdibkmjoiipgaaMade
import Derived.Test.YthdibkmjoiipgaaSto
import Derived.Deep.RegionHeld3
import Derived.BigRegion
import Derived.BigQuiet
import Derived.Deep.QuietTactic
namespace Go.Proofs.Ythdibkmjoiipgaa
open Go.RowKit
set_option linter.unusedVariables false

theorem pgain_any (A : Option Addr) (n c : Nat) (p i t : Int) (w : World) (hp : 1 ≤ p) (hi : 0 ≤ i) (hi2 : i ≤ 1073741824) (ht : 0 ≤ t) (ht2 : t ≤ 1000000) :
    Calls Try.prog 159 #[.agg #[.slice A n c, .int .i64 p, .int .i64 i], .int .i64 t] w fun e w' => e = .returned (.int .i64 ((t.toNat / p.toNat : Nat) * i)) ∧ Below w.heap.size w w' := by
  obtain ⟨p, rfl⟩ := Int.eq_ofNat_of_zero_le (show 0 ≤ p by omega)
  obtain ⟨t, rfl⟩ := Int.eq_ofNat_of_zero_le ht
  simp only [Int.toNat_natCast]
  obtain ⟨u, hu⟩ : ∃ u, u = t / p := ⟨_, rfl⟩
  have hut : u ≤ t := by rw [hu]; exact Nat.div_le_self _ _
  have e1 : ((t : Int).tdiv (p : Int)) = (u : Int) := by rw [hu]; rfl
  have e1' : ((t : Int) / (p : Int)) = (u : Int) := by rw [hu]; rfl
  have hui : (u : Int) * i ≤ 1000000 * 1073741824 := Int.mul_le_mul (by omega) hi2 hi (by omega)
  have hui0 : 0 ≤ (u : Int) * i := Int.mul_nonneg (by omega) hi
  have e2 : IntKind.i64.wrap ((u : Int) * i) = (u : Int) * i := IntWalk.i64_in _ (by omega)
  have hpn : (p : Int) ≠ 0 := by omega
  have hpn2 : p ≠ 0 := by omega
  have q1 := (Blk.new w 46 #[.slice A n c, .int .i64 p, .int .i64 i]).cell 1
  have q2 := (Blk.new w 46 #[.slice A n c, .int .i64 p, .int .i64 i]).cell 2
  simp at q1 q2
  rw [← hu]
  have HU := Lib.hid hu
  clear hu
  go_enter Try.func159, Try.ntmps159
  go_wp2_with fail
  go_quiet (fail)
  go_wp2_with fail
  go_ret
  exact ⟨rfl, bdrewN (balloc w _)⟩

def RetPb (f g : Cv) (w : World) (e : Ending) (w' : World) : Prop :=
  (∃ er, PairBad f g er ∧ e = .returned (.tuple #[zc, zc, .int .i64 0, .int .i64 er]) ∧ Below w.heap.size w w') ∨
  (f.Ok ∧ g.Ok ∧ ∃ (a b : Cv) (A : Option Addr) (n c : Nat) (B : Option Addr) (m d : Nat), NF f.at a ∧ NF g.at b ∧ a.Ok ∧ b.Ok ∧ ordC a b ≤ 120 ∧
    e = .returned (.tuple #[.agg #[.slice A n c, .int .i64 a.per, .int .i64 a.inc], .agg #[.slice B m d, .int .i64 b.per, .int .i64 b.inc], .int .i64 (ordC a b : Nat), .int .i64 0]) ∧
    Ints w' w'.heap.size A n a.vals ∧ Ints w' w'.heap.size B m b.vals ∧ (∀ b off s, A = some ⟨b, off, s⟩ → w.heap.size ≤ b) ∧ (∀ b off s, B = some ⟨b, off, s⟩ → w.heap.size ≤ b) ∧ Below w.heap.size w w')

set_option maxHeartbeats 2000000 in
set_option maxRecDepth 100000 in
theorem pboth_any (A B : Option Addr) (n m c d : Nat) (p i q j : Int) (xs ys : List Int) (w : World) (hA : Ints w w.heap.size A n xs) (hB : Ints w w.heap.size B m ys) (hn : (n : Int) ≤ 1000000) (hm : (m : Int) ≤ 1000000) :
    Calls Try.prog 157 #[.agg #[.slice A n c, .int .i64 p, .int .i64 i], .agg #[.slice B m d, .int .i64 q, .int .i64 j]] w (RetPb ⟨xs, p, i⟩ ⟨ys, q, j⟩ w) := by
  have P := Lib.hid (((PT.new (c := c) (p := p) (i := i) (d := d) (q := q) (j := j) hA hB).alloc (.cells #[.slice none 0 0, .int .i64 0, .int .i64 0] 46)).alloc (.cells #[.slice none 0 0, .int .i64 0, .int .i64 0] 46))
  have ra := (Blk.new ((w.alloc (.cells #[.slice A n c, .int .i64 p, .int .i64 i] 46)).alloc (.cells #[.slice B m d, .int .i64 q, .int .i64 j] 46)) 46 #[.slice none 0 0, .int .i64 0, .int .i64 0]).alloc (.cells #[.slice none 0 0, .int .i64 0, .int .i64 0] 46)
  have rb := Blk.new (((w.alloc (.cells #[.slice A n c, .int .i64 p, .int .i64 i] 46)).alloc (.cells #[.slice B m d, .int .i64 q, .int .i64 j] 46)).alloc (.cells #[.slice none 0 0, .int .i64 0, .int .i64 0] 46)) 46 #[.slice none 0 0, .int .i64 0, .int .i64 0]
  rw [World.size_alloc, World.size_alloc] at ra
  rw [World.size_alloc, World.size_alloc, World.size_alloc] at rb
  have RA := Lib.hid ra; have RB := Lib.hid rb
  clear hA hB ra rb
  go_enter Try.func157, Try.ntmps157
  go_wp2_with fail
  refine (normal_any A n c p i xs _ P.out.ia hn).mono ?_
  rintro e w1 ⟨a, er, hN, A1, n1, c1, rfl, hI1, hA1, hb1⟩
  simp only [World.size_alloc] at hA1
  have HN := Lib.hid (NormR.of hN)
  have P := Lib.hid (P.out.below hb1)
  have RA := Lib.hid (RA.out.below hb1 RA.out.lt); have RB := Lib.hid (RB.out.below hb1 RB.out.lt)
  have HI1 := Lib.hid hI1; have HA1 := Lib.hid hA1
  clear hN hI1 hb1 hA1
  obtain ⟨⟨r0, r1, r2⟩, ⟨y0, y1, y2⟩, hlr⟩ := RA.out.c3
  obtain ⟨⟨s0, s1, s2⟩, ⟨z0, z1, z2⟩, hls⟩ := RB.out.c3
  obtain ⟨f0, f1, f2, g0, g1, g2, hlf, hlg⟩ := P.out.cells
  go_upto_region 2 with fail
  clear r0 r1 r2 y0 y1 y2 hlr s0 s1 s2 z0 z1 z2 hls
  clear f0 f1 f2 g0 g1 g2 hlf hlg
  have FA := Lib.hid (Bz.put (c := c1) RA.out HI1.out HA1.out (by omega))
  have st := Sto.three (w.heap.size + 1 + 1) w1 (.slice A1 n1 c1) (.int .i64 a.per) (.int .i64 a.inc)
  have P := Lib.hid (P.out.sto st (by omega)); have RB := Lib.hid (RB.out.sto st (by omega))
  clear st HI1 HA1 RA
  generalize hwe : ((w1.setCell ⟨w.heap.size + 1 + 1, 0, none⟩ (.slice A1 n1 c1)).setCell ⟨w.heap.size + 1 + 1, 1, none⟩ (.int .i64 a.per)).setCell ⟨w.heap.size + 1 + 1, 2, none⟩ (.int .i64 a.inc) = we at *
  clear hwe
  rcases HN.out with ⟨hfo, hnf, hao, rfl⟩ | ⟨hno, rfl, rfl⟩
  · have hap := hao.p1; have hap2 := hao.p2; have hai := hao.i1; have hai2 := hao.i2
    have HNF := Lib.hid hnf; have HFO := Lib.hid hfo; have HAO := Lib.hid hao
    clear hnf hfo hao HN
    obtain ⟨f0, f1, f2, g0, g1, g2, hlf, hlg⟩ := P.out.cells
    go_wp2_with fail
    refine (normal_any B m d q j ys _ P.out.ib hm).mono ?_
    rintro e w2 ⟨b, er, hN, A2, n2, c2, rfl, hI2, hA2, hb2⟩
    have hA2' : ∀ b off s, A2 = some ⟨b, off, s⟩ → w.heap.size + 1 + 1 + 1 + 1 ≤ b := fun b off s e => by have := hA2 b off s e; have := RB.out.lt; omega
    have HN := Lib.hid (NormR.of hN)
    have RB := Lib.hid (RB.out.below hb2 RB.out.lt)
    have FA := Lib.hid (FA.out.below hb2)
    have BW := Lib.hid (bthen P.out.bw hb2)
    have HI2 := Lib.hid hI2; have HA2 := Lib.hid hA2'
    clear hN hI2 hb2 hA2 hA2' P f0 f1 f2 g0 g1 g2 hlf hlg
    obtain ⟨⟨s0, s1, s2⟩, ⟨z0, z1, z2⟩, hls⟩ := RB.out.c3
    go_upto_region 5 with fail
    clear s0 s1 s2 z0 z1 z2 hls
    have FB := Lib.hid (Bz.put (c := c2) RB.out HI2.out HA2.out (by omega))
    have FA := Lib.hid (FA.out.sto (Sto.three (w.heap.size + 1 + 1 + 1) w2 (.slice A2 n2 c2) (.int .i64 b.per) (.int .i64 b.inc)) (by omega) (by omega))
    have BW := Lib.hid (bst3 (g := w.heap.size + 1 + 1 + 1) BW.out (by omega) (.slice A2 n2 c2) (.int .i64 b.per) (.int .i64 b.inc))
    clear HI2 HA2 RB
    generalize hwe : ((w2.setCell ⟨w.heap.size + 1 + 1 + 1, 0, none⟩ (.slice A2 n2 c2)).setCell ⟨w.heap.size + 1 + 1 + 1, 1, none⟩ (.int .i64 b.per)).setCell ⟨w.heap.size + 1 + 1 + 1, 2, none⟩ (.int .i64 b.inc) = wf at *
    clear hwe
    rcases HN.out with ⟨hgo, hnf, hbo, rfl⟩ | ⟨hno, rfl, rfl⟩
    · have hbp := hbo.p1; have hbp2 := hbo.p2; have hbi := hbo.i1; have hbi2 := hbo.i2
      have HNG := Lib.hid hnf; have HGO := Lib.hid hgo; have HBO := Lib.hid hbo
      clear hnf hgo hbo HN
      obtain ⟨a0, a1, a2, hla⟩ := FA.out.cells
      obtain ⟨b0, b1, b2, hlb⟩ := FB.out.cells
      go_wp2_with fail
      refine (common2_any a.per b.per _ (by omega) (by omega) (by omega) (by omega)).mono ?_
      obtain ⟨C, hC⟩ : ∃ C, C = comm a.per.toNat b.per.toNat := ⟨_, rfl⟩
      rw [← hC]
      rintro e w3 ⟨rfl, hbq⟩
      have HC := Lib.hid hC
      have FA := Lib.hid (FA.out.below hbq); have FB := Lib.hid (FB.out.below hbq); have BW := Lib.hid (bthen BW.out hbq)
      clear hbq hC a0 a1 a2 hla b0 b1 b2 hlb
      by_cases hcc : 120 < C
      · have F := Lib.hid (show PairBad ⟨xs, p, i⟩ ⟨ys, q, j⟩ 3 from .inr ⟨HFO.out, HGO.out, rfl, a, b, HNF.out, HNG.out, by rw [← HC.out]; exact hcc⟩)
        have hci : (120 : Int) < (C : Int) := by omega
        have RA := Lib.hid FA.out.blk; have RB := Lib.hid FB.out.blk
        clear hcc FA FB
        obtain ⟨⟨r0, r1, r2⟩, ⟨y0, y1, y2⟩, hlr⟩ := RA.out.c3
        obtain ⟨⟨s0, s1, s2⟩, ⟨z0, z1, z2⟩, hls⟩ := RB.out.c3
        go_wp2_with fail
        have ra := (RA.out.store3 (.slice none 0 0) (.int .i64 0) (.int .i64 0)).sto (Sto.three (w.heap.size + 1 + 1 + 1) _ (.slice none 0 0) (.int .i64 0) (.int .i64 0)) (by omega)
        have rb := (RB.out.sto (Sto.three (w.heap.size + 1 + 1) _ (.slice none 0 0) (.int .i64 0) (.int .i64 0)) (by omega)).store3 (.slice none 0 0) (.int .i64 0) (.int .i64 0)
        exact bodyPost_ret (v := .tuple #[zc, zc, .int .i64 0, .int .i64 3]) (by simp [results, Try.results157, go_sem, ra.cell, rb.cell, zc]) rfl (.inl ⟨_, F.out, rfl, bst3 (bst3 BW.out (by omega) _ _ _) (by omega) _ _ _⟩)
      · have hci : ¬ (120 : Int) < (C : Int) := by omega
        have RA := Lib.hid FA.out.blk; have RB := Lib.hid FB.out.blk
        have sa := (RA.out.store3 (.slice A1 n1 c1) (.int .i64 a.per) (.int .i64 a.inc)).c3.1
        have stA := Sto.three (w.heap.size + 1 + 1) w3 (.slice A1 n1 c1) (.int .i64 a.per) (.int .i64 a.inc)
        have rb := RB.out.sto stA (by omega)
        have sb := (rb.store3 (.slice A2 n2 c2) (.int .i64 b.per) (.int .i64 b.inc)).c3.1
        have hne1 : w.heap.size + 1 + 1 ≠ w.heap.size + 1 + 1 + 1 := by omega
        have hne2 : w.heap.size + 1 + 1 + 1 ≠ w.heap.size + 1 + 1 := by omega
        have fa := (FA.out.own (by omega)).sto (Sto.three (w.heap.size + 1 + 1 + 1) _ (.slice A2 n2 c2) (.int .i64 b.per) (.int .i64 b.inc)) (by omega) (by omega)
        have fb := (FB.out.sto stA (by omega) (by omega)).own (by omega)
        have bw := bst3 (bst3 (g := w.heap.size + 1 + 1) BW.out (by omega) (.slice A1 n1 c1) (.int .i64 a.per) (.int .i64 a.inc)) (g := w.heap.size + 1 + 1 + 1) (by omega) (.slice A2 n2 c2) (.int .i64 b.per) (.int .i64 b.inc)
        have SA := Lib.hid sa; have SB := Lib.hid sb; have FA := Lib.hid fa; have FB := Lib.hid fb; have BW := Lib.hid bw
        have F := Lib.hid (show ordC a b ≤ 120 ∧ C = ordC a b from ⟨by show comm _ _ ≤ 120; rw [← HC.out]; omega, HC.out⟩)
        clear hcc sa sb fa fb bw stA rb
        obtain ⟨⟨r0, r1, r2⟩, ⟨y0, y1, y2⟩, hlr⟩ := RA.out.c3
        obtain ⟨⟨s0, s1, s2⟩, ⟨z0, z1, z2⟩, hls⟩ := RB.out.c3
        go_upto_region 10 with fail
        go_region
        all_goals
          go_wp2_with fail
          exact bodyPost_ret (v := .tuple #[.agg #[.slice A1 n1 c1, .int .i64 a.per, .int .i64 a.inc], .agg #[.slice A2 n2 c2, .int .i64 b.per, .int .i64 b.inc], .int .i64 (C : Nat), .int .i64 0]) (by simp [results, Try.results157, go_sem, FA.out.blk.drew.cell, FB.out.blk.drew.cell]) rfl
            (.inr ⟨HFO.out, HGO.out, a, b, A1, n1, c1, A2, n2, c2, HNF.out, HNG.out, HAO.out, HBO.out, F.out.1, by rw [F.out.2], FA.out.drew.ints, FB.out.drew.ints, fun b' off s e => by have := FA.out.lo b' off s e; omega, fun b' off s e => by have := FB.out.lo b' off s e; omega, Below.drew BW.out⟩)
    · have F := Lib.hid (show PairBad ⟨xs, p, i⟩ ⟨ys, q, j⟩ 1 from .inl ⟨fun h => hno h.2, rfl⟩)
      have RA := Lib.hid FA.out.blk; have RB := Lib.hid FB.out.blk
      clear hno HN FA FB
      obtain ⟨⟨r0, r1, r2⟩, ⟨y0, y1, y2⟩, hlr⟩ := RA.out.c3
      obtain ⟨⟨s0, s1, s2⟩, ⟨z0, z1, z2⟩, hls⟩ := RB.out.c3
      go_wp2_with fail
      have ra := (RA.out.store3 (.slice none 0 0) (.int .i64 0) (.int .i64 0)).sto (Sto.three (w.heap.size + 1 + 1 + 1) _ (.slice none 0 0) (.int .i64 0) (.int .i64 0)) (by omega)
      have rb := (RB.out.sto (Sto.three (w.heap.size + 1 + 1) _ (.slice none 0 0) (.int .i64 0) (.int .i64 0)) (by omega)).store3 (.slice none 0 0) (.int .i64 0) (.int .i64 0)
      exact bodyPost_ret (v := .tuple #[zc, zc, .int .i64 0, .int .i64 1]) (by simp [results, Try.results157, go_sem, ra.cell, rb.cell, zc]) rfl (.inl ⟨_, F.out, rfl, bst3 (bst3 BW.out (by omega) _ _ _) (by omega) _ _ _⟩)
  · have F := Lib.hid (show PairBad ⟨xs, p, i⟩ ⟨ys, q, j⟩ 1 from .inl ⟨fun h => hno h.1, rfl⟩)
    have BW := Lib.hid P.out.bw
    have RA := Lib.hid FA.out.blk
    clear hno HN FA P
    obtain ⟨⟨r0, r1, r2⟩, ⟨y0, y1, y2⟩, hlr⟩ := RA.out.c3
    obtain ⟨⟨s0, s1, s2⟩, ⟨z0, z1, z2⟩, hls⟩ := RB.out.c3
    go_wp2_with fail
    have ra := (RA.out.store3 (.slice none 0 0) (.int .i64 0) (.int .i64 0)).sto (Sto.three (w.heap.size + 1 + 1 + 1) _ (.slice none 0 0) (.int .i64 0) (.int .i64 0)) (by omega)
    have rb := (RB.out.sto (Sto.three (w.heap.size + 1 + 1) _ (.slice none 0 0) (.int .i64 0) (.int .i64 0)) (by omega)).store3 (.slice none 0 0) (.int .i64 0) (.int .i64 0)
    exact bodyPost_ret (v := .tuple #[zc, zc, .int .i64 0, .int .i64 1]) (by simp [results, Try.results157, go_sem, ra.cell, rb.cell, zc]) rfl (.inl ⟨_, F.out, rfl, bst3 (bst3 BW.out (by omega) _ _ _) (by omega) _ _ _⟩)
end Go.Proofs.Ythdibkmjoiipgaa
