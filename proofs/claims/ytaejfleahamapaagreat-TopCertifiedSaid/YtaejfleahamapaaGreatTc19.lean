/- convolution.both: the pair of two curves in normal form. -/
import Derived.Deep.RegionHeld3
import Derived.Deep.DeepCutAuto
import Derived.WalkMore
import Derived.Deep.QuietTactic
import Derived.BigQuiet
import Derived.Test.YtaejfleahamapaaGreatTc12
import Derived.Test.YtaejfleahamapaaGreatTc18
import Derived.Test.YtaejfleahamapaaGreatTc17
import Derived.Test.YtaejfleahamapaaGreatTc8
import Derived.Test.YtaejfleahamapaaGreatTc5
import Derived.Test.YtaejfleahamapaaGreatTc2
namespace Go.Proofs.YtaejfleahamapaaGreat
open Go.RowKit
set_option linter.unusedVariables false

/-! ### one -/
def OneN (lo hi : Int) (f : Cv) (n : Int) (a : Cv) (er : Int) : Prop :=
  (¬ f.Ok ∧ a = Cv.none ∧ er = 1) ∨ (f.Ok ∧ (n < lo ∨ hi < n) ∧ a = Cv.none ∧ er = 2) ∨ (f.Ok ∧ lo ≤ n ∧ n ≤ hi ∧ NF f.at a ∧ a.Ok ∧ er = 0)
set_option maxHeartbeats 1000000 in
theorem one_any (A : Option Addr) (n c : Nat) (p i t lo hi : Int) (zs : List Int) (w : World) (hA : Ints w w.heap.size A n zs) (hn : (n : Int) ≤ 1000000) :
    Calls Tryz.prog 184 #[.agg #[.slice A n c, .int .i64 p, .int .i64 i], .int .i64 t, .int .i64 lo, .int .i64 hi] w (RetS (OneN lo hi ⟨zs, p, i⟩ t) w) := by
  have E := Lib.hid ((L1.new (c := c) (p := p) (i := i) hA).alloc (.cells #[.slice none 0 0, .int .i64 0, .int .i64 0] 26))
  have rb := Blk.new (w.alloc (.cells #[.slice A n c, .int .i64 p, .int .i64 i] 26)) 26 #[.slice none 0 0, .int .i64 0, .int .i64 0]
  rw [World.size_alloc] at rb
  have RB := Lib.hid rb
  clear hA rb
  go_enter Tryz.func184, Tryz.ntmps184
  go_wp2_with fail
  refine (normal_any A n c p i zs _ E.out.ints hn).mono ?_
  rintro e w1 ⟨a, er, hN, A1, n1, c1, rfl, hI1, hA1, hb⟩
  simp only [World.size_alloc] at hA1
  have HN := Lib.hid (NormR.of hN)
  have RB := Lib.hid (RB.out.below hb RB.out.lt)
  have BW := Lib.hid (bthen E.out.bw hb)
  have FA := Lib.hid (Bz.mk (L := w.heap.size + 1 + 1) (Blk.new w1 26 #[.slice A1 n1 c1, .int .i64 a.per, .int .i64 a.inc]) (hI1.alloc' _) hA1)
  have hs1 : w.heap.size + 1 < w1.heap.size := RB.out.lt
  have RB := Lib.hid (RB.out.alloc (.cells #[.slice A1 n1 c1, .int .i64 a.per, .int .i64 a.inc] 26))
  have BW := Lib.hid (bthen BW.out (balloc _ (.cells #[.slice A1 n1 c1, .int .i64 a.per, .int .i64 a.inc] 26)))
  clear hN hI1 hA1 hb E
  go_upto_region 2 with fail
  generalize hwz : w1.alloc (.cells #[.slice A1 n1 c1, .int .i64 a.per, .int .i64 a.inc] 26) = wz at *
  clear hwz
  generalize hW1 : w1.heap.size = F1 at *
  clear hW1
  obtain ⟨⟨r0, r1, r2⟩, ⟨y0, y1, y2⟩, hlr⟩ := RB.out.c3
  obtain ⟨a0, a1, a2, hla⟩ := FA.out.cells
  rcases HN.out with ⟨hfo, hnf, hao, rfl⟩ | ⟨hno, rfl, rfl⟩
  · by_cases hr : t < lo ∨ hi < t
    · have F := Lib.hid (show OneN lo hi ⟨zs, p, i⟩ t Cv.none 2 from .inr (.inl ⟨hfo, hr, rfl, rfl⟩))
      clear HN hfo hnf hao
      have hr2 : t < lo ∨ (¬ t < lo ∧ hi < t) := by omega
      clear hr
      rcases hr2 with hr | ⟨hr0, hr⟩
      all_goals
        go_wp2_with fail
        have rb := RB.out.store3 (.slice none 0 0) (.int .i64 0) (.int .i64 0)
        refine bodyPost_ret (v := .tuple #[.agg #[(.slice none 0 0), .int .i64 0, .int .i64 0], .int .i64 2]) (by simp [results, Tryz.results184, go_sem, rb.cell]) rfl ?_
        exact ⟨_, _, F.out, none, 0, 0, rfl, Ints.none_, (fun b off s h => by cases h), bst3 BW.out (by omega) _ _ _⟩
    · have F := Lib.hid (show OneN lo hi ⟨zs, p, i⟩ t a 0 from .inr (.inr ⟨hfo, by omega, by omega, hnf, hao, rfl⟩))
      have g1 : ¬ t < lo := by omega
      have g2 : ¬ hi < t := by omega
      clear HN hfo hnf hao hr
      go_wp2_with fail
      have rb := RB.out.store3 (.slice A1 n1 c1) (.int .i64 a.per) (.int .i64 a.inc)
      refine bodyPost_ret (v := .tuple #[.agg #[(.slice A1 n1 c1), .int .i64 a.per, .int .i64 a.inc], .int .i64 0]) (by simp [results, Tryz.results184, go_sem, rb.cell]) rfl ?_
      exact ⟨_, _, F.out, A1, n1, c1, rfl, FA.out.ints.sto (Sto.three (w.heap.size + 1) wz _ _ _) (fun b off o e => by have := FA.out.lo b off o e; omega), fun b off o e => by have := FA.out.lo b off o e; omega, bst3 BW.out (by omega) _ _ _⟩
  · have F := Lib.hid (show OneN lo hi ⟨zs, p, i⟩ t Cv.none 1 from .inl ⟨hno, rfl, rfl⟩)
    clear HN hno
    go_wp2_with fail
    have rb := RB.out.store3 (.slice none 0 0) (.int .i64 0) (.int .i64 0)
    refine bodyPost_ret (v := .tuple #[.agg #[(.slice none 0 0), .int .i64 0, .int .i64 0], .int .i64 1]) (by simp [results, Tryz.results184, go_sem, rb.cell]) rfl ?_
    exact ⟨_, _, F.out, none, 0, 0, rfl, Ints.none_, (fun b off s h => by cases h), bst3 BW.out (by omega) _ _ _⟩

end Go.Proofs.YtaejfleahamapaaGreat

namespace Go.Proofs.YtaejfleahamapaaGreat
open Go.RowKit
set_option linter.unusedVariables false

set_option maxHeartbeats 1000000 in
theorem psum1_any (L F G : Nat) (A : Option Addr) (n c : Nat) (a : Cv) (B : Option Addr) (m d : Nat) (b : Cv) (t : Nat) (w : World) (hF : Bz L w F A n c a) (hG : Bz L w G B m d b) (ha : a.Ok) (hb : b.Ok) (ht : t ≤ 1000000) :
    Calls Tryz.prog 141 (#[.int .i64 t] ++ #[.pointer (some ⟨F, 0, none⟩), .pointer (some ⟨G, 0, none⟩)]) w fun e w' => e = .returned (.int .i64 (sumV a b t)) ∧ Below w.heap.size w w' := by
  have FA := Lib.hid hF; have FB := Lib.hid hG
  have hl1 : a.vals.length = n := hF.ints.1
  have hl2 : b.vals.length = m := hG.ints.1
  have ha1 := ha.n1; have ha2 := ha.n2; have hap := ha.p1; have hap2 := ha.p2; have hai := ha.i1; have hai2 := ha.i2; have hapn := ha.pn
  rw [hl1] at ha1 ha2 hapn
  have hb1 := hb.n1; have hb2 := hb.n2; have hbp := hb.p1; have hbp2 := hb.p2; have hbi := hb.i1; have hbi2 := hb.i2; have hbpn := hb.pn
  rw [hl2] at hb1 hb2 hbpn
  have HA := Lib.hid ha; have HB := Lib.hid hb
  have hx := at_near ha (t := t) (by omega); have hy := at_near hb (t := t) (by omega)
  have HPL := Lib.hid (sumV_pl ha hb (t := t) (by omega))
  obtain ⟨x, hx'⟩ : ∃ x, x = a.at t := ⟨_, rfl⟩
  obtain ⟨y, hy'⟩ : ∃ y, y = b.at t := ⟨_, rfl⟩
  have HX := Lib.hid hx'; have HY := Lib.hid hy'
  rw [← hx'] at hx; rw [← hy'] at hy
  have HXB := Lib.hid hx; have HYB := Lib.hid hy
  have BW := Lib.hid (Below.refl w.heap.size w)
  clear hF hG hl1 hl2 ha hb hx hy hx' hy'
  rw [HPL.out, ← HX.out, ← HY.out]
  clear HPL
  show Calls _ _ #[.int .i64 t, .pointer (some ⟨F, 0, none⟩), .pointer (some ⟨G, 0, none⟩)] _ _
  go_enter Tryz.func141, Tryz.ntmps141
  obtain ⟨a0, a1, a2, hla⟩ := FA.out.cells
  obtain ⟨b0, b1, b2, hlb⟩ := FB.out.cells
  go_upto_region 1 with fail
  go_region_held3 (fun w' => w'.cell? ⟨F, 0, none⟩ = some (.slice A n c) ∧ w'.cell? ⟨F, 1, none⟩ = some (.int .i64 a.per) ∧ w'.cell? ⟨F, 2, none⟩ = some (.int .i64 a.inc) ∧ w'.cell? ⟨G, 0, none⟩ = some (.slice B m d) ∧ w'.cell? ⟨G, 1, none⟩ = some (.int .i64 b.per) ∧ w'.cell? ⟨G, 2, none⟩ = some (.int .i64 b.inc)) (first | go_keep)
    (first
      | (go_at_call_of 43 (Value.agg #[.slice A n c, .int .i64 a.per, .int .i64 a.inc])
         refine (at_any A n c a.per a.inc t a.vals _ (by exact FA.out.drew.ints) (by omega) hap hapn hai (by omega) HA.out.nn (by omega) (by omega)).mono ?_
         rw [Int.toNat_natCast, show Cv.at ⟨a.vals, a.per, a.inc⟩ t = x from HX.out.symm]
         rintro e w1 ⟨rfl, hbq⟩
         have hbq := bofdrew hbq
         have FA := Lib.hid (FA.out.below hbq); have FB := Lib.hid (FB.out.below hbq); have BW := Lib.hid (bthen BW.out hbq)
         clear hbq
         clear a0 a1 a2 hla b0 b1 b2 hlb
         obtain ⟨a0, a1, a2, hla⟩ := FA.out.cells
         obtain ⟨b0, b1, b2, hlb⟩ := FB.out.cells
         skip)
      | (go_at_call_of 43 (Value.agg #[.slice B m d, .int .i64 b.per, .int .i64 b.inc])
         refine (at_any B m d b.per b.inc t b.vals _ (by exact FB.out.drew.ints) (by omega) hbp hbpn hbi (by omega) HB.out.nn (by omega) (by omega)).mono ?_
         rw [Int.toNat_natCast, show Cv.at ⟨b.vals, b.per, b.inc⟩ t = y from HY.out.symm]
         rintro e w1 ⟨rfl, hbq⟩
         have FA := Lib.hid (FA.out.below hbq); have FB := Lib.hid (FB.out.below hbq); have BW := Lib.hid (bthen BW.out hbq)
         clear hbq
         clear a0 a1 a2 hla b0 b1 b2 hlb
         obtain ⟨a0, a1, a2, hla⟩ := FA.out.cells
         obtain ⟨b0, b1, b2, hlb⟩ := FB.out.cells
         skip)
      | (go_at_call 44
         refine (plus_any x y _ HXB.out.1 HXB.out.2 HYB.out.1 HYB.out.2).mono ?_
         rintro e w1 ⟨rfl, rfl⟩
         skip))
  all_goals
    have bw := BW.out
    go_wp2_with fail
    go_ret
    exact ⟨rfl, bw⟩

set_option maxHeartbeats 2000000 in
set_option maxRecDepth 100000 in
theorem psum_any (A0 B0 : Option Addr) (n0 m0 c0 d0 : Nat) (p i q j : Int) (xs ys : List Int) (w : World) (hA : Ints w w.heap.size A0 n0 xs) (hB : Ints w w.heap.size B0 m0 ys) (hn : (n0 : Int) ≤ 1000000) (hm : (m0 : Int) ≤ 1000000) :
    Calls Tryz.prog 129 #[.agg #[.slice A0 n0 c0, .int .i64 p, .int .i64 i], .agg #[.slice B0 m0 d0, .int .i64 q, .int .i64 j]] w (RetS (SumS ⟨xs, p, i⟩ ⟨ys, q, j⟩) w) := by
  have P := Lib.hid ((PT.new (c := c0) (p := p) (i := i) (d := d0) (q := q) (j := j) hA hB).alloc (.cells #[.slice none 0 0, .int .i64 0, .int .i64 0] 26))
  have rb := Blk.new ((w.alloc (.cells #[.slice A0 n0 c0, .int .i64 p, .int .i64 i] 26)).alloc (.cells #[.slice B0 m0 d0, .int .i64 q, .int .i64 j] 26)) 26 #[.slice none 0 0, .int .i64 0, .int .i64 0]
  rw [World.size_alloc, World.size_alloc] at rb
  have RB := Lib.hid rb
  clear hA hB rb
  go_enter Tryz.func129, Tryz.ntmps129
  go_wp2_with fail
  refine (pboth_any A0 B0 n0 m0 c0 d0 p i q j xs ys _ P.out.ia P.out.ib hn hm).mono ?_
  rintro e w1 hret
  have hs0 := RB.out.lt
  rcases hret with ⟨er, hbad, rfl, hb⟩ | ⟨hf, hg, a, b, A, n, c, B, m, d, hna, hnb, hao, hbo, hc, rfl, hI1, hI2, hA1, hA2, hb⟩
  · have hne := hbad.ne
    have F := Lib.hid (show SumS ⟨xs, p, i⟩ ⟨ys, q, j⟩ Cv.none er from hbad.to)
    have RB := Lib.hid (((RB.out.below hb RB.out.lt).alloc (.cells #[.slice none 0 0, .int .i64 0, .int .i64 0] 26)).alloc (.cells #[.slice none 0 0, .int .i64 0, .int .i64 0] 26))
    have bw := bthen (bthen (bthen P.out.bw hb) (balloc _ (.cells #[.slice none 0 0, .int .i64 0, .int .i64 0] 26))) (balloc _ (.cells #[.slice none 0 0, .int .i64 0, .int .i64 0] 26))
    clear hbad hb P
    unfold zc
    go_upto_region 2 with fail
    obtain ⟨⟨r0, r1, r2⟩, ⟨y0, y1, y2⟩, hlr⟩ := RB.out.c3
    go_wp2_with fail
    have rb := RB.out.store3 (.slice none 0 0) (.int .i64 0) (.int .i64 0)
    refine bodyPost_ret (v := .tuple #[.agg #[(.slice none 0 0), .int .i64 0, .int .i64 0], .int .i64 er]) (by simp [results, Tryz.results129, go_sem, rb.cell]) rfl ?_
    exact retS_none F.out (bst3 bw (by omega) _ _ _)
  · have F1 := Lib.hid (Bz.mk (L := w.heap.size + 1 + 1 + 1) (c := c) (f := a) (Blk.new w1 26 #[.slice A n c, .int .i64 a.per, .int .i64 a.inc]) (hI1.alloc' _) (fun b off s e => by have := hA1 b off s e; simp at this; omega))
    have F2 := Lib.hid (Bz.mk (L := w.heap.size + 1 + 1 + 1) (c := d) (f := b) (Blk.new (w1.alloc (.cells #[.slice A n c, .int .i64 a.per, .int .i64 a.inc] 26)) 26 #[.slice B m d, .int .i64 b.per, .int .i64 b.inc]) ((hI2.alloc' _).alloc' _) (fun b off s e => by have := hA2 b off s e; simp at this; omega))
    have RB := Lib.hid (((RB.out.below hb RB.out.lt).alloc (.cells #[.slice A n c, .int .i64 a.per, .int .i64 a.inc] 26)).alloc (.cells #[.slice B m d, .int .i64 b.per, .int .i64 b.inc] 26))
    have BW := Lib.hid (bthen (bthen (bthen P.out.bw hb) (balloc _ (.cells #[.slice A n c, .int .i64 a.per, .int .i64 a.inc] 26))) (balloc _ (.cells #[.slice B m d, .int .i64 b.per, .int .i64 b.inc] 26)))
    have hl1 : a.vals.length = n := hI1.1
    have hl2 : b.vals.length = m := hI2.1
    have ob := ord_b hao hbo
    have hbq := hb.size
    simp only [World.size_alloc] at hbq
    have FB := Lib.hid F2.out
    have FA := Lib.hid (F1.out.alloc (.cells #[.slice B m d, .int .i64 b.per, .int .i64 b.inc] 26))
    rw [World.size_alloc] at FB
    clear F1 F2 hb P hI1 hI2 hA1 hA2
    go_upto_region 4 with fail
    generalize hwz : (w1.alloc (.cells #[.slice A n c, .int .i64 a.per, .int .i64 a.inc] 26)).alloc (.cells #[.slice B m d, .int .i64 b.per, .int .i64 b.inc] 26) = wz at *
    clear hwz
    obtain ⟨F, hFe⟩ : ∃ F, F = w1.heap.size := ⟨_, rfl⟩
    obtain ⟨G, hGe⟩ : ∃ G, G = F + 1 := ⟨_, rfl⟩
    rw [← hFe, ← hGe] at FB
    rw [← hFe] at FA
    rw [← hFe, ← hGe]
    have hne1 : w.heap.size + 1 + 1 ≠ F := by omega
    have hne2 : w.heap.size + 1 + 1 ≠ G := by omega
    clear hFe hGe hbq hs0
    have ha1 := hao.n1; have ha2 := hao.n2; have hap := hao.p1; have hap2 := hao.p2; have hai := hao.i1; have hai2 := hao.i2; have hapn := hao.pn
    rw [hl1] at ha1 ha2 hapn
    have hb1 := hbo.n1; have hb2 := hbo.n2; have hbp := hbo.p1; have hbp2 := hbo.p2; have hbi := hbo.i1; have hbi2 := hbo.i2; have hbpn := hbo.pn
    rw [hl2] at hb1 hb2 hbpn
    obtain ⟨C, hC⟩ : ∃ C, C = ordC a b := ⟨_, rfl⟩
    obtain ⟨S, hS⟩ : ∃ S, S = ordF a b := ⟨_, rfl⟩
    obtain ⟨GA, hGA⟩ : ∃ GA : Int, GA = gnA a b := ⟨_, rfl⟩
    obtain ⟨GB, hGB⟩ : ∃ GB : Int, GB = gnB a b := ⟨_, rfl⟩
    obtain ⟨I, hI⟩ : ∃ I : Int, I = GA + GB := ⟨_, rfl⟩
    have hmx : (if (n : Int) - a.per < (m : Int) - b.per then (m : Int) - b.per else (n : Int) - a.per) = (S : Int) := by
      rw [hS]; unfold ordF; rw [hl1, hl2]; split <;> omega
    have hSb : (S : Int) ≤ 400 := by rw [hS]; unfold ordF; rw [hl1, hl2]; omega
    have hCb : (C : Int) ≤ 120 := by rw [hC]; omega
    have hC1 : 1 ≤ C := by rw [hC]; exact ob.c1
    have hga := ob.a1; have hgb := ob.a2
    have eGA : ((((C : Nat) : Int).toNat / a.per.toNat : Nat) : Int) * a.inc = GA := by rw [hGA, hC, Int.toNat_natCast]; rfl
    have eGB : ((((C : Nat) : Int).toNat / b.per.toNat : Nat) : Int) * b.inc = GB := by rw [hGB, hC, Int.toNat_natCast]; rfl
    have hI0 : 0 ≤ I ∧ I ≤ 257698037760 := by
      rw [hI, hGA, hGB]; unfold gnA gnB; omega
    have e1 : IntKind.i64.wrap (GA + GB) = I := by rw [← hI]; exact IntWalk.i64_in _ (by omega)
    obtain ⟨hI0, hI1⟩ := hI0
    rw [← hC]
    have FIN := Lib.hid (show ∀ r er, BuildS (sumV a b) S C I r er → SumS ⟨xs, p, i⟩ ⟨ys, q, j⟩ r er from fun r er h => .inr ⟨hf, hg, a, b, hna, hnb, .inr ⟨hc, build_made hC1 (fun t u ht htu hi => sumV_inf (sumV_later hao hbo (by omega) hi htu)) (fun hne => by
      have h1 := (sum_per hao hbo (s := S) (c := C) (by rw [hS]; exact ob.fs) (by rw [hS]; exact ob.gs) hC hne).2.2
      have h2 : I = (C / a.per.toNat : Nat) * a.inc + (C / b.per.toNat : Nat) * b.inc := by rw [hI, hGA, hGB, hC]; rfl
      rw [h2]; exact h1) h⟩⟩)
    have HVAL := Lib.hid (show ∀ k : Nat, (k : Int) < (S : Int) + (C : Int) → 0 ≤ sumV a b k ∧ sumV a b k ≤ 4611686018427387904 from fun k hk => sumV_small hao hbo (by omega))
    have HA := Lib.hid hao; have HB := Lib.hid hbo
    clear hf hg hna hnb hao hbo hc hl1 hl2 ob hC hS hGA hGB hI hga hgb
    obtain ⟨⟨r0, r1, r2⟩, ⟨y0, y1, y2⟩, hlr⟩ := RB.out.c3
    obtain ⟨a0, a1, a2, hla⟩ := FA.out.cells
    obtain ⟨b0, b1, b2, hlb⟩ := FB.out.cells
    go_upto_region 5 with fail
    go_region_held3 (fun w' => w'.cell? ⟨F, 0, none⟩ = some (.slice A n c) ∧ w'.cell? ⟨F, 1, none⟩ = some (.int .i64 a.per) ∧ w'.cell? ⟨F, 2, none⟩ = some (.int .i64 a.inc) ∧ w'.cell? ⟨G, 0, none⟩ = some (.slice B m d) ∧ w'.cell? ⟨G, 1, none⟩ = some (.int .i64 b.per) ∧ w'.cell? ⟨G, 2, none⟩ = some (.int .i64 b.inc)) (first | go_keep | exact ⟨(cell_set3 hne1).trans a0, (cell_set3 hne1).trans a1, (cell_set3 hne1).trans a2, (cell_set3 hne2).trans b0, (cell_set3 hne2).trans b1, (cell_set3 hne2).trans b2⟩)
      (first
        | (go_at_call_of 92 (Value.agg #[.slice A n c, .int .i64 a.per, .int .i64 a.inc])
           refine (start_any A n c a.per a.inc _ (by omega) (by omega) (by omega)).mono ?_
           rintro e w4 ⟨rfl, hbq⟩
           have FA := Lib.hid FA.out.drew; have FB := Lib.hid FB.out.drew; have BW := Lib.hid (Below.drew BW.out); have RB := Lib.hid (Blk.drew RB.out)
           have FA := Lib.hid (FA.out.below hbq); have FB := Lib.hid (FB.out.below hbq); have BW := Lib.hid (bthen BW.out hbq); have RB := Lib.hid (RB.out.below hbq RB.out.lt)
           clear hbq
           clear a0 a1 a2 hla b0 b1 b2 hlb
           obtain ⟨a0, a1, a2, hla⟩ := FA.out.cells
           obtain ⟨b0, b1, b2, hlb⟩ := FB.out.cells
           skip)
        | (go_at_call_of 92 (Value.agg #[.slice B m d, .int .i64 b.per, .int .i64 b.inc])
           refine (start_any B m d b.per b.inc _ (by omega) (by omega) (by omega)).mono ?_
           rintro e w4 ⟨rfl, hbq⟩
           have FA := Lib.hid (FA.out.below hbq); have FB := Lib.hid (FB.out.below hbq); have BW := Lib.hid (bthen BW.out hbq); have RB := Lib.hid (RB.out.below hbq RB.out.lt)
           clear hbq
           clear a0 a1 a2 hla b0 b1 b2 hlb
           obtain ⟨a0, a1, a2, hla⟩ := FA.out.cells
           obtain ⟨b0, b1, b2, hlb⟩ := FB.out.cells
           skip)
        | (go_at_call_of 142 (Value.agg #[.slice A n c, .int .i64 a.per, .int .i64 a.inc])
           refine (pgain_any A n c a.per a.inc (C : Int) _ (by omega) (by omega) (by omega) (by omega) (by omega)).mono ?_
           rw [eGA]
           rintro e w4 ⟨rfl, hbq⟩
           have FA := Lib.hid (FA.out.below hbq); have FB := Lib.hid (FB.out.below hbq); have BW := Lib.hid (bthen BW.out hbq); have RB := Lib.hid (RB.out.below hbq RB.out.lt)
           clear hbq
           clear a0 a1 a2 hla b0 b1 b2 hlb
           obtain ⟨a0, a1, a2, hla⟩ := FA.out.cells
           obtain ⟨b0, b1, b2, hlb⟩ := FB.out.cells
           skip)
        | (go_at_call_of 142 (Value.agg #[.slice B m d, .int .i64 b.per, .int .i64 b.inc])
           refine (pgain_any B m d b.per b.inc (C : Int) _ (by omega) (by omega) (by omega) (by omega) (by omega)).mono ?_
           rw [eGB]
           rintro e w4 ⟨rfl, hbq⟩
           have FA := Lib.hid (FA.out.below hbq); have FB := Lib.hid (FB.out.below hbq); have BW := Lib.hid (bthen BW.out hbq); have RB := Lib.hid (RB.out.below hbq RB.out.lt)
           clear hbq
           clear a0 a1 a2 hla b0 b1 b2 hlb
           obtain ⟨a0, a1, a2, hla⟩ := FA.out.cells
           obtain ⟨b0, b1, b2, hlb⟩ := FB.out.cells
           skip)
        | (go_at_call 64
           refine (build_any 141 #[.pointer (some ⟨F, 0, none⟩), .pointer (some ⟨G, 0, none⟩)] S C I (sumV a b) _ (by omega) (by omega) (by omega) (by omega) (by omega) (by omega) HVAL.out (by exact fun t w1 ht hb => psum1_any _ F G A n c a B m d b t w1 (FA.out.below hb) (FB.out.below hb) HA.out HB.out (by omega)) (fun x w => by kernel_rfl)).mono ?_
           rintro e w5 ⟨r, er, hS, A5, n5, c5, rfl, hI5, hA5, hbq⟩
           rw [Int.toNat_natCast, Int.toNat_natCast] at hS
           have FN := Lib.hid (FIN.out _ _ hS)
           have hs0 := RB.out.lt
           have HI5 := Lib.hid hI5; have HA5 := Lib.hid hA5
           clear hS hI5 hA5
           clear r0 r1 r2 y0 y1 y2 hlr
           have FA := Lib.hid (FA.out.below hbq); have FB := Lib.hid (FB.out.below hbq); have BW := Lib.hid (bthen BW.out hbq); have RB := Lib.hid (RB.out.below hbq RB.out.lt)
           clear hbq
           clear a0 a1 a2 hla b0 b1 b2 hlb
           obtain ⟨a0, a1, a2, hla⟩ := FA.out.cells
           obtain ⟨b0, b1, b2, hlb⟩ := FB.out.cells
           obtain ⟨⟨r0, r1, r2⟩, ⟨y0, y1, y2⟩, hlr⟩ := RB.out.c3
           skip))
    all_goals
      go_wp2_with fail
      have rb := RB.out.store3 (.slice A5 n5 c5) (.int .i64 r.per) (.int .i64 r.inc)
      refine bodyPost_ret (v := .tuple #[.agg #[(.slice A5 n5 c5), .int .i64 r.per, .int .i64 r.inc], .int .i64 er]) (by simp [results, Tryz.results129, go_sem, rb.cell]) rfl ?_
      exact retS_store FN.out HA5.out (by omega) hs0 HI5.out BW.out
end Go.Proofs.YtaejfleahamapaaGreat

namespace Go.Proofs.YtaejfleahamapaaGreat
open Go.RowKit
set_option linter.unusedVariables false

set_option maxHeartbeats 1000000 in
theorem raise1_any (L F D : Nat) (A : Option Addr) (n c : Nat) (a : Cv) (d : Int) (t : Nat) (w : World) (hF : Bz L w F A n c a) (hD : Blk w D 3 #[.int .i64 d]) (ha : a.Ok) (hd0 : 0 ≤ d) (hd : d ≤ 1073741824) (ht : t ≤ 1000000) :
    Calls Tryz.prog 185 (#[.int .i64 t] ++ #[.pointer (some ⟨F, 0, none⟩), .pointer (some ⟨D, 0, none⟩)]) w fun e w' => e = .returned (.int .i64 (raiseV a d t)) ∧ Below w.heap.size w w' := by
  have FA := Lib.hid hF; have DB := Lib.hid hD
  have hl1 : a.vals.length = n := hF.ints.1
  have ha1 := ha.n1; have ha2 := ha.n2; have hap := ha.p1; have hap2 := ha.p2; have hai := ha.i1; have hai2 := ha.i2; have hapn := ha.pn
  rw [hl1] at ha1 ha2 hapn
  have HA := Lib.hid ha
  have BW := Lib.hid (Below.refl w.heap.size w)
  show Calls _ _ #[.int .i64 t, .pointer (some ⟨F, 0, none⟩), .pointer (some ⟨D, 0, none⟩)] _ _
  rcases Nat.eq_zero_or_pos t with ht0 | ht0
  · subst ht0
    rw [raiseV_zero]
    clear hF hD hl1 ha
    go_enter Tryz.func185, Tryz.ntmps185
    have bw := BW.out
    go_wp2_with fail
    go_ret
    exact ⟨rfl, bw⟩
  · have hx := at_near ha (t := t) (by omega)
    rw [raise_pl ha hd ht0 (by omega)]
    obtain ⟨x, hx'⟩ : ∃ x, x = a.at t := ⟨_, rfl⟩
    have HX := Lib.hid hx'
    rw [← hx'] at hx ⊢
    have HXB := Lib.hid hx
    have hti : 0 < (t : Int) := by omega
    have d1 : ((t : Int) == 0) = false := by simp only [beq_eq_false_iff_ne]; omega
    clear hF hD hl1 ha hx hx'
    go_enter Tryz.func185, Tryz.ntmps185
    obtain ⟨a0, a1, a2, hla⟩ := FA.out.cells
    have z0 := DB.out.cell 0
    simp at z0
    have hlz := DB.out.lt
    go_upto_region 3 with fail
    go_region_held3 (fun w' => w'.cell? ⟨F, 0, none⟩ = some (.slice A n c) ∧ w'.cell? ⟨F, 1, none⟩ = some (.int .i64 a.per) ∧ w'.cell? ⟨F, 2, none⟩ = some (.int .i64 a.inc) ∧ w'.cell? ⟨D, 0, none⟩ = some (.int .i64 d)) (first | go_keep)
      (first
        | (go_at_call 43
           refine (at_any A n c a.per a.inc t a.vals _ (by exact FA.out.drew.ints) (by omega) hap hapn hai (by omega) HA.out.nn (by omega) (by omega)).mono ?_
           rw [Int.toNat_natCast, show Cv.at ⟨a.vals, a.per, a.inc⟩ t = x from HX.out.symm]
           rintro e w1 ⟨rfl, hbq⟩
           have hbq := bofdrew hbq
           have FA := Lib.hid (FA.out.below hbq); have DB := Lib.hid (DB.out.below hbq DB.out.lt); have BW := Lib.hid (bthen BW.out hbq)
           clear hbq
           clear a0 a1 a2 hla z0 hlz
           obtain ⟨a0, a1, a2, hla⟩ := FA.out.cells
           have z0 := DB.out.cell 0
           simp at z0
           have hlz := DB.out.lt
           skip)
        | (go_at_call 44
           refine (plus_any x d _ HXB.out.1 HXB.out.2 hd0 (.inr (by omega))).mono ?_
           rintro e w1 ⟨rfl, rfl⟩
           skip))
    all_goals
      have bw := BW.out
      go_wp2_with fail
      go_ret
      exact ⟨rfl, bw⟩

set_option maxHeartbeats 2000000 in
set_option maxRecDepth 100000 in
theorem praise_any (A0 : Option Addr) (n0 c0 : Nat) (p i d : Int) (xs : List Int) (w : World) (hA : Ints w w.heap.size A0 n0 xs) (hn : (n0 : Int) ≤ 1000000) : Calls Tryz.prog 180 #[.agg #[.slice A0 n0 c0, .int .i64 p, .int .i64 i], .int .i64 d] w (RetS (RaiseS ⟨xs, p, i⟩ d) w) := by
  have E := Lib.hid (((L1.new (c := c0) (p := p) (i := i) hA).alloc (.cells #[.int .i64 d] 3)).alloc (.cells #[.slice none 0 0, .int .i64 0, .int .i64 0] 26))
  have db := (Blk.new (w.alloc (.cells #[.slice A0 n0 c0, .int .i64 p, .int .i64 i] 26)) 3 #[.int .i64 d]).alloc (.cells #[.slice none 0 0, .int .i64 0, .int .i64 0] 26)
  have rb := Blk.new ((w.alloc (.cells #[.slice A0 n0 c0, .int .i64 p, .int .i64 i] 26)).alloc (.cells #[.int .i64 d] 3)) 26 #[.slice none 0 0, .int .i64 0, .int .i64 0]
  rw [World.size_alloc] at db
  rw [World.size_alloc, World.size_alloc] at rb
  have DB := Lib.hid db; have RB := Lib.hid rb
  clear hA db rb
  go_enter Tryz.func180, Tryz.ntmps180
  go_wp2_with fail
  refine (one_any A0 n0 c0 p i d 0 1073741824 xs _ E.out.ints hn).mono ?_
  rintro e w1 ⟨a, er, hN, A, n, c, rfl, hI1, hA1, hb⟩
  simp only [World.size_alloc] at hA1
  have hs0 := (RB.out.below hb RB.out.lt).lt
  have FA := Lib.hid (Bz.mk (L := w.heap.size + 1 + 1 + 1) (c := c) (f := a) (Blk.new w1 26 #[.slice A n c, .int .i64 a.per, .int .i64 a.inc]) (hI1.alloc' _) hA1)
  replace DB := Lib.hid ((DB.out.below hb DB.out.lt).alloc (.cells #[.slice A n c, .int .i64 a.per, .int .i64 a.inc] 26))
  replace RB := Lib.hid ((RB.out.below hb RB.out.lt).alloc (.cells #[.slice A n c, .int .i64 a.per, .int .i64 a.inc] 26))
  have BW := Lib.hid (bthen (bthen E.out.bw hb) (balloc _ (.cells #[.slice A n c, .int .i64 a.per, .int .i64 a.inc] 26)))
  have hl1 : a.vals.length = n := hI1.1
  clear hI1 hA1 hb E
  go_upto_region 2 with fail
  generalize hwz : w1.alloc (.cells #[.slice A n c, .int .i64 a.per, .int .i64 a.inc] 26) = wz at *
  clear hwz
  generalize hFe : w1.heap.size = F at *
  have hne1 : w.heap.size + 1 + 1 ≠ F := by omega
  have hne2 : w.heap.size + 1 + 1 ≠ w.heap.size + 1 := by omega
  clear hFe
  obtain ⟨⟨r0, r1, r2⟩, ⟨y0, y1, y2⟩, hlr⟩ := RB.out.c3
  have hN2 : (er ≠ 0 ∧ a = Cv.none ∧ RaiseS ⟨xs, p, i⟩ d Cv.none er) ∨ (Cv.Ok ⟨xs, p, i⟩ ∧ 0 ≤ d ∧ d ≤ 1073741824 ∧ NF (Cv.at ⟨xs, p, i⟩) a ∧ a.Ok ∧ er = 0) := by
    rcases hN with ⟨h1, h2, rfl⟩ | ⟨h1, h2, h3, rfl⟩ | h1
    · exact .inl ⟨by decide, h2, .inl ⟨h1, rfl, rfl⟩⟩
    · exact .inl ⟨by decide, h3, .inr (.inl ⟨h1, h2, rfl, rfl⟩)⟩
    · exact .inr h1
  clear hN
  rcases hN2 with ⟨hne, _, hS⟩ | ⟨hf, hd0, hd1, hna, hao, rfl⟩
  rotate_left 1
  rotate_left 1
  · have F9 := Lib.hid hS
    have hne' : (er != 0) = true := by simpa using hne
    clear hS hne
    go_wp2_with fail
    have rb := RB.out.store3 (.slice none 0 0) (.int .i64 0) (.int .i64 0)
    refine bodyPost_ret (v := .tuple #[.agg #[(.slice none 0 0), .int .i64 0, .int .i64 0], .int .i64 er]) (by simp [results, Tryz.results180, go_sem, rb.cell]) rfl ?_
    exact retS_none F9.out (bst3 BW.out (by omega) _ _ _)
  · have ha1 := hao.n1; have ha2 := hao.n2; have hap := hao.p1; have hap2 := hao.p2; have hai := hao.i1; have hai2 := hao.i2; have hapn := hao.pn
    rw [hl1] at ha1 ha2 hapn
    obtain ⟨S, hS⟩ : ∃ S, S = max 1 (a.vals.length - a.per.toNat) := ⟨_, rfl⟩
    have hmx : (if (1 : Int) < (n : Int) - a.per then (n : Int) - a.per else 1) = (S : Int) := by
      rw [hS, hl1]; split <;> omega
    have hSb : 1 ≤ S ∧ S ≤ 400 := by rw [hS, hl1]; omega
    obtain ⟨hS1, hS2⟩ := hSb
    have FIN := Lib.hid (show ∀ r er, BuildS (raiseV a d) ((S : Int)).toNat a.per.toNat a.inc r er → RaiseS ⟨xs, p, i⟩ d r er from fun r er h => .inr (.inr ⟨hf, hd0, hd1, a, hna, raise_build hao hd0 hd1 (s := S) hS1 (by rw [hS]; omega) (by omega) h⟩))
    have HVAL := Lib.hid (show ∀ k : Nat, (k : Int) < (S : Int) + a.per → 0 ≤ raiseV a d k ∧ raiseV a d k ≤ 4611686018427387904 from fun k hk => raise_small hao hd0 hd1 (by omega))
    have HA := Lib.hid hao
    clear hf hna hao hl1 hS
    obtain ⟨a0, a1, a2, hla⟩ := FA.out.cells
    have z0 := DB.out.cell 0
    simp at z0
    have hlz := DB.out.lt
    go_upto_region 5 with fail
    go_region_held3 (fun w' => w'.cell? ⟨F, 0, none⟩ = some (.slice A n c) ∧ w'.cell? ⟨F, 1, none⟩ = some (.int .i64 a.per) ∧ w'.cell? ⟨F, 2, none⟩ = some (.int .i64 a.inc) ∧ w'.cell? ⟨w.heap.size + 1, 0, none⟩ = some (.int .i64 d)) (first | go_keep | exact ⟨(cell_set3 hne1).trans a0, (cell_set3 hne1).trans a1, (cell_set3 hne1).trans a2, (cell_set3 hne2).trans z0⟩)
      (first
        | (go_at_call 92
           refine (start_any A n c a.per a.inc _ (by omega) (by omega) (by omega)).mono ?_
           rintro e w4 ⟨rfl, hbq⟩
           have FA := Lib.hid FA.out.drew; have DB := Lib.hid (Blk.drew DB.out); have BW := Lib.hid (Below.drew BW.out); have RB := Lib.hid (Blk.drew RB.out)
           have FA := Lib.hid (FA.out.below hbq); have DB := Lib.hid (DB.out.below hbq DB.out.lt); have BW := Lib.hid (bthen BW.out hbq); have RB := Lib.hid (RB.out.below hbq RB.out.lt)
           clear hbq
           clear a0 a1 a2 hla z0 hlz
           obtain ⟨a0, a1, a2, hla⟩ := FA.out.cells
           have z0 := DB.out.cell 0
           simp at z0
           have hlz := DB.out.lt
           skip)
        | (go_at_call 64
           refine (build_any 185 #[.pointer (some ⟨F, 0, none⟩), .pointer (some ⟨w.heap.size + 1, 0, none⟩)] S a.per a.inc (raiseV a d) _ (by omega) (by omega) (by omega) (by omega) (by omega) (by omega) HVAL.out (by exact fun t w1 ht hb => raise1_any _ F _ A n c a d t w1 (FA.out.below hb) (DB.out.below hb DB.out.lt) HA.out hd0 hd1 (by omega)) (fun x w => by kernel_rfl)).mono ?_
           rintro e w5 ⟨r, er, hS, A5, n5, c5, rfl, hI5, hA5, hbq⟩
           have FN := Lib.hid (FIN.out _ _ hS)
           have hs0 := RB.out.lt
           have HI5 := Lib.hid hI5; have HA5 := Lib.hid hA5
           clear hS hI5 hA5
           clear r0 r1 r2 y0 y1 y2 hlr
           have FA := Lib.hid (FA.out.below hbq); have DB := Lib.hid (DB.out.below hbq DB.out.lt); have BW := Lib.hid (bthen BW.out hbq); have RB := Lib.hid (RB.out.below hbq RB.out.lt)
           clear hbq
           clear a0 a1 a2 hla z0 hlz
           obtain ⟨a0, a1, a2, hla⟩ := FA.out.cells
           have z0 := DB.out.cell 0
           simp at z0
           have hlz := DB.out.lt
           obtain ⟨⟨r0, r1, r2⟩, ⟨y0, y1, y2⟩, hlr⟩ := RB.out.c3
           skip)
      )
    all_goals
      go_wp2_with fail
      have rb := RB.out.store3 (.slice A5 n5 c5) (.int .i64 r.per) (.int .i64 r.inc)
      refine bodyPost_ret (v := .tuple #[.agg #[(.slice A5 n5 c5), .int .i64 r.per, .int .i64 r.inc], .int .i64 er]) (by simp [results, Tryz.results180, go_sem, rb.cell]) rfl ?_
      exact retS_store FN.out HA5.out (by omega) hs0 HI5.out BW.out
end Go.Proofs.YtaejfleahamapaaGreat

namespace Go.Proofs.YtaejfleahamapaaGreat
open Go.RowKit
set_option linter.unusedVariables false

def zero7 : Array Value := #[.slice none 0 0, .int .i64 0, .int .i64 0, .slice none 0 0, .int .i64 0, .int .i64 0, .int .i64 0]
def cpA (A : Option Addr) (n c : Nat) (f : Cv) (B : Option Addr) (m d : Nat) (g : Cv) (K : Int) : Array Value :=
  #[.slice A n c, .int .i64 f.per, .int .i64 f.inc, .slice B m d, .int .i64 g.per, .int .i64 g.inc, .int .i64 K]
def CvBad (f g : Cv) (er : Int) : Prop := (¬ (f.Ok ∧ g.Ok) ∧ er = 1) ∨ (f.Ok ∧ g.Ok ∧ er = 3 ∧ ∃ a b, NF f.at a ∧ NF g.at b ∧ 120 < comm a.per.toNat b.per.toNat)
theorem CvBad.pair {S : Cv → Cv → Cv → Int → Prop} {f g : Cv} {er : Int} (h : CvBad f g er) : PairS S f g Cv.none er := by
  rcases h with ⟨h, rfl⟩ | ⟨hf, hg, rfl, a, b, ha, hb, hk⟩
  · exact .inl ⟨h, rfl, rfl⟩
  · exact .inr ⟨hf, hg, a, b, ha, hb, .inl ⟨hk, rfl, rfl⟩⟩
theorem CvBad.ne {f g : Cv} {er : Int} (h : CvBad f g er) : er ≠ 0 := by
  rcases h with ⟨_, rfl⟩ | ⟨_, _, rfl, _⟩ <;> decide
def RetCb (f g : Cv) (w : World) (e : Ending) (w' : World) : Prop :=
  (∃ er, CvBad f g er ∧ e = .returned (.tuple #[.agg zero7, .int .i64 er]) ∧ Below w.heap.size w w') ∨
  (f.Ok ∧ g.Ok ∧ ∃ (a b : Cv) (A : Option Addr) (n c : Nat) (B : Option Addr) (m d : Nat), NF f.at a ∧ NF g.at b ∧ a.Ok ∧ b.Ok ∧ ordC a b ≤ 120 ∧
    e = .returned (.tuple #[.agg (cpA A n c a B m d b (ordC a b : Nat)), .int .i64 0]) ∧ Ints w' w'.heap.size A n a.vals ∧ Ints w' w'.heap.size B m b.vals ∧ (∀ b off s, A = some ⟨b, off, s⟩ → w.heap.size ≤ b) ∧ (∀ b off s, B = some ⟨b, off, s⟩ → w.heap.size ≤ b) ∧ Below w.heap.size w w')
set_option maxHeartbeats 4000000 in
set_option maxRecDepth 100000 in
theorem cvboth_any (A B : Option Addr) (n m c d : Nat) (p i q j : Int) (xs ys : List Int) (w : World) (hA : Ints w w.heap.size A n xs) (hB : Ints w w.heap.size B m ys) (hn : (n : Int) ≤ 1000000) (hm : (m : Int) ≤ 1000000) :
    Calls Tryz.prog 39 #[.agg #[.slice A n c, .int .i64 p, .int .i64 i], .agg #[.slice B m d, .int .i64 q, .int .i64 j]] w (RetCb ⟨xs, p, i⟩ ⟨ys, q, j⟩ w) := by
  have P := Lib.hid ((PS.new (c := c) (p := p) (i := i) (d := d) (q := q) (j := j) hA hB).alloc (.cells #[.slice none 0 0, .int .i64 0, .int .i64 0, .slice none 0 0, .int .i64 0, .int .i64 0, .int .i64 0] 91))
  have rb := Blk.new ((w.alloc (.cells #[.slice A n c, .int .i64 p, .int .i64 i] 26)).alloc (.cells #[.slice B m d, .int .i64 q, .int .i64 j] 26)) 91 #[.slice none 0 0, .int .i64 0, .int .i64 0, .slice none 0 0, .int .i64 0, .int .i64 0, .int .i64 0]
  rw [World.size_alloc, World.size_alloc] at rb
  have RB := Lib.hid rb
  clear hA hB rb
  go_enter Tryz.func39, Tryz.ntmps39
  obtain ⟨f0, f1, f2, g0, g1, g2, hlf, hlg⟩ := P.out.cells
  go_wp2_with fail
  refine (normal_any A n c p i xs _ P.out.ia hn).mono ?_
  rintro e w1 ⟨a, er, hN, A1, n1, c1, rfl, hI1, hA1, hb1⟩
  simp only [World.size_alloc] at hA1
  have HN := Lib.hid (NormR.of hN)
  have P := Lib.hid (P.out.below hb1)
  have RB := Lib.hid (RB.out.below hb1 RB.out.lt)
  have HI1 := Lib.hid hI1
  have hs1 := RB.out.lt
  clear hN hI1 hb1 f0 f1 f2 g0 g1 g2 hlf hlg
  rcases HN.out with ⟨hfo, hnf, hao, rfl⟩ | ⟨hno, rfl, rfl⟩
  · have ha1 := hao.n1; have ha2 := hao.n2; have hap := hao.p1; have hap2 := hao.p2; have hai := hao.i1; have hai2 := hao.i2; have hapn := hao.pn
    have hl1 : a.vals.length = n1 := HI1.out.1
    rw [hl1] at ha1 ha2 hapn
    have FA := Lib.hid (Bx.new (c := c1) (f := a) HI1.out hA1 (Nat.le_refl _) (by omega) (by omega))
    have P := Lib.hid (P.out.alloc (.cells #[.slice A1 n1 c1, .int .i64 a.per, .int .i64 a.inc] 26))
    have RB := Lib.hid (RB.out.alloc (.cells #[.slice A1 n1 c1, .int .i64 a.per, .int .i64 a.inc] 26))
    have HNF := Lib.hid hnf; have HFO := Lib.hid hfo; have HAO := Lib.hid hao; have HL1 := Lib.hid hl1
    clear hnf hfo hao HI1 hA1 HN hl1
    obtain ⟨f0, f1, f2, g0, g1, g2, hlf, hlg⟩ := P.out.cells
    go_wp2_with fail
    refine (normal_any B m d q j ys _ P.out.ib hm).mono ?_
    rintro e w2 ⟨b, er, hN, A2, n2, c2, rfl, hI2, hA2, hb2⟩
    simp only [World.size_alloc] at hA2
    have HN := Lib.hid (NormR.of hN)
    have RB := Lib.hid (RB.out.below hb2 RB.out.lt)
    have FA := Lib.hid (FA.out.below hb2)
    have BW := Lib.hid (bthen P.out.bw hb2)
    have HI2 := Lib.hid hI2
    have hs2 := RB.out.lt
    have hs3 := FA.out.lt
    clear hN hI2 hb2 P f0 f1 f2 g0 g1 g2 hlf hlg
    rcases HN.out with ⟨hgo, hnf, hbo, rfl⟩ | ⟨hno, rfl, rfl⟩
    · have hb1 := hbo.n1; have hb2 := hbo.n2; have hbp := hbo.p1; have hbp2 := hbo.p2; have hbi := hbo.i1; have hbi2 := hbo.i2; have hbpn := hbo.pn
      have hl2 : b.vals.length = n2 := HI2.out.1
      rw [hl2] at hb1 hb2 hbpn
      have FB := Lib.hid (Bx.new (L := w.heap.size + 1 + 1 + 1) (c := c2) (f := b) HI2.out hA2 (by omega) (by omega) (by omega))
      have FA := Lib.hid (FA.out.alloc (.cells #[.slice A2 n2 c2, .int .i64 b.per, .int .i64 b.inc] 26))
      have RB := Lib.hid (RB.out.alloc (.cells #[.slice A2 n2 c2, .int .i64 b.per, .int .i64 b.inc] 26))
      have BW := Lib.hid (bthen BW.out (balloc _ (.cells #[.slice A2 n2 c2, .int .i64 b.per, .int .i64 b.inc] 26)))
      have HNG := Lib.hid hnf; have HGO := Lib.hid hgo; have HBO := Lib.hid hbo; have HL2 := Lib.hid hl2
      clear hnf hgo hbo HI2 hA2 HN hl2
      obtain ⟨C, hC⟩ : ∃ C, C = comm a.per.toNat b.per.toNat := ⟨_, rfl⟩
      have HC := Lib.hid hC
      clear hC
      go_upto_region 7 with fail
      generalize hwe : w2.alloc (.cells #[.slice A2 n2 c2, .int .i64 b.per, .int .i64 b.inc] 26) = w3 at *
      clear hwe
      go_cut [9] (fun s9 wx => ∃ P : Nat, s9 = .pointer (some ⟨P, 0, none⟩) ∧ w2.heap.size < P ∧ Blk wx P 91 #[.slice A1 n1 c1, .int .i64 a.per, .int .i64 a.inc, .slice A2 n2 c2, .int .i64 b.per, .int .i64 b.inc, .int .i64 C] ∧ Bx (w.heap.size + 1 + 1 + 1) wx w1.heap.size A1 n1 c1 a ∧ Bx (w.heap.size + 1 + 1 + 1) wx w2.heap.size A2 n2 c2 b ∧ Blk wx (w.heap.size + 1 + 1) 91 #[.slice none 0 0, .int .i64 0, .int .i64 0, .slice none 0 0, .int .i64 0, .int .i64 0, .int .i64 0] ∧ Below w.heap.size w wx)
      case first =>
        have FA := Lib.hid FA.out.drew; have FB := Lib.hid FB.out.drew; have RB := Lib.hid (Blk.drew RB.out); have BW := Lib.hid (Below.drew BW.out)
        obtain ⟨a0, a1, a2, hla⟩ := FA.out.cells
        obtain ⟨b0, b1, b2, hlb⟩ := FB.out.cells
        refine wp_region_held_drew (S := (fun w' => w'.cell? ⟨w1.heap.size, 0, none⟩ = some (.slice A1 n1 c1) ∧ w'.cell? ⟨w1.heap.size, 1, none⟩ = some (.int .i64 a.per) ∧ w'.cell? ⟨w1.heap.size, 2, none⟩ = some (.int .i64 a.inc) ∧ w'.cell? ⟨w2.heap.size, 0, none⟩ = some (.slice A2 n2 c2) ∧ w'.cell? ⟨w2.heap.size, 1, none⟩ = some (.int .i64 b.per) ∧ w'.cell? ⟨w2.heap.size, 2, none⟩ = some (.int .i64 b.inc))) (by kernel_rfl) ⟨a0, a1, a2, b0, b1, b2⟩ (fun hHeld => ?_)
        generalize hwd : w3.drew = wd at *
        clear hwd
        refine tkS (i := 0) (v := ?_) ?_ ?_
        rotate_left 1
        · (intro w hSw; (try dsimp only at hSw); go_simp; try with_reducible rfl)
        all_goals ((try simp only [Act.put]); try simp only [g8b, g8c, g8d])
        refine tkS (i := 1) (v := ?_) ?_ ?_
        rotate_left 1
        · (intro w hSw; (try dsimp only at hSw); go_simp; try with_reducible rfl)
        all_goals ((try simp only [Act.put]); try simp only [g8b, g8c, g8d])
        refine tkS (i := 2) (v := ?_) ?_ ?_
        rotate_left 1
        · (intro w hSw; (try dsimp only at hSw); go_simp; try with_reducible rfl)
        all_goals ((try simp only [Act.put]); try simp only [g8b, g8c, g8d])
        refine tkS (i := 3) (v := ?_) ?_ ?_
        rotate_left 1
        · (intro w hSw; (try dsimp only at hSw); go_simp; try with_reducible rfl)
        all_goals ((try simp only [Act.put]); try simp only [g8b, g8c, g8d])
        refine tkS (i := 4) (v := ?_) ?_ ?_
        rotate_left 1
        · (intro w hSw; (try dsimp only at hSw); go_simp; try with_reducible rfl)
        all_goals ((try simp only [Act.put]); try simp only [g8b, g8c, g8d])
        refine tkS (i := 5) (v := ?_) ?_ ?_
        rotate_left 1
        · (intro w hSw; (try dsimp only at hSw); go_simp; try with_reducible rfl)
        all_goals ((try simp only [Act.put]); try simp only [g8b, g8c, g8d])
        refine wpAnyH_ready (rs := [6, 8]) (by kernel_rfl) (by simp) ?_
        refine (AllReadyH.cons (by simp only [g8a, g8s, g8z]; rfl) (fun K hK => ?_) (AllReadyH.cons (by simp only [g8a, g8s, g8z]; rfl) (fun K hK => ?_) AllReadyH.nil))
        · rw [if_pos (by rfl)]
          go_simp
          refine (common2_any a.per b.per _ (by omega) (by omega) (by omega) (by omega)).mono ?_
          rw [← HC.out]
          rintro e wa ⟨rfl, hbq⟩
          have FA := Lib.hid (FA.out.below hbq); have FB := Lib.hid (FB.out.below hbq); have RB := Lib.hid (RB.out.below hbq RB.out.lt); have BW := Lib.hid (bthen BW.out hbq)
          try (have ZB := Lib.hid (ZB.out.below hbq ZB.out.lt))
          clear hbq hHeld
          clear a0 a1 a2 hla b0 b1 b2 hlb
          obtain ⟨a0, a1, a2, hla⟩ := FA.out.cells
          obtain ⟨b0, b1, b2, hlb⟩ := FB.out.cells
          refine hK.out _ _ (by exact ⟨a0, a1, a2, b0, b1, b2⟩) (fun hHeld => ?_)
          clear hK K
          (try simp only [Act.put]); (try simp only [g8b]); (try simp only [g8c]); (try simp only [g8d])
          refine tkS (i := 7) (v := ?_) ?_ ?_
          rotate_left 1
          · (intro w hSw; (try dsimp only at hSw); go_simp; try with_reducible rfl)
          all_goals ((try simp only [Act.put]); try simp only [g8b, g8c, g8d])
          refine wpAnyH_ready (rs := [8]) (by kernel_rfl) (by simp) ?_
          refine (AllReadyH.cons (by simp only [g8a, g8s, g8z]; rfl) (fun K hK => ?_) AllReadyH.nil)
          rw [if_pos (by rfl)]
          go_simp
          have hbq := balloc wa (.cells #[.slice none 0 0, .int .i64 0, .int .i64 0, .slice none 0 0, .int .i64 0, .int .i64 0, .int .i64 0] 91)
          have zb := Blk.new wa 91 #[.slice none 0 0, .int .i64 0, .int .i64 0, .slice none 0 0, .int .i64 0, .int .i64 0, .int .i64 0]
          have hP := FB.out.lt
          have ZB := Lib.hid zb
          clear zb
          generalize hwa : wa.alloc (.cells #[.slice none 0 0, .int .i64 0, .int .i64 0, .slice none 0 0, .int .i64 0, .int .i64 0, .int .i64 0] 91) = wb at *
          clear hwa
          have FA := Lib.hid (FA.out.below hbq); have FB := Lib.hid (FB.out.below hbq); have RB := Lib.hid (RB.out.below hbq RB.out.lt); have BW := Lib.hid (bthen BW.out hbq)
          clear hbq hHeld
          clear a0 a1 a2 hla b0 b1 b2 hlb
          obtain ⟨a0, a1, a2, hla⟩ := FA.out.cells
          obtain ⟨b0, b1, b2, hlb⟩ := FB.out.cells
          refine hK.out _ _ (by exact ⟨a0, a1, a2, b0, b1, b2⟩) (fun hHeld => ?_)
          clear hK K
          (try simp only [Act.put]); (try simp only [g8b]); (try simp only [g8c]); (try simp only [g8d])
          refine wpAnyH_ready (rs := [9]) (by kernel_rfl) (by simp) ?_
          refine (AllReadyH.cons (by simp only [g8a, g8s, g8z]; rfl) (fun K hK => ?_) AllReadyH.nil)
          refine step_storeN rfl 91 _ _ rfl rfl ZB.out rfl rfl (by kernel_rfl) (by simp [Value.oneCell']) ?_
          intro wz hsto rz
          have FA := Lib.hid (FA.out.sto hsto (.inl (by omega))); have FB := Lib.hid (FB.out.sto hsto (.inl (by omega))); have RB := Lib.hid (RB.out.sto hsto (by omega)); have BW := Lib.hid (bsto BW.out hsto (by omega))
          clear a0 a1 a2 hla b0 b1 b2 hlb
          obtain ⟨a0, a1, a2, hla⟩ := FA.out.cells
          obtain ⟨b0, b1, b2, hlb⟩ := FB.out.cells
          refine hK.out _ _ (by exact ⟨a0, a1, a2, b0, b1, b2⟩) (fun hHeld => ?_)
          clear hK K
          (try simp only [Act.put]); (try simp only [g8b]); (try simp only [g8c]); (try simp only [g8d])
          refine wpAnyH_done (by kernel_rfl) ?_ _
          go_wp2_with fail
          go_meet
          exact ⟨_, rfl, hP, rz, FA.out, FB.out, RB.out, BW.out⟩
        · rw [if_pos (by rfl)]
          go_simp
          have hbq := balloc wd (.cells #[.slice none 0 0, .int .i64 0, .int .i64 0, .slice none 0 0, .int .i64 0, .int .i64 0, .int .i64 0] 91)
          have zb := Blk.new wd 91 #[.slice none 0 0, .int .i64 0, .int .i64 0, .slice none 0 0, .int .i64 0, .int .i64 0, .int .i64 0]
          have hP := FB.out.lt
          have ZB := Lib.hid zb
          clear zb
          generalize hwa : wd.alloc (.cells #[.slice none 0 0, .int .i64 0, .int .i64 0, .slice none 0 0, .int .i64 0, .int .i64 0, .int .i64 0] 91) = wa at *
          clear hwa
          have FA := Lib.hid (FA.out.below hbq); have FB := Lib.hid (FB.out.below hbq); have RB := Lib.hid (RB.out.below hbq RB.out.lt); have BW := Lib.hid (bthen BW.out hbq)
          clear hbq hHeld
          clear a0 a1 a2 hla b0 b1 b2 hlb
          obtain ⟨a0, a1, a2, hla⟩ := FA.out.cells
          obtain ⟨b0, b1, b2, hlb⟩ := FB.out.cells
          refine hK.out _ _ (by exact ⟨a0, a1, a2, b0, b1, b2⟩) (fun hHeld => ?_)
          clear hK K
          (try simp only [Act.put]); (try simp only [g8b]); (try simp only [g8c]); (try simp only [g8d])
          refine wpAnyH_ready (rs := [6]) (by kernel_rfl) (by simp) ?_
          refine (AllReadyH.cons (by simp only [g8a, g8s, g8z]; rfl) (fun K hK => ?_) AllReadyH.nil)
          rw [if_pos (by rfl)]
          go_simp
          refine (common2_any a.per b.per _ (by omega) (by omega) (by omega) (by omega)).mono ?_
          rw [← HC.out]
          rintro e wb ⟨rfl, hbq⟩
          have FA := Lib.hid (FA.out.below hbq); have FB := Lib.hid (FB.out.below hbq); have RB := Lib.hid (RB.out.below hbq RB.out.lt); have BW := Lib.hid (bthen BW.out hbq)
          try (have ZB := Lib.hid (ZB.out.below hbq ZB.out.lt))
          clear hbq hHeld
          clear a0 a1 a2 hla b0 b1 b2 hlb
          obtain ⟨a0, a1, a2, hla⟩ := FA.out.cells
          obtain ⟨b0, b1, b2, hlb⟩ := FB.out.cells
          refine hK.out _ _ (by exact ⟨a0, a1, a2, b0, b1, b2⟩) (fun hHeld => ?_)
          clear hK K
          (try simp only [Act.put]); (try simp only [g8b]); (try simp only [g8c]); (try simp only [g8d])
          refine tkS (i := 7) (v := ?_) ?_ ?_
          rotate_left 1
          · (intro w hSw; (try dsimp only at hSw); go_simp; try with_reducible rfl)
          all_goals ((try simp only [Act.put]); try simp only [g8b, g8c, g8d])
          refine wpAnyH_ready (rs := [9]) (by kernel_rfl) (by simp) ?_
          refine (AllReadyH.cons (by simp only [g8a, g8s, g8z]; rfl) (fun K hK => ?_) AllReadyH.nil)
          refine step_storeN rfl 91 _ _ rfl rfl ZB.out rfl rfl (by kernel_rfl) (by simp [Value.oneCell']) ?_
          intro wz hsto rz
          have FA := Lib.hid (FA.out.sto hsto (.inl (by omega))); have FB := Lib.hid (FB.out.sto hsto (.inl (by omega))); have RB := Lib.hid (RB.out.sto hsto (by omega)); have BW := Lib.hid (bsto BW.out hsto (by omega))
          clear a0 a1 a2 hla b0 b1 b2 hlb
          obtain ⟨a0, a1, a2, hla⟩ := FA.out.cells
          obtain ⟨b0, b1, b2, hlb⟩ := FB.out.cells
          refine hK.out _ _ (by exact ⟨a0, a1, a2, b0, b1, b2⟩) (fun hHeld => ?_)
          clear hK K
          (try simp only [Act.put]); (try simp only [g8b]); (try simp only [g8c]); (try simp only [g8d])
          refine wpAnyH_done (by kernel_rfl) ?_ _
          go_wp2_with fail
          go_meet
          exact ⟨_, rfl, hP, rz, FA.out, FB.out, RB.out, BW.out⟩
      case rest =>
        as_aux_lemma =>
        clear FA FB RB BW
        obtain ⟨P, rfl, hP, pb, fa, fb, rb, bw⟩ := hcut
        have PB := Lib.hid pb; have FA := Lib.hid fa; have FB := Lib.hid fb; have RB := Lib.hid rb; have BW := Lib.hid bw
        clear pb fa fb rb bw
        obtain ⟨p6, hlp⟩ : _ ∧ _ := ⟨PB.out.cell 6, PB.out.lt⟩
        simp at p6
        have hrl := RB.out.lt
        by_cases hcc : 120 < C
        · have F := Lib.hid (show CvBad ⟨xs, p, i⟩ ⟨ys, q, j⟩ 3 from .inr ⟨HFO.out, HGO.out, rfl, a, b, HNF.out, HNG.out, by rw [← HC.out]; exact hcc⟩)
          have hci : (120 : Int) < (C : Int) := by omega
          clear hcc
          go_wp2_with (refine wpList_storeN rfl 91 _ _ rfl rfl RB.out rfl rfl (by kernel_rfl) (by simp [Value.oneCell']) ?_; intro wz hsto rz)
          exact bodyPost_ret (v := .tuple #[.agg zero7, .int .i64 3]) (by simp [results, Tryz.results39, go_sem, rz.cell, zero7]) rfl (.inl ⟨_, F.out, rfl, bsto BW.out hsto (by omega)⟩)
        · have hci : ¬ (120 : Int) < (C : Int) := by omega
          have HCC := Lib.hid hcc
          clear hcc
          go_upto_region 10 with fail
          refine wp_region_lit ?_
          refine wpList_load_row rfl 91 _ rfl P rfl 91 #[.slice A1 n1 c1, .int .i64 a.per, .int .i64 a.inc, .slice A2 n2 c2, .int .i64 b.per, .int .i64 b.inc, .int .i64 C] (0, 0) _ PB.out Tryz.underlying91 rfl (by kernel_rfl) ?_
          refine wpList_storeN rfl 91 _ _ rfl rfl RB.out rfl rfl (by kernel_rfl) (by simp [Value.oneCell']) ?_
          intro wz hsto rz
          have FA := Lib.hid (FA.out.sto hsto (.inr (by omega))); have FB := Lib.hid (FB.out.sto hsto (.inr (by omega)))
          have bw := bsto BW.out hsto (by omega)
          (try simp only [Act.put]); (try simp only [g8b]); (try simp only [g8c]); (try simp only [g8d])
          go_wp2_with fail
          have hCo : C = ordC a b := HC.out
          exact bodyPost_ret (v := .tuple #[.agg (cpA A1 n1 c1 a A2 n2 c2 b (ordC a b : Nat)), .int .i64 0]) (by simp [results, Tryz.results39, go_sem, rz.cell, cpA, hCo]) rfl
            (.inr ⟨HFO.out, HGO.out, a, b, A1, n1, c1, A2, n2, c2, HNF.out, HNG.out, HAO.out, HBO.out, by rw [← hCo]; have := HCC.out; omega, rfl, FA.out.ints, FB.out.ints, fun b' off s e => by have := (FA.out.ap b' off s e).1; omega, fun b' off s e => by have := (FB.out.ap b' off s e).1; omega, bw⟩)
    · have F := Lib.hid (show CvBad ⟨xs, p, i⟩ ⟨ys, q, j⟩ 1 from .inl ⟨fun h => hno h.2, rfl⟩)
      have RB := Lib.hid (RB.out.alloc (.cells #[.slice A2 n2 c2, .int .i64 Cv.none.per, .int .i64 Cv.none.inc] 26))
      have BW := Lib.hid (bthen BW.out (balloc _ (.cells #[.slice A2 n2 c2, .int .i64 Cv.none.per, .int .i64 Cv.none.inc] 26)))
      clear hno HN
      go_wp2_with (refine wpList_storeN rfl 91 _ _ rfl rfl RB.out rfl rfl (by kernel_rfl) (by simp [Value.oneCell']) ?_; intro wz hsto rz)
      exact bodyPost_ret (v := .tuple #[.agg zero7, .int .i64 1]) (by simp [results, Tryz.results39, go_sem, rz.cell, zero7]) rfl (.inl ⟨_, F.out, rfl, bsto BW.out hsto (by omega)⟩)
  · have F := Lib.hid (show CvBad ⟨xs, p, i⟩ ⟨ys, q, j⟩ 1 from .inl ⟨fun h => hno h.1, rfl⟩)
    have RB := Lib.hid (RB.out.alloc (.cells #[.slice A1 n1 c1, .int .i64 Cv.none.per, .int .i64 Cv.none.inc] 26))
    have BW := Lib.hid (bthen P.out.bw (balloc _ (.cells #[.slice A1 n1 c1, .int .i64 Cv.none.per, .int .i64 Cv.none.inc] 26)))
    clear hno HN
    go_wp2_with (refine wpList_storeN rfl 91 _ _ rfl rfl RB.out rfl rfl (by kernel_rfl) (by simp [Value.oneCell']) ?_; intro wz hsto rz)
    exact bodyPost_ret (v := .tuple #[.agg zero7, .int .i64 1]) (by simp [results, Tryz.results39, go_sem, rz.cell, zero7]) rfl (.inl ⟨_, F.out, rfl, bsto BW.out hsto (by omega)⟩)
end Go.Proofs.YtaejfleahamapaaGreat
namespace Go.Proofs.YtaejfleahamapaaGreat
open Go.RowKit
set_option linter.unusedVariables false

def RetLs (a b : Cv) (lo t : Nat) (w : World) (e : Ending) (w' : World) : Prop := ∃ v, CvI a b lo t (t + 1) v ∧ 0 ≤ v ∧ v ≤ 4611686018427387904 ∧ e = .returned (.int .i64 v) ∧ Below w.heap.size w w'
theorem CvI.bd {a b : Cv} (ha : a.Ok) (hb : b.Ok) {lo t S : Nat} {v : Int} (ht : t ≤ 2000) (h : CvI a b lo t S v) : 0 ≤ v ∧ v ≤ 4611686018427387904 := by
  rcases h with ⟨_, rfl⟩ | ⟨⟨s, _, _, h3, rfl⟩, _⟩
  · unfold inf; omega
  · have := csp_bd ha hb ht h3; omega
set_option maxHeartbeats 1000000 in
theorem cvleast_any (q1 q2 N : Nat) (a b : Cv) (t lo : Nat) (w : World) (hA : RowI w q1 (tab a.at 0 N)) (hB : RowI w q2 (tab b.at 0 N)) (ha : a.Ok) (hb : b.Ok) (ht : t < N) (hN : N ≤ 2000) (hlo : lo ≤ t) :
    Calls Tryz.prog 97 #[.slice (some ⟨q1, 0, none⟩) N N, .slice (some ⟨q2, 0, none⟩) N N, .int .i64 t, .int .i64 lo, .int .i64 t] w (RetLs a b lo t w) := by
  have T1 := Lib.hid hA; have T2 := Lib.hid hB; have HA := Lib.hid ha; have HB := Lib.hid hb
  have BW := Lib.hid (Below.refl w.heap.size w)
  clear hA hB ha hb
  go_enter Tryz.func97, Tryz.ntmps97
  go_wp2_with fail
  go_loopg [12, 11] (t + 1 - lo) (fun gg s12 s11 wx => ∃ (S : Nat) (v : Int), lo ≤ S ∧ S + gg = t + 1 ∧ s12 = .int .i64 S ∧ s11 = .int .i64 v ∧ CvI a b lo t S v ∧ RowI wx q1 (tab a.at 0 N) ∧ RowI wx q2 (tab b.at 0 N) ∧ Below w.heap.size w wx)
  case atStart => exact ⟨lo, inf, Nat.le_refl _, by omega, rfl, rfl, CvI.zero a b lo t, T1.out, T2.out, BW.out⟩
  case round =>
    clear T1 T2 BW
    obtain ⟨S, v, hS, hgg, rfl, rfl, hI, h1, h2, h3⟩ := hrel
    have T1 := Lib.hid h1; have T2 := Lib.hid h2; have BW := Lib.hid h3; have HI := Lib.hid hI
    clear h1 h2 h3 hI
    by_cases hk : S ≤ t
    · have hki : (S : Int) ≤ t := by omega
      obtain ⟨u, hu⟩ : ∃ u, u = t - S := ⟨_, rfl⟩
      have e1 : IntKind.i64.wrap ((t : Int) - (S : Int)) = (u : Int) := by rw [IntWalk.i64_in _ (by omega)]; omega
      have hSN : S < N := by omega
      have huN : u < N := by omega
      have hSNi : (S : Int) < N := by omega
      have huNi : (u : Int) < N := by omega
      have hs0 : 0 ≤ (S : Int) := by omega
      have hu0 : 0 ≤ (u : Int) := by omega
      have c1 := T1.out.cell S (by rw [tab_length]; exact hSN)
      have c2 := T2.out.cell u (by rw [tab_length]; exact huN)
      rw [tab_nth _ _ _ _ hSN, Nat.zero_add] at c1
      rw [tab_nth _ _ _ _ huN, Nat.zero_add] at c2
      obtain ⟨x, hx⟩ : ∃ x, x = a.at S := ⟨_, rfl⟩
      obtain ⟨y, hy⟩ : ∃ y, y = b.at u := ⟨_, rfl⟩
      rw [← hx] at c1
      rw [← hy] at c2
      have bx := HA.out.at_bd (n := S) (by omega)
      have by' := HB.out.at_bd (n := u) (by omega)
      rw [← hx] at bx
      rw [← hy] at by'
      have hl1 := T1.out.lt; have hl2 := T2.out.lt
      have HU := Lib.hid hu; have HX := Lib.hid hx; have HY := Lib.hid hy
      clear hu hx hy
      by_cases ix : x = inf
      · have NI := Lib.hid (HI.out.skip (fun h => h.2.1 (bx.2.2 ix)))
        unfold inf at ix
        have dx : (x != 4611686018427387904) = false := by simpa using ix
        clear bx by' ix
        go_wp2_with fail
        go_quiet (fail)
        go_wp2_with fail
        go_roundg (gk - 1)
        case measure => omega
        case rel => exact ⟨S + 1, v, by omega, by omega, by go_num, rfl, NI.out, T1.out, T2.out, bdrewN BW.out⟩
      · have dx : (x != 4611686018427387904) = true := by unfold inf at ix; simpa using ix
        by_cases iy : y = inf
        · have NI := Lib.hid (HI.out.skip (fun h => h.2.2 (by rw [← HU.out]; exact by'.2.2 iy)))
          unfold inf at iy
          have dy : (y != 4611686018427387904) = false := by simpa using iy
          clear bx by' ix iy
          go_wp2_with fail
          go_quiet (fail)
          go_wp2_with fail
          go_roundg (gk - 1)
          case measure => omega
          case rel => exact ⟨S + 1, v, by omega, by omega, by go_num, rfl, NI.out, T1.out, T2.out, bdrewN BW.out⟩
        · have dy : (y != 4611686018427387904) = true := by unfold inf at iy; simpa using iy
          have HC := Lib.hid (show CSp a b t S from ⟨by omega, fun h => ix (by rw [HX.out]; exact h.2), fun h => iy (by rw [HY.out, HU.out]; exact h.2)⟩)
          have bd := csp_bd HA.out HB.out (show t ≤ 2000 by omega) HC.out
          rw [← HU.out, ← HX.out, ← HY.out] at bd
          have vb := HI.out.bd HA.out HB.out (by omega)
          have bx0 := bx.1; have by0 := by'.1
          have bd1 := bd.1; have bd2 := bd.2
          have e2 : IntKind.i64.wrap (x + y) = x + y := IntWalk.i64_in _ (by omega)
          obtain ⟨z, hz⟩ : ∃ z, z = x + y := ⟨_, rfl⟩
          rw [← hz] at e2 bd1 bd2
          have HZ := Lib.hid hz
          have e3 : x + y = z := hz.symm
          clear bx by' bd ix iy hz
          by_cases hlt : z < v
          · have NI := Lib.hid (HI.out.more hS HC.out (.inr (by rw [← HU.out, ← HX.out, ← HY.out]; omega)))
            rw [← HU.out, ← HX.out, ← HY.out, ← HZ.out] at NI
            clear vb
            go_wp2_with fail
            go_quiet (fail)
            go_wp2_with fail
            go_roundg (gk - 1)
            case measure => omega
            case rel => exact ⟨S + 1, z, by omega, by omega, by go_num, rfl, NI.out, T1.out, T2.out, bdrewN BW.out⟩
          · have NI := Lib.hid (HI.out.keep (by rw [← HU.out, ← HX.out, ← HY.out]; omega) (by rw [← HU.out, ← HX.out, ← HY.out]; unfold inf; omega))
            clear vb
            go_wp2_with fail
            go_quiet (fail)
            go_wp2_with fail
            go_roundg (gk - 1)
            case measure => omega
            case rel => exact ⟨S + 1, v, by omega, by omega, by go_num, rfl, NI.out, T1.out, T2.out, bdrewN BW.out⟩
    · have hki : ¬ (S : Int) ≤ t := by omega
      obtain rfl : S = t + 1 := by omega
      have bd := HI.out.bd HA.out HB.out (by omega)
      have BD := Lib.hid bd
      clear bd
      go_wp2_with fail
      go_ret
      exact ⟨v, HI.out, BD.out.1, BD.out.2, rfl, BW.out⟩
end Go.Proofs.YtaejfleahamapaaGreat

