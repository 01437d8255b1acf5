/- pointwise.Sum: what it returns. -/
import Derived.Test.YtmieikfmbnaoaaaPwBoth
import Derived.Test.YtmieikfmbnaoaaaPwLaw2
import Derived.Deep.RegionHeld3
namespace Go.Proofs.Ytmieikfmbnaoaaa
open Go.RowKit
set_option linter.unusedVariables false

set_option maxHeartbeats 1000000 in
theorem psum1_any (L F G : Nat) (A : Option Addr) (n c : Nat) (a : Cv) (B : Option Addr) (m d : Nat) (b : Cv) (t : Nat) (w : World) (hF : Bz L w F A n c a) (hG : Bz L w G B m d b) (ha : a.Ok) (hb : b.Ok) (ht : t ≤ 1000000) :
    Calls Try.prog 104 (#[.int .i64 t] ++ #[.pointer (some ⟨F, 0, none⟩), .pointer (some ⟨G, 0, none⟩)]) w fun e w' => e = .returned (.int .i64 (sumV a b t)) ∧ Below w.heap.size w w' := by
  have FA := Lib.hid hF; have FB := Lib.hid hG
  have hl1 : a.vals.length = n := hF.ints.1
  have hl2 : b.vals.length = m := hG.ints.1
  have ha1 := ha.n1; have ha2 := ha.n2; have hap := ha.p1; have hap2 := ha.p2; have hai := ha.i1; have hai2 := ha.i2; have hapn := ha.pn
  rw [hl1] at ha1 ha2 hapn
  have hb1 := hb.n1; have hb2 := hb.n2; have hbp := hb.p1; have hbp2 := hb.p2; have hbi := hb.i1; have hbi2 := hb.i2; have hbpn := hb.pn
  rw [hl2] at hb1 hb2 hbpn
  have HA := Lib.hid ha; have HB := Lib.hid hb
  have hx := at_near ha (t := t) (by omega); have hy := at_near hb (t := t) (by omega)
  have HPL := Lib.hid (sumV_pl ha hb (t := t) (by omega))
  obtain ⟨x, hx'⟩ : ∃ x, x = a.at t := ⟨_, rfl⟩
  obtain ⟨y, hy'⟩ : ∃ y, y = b.at t := ⟨_, rfl⟩
  have HX := Lib.hid hx'; have HY := Lib.hid hy'
  rw [← hx'] at hx; rw [← hy'] at hy
  have HXB := Lib.hid hx; have HYB := Lib.hid hy
  have BW := Lib.hid (Below.refl w.heap.size w)
  clear hF hG hl1 hl2 ha hb hx hy hx' hy'
  rw [HPL.out, ← HX.out, ← HY.out]
  clear HPL
  show Calls _ _ #[.int .i64 t, .pointer (some ⟨F, 0, none⟩), .pointer (some ⟨G, 0, none⟩)] _ _
  go_enter Try.func104, Try.ntmps104
  obtain ⟨a0, a1, a2, hla⟩ := FA.out.cells
  obtain ⟨b0, b1, b2, hlb⟩ := FB.out.cells
  go_upto_region 1 with fail
  go_region_held3 (fun w' => w'.cell? ⟨F, 0, none⟩ = some (.slice A n c) ∧ w'.cell? ⟨F, 1, none⟩ = some (.int .i64 a.per) ∧ w'.cell? ⟨F, 2, none⟩ = some (.int .i64 a.inc) ∧ w'.cell? ⟨G, 0, none⟩ = some (.slice B m d) ∧ w'.cell? ⟨G, 1, none⟩ = some (.int .i64 b.per) ∧ w'.cell? ⟨G, 2, none⟩ = some (.int .i64 b.inc)) (first | go_keep)
    (first
      | (go_at_call_of 94 (Value.agg #[.slice A n c, .int .i64 a.per, .int .i64 a.inc])
         refine (at_any A n c a.per a.inc t a.vals _ (by exact FA.out.drew.ints) (by omega) hap hapn hai (by omega) HA.out.nn (by omega) (by omega)).mono ?_
         rw [Int.toNat_natCast, show Cv.at ⟨a.vals, a.per, a.inc⟩ t = x from HX.out.symm]
         rintro e w1 ⟨rfl, hbq⟩
         have hbq := bofdrew hbq
         have FA := Lib.hid (FA.out.below hbq); have FB := Lib.hid (FB.out.below hbq); have BW := Lib.hid (bthen BW.out hbq)
         clear hbq
         clear a0 a1 a2 hla b0 b1 b2 hlb
         obtain ⟨a0, a1, a2, hla⟩ := FA.out.cells
         obtain ⟨b0, b1, b2, hlb⟩ := FB.out.cells
         skip)
      | (go_at_call_of 94 (Value.agg #[.slice B m d, .int .i64 b.per, .int .i64 b.inc])
         refine (at_any B m d b.per b.inc t b.vals _ (by exact FB.out.drew.ints) (by omega) hbp hbpn hbi (by omega) HB.out.nn (by omega) (by omega)).mono ?_
         rw [Int.toNat_natCast, show Cv.at ⟨b.vals, b.per, b.inc⟩ t = y from HY.out.symm]
         rintro e w1 ⟨rfl, hbq⟩
         have FA := Lib.hid (FA.out.below hbq); have FB := Lib.hid (FB.out.below hbq); have BW := Lib.hid (bthen BW.out hbq)
         clear hbq
         clear a0 a1 a2 hla b0 b1 b2 hlb
         obtain ⟨a0, a1, a2, hla⟩ := FA.out.cells
         obtain ⟨b0, b1, b2, hlb⟩ := FB.out.cells
         skip)
      | (go_at_call 105
         refine (plus_any x y _ HXB.out.1 HXB.out.2 HYB.out.1 HYB.out.2).mono ?_
         rintro e w1 ⟨rfl, rfl⟩
         skip))
  all_goals
    have bw := BW.out
    go_wp2_with fail
    go_ret
    exact ⟨rfl, bw⟩

theorem retS_none {S : Cv → Int → Prop} {w w1 : World} {er : Int} (hS : S Cv.none er) (bw : Below w.heap.size w w1) : RetS S w (.returned (.tuple #[zc, .int .i64 er])) w1 :=
  ⟨Cv.none, er, hS, none, 0, 0, rfl, Ints.none_, (fun b off s h => by cases h), bw⟩
theorem retS_store {S : Cv → Int → Prop} {f : Cv} {er : Int} {w w1 : World} {B g0 : Nat} {A : Option Addr} {n c : Nat} {x y z : Value} (hS : S f er) (hf : ∀ b off s, A = some ⟨b, off, s⟩ → B ≤ b) (h0 : w.heap.size ≤ g0) (hB : g0 < B) (hI : Ints w1 w1.heap.size A n f.vals) (bw : Below w.heap.size w w1) :
    RetS S w (.returned (.tuple #[.agg #[.slice A n c, .int .i64 f.per, .int .i64 f.inc], .int .i64 er])) (((w1.setCell ⟨g0, 0, none⟩ x).setCell ⟨g0, 1, none⟩ y).setCell ⟨g0, 2, none⟩ z) :=
  ⟨f, er, hS, retC_store3' hf h0 hB hI bw⟩
set_option maxHeartbeats 2000000 in
set_option maxRecDepth 100000 in
theorem psum_any (A0 B0 : Option Addr) (n0 m0 c0 d0 : Nat) (p i q j : Int) (xs ys : List Int) (w : World) (hA : Ints w w.heap.size A0 n0 xs) (hB : Ints w w.heap.size B0 m0 ys) (hn : (n0 : Int) ≤ 1000000) (hm : (m0 : Int) ≤ 1000000) :
    Calls Try.prog 48 #[.agg #[.slice A0 n0 c0, .int .i64 p, .int .i64 i], .agg #[.slice B0 m0 d0, .int .i64 q, .int .i64 j]] w (RetS (SumS ⟨xs, p, i⟩ ⟨ys, q, j⟩) w) := by
  have P := Lib.hid ((PT.new (c := c0) (p := p) (i := i) (d := d0) (q := q) (j := j) hA hB).alloc (.cells #[.slice none 0 0, .int .i64 0, .int .i64 0] 41))
  have rb := Blk.new ((w.alloc (.cells #[.slice A0 n0 c0, .int .i64 p, .int .i64 i] 41)).alloc (.cells #[.slice B0 m0 d0, .int .i64 q, .int .i64 j] 41)) 41 #[.slice none 0 0, .int .i64 0, .int .i64 0]
  rw [World.size_alloc, World.size_alloc] at rb
  have RB := Lib.hid rb
  clear hA hB rb
  go_enter Try.func48, Try.ntmps48
  go_wp2_with fail
  refine (pboth_any A0 B0 n0 m0 c0 d0 p i q j xs ys _ P.out.ia P.out.ib hn hm).mono ?_
  rintro e w1 hret
  have hs0 := RB.out.lt
  rcases hret with ⟨er, hbad, rfl, hb⟩ | ⟨hf, hg, a, b, A, n, c, B, m, d, hna, hnb, hao, hbo, hc, rfl, hI1, hI2, hA1, hA2, hb⟩
  · have hne := hbad.ne
    have F := Lib.hid (show SumS ⟨xs, p, i⟩ ⟨ys, q, j⟩ Cv.none er from hbad.to)
    have RB := Lib.hid (((RB.out.below hb RB.out.lt).alloc (.cells #[.slice none 0 0, .int .i64 0, .int .i64 0] 41)).alloc (.cells #[.slice none 0 0, .int .i64 0, .int .i64 0] 41))
    have bw := bthen (bthen (bthen P.out.bw hb) (balloc _ (.cells #[.slice none 0 0, .int .i64 0, .int .i64 0] 41))) (balloc _ (.cells #[.slice none 0 0, .int .i64 0, .int .i64 0] 41))
    clear hbad hb P
    unfold zc
    go_upto_region 2 with fail
    obtain ⟨⟨r0, r1, r2⟩, ⟨y0, y1, y2⟩, hlr⟩ := RB.out.c3
    go_wp2_with fail
    have rb := RB.out.store3 (.slice none 0 0) (.int .i64 0) (.int .i64 0)
    refine bodyPost_ret (v := .tuple #[.agg #[(.slice none 0 0), .int .i64 0, .int .i64 0], .int .i64 er]) (by simp [results, Try.results48, go_sem, rb.cell]) rfl ?_
    exact retS_none F.out (bst3 bw (by omega) _ _ _)
  · have F1 := Lib.hid (Bz.mk (L := w.heap.size + 1 + 1 + 1) (c := c) (f := a) (Blk.new w1 41 #[.slice A n c, .int .i64 a.per, .int .i64 a.inc]) (hI1.alloc' _) (fun b off s e => by have := hA1 b off s e; simp at this; omega))
    have F2 := Lib.hid (Bz.mk (L := w.heap.size + 1 + 1 + 1) (c := d) (f := b) (Blk.new (w1.alloc (.cells #[.slice A n c, .int .i64 a.per, .int .i64 a.inc] 41)) 41 #[.slice B m d, .int .i64 b.per, .int .i64 b.inc]) ((hI2.alloc' _).alloc' _) (fun b off s e => by have := hA2 b off s e; simp at this; omega))
    have RB := Lib.hid (((RB.out.below hb RB.out.lt).alloc (.cells #[.slice A n c, .int .i64 a.per, .int .i64 a.inc] 41)).alloc (.cells #[.slice B m d, .int .i64 b.per, .int .i64 b.inc] 41))
    have BW := Lib.hid (bthen (bthen (bthen P.out.bw hb) (balloc _ (.cells #[.slice A n c, .int .i64 a.per, .int .i64 a.inc] 41))) (balloc _ (.cells #[.slice B m d, .int .i64 b.per, .int .i64 b.inc] 41)))
    have hl1 : a.vals.length = n := hI1.1
    have hl2 : b.vals.length = m := hI2.1
    have ob := ord_b hao hbo
    have hbq := hb.size
    simp only [World.size_alloc] at hbq
    have FB := Lib.hid F2.out
    have FA := Lib.hid (F1.out.alloc (.cells #[.slice B m d, .int .i64 b.per, .int .i64 b.inc] 41))
    rw [World.size_alloc] at FB
    clear F1 F2 hb P hI1 hI2 hA1 hA2
    go_upto_region 4 with fail
    generalize hwz : (w1.alloc (.cells #[.slice A n c, .int .i64 a.per, .int .i64 a.inc] 41)).alloc (.cells #[.slice B m d, .int .i64 b.per, .int .i64 b.inc] 41) = wz at *
    clear hwz
    obtain ⟨F, hFe⟩ : ∃ F, F = w1.heap.size := ⟨_, rfl⟩
    obtain ⟨G, hGe⟩ : ∃ G, G = F + 1 := ⟨_, rfl⟩
    rw [← hFe, ← hGe] at FB
    rw [← hFe] at FA
    rw [← hFe, ← hGe]
    have hne1 : w.heap.size + 1 + 1 ≠ F := by omega
    have hne2 : w.heap.size + 1 + 1 ≠ G := by omega
    clear hFe hGe hbq hs0
    have ha1 := hao.n1; have ha2 := hao.n2; have hap := hao.p1; have hap2 := hao.p2; have hai := hao.i1; have hai2 := hao.i2; have hapn := hao.pn
    rw [hl1] at ha1 ha2 hapn
    have hb1 := hbo.n1; have hb2 := hbo.n2; have hbp := hbo.p1; have hbp2 := hbo.p2; have hbi := hbo.i1; have hbi2 := hbo.i2; have hbpn := hbo.pn
    rw [hl2] at hb1 hb2 hbpn
    obtain ⟨C, hC⟩ : ∃ C, C = ordC a b := ⟨_, rfl⟩
    obtain ⟨S, hS⟩ : ∃ S, S = ordF a b := ⟨_, rfl⟩
    obtain ⟨GA, hGA⟩ : ∃ GA : Int, GA = gnA a b := ⟨_, rfl⟩
    obtain ⟨GB, hGB⟩ : ∃ GB : Int, GB = gnB a b := ⟨_, rfl⟩
    obtain ⟨I, hI⟩ : ∃ I : Int, I = GA + GB := ⟨_, rfl⟩
    have hmx : (if (n : Int) - a.per < (m : Int) - b.per then (m : Int) - b.per else (n : Int) - a.per) = (S : Int) := by
      rw [hS]; unfold ordF; rw [hl1, hl2]; split <;> omega
    have hSb : (S : Int) ≤ 400 := by rw [hS]; unfold ordF; rw [hl1, hl2]; omega
    have hCb : (C : Int) ≤ 120 := by rw [hC]; omega
    have hC1 : 1 ≤ C := by rw [hC]; exact ob.c1
    have hga := ob.a1; have hgb := ob.a2
    have eGA : ((((C : Nat) : Int).toNat / a.per.toNat : Nat) : Int) * a.inc = GA := by rw [hGA, hC, Int.toNat_natCast]; rfl
    have eGB : ((((C : Nat) : Int).toNat / b.per.toNat : Nat) : Int) * b.inc = GB := by rw [hGB, hC, Int.toNat_natCast]; rfl
    have hI0 : 0 ≤ I ∧ I ≤ 257698037760 := by
      rw [hI, hGA, hGB]; unfold gnA gnB; omega
    have e1 : IntKind.i64.wrap (GA + GB) = I := by rw [← hI]; exact IntWalk.i64_in _ (by omega)
    obtain ⟨hI0, hI1⟩ := hI0
    rw [← hC]
    have FIN := Lib.hid (show ∀ r er, BuildS (sumV a b) S C I r er → SumS ⟨xs, p, i⟩ ⟨ys, q, j⟩ r er from fun r er h => .inr ⟨hf, hg, a, b, hna, hnb, .inr ⟨hc, build_made hC1 (fun t u ht htu hi => sumV_inf (sumV_later hao hbo (by omega) hi htu)) (fun hne => by
      have h1 := (sum_per hao hbo (s := S) (c := C) (by rw [hS]; exact ob.fs) (by rw [hS]; exact ob.gs) hC hne).2.2
      have h2 : I = (C / a.per.toNat : Nat) * a.inc + (C / b.per.toNat : Nat) * b.inc := by rw [hI, hGA, hGB, hC]; rfl
      rw [h2]; exact h1) h⟩⟩)
    have HVAL := Lib.hid (show ∀ k : Nat, (k : Int) < (S : Int) + (C : Int) → 0 ≤ sumV a b k ∧ sumV a b k ≤ 4611686018427387904 from fun k hk => sumV_small hao hbo (by omega))
    have HA := Lib.hid hao; have HB := Lib.hid hbo
    clear hf hg hna hnb hao hbo hc hl1 hl2 ob hC hS hGA hGB hI hga hgb
    obtain ⟨⟨r0, r1, r2⟩, ⟨y0, y1, y2⟩, hlr⟩ := RB.out.c3
    obtain ⟨a0, a1, a2, hla⟩ := FA.out.cells
    obtain ⟨b0, b1, b2, hlb⟩ := FB.out.cells
    go_upto_region 5 with fail
    go_region_held3 (fun w' => w'.cell? ⟨F, 0, none⟩ = some (.slice A n c) ∧ w'.cell? ⟨F, 1, none⟩ = some (.int .i64 a.per) ∧ w'.cell? ⟨F, 2, none⟩ = some (.int .i64 a.inc) ∧ w'.cell? ⟨G, 0, none⟩ = some (.slice B m d) ∧ w'.cell? ⟨G, 1, none⟩ = some (.int .i64 b.per) ∧ w'.cell? ⟨G, 2, none⟩ = some (.int .i64 b.inc)) (first | go_keep | exact ⟨(cell_set3 hne1).trans a0, (cell_set3 hne1).trans a1, (cell_set3 hne1).trans a2, (cell_set3 hne2).trans b0, (cell_set3 hne2).trans b1, (cell_set3 hne2).trans b2⟩)
      (first
        | (go_at_call_of 106 (Value.agg #[.slice A n c, .int .i64 a.per, .int .i64 a.inc])
           refine (start_any A n c a.per a.inc _ (by omega) (by omega) (by omega)).mono ?_
           rintro e w4 ⟨rfl, hbq⟩
           have FA := Lib.hid FA.out.drew; have FB := Lib.hid FB.out.drew; have BW := Lib.hid (Below.drew BW.out); have RB := Lib.hid (Blk.drew RB.out)
           have FA := Lib.hid (FA.out.below hbq); have FB := Lib.hid (FB.out.below hbq); have BW := Lib.hid (bthen BW.out hbq); have RB := Lib.hid (RB.out.below hbq RB.out.lt)
           clear hbq
           clear a0 a1 a2 hla b0 b1 b2 hlb
           obtain ⟨a0, a1, a2, hla⟩ := FA.out.cells
           obtain ⟨b0, b1, b2, hlb⟩ := FB.out.cells
           skip)
        | (go_at_call_of 106 (Value.agg #[.slice B m d, .int .i64 b.per, .int .i64 b.inc])
           refine (start_any B m d b.per b.inc _ (by omega) (by omega) (by omega)).mono ?_
           rintro e w4 ⟨rfl, hbq⟩
           have FA := Lib.hid (FA.out.below hbq); have FB := Lib.hid (FB.out.below hbq); have BW := Lib.hid (bthen BW.out hbq); have RB := Lib.hid (RB.out.below hbq RB.out.lt)
           clear hbq
           clear a0 a1 a2 hla b0 b1 b2 hlb
           obtain ⟨a0, a1, a2, hla⟩ := FA.out.cells
           obtain ⟨b0, b1, b2, hlb⟩ := FB.out.cells
           skip)
        | (go_at_call_of 107 (Value.agg #[.slice A n c, .int .i64 a.per, .int .i64 a.inc])
           refine (pgain_any A n c a.per a.inc (C : Int) _ (by omega) (by omega) (by omega) (by omega) (by omega)).mono ?_
           rw [eGA]
           rintro e w4 ⟨rfl, hbq⟩
           have FA := Lib.hid (FA.out.below hbq); have FB := Lib.hid (FB.out.below hbq); have BW := Lib.hid (bthen BW.out hbq); have RB := Lib.hid (RB.out.below hbq RB.out.lt)
           clear hbq
           clear a0 a1 a2 hla b0 b1 b2 hlb
           obtain ⟨a0, a1, a2, hla⟩ := FA.out.cells
           obtain ⟨b0, b1, b2, hlb⟩ := FB.out.cells
           skip)
        | (go_at_call_of 107 (Value.agg #[.slice B m d, .int .i64 b.per, .int .i64 b.inc])
           refine (pgain_any B m d b.per b.inc (C : Int) _ (by omega) (by omega) (by omega) (by omega) (by omega)).mono ?_
           rw [eGB]
           rintro e w4 ⟨rfl, hbq⟩
           have FA := Lib.hid (FA.out.below hbq); have FB := Lib.hid (FB.out.below hbq); have BW := Lib.hid (bthen BW.out hbq); have RB := Lib.hid (RB.out.below hbq RB.out.lt)
           clear hbq
           clear a0 a1 a2 hla b0 b1 b2 hlb
           obtain ⟨a0, a1, a2, hla⟩ := FA.out.cells
           obtain ⟨b0, b1, b2, hlb⟩ := FB.out.cells
           skip)
        | (go_at_call 81
           refine (build_any 104 #[.pointer (some ⟨F, 0, none⟩), .pointer (some ⟨G, 0, none⟩)] S C I (sumV a b) _ (by omega) (by omega) (by omega) (by omega) (by omega) (by omega) HVAL.out (by exact fun t w1 ht hb => psum1_any _ F G A n c a B m d b t w1 (FA.out.below hb) (FB.out.below hb) HA.out HB.out (by omega)) (fun x w => by kernel_rfl)).mono ?_
           rintro e w5 ⟨r, er, hS, A5, n5, c5, rfl, hI5, hA5, hbq⟩
           rw [Int.toNat_natCast, Int.toNat_natCast] at hS
           have FN := Lib.hid (FIN.out _ _ hS)
           have hs0 := RB.out.lt
           have HI5 := Lib.hid hI5; have HA5 := Lib.hid hA5
           clear hS hI5 hA5
           clear r0 r1 r2 y0 y1 y2 hlr
           have FA := Lib.hid (FA.out.below hbq); have FB := Lib.hid (FB.out.below hbq); have BW := Lib.hid (bthen BW.out hbq); have RB := Lib.hid (RB.out.below hbq RB.out.lt)
           clear hbq
           clear a0 a1 a2 hla b0 b1 b2 hlb
           obtain ⟨a0, a1, a2, hla⟩ := FA.out.cells
           obtain ⟨b0, b1, b2, hlb⟩ := FB.out.cells
           obtain ⟨⟨r0, r1, r2⟩, ⟨y0, y1, y2⟩, hlr⟩ := RB.out.c3
           skip))
    all_goals
      go_wp2_with fail
      have rb := RB.out.store3 (.slice A5 n5 c5) (.int .i64 r.per) (.int .i64 r.inc)
      refine bodyPost_ret (v := .tuple #[.agg #[(.slice A5 n5 c5), .int .i64 r.per, .int .i64 r.inc], .int .i64 er]) (by simp [results, Try.results48, go_sem, rb.cell]) rfl ?_
      exact retS_store FN.out HA5.out (by omega) hs0 HI5.out BW.out
end Go.Proofs.Ytmieikfmbnaoaaa
