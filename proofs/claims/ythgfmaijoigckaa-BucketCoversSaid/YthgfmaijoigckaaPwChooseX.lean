/- pointwise.choose for the greater values; Minimum and Maximum: what each returns. -/
import Derived.Test.YthgfmaijoigckaaPwChoose
namespace Go.Proofs.Ythgfmaijoigckaa
open Go.RowKit
set_option linter.unusedVariables false
-- false flag, netcalculus/pointwise.Maximum$1 pick, netcalculus/pointwise.Maximum$2 first, pmax2_any first's contract, choose1max_any choose1's contract, chooseMax_any the name
set_option maxHeartbeats 4000000 in
set_option maxRecDepth 100000 in
theorem chooseMax_any (A0 B0 : Option Addr) (n0 m0 c0 d0 : Nat) (p i q j : Int) (xs ys : List Int) (w : World) (hA : Ints w w.heap.size A0 n0 xs) (hB : Ints w w.heap.size B0 m0 ys) (hn : (n0 : Int) ≤ 1000000) (hm : (m0 : Int) ≤ 1000000) :
    Calls Try.prog 152 #[.agg #[.slice A0 n0 c0, .int .i64 p, .int .i64 i], .agg #[.slice B0 m0 d0, .int .i64 q, .int .i64 j], .func (.func 156) #[] #[], .func (.func 157) #[] #[]] w (RetS (ExtS false ⟨xs, p, i⟩ ⟨ys, q, j⟩) w) := by
  have P := Lib.hid (((PT.new (c := c0) (p := p) (i := i) (d := d0) (q := q) (j := j) hA hB).alloc (.cells #[.func (.func 156) #[] #[]] 68)).alloc (.cells #[.slice none 0 0, .int .i64 0, .int .i64 0] 44))
  have qb := (Blk.new ((w.alloc (.cells #[.slice A0 n0 c0, .int .i64 p, .int .i64 i] 44)).alloc (.cells #[.slice B0 m0 d0, .int .i64 q, .int .i64 j] 44)) 68 #[.func (.func 156) #[] #[]]).alloc (.cells #[.slice none 0 0, .int .i64 0, .int .i64 0] 44)
  have rb := Blk.new (((w.alloc (.cells #[.slice A0 n0 c0, .int .i64 p, .int .i64 i] 44)).alloc (.cells #[.slice B0 m0 d0, .int .i64 q, .int .i64 j] 44)).alloc (.cells #[.func (.func 156) #[] #[]] 68)) 44 #[.slice none 0 0, .int .i64 0, .int .i64 0]
  rw [World.size_alloc, World.size_alloc] at qb
  rw [World.size_alloc, World.size_alloc, World.size_alloc] at rb
  have QB := Lib.hid qb; have RB := Lib.hid rb
  clear hA hB rb qb
  go_enter Try.func152, Try.ntmps152
  go_wp2_with fail
  refine (pboth_any A0 B0 n0 m0 c0 d0 p i q j xs ys _ P.out.ia P.out.ib hn hm).mono ?_
  rintro e w1 hret
  rcases hret with ⟨er, hbad, rfl, hb⟩ | ⟨hf, hg, a, b, A, n, c, B, m, d, hna, hnb, hao, hbo, hc, rfl, hI1, hI2, hA1, hA2, hb⟩
  · have hs0 := (RB.out.below hb RB.out.lt).lt
    have hne := hbad.ne
    have F9 := Lib.hid (show ExtS false ⟨xs, p, i⟩ ⟨ys, q, j⟩ Cv.none er from hbad.to)
    replace RB := Lib.hid (((RB.out.below hb RB.out.lt).alloc (.cells #[.slice none 0 0, .int .i64 0, .int .i64 0] 44)).alloc (.cells #[.slice none 0 0, .int .i64 0, .int .i64 0] 44))
    have bw := bthen (bthen (bthen P.out.bw hb) (balloc _ (.cells #[.slice none 0 0, .int .i64 0, .int .i64 0] 44))) (balloc _ (.cells #[.slice none 0 0, .int .i64 0, .int .i64 0] 44))
    clear hbad hb P QB
    unfold zc
    go_upto_region 2 with fail
    obtain ⟨⟨r0, r1, r2⟩, ⟨y0, y1, y2⟩, hlr⟩ := RB.out.c3
    go_wp2_with fail
    have rb := RB.out.store3 (.slice none 0 0) (.int .i64 0) (.int .i64 0)
    refine bodyPost_ret (v := .tuple #[.agg #[(.slice none 0 0), .int .i64 0, .int .i64 0], .int .i64 er]) (by simp [results, Try.results152, go_sem, rb.cell]) rfl ?_
    exact retS_none F9.out (bst3 bw (by omega) _ _ _)
  · have hs0 := (RB.out.below hb RB.out.lt).lt
    obtain ⟨L, hL⟩ : ∃ L, L = w.heap.size + 1 + 1 + 1 + 1 := ⟨_, rfl⟩
    have F1 := Lib.hid (Bz.mk (L := L) (c := c) (f := a) (Blk.new w1 44 #[.slice A n c, .int .i64 a.per, .int .i64 a.inc]) (hI1.alloc' _) (fun b off s e => by have := hA1 b off s e; simp at this; omega))
    have F2 := Lib.hid (Bz.mk (L := L) (c := d) (f := b) (Blk.new (w1.alloc (.cells #[.slice A n c, .int .i64 a.per, .int .i64 a.inc] 44)) 44 #[.slice B m d, .int .i64 b.per, .int .i64 b.inc]) ((hI2.alloc' _).alloc' _) (fun b off s e => by have := hA2 b off s e; simp at this; omega))
    replace RB := Lib.hid (((RB.out.below hb RB.out.lt).alloc (.cells #[.slice A n c, .int .i64 a.per, .int .i64 a.inc] 44)).alloc (.cells #[.slice B m d, .int .i64 b.per, .int .i64 b.inc] 44))
    replace QB := Lib.hid (((QB.out.below hb QB.out.lt).alloc (.cells #[.slice A n c, .int .i64 a.per, .int .i64 a.inc] 44)).alloc (.cells #[.slice B m d, .int .i64 b.per, .int .i64 b.inc] 44))
    have BW := Lib.hid (bthen (bthen (bthen P.out.bw hb) (balloc _ (.cells #[.slice A n c, .int .i64 a.per, .int .i64 a.inc] 44))) (balloc _ (.cells #[.slice B m d, .int .i64 b.per, .int .i64 b.inc] 44)))
    have hl1 : a.vals.length = n := hI1.1
    have hl2 : b.vals.length = m := hI2.1
    have ob := ord_b hao hbo
    have FB := Lib.hid F2.out
    have FA := Lib.hid (F1.out.alloc (.cells #[.slice B m d, .int .i64 b.per, .int .i64 b.inc] 44))
    rw [World.size_alloc] at FB
    clear F1 F2 hb P hI1 hI2 hA1 hA2
    go_upto_region 5 with fail
    generalize hwz : (w1.alloc (.cells #[.slice A n c, .int .i64 a.per, .int .i64 a.inc] 44)).alloc (.cells #[.slice B m d, .int .i64 b.per, .int .i64 b.inc] 44) = wz at *
    clear hwz
    obtain ⟨F, hFe⟩ : ∃ F, F = w1.heap.size := ⟨_, rfl⟩
    obtain ⟨G, hGe⟩ : ∃ G, G = F + 1 := ⟨_, rfl⟩
    rw [← hFe, ← hGe] at FB
    rw [← hFe] at FA
    rw [← hFe, ← hGe]
    have hne1 : w.heap.size + 1 + 1 + 1 ≠ F := by omega
    have hne2 : w.heap.size + 1 + 1 + 1 ≠ G := by omega
    have hne3 : w.heap.size + 1 + 1 ≠ F := by omega
    have hne4 : w.heap.size + 1 + 1 ≠ G := by omega
    have HLL := Lib.hid hL
    clear hFe hGe hs0 hL
    have ha1 := hao.n1; have ha2 := hao.n2; have hap := hao.p1; have hap2 := hao.p2; have hai := hao.i1; have hai2 := hao.i2; have hapn := hao.pn
    rw [hl1] at ha1 ha2 hapn
    have hb1 := hbo.n1; have hb2 := hbo.n2; have hbp := hbo.p1; have hbp2 := hbo.p2; have hbi := hbo.i1; have hbi2 := hbo.i2; have hbpn := hbo.pn
    rw [hl2] at hb1 hb2 hbpn
    obtain ⟨C, hC⟩ : ∃ C, C = ordC a b := ⟨_, rfl⟩
    obtain ⟨S, hS⟩ : ∃ S, S = ordF a b := ⟨_, rfl⟩
    obtain ⟨GA, hGA⟩ : ∃ GA : Int, GA = gnA a b := ⟨_, rfl⟩
    obtain ⟨GB, hGB⟩ : ∃ GB : Int, GB = gnB a b := ⟨_, rfl⟩
    have hmx : (if (n : Int) - a.per < (m : Int) - b.per then (m : Int) - b.per else (n : Int) - a.per) = (S : Int) := by
      rw [hS]; unfold ordF; rw [hl1, hl2]; split <;> omega
    have hSb : (S : Int) ≤ 400 := by rw [hS]; unfold ordF; rw [hl1, hl2]; omega
    have hCb : (C : Int) ≤ 120 := by rw [hC]; omega
    have hC1 : 1 ≤ C := by rw [hC]; exact ob.c1
    have hga := ob.a1; have hgb := ob.a2
    have eGA : ((((C : Nat) : Int).toNat / a.per.toNat : Nat) : Int) * a.inc = GA := by rw [hGA, hC, Int.toNat_natCast]; rfl
    have eGB : ((((C : Nat) : Int).toNat / b.per.toNat : Nat) : Int) * b.inc = GB := by rw [hGB, hC, Int.toNat_natCast]; rfl
    have hGAb : 0 ≤ GA ∧ GA ≤ 128849018880 := by rw [hGA]; exact hga
    have hGBb : 0 ≤ GB ∧ GB ≤ 128849018880 := by rw [hGB]; exact hgb
    obtain ⟨hGA0, hGA1⟩ := hGAb
    obtain ⟨hGB0, hGB1⟩ := hGBb
    rw [← hC]
    have EXT := Lib.hid (show ∀ r er, MadeL (exV false a b) r er → ExtS false ⟨xs, p, i⟩ ⟨ys, q, j⟩ r er from fun r er h => .inr ⟨hf, hg, a, b, hna, hnb, .inr ⟨hc, h⟩⟩)
    have HVAL := Lib.hid (show ∀ k : Nat, (k : Int) < 1000 → 0 ≤ exV false a b k ∧ exV false a b k ≤ 4611686018427387904 from fun k hk => exV_small hao hbo (by omega))
    have HA := Lib.hid hao; have HB := Lib.hid hbo
    have HC := Lib.hid hC; have HS := Lib.hid hS; have HGA := Lib.hid hGA; have HGB := Lib.hid hGB; have HL1 := Lib.hid hl1; have HL2 := Lib.hid hl2
    clear hf hg hna hnb hao hbo hc hl1 hl2 ob hC hS hGA hGB hga hgb
    obtain ⟨⟨r0, r1, r2⟩, ⟨y0, y1, y2⟩, hlr⟩ := RB.out.c3
    obtain ⟨a0, a1, a2, hla⟩ := FA.out.cells
    obtain ⟨b0, b1, b2, hlb⟩ := FB.out.cells
    have q0 := QB.out.cell 0
    simp at q0
    have hlq := QB.out.lt
    go_region_held3 (fun w' => w'.cell? ⟨F, 0, none⟩ = some (.slice A n c) ∧ w'.cell? ⟨F, 1, none⟩ = some (.int .i64 a.per) ∧ w'.cell? ⟨F, 2, none⟩ = some (.int .i64 a.inc) ∧ w'.cell? ⟨G, 0, none⟩ = some (.slice B m d) ∧ w'.cell? ⟨G, 1, none⟩ = some (.int .i64 b.per) ∧ w'.cell? ⟨G, 2, none⟩ = some (.int .i64 b.inc)) (first | go_keep)
      (first
        | (go_at_call_of 134 (Value.agg #[.slice A n c, .int .i64 a.per, .int .i64 a.inc])
           refine (start_any A n c a.per a.inc _ (by omega) (by omega) (by omega)).mono ?_
           rintro e w4 ⟨rfl, hbq⟩
           have hbq := bofdrew hbq
           have FA := Lib.hid (FA.out.below hbq); have FB := Lib.hid (FB.out.below hbq); have QB := Lib.hid (QB.out.below hbq QB.out.lt); have RB := Lib.hid (RB.out.below hbq RB.out.lt); have BW := Lib.hid (bthen BW.out hbq)
           clear hbq
           clear a0 a1 a2 hla b0 b1 b2 hlb q0 hlq
           obtain ⟨a0, a1, a2, hla⟩ := FA.out.cells
           obtain ⟨b0, b1, b2, hlb⟩ := FB.out.cells
           have q0 := QB.out.cell 0
           simp at q0
           have hlq := QB.out.lt
           skip)
        | (go_at_call_of 134 (Value.agg #[.slice B m d, .int .i64 b.per, .int .i64 b.inc])
           refine (start_any B m d b.per b.inc _ (by omega) (by omega) (by omega)).mono ?_
           rintro e w4 ⟨rfl, hbq⟩
           have FA := Lib.hid (FA.out.below hbq); have FB := Lib.hid (FB.out.below hbq); have QB := Lib.hid (QB.out.below hbq QB.out.lt); have RB := Lib.hid (RB.out.below hbq RB.out.lt); have BW := Lib.hid (bthen BW.out hbq)
           clear hbq
           clear a0 a1 a2 hla b0 b1 b2 hlb q0 hlq
           obtain ⟨a0, a1, a2, hla⟩ := FA.out.cells
           obtain ⟨b0, b1, b2, hlb⟩ := FB.out.cells
           have q0 := QB.out.cell 0
           simp at q0
           have hlq := QB.out.lt
           skip))
    clear hmx
    clear r0 r1 r2 y0 y1 y2 hlr
    obtain ⟨⟨r0, r1, r2⟩, ⟨y0, y1, y2⟩, hlr⟩ := RB.out.c3
    by_cases hfin : a.Fin ∧ b.Fin
    · have hfa : (nth a.vals (n - 1) != inf) = true := by rw [bne_iff_ne, ← HL1.out]; exact hfin.1.2
      have hfb : (nth b.vals (m - 1) != inf) = true := by rw [bne_iff_ne, ← HL2.out]; exact hfin.2.2
      have HFIN := Lib.hid hfin
      clear hfin
      go_wp2_with fail
      refine (finite_any A n c a.per a.inc a.vals _ (by exact FA.out.ints) (by omega) (by omega)).mono ?_
      rw [hfa]
      rintro e w4 ⟨rfl, hbq⟩
      have FA := Lib.hid (FA.out.below hbq); have FB := Lib.hid (FB.out.below hbq); have QB := Lib.hid (QB.out.below hbq QB.out.lt); have RB := Lib.hid (RB.out.below hbq RB.out.lt); have BW := Lib.hid (bthen BW.out hbq)
      clear hbq
      clear a0 a1 a2 hla b0 b1 b2 hlb q0 hlq
      clear r0 r1 r2 y0 y1 y2 hlr
      obtain ⟨a0, a1, a2, hla⟩ := FA.out.cells
      obtain ⟨b0, b1, b2, hlb⟩ := FB.out.cells
      have q0 := QB.out.cell 0
      simp at q0
      have hlq := QB.out.lt
      obtain ⟨⟨r0, r1, r2⟩, ⟨y0, y1, y2⟩, hlr⟩ := RB.out.c3
      go_wp2_with fail
      refine (finite_any B m d b.per b.inc b.vals _ (by exact FB.out.ints) (by omega) (by omega)).mono ?_
      rw [hfb]
      rintro e w4 ⟨rfl, hbq⟩
      have FA := Lib.hid (FA.out.below hbq); have FB := Lib.hid (FB.out.below hbq); have QB := Lib.hid (QB.out.below hbq QB.out.lt); have RB := Lib.hid (RB.out.below hbq RB.out.lt); have BW := Lib.hid (bthen BW.out hbq)
      clear hbq
      clear a0 a1 a2 hla b0 b1 b2 hlb q0 hlq
      clear r0 r1 r2 y0 y1 y2 hlr
      obtain ⟨a0, a1, a2, hla⟩ := FA.out.cells
      obtain ⟨b0, b1, b2, hlb⟩ := FB.out.cells
      have q0 := QB.out.cell 0
      simp at q0
      have hlq := QB.out.lt
      obtain ⟨⟨r0, r1, r2⟩, ⟨y0, y1, y2⟩, hlr⟩ := RB.out.c3
      go_upto_region 13 with fail
      go_region_held3 (fun w' => w'.cell? ⟨F, 0, none⟩ = some (.slice A n c) ∧ w'.cell? ⟨F, 1, none⟩ = some (.int .i64 a.per) ∧ w'.cell? ⟨F, 2, none⟩ = some (.int .i64 a.inc) ∧ w'.cell? ⟨G, 0, none⟩ = some (.slice B m d) ∧ w'.cell? ⟨G, 1, none⟩ = some (.int .i64 b.per) ∧ w'.cell? ⟨G, 2, none⟩ = some (.int .i64 b.inc)) (first | go_keep)
        (first
          | (go_at_call_of 162 (Value.agg #[.slice A n c, .int .i64 a.per, .int .i64 a.inc])
             refine (pgain_any A n c a.per a.inc (C : Int) _ (by omega) (by omega) (by omega) (by omega) (by omega)).mono ?_
             rw [eGA]
             rintro e w4 ⟨rfl, hbq⟩
             have hbq := bofdrew hbq
             have FA := Lib.hid (FA.out.below hbq); have FB := Lib.hid (FB.out.below hbq); have QB := Lib.hid (QB.out.below hbq QB.out.lt); have RB := Lib.hid (RB.out.below hbq RB.out.lt); have BW := Lib.hid (bthen BW.out hbq)
             clear hbq
             clear a0 a1 a2 hla b0 b1 b2 hlb q0 hlq
             obtain ⟨a0, a1, a2, hla⟩ := FA.out.cells
             obtain ⟨b0, b1, b2, hlb⟩ := FB.out.cells
             have q0 := QB.out.cell 0
             simp at q0
             have hlq := QB.out.lt
             skip)
          | (go_at_call_of 162 (Value.agg #[.slice B m d, .int .i64 b.per, .int .i64 b.inc])
             refine (pgain_any B m d b.per b.inc (C : Int) _ (by omega) (by omega) (by omega) (by omega) (by omega)).mono ?_
             rw [eGB]
             rintro e w4 ⟨rfl, hbq⟩
             have FA := Lib.hid (FA.out.below hbq); have FB := Lib.hid (FB.out.below hbq); have QB := Lib.hid (QB.out.below hbq QB.out.lt); have RB := Lib.hid (RB.out.below hbq RB.out.lt); have BW := Lib.hid (bthen BW.out hbq)
             clear hbq
             clear a0 a1 a2 hla b0 b1 b2 hlb q0 hlq
             obtain ⟨a0, a1, a2, hla⟩ := FA.out.cells
             obtain ⟨b0, b1, b2, hlb⟩ := FB.out.cells
             have q0 := QB.out.cell 0
             simp at q0
             have hlq := QB.out.lt
             skip))
      clear eGA eGB
      clear r0 r1 r2 y0 y1 y2 hlr
      obtain ⟨⟨r0, r1, r2⟩, ⟨y0, y1, y2⟩, hlr⟩ := RB.out.c3
      by_cases hGG : GA = GB
      · have g1 : (GA == GB) = true := by simpa using hGG
        have HGG := Lib.hid hGG
        clear hGG
        go_wp2_with fail
        -- false flag choose1max_any choose1 S start C period GA increment ex_build HA.out HB.out (s := S) (p := C) (i := GA) (by omega) (by omega) (fun _ => by rw [HGA.out, HC.out]; exact exV_eq HFIN.out.1 HFIN.out.2 (by rw [← HGA.out, ← HGB.out]; exact HGG.out) (by rw [HS.out]; exact Nat.le_refl _)): what FN is made of
        refine (build_any 161 #[.pointer (some ⟨w.heap.size + 1 + 1, 0, none⟩), .pointer (some ⟨F, 0, none⟩), .pointer (some ⟨G, 0, none⟩)] S C GA (exV false a b) _ (by omega) (by omega) (by omega) (by omega) (by omega) (by omega) (by exact fun k hk => HVAL.out k (by omega)) (by exact fun t w1 ht hb => choose1max_any _ F G _ A n c a B m d b t w1 (FA.out.below hb) (FB.out.below hb) (QB.out.below hb QB.out.lt) HA.out HB.out (by omega)) (fun x w => by kernel_rfl)).mono ?_
        rintro e w5 ⟨r, er, hS, A5, n5, c5, rfl, hI5, hA5, hbq⟩
        have FN := Lib.hid (EXT.out _ _ (ex_build HA.out HB.out (s := S) (p := C) (i := GA) (by omega) (by omega) (fun _ => by rw [HGA.out, HC.out]; exact exV_eq HFIN.out.1 HFIN.out.2 (by rw [← HGA.out, ← HGB.out]; exact HGG.out) (by rw [HS.out]; exact Nat.le_refl _)) hS))
        have hs0 := RB.out.lt
        have HI5 := Lib.hid hI5; have HA5 := Lib.hid hA5
        clear hS hI5 hA5
        have FA := Lib.hid (FA.out.below hbq); have FB := Lib.hid (FB.out.below hbq); have QB := Lib.hid (QB.out.below hbq QB.out.lt); have RB := Lib.hid (RB.out.below hbq RB.out.lt); have BW := Lib.hid (bthen BW.out hbq)
        clear hbq
        clear a0 a1 a2 hla b0 b1 b2 hlb q0 hlq
        clear r0 r1 r2 y0 y1 y2 hlr
        obtain ⟨a0, a1, a2, hla⟩ := FA.out.cells
        obtain ⟨b0, b1, b2, hlb⟩ := FB.out.cells
        have q0 := QB.out.cell 0
        simp at q0
        have hlq := QB.out.lt
        obtain ⟨⟨r0, r1, r2⟩, ⟨y0, y1, y2⟩, hlr⟩ := RB.out.c3
        go_wp2_with fail
        have rb := RB.out.store3 (.slice A5 n5 c5) (.int .i64 r.per) (.int .i64 r.inc)
        refine bodyPost_ret (v := .tuple #[.agg #[(.slice A5 n5 c5), .int .i64 r.per, .int .i64 r.inc], .int .i64 er]) (by simp [results, Try.results152, go_sem, rb.cell]) rfl ?_
        exact retS_store FN.out HA5.out (by omega) hs0 HI5.out BW.out
      · have g1 : (GA == GB) = false := by simpa using hGG
        by_cases hfirst : firstS false GA GB
        · have LZ := Lib.hid (show LastZ false a b a C from by rw [HC.out]; exact LastZ.a HFIN.out.1 HFIN.out.2 (by rw [← HGA.out, ← HGB.out]; exact hfirst))
          have hfr := frB_true hfirst
          clear hfirst hGG
          go_upto_region 17 with fail
          -- a new variable with the curve a; the world at hand is w4
          have ZB := Lib.hid (Bz.mk (L := L) (c := c) (f := a) (Blk.new w4 44 #[.slice A n c, .int .i64 a.per, .int .i64 a.inc]) ((FA.out.ints).alloc' _) FA.out.lo)
          have hAZ := FA.out.ints.blk_lt (by omega)
          have hBZ := FB.out.ints.blk_lt (by omega)
          have hFZ := FA.out.lt
          have hGZ := FB.out.lt
          have hQZ := QB.out.lt
          have hRZ := RB.out.lt
          have hbq := balloc w4 (.cells #[.slice A n c, .int .i64 a.per, .int .i64 a.inc] 44)
          have FA := Lib.hid (FA.out.below hbq); have FB := Lib.hid (FB.out.below hbq); have QB := Lib.hid (QB.out.below hbq QB.out.lt); have RB := Lib.hid (RB.out.below hbq RB.out.lt); have BW := Lib.hid (bthen BW.out hbq)
          clear hbq
          clear a0 a1 a2 hla b0 b1 b2 hlb q0 hlq
          clear r0 r1 r2 y0 y1 y2 hlr
          generalize hwe : w4.alloc (.cells #[.slice A n c, .int .i64 a.per, .int .i64 a.inc] 44) = we at *
          clear hwe
          generalize w4.heap.size = Z at *
          go_wp2_with fail
          refine (pmax2_any GA GB _).mono ?_
          rw [hfr]
          rintro e w5 ⟨rfl, rfl⟩
          -- false flag choose1max_any choose1 ; z is a, its list A n c
          have hz1 := LZ.out.ok.n1; have hz2 := LZ.out.ok.n2; have hzp := LZ.out.ok.p1; have hzp2 := LZ.out.ok.p2; have hzi := LZ.out.ok.i1; have hzi2 := LZ.out.ok.i2; have hzpn := LZ.out.ok.pn
          have hlzz : a.vals.length = n := ZB.out.ints.1
          rw [hlzz] at hz1 hz2 hzpn
          clear hlzz
          go_wp2_with fail
          go_loopg [20] C (fun gg s20 wx => ∃ t : Nat, t + gg = 400 + C ∧ 400 ≤ t ∧ s20 = .int .i64 t ∧ (∀ u, 400 ≤ u → u < t → exV false a b u = a.at u) ∧ Bz L wx F A n c a ∧ Bz L wx G B m d b ∧ Blk wx (w.heap.size + 1 + 1) 68 #[.func (.func 156) #[] #[]] ∧ Blk wx (w.heap.size + 1 + 1 + 1) 44 #[.slice none 0 0, .int .i64 0, .int .i64 0] ∧ Below w.heap.size w wx ∧ Bz L wx Z A n c a)
          case atStart => exact ⟨400, by omega, by omega, rfl, fun u h1 h2 => by omega, FA.out, FB.out, QB.out, RB.out, BW.out, ZB.out⟩
          case round =>
            clear FA FB QB RB BW ZB
            obtain ⟨t, htg, ht4, rfl, hall, fa', fb', qb', rb', bw', zb'⟩ := hrel
            have FA := Lib.hid fa'; have FB := Lib.hid fb'; have QB := Lib.hid qb'; have RB := Lib.hid rb'; have BW := Lib.hid bw'; have ZB := Lib.hid zb'; have HALL := Lib.hid hall
            clear fa' fb' qb' rb' bw' zb' hall
            have e1 : IntKind.i64.wrap ((400 : Int) + (C : Int)) = (400 : Int) + (C : Int) := IntWalk.i64_in _ (by omega)
            by_cases htC : t < 400 + C
            · have hti : (t : Int) < 400 + (C : Int) := by omega
              obtain ⟨x, hx⟩ : ∃ x, x = exV false a b t := ⟨_, rfl⟩
              obtain ⟨y, hy⟩ : ∃ y, y = a.at t := ⟨_, rfl⟩
              have HX := Lib.hid hx; have HY := Lib.hid hy
              clear hx hy
              go_upto_region 22 with fail
              obtain ⟨l0, l1, l2, hlz⟩ := ZB.out.cells
              clear e1
              by_cases hxy : x = y
              · have d1 : (x != y) = false := by simp only [bne_eq_false_iff_eq]; exact hxy
                have HALL2 := Lib.hid (show ∀ u, 400 ≤ u → u < t + 1 → exV false a b u = a.at u from fun u h1 h2 => by
                  by_cases e : u = t
                  · rw [e, ← HX.out, ← HY.out]; exact hxy
                  · exact HALL.out u h1 (by omega))
                clear hxy
                go_region_held3 (fun w' => w'.cell? ⟨Z, 0, none⟩ = some (.slice A n c) ∧ w'.cell? ⟨Z, 1, none⟩ = some (.int .i64 a.per) ∧ w'.cell? ⟨Z, 2, none⟩ = some (.int .i64 a.inc)) (first | go_keep)
                  (first
                    | (go_at_call 161
                       refine (choose1max_any _ F G _ A n c a B m d b t _ (by exact FA.out.drew) (by exact FB.out.drew) (by exact QB.out.drew) HA.out HB.out (by omega)).mono ?_
                       rw [← HX.out]
                       rintro e w1 ⟨rfl, hbq⟩
                       have hbq := bofdrew hbq
                       have ZB := Lib.hid (ZB.out.below hbq)
                       have FA := Lib.hid (FA.out.below hbq); have FB := Lib.hid (FB.out.below hbq); have QB := Lib.hid (QB.out.below hbq QB.out.lt); have RB := Lib.hid (RB.out.below hbq RB.out.lt); have BW := Lib.hid (bthen BW.out hbq)
                       clear hbq
                       clear l0 l1 l2 hlz
                       obtain ⟨l0, l1, l2, hlz⟩ := ZB.out.cells
                       skip)
                    | (go_at_call 90
                       refine (at_any A n c a.per a.inc t a.vals _ (by exact ZB.out.ints) (by omega) hzp hzpn hzi (by omega) LZ.out.ok.nn (by omega) (by omega)).mono ?_
                       rw [Int.toNat_natCast, show Cv.at ⟨a.vals, a.per, a.inc⟩ t = y from HY.out.symm]
                       rintro e w1 ⟨rfl, hbq⟩
                       have ZB := Lib.hid (ZB.out.below hbq)
                       have FA := Lib.hid (FA.out.below hbq); have FB := Lib.hid (FB.out.below hbq); have QB := Lib.hid (QB.out.below hbq QB.out.lt); have RB := Lib.hid (RB.out.below hbq RB.out.lt); have BW := Lib.hid (bthen BW.out hbq)
                       clear hbq
                       clear l0 l1 l2 hlz
                       obtain ⟨l0, l1, l2, hlz⟩ := ZB.out.cells
                       skip))
                all_goals
                  go_wp2_with fail
                  go_roundg (gk - 1)
                  case measure => omega
                  case rel => exact ⟨t + 1, by omega, by omega, by go_num, HALL2.out, FA.out, FB.out, QB.out, RB.out, BW.out, ZB.out⟩
              · have d1 : (x != y) = true := by simp only [bne_iff_ne, ne_eq]; exact hxy
                have FN := Lib.hid (EXT.out _ _ (LZ.out.bad t ht4 (by rw [← HX.out, ← HY.out]; exact hxy)))
                clear hxy
                go_region_held3 (fun w' => w'.cell? ⟨Z, 0, none⟩ = some (.slice A n c) ∧ w'.cell? ⟨Z, 1, none⟩ = some (.int .i64 a.per) ∧ w'.cell? ⟨Z, 2, none⟩ = some (.int .i64 a.inc)) (first | go_keep)
                  (first
                    | (go_at_call 161
                       refine (choose1max_any _ F G _ A n c a B m d b t _ (by exact FA.out.drew) (by exact FB.out.drew) (by exact QB.out.drew) HA.out HB.out (by omega)).mono ?_
                       rw [← HX.out]
                       rintro e w1 ⟨rfl, hbq⟩
                       have hbq := bofdrew hbq
                       have ZB := Lib.hid (ZB.out.below hbq)
                       have FA := Lib.hid (FA.out.below hbq); have FB := Lib.hid (FB.out.below hbq); have QB := Lib.hid (QB.out.below hbq QB.out.lt); have RB := Lib.hid (RB.out.below hbq RB.out.lt); have BW := Lib.hid (bthen BW.out hbq)
                       clear hbq
                       clear l0 l1 l2 hlz
                       obtain ⟨l0, l1, l2, hlz⟩ := ZB.out.cells
                       skip)
                    | (go_at_call 90
                       refine (at_any A n c a.per a.inc t a.vals _ (by exact ZB.out.ints) (by omega) hzp hzpn hzi (by omega) LZ.out.ok.nn (by omega) (by omega)).mono ?_
                       rw [Int.toNat_natCast, show Cv.at ⟨a.vals, a.per, a.inc⟩ t = y from HY.out.symm]
                       rintro e w1 ⟨rfl, hbq⟩
                       have ZB := Lib.hid (ZB.out.below hbq)
                       have FA := Lib.hid (FA.out.below hbq); have FB := Lib.hid (FB.out.below hbq); have QB := Lib.hid (QB.out.below hbq QB.out.lt); have RB := Lib.hid (RB.out.below hbq RB.out.lt); have BW := Lib.hid (bthen BW.out hbq)
                       clear hbq
                       clear l0 l1 l2 hlz
                       obtain ⟨l0, l1, l2, hlz⟩ := ZB.out.cells
                       skip))
                all_goals
                  obtain ⟨⟨r0, r1, r2⟩, ⟨y0, y1, y2⟩, hlr⟩ := RB.out.c3
                  go_wp2_with fail
                  have rb := RB.out.store3 (.slice none 0 0) (.int .i64 0) (.int .i64 0)
                  refine bodyPost_ret (v := .tuple #[.agg #[(.slice none 0 0), .int .i64 0, .int .i64 0], .int .i64 3]) (by simp [results, Try.results152, go_sem, rb.cell]) rfl ?_
                  exact retS_none FN.out (bst3 BW.out (by omega) _ _ _)
            · have hti : ¬ (t : Int) < 400 + (C : Int) := by omega
              have hte : t = 400 + C := by omega
              have HGOOD := Lib.hid (LZ.out.good (fun u h1 h2 => HALL.out u h1 (by omega)))
              clear htC htg hte
              obtain ⟨l0, l1, l2, hlz⟩ := ZB.out.cells
              obtain ⟨a0, a1, a2, hla⟩ := FA.out.cells
              obtain ⟨b0, b1, b2, hlb⟩ := FB.out.cells
              have q0 := QB.out.cell 0
              simp at q0
              have hlq := QB.out.lt
              obtain ⟨⟨r0, r1, r2⟩, ⟨y0, y1, y2⟩, hlr⟩ := RB.out.c3
              go_wp2_with fail
              -- false flag choose1max_any choose1 400 start a.per period a.inc increment HGOOD.out _ _: what FN is made of
              refine (build_any 161 #[.pointer (some ⟨w.heap.size + 1 + 1, 0, none⟩), .pointer (some ⟨F, 0, none⟩), .pointer (some ⟨G, 0, none⟩)] 400 a.per a.inc (exV false a b) _ (by omega) (by omega) (by omega) (by omega) (by omega) (by omega) (by exact fun k hk => HVAL.out k (by omega)) (by exact fun t w1 ht hb => choose1max_any _ F G _ A n c a B m d b t w1 (FA.out.below hb) (FB.out.below hb) (QB.out.below hb QB.out.lt) HA.out HB.out (by omega)) (fun x w => by kernel_rfl)).mono ?_
              rintro e w5 ⟨r, er, hS, A5, n5, c5, rfl, hI5, hA5, hbq⟩
              have FN := Lib.hid (EXT.out _ _ (HGOOD.out _ _ hS))
              have hs0 := RB.out.lt
              have HI5 := Lib.hid hI5; have HA5 := Lib.hid hA5
              clear hS hI5 hA5
              have FA := Lib.hid (FA.out.below hbq); have FB := Lib.hid (FB.out.below hbq); have QB := Lib.hid (QB.out.below hbq QB.out.lt); have RB := Lib.hid (RB.out.below hbq RB.out.lt); have BW := Lib.hid (bthen BW.out hbq)
              clear hbq
              clear a0 a1 a2 hla b0 b1 b2 hlb q0 hlq
              clear r0 r1 r2 y0 y1 y2 hlr
              obtain ⟨a0, a1, a2, hla⟩ := FA.out.cells
              obtain ⟨b0, b1, b2, hlb⟩ := FB.out.cells
              have q0 := QB.out.cell 0
              simp at q0
              have hlq := QB.out.lt
              obtain ⟨⟨r0, r1, r2⟩, ⟨y0, y1, y2⟩, hlr⟩ := RB.out.c3
              go_wp2_with fail
              have rb := RB.out.store3 (.slice A5 n5 c5) (.int .i64 r.per) (.int .i64 r.inc)
              refine bodyPost_ret (v := .tuple #[.agg #[(.slice A5 n5 c5), .int .i64 r.per, .int .i64 r.inc], .int .i64 er]) (by simp [results, Try.results152, go_sem, rb.cell]) rfl ?_
              exact retS_store FN.out HA5.out (by omega) hs0 HI5.out BW.out
        · have LZ := Lib.hid (show LastZ false a b b C from by
            rw [HC.out]
            refine LastZ.b HFIN.out.1 HFIN.out.2 ?_
            rw [← HGA.out, ← HGB.out]
            unfold firstS at hfirst ⊢
            split at hfirst <;> rename_i hl
            · rw [if_pos hl]; omega
            · rw [if_neg hl]; omega)
          have hfr := frB_false hfirst
          clear hfirst hGG
          go_upto_region 17 with fail
          -- a new variable with the curve a; the world at hand is w4
          have ZB := Lib.hid (Bz.mk (L := L) (c := c) (f := a) (Blk.new w4 44 #[.slice A n c, .int .i64 a.per, .int .i64 a.inc]) ((FA.out.ints).alloc' _) FA.out.lo)
          have hAZ := FA.out.ints.blk_lt (by omega)
          have hBZ := FB.out.ints.blk_lt (by omega)
          have hFZ := FA.out.lt
          have hGZ := FB.out.lt
          have hQZ := QB.out.lt
          have hRZ := RB.out.lt
          have hbq := balloc w4 (.cells #[.slice A n c, .int .i64 a.per, .int .i64 a.inc] 44)
          have FA := Lib.hid (FA.out.below hbq); have FB := Lib.hid (FB.out.below hbq); have QB := Lib.hid (QB.out.below hbq QB.out.lt); have RB := Lib.hid (RB.out.below hbq RB.out.lt); have BW := Lib.hid (bthen BW.out hbq)
          clear hbq
          clear a0 a1 a2 hla b0 b1 b2 hlb q0 hlq
          clear r0 r1 r2 y0 y1 y2 hlr
          generalize hwe : w4.alloc (.cells #[.slice A n c, .int .i64 a.per, .int .i64 a.inc] 44) = we at *
          clear hwe
          generalize w4.heap.size = Z at *
          go_wp2_with fail
          refine (pmax2_any GA GB _).mono ?_
          rw [hfr]
          rintro e w5 ⟨rfl, rfl⟩
          obtain ⟨⟨l0, l1, l2⟩, ⟨k0, k1, k2⟩, hlz⟩ := ZB.out.blk.c3
          obtain ⟨a0, a1, a2, hla⟩ := FA.out.cells
          obtain ⟨b0, b1, b2, hlb⟩ := FB.out.cells
          have q0 := QB.out.cell 0
          simp at q0
          have hlq := QB.out.lt
          go_upto_region 19 with fail
          clear l0 l1 l2 k0 k1 k2 hlz
          clear a0 a1 a2 hla b0 b1 b2 hlb q0 hlq
          -- the curve b is stored to the new variable; the world at hand is we
          have st := Sto.three Z we (.slice B m d) (.int .i64 b.per) (.int .i64 b.inc)
          have ZB := Lib.hid (Bz.putN (c := d) ZB.out.blk FB.out.ints FB.out.lo hBZ)
          have FA := Lib.hid (FA.out.stoN st (by omega) hAZ); have FB := Lib.hid (FB.out.stoN st (by omega) hBZ); have QB := Lib.hid (QB.out.sto st (by omega)); have RB := Lib.hid (RB.out.sto st (by omega)); have BW := Lib.hid (bsto BW.out st (by omega))
          clear st
          generalize hwe : ((we.setCell ⟨Z, 0, none⟩ (.slice B m d)).setCell ⟨Z, 1, none⟩ (.int .i64 b.per)).setCell ⟨Z, 2, none⟩ (.int .i64 b.inc) = wf at *
          clear hwe
          -- false flag choose1max_any choose1 ; z is b, its list B m d
          have hz1 := LZ.out.ok.n1; have hz2 := LZ.out.ok.n2; have hzp := LZ.out.ok.p1; have hzp2 := LZ.out.ok.p2; have hzi := LZ.out.ok.i1; have hzi2 := LZ.out.ok.i2; have hzpn := LZ.out.ok.pn
          have hlzz : b.vals.length = m := ZB.out.ints.1
          rw [hlzz] at hz1 hz2 hzpn
          clear hlzz
          go_wp2_with fail
          go_loopg [20] C (fun gg s20 wx => ∃ t : Nat, t + gg = 400 + C ∧ 400 ≤ t ∧ s20 = .int .i64 t ∧ (∀ u, 400 ≤ u → u < t → exV false a b u = b.at u) ∧ Bz L wx F A n c a ∧ Bz L wx G B m d b ∧ Blk wx (w.heap.size + 1 + 1) 68 #[.func (.func 156) #[] #[]] ∧ Blk wx (w.heap.size + 1 + 1 + 1) 44 #[.slice none 0 0, .int .i64 0, .int .i64 0] ∧ Below w.heap.size w wx ∧ Bz L wx Z B m d b)
          case atStart => exact ⟨400, by omega, by omega, rfl, fun u h1 h2 => by omega, FA.out, FB.out, QB.out, RB.out, BW.out, ZB.out⟩
          case round =>
            clear FA FB QB RB BW ZB
            obtain ⟨t, htg, ht4, rfl, hall, fa', fb', qb', rb', bw', zb'⟩ := hrel
            have FA := Lib.hid fa'; have FB := Lib.hid fb'; have QB := Lib.hid qb'; have RB := Lib.hid rb'; have BW := Lib.hid bw'; have ZB := Lib.hid zb'; have HALL := Lib.hid hall
            clear fa' fb' qb' rb' bw' zb' hall
            have e1 : IntKind.i64.wrap ((400 : Int) + (C : Int)) = (400 : Int) + (C : Int) := IntWalk.i64_in _ (by omega)
            by_cases htC : t < 400 + C
            · have hti : (t : Int) < 400 + (C : Int) := by omega
              obtain ⟨x, hx⟩ : ∃ x, x = exV false a b t := ⟨_, rfl⟩
              obtain ⟨y, hy⟩ : ∃ y, y = b.at t := ⟨_, rfl⟩
              have HX := Lib.hid hx; have HY := Lib.hid hy
              clear hx hy
              go_upto_region 22 with fail
              obtain ⟨l0, l1, l2, hlz⟩ := ZB.out.cells
              clear e1
              by_cases hxy : x = y
              · have d1 : (x != y) = false := by simp only [bne_eq_false_iff_eq]; exact hxy
                have HALL2 := Lib.hid (show ∀ u, 400 ≤ u → u < t + 1 → exV false a b u = b.at u from fun u h1 h2 => by
                  by_cases e : u = t
                  · rw [e, ← HX.out, ← HY.out]; exact hxy
                  · exact HALL.out u h1 (by omega))
                clear hxy
                go_region_held3 (fun w' => w'.cell? ⟨Z, 0, none⟩ = some (.slice B m d) ∧ w'.cell? ⟨Z, 1, none⟩ = some (.int .i64 b.per) ∧ w'.cell? ⟨Z, 2, none⟩ = some (.int .i64 b.inc)) (first | go_keep)
                  (first
                    | (go_at_call 161
                       refine (choose1max_any _ F G _ A n c a B m d b t _ (by exact FA.out.drew) (by exact FB.out.drew) (by exact QB.out.drew) HA.out HB.out (by omega)).mono ?_
                       rw [← HX.out]
                       rintro e w1 ⟨rfl, hbq⟩
                       have hbq := bofdrew hbq
                       have ZB := Lib.hid (ZB.out.below hbq)
                       have FA := Lib.hid (FA.out.below hbq); have FB := Lib.hid (FB.out.below hbq); have QB := Lib.hid (QB.out.below hbq QB.out.lt); have RB := Lib.hid (RB.out.below hbq RB.out.lt); have BW := Lib.hid (bthen BW.out hbq)
                       clear hbq
                       clear l0 l1 l2 hlz
                       obtain ⟨l0, l1, l2, hlz⟩ := ZB.out.cells
                       skip)
                    | (go_at_call 90
                       refine (at_any B m d b.per b.inc t b.vals _ (by exact ZB.out.ints) (by omega) hzp hzpn hzi (by omega) LZ.out.ok.nn (by omega) (by omega)).mono ?_
                       rw [Int.toNat_natCast, show Cv.at ⟨b.vals, b.per, b.inc⟩ t = y from HY.out.symm]
                       rintro e w1 ⟨rfl, hbq⟩
                       have ZB := Lib.hid (ZB.out.below hbq)
                       have FA := Lib.hid (FA.out.below hbq); have FB := Lib.hid (FB.out.below hbq); have QB := Lib.hid (QB.out.below hbq QB.out.lt); have RB := Lib.hid (RB.out.below hbq RB.out.lt); have BW := Lib.hid (bthen BW.out hbq)
                       clear hbq
                       clear l0 l1 l2 hlz
                       obtain ⟨l0, l1, l2, hlz⟩ := ZB.out.cells
                       skip))
                all_goals
                  go_wp2_with fail
                  go_roundg (gk - 1)
                  case measure => omega
                  case rel => exact ⟨t + 1, by omega, by omega, by go_num, HALL2.out, FA.out, FB.out, QB.out, RB.out, BW.out, ZB.out⟩
              · have d1 : (x != y) = true := by simp only [bne_iff_ne, ne_eq]; exact hxy
                have FN := Lib.hid (EXT.out _ _ (LZ.out.bad t ht4 (by rw [← HX.out, ← HY.out]; exact hxy)))
                clear hxy
                go_region_held3 (fun w' => w'.cell? ⟨Z, 0, none⟩ = some (.slice B m d) ∧ w'.cell? ⟨Z, 1, none⟩ = some (.int .i64 b.per) ∧ w'.cell? ⟨Z, 2, none⟩ = some (.int .i64 b.inc)) (first | go_keep)
                  (first
                    | (go_at_call 161
                       refine (choose1max_any _ F G _ A n c a B m d b t _ (by exact FA.out.drew) (by exact FB.out.drew) (by exact QB.out.drew) HA.out HB.out (by omega)).mono ?_
                       rw [← HX.out]
                       rintro e w1 ⟨rfl, hbq⟩
                       have hbq := bofdrew hbq
                       have ZB := Lib.hid (ZB.out.below hbq)
                       have FA := Lib.hid (FA.out.below hbq); have FB := Lib.hid (FB.out.below hbq); have QB := Lib.hid (QB.out.below hbq QB.out.lt); have RB := Lib.hid (RB.out.below hbq RB.out.lt); have BW := Lib.hid (bthen BW.out hbq)
                       clear hbq
                       clear l0 l1 l2 hlz
                       obtain ⟨l0, l1, l2, hlz⟩ := ZB.out.cells
                       skip)
                    | (go_at_call 90
                       refine (at_any B m d b.per b.inc t b.vals _ (by exact ZB.out.ints) (by omega) hzp hzpn hzi (by omega) LZ.out.ok.nn (by omega) (by omega)).mono ?_
                       rw [Int.toNat_natCast, show Cv.at ⟨b.vals, b.per, b.inc⟩ t = y from HY.out.symm]
                       rintro e w1 ⟨rfl, hbq⟩
                       have ZB := Lib.hid (ZB.out.below hbq)
                       have FA := Lib.hid (FA.out.below hbq); have FB := Lib.hid (FB.out.below hbq); have QB := Lib.hid (QB.out.below hbq QB.out.lt); have RB := Lib.hid (RB.out.below hbq RB.out.lt); have BW := Lib.hid (bthen BW.out hbq)
                       clear hbq
                       clear l0 l1 l2 hlz
                       obtain ⟨l0, l1, l2, hlz⟩ := ZB.out.cells
                       skip))
                all_goals
                  obtain ⟨⟨r0, r1, r2⟩, ⟨y0, y1, y2⟩, hlr⟩ := RB.out.c3
                  go_wp2_with fail
                  have rb := RB.out.store3 (.slice none 0 0) (.int .i64 0) (.int .i64 0)
                  refine bodyPost_ret (v := .tuple #[.agg #[(.slice none 0 0), .int .i64 0, .int .i64 0], .int .i64 3]) (by simp [results, Try.results152, go_sem, rb.cell]) rfl ?_
                  exact retS_none FN.out (bst3 BW.out (by omega) _ _ _)
            · have hti : ¬ (t : Int) < 400 + (C : Int) := by omega
              have hte : t = 400 + C := by omega
              have HGOOD := Lib.hid (LZ.out.good (fun u h1 h2 => HALL.out u h1 (by omega)))
              clear htC htg hte
              obtain ⟨l0, l1, l2, hlz⟩ := ZB.out.cells
              obtain ⟨a0, a1, a2, hla⟩ := FA.out.cells
              obtain ⟨b0, b1, b2, hlb⟩ := FB.out.cells
              have q0 := QB.out.cell 0
              simp at q0
              have hlq := QB.out.lt
              obtain ⟨⟨r0, r1, r2⟩, ⟨y0, y1, y2⟩, hlr⟩ := RB.out.c3
              go_wp2_with fail
              -- false flag choose1max_any choose1 400 start b.per period b.inc increment HGOOD.out _ _: what FN is made of
              refine (build_any 161 #[.pointer (some ⟨w.heap.size + 1 + 1, 0, none⟩), .pointer (some ⟨F, 0, none⟩), .pointer (some ⟨G, 0, none⟩)] 400 b.per b.inc (exV false a b) _ (by omega) (by omega) (by omega) (by omega) (by omega) (by omega) (by exact fun k hk => HVAL.out k (by omega)) (by exact fun t w1 ht hb => choose1max_any _ F G _ A n c a B m d b t w1 (FA.out.below hb) (FB.out.below hb) (QB.out.below hb QB.out.lt) HA.out HB.out (by omega)) (fun x w => by kernel_rfl)).mono ?_
              rintro e w5 ⟨r, er, hS, A5, n5, c5, rfl, hI5, hA5, hbq⟩
              have FN := Lib.hid (EXT.out _ _ (HGOOD.out _ _ hS))
              have hs0 := RB.out.lt
              have HI5 := Lib.hid hI5; have HA5 := Lib.hid hA5
              clear hS hI5 hA5
              have FA := Lib.hid (FA.out.below hbq); have FB := Lib.hid (FB.out.below hbq); have QB := Lib.hid (QB.out.below hbq QB.out.lt); have RB := Lib.hid (RB.out.below hbq RB.out.lt); have BW := Lib.hid (bthen BW.out hbq)
              clear hbq
              clear a0 a1 a2 hla b0 b1 b2 hlb q0 hlq
              clear r0 r1 r2 y0 y1 y2 hlr
              obtain ⟨a0, a1, a2, hla⟩ := FA.out.cells
              obtain ⟨b0, b1, b2, hlb⟩ := FB.out.cells
              have q0 := QB.out.cell 0
              simp at q0
              have hlq := QB.out.lt
              obtain ⟨⟨r0, r1, r2⟩, ⟨y0, y1, y2⟩, hlr⟩ := RB.out.c3
              go_wp2_with fail
              have rb := RB.out.store3 (.slice A5 n5 c5) (.int .i64 r.per) (.int .i64 r.inc)
              refine bodyPost_ret (v := .tuple #[.agg #[(.slice A5 n5 c5), .int .i64 r.per, .int .i64 r.inc], .int .i64 er]) (by simp [results, Try.results152, go_sem, rb.cell]) rfl ?_
              exact retS_store FN.out HA5.out (by omega) hs0 HI5.out BW.out
    · have HNF := Lib.hid hfin
      by_cases hfa' : a.Fin
      · have hfb' : nth b.vals (b.vals.length - 1) = inf := HB.out.fin_or.resolve_left (fun h => hfin ⟨hfa', h⟩)
        have hfa : (nth a.vals (n - 1) != inf) = true := by rw [bne_iff_ne, ← HL1.out]; exact hfa'.2
        have hfb : (nth b.vals (m - 1) != inf) = false := by rw [bne_eq_false_iff_eq, ← HL2.out]; exact hfb'
        have HFA := Lib.hid hfa'
        clear hfa' hfb' hfin
        go_wp2_with fail
        refine (finite_any A n c a.per a.inc a.vals _ (by exact FA.out.ints) (by omega) (by omega)).mono ?_
        rw [hfa]
        rintro e w4 ⟨rfl, hbq⟩
        have FA := Lib.hid (FA.out.below hbq); have FB := Lib.hid (FB.out.below hbq); have QB := Lib.hid (QB.out.below hbq QB.out.lt); have RB := Lib.hid (RB.out.below hbq RB.out.lt); have BW := Lib.hid (bthen BW.out hbq)
        clear hbq
        clear a0 a1 a2 hla b0 b1 b2 hlb q0 hlq
        clear r0 r1 r2 y0 y1 y2 hlr
        obtain ⟨a0, a1, a2, hla⟩ := FA.out.cells
        obtain ⟨b0, b1, b2, hlb⟩ := FB.out.cells
        have q0 := QB.out.cell 0
        simp at q0
        have hlq := QB.out.lt
        obtain ⟨⟨r0, r1, r2⟩, ⟨y0, y1, y2⟩, hlr⟩ := RB.out.c3
        go_wp2_with fail
        refine (finite_any B m d b.per b.inc b.vals _ (by exact FB.out.ints) (by omega) (by omega)).mono ?_
        rw [hfb]
        rintro e w4 ⟨rfl, hbq⟩
        have FA := Lib.hid (FA.out.below hbq); have FB := Lib.hid (FB.out.below hbq); have QB := Lib.hid (QB.out.below hbq QB.out.lt); have RB := Lib.hid (RB.out.below hbq RB.out.lt); have BW := Lib.hid (bthen BW.out hbq)
        clear hbq
        clear a0 a1 a2 hla b0 b1 b2 hlb q0 hlq
        clear r0 r1 r2 y0 y1 y2 hlr
        obtain ⟨a0, a1, a2, hla⟩ := FA.out.cells
        obtain ⟨b0, b1, b2, hlb⟩ := FB.out.cells
        have q0 := QB.out.cell 0
        simp at q0
        have hlq := QB.out.lt
        obtain ⟨⟨r0, r1, r2⟩, ⟨y0, y1, y2⟩, hlr⟩ := RB.out.c3
        -- false flag choose1max_any choose1
        go_wp2_with fail
        refine (choose1max_any _ F G _ A n c a B m d b S _ (by exact FA.out) (by exact FB.out) (by exact QB.out) HA.out HB.out (by omega)).mono ?_
        obtain ⟨v, hv⟩ : ∃ v, v = exV false a b S := ⟨_, rfl⟩
        rw [← hv]
        rintro e w4 ⟨rfl, hbq⟩
        have HV := Lib.hid hv
        clear hv
        have FA := Lib.hid (FA.out.below hbq); have FB := Lib.hid (FB.out.below hbq); have QB := Lib.hid (QB.out.below hbq QB.out.lt); have RB := Lib.hid (RB.out.below hbq RB.out.lt); have BW := Lib.hid (bthen BW.out hbq)
        clear hbq
        clear a0 a1 a2 hla b0 b1 b2 hlb q0 hlq
        clear r0 r1 r2 y0 y1 y2 hlr
        obtain ⟨a0, a1, a2, hla⟩ := FA.out.cells
        obtain ⟨b0, b1, b2, hlb⟩ := FB.out.cells
        have q0 := QB.out.cell 0
        simp at q0
        have hlq := QB.out.lt
        obtain ⟨⟨r0, r1, r2⟩, ⟨y0, y1, y2⟩, hlr⟩ := RB.out.c3
        by_cases hvi : v = 4611686018427387904
        · have d1 : (v == 4611686018427387904) = true := by simpa using hvi
          have HVI := Lib.hid (show exV false a b S = inf from by rw [← HV.out]; exact hvi)
          clear hvi
          go_wp2_with fail
          -- false flag choose1max_any choose1 S start 1 period 0 increment ex_build HA.out HB.out (s := S) (p := 1) (i := 0) (by omega) (by omega) (fun hne => absurd HVI.out (hne S (by omega))): what FN is made of
          refine (build_any 161 #[.pointer (some ⟨w.heap.size + 1 + 1, 0, none⟩), .pointer (some ⟨F, 0, none⟩), .pointer (some ⟨G, 0, none⟩)] S 1 0 (exV false a b) _ (by omega) (by omega) (by omega) (by omega) (by omega) (by omega) (by exact fun k hk => HVAL.out k (by omega)) (by exact fun t w1 ht hb => choose1max_any _ F G _ A n c a B m d b t w1 (FA.out.below hb) (FB.out.below hb) (QB.out.below hb QB.out.lt) HA.out HB.out (by omega)) (fun x w => by kernel_rfl)).mono ?_
          rintro e w5 ⟨r, er, hS, A5, n5, c5, rfl, hI5, hA5, hbq⟩
          have FN := Lib.hid (EXT.out _ _ (ex_build HA.out HB.out (s := S) (p := 1) (i := 0) (by omega) (by omega) (fun hne => absurd HVI.out (hne S (by omega))) hS))
          have hs0 := RB.out.lt
          have HI5 := Lib.hid hI5; have HA5 := Lib.hid hA5
          clear hS hI5 hA5
          have FA := Lib.hid (FA.out.below hbq); have FB := Lib.hid (FB.out.below hbq); have QB := Lib.hid (QB.out.below hbq QB.out.lt); have RB := Lib.hid (RB.out.below hbq RB.out.lt); have BW := Lib.hid (bthen BW.out hbq)
          clear hbq
          clear a0 a1 a2 hla b0 b1 b2 hlb q0 hlq
          clear r0 r1 r2 y0 y1 y2 hlr
          obtain ⟨a0, a1, a2, hla⟩ := FA.out.cells
          obtain ⟨b0, b1, b2, hlb⟩ := FB.out.cells
          have q0 := QB.out.cell 0
          simp at q0
          have hlq := QB.out.lt
          obtain ⟨⟨r0, r1, r2⟩, ⟨y0, y1, y2⟩, hlr⟩ := RB.out.c3
          go_wp2_with fail
          have rb := RB.out.store3 (.slice A5 n5 c5) (.int .i64 r.per) (.int .i64 r.inc)
          refine bodyPost_ret (v := .tuple #[.agg #[(.slice A5 n5 c5), .int .i64 r.per, .int .i64 r.inc], .int .i64 er]) (by simp [results, Try.results152, go_sem, rb.cell]) rfl ?_
          exact retS_store FN.out HA5.out (by omega) hs0 HI5.out BW.out
        have d1 : (v == 4611686018427387904) = false := by simpa using hvi
        have ONE := Lib.hid (exV_one (l := false) HA.out HB.out HNF.out (by rw [← HS.out, ← HV.out]; exact hvi))
        clear hvi
        go_upto_region 10 with fail
        -- a new variable with the curve a; the world at hand is w4
        have ZB := Lib.hid (Bz.mk (L := L) (c := c) (f := a) (Blk.new w4 44 #[.slice A n c, .int .i64 a.per, .int .i64 a.inc]) ((FA.out.ints).alloc' _) FA.out.lo)
        have hAZ := FA.out.ints.blk_lt (by omega)
        have hBZ := FB.out.ints.blk_lt (by omega)
        have hFZ := FA.out.lt
        have hGZ := FB.out.lt
        have hQZ := QB.out.lt
        have hRZ := RB.out.lt
        have hbq := balloc w4 (.cells #[.slice A n c, .int .i64 a.per, .int .i64 a.inc] 44)
        have FA := Lib.hid (FA.out.below hbq); have FB := Lib.hid (FB.out.below hbq); have QB := Lib.hid (QB.out.below hbq QB.out.lt); have RB := Lib.hid (RB.out.below hbq RB.out.lt); have BW := Lib.hid (bthen BW.out hbq)
        clear hbq
        clear a0 a1 a2 hla b0 b1 b2 hlb q0 hlq
        clear r0 r1 r2 y0 y1 y2 hlr
        generalize hwe : w4.alloc (.cells #[.slice A n c, .int .i64 a.per, .int .i64 a.inc] 44) = we at *
        clear hwe
        generalize w4.heap.size = Z at *
        have PA := Lib.hid (show ∀ t, S ≤ t → exV false a b t = a.at t from by
          rcases ONE.out with ⟨_, h⟩ | ⟨h, _⟩
          · rw [HS.out]; exact h
          · exact absurd HFA.out h)
        -- Finite(a) with the new variable at hand
        obtain ⟨a0, a1, a2, hla⟩ := FA.out.cells
        obtain ⟨b0, b1, b2, hlb⟩ := FB.out.cells
        have q0 := QB.out.cell 0
        simp at q0
        have hlq := QB.out.lt
        go_wp2_with fail
        refine (finite_any A n c a.per a.inc a.vals _ (by exact FA.out.ints) (by omega) (by omega)).mono ?_
        rw [hfa]
        rintro e w4 ⟨rfl, hbq⟩
        have ZB := Lib.hid (ZB.out.below hbq)
        have FA := Lib.hid (FA.out.below hbq); have FB := Lib.hid (FB.out.below hbq); have QB := Lib.hid (QB.out.below hbq QB.out.lt); have RB := Lib.hid (RB.out.below hbq RB.out.lt); have BW := Lib.hid (bthen BW.out hbq)
        clear hbq
        clear a0 a1 a2 hla b0 b1 b2 hlb q0 hlq
        obtain ⟨l0, l1, l2, hlz⟩ := ZB.out.cells
        obtain ⟨a0, a1, a2, hla⟩ := FA.out.cells
        obtain ⟨b0, b1, b2, hlb⟩ := FB.out.cells
        have q0 := QB.out.cell 0
        simp at q0
        have hlq := QB.out.lt
        obtain ⟨⟨r0, r1, r2⟩, ⟨y0, y1, y2⟩, hlr⟩ := RB.out.c3
        go_wp2_with fail
        -- false flag choose1max_any choose1 S start a.per period a.inc increment ex_build HA.out HB.out (s := S) (p := a.per.toNat) (i := a.inc) (by omega) (by omega) (fun _ t ht => by rw [PA.out t ht, PA.out _ (by omega)]; exact HFA.out.toL.step t (by have h1 := (ord_b HA.out HB.out).fs; rw [← HS.out] at h1; omega)): what FN is made of
        refine (build_any 161 #[.pointer (some ⟨w.heap.size + 1 + 1, 0, none⟩), .pointer (some ⟨F, 0, none⟩), .pointer (some ⟨G, 0, none⟩)] S a.per a.inc (exV false a b) _ (by omega) (by omega) (by omega) (by omega) (by omega) (by omega) (by exact fun k hk => HVAL.out k (by omega)) (by exact fun t w1 ht hb => choose1max_any _ F G _ A n c a B m d b t w1 (FA.out.below hb) (FB.out.below hb) (QB.out.below hb QB.out.lt) HA.out HB.out (by omega)) (fun x w => by kernel_rfl)).mono ?_
        rintro e w5 ⟨r, er, hS, A5, n5, c5, rfl, hI5, hA5, hbq⟩
        have FN := Lib.hid (EXT.out _ _ (ex_build HA.out HB.out (s := S) (p := a.per.toNat) (i := a.inc) (by omega) (by omega) (fun _ t ht => by rw [PA.out t ht, PA.out _ (by omega)]; exact HFA.out.toL.step t (by have h1 := (ord_b HA.out HB.out).fs; rw [← HS.out] at h1; omega)) hS))
        have hs0 := RB.out.lt
        have HI5 := Lib.hid hI5; have HA5 := Lib.hid hA5
        clear hS hI5 hA5
        have FA := Lib.hid (FA.out.below hbq); have FB := Lib.hid (FB.out.below hbq); have QB := Lib.hid (QB.out.below hbq QB.out.lt); have RB := Lib.hid (RB.out.below hbq RB.out.lt); have BW := Lib.hid (bthen BW.out hbq)
        clear hbq
        clear a0 a1 a2 hla b0 b1 b2 hlb q0 hlq
        clear r0 r1 r2 y0 y1 y2 hlr
        obtain ⟨a0, a1, a2, hla⟩ := FA.out.cells
        obtain ⟨b0, b1, b2, hlb⟩ := FB.out.cells
        have q0 := QB.out.cell 0
        simp at q0
        have hlq := QB.out.lt
        obtain ⟨⟨r0, r1, r2⟩, ⟨y0, y1, y2⟩, hlr⟩ := RB.out.c3
        go_wp2_with fail
        have rb := RB.out.store3 (.slice A5 n5 c5) (.int .i64 r.per) (.int .i64 r.inc)
        refine bodyPost_ret (v := .tuple #[.agg #[(.slice A5 n5 c5), .int .i64 r.per, .int .i64 r.inc], .int .i64 er]) (by simp [results, Try.results152, go_sem, rb.cell]) rfl ?_
        exact retS_store FN.out HA5.out (by omega) hs0 HI5.out BW.out
      · have hfa2 : nth a.vals (a.vals.length - 1) = inf := HA.out.fin_or.resolve_left hfa'
        have hfa : (nth a.vals (n - 1) != inf) = false := by rw [bne_eq_false_iff_eq, ← HL1.out]; exact hfa2
        have HFA := Lib.hid hfa'
        clear hfa' hfa2 hfin
        go_wp2_with fail
        refine (finite_any A n c a.per a.inc a.vals _ (by exact FA.out.ints) (by omega) (by omega)).mono ?_
        rw [hfa]
        rintro e w4 ⟨rfl, hbq⟩
        have FA := Lib.hid (FA.out.below hbq); have FB := Lib.hid (FB.out.below hbq); have QB := Lib.hid (QB.out.below hbq QB.out.lt); have RB := Lib.hid (RB.out.below hbq RB.out.lt); have BW := Lib.hid (bthen BW.out hbq)
        clear hbq
        clear a0 a1 a2 hla b0 b1 b2 hlb q0 hlq
        clear r0 r1 r2 y0 y1 y2 hlr
        obtain ⟨a0, a1, a2, hla⟩ := FA.out.cells
        obtain ⟨b0, b1, b2, hlb⟩ := FB.out.cells
        have q0 := QB.out.cell 0
        simp at q0
        have hlq := QB.out.lt
        obtain ⟨⟨r0, r1, r2⟩, ⟨y0, y1, y2⟩, hlr⟩ := RB.out.c3
        -- false flag choose1max_any choose1
        go_wp2_with fail
        refine (choose1max_any _ F G _ A n c a B m d b S _ (by exact FA.out) (by exact FB.out) (by exact QB.out) HA.out HB.out (by omega)).mono ?_
        obtain ⟨v, hv⟩ : ∃ v, v = exV false a b S := ⟨_, rfl⟩
        rw [← hv]
        rintro e w4 ⟨rfl, hbq⟩
        have HV := Lib.hid hv
        clear hv
        have FA := Lib.hid (FA.out.below hbq); have FB := Lib.hid (FB.out.below hbq); have QB := Lib.hid (QB.out.below hbq QB.out.lt); have RB := Lib.hid (RB.out.below hbq RB.out.lt); have BW := Lib.hid (bthen BW.out hbq)
        clear hbq
        clear a0 a1 a2 hla b0 b1 b2 hlb q0 hlq
        clear r0 r1 r2 y0 y1 y2 hlr
        obtain ⟨a0, a1, a2, hla⟩ := FA.out.cells
        obtain ⟨b0, b1, b2, hlb⟩ := FB.out.cells
        have q0 := QB.out.cell 0
        simp at q0
        have hlq := QB.out.lt
        obtain ⟨⟨r0, r1, r2⟩, ⟨y0, y1, y2⟩, hlr⟩ := RB.out.c3
        by_cases hvi : v = 4611686018427387904
        · have d1 : (v == 4611686018427387904) = true := by simpa using hvi
          have HVI := Lib.hid (show exV false a b S = inf from by rw [← HV.out]; exact hvi)
          clear hvi
          go_wp2_with fail
          -- false flag choose1max_any choose1 S start 1 period 0 increment ex_build HA.out HB.out (s := S) (p := 1) (i := 0) (by omega) (by omega) (fun hne => absurd HVI.out (hne S (by omega))): what FN is made of
          refine (build_any 161 #[.pointer (some ⟨w.heap.size + 1 + 1, 0, none⟩), .pointer (some ⟨F, 0, none⟩), .pointer (some ⟨G, 0, none⟩)] S 1 0 (exV false a b) _ (by omega) (by omega) (by omega) (by omega) (by omega) (by omega) (by exact fun k hk => HVAL.out k (by omega)) (by exact fun t w1 ht hb => choose1max_any _ F G _ A n c a B m d b t w1 (FA.out.below hb) (FB.out.below hb) (QB.out.below hb QB.out.lt) HA.out HB.out (by omega)) (fun x w => by kernel_rfl)).mono ?_
          rintro e w5 ⟨r, er, hS, A5, n5, c5, rfl, hI5, hA5, hbq⟩
          have FN := Lib.hid (EXT.out _ _ (ex_build HA.out HB.out (s := S) (p := 1) (i := 0) (by omega) (by omega) (fun hne => absurd HVI.out (hne S (by omega))) hS))
          have hs0 := RB.out.lt
          have HI5 := Lib.hid hI5; have HA5 := Lib.hid hA5
          clear hS hI5 hA5
          have FA := Lib.hid (FA.out.below hbq); have FB := Lib.hid (FB.out.below hbq); have QB := Lib.hid (QB.out.below hbq QB.out.lt); have RB := Lib.hid (RB.out.below hbq RB.out.lt); have BW := Lib.hid (bthen BW.out hbq)
          clear hbq
          clear a0 a1 a2 hla b0 b1 b2 hlb q0 hlq
          clear r0 r1 r2 y0 y1 y2 hlr
          obtain ⟨a0, a1, a2, hla⟩ := FA.out.cells
          obtain ⟨b0, b1, b2, hlb⟩ := FB.out.cells
          have q0 := QB.out.cell 0
          simp at q0
          have hlq := QB.out.lt
          obtain ⟨⟨r0, r1, r2⟩, ⟨y0, y1, y2⟩, hlr⟩ := RB.out.c3
          go_wp2_with fail
          have rb := RB.out.store3 (.slice A5 n5 c5) (.int .i64 r.per) (.int .i64 r.inc)
          refine bodyPost_ret (v := .tuple #[.agg #[(.slice A5 n5 c5), .int .i64 r.per, .int .i64 r.inc], .int .i64 er]) (by simp [results, Try.results152, go_sem, rb.cell]) rfl ?_
          exact retS_store FN.out HA5.out (by omega) hs0 HI5.out BW.out
        have d1 : (v == 4611686018427387904) = false := by simpa using hvi
        have ONE := Lib.hid (exV_one (l := false) HA.out HB.out HNF.out (by rw [← HS.out, ← HV.out]; exact hvi))
        clear hvi
        go_upto_region 10 with fail
        -- a new variable with the curve a; the world at hand is w4
        have ZB := Lib.hid (Bz.mk (L := L) (c := c) (f := a) (Blk.new w4 44 #[.slice A n c, .int .i64 a.per, .int .i64 a.inc]) ((FA.out.ints).alloc' _) FA.out.lo)
        have hAZ := FA.out.ints.blk_lt (by omega)
        have hBZ := FB.out.ints.blk_lt (by omega)
        have hFZ := FA.out.lt
        have hGZ := FB.out.lt
        have hQZ := QB.out.lt
        have hRZ := RB.out.lt
        have hbq := balloc w4 (.cells #[.slice A n c, .int .i64 a.per, .int .i64 a.inc] 44)
        have FA := Lib.hid (FA.out.below hbq); have FB := Lib.hid (FB.out.below hbq); have QB := Lib.hid (QB.out.below hbq QB.out.lt); have RB := Lib.hid (RB.out.below hbq RB.out.lt); have BW := Lib.hid (bthen BW.out hbq)
        clear hbq
        clear a0 a1 a2 hla b0 b1 b2 hlb q0 hlq
        clear r0 r1 r2 y0 y1 y2 hlr
        generalize hwe : w4.alloc (.cells #[.slice A n c, .int .i64 a.per, .int .i64 a.inc] 44) = we at *
        clear hwe
        generalize w4.heap.size = Z at *
        have PB := Lib.hid (show b.Fin ∧ ∀ t, S ≤ t → exV false a b t = b.at t from by
          rcases ONE.out with ⟨h, _⟩ | ⟨_, h1, h2⟩
          · exact absurd h HFA.out
          · rw [HS.out]; exact ⟨h1, h2⟩)
        -- Finite(a) with the new variable at hand
        obtain ⟨a0, a1, a2, hla⟩ := FA.out.cells
        obtain ⟨b0, b1, b2, hlb⟩ := FB.out.cells
        have q0 := QB.out.cell 0
        simp at q0
        have hlq := QB.out.lt
        go_wp2_with fail
        refine (finite_any A n c a.per a.inc a.vals _ (by exact FA.out.ints) (by omega) (by omega)).mono ?_
        rw [hfa]
        rintro e w4 ⟨rfl, hbq⟩
        have ZB := Lib.hid (ZB.out.below hbq)
        have FA := Lib.hid (FA.out.below hbq); have FB := Lib.hid (FB.out.below hbq); have QB := Lib.hid (QB.out.below hbq QB.out.lt); have RB := Lib.hid (RB.out.below hbq RB.out.lt); have BW := Lib.hid (bthen BW.out hbq)
        clear hbq
        clear a0 a1 a2 hla b0 b1 b2 hlb q0 hlq
        obtain ⟨⟨l0, l1, l2⟩, ⟨k0, k1, k2⟩, hlz⟩ := ZB.out.blk.c3
        obtain ⟨a0, a1, a2, hla⟩ := FA.out.cells
        obtain ⟨b0, b1, b2, hlb⟩ := FB.out.cells
        have q0 := QB.out.cell 0
        simp at q0
        have hlq := QB.out.lt
        obtain ⟨⟨r0, r1, r2⟩, ⟨y0, y1, y2⟩, hlr⟩ := RB.out.c3
        go_upto_region 12 with fail
        clear l0 l1 l2 k0 k1 k2 hlz
        clear a0 a1 a2 hla b0 b1 b2 hlb q0 hlq
        clear r0 r1 r2 y0 y1 y2 hlr
        -- the curve b is stored to the new variable; the world at hand is w4
        have st := Sto.three Z w4 (.slice B m d) (.int .i64 b.per) (.int .i64 b.inc)
        have ZB := Lib.hid (Bz.putN (c := d) ZB.out.blk FB.out.ints FB.out.lo hBZ)
        have FA := Lib.hid (FA.out.stoN st (by omega) hAZ); have FB := Lib.hid (FB.out.stoN st (by omega) hBZ); have QB := Lib.hid (QB.out.sto st (by omega)); have RB := Lib.hid (RB.out.sto st (by omega)); have BW := Lib.hid (bsto BW.out st (by omega))
        clear st
        generalize hwe : ((w4.setCell ⟨Z, 0, none⟩ (.slice B m d)).setCell ⟨Z, 1, none⟩ (.int .i64 b.per)).setCell ⟨Z, 2, none⟩ (.int .i64 b.inc) = wf at *
        clear hwe
        obtain ⟨l0, l1, l2, hlz⟩ := ZB.out.cells
        obtain ⟨a0, a1, a2, hla⟩ := FA.out.cells
        obtain ⟨b0, b1, b2, hlb⟩ := FB.out.cells
        have q0 := QB.out.cell 0
        simp at q0
        have hlq := QB.out.lt
        obtain ⟨⟨r0, r1, r2⟩, ⟨y0, y1, y2⟩, hlr⟩ := RB.out.c3
        go_wp2_with fail
        -- false flag choose1max_any choose1 S start b.per period b.inc increment ex_build HA.out HB.out (s := S) (p := b.per.toNat) (i := b.inc) (by omega) (by omega) (fun _ t ht => by rw [PB.out.2 t ht, PB.out.2 _ (by omega)]; exact PB.out.1.toL.step t (by have h1 := (ord_b HA.out HB.out).gs; rw [← HS.out] at h1; omega)): what FN is made of
        refine (build_any 161 #[.pointer (some ⟨w.heap.size + 1 + 1, 0, none⟩), .pointer (some ⟨F, 0, none⟩), .pointer (some ⟨G, 0, none⟩)] S b.per b.inc (exV false a b) _ (by omega) (by omega) (by omega) (by omega) (by omega) (by omega) (by exact fun k hk => HVAL.out k (by omega)) (by exact fun t w1 ht hb => choose1max_any _ F G _ A n c a B m d b t w1 (FA.out.below hb) (FB.out.below hb) (QB.out.below hb QB.out.lt) HA.out HB.out (by omega)) (fun x w => by kernel_rfl)).mono ?_
        rintro e w5 ⟨r, er, hS, A5, n5, c5, rfl, hI5, hA5, hbq⟩
        have FN := Lib.hid (EXT.out _ _ (ex_build HA.out HB.out (s := S) (p := b.per.toNat) (i := b.inc) (by omega) (by omega) (fun _ t ht => by rw [PB.out.2 t ht, PB.out.2 _ (by omega)]; exact PB.out.1.toL.step t (by have h1 := (ord_b HA.out HB.out).gs; rw [← HS.out] at h1; omega)) hS))
        have hs0 := RB.out.lt
        have HI5 := Lib.hid hI5; have HA5 := Lib.hid hA5
        clear hS hI5 hA5
        have FA := Lib.hid (FA.out.below hbq); have FB := Lib.hid (FB.out.below hbq); have QB := Lib.hid (QB.out.below hbq QB.out.lt); have RB := Lib.hid (RB.out.below hbq RB.out.lt); have BW := Lib.hid (bthen BW.out hbq)
        clear hbq
        clear a0 a1 a2 hla b0 b1 b2 hlb q0 hlq
        clear r0 r1 r2 y0 y1 y2 hlr
        obtain ⟨a0, a1, a2, hla⟩ := FA.out.cells
        obtain ⟨b0, b1, b2, hlb⟩ := FB.out.cells
        have q0 := QB.out.cell 0
        simp at q0
        have hlq := QB.out.lt
        obtain ⟨⟨r0, r1, r2⟩, ⟨y0, y1, y2⟩, hlr⟩ := RB.out.c3
        go_wp2_with fail
        have rb := RB.out.store3 (.slice A5 n5 c5) (.int .i64 r.per) (.int .i64 r.inc)
        refine bodyPost_ret (v := .tuple #[.agg #[(.slice A5 n5 c5), .int .i64 r.per, .int .i64 r.inc], .int .i64 er]) (by simp [results, Try.results152, go_sem, rb.cell]) rfl ?_
        exact retS_store FN.out HA5.out (by omega) hs0 HI5.out BW.out

-- netcalculus/pointwise.Minimum the function, true flag, chooseMin_any the contract of choose, pmin_any the name
set_option maxHeartbeats 1000000 in
set_option maxRecDepth 100000 in
theorem pmin_any (A0 B0 : Option Addr) (n0 m0 c0 d0 : Nat) (p i q j : Int) (xs ys : List Int) (w : World) (hA : Ints w w.heap.size A0 n0 xs) (hB : Ints w w.heap.size B0 m0 ys) (hn : (n0 : Int) ≤ 1000000) (hm : (m0 : Int) ≤ 1000000) :
    Calls Try.prog 114 #[.agg #[.slice A0 n0 c0, .int .i64 p, .int .i64 i], .agg #[.slice B0 m0 d0, .int .i64 q, .int .i64 j]] w (RetS (ExtS true ⟨xs, p, i⟩ ⟨ys, q, j⟩) w) := by
  have P := Lib.hid ((PT.new (c := c0) (p := p) (i := i) (d := d0) (q := q) (j := j) hA hB).alloc (.cells #[.slice none 0 0, .int .i64 0, .int .i64 0] 44))
  have rb := Blk.new ((w.alloc (.cells #[.slice A0 n0 c0, .int .i64 p, .int .i64 i] 44)).alloc (.cells #[.slice B0 m0 d0, .int .i64 q, .int .i64 j] 44)) 44 #[.slice none 0 0, .int .i64 0, .int .i64 0]
  rw [World.size_alloc, World.size_alloc] at rb
  have RB := Lib.hid rb
  clear hA hB rb
  go_enter Try.func114, Try.ntmps114
  go_wp2_with fail
  refine (chooseMin_any A0 B0 n0 m0 c0 d0 p i q j xs ys _ P.out.ia P.out.ib hn hm).mono ?_
  rintro e w1 ⟨r, er, hS, A5, n5, c5, rfl, hI5, hA5, hb⟩
  have hs0 := RB.out.lt
  replace RB := Lib.hid (RB.out.below hb RB.out.lt)
  have BW := Lib.hid (bthen P.out.bw hb)
  have FN := Lib.hid hS; have HI5 := Lib.hid hI5; have HA5 := Lib.hid hA5
  clear hS hI5 hA5 hb P
  obtain ⟨⟨r0, r1, r2⟩, ⟨y0, y1, y2⟩, hlr⟩ := RB.out.c3
  go_wp2_with fail
  have rb := RB.out.store3 (.slice A5 n5 c5) (.int .i64 r.per) (.int .i64 r.inc)
  refine bodyPost_ret (v := .tuple #[.agg #[.slice A5 n5 c5, .int .i64 r.per, .int .i64 r.inc], .int .i64 er]) (by simp [results, Try.results114, go_sem, rb.cell]) rfl ?_
  exact retS_store FN.out HA5.out (by omega) hs0 HI5.out BW.out
-- netcalculus/pointwise.Maximum the function, false flag, chooseMax_any the contract of choose, pmax_any the name
set_option maxHeartbeats 1000000 in
set_option maxRecDepth 100000 in
theorem pmax_any (A0 B0 : Option Addr) (n0 m0 c0 d0 : Nat) (p i q j : Int) (xs ys : List Int) (w : World) (hA : Ints w w.heap.size A0 n0 xs) (hB : Ints w w.heap.size B0 m0 ys) (hn : (n0 : Int) ≤ 1000000) (hm : (m0 : Int) ≤ 1000000) :
    Calls Try.prog 123 #[.agg #[.slice A0 n0 c0, .int .i64 p, .int .i64 i], .agg #[.slice B0 m0 d0, .int .i64 q, .int .i64 j]] w (RetS (ExtS false ⟨xs, p, i⟩ ⟨ys, q, j⟩) w) := by
  have P := Lib.hid ((PT.new (c := c0) (p := p) (i := i) (d := d0) (q := q) (j := j) hA hB).alloc (.cells #[.slice none 0 0, .int .i64 0, .int .i64 0] 44))
  have rb := Blk.new ((w.alloc (.cells #[.slice A0 n0 c0, .int .i64 p, .int .i64 i] 44)).alloc (.cells #[.slice B0 m0 d0, .int .i64 q, .int .i64 j] 44)) 44 #[.slice none 0 0, .int .i64 0, .int .i64 0]
  rw [World.size_alloc, World.size_alloc] at rb
  have RB := Lib.hid rb
  clear hA hB rb
  go_enter Try.func123, Try.ntmps123
  go_wp2_with fail
  refine (chooseMax_any A0 B0 n0 m0 c0 d0 p i q j xs ys _ P.out.ia P.out.ib hn hm).mono ?_
  rintro e w1 ⟨r, er, hS, A5, n5, c5, rfl, hI5, hA5, hb⟩
  have hs0 := RB.out.lt
  replace RB := Lib.hid (RB.out.below hb RB.out.lt)
  have BW := Lib.hid (bthen P.out.bw hb)
  have FN := Lib.hid hS; have HI5 := Lib.hid hI5; have HA5 := Lib.hid hA5
  clear hS hI5 hA5 hb P
  obtain ⟨⟨r0, r1, r2⟩, ⟨y0, y1, y2⟩, hlr⟩ := RB.out.c3
  go_wp2_with fail
  have rb := RB.out.store3 (.slice A5 n5 c5) (.int .i64 r.per) (.int .i64 r.inc)
  refine bodyPost_ret (v := .tuple #[.agg #[.slice A5 n5 c5, .int .i64 r.per, .int .i64 r.inc], .int .i64 er]) (by simp [results, Try.results123, go_sem, rb.cell]) rfl ?_
  exact retS_store FN.out HA5.out (by omega) hs0 HI5.out BW.out
end Go.Proofs.Ythgfmaijoigckaa
