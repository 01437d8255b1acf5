/- Package order, the second part: the pair of two valid curves. -/
import Derived.Deep.DeepCutAuto
import Derived.WalkMore
import Derived.Deep.QuietTactic
import Derived.BigQuiet
import Derived.Test.YtaejfleahamapaaGreatTa14
import Derived.Test.YtaejfleahamapaaGreatTa2
import Derived.Test.YtaejfleahamapaaGreatTa16
import Derived.Test.YtaejfleahamapaaGreatTa17
import Derived.Test.YtaejfleahamapaaGreatTa3
import Derived.Test.YtaejfleahamapaaGreatTa1
import Derived.Test.YtaejfleahamapaaGreatTa11
import Derived.Test.YtaejfleahamapaaGreatTa8
namespace Go.Proofs.YtaejfleahamapaaGreat
set_option linter.unusedVariables false
set_option linter.unusedSimpArgs false
section
open Go.RowKit
set_option maxHeartbeats 4000000 in
set_option maxRecDepth 100000 in
theorem dboth_any (A B : Option Addr) (n m c d : Nat) (p i q j : Int) (xs ys : List Int) (w : World) (hA : Ints w w.heap.size A n xs) (hB : Ints w w.heap.size B m ys) (hn : (n : Int) ≤ 1000000) (hm : (m : Int) ≤ 1000000) :
 Calls Tryz.prog 48 #[.agg #[.slice A n c, .int .i64 p, .int .i64 i], .agg #[.slice B m d, .int .i64 q, .int .i64 j]] w (RetBo ⟨xs, p, i⟩ ⟨ys, q, j⟩ w) := by
 have P := hi_ ((PS.new (c := c) (p := p) (i := i) (d := d) (q := q) (j := j) hA hB).alloc (.cells zero8 102))
 have rb := Blk.new ((w.alloc (.cells #[.slice A n c, .int .i64 p, .int .i64 i] 26)).alloc (.cells #[.slice B m d, .int .i64 q, .int .i64 j] 26)) 102 zero8
 rw [World.size_alloc, World.size_alloc] at rb
 have RB := hi_ rb
 clear hA hB rb
 unfold zero8 at P RB
 go_enter Tryz.func48, Tryz.ntmps48
 go_wp2_with fail
 refine (normal_any A n c p i xs _ P.out.ia hn).mono ?_
 rintro e w1 ⟨a, er, hN, A1, n1, c1, rfl, hI1, hA1, hb1⟩
 simp only [World.size_alloc] at hA1
 have HN := hi_ (NormR.of hN)
 have P := hi_ (P.out.below hb1)
 have RB := hi_ (RB.out.below hb1 RB.out.lt)
 have HI1 := hi_ hI1
 have hs1 := RB.out.lt
 clear hN hI1 hb1
 rcases HN.out with ⟨hfo, hnf, hao, rfl⟩ | ⟨hno, rfl, rfl⟩
 ·have ha1 := hao.n1; have ha2 := hao.n2; have hap := hao.p1; have hap2 := hao.p2; have hai := hao.i1; have hai2 := hao.i2; have hapn := hao.pn
  have hl1 : a.vals.length = n1 := HI1.out.1
  rw [hl1] at ha1 ha2 hapn
  have FA := hi_ (Bx.new (c := c1) (f := a) HI1.out hA1 (Nat.le_refl _) (by omega) (by omega))
  have P := hi_ (P.out.alloc (.cells #[.slice A1 n1 c1, .int .i64 a.per, .int .i64 a.inc] 26))
  have RB := hi_ (RB.out.alloc (.cells #[.slice A1 n1 c1, .int .i64 a.per, .int .i64 a.inc] 26))
  have HNF := hi_ hnf; have HFO := hi_ hfo; have HAO := hi_ hao; have HL1 := hi_ hl1
  clear hnf hfo hao HI1 hA1 HN hl1
  obtain ⟨f0, f1, f2, g0, g1, g2, hlf, hlg⟩ := P.out.cells
  go_wp2_with fail
  refine (normal_any B m d q j ys _ P.out.ib hm).mono ?_
  rintro e w2 ⟨b, er, hN, A2, n2, c2, rfl, hI2, hA2, hb2⟩
  simp only [World.size_alloc] at hA2
  have HN := hi_ (NormR.of hN)
  have RB := hi_ (RB.out.below hb2 RB.out.lt)
  have FA := hi_ (FA.out.below hb2)
  have BW := hi_ (bthen P.out.bw hb2)
  have HI2 := hi_ hI2
  have hs2 := RB.out.lt
  have hs3 := FA.out.lt
  clear hN hI2 hb2 P f0 f1 f2 g0 g1 g2 hlf hlg
  rcases HN.out with ⟨hgo, hnf, hbo, rfl⟩ | ⟨hno, rfl, rfl⟩
  ·have hb1 := hbo.n1; have hb2 := hbo.n2; have hbp := hbo.p1; have hbp2 := hbo.p2; have hbi := hbo.i1; have hbi2 := hbo.i2; have hbpn := hbo.pn
   have hl2 : b.vals.length = n2 := HI2.out.1
   rw [hl2] at hb1 hb2 hbpn
   have FB := hi_ (Bx.new (L := w.heap.size + 1 + 1 + 1) (c := c2) (f := b) HI2.out hA2 (by omega) (by omega) (by omega))
   have FA := hi_ (FA.out.alloc (.cells #[.slice A2 n2 c2, .int .i64 b.per, .int .i64 b.inc] 26))
   have RB := hi_ (RB.out.alloc (.cells #[.slice A2 n2 c2, .int .i64 b.per, .int .i64 b.inc] 26))
   have BW := hi_ (bthen BW.out (balloc _ (.cells #[.slice A2 n2 c2, .int .i64 b.per, .int .i64 b.inc] 26)))
   have HNG := hi_ hnf; have HGO := hi_ hgo; have HBO := hi_ hbo; have HL2 := hi_ hl2
   clear hnf hgo hbo HI2 hA2 HN hl2
   obtain ⟨a0, a1, a2, hla⟩ := FA.out.cells
   obtain ⟨b0, b1, b2, hlb⟩ := FB.out.cells
   go_wp2_with fail
   refine (common2_any a.per b.per _ (by omega) (by omega) (by omega) (by omega)).mono ?_
   rintro e w3 ⟨rfl, hb3⟩
   obtain ⟨C, hC⟩ : ∃ C, C = comm a.per.toNat b.per.toNat := ⟨_, rfl⟩
   rw [← hC]
   have RB := hi_ (RB.out.below hb3 RB.out.lt)
   have FA := hi_ (FA.out.below hb3)
   have FB := hi_ (FB.out.below hb3)
   have BW := hi_ (bthen BW.out hb3)
   have HC := hi_ hC
   have hs4 := FB.out.lt
   clear hb3 hC
   clear a0 a1 a2 hla b0 b1 b2 hlb
   obtain ⟨a0, a1, a2, hla⟩ := FA.out.cells
   obtain ⟨b0, b1, b2, hlb⟩ := FB.out.cells
   by_cases hcc : 120 < C
   ·have F := hi_ (show BothBad ⟨xs, p, i⟩ ⟨ys, q, j⟩ 3 from .inr ⟨HFO.out, HGO.out, rfl, a, b, HNF.out, HNG.out, by rw [← HC.out]; exact hcc⟩)
    have hci : (120 : Int) < (C : Int) := by omega
    clear hcc
    go_wp2_with (refine wpList_storeN rfl 102 _ _ rfl rfl RB.out rfl rfl (by kernel_rfl) (by simp [Value.oneCell']) ?_; intro wz hsto rz)
    exact bodyPost_ret (v := .tuple #[.agg zero8, .int .i64 3]) (by simp [results, Tryz.results48, go_sem, rz.cell, zero8]) rfl (.inl ⟨_, F.out, rfl, bsto BW.out hsto (by omega)⟩)
   ·have hci : ¬ (120 : Int) < (C : Int) := by omega
    have hc120 : (C : Int) ≤ 120 := by omega
    clear hcc
    go_upto_region 10 with fail
    obtain ⟨S, hS⟩ : ∃ S, S = ordF a b := ⟨_, rfl⟩
    have hmx : (if (n1 : Int) - a.per < (n2 : Int) - b.per then (n2 : Int) - b.per else (n1 : Int) - a.per) = (S : Int) := by
     rw [hS]; unfold ordF; rw [HL1.out, HL2.out]; split <;> omega
    have hSb : (S : Int) ≤ 400 := by rw [hS]; unfold ordF; rw [HL1.out, HL2.out]; omega
    have e1 : IntKind.i64.wrap ((S : Int) + (C : Int)) = (S : Int) + (C : Int) := IntWalk.i64_in _ (by omega)
    have HS := hi_ hS
    clear hS
    go_cut [10] (fun s10 wx => ∃ P : Nat, s10 = .pointer (some ⟨P, 0, none⟩) ∧ w2.heap.size < P ∧ Blk wx P 102 #[.slice A1 n1 c1, .int .i64 a.per, .int .i64 a.inc, .slice A2 n2 c2, .int .i64 b.per, .int .i64 b.inc, .int .i64 ((S : Int) + (C : Int)), .bool false] ∧
     Bx (w.heap.size + 1 + 1 + 1) wx w1.heap.size A1 n1 c1 a ∧ Bx (w.heap.size + 1 + 1 + 1) wx w2.heap.size A2 n2 c2 b ∧ Blk wx (w.heap.size + 1 + 1) 102 #[.slice none 0 0, .int .i64 0, .int .i64 0, .slice none 0 0, .int .i64 0, .int .i64 0, .int .i64 0, .bool false] ∧ Below w.heap.size w wx)
    case first =>
     have FA := hi_ FA.out.drew; have FB := hi_ FB.out.drew; have RB := hi_ (Blk.drew RB.out); have BW := hi_ (Below.drew BW.out)
     clear a0 a1 a2 hla b0 b1 b2 hlb
     obtain ⟨a0, a1, a2, hla⟩ := FA.out.cells
     obtain ⟨b0, b1, b2, hlb⟩ := FB.out.cells
     refine wp_region_held_drew (S := fun w' => w'.cell? ⟨w1.heap.size, 0, none⟩ = some (.slice A1 n1 c1) ∧ w'.cell? ⟨w1.heap.size, 1, none⟩ = some (.int .i64 a.per) ∧ w'.cell? ⟨w1.heap.size, 2, none⟩ = some (.int .i64 a.inc) ∧ w'.cell? ⟨w2.heap.size, 0, none⟩ = some (.slice A2 n2 c2) ∧ w'.cell? ⟨w2.heap.size, 1, none⟩ = some (.int .i64 b.per) ∧ w'.cell? ⟨w2.heap.size, 2, none⟩ = some (.int .i64 b.inc)) (by kernel_rfl) ⟨a0, a1, a2, b0, b1, b2⟩ (fun hHeld => ?_)
     generalize hwd : w3.drew = wd at *
     clear hwd
     refine tkO [0, 1, 2, 4, 7] ?_; (iterate 5 refine tkI ?_); refine tkX ?_
     refine rdB 3 10 (fun K hK => ?_) (fun K hK => ?_)
     ·rw [if_pos (by rfl)]
      go_simp
      refine (start_any A1 n1 c1 a.per a.inc _ (by omega) (by omega) (by omega)).mono ?_
      rintro e wa ⟨rfl, hbq⟩
      have FA := hi_ (FA.out.below hbq); have FB := hi_ (FB.out.below hbq); have RB := hi_ (RB.out.below hbq RB.out.lt); have BW := hi_ (bthen BW.out hbq)
      try (have ZB := hi_ (ZB.out.below hbq ZB.out.lt))
      clear hbq hHeld
      clear a0 a1 a2 hla b0 b1 b2 hlb
      obtain ⟨a0, a1, a2, hla⟩ := FA.out.cells
      obtain ⟨b0, b1, b2, hlb⟩ := FB.out.cells
      refine bkS hK (by exact ⟨a0, a1, a2, b0, b1, b2⟩) (fun hHeld => ?_); clear hK K
      refine rdB 5 10 (fun K hK => ?_) (fun K hK => ?_)
      ·rw [if_pos (by rfl)]
       go_simp
       refine (start_any A2 n2 c2 b.per b.inc _ (by omega) (by omega) (by omega)).mono ?_
       rintro e wb ⟨rfl, hbq⟩
       have FA := hi_ (FA.out.below hbq); have FB := hi_ (FB.out.below hbq); have RB := hi_ (RB.out.below hbq RB.out.lt); have BW := hi_ (bthen BW.out hbq)
       try (have ZB := hi_ (ZB.out.below hbq ZB.out.lt))
       clear hbq hHeld
       clear a0 a1 a2 hla b0 b1 b2 hlb
       obtain ⟨a0, a1, a2, hla⟩ := FA.out.cells
       obtain ⟨b0, b1, b2, hlb⟩ := FB.out.cells
       refine bkS hK (by exact ⟨a0, a1, a2, b0, b1, b2⟩) (fun hHeld => ?_); clear hK K
       refine rdB 6 10 (fun K hK => ?_) (fun K hK => ?_)
       ·rw [if_pos (by rfl)]
        go_simp
        refine bkS hK (by exact ⟨a0, a1, a2, b0, b1, b2⟩) (fun hHeld => ?_); clear hK K
        refine tkO [8, 9] ?_; (iterate 2 refine tkI ?_); refine tkX ?_
        refine rdy2 10 (fun K hK => ?_)
        go_simp
        have hbq := balloc wb (.cells #[.slice none 0 0, .int .i64 0, .int .i64 0, .slice none 0 0, .int .i64 0, .int .i64 0, .int .i64 0, .bool false] 102)
        have zb := Blk.new wb 102 #[.slice none 0 0, .int .i64 0, .int .i64 0, .slice none 0 0, .int .i64 0, .int .i64 0, .int .i64 0, .bool false]
        have hP := FB.out.lt
        have ZB := hi_ zb
        clear zb
        generalize hwa : wb.alloc (.cells #[.slice none 0 0, .int .i64 0, .int .i64 0, .slice none 0 0, .int .i64 0, .int .i64 0, .int .i64 0, .bool false] 102) = wc at *
        clear hwa
        have FA := hi_ (FA.out.below hbq); have FB := hi_ (FB.out.below hbq); have RB := hi_ (RB.out.below hbq RB.out.lt); have BW := hi_ (bthen BW.out hbq)
        clear hbq hHeld
        clear a0 a1 a2 hla b0 b1 b2 hlb
        obtain ⟨a0, a1, a2, hla⟩ := FA.out.cells
        obtain ⟨b0, b1, b2, hlb⟩ := FB.out.cells
        refine bkS hK (by exact ⟨a0, a1, a2, b0, b1, b2⟩) (fun hHeld => ?_); clear hK K
        refine rdy1 11 (fun K hK => ?_)
        refine step_storeN rfl 102 _ _ rfl rfl ZB.out rfl rfl (by kernel_rfl) (by simp [Value.oneCell']) ?_
        intro wz hsto rz
        have FA := hi_ (FA.out.sto hsto (.inl (by omega))); have FB := hi_ (FB.out.sto hsto (.inl (by omega))); have RB := hi_ (RB.out.sto hsto (by omega)); have BW := hi_ (bsto BW.out hsto (by omega))
        clear a0 a1 a2 hla b0 b1 b2 hlb
        obtain ⟨a0, a1, a2, hla⟩ := FA.out.cells
        obtain ⟨b0, b1, b2, hlb⟩ := FB.out.cells
        refine bkS hK (by exact ⟨a0, a1, a2, b0, b1, b2⟩) (fun hHeld => ?_); clear hK K
        refine dnH ?_
        go_wp2_with fail
        go_meet
        exact ⟨_, rfl, hP, rz, FA.out, FB.out, RB.out, BW.out⟩
       ·rw [if_pos (by rfl)]
        go_simp
        have hbq := balloc wb (.cells #[.slice none 0 0, .int .i64 0, .int .i64 0, .slice none 0 0, .int .i64 0, .int .i64 0, .int .i64 0, .bool false] 102)
        have zb := Blk.new wb 102 #[.slice none 0 0, .int .i64 0, .int .i64 0, .slice none 0 0, .int .i64 0, .int .i64 0, .int .i64 0, .bool false]
        have hP := FB.out.lt
        have ZB := hi_ zb
        clear zb
        generalize hwa : wb.alloc (.cells #[.slice none 0 0, .int .i64 0, .int .i64 0, .slice none 0 0, .int .i64 0, .int .i64 0, .int .i64 0, .bool false] 102) = wc at *
        clear hwa
        have FA := hi_ (FA.out.below hbq); have FB := hi_ (FB.out.below hbq); have RB := hi_ (RB.out.below hbq RB.out.lt); have BW := hi_ (bthen BW.out hbq)
        clear hbq hHeld
        clear a0 a1 a2 hla b0 b1 b2 hlb
        obtain ⟨a0, a1, a2, hla⟩ := FA.out.cells
        obtain ⟨b0, b1, b2, hlb⟩ := FB.out.cells
        refine bkS hK (by exact ⟨a0, a1, a2, b0, b1, b2⟩) (fun hHeld => ?_); clear hK K
        refine rdy2 6 (fun K hK => ?_)
        go_simp
        refine bkS hK (by exact ⟨a0, a1, a2, b0, b1, b2⟩) (fun hHeld => ?_); clear hK K
        refine tkO [8, 9] ?_; (iterate 2 refine tkI ?_); refine tkX ?_
        refine rdy1 11 (fun K hK => ?_)
        refine step_storeN rfl 102 _ _ rfl rfl ZB.out rfl rfl (by kernel_rfl) (by simp [Value.oneCell']) ?_
        intro wz hsto rz
        have FA := hi_ (FA.out.sto hsto (.inl (by omega))); have FB := hi_ (FB.out.sto hsto (.inl (by omega))); have RB := hi_ (RB.out.sto hsto (by omega)); have BW := hi_ (bsto BW.out hsto (by omega))
        clear a0 a1 a2 hla b0 b1 b2 hlb
        obtain ⟨a0, a1, a2, hla⟩ := FA.out.cells
        obtain ⟨b0, b1, b2, hlb⟩ := FB.out.cells
        refine bkS hK (by exact ⟨a0, a1, a2, b0, b1, b2⟩) (fun hHeld => ?_); clear hK K
        refine dnH ?_
        go_wp2_with fail
        go_meet
        exact ⟨_, rfl, hP, rz, FA.out, FB.out, RB.out, BW.out⟩
      ·rw [if_pos (by rfl)]
       go_simp
       have hbq := balloc wa (.cells #[.slice none 0 0, .int .i64 0, .int .i64 0, .slice none 0 0, .int .i64 0, .int .i64 0, .int .i64 0, .bool false] 102)
       have zb := Blk.new wa 102 #[.slice none 0 0, .int .i64 0, .int .i64 0, .slice none 0 0, .int .i64 0, .int .i64 0, .int .i64 0, .bool false]
       have hP := FB.out.lt
       have ZB := hi_ zb
       clear zb
       generalize hwa : wa.alloc (.cells #[.slice none 0 0, .int .i64 0, .int .i64 0, .slice none 0 0, .int .i64 0, .int .i64 0, .int .i64 0, .bool false] 102) = wb at *
       clear hwa
       have FA := hi_ (FA.out.below hbq); have FB := hi_ (FB.out.below hbq); have RB := hi_ (RB.out.below hbq RB.out.lt); have BW := hi_ (bthen BW.out hbq)
       clear hbq hHeld
       clear a0 a1 a2 hla b0 b1 b2 hlb
       obtain ⟨a0, a1, a2, hla⟩ := FA.out.cells
       obtain ⟨b0, b1, b2, hlb⟩ := FB.out.cells
       refine bkS hK (by exact ⟨a0, a1, a2, b0, b1, b2⟩) (fun hHeld => ?_); clear hK K
       refine rdy2 5 (fun K hK => ?_)
       go_simp
       refine (start_any A2 n2 c2 b.per b.inc _ (by omega) (by omega) (by omega)).mono ?_
       rintro e wc ⟨rfl, hbq⟩
       have FA := hi_ (FA.out.below hbq); have FB := hi_ (FB.out.below hbq); have RB := hi_ (RB.out.below hbq RB.out.lt); have BW := hi_ (bthen BW.out hbq)
       try (have ZB := hi_ (ZB.out.below hbq ZB.out.lt))
       clear hbq hHeld
       clear a0 a1 a2 hla b0 b1 b2 hlb
       obtain ⟨a0, a1, a2, hla⟩ := FA.out.cells
       obtain ⟨b0, b1, b2, hlb⟩ := FB.out.cells
       refine bkS hK (by exact ⟨a0, a1, a2, b0, b1, b2⟩) (fun hHeld => ?_); clear hK K
       refine rdy2 6 (fun K hK => ?_)
       go_simp
       refine bkS hK (by exact ⟨a0, a1, a2, b0, b1, b2⟩) (fun hHeld => ?_); clear hK K
       refine tkO [8, 9] ?_; (iterate 2 refine tkI ?_); refine tkX ?_
       refine rdy1 11 (fun K hK => ?_)
       refine step_storeN rfl 102 _ _ rfl rfl ZB.out rfl rfl (by kernel_rfl) (by simp [Value.oneCell']) ?_
       intro wz hsto rz
       have FA := hi_ (FA.out.sto hsto (.inl (by omega))); have FB := hi_ (FB.out.sto hsto (.inl (by omega))); have RB := hi_ (RB.out.sto hsto (by omega)); have BW := hi_ (bsto BW.out hsto (by omega))
       clear a0 a1 a2 hla b0 b1 b2 hlb
       obtain ⟨a0, a1, a2, hla⟩ := FA.out.cells
       obtain ⟨b0, b1, b2, hlb⟩ := FB.out.cells
       refine bkS hK (by exact ⟨a0, a1, a2, b0, b1, b2⟩) (fun hHeld => ?_); clear hK K
       refine dnH ?_
       go_wp2_with fail
       go_meet
       exact ⟨_, rfl, hP, rz, FA.out, FB.out, RB.out, BW.out⟩
     ·rw [if_pos (by rfl)]
      go_simp
      have hbq := balloc wd (.cells #[.slice none 0 0, .int .i64 0, .int .i64 0, .slice none 0 0, .int .i64 0, .int .i64 0, .int .i64 0, .bool false] 102)
      have zb := Blk.new wd 102 #[.slice none 0 0, .int .i64 0, .int .i64 0, .slice none 0 0, .int .i64 0, .int .i64 0, .int .i64 0, .bool false]
      have hP := FB.out.lt
      have ZB := hi_ zb
      clear zb
      generalize hwa : wd.alloc (.cells #[.slice none 0 0, .int .i64 0, .int .i64 0, .slice none 0 0, .int .i64 0, .int .i64 0, .int .i64 0, .bool false] 102) = wa at *
      clear hwa
      have FA := hi_ (FA.out.below hbq); have FB := hi_ (FB.out.below hbq); have RB := hi_ (RB.out.below hbq RB.out.lt); have BW := hi_ (bthen BW.out hbq)
      clear hbq hHeld
      clear a0 a1 a2 hla b0 b1 b2 hlb
      obtain ⟨a0, a1, a2, hla⟩ := FA.out.cells
      obtain ⟨b0, b1, b2, hlb⟩ := FB.out.cells
      refine bkS hK (by exact ⟨a0, a1, a2, b0, b1, b2⟩) (fun hHeld => ?_); clear hK K
      refine rdy2 3 (fun K hK => ?_)
      go_simp
      refine (start_any A1 n1 c1 a.per a.inc _ (by omega) (by omega) (by omega)).mono ?_
      rintro e wb ⟨rfl, hbq⟩
      have FA := hi_ (FA.out.below hbq); have FB := hi_ (FB.out.below hbq); have RB := hi_ (RB.out.below hbq RB.out.lt); have BW := hi_ (bthen BW.out hbq)
      try (have ZB := hi_ (ZB.out.below hbq ZB.out.lt))
      clear hbq hHeld
      clear a0 a1 a2 hla b0 b1 b2 hlb
      obtain ⟨a0, a1, a2, hla⟩ := FA.out.cells
      obtain ⟨b0, b1, b2, hlb⟩ := FB.out.cells
      refine bkS hK (by exact ⟨a0, a1, a2, b0, b1, b2⟩) (fun hHeld => ?_); clear hK K
      refine rdy2 5 (fun K hK => ?_)
      go_simp
      refine (start_any A2 n2 c2 b.per b.inc _ (by omega) (by omega) (by omega)).mono ?_
      rintro e wc ⟨rfl, hbq⟩
      have FA := hi_ (FA.out.below hbq); have FB := hi_ (FB.out.below hbq); have RB := hi_ (RB.out.below hbq RB.out.lt); have BW := hi_ (bthen BW.out hbq)
      try (have ZB := hi_ (ZB.out.below hbq ZB.out.lt))
      clear hbq hHeld
      clear a0 a1 a2 hla b0 b1 b2 hlb
      obtain ⟨a0, a1, a2, hla⟩ := FA.out.cells
      obtain ⟨b0, b1, b2, hlb⟩ := FB.out.cells
      refine bkS hK (by exact ⟨a0, a1, a2, b0, b1, b2⟩) (fun hHeld => ?_); clear hK K
      refine rdy2 6 (fun K hK => ?_)
      go_simp
      refine bkS hK (by exact ⟨a0, a1, a2, b0, b1, b2⟩) (fun hHeld => ?_); clear hK K
      refine tkO [8, 9] ?_; (iterate 2 refine tkI ?_); refine tkX ?_
      refine rdy1 11 (fun K hK => ?_)
      refine step_storeN rfl 102 _ _ rfl rfl ZB.out rfl rfl (by kernel_rfl) (by simp [Value.oneCell']) ?_
      intro wz hsto rz
      have FA := hi_ (FA.out.sto hsto (.inl (by omega))); have FB := hi_ (FB.out.sto hsto (.inl (by omega))); have RB := hi_ (RB.out.sto hsto (by omega)); have BW := hi_ (bsto BW.out hsto (by omega))
      clear a0 a1 a2 hla b0 b1 b2 hlb
      obtain ⟨a0, a1, a2, hla⟩ := FA.out.cells
      obtain ⟨b0, b1, b2, hlb⟩ := FB.out.cells
      refine bkS hK (by exact ⟨a0, a1, a2, b0, b1, b2⟩) (fun hHeld => ?_); clear hK K
      refine dnH ?_
      go_wp2_with fail
      go_meet
      exact ⟨_, rfl, hP, rz, FA.out, FB.out, RB.out, BW.out⟩
    case rest =>
     as_aux_lemma =>
     clear FA FB RB BW
     clear a0 a1 a2 hla b0 b1 b2 hlb
     obtain ⟨P, rfl, hP, pb, fa, fb, rb, bw⟩ := hcut
     have PB := hi_ pb; have FA := hi_ fa; have FB := hi_ fb; have RB := hi_ rb; have BW := hi_ bw
     clear pb fa fb rb bw hmx e1
     have LO1 := hi_ (show ∀ z : Bool, z = (nth b.vals (n2 - 1) != inf) → (z = true ↔ b.Fin) from fun z hz => by
      rw [hz, bne_iff_ne, ← HL2.out]; exact ⟨fun h => ⟨HBO.out, h⟩, fun h => h.2⟩)
     have LO2 := hi_ (show ∀ z : Bool, z = (nth a.vals (n1 - 1) != inf) → (z = true ↔ a.Fin) from fun z hz => by
      rw [hz, bne_iff_ne, ← HL1.out]; exact ⟨fun h => ⟨HAO.out, h⟩, fun h => h.2⟩)
     obtain ⟨fb, hfb⟩ : ∃ z, z = (nth b.vals (n2 - 1) != inf) := ⟨_, rfl⟩
     obtain ⟨fa, hfa⟩ : ∃ z, z = (nth a.vals (n1 - 1) != inf) := ⟨_, rfl⟩
     obtain ⟨x, hx⟩ : ∃ x, x = (C / a.per.toNat : Nat) * a.inc := ⟨_, rfl⟩
     obtain ⟨y, hy⟩ : ∃ y, y = (C / b.per.toNat : Nat) * b.inc := ⟨_, rfl⟩
     have HFB := hi_ hfb; have HFA := hi_ hfa; have HX := hi_ hx; have HY := hi_ hy
     have LO3 := hi_ (show ordD a b = x - y from by unfold ordD; rw [hx, hy, HC.out]; rfl)
     clear hfb hfa hx hy
     have PB := hi_ (Blk.drew PB.out); have FA := hi_ FA.out.drew; have FB := hi_ FB.out.drew; have RB := hi_ (Blk.drew RB.out); have BW := hi_ (Below.drew BW.out)
     obtain ⟨a0, a1, a2, hla⟩ := FA.out.cells
     obtain ⟨b0, b1, b2, hlb⟩ := FB.out.cells
     obtain ⟨p7, hlp⟩ : _ ∧ _ := ⟨PB.out.cell 7, PB.out.lt⟩
     have v7 := PB.out.frozen 7
     simp at p7
     have hPr := RB.out.lt
     have hPs : w1.heap.size < P := by have := hs3; omega
     go_wp2_with fail
     refine wp_region_held_drew (S := fun w' => w'.cell? ⟨w1.heap.size, 0, none⟩ = some (.slice A1 n1 c1) ∧ w'.cell? ⟨w1.heap.size, 1, none⟩ = some (.int .i64 a.per) ∧ w'.cell? ⟨w1.heap.size, 2, none⟩ = some (.int .i64 a.inc) ∧ w'.cell? ⟨w2.heap.size, 0, none⟩ = some (.slice A2 n2 c2) ∧ w'.cell? ⟨w2.heap.size, 1, none⟩ = some (.int .i64 b.per) ∧ w'.cell? ⟨w2.heap.size, 2, none⟩ = some (.int .i64 b.inc)) (by kernel_rfl) ⟨a0, a1, a2, b0, b1, b2⟩ (fun hHeld => ?_)
     generalize hwd : wc.drew = wd at *
     clear hwd
     refine tk1 0 ?_
     refine rdy2 1 (fun K hK => ?_)
     go_simp
     refine (finite_any A2 n2 c2 b.per b.inc b.vals _ (by exact FB.out.ints) (by omega) (by omega)).mono ?_
     rw [← HFB.out]
     rintro e wf ⟨rfl, hbq⟩
     have PB := hi_ (PB.out.below hbq PB.out.lt); have FA := hi_ (FA.out.below hbq); have FB := hi_ (FB.out.below hbq); have RB := hi_ (RB.out.below hbq RB.out.lt); have BW := hi_ (bthen BW.out hbq)
     clear hbq hHeld
     clear a0 a1 a2 hla b0 b1 b2 hlb
     obtain ⟨a0, a1, a2, hla⟩ := FA.out.cells
     obtain ⟨b0, b1, b2, hlb⟩ := FB.out.cells
     clear p7 hlp v7
     obtain ⟨p7, hlp⟩ : _ ∧ _ := ⟨PB.out.cell 7, PB.out.lt⟩
     have v7 := PB.out.frozen 7
     simp at p7
     refine bkS hK (by exact ⟨a0, a1, a2, b0, b1, b2⟩) (fun hHeld => ?_); clear hK K
     cases fb
     case false =>
      refine tkO [2, 3, 4, 5, 6, 7, 8, 9, 10, 11, 12, 13, 14, 15] ?_; refine tkI ?_; (iterate 12 refine tkJ ?_); refine tkI ?_; refine tkX ?_
      have HLO := hi_ (show LzB false a b from by
       have h1 := LO1.out _ HFB.out
       exact ⟨(fun h => by cases h), (fun h => by have := h1.2 h.1; cases this)⟩)
      refine tk1 16 ?_
      refine rdy2 17 (fun K hK => ?_)
      go_simp
      refine bkS hK (by exact ⟨(cell_set1 (by omega)).trans a0, (cell_set1 (by omega)).trans a1, (cell_set1 (by omega)).trans a2, (cell_set1 (by omega)).trans b0, (cell_set1 (by omega)).trans b1, (cell_set1 (by omega)).trans b2⟩) (fun hHeld => ?_); clear hK K
      refine dnH ?_
      have PB := hi_ (PB.out.set_ 7 (.bool false)); have FA := hi_ (FA.out.set1 (g := P) (.inl (by omega)) 7 (.bool false)); have FB := hi_ (FB.out.set1 (g := P) (.inl (by omega)) 7 (.bool false)); have RB := hi_ (RB.out.far (p := ⟨P, 7, none⟩) (by simp; omega) (.bool false)); have BW := hi_ (BW.out.setCell (p := ⟨P, 7, none⟩) (by simp; omega) (.bool false))
      clear a0 a1 a2 hla b0 b1 b2 hlb
      clear p7 hlp v7
      try clear hHeld
      generalize hwe : wf.setCell ⟨P, 7, none⟩ (.bool false) = we at *
      clear hwe
      simp only [List.setIfInBounds_toArray, List.set_cons_succ, List.set_cons_zero] at PB
      go_upto_region 12 with fail
      refine wp_region_lit ?_
      refine wpList_load_row rfl 102 _ rfl P rfl 102 #[.slice A1 n1 c1, .int .i64 a.per, .int .i64 a.inc, .slice A2 n2 c2, .int .i64 b.per, .int .i64 b.inc, .int .i64 ((S : Int) + (C : Int)), .bool false] (0, 0) _ PB.out Tryz.underlying102 rfl (by kernel_rfl) ?_
      refine wpList_storeN rfl 102 _ _ rfl rfl RB.out rfl rfl (by kernel_rfl) (by simp [Value.oneCell']) ?_
      intro wz hsto rz
      have FA := hi_ (FA.out.sto hsto (.inr (by omega))); have FB := hi_ (FB.out.sto hsto (.inr (by omega)))
      have bw := bsto BW.out hsto (by omega)
      (try simp only [Act.put]); try simp only [g8b, g8c, g8d]
      go_wp2_with fail
      exact bodyPost_ret (v := .tuple #[.agg (dpA A1 n1 c1 a A2 n2 c2 b ((S : Int) + (C : Int)) false), .int .i64 0]) (by simp [results, Tryz.results48, go_sem, rz.cell, dpA]) rfl
       (.inr ⟨HFO.out, HGO.out, a, b, A1, n1, c1, A2, n2, c2, false, HNF.out, HNG.out, HAO.out, HBO.out, by rw [← HC.out]; omega, HLO.out, by rw [show ((ordF a b + ordC a b : Nat) : Int) = (S : Int) + (C : Int) from by rw [HS.out, HC.out]; exact Int.natCast_add _ _], FA.out.ints, FB.out.ints, fun b' off s e => by have := (FA.out.ap b' off s e).1; omega, fun b' off s e => by have := (FB.out.ap b' off s e).1; omega, bw⟩)
     case true =>
      refine tkO [2, 3] ?_; (iterate 2 refine tkI ?_); refine tkX ?_
      refine rdy2 4 (fun K hK => ?_)
      go_simp
      refine (finite_any A1 n1 c1 a.per a.inc a.vals _ (by exact FA.out.ints) (by omega) (by omega)).mono ?_
      rw [← HFA.out]
      rintro e wg ⟨rfl, hbq⟩
      have PB := hi_ (PB.out.below hbq PB.out.lt); have FA := hi_ (FA.out.below hbq); have FB := hi_ (FB.out.below hbq); have RB := hi_ (RB.out.below hbq RB.out.lt); have BW := hi_ (bthen BW.out hbq)
      clear hbq hHeld
      clear a0 a1 a2 hla b0 b1 b2 hlb
      obtain ⟨a0, a1, a2, hla⟩ := FA.out.cells
      obtain ⟨b0, b1, b2, hlb⟩ := FB.out.cells
      clear p7 hlp v7
      obtain ⟨p7, hlp⟩ : _ ∧ _ := ⟨PB.out.cell 7, PB.out.lt⟩
      have v7 := PB.out.frozen 7
      simp at p7
      refine bkS hK (by exact ⟨a0, a1, a2, b0, b1, b2⟩) (fun hHeld => ?_); clear hK K
      cases fa
      case false =>
       refine tkO [5, 6, 7, 8, 9, 10, 11, 12, 13, 14, 15] ?_; (iterate 2 refine tkI ?_); (iterate 7 refine tkJ ?_); (iterate 2 refine tkI ?_); refine tkX ?_
       have HLO := hi_ (show LzB true a b from by
        have h1 := LO1.out _ HFB.out
        have h2 := LO2.out _ HFA.out
        exact ⟨fun _ => ⟨h1.1 rfl, .inl (fun h => by have := h2.2 h; cases this)⟩, fun _ => rfl⟩)
       refine tk1 16 ?_
       refine rdy2 17 (fun K hK => ?_)
       go_simp
       refine bkS hK (by exact ⟨(cell_set1 (by omega)).trans a0, (cell_set1 (by omega)).trans a1, (cell_set1 (by omega)).trans a2, (cell_set1 (by omega)).trans b0, (cell_set1 (by omega)).trans b1, (cell_set1 (by omega)).trans b2⟩) (fun hHeld => ?_); clear hK K
       refine dnH ?_
       have PB := hi_ (PB.out.set_ 7 (.bool true)); have FA := hi_ (FA.out.set1 (g := P) (.inl (by omega)) 7 (.bool true)); have FB := hi_ (FB.out.set1 (g := P) (.inl (by omega)) 7 (.bool true)); have RB := hi_ (RB.out.far (p := ⟨P, 7, none⟩) (by simp; omega) (.bool true)); have BW := hi_ (BW.out.setCell (p := ⟨P, 7, none⟩) (by simp; omega) (.bool true))
       clear a0 a1 a2 hla b0 b1 b2 hlb
       clear p7 hlp v7
       try clear hHeld
       generalize hwe : wg.setCell ⟨P, 7, none⟩ (.bool true) = we at *
       clear hwe
       simp only [List.setIfInBounds_toArray, List.set_cons_succ, List.set_cons_zero] at PB
       go_upto_region 12 with fail
       refine wp_region_lit ?_
       refine wpList_load_row rfl 102 _ rfl P rfl 102 #[.slice A1 n1 c1, .int .i64 a.per, .int .i64 a.inc, .slice A2 n2 c2, .int .i64 b.per, .int .i64 b.inc, .int .i64 ((S : Int) + (C : Int)), .bool true] (0, 0) _ PB.out Tryz.underlying102 rfl (by kernel_rfl) ?_
       refine wpList_storeN rfl 102 _ _ rfl rfl RB.out rfl rfl (by kernel_rfl) (by simp [Value.oneCell']) ?_
       intro wz hsto rz
       have FA := hi_ (FA.out.sto hsto (.inr (by omega))); have FB := hi_ (FB.out.sto hsto (.inr (by omega)))
       have bw := bsto BW.out hsto (by omega)
       (try simp only [Act.put]); try simp only [g8b, g8c, g8d]
       go_wp2_with fail
       exact bodyPost_ret (v := .tuple #[.agg (dpA A1 n1 c1 a A2 n2 c2 b ((S : Int) + (C : Int)) true), .int .i64 0]) (by simp [results, Tryz.results48, go_sem, rz.cell, dpA]) rfl
        (.inr ⟨HFO.out, HGO.out, a, b, A1, n1, c1, A2, n2, c2, true, HNF.out, HNG.out, HAO.out, HBO.out, by rw [← HC.out]; omega, HLO.out, by rw [show ((ordF a b + ordC a b : Nat) : Int) = (S : Int) + (C : Int) from by rw [HS.out, HC.out]; exact Int.natCast_add _ _], FA.out.ints, FB.out.ints, fun b' off s e => by have := (FA.out.ap b' off s e).1; omega, fun b' off s e => by have := (FB.out.ap b' off s e).1; omega, bw⟩)
      case true =>
       refine tkO [5, 6, 7, 8, 10, 11] ?_; (iterate 6 refine tkI ?_); refine tkX ?_
       refine rdy2 9 (fun K hK => ?_)
       go_simp
       refine (gain_any A1 n1 c1 a.per a.inc C _ (by omega) (by omega) (by omega) (by omega) (by omega)).mono ?_
       rw [Int.toNat_natCast, ← HX.out]
       rintro e wh ⟨rfl, hbq⟩
       have PB := hi_ (PB.out.below hbq PB.out.lt); have FA := hi_ (FA.out.below hbq); have FB := hi_ (FB.out.below hbq); have RB := hi_ (RB.out.below hbq RB.out.lt); have BW := hi_ (bthen BW.out hbq)
       clear hbq hHeld
       clear a0 a1 a2 hla b0 b1 b2 hlb
       obtain ⟨a0, a1, a2, hla⟩ := FA.out.cells
       obtain ⟨b0, b1, b2, hlb⟩ := FB.out.cells
       clear p7 hlp v7
       obtain ⟨p7, hlp⟩ : _ ∧ _ := ⟨PB.out.cell 7, PB.out.lt⟩
       have v7 := PB.out.frozen 7
       simp at p7
       refine bkS hK (by exact ⟨a0, a1, a2, b0, b1, b2⟩) (fun hHeld => ?_); clear hK K
       refine rdy2 12 (fun K hK => ?_)
       go_simp
       refine (gain_any A2 n2 c2 b.per b.inc C _ (by omega) (by omega) (by omega) (by omega) (by omega)).mono ?_
       rw [Int.toNat_natCast, ← HY.out]
       rintro e wi ⟨rfl, hbq⟩
       have PB := hi_ (PB.out.below hbq PB.out.lt); have FA := hi_ (FA.out.below hbq); have FB := hi_ (FB.out.below hbq); have RB := hi_ (RB.out.below hbq RB.out.lt); have BW := hi_ (bthen BW.out hbq)
       clear hbq hHeld
       clear a0 a1 a2 hla b0 b1 b2 hlb
       obtain ⟨a0, a1, a2, hla⟩ := FA.out.cells
       obtain ⟨b0, b1, b2, hlb⟩ := FB.out.cells
       clear p7 hlp v7
       obtain ⟨p7, hlp⟩ : _ ∧ _ := ⟨PB.out.cell 7, PB.out.lt⟩
       have v7 := PB.out.frozen 7
       simp at p7
       refine bkS hK (by exact ⟨a0, a1, a2, b0, b1, b2⟩) (fun hHeld => ?_); clear hK K
       refine tkO [13, 14, 15] ?_; (iterate 3 refine tkI ?_); refine tkX ?_
       have HLO := hi_ (show LzB (decide (y < x)) a b from by
        have h1 := LO1.out _ HFB.out
        have h2 := LO2.out _ HFA.out
        unfold LzB
        rw [decide_eq_true_iff]
        unfold Loose
        rw [LO3.out]
        exact ⟨fun h => ⟨h1.1 rfl, .inr (by omega)⟩, fun h => by
         rcases h.2 with h3 | h3
         ·exact absurd (h2.1 rfl) h3
         ·omega⟩)
       refine tk1 16 ?_
       refine rdy2 17 (fun K hK => ?_)
       go_simp
       refine bkS hK (by exact ⟨(cell_set1 (by omega)).trans a0, (cell_set1 (by omega)).trans a1, (cell_set1 (by omega)).trans a2, (cell_set1 (by omega)).trans b0, (cell_set1 (by omega)).trans b1, (cell_set1 (by omega)).trans b2⟩) (fun hHeld => ?_); clear hK K
       refine dnH ?_
       have PB := hi_ (PB.out.set_ 7 (.bool (decide (y < x)))); have FA := hi_ (FA.out.set1 (g := P) (.inl (by omega)) 7 (.bool (decide (y < x)))); have FB := hi_ (FB.out.set1 (g := P) (.inl (by omega)) 7 (.bool (decide (y < x)))); have RB := hi_ (RB.out.far (p := ⟨P, 7, none⟩) (by simp; omega) (.bool (decide (y < x)))); have BW := hi_ (BW.out.setCell (p := ⟨P, 7, none⟩) (by simp; omega) (.bool (decide (y < x))))
       clear a0 a1 a2 hla b0 b1 b2 hlb
       clear p7 hlp v7
       try clear hHeld
       generalize hwe : wi.setCell ⟨P, 7, none⟩ (.bool (decide (y < x))) = we at *
       clear hwe
       simp only [List.setIfInBounds_toArray, List.set_cons_succ, List.set_cons_zero] at PB
       go_upto_region 12 with fail
       refine wp_region_lit ?_
       refine wpList_load_row rfl 102 _ rfl P rfl 102 #[.slice A1 n1 c1, .int .i64 a.per, .int .i64 a.inc, .slice A2 n2 c2, .int .i64 b.per, .int .i64 b.inc, .int .i64 ((S : Int) + (C : Int)), .bool (decide (y < x))] (0, 0) _ PB.out Tryz.underlying102 rfl (by kernel_rfl) ?_
       refine wpList_storeN rfl 102 _ _ rfl rfl RB.out rfl rfl (by kernel_rfl) (by simp [Value.oneCell']) ?_
       intro wz hsto rz
       have FA := hi_ (FA.out.sto hsto (.inr (by omega))); have FB := hi_ (FB.out.sto hsto (.inr (by omega)))
       have bw := bsto BW.out hsto (by omega)
       (try simp only [Act.put]); try simp only [g8b, g8c, g8d]
       go_wp2_with fail
       exact bodyPost_ret (v := .tuple #[.agg (dpA A1 n1 c1 a A2 n2 c2 b ((S : Int) + (C : Int)) (decide (y < x))), .int .i64 0]) (by simp [results, Tryz.results48, go_sem, rz.cell, dpA]) rfl
        (.inr ⟨HFO.out, HGO.out, a, b, A1, n1, c1, A2, n2, c2, (decide (y < x)), HNF.out, HNG.out, HAO.out, HBO.out, by rw [← HC.out]; omega, HLO.out, by rw [show ((ordF a b + ordC a b : Nat) : Int) = (S : Int) + (C : Int) from by rw [HS.out, HC.out]; exact Int.natCast_add _ _], FA.out.ints, FB.out.ints, fun b' off s e => by have := (FA.out.ap b' off s e).1; omega, fun b' off s e => by have := (FB.out.ap b' off s e).1; omega, bw⟩)
  ·have F := hi_ (show BothBad ⟨xs, p, i⟩ ⟨ys, q, j⟩ 1 from .inl ⟨fun h => hno h.2, rfl⟩)
   have RB := hi_ (RB.out.alloc (.cells #[.slice A2 n2 c2, .int .i64 Cv.none.per, .int .i64 Cv.none.inc] 26))
   have BW := hi_ (bthen BW.out (balloc _ (.cells #[.slice A2 n2 c2, .int .i64 Cv.none.per, .int .i64 Cv.none.inc] 26)))
   clear hno HN
   go_wp2_with (refine wpList_storeN rfl 102 _ _ rfl rfl RB.out rfl rfl (by kernel_rfl) (by simp [Value.oneCell']) ?_; intro wz hsto rz)
   exact bodyPost_ret (v := .tuple #[.agg zero8, .int .i64 1]) (by simp [results, Tryz.results48, go_sem, rz.cell, zero8]) rfl (.inl ⟨_, F.out, rfl, bsto BW.out hsto (by omega)⟩)
 ·have F := hi_ (show BothBad ⟨xs, p, i⟩ ⟨ys, q, j⟩ 1 from .inl ⟨fun h => hno h.1, rfl⟩)
  have RB := hi_ (RB.out.alloc (.cells #[.slice A1 n1 c1, .int .i64 Cv.none.per, .int .i64 Cv.none.inc] 26))
  have BW := hi_ (bthen P.out.bw (balloc _ (.cells #[.slice A1 n1 c1, .int .i64 Cv.none.per, .int .i64 Cv.none.inc] 26)))
  clear hno HN
  go_wp2_with (refine wpList_storeN rfl 102 _ _ rfl rfl RB.out rfl rfl (by kernel_rfl) (by simp [Value.oneCell']) ?_; intro wz hsto rz)
  exact bodyPost_ret (v := .tuple #[.agg zero8, .int .i64 1]) (by simp [results, Tryz.results48, go_sem, rz.cell, zero8]) rfl (.inl ⟨_, F.out, rfl, bsto BW.out hsto (by omega)⟩)
end
section
open Go.RowKit
def zero7 : Array Value := #[.slice none 0 0, .int .i64 0, .int .i64 0, .slice none 0 0, .int .i64 0, .int .i64 0, .int .i64 0]
def cpA (A : Option Addr) (n c : Nat) (f : Cv) (B : Option Addr) (m d : Nat) (g : Cv) (K : Int) : Array Value :=
 #[.slice A n c, .int .i64 f.per, .int .i64 f.inc, .slice B m d, .int .i64 g.per, .int .i64 g.inc, .int .i64 K]
def CvBad (f g : Cv) (er : Int) : Prop := (¬ (f.Ok ∧ g.Ok) ∧ er = 1) ∨ (f.Ok ∧ g.Ok ∧ er = 3 ∧ ∃ a b, NF f.at a ∧ NF g.at b ∧ 120 < comm a.per.toNat b.per.toNat)
theorem CvBad.pair {S : Cv → Cv → Cv → Int → Prop} {f g : Cv} {er : Int} (h : CvBad f g er) : PairS S f g Cv.none er := by
 rcases h with ⟨h, rfl⟩ | ⟨hf, hg, rfl, a, b, ha, hb, hk⟩
 ·exact .inl ⟨h, rfl, rfl⟩
 ·exact .inr ⟨hf, hg, a, b, ha, hb, .inl ⟨hk, rfl, rfl⟩⟩
theorem CvBad.ne {f g : Cv} {er : Int} (h : CvBad f g er) : er ≠ 0 := by
 rcases h with ⟨_, rfl⟩ | ⟨_, _, rfl, _⟩ <;> decide
def RetCb (f g : Cv) (w : World) (e : Ending) (w' : World) : Prop :=
 (∃ er, CvBad f g er ∧ e = .returned (.tuple #[.agg zero7, .int .i64 er]) ∧ Below w.heap.size w w') ∨
 (f.Ok ∧ g.Ok ∧ ∃ (a b : Cv) (A : Option Addr) (n c : Nat) (B : Option Addr) (m d : Nat), NF f.at a ∧ NF g.at b ∧ a.Ok ∧ b.Ok ∧ ordC a b ≤ 120 ∧
  e = .returned (.tuple #[.agg (cpA A n c a B m d b (ordC a b : Nat)), .int .i64 0]) ∧ Ints w' w'.heap.size A n a.vals ∧ Ints w' w'.heap.size B m b.vals ∧ (∀ b off s, A = some ⟨b, off, s⟩ → w.heap.size ≤ b) ∧ (∀ b off s, B = some ⟨b, off, s⟩ → w.heap.size ≤ b) ∧ Below w.heap.size w w')
set_option maxHeartbeats 4000000 in
set_option maxRecDepth 100000 in
theorem cvboth_any (A B : Option Addr) (n m c d : Nat) (p i q j : Int) (xs ys : List Int) (w : World) (hA : Ints w w.heap.size A n xs) (hB : Ints w w.heap.size B m ys) (hn : (n : Int) ≤ 1000000) (hm : (m : Int) ≤ 1000000) :
 Calls Tryz.prog 39 #[.agg #[.slice A n c, .int .i64 p, .int .i64 i], .agg #[.slice B m d, .int .i64 q, .int .i64 j]] w (RetCb ⟨xs, p, i⟩ ⟨ys, q, j⟩ w) := by
 have P := hi_ ((PS.new (c := c) (p := p) (i := i) (d := d) (q := q) (j := j) hA hB).alloc (.cells #[.slice none 0 0, .int .i64 0, .int .i64 0, .slice none 0 0, .int .i64 0, .int .i64 0, .int .i64 0] 91))
 have rb := Blk.new ((w.alloc (.cells #[.slice A n c, .int .i64 p, .int .i64 i] 26)).alloc (.cells #[.slice B m d, .int .i64 q, .int .i64 j] 26)) 91 #[.slice none 0 0, .int .i64 0, .int .i64 0, .slice none 0 0, .int .i64 0, .int .i64 0, .int .i64 0]
 rw [World.size_alloc, World.size_alloc] at rb
 have RB := hi_ rb
 clear hA hB rb
 go_enter Tryz.func39, Tryz.ntmps39
 obtain ⟨f0, f1, f2, g0, g1, g2, hlf, hlg⟩ := P.out.cells
 go_wp2_with fail
 refine (normal_any A n c p i xs _ P.out.ia hn).mono ?_
 rintro e w1 ⟨a, er, hN, A1, n1, c1, rfl, hI1, hA1, hb1⟩
 simp only [World.size_alloc] at hA1
 have HN := hi_ (NormR.of hN)
 have P := hi_ (P.out.below hb1)
 have RB := hi_ (RB.out.below hb1 RB.out.lt)
 have HI1 := hi_ hI1
 have hs1 := RB.out.lt
 clear hN hI1 hb1 f0 f1 f2 g0 g1 g2 hlf hlg
 rcases HN.out with ⟨hfo, hnf, hao, rfl⟩ | ⟨hno, rfl, rfl⟩
 ·have ha1 := hao.n1; have ha2 := hao.n2; have hap := hao.p1; have hap2 := hao.p2; have hai := hao.i1; have hai2 := hao.i2; have hapn := hao.pn
  have hl1 : a.vals.length = n1 := HI1.out.1
  rw [hl1] at ha1 ha2 hapn
  have FA := hi_ (Bx.new (c := c1) (f := a) HI1.out hA1 (Nat.le_refl _) (by omega) (by omega))
  have P := hi_ (P.out.alloc (.cells #[.slice A1 n1 c1, .int .i64 a.per, .int .i64 a.inc] 26))
  have RB := hi_ (RB.out.alloc (.cells #[.slice A1 n1 c1, .int .i64 a.per, .int .i64 a.inc] 26))
  have HNF := hi_ hnf; have HFO := hi_ hfo; have HAO := hi_ hao; have HL1 := hi_ hl1
  clear hnf hfo hao HI1 hA1 HN hl1
  obtain ⟨f0, f1, f2, g0, g1, g2, hlf, hlg⟩ := P.out.cells
  go_wp2_with fail
  refine (normal_any B m d q j ys _ P.out.ib hm).mono ?_
  rintro e w2 ⟨b, er, hN, A2, n2, c2, rfl, hI2, hA2, hb2⟩
  simp only [World.size_alloc] at hA2
  have HN := hi_ (NormR.of hN)
  have RB := hi_ (RB.out.below hb2 RB.out.lt)
  have FA := hi_ (FA.out.below hb2)
  have BW := hi_ (bthen P.out.bw hb2)
  have HI2 := hi_ hI2
  have hs2 := RB.out.lt
  have hs3 := FA.out.lt
  clear hN hI2 hb2 P f0 f1 f2 g0 g1 g2 hlf hlg
  rcases HN.out with ⟨hgo, hnf, hbo, rfl⟩ | ⟨hno, rfl, rfl⟩
  ·have hb1 := hbo.n1; have hb2 := hbo.n2; have hbp := hbo.p1; have hbp2 := hbo.p2; have hbi := hbo.i1; have hbi2 := hbo.i2; have hbpn := hbo.pn
   have hl2 : b.vals.length = n2 := HI2.out.1
   rw [hl2] at hb1 hb2 hbpn
   have FB := hi_ (Bx.new (L := w.heap.size + 1 + 1 + 1) (c := c2) (f := b) HI2.out hA2 (by omega) (by omega) (by omega))
   have FA := hi_ (FA.out.alloc (.cells #[.slice A2 n2 c2, .int .i64 b.per, .int .i64 b.inc] 26))
   have RB := hi_ (RB.out.alloc (.cells #[.slice A2 n2 c2, .int .i64 b.per, .int .i64 b.inc] 26))
   have BW := hi_ (bthen BW.out (balloc _ (.cells #[.slice A2 n2 c2, .int .i64 b.per, .int .i64 b.inc] 26)))
   have HNG := hi_ hnf; have HGO := hi_ hgo; have HBO := hi_ hbo; have HL2 := hi_ hl2
   clear hnf hgo hbo HI2 hA2 HN hl2
   obtain ⟨C, hC⟩ : ∃ C, C = comm a.per.toNat b.per.toNat := ⟨_, rfl⟩
   have HC := hi_ hC
   clear hC
   go_upto_region 7 with fail
   generalize hwe : w2.alloc (.cells #[.slice A2 n2 c2, .int .i64 b.per, .int .i64 b.inc] 26) = w3 at *
   clear hwe
   go_cut [9] (fun s9 wx => ∃ P : Nat, s9 = .pointer (some ⟨P, 0, none⟩) ∧ w2.heap.size < P ∧ Blk wx P 91 #[.slice A1 n1 c1, .int .i64 a.per, .int .i64 a.inc, .slice A2 n2 c2, .int .i64 b.per, .int .i64 b.inc, .int .i64 C] ∧ Bx (w.heap.size + 1 + 1 + 1) wx w1.heap.size A1 n1 c1 a ∧ Bx (w.heap.size + 1 + 1 + 1) wx w2.heap.size A2 n2 c2 b ∧ Blk wx (w.heap.size + 1 + 1) 91 #[.slice none 0 0, .int .i64 0, .int .i64 0, .slice none 0 0, .int .i64 0, .int .i64 0, .int .i64 0] ∧ Below w.heap.size w wx)
   case first =>
    have FA := hi_ FA.out.drew; have FB := hi_ FB.out.drew; have RB := hi_ (Blk.drew RB.out); have BW := hi_ (Below.drew BW.out)
    obtain ⟨a0, a1, a2, hla⟩ := FA.out.cells
    obtain ⟨b0, b1, b2, hlb⟩ := FB.out.cells
    refine wp_region_held_drew (S := (fun w' => w'.cell? ⟨w1.heap.size, 0, none⟩ = some (.slice A1 n1 c1) ∧ w'.cell? ⟨w1.heap.size, 1, none⟩ = some (.int .i64 a.per) ∧ w'.cell? ⟨w1.heap.size, 2, none⟩ = some (.int .i64 a.inc) ∧ w'.cell? ⟨w2.heap.size, 0, none⟩ = some (.slice A2 n2 c2) ∧ w'.cell? ⟨w2.heap.size, 1, none⟩ = some (.int .i64 b.per) ∧ w'.cell? ⟨w2.heap.size, 2, none⟩ = some (.int .i64 b.inc))) (by kernel_rfl) ⟨a0, a1, a2, b0, b1, b2⟩ (fun hHeld => ?_)
    generalize hwd : w3.drew = wd at *
    clear hwd
    refine tkO [0, 1, 2, 3, 4, 5] ?_; (iterate 6 refine tkI ?_); refine tkX ?_
    refine rdB 6 8 (fun K hK => ?_) (fun K hK => ?_)
    ·rw [if_pos (by rfl)]
     go_simp
     refine (common2_any a.per b.per _ (by omega) (by omega) (by omega) (by omega)).mono ?_
     rw [← HC.out]
     rintro e wa ⟨rfl, hbq⟩
     have FA := hi_ (FA.out.below hbq); have FB := hi_ (FB.out.below hbq); have RB := hi_ (RB.out.below hbq RB.out.lt); have BW := hi_ (bthen BW.out hbq)
     try (have ZB := hi_ (ZB.out.below hbq ZB.out.lt))
     clear hbq hHeld
     clear a0 a1 a2 hla b0 b1 b2 hlb
     obtain ⟨a0, a1, a2, hla⟩ := FA.out.cells
     obtain ⟨b0, b1, b2, hlb⟩ := FB.out.cells
     refine bkS hK (by exact ⟨a0, a1, a2, b0, b1, b2⟩) (fun hHeld => ?_); clear hK K
     refine tk1 7 ?_
     refine rdy2 8 (fun K hK => ?_)
     go_simp
     have hbq := balloc wa (.cells #[.slice none 0 0, .int .i64 0, .int .i64 0, .slice none 0 0, .int .i64 0, .int .i64 0, .int .i64 0] 91)
     have zb := Blk.new wa 91 #[.slice none 0 0, .int .i64 0, .int .i64 0, .slice none 0 0, .int .i64 0, .int .i64 0, .int .i64 0]
     have hP := FB.out.lt
     have ZB := hi_ zb
     clear zb
     generalize hwa : wa.alloc (.cells #[.slice none 0 0, .int .i64 0, .int .i64 0, .slice none 0 0, .int .i64 0, .int .i64 0, .int .i64 0] 91) = wb at *
     clear hwa
     have FA := hi_ (FA.out.below hbq); have FB := hi_ (FB.out.below hbq); have RB := hi_ (RB.out.below hbq RB.out.lt); have BW := hi_ (bthen BW.out hbq)
     clear hbq hHeld
     clear a0 a1 a2 hla b0 b1 b2 hlb
     obtain ⟨a0, a1, a2, hla⟩ := FA.out.cells
     obtain ⟨b0, b1, b2, hlb⟩ := FB.out.cells
     refine bkS hK (by exact ⟨a0, a1, a2, b0, b1, b2⟩) (fun hHeld => ?_); clear hK K
     refine rdy1 9 (fun K hK => ?_)
     refine step_storeN rfl 91 _ _ rfl rfl ZB.out rfl rfl (by kernel_rfl) (by simp [Value.oneCell']) ?_
     intro wz hsto rz
     have FA := hi_ (FA.out.sto hsto (.inl (by omega))); have FB := hi_ (FB.out.sto hsto (.inl (by omega))); have RB := hi_ (RB.out.sto hsto (by omega)); have BW := hi_ (bsto BW.out hsto (by omega))
     clear a0 a1 a2 hla b0 b1 b2 hlb
     obtain ⟨a0, a1, a2, hla⟩ := FA.out.cells
     obtain ⟨b0, b1, b2, hlb⟩ := FB.out.cells
     refine bkS hK (by exact ⟨a0, a1, a2, b0, b1, b2⟩) (fun hHeld => ?_); clear hK K
     refine dnH ?_
     go_wp2_with fail
     go_meet
     exact ⟨_, rfl, hP, rz, FA.out, FB.out, RB.out, BW.out⟩
    ·rw [if_pos (by rfl)]
     go_simp
     have hbq := balloc wd (.cells #[.slice none 0 0, .int .i64 0, .int .i64 0, .slice none 0 0, .int .i64 0, .int .i64 0, .int .i64 0] 91)
     have zb := Blk.new wd 91 #[.slice none 0 0, .int .i64 0, .int .i64 0, .slice none 0 0, .int .i64 0, .int .i64 0, .int .i64 0]
     have hP := FB.out.lt
     have ZB := hi_ zb
     clear zb
     generalize hwa : wd.alloc (.cells #[.slice none 0 0, .int .i64 0, .int .i64 0, .slice none 0 0, .int .i64 0, .int .i64 0, .int .i64 0] 91) = wa at *
     clear hwa
     have FA := hi_ (FA.out.below hbq); have FB := hi_ (FB.out.below hbq); have RB := hi_ (RB.out.below hbq RB.out.lt); have BW := hi_ (bthen BW.out hbq)
     clear hbq hHeld
     clear a0 a1 a2 hla b0 b1 b2 hlb
     obtain ⟨a0, a1, a2, hla⟩ := FA.out.cells
     obtain ⟨b0, b1, b2, hlb⟩ := FB.out.cells
     refine bkS hK (by exact ⟨a0, a1, a2, b0, b1, b2⟩) (fun hHeld => ?_); clear hK K
     refine rdy2 6 (fun K hK => ?_)
     go_simp
     refine (common2_any a.per b.per _ (by omega) (by omega) (by omega) (by omega)).mono ?_
     rw [← HC.out]
     rintro e wb ⟨rfl, hbq⟩
     have FA := hi_ (FA.out.below hbq); have FB := hi_ (FB.out.below hbq); have RB := hi_ (RB.out.below hbq RB.out.lt); have BW := hi_ (bthen BW.out hbq)
     try (have ZB := hi_ (ZB.out.below hbq ZB.out.lt))
     clear hbq hHeld
     clear a0 a1 a2 hla b0 b1 b2 hlb
     obtain ⟨a0, a1, a2, hla⟩ := FA.out.cells
     obtain ⟨b0, b1, b2, hlb⟩ := FB.out.cells
     refine bkS hK (by exact ⟨a0, a1, a2, b0, b1, b2⟩) (fun hHeld => ?_); clear hK K
     refine tk1 7 ?_
     refine rdy1 9 (fun K hK => ?_)
     refine step_storeN rfl 91 _ _ rfl rfl ZB.out rfl rfl (by kernel_rfl) (by simp [Value.oneCell']) ?_
     intro wz hsto rz
     have FA := hi_ (FA.out.sto hsto (.inl (by omega))); have FB := hi_ (FB.out.sto hsto (.inl (by omega))); have RB := hi_ (RB.out.sto hsto (by omega)); have BW := hi_ (bsto BW.out hsto (by omega))
     clear a0 a1 a2 hla b0 b1 b2 hlb
     obtain ⟨a0, a1, a2, hla⟩ := FA.out.cells
     obtain ⟨b0, b1, b2, hlb⟩ := FB.out.cells
     refine bkS hK (by exact ⟨a0, a1, a2, b0, b1, b2⟩) (fun hHeld => ?_); clear hK K
     refine dnH ?_
     go_wp2_with fail
     go_meet
     exact ⟨_, rfl, hP, rz, FA.out, FB.out, RB.out, BW.out⟩
   case rest =>
    as_aux_lemma =>
    clear FA FB RB BW
    obtain ⟨P, rfl, hP, pb, fa, fb, rb, bw⟩ := hcut
    have PB := hi_ pb; have FA := hi_ fa; have FB := hi_ fb; have RB := hi_ rb; have BW := hi_ bw
    clear pb fa fb rb bw
    obtain ⟨p6, hlp⟩ : _ ∧ _ := ⟨PB.out.cell 6, PB.out.lt⟩
    simp at p6
    have hrl := RB.out.lt
    by_cases hcc : 120 < C
    ·have F := hi_ (show CvBad ⟨xs, p, i⟩ ⟨ys, q, j⟩ 3 from .inr ⟨HFO.out, HGO.out, rfl, a, b, HNF.out, HNG.out, by rw [← HC.out]; exact hcc⟩)
     have hci : (120 : Int) < (C : Int) := by omega
     clear hcc
     go_wp2_with (refine wpList_storeN rfl 91 _ _ rfl rfl RB.out rfl rfl (by kernel_rfl) (by simp [Value.oneCell']) ?_; intro wz hsto rz)
     exact bodyPost_ret (v := .tuple #[.agg zero7, .int .i64 3]) (by simp [results, Tryz.results39, go_sem, rz.cell, zero7]) rfl (.inl ⟨_, F.out, rfl, bsto BW.out hsto (by omega)⟩)
    ·have hci : ¬ (120 : Int) < (C : Int) := by omega
     have HCC := hi_ hcc
     clear hcc
     go_upto_region 10 with fail
     refine wp_region_lit ?_
     refine wpList_load_row rfl 91 _ rfl P rfl 91 #[.slice A1 n1 c1, .int .i64 a.per, .int .i64 a.inc, .slice A2 n2 c2, .int .i64 b.per, .int .i64 b.inc, .int .i64 C] (0, 0) _ PB.out Tryz.underlying91 rfl (by kernel_rfl) ?_
     refine wpList_storeN rfl 91 _ _ rfl rfl RB.out rfl rfl (by kernel_rfl) (by simp [Value.oneCell']) ?_
     intro wz hsto rz
     have FA := hi_ (FA.out.sto hsto (.inr (by omega))); have FB := hi_ (FB.out.sto hsto (.inr (by omega)))
     have bw := bsto BW.out hsto (by omega)
     (try simp only [Act.put]); (try simp only [g8b]); (try simp only [g8c]); (try simp only [g8d])
     go_wp2_with fail
     have hCo : C = ordC a b := HC.out
     exact bodyPost_ret (v := .tuple #[.agg (cpA A1 n1 c1 a A2 n2 c2 b (ordC a b : Nat)), .int .i64 0]) (by simp [results, Tryz.results39, go_sem, rz.cell, cpA, hCo]) rfl
      (.inr ⟨HFO.out, HGO.out, a, b, A1, n1, c1, A2, n2, c2, HNF.out, HNG.out, HAO.out, HBO.out, by rw [← hCo]; have := HCC.out; omega, rfl, FA.out.ints, FB.out.ints, fun b' off s e => by have := (FA.out.ap b' off s e).1; omega, fun b' off s e => by have := (FB.out.ap b' off s e).1; omega, bw⟩)
  ·have F := hi_ (show CvBad ⟨xs, p, i⟩ ⟨ys, q, j⟩ 1 from .inl ⟨fun h => hno h.2, rfl⟩)
   have RB := hi_ (RB.out.alloc (.cells #[.slice A2 n2 c2, .int .i64 Cv.none.per, .int .i64 Cv.none.inc] 26))
   have BW := hi_ (bthen BW.out (balloc _ (.cells #[.slice A2 n2 c2, .int .i64 Cv.none.per, .int .i64 Cv.none.inc] 26)))
   clear hno HN
   go_wp2_with (refine wpList_storeN rfl 91 _ _ rfl rfl RB.out rfl rfl (by kernel_rfl) (by simp [Value.oneCell']) ?_; intro wz hsto rz)
   exact bodyPost_ret (v := .tuple #[.agg zero7, .int .i64 1]) (by simp [results, Tryz.results39, go_sem, rz.cell, zero7]) rfl (.inl ⟨_, F.out, rfl, bsto BW.out hsto (by omega)⟩)
 ·have F := hi_ (show CvBad ⟨xs, p, i⟩ ⟨ys, q, j⟩ 1 from .inl ⟨fun h => hno h.1, rfl⟩)
  have RB := hi_ (RB.out.alloc (.cells #[.slice A1 n1 c1, .int .i64 Cv.none.per, .int .i64 Cv.none.inc] 26))
  have BW := hi_ (bthen P.out.bw (balloc _ (.cells #[.slice A1 n1 c1, .int .i64 Cv.none.per, .int .i64 Cv.none.inc] 26)))
  clear hno HN
  go_wp2_with (refine wpList_storeN rfl 91 _ _ rfl rfl RB.out rfl rfl (by kernel_rfl) (by simp [Value.oneCell']) ?_; intro wz hsto rz)
  exact bodyPost_ret (v := .tuple #[.agg zero7, .int .i64 1]) (by simp [results, Tryz.results39, go_sem, rz.cell, zero7]) rfl (.inl ⟨_, F.out, rfl, bsto BW.out hsto (by omega)⟩)
end
section
open Go.RowKit
def RetLs (a b : Cv) (lo t : Nat) (w : World) (e : Ending) (w' : World) : Prop := ∃ v, CvI a b lo t (t + 1) v ∧ 0 ≤ v ∧ v ≤ 4611686018427387904 ∧ e = .returned (.int .i64 v) ∧ Below w.heap.size w w'
theorem CvI.bd {a b : Cv} (ha : a.Ok) (hb : b.Ok) {lo t S : Nat} {v : Int} (ht : t ≤ 2000) (h : CvI a b lo t S v) : 0 ≤ v ∧ v ≤ 4611686018427387904 := by
 rcases h with ⟨_, rfl⟩ | ⟨⟨s, _, _, h3, rfl⟩, _⟩
 ·unfold inf; omega
 ·have := csp_bd ha hb ht h3; omega
set_option maxHeartbeats 1000000 in
theorem cvleast_any (q1 q2 N : Nat) (a b : Cv) (t lo : Nat) (w : World) (hA : RowI w q1 (tab a.at 0 N)) (hB : RowI w q2 (tab b.at 0 N)) (ha : a.Ok) (hb : b.Ok) (ht : t < N) (hN : N ≤ 2000) (hlo : lo ≤ t) :
 Calls Tryz.prog 97 #[.slice (some ⟨q1, 0, none⟩) N N, .slice (some ⟨q2, 0, none⟩) N N, .int .i64 t, .int .i64 lo, .int .i64 t] w (RetLs a b lo t w) := by
 have T1 := hi_ hA; have T2 := hi_ hB; have HA := hi_ ha; have HB := hi_ hb
 have BW := hi_ (Below.refl w.heap.size w)
 clear hA hB ha hb
 go_enter Tryz.func97, Tryz.ntmps97
 go_wp2_with fail
 go_loopg [12, 11] (t + 1 - lo) (fun gg s12 s11 wx => ∃ (S : Nat) (v : Int), lo ≤ S ∧ S + gg = t + 1 ∧ s12 = .int .i64 S ∧ s11 = .int .i64 v ∧ CvI a b lo t S v ∧ RowI wx q1 (tab a.at 0 N) ∧ RowI wx q2 (tab b.at 0 N) ∧ Below w.heap.size w wx)
 case atStart => exact ⟨lo, inf, Nat.le_refl _, by omega, rfl, rfl, CvI.zero a b lo t, T1.out, T2.out, BW.out⟩
 case round =>
  clear T1 T2 BW
  obtain ⟨S, v, hS, hgg, rfl, rfl, hI, h1, h2, h3⟩ := hrel
  have T1 := hi_ h1; have T2 := hi_ h2; have BW := hi_ h3; have HI := hi_ hI
  clear h1 h2 h3 hI
  by_cases hk : S ≤ t
  ·have hki : (S : Int) ≤ t := by omega
   obtain ⟨u, hu⟩ : ∃ u, u = t - S := ⟨_, rfl⟩
   have e1 : IntKind.i64.wrap ((t : Int) - (S : Int)) = (u : Int) := by rw [IntWalk.i64_in _ (by omega)]; omega
   have hSN : S < N := by omega
   have huN : u < N := by omega
   have hSNi : (S : Int) < N := by omega
   have huNi : (u : Int) < N := by omega
   have hs0 : 0 ≤ (S : Int) := by omega
   have hu0 : 0 ≤ (u : Int) := by omega
   have c1 := T1.out.cell S (by rw [tab_length]; exact hSN)
   have c2 := T2.out.cell u (by rw [tab_length]; exact huN)
   rw [tab_nth _ _ _ _ hSN, Nat.zero_add] at c1
   rw [tab_nth _ _ _ _ huN, Nat.zero_add] at c2
   obtain ⟨x, hx⟩ : ∃ x, x = a.at S := ⟨_, rfl⟩
   obtain ⟨y, hy⟩ : ∃ y, y = b.at u := ⟨_, rfl⟩
   rw [← hx] at c1
   rw [← hy] at c2
   have bx := HA.out.at_bd (n := S) (by omega)
   have by' := HB.out.at_bd (n := u) (by omega)
   rw [← hx] at bx
   rw [← hy] at by'
   have hl1 := T1.out.lt; have hl2 := T2.out.lt
   have HU := hi_ hu; have HX := hi_ hx; have HY := hi_ hy
   clear hu hx hy
   by_cases ix : x = inf
   ·have NI := hi_ (HI.out.skip (fun h => h.2.1 (bx.2.2 ix)))
    unfold inf at ix
    have dx : (x != 4611686018427387904) = false := by simpa using ix
    clear bx by' ix
    go_wp2_with fail
    go_quiet (fail)
    go_wp2_with fail
    go_roundg (gk - 1)
    case measure => omega
    case rel => exact ⟨S + 1, v, by omega, by omega, by go_num, rfl, NI.out, T1.out, T2.out, bdrewN BW.out⟩
   ·have dx : (x != 4611686018427387904) = true := by unfold inf at ix; simpa using ix
    by_cases iy : y = inf
    ·have NI := hi_ (HI.out.skip (fun h => h.2.2 (by rw [← HU.out]; exact by'.2.2 iy)))
     unfold inf at iy
     have dy : (y != 4611686018427387904) = false := by simpa using iy
     clear bx by' ix iy
     go_wp2_with fail
     go_quiet (fail)
     go_wp2_with fail
     go_roundg (gk - 1)
     case measure => omega
     case rel => exact ⟨S + 1, v, by omega, by omega, by go_num, rfl, NI.out, T1.out, T2.out, bdrewN BW.out⟩
    ·have dy : (y != 4611686018427387904) = true := by unfold inf at iy; simpa using iy
     have HC := hi_ (show CSp a b t S from ⟨by omega, fun h => ix (by rw [HX.out]; exact h.2), fun h => iy (by rw [HY.out, HU.out]; exact h.2)⟩)
     have bd := csp_bd HA.out HB.out (show t ≤ 2000 by omega) HC.out
     rw [← HU.out, ← HX.out, ← HY.out] at bd
     have vb := HI.out.bd HA.out HB.out (by omega)
     have bx0 := bx.1; have by0 := by'.1
     have bd1 := bd.1; have bd2 := bd.2
     have e2 : IntKind.i64.wrap (x + y) = x + y := IntWalk.i64_in _ (by omega)
     obtain ⟨z, hz⟩ : ∃ z, z = x + y := ⟨_, rfl⟩
     rw [← hz] at e2 bd1 bd2
     have HZ := hi_ hz
     have e3 : x + y = z := hz.symm
     clear bx by' bd ix iy hz
     by_cases hlt : z < v
     ·have NI := hi_ (HI.out.more hS HC.out (.inr (by rw [← HU.out, ← HX.out, ← HY.out]; omega)))
      rw [← HU.out, ← HX.out, ← HY.out, ← HZ.out] at NI
      clear vb
      go_wp2_with fail
      go_quiet (fail)
      go_wp2_with fail
      go_roundg (gk - 1)
      case measure => omega
      case rel => exact ⟨S + 1, z, by omega, by omega, by go_num, rfl, NI.out, T1.out, T2.out, bdrewN BW.out⟩
     ·have NI := hi_ (HI.out.keep (by rw [← HU.out, ← HX.out, ← HY.out]; omega) (by rw [← HU.out, ← HX.out, ← HY.out]; unfold inf; omega))
      clear vb
      go_wp2_with fail
      go_quiet (fail)
      go_wp2_with fail
      go_roundg (gk - 1)
      case measure => omega
      case rel => exact ⟨S + 1, v, by omega, by omega, by go_num, rfl, NI.out, T1.out, T2.out, bdrewN BW.out⟩
  ·have hki : ¬ (S : Int) ≤ t := by omega
   obtain rfl : S = t + 1 := by omega
   have bd := HI.out.bd HA.out HB.out (by omega)
   have BD := hi_ bd
   clear bd
   go_wp2_with fail
   go_ret
   exact ⟨v, HI.out, BD.out.1, BD.out.2, rfl, BW.out⟩
end
section
open Go.RowKit
set_option maxHeartbeats 8000000 in
set_option maxRecDepth 100000 in
theorem both_ok (A B : Option Addr) (n m c d : Nat) (p i q j : Int) (xs ys : List Int) (w : World) (hA : Ints w w.heap.size A n xs) (hB : Ints w w.heap.size B m ys)
 (hf : Cv.Ok ⟨xs, p, i⟩) (hg : Cv.Ok ⟨ys, q, j⟩) :
 Calls Tryz.prog 147 #[.agg #[.slice A n c, .int .i64 p, .int .i64 i], .agg #[.slice B m d, .int .i64 q, .int .i64 j]] w fun e w' =>
  e = .returned (.tuple #[pairV A n c p i B m d q j (ordF ⟨xs, p, i⟩ ⟨ys, q, j⟩) (ordC ⟨xs, p, i⟩ ⟨ys, q, j⟩) (ordD ⟨xs, p, i⟩ ⟨ys, q, j⟩) (nth xs (n - 1) != inf && nth ys (m - 1) != inf), .int .i64 0]) ∧ Below w.heap.size w w' := by
 have h1 := Cv.okB_true hf; have h2 := Cv.okB_true hg
 have OB := ord_b hf hg
 have hn := hf.n2; have hm := hg.n2; have hn1 := hf.n1; have hm1 := hg.n1
 have hp1 := hf.p1; have hp2 := hf.p2; have hpn := hf.pn; have hi1 := hf.i1; have hi2 := hf.i2
 have hq1 := hg.p1; have hq2 := hg.p2; have hqm := hg.pn; have hj1 := hg.i1; have hj2 := hg.i2
 have hl := hA.1; have hl2 := hB.1
 have hF : ((ordF ⟨xs, p, i⟩ ⟨ys, q, j⟩ : Nat) : Int) = max ((n : Int) - p) ((m : Int) - q) := by
  unfold ordF
  simp only [hl, hl2] at hp1 hpn hq1 hqm ⊢
  omega
 rw [hF]
 obtain ⟨sv, hsv⟩ : ∃ sv, sv = max ((n : Int) - p) ((m : Int) - q) := ⟨_, rfl⟩
 rw [← hsv]
 obtain ⟨bb, hbb⟩ : ∃ bb, bb = ordC ⟨xs, p, i⟩ ⟨ys, q, j⟩ := ⟨_, rfl⟩
 obtain ⟨u, hu⟩ : ∃ u, u = bb / p.toNat := ⟨_, rfl⟩
 obtain ⟨v, hv⟩ : ∃ v, v = bb / q.toNat := ⟨_, rfl⟩
 have hD : ordD ⟨xs, p, i⟩ ⟨ys, q, j⟩ = (u : Int) * i - (v : Int) * j := by unfold ordD; rw [hu, hv, hbb]
 have hb1 := OB.b1; have hb2 := OB.b2; have ha1 := OB.a1; have ha2 := OB.a2; have hc1 := OB.c1; have hc2 := OB.c2; have hd1 := OB.d1; have hd2 := OB.d2
 rw [hD] at hd1 hd2 ⊢
 rw [← hbb] at hb1 hb2 ha1 ha2 hc1 hc2 ⊢
 simp only [← hu, ← hv] at hb1 hb2 ha1 ha2
 simp only [hl, hl2] at hn hm hn1 hm1 hp1 hp2 hpn hi1 hi2 hq1 hq2 hqm hj1 hj2
 obtain ⟨x1, hx1⟩ : ∃ x1, x1 = (nth xs (n - 1) != inf) := ⟨_, rfl⟩
 obtain ⟨y1, hy1⟩ : ∃ y1, y1 = (nth ys (m - 1) != inf) := ⟨_, rfl⟩
 rw [← hx1, ← hy1]
 obtain ⟨p, rfl⟩ := Int.eq_ofNat_of_zero_le (show 0 ≤ p by omega)
 obtain ⟨q, rfl⟩ := Int.eq_ofNat_of_zero_le (show 0 ≤ q by omega)
 have hbc : bb = comm p q := hbb
 simp only [Int.toNat_natCast] at hu hv
 have HC := hi_ hbc; have HU := hi_ hu; have HV := hi_ hv; have HX := hi_ hx1; have HY := hi_ hy1
 clear hF hD hbb hbc hu hv hx1 hy1 hf hg hl hl2 OB
 unfold pairV
 have IA := hi_ (((hA.alloc' (.cells #[.slice A n c, .int .i64 p, .int .i64 i] 26)).alloc' (.cells #[.slice B m d, .int .i64 q, .int .i64 j] 26)).alloc' (.cells #[.slice none 0 0, .int .i64 0, .int .i64 0, .slice none 0 0, .int .i64 0, .int .i64 0, .int .i64 0, .int .i64 0, .int .i64 0, .bool false] 208))
 have IB := hi_ (((hB.alloc' (.cells #[.slice A n c, .int .i64 p, .int .i64 i] 26)).alloc' (.cells #[.slice B m d, .int .i64 q, .int .i64 j] 26)).alloc' (.cells #[.slice none 0 0, .int .i64 0, .int .i64 0, .slice none 0 0, .int .i64 0, .int .i64 0, .int .i64 0, .int .i64 0, .int .i64 0, .bool false] 208))
 have FB := hi_ (((Blk.new w 26 #[.slice A n c, .int .i64 p, .int .i64 i]).alloc (.cells #[.slice B m d, .int .i64 q, .int .i64 j] 26)).alloc (.cells #[.slice none 0 0, .int .i64 0, .int .i64 0, .slice none 0 0, .int .i64 0, .int .i64 0, .int .i64 0, .int .i64 0, .int .i64 0, .bool false] 208))
 have gb := (Blk.new (w.alloc (.cells #[.slice A n c, .int .i64 p, .int .i64 i] 26)) 26 #[.slice B m d, .int .i64 q, .int .i64 j]).alloc (.cells #[.slice none 0 0, .int .i64 0, .int .i64 0, .slice none 0 0, .int .i64 0, .int .i64 0, .int .i64 0, .int .i64 0, .int .i64 0, .bool false] 208)
 rw [World.size_alloc] at gb
 have rb := Blk.new ((w.alloc (.cells #[.slice A n c, .int .i64 p, .int .i64 i] 26)).alloc (.cells #[.slice B m d, .int .i64 q, .int .i64 j] 26)) 208 #[.slice none 0 0, .int .i64 0, .int .i64 0, .slice none 0 0, .int .i64 0, .int .i64 0, .int .i64 0, .int .i64 0, .int .i64 0, .bool false]
 rw [World.size_alloc, World.size_alloc] at rb
 have GB := hi_ gb; have RB := hi_ rb
 have BW := hi_ (bthen (bthen (balloc w (.cells #[.slice A n c, .int .i64 p, .int .i64 i] 26)) (balloc _ (.cells #[.slice B m d, .int .i64 q, .int .i64 j] 26))) (balloc _ (.cells #[.slice none 0 0, .int .i64 0, .int .i64 0, .slice none 0 0, .int .i64 0, .int .i64 0, .int .i64 0, .int .i64 0, .int .i64 0, .bool false] 208)))
 clear gb rb
 have hAl : ∀ b off s, A = some ⟨b, off, s⟩ → b < w.heap.size := by
  intro b off s e
  obtain ⟨b', off', e', hb, _⟩ := hA.2 (by omega)
  rw [e] at e'; cases e'; exact hb
 have hBl : ∀ b off s, B = some ⟨b, off, s⟩ → b < w.heap.size := by
  intro b off s e
  obtain ⟨b', off', e', hb, _⟩ := hB.2 (by omega)
  rw [e] at e'; cases e'; exact hb
 have HAL := hi_ hAl; have HBL := hi_ hBl
 clear hA hB hAl hBl
 go_enter Tryz.func147, Tryz.ntmps147
 go_wp2_with fail
 refine (valid_any A n c p i xs _ IA.out (by omega)).mono ?_
 rw [h1]
 rintro e w1 ⟨rfl, hb⟩
 have IA := hi_ (IA.out.ext hb); have IB := hi_ (IB.out.ext hb); have BW := hi_ (bthen BW.out hb)
 have FB := hi_ (FB.out.below hb FB.out.lt); have GB := hi_ (GB.out.below hb GB.out.lt); have RB := hi_ (RB.out.below hb RB.out.lt)
 have f0 := FB.out.cell 0; have f1 := FB.out.cell 1; have f2 := FB.out.cell 2; have g0 := GB.out.cell 0; have g1 := GB.out.cell 1; have g2 := GB.out.cell 2
 simp at f0 f1 f2 g0 g1 g2
 have hlf := FB.out.lt; have hlg := GB.out.lt; have hlr := RB.out.lt
 clear hb
 go_wp2_with fail
 refine (valid_any B m d q j ys _ IB.out (by omega)).mono ?_
 rw [h2]
 rintro e w2 ⟨rfl, hb⟩
 have IA := hi_ (IA.out.ext hb); have IB := hi_ (IB.out.ext hb); have BW := hi_ (bthen BW.out hb)
 have FB := hi_ (FB.out.below hb FB.out.lt); have GB := hi_ (GB.out.below hb GB.out.lt); have RB := hi_ (RB.out.below hb RB.out.lt)
 clear f0 f1 f2 g0 g1 g2 hlf hlg hlr
 have f0 := FB.out.cell 0; have f1 := FB.out.cell 1; have f2 := FB.out.cell 2; have g0 := GB.out.cell 0; have g1 := GB.out.cell 1; have g2 := GB.out.cell 2
 simp at f0 f1 f2 g0 g1 g2
 have hlf := FB.out.lt; have hlg := GB.out.lt; have hlr := RB.out.lt
 clear hb h1 h2
 go_upto_region 3 with fail
 go_cut [6] (fun s6 wx => ∃ P : Nat, s6 = .pointer (some ⟨P, 0, none⟩) ∧ w.heap.size + 1 + 1 < P ∧ Blk wx P 208 #[.slice A n c, .int .i64 p, .int .i64 i, .slice B m d, .int .i64 q, .int .i64 j, .int .i64 sv, .int .i64 bb, .int .i64 0, .bool false] ∧ Blk wx w.heap.size 26 #[.slice A n c, .int .i64 p, .int .i64 i] ∧ Blk wx (w.heap.size + 1) 26 #[.slice B m d, .int .i64 q, .int .i64 j] ∧ Blk wx (w.heap.size + 1 + 1) 208 #[.slice none 0 0, .int .i64 0, .int .i64 0, .slice none 0 0, .int .i64 0, .int .i64 0, .int .i64 0, .int .i64 0, .int .i64 0, .bool false] ∧
  Ints wx wx.heap.size A n xs ∧ Ints wx wx.heap.size B m ys ∧ Below w.heap.size w wx)
 case first =>
  have hR2 := RB.out.lt
  have hmx : (if (n : Int) - p < (m : Int) - q then (m : Int) - q else (n : Int) - p) = sv := by
   rw [hsv]; split <;> omega
  have HSV := hi_ hsv
  clear hsv
  go_region_held3 (fun w' => w'.cell? ⟨w.heap.size, 0, none⟩ = some (.slice A n c) ∧ w'.cell? ⟨w.heap.size, 1, none⟩ = some (.int .i64 p) ∧ w'.cell? ⟨w.heap.size, 2, none⟩ = some (.int .i64 i) ∧
   w'.cell? ⟨w.heap.size + 1, 0, none⟩ = some (.slice B m d) ∧ w'.cell? ⟨w.heap.size + 1, 1, none⟩ = some (.int .i64 q) ∧ w'.cell? ⟨w.heap.size + 1, 2, none⟩ = some (.int .i64 j)) (first | go_keep | exact ⟨(cell_set10 (by omega)).trans f0, (cell_set10 (by omega)).trans f1, (cell_set10 (by omega)).trans f2, (cell_set10 (by omega)).trans g0, (cell_set10 (by omega)).trans g1, (cell_set10 (by omega)).trans g2⟩)
   (first
    | (go_at_call_of 92 (Value.agg #[.slice A n c, .int .i64 p, .int .i64 i])
       refine (start_any A n c p i _ (by omega) (by omega) (by omega)).mono ?_
       rintro e w3 ⟨rfl, hb⟩
       have hh : Below w2.heap.size w2 w3 := oblater (by repeat (first | exact Below.refl _ _ | refine Below.drew ?_ | refine oball ?_ _)) hb
       have IA := hi_ (IA.out.ext hh); have IB := hi_ (IB.out.ext hh); have BW := hi_ (bthen BW.out hh)
       have FB := hi_ (FB.out.below hh FB.out.lt); have GB := hi_ (GB.out.below hh GB.out.lt); have RB := hi_ (RB.out.below hh RB.out.lt)
       have szw3 := hh.size
       try (have zb := ZB.out.below hb (by first | exact ZB.out.lt | (have := ZB.out.lt; simp; omega)); have ZB := hi_ zb; clear zb)
       try (have zb := (Blk.new w2 208 #[.slice none 0 0, .int .i64 0, .int .i64 0, .slice none 0 0, .int .i64 0, .int .i64 0, .int .i64 0, .int .i64 0, .int .i64 0, .bool false]).below hb (by simp); have ZB := hi_ zb; clear zb)
       try (have zb := (Blk.drew (Blk.new w2 208 #[.slice none 0 0, .int .i64 0, .int .i64 0, .slice none 0 0, .int .i64 0, .int .i64 0, .int .i64 0, .int .i64 0, .int .i64 0, .bool false])).below hb (by simp); have ZB := hi_ zb; clear zb)
       clear hb hh
       clear f0 f1 f2 g0 g1 g2 hlf hlg hlr
       have f0 := FB.out.cell 0; have f1 := FB.out.cell 1; have f2 := FB.out.cell 2; have g0 := GB.out.cell 0; have g1 := GB.out.cell 1; have g2 := GB.out.cell 2
       simp at f0 f1 f2 g0 g1 g2
       have hlf := FB.out.lt; have hlg := GB.out.lt; have hlr := RB.out.lt)
    | (go_at_call_of 92 (Value.agg #[.slice B m d, .int .i64 q, .int .i64 j])
       refine (start_any B m d q j _ (by omega) (by omega) (by omega)).mono ?_
       rintro e w4 ⟨rfl, hb⟩
       have hh : Below w3.heap.size w3 w4 := oblater (by repeat (first | exact Below.refl _ _ | refine Below.drew ?_ | refine oball ?_ _)) hb
       have IA := hi_ (IA.out.ext hh); have IB := hi_ (IB.out.ext hh); have BW := hi_ (bthen BW.out hh)
       have FB := hi_ (FB.out.below hh FB.out.lt); have GB := hi_ (GB.out.below hh GB.out.lt); have RB := hi_ (RB.out.below hh RB.out.lt)
       have szw4 := hh.size
       try (have zb := ZB.out.below hb (by first | exact ZB.out.lt | (have := ZB.out.lt; simp; omega)); have ZB := hi_ zb; clear zb)
       try (have zb := (Blk.new w3 208 #[.slice none 0 0, .int .i64 0, .int .i64 0, .slice none 0 0, .int .i64 0, .int .i64 0, .int .i64 0, .int .i64 0, .int .i64 0, .bool false]).below hb (by simp); have ZB := hi_ zb; clear zb)
       clear hb hh
       clear f0 f1 f2 g0 g1 g2 hlf hlg hlr
       have f0 := FB.out.cell 0; have f1 := FB.out.cell 1; have f2 := FB.out.cell 2; have g0 := GB.out.cell 0; have g1 := GB.out.cell 1; have g2 := GB.out.cell 2
       simp at f0 f1 f2 g0 g1 g2
       have hlf := FB.out.lt; have hlg := GB.out.lt; have hlr := RB.out.lt)
    | (go_at_call_of 94 (Value.int IntKind.i64 p)
       refine (common_any p q _ (by omega) (by omega) (by omega)).mono ?_
       rw [← HC.out]
       rintro e w5 ⟨rfl, hb⟩
       have hh : Below w4.heap.size w4 w5 := oblater (by repeat (first | exact Below.refl _ _ | refine Below.drew ?_ | refine oball ?_ _)) hb
       have IA := hi_ (IA.out.ext hh); have IB := hi_ (IB.out.ext hh); have BW := hi_ (bthen BW.out hh)
       have FB := hi_ (FB.out.below hh FB.out.lt); have GB := hi_ (GB.out.below hh GB.out.lt); have RB := hi_ (RB.out.below hh RB.out.lt)
       have szw5 := hh.size
       try (have zb := ZB.out.below hb (by first | exact ZB.out.lt | (have := ZB.out.lt; simp; omega)); have ZB := hi_ zb; clear zb)
       try (have zb := (Blk.new w4 208 #[.slice none 0 0, .int .i64 0, .int .i64 0, .slice none 0 0, .int .i64 0, .int .i64 0, .int .i64 0, .int .i64 0, .int .i64 0, .bool false]).below hb (by simp); have ZB := hi_ zb; clear zb)
       clear hb hh
       clear f0 f1 f2 g0 g1 g2 hlf hlg hlr
       have f0 := FB.out.cell 0; have f1 := FB.out.cell 1; have f2 := FB.out.cell 2; have g0 := GB.out.cell 0; have g1 := GB.out.cell 1; have g2 := GB.out.cell 2
       simp at f0 f1 f2 g0 g1 g2
       have hlf := FB.out.lt; have hlg := GB.out.lt; have hlr := RB.out.lt
       try (have z0 := ZB.out.cell 0; have v0 := ZB.out.frozen 0; have z1 := ZB.out.cell 1; have v1 := ZB.out.frozen 1; have z2 := ZB.out.cell 2; have v2 := ZB.out.frozen 2; have z3 := ZB.out.cell 3; have v3 := ZB.out.frozen 3; have z4 := ZB.out.cell 4; have v4 := ZB.out.frozen 4; have z5 := ZB.out.cell 5; have v5 := ZB.out.frozen 5; have z6 := ZB.out.cell 6; have v6 := ZB.out.frozen 6; have z7 := ZB.out.cell 7; have v7 := ZB.out.frozen 7; have z8 := ZB.out.cell 8; have v8 := ZB.out.frozen 8; have z9 := ZB.out.cell 9; have v9 := ZB.out.frozen 9; simp at z0 z1 z2 z3 z4 z5 z6 z7 z8 z9; have hlz := ZB.out.lt)))
  all_goals
   go_wp2_with fail
   go_meet
   first
    | exact ⟨_, rfl, by omega, ZB.out.store10 _ _ _ _ _ _ _ _ _ _, FB.out.far10 (by omega), GB.out.far10 (by omega), RB.out.far10 (by omega), IA.out.far10 (fun b off s e => by have := HAL.out b off s e; omega), IB.out.far10 (fun b off s e => by have := HBL.out b off s e; omega), bstore10 BW.out (by omega) _ _ _ _ _ _ _ _ _ _⟩
    | exact ⟨_, rfl, by omega, Blk.new _ _ _, FB.out.alloc _, GB.out.alloc _, RB.out.alloc _, IA.out.alloc' _, IB.out.alloc' _, oball BW.out _⟩
 case rest =>
  as_aux_lemma =>
  clear FB GB RB IA IB BW f0 f1 f2 g0 g1 g2 hlf hlg hlr
  obtain ⟨P, rfl, hPR, pB, fB, gB, rB, iA, iB, bW⟩ := hcut
  have FB := hi_ fB; have GB := hi_ gB; have RB := hi_ rB; have PB := hi_ pB; have IA := hi_ iA; have IB := hi_ iB; have BW := hi_ bW
  clear fB gB rB pB iA iB bW
  have f0 := FB.out.cell 0; have f1 := FB.out.cell 1; have f2 := FB.out.cell 2; have g0 := GB.out.cell 0; have g1 := GB.out.cell 1; have g2 := GB.out.cell 2
  have p3 := PB.out.cell 7; have p4 := PB.out.cell 8; have v4 := PB.out.frozen 8
  simp at f0 f1 f2 g0 g1 g2 p3 p4
  have hlf := FB.out.lt; have hlg := GB.out.lt; have hlr := RB.out.lt; have hlp := PB.out.lt
  have e1 : ((bb : Int).tdiv (p : Int)) = (u : Int) := by rw [HU.out]; rfl
  have e2 : ((bb : Int).tdiv (q : Int)) = (v : Int) := by rw [HV.out]; rfl
  have e3 : IntKind.i64.wrap ((u : Int) * i) = (u : Int) * i := IntWalk.i64_in _ (by omega)
  have e4 : IntKind.i64.wrap ((v : Int) * j) = (v : Int) * j := IntWalk.i64_in _ (by omega)
  have e5 : IntKind.i64.wrap ((u : Int) * i - (v : Int) * j) = (u : Int) * i - (v : Int) * j := IntWalk.i64_in _ (by omega)
  have hpn0 : (p : Int) ≠ 0 := by omega
  have hqn0 : (q : Int) ≠ 0 := by omega
  have hp00 : p ≠ 0 := by omega
  have hq00 : q ≠ 0 := by omega
  go_wp2_with fail
  go_region
  have hsz := World.size_setCell wc ⟨P, 8, none⟩ (.int .i64 ((u : Int) * i - (v : Int) * j))
  have pB := Blk.drew (PB.out.set_ 8 (.int .i64 ((u : Int) * i - (v : Int) * j)))
  have fB := Blk.drew (FB.out.far (p := ⟨P, 8, none⟩) (by simp; omega) (.int .i64 ((u : Int) * i - (v : Int) * j)))
  have gB := Blk.drew (GB.out.far (p := ⟨P, 8, none⟩) (by simp; omega) (.int .i64 ((u : Int) * i - (v : Int) * j)))
  have rB := Blk.drew (RB.out.far (p := ⟨P, 8, none⟩) (by simp; omega) (.int .i64 ((u : Int) * i - (v : Int) * j)))
  have iA : Ints (wc.setCell ⟨P, 8, none⟩ (.int .i64 ((u : Int) * i - (v : Int) * j))).drew (wc.setCell ⟨P, 8, none⟩ (.int .i64 ((u : Int) * i - (v : Int) * j))).drew.heap.size A n xs := Ints.drew (IA.out.set1 (p := ⟨P, 8, none⟩) (u := .int .i64 ((u : Int) * i - (v : Int) * j)) (fun b off s e => by have := HAL.out b off s e; simp; omega))
  have iB : Ints (wc.setCell ⟨P, 8, none⟩ (.int .i64 ((u : Int) * i - (v : Int) * j))).drew (wc.setCell ⟨P, 8, none⟩ (.int .i64 ((u : Int) * i - (v : Int) * j))).drew.heap.size B m ys := Ints.drew (IB.out.set1 (p := ⟨P, 8, none⟩) (u := .int .i64 ((u : Int) * i - (v : Int) * j)) (fun b off s e => by have := HBL.out b off s e; simp; omega))
  have bW := (BW.out.setCell (p := ⟨P, 8, none⟩) (by simp; omega) (.int .i64 ((u : Int) * i - (v : Int) * j))).drew
  clear f0 f1 f2 g0 g1 g2 p3 p4 v4 e1 e2 e3 e4 e5 hlf hlg hlr hlp FB GB RB PB IA IB BW hb1 hb2 ha1 ha2 hc1 hc2 hd1 hd2 hp1 hp2 hpn hi1 hi2 hq1 hq2 hqm hj1 hj2 hpn0 hqn0 hp00 hq00 HU HV HC hsv
  generalize hwd : (wc.setCell ⟨P, 8, none⟩ (.int .i64 ((u : Int) * i - (v : Int) * j))).drew = wd at *
  have FB := hi_ fB; have GB := hi_ gB; have RB := hi_ rB; have PB := hi_ pB; have IA := hi_ iA; have IB := hi_ iB; have BW := hi_ bW
  clear fB gB rB pB iA iB bW hwd hsz
  have f0 := FB.out.cell 0; have f1 := FB.out.cell 1; have f2 := FB.out.cell 2; have g0 := GB.out.cell 0; have g1 := GB.out.cell 1; have g2 := GB.out.cell 2
  simp at f0 f1 f2 g0 g1 g2
  go_wp2_with fail
  refine (finite_any A n c p i xs _ IA.out (by omega) (by omega)).mono ?_
  rw [← HX.out]
  rintro e we ⟨rfl, hb⟩
  as_aux_lemma =>
  have IA := hi_ (IA.out.ext hb); have IB := hi_ (IB.out.ext hb); have BW := hi_ (bthen BW.out hb)
  have FB := hi_ (FB.out.below hb FB.out.lt); have GB := hi_ (GB.out.below hb GB.out.lt); have RB := hi_ (RB.out.below hb RB.out.lt); have PB := hi_ (PB.out.below hb PB.out.lt)
  clear f0 f1 f2 g0 g1 g2 hb
  have f0 := FB.out.cell 0; have f1 := FB.out.cell 1; have f2 := FB.out.cell 2; have g0 := GB.out.cell 0; have g1 := GB.out.cell 1; have g2 := GB.out.cell 2
  simp at f0 f1 f2 g0 g1 g2
  cases x1
  case false =>
   as_aux_lemma =>
   have p9 := PB.out.cell 9; have s9 := PB.out.frozen 9
   simp at p9
   have hlp := PB.out.lt
   go_upto_region 6 with fail
   have pB : Blk (we.setCell ⟨P, 9, none⟩ (.bool false)) P 208 #[.slice A n c, .int .i64 p, .int .i64 i, .slice B m d, .int .i64 q, .int .i64 j, .int .i64 sv, .int .i64 bb, .int .i64 ((u : Int) * i - (v : Int) * j), .bool false] := PB.out.set_ 9 (.bool false)
   have rB := RB.out.far (p := ⟨P, 9, none⟩) (by simp; omega) (.bool false)
   have bW := BW.out.setCell (p := ⟨P, 9, none⟩) (by simp; omega) (.bool false)
   clear PB RB BW FB GB IA IB p9 s9 hlp hn hm hn1 hm1 HAL HBL
   try clear f0 f1 f2 g0 g1 g2
   refine wp_region_lit ?_
   refine wpList_load_row rfl 208 _ rfl P rfl 208 #[.slice A n c, .int .i64 p, .int .i64 i, .slice B m d, .int .i64 q, .int .i64 j, .int .i64 sv, .int .i64 bb, .int .i64 ((u : Int) * i - (v : Int) * j), .bool false] (0, 0) _ pB Tryz.underlying208 rfl (by kernel_rfl) ?_
   refine wpList_storeP rfl _ _ rfl rfl rB rfl (by simp [Value.oneCell']) ?_
   intro wz hsto rz
   have bz := bsto bW hsto (by omega)
   clear hsto pB rB bW
   simp only [Act.put, List.setIfInBounds_toArray, List.set_cons_zero, List.set_cons_succ]
   go_wp2_with fail
   exact bodyPost_ret (v := .tuple #[.agg #[.slice A n c, .int .i64 p, .int .i64 i, .slice B m d, .int .i64 q, .int .i64 j, .int .i64 sv, .int .i64 bb, .int .i64 ((u : Int) * i - (v : Int) * j), .bool false], .int .i64 0]) (by simp [results, Tryz.results147, go_sem, rz.cell]) rfl ⟨rfl, bz⟩
  case true =>
   as_aux_lemma =>
   go_wp2_with fail
   refine (finite_any B m d q j ys _ IB.out (by omega) (by omega)).mono ?_
   rw [← HY.out]
   rintro e wf ⟨rfl, hb⟩
   as_aux_lemma =>
   have IA := hi_ (IA.out.ext hb); have IB := hi_ (IB.out.ext hb); have BW := hi_ (bthen BW.out hb)
   have FB := hi_ (FB.out.below hb FB.out.lt); have GB := hi_ (GB.out.below hb GB.out.lt); have RB := hi_ (RB.out.below hb RB.out.lt); have PB := hi_ (PB.out.below hb PB.out.lt)
   clear f0 f1 f2 g0 g1 g2 hb
   have p9 := PB.out.cell 9; have s9 := PB.out.frozen 9
   simp at p9
   have hlp := PB.out.lt
   go_upto_region 6 with fail
   have pB : Blk (wf.setCell ⟨P, 9, none⟩ (.bool y1)) P 208 #[.slice A n c, .int .i64 p, .int .i64 i, .slice B m d, .int .i64 q, .int .i64 j, .int .i64 sv, .int .i64 bb, .int .i64 ((u : Int) * i - (v : Int) * j), .bool y1] := PB.out.set_ 9 (.bool y1)
   have rB := RB.out.far (p := ⟨P, 9, none⟩) (by simp; omega) (.bool y1)
   have bW := BW.out.setCell (p := ⟨P, 9, none⟩) (by simp; omega) (.bool y1)
   clear PB RB BW FB GB IA IB p9 s9 hlp hn hm hn1 hm1 HAL HBL
   try clear f0 f1 f2 g0 g1 g2
   refine wp_region_lit ?_
   refine wpList_load_row rfl 208 _ rfl P rfl 208 #[.slice A n c, .int .i64 p, .int .i64 i, .slice B m d, .int .i64 q, .int .i64 j, .int .i64 sv, .int .i64 bb, .int .i64 ((u : Int) * i - (v : Int) * j), .bool y1] (0, 0) _ pB Tryz.underlying208 rfl (by kernel_rfl) ?_
   refine wpList_storeP rfl _ _ rfl rfl rB rfl (by simp [Value.oneCell']) ?_
   intro wz hsto rz
   have bz := bsto bW hsto (by omega)
   clear hsto pB rB bW
   simp only [Act.put, List.setIfInBounds_toArray, List.set_cons_zero, List.set_cons_succ]
   go_wp2_with fail
   exact bodyPost_ret (v := .tuple #[.agg #[.slice A n c, .int .i64 p, .int .i64 i, .slice B m d, .int .i64 q, .int .i64 j, .int .i64 sv, .int .i64 bb, .int .i64 ((u : Int) * i - (v : Int) * j), .bool y1], .int .i64 0]) (by simp [results, Tryz.results147, go_sem, rz.cell]) rfl ⟨rfl, bz⟩
end
end Go.Proofs.YtaejfleahamapaaGreat
