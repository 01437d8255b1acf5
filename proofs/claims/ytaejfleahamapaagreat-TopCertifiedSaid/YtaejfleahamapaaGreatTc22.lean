/- deviation.both: the pair of two curves in normal form. -/
import Derived.Test.YtaejfleahamapaaGreatTc12
import Derived.Test.YtaejfleahamapaaGreatTc11
import Derived.Test.YtaejfleahamapaaGreatTc2
namespace Go.Proofs.YtaejfleahamapaaGreat
open Go.RowKit
set_option linter.unusedVariables false

set_option maxHeartbeats 4000000 in
set_option maxRecDepth 100000 in
theorem dboth_any (A B : Option Addr) (n m c d : Nat) (p i q j : Int) (xs ys : List Int) (w : World) (hA : Ints w w.heap.size A n xs) (hB : Ints w w.heap.size B m ys) (hn : (n : Int) ≤ 1000000) (hm : (m : Int) ≤ 1000000) :
    Calls Tryz.prog 48 #[.agg #[.slice A n c, .int .i64 p, .int .i64 i], .agg #[.slice B m d, .int .i64 q, .int .i64 j]] w (RetBo ⟨xs, p, i⟩ ⟨ys, q, j⟩ w) := by
  have P := Lib.hid ((PS.new (c := c) (p := p) (i := i) (d := d) (q := q) (j := j) hA hB).alloc (.cells zero8 102))
  have rb := Blk.new ((w.alloc (.cells #[.slice A n c, .int .i64 p, .int .i64 i] 26)).alloc (.cells #[.slice B m d, .int .i64 q, .int .i64 j] 26)) 102 zero8
  rw [World.size_alloc, World.size_alloc] at rb
  have RB := Lib.hid rb
  clear hA hB rb
  unfold zero8 at P RB
  go_enter Tryz.func48, Tryz.ntmps48
  go_wp2_with fail
  refine (normal_any A n c p i xs _ P.out.ia hn).mono ?_
  rintro e w1 ⟨a, er, hN, A1, n1, c1, rfl, hI1, hA1, hb1⟩
  simp only [World.size_alloc] at hA1
  have HN := Lib.hid (NormR.of hN)
  have P := Lib.hid (P.out.below hb1)
  have RB := Lib.hid (RB.out.below hb1 RB.out.lt)
  have HI1 := Lib.hid hI1
  have hs1 := RB.out.lt
  clear hN hI1 hb1
  rcases HN.out with ⟨hfo, hnf, hao, rfl⟩ | ⟨hno, rfl, rfl⟩
  · have ha1 := hao.n1; have ha2 := hao.n2; have hap := hao.p1; have hap2 := hao.p2; have hai := hao.i1; have hai2 := hao.i2; have hapn := hao.pn
    have hl1 : a.vals.length = n1 := HI1.out.1
    rw [hl1] at ha1 ha2 hapn
    have FA := Lib.hid (Bx.new (c := c1) (f := a) HI1.out hA1 (Nat.le_refl _) (by omega) (by omega))
    have P := Lib.hid (P.out.alloc (.cells #[.slice A1 n1 c1, .int .i64 a.per, .int .i64 a.inc] 26))
    have RB := Lib.hid (RB.out.alloc (.cells #[.slice A1 n1 c1, .int .i64 a.per, .int .i64 a.inc] 26))
    have HNF := Lib.hid hnf; have HFO := Lib.hid hfo; have HAO := Lib.hid hao; have HL1 := Lib.hid hl1
    clear hnf hfo hao HI1 hA1 HN hl1
    obtain ⟨f0, f1, f2, g0, g1, g2, hlf, hlg⟩ := P.out.cells
    go_wp2_with fail
    refine (normal_any B m d q j ys _ P.out.ib hm).mono ?_
    rintro e w2 ⟨b, er, hN, A2, n2, c2, rfl, hI2, hA2, hb2⟩
    simp only [World.size_alloc] at hA2
    have HN := Lib.hid (NormR.of hN)
    have RB := Lib.hid (RB.out.below hb2 RB.out.lt)
    have FA := Lib.hid (FA.out.below hb2)
    have BW := Lib.hid (bthen P.out.bw hb2)
    have HI2 := Lib.hid hI2
    have hs2 := RB.out.lt
    have hs3 := FA.out.lt
    clear hN hI2 hb2 P f0 f1 f2 g0 g1 g2 hlf hlg
    rcases HN.out with ⟨hgo, hnf, hbo, rfl⟩ | ⟨hno, rfl, rfl⟩
    · have hb1 := hbo.n1; have hb2 := hbo.n2; have hbp := hbo.p1; have hbp2 := hbo.p2; have hbi := hbo.i1; have hbi2 := hbo.i2; have hbpn := hbo.pn
      have hl2 : b.vals.length = n2 := HI2.out.1
      rw [hl2] at hb1 hb2 hbpn
      have FB := Lib.hid (Bx.new (L := w.heap.size + 1 + 1 + 1) (c := c2) (f := b) HI2.out hA2 (by omega) (by omega) (by omega))
      have FA := Lib.hid (FA.out.alloc (.cells #[.slice A2 n2 c2, .int .i64 b.per, .int .i64 b.inc] 26))
      have RB := Lib.hid (RB.out.alloc (.cells #[.slice A2 n2 c2, .int .i64 b.per, .int .i64 b.inc] 26))
      have BW := Lib.hid (bthen BW.out (balloc _ (.cells #[.slice A2 n2 c2, .int .i64 b.per, .int .i64 b.inc] 26)))
      have HNG := Lib.hid hnf; have HGO := Lib.hid hgo; have HBO := Lib.hid hbo; have HL2 := Lib.hid hl2
      clear hnf hgo hbo HI2 hA2 HN hl2
      obtain ⟨a0, a1, a2, hla⟩ := FA.out.cells
      obtain ⟨b0, b1, b2, hlb⟩ := FB.out.cells
      go_wp2_with fail
      refine (common2_any a.per b.per _ (by omega) (by omega) (by omega) (by omega)).mono ?_
      rintro e w3 ⟨rfl, hb3⟩
      obtain ⟨C, hC⟩ : ∃ C, C = comm a.per.toNat b.per.toNat := ⟨_, rfl⟩
      rw [← hC]
      have RB := Lib.hid (RB.out.below hb3 RB.out.lt)
      have FA := Lib.hid (FA.out.below hb3)
      have FB := Lib.hid (FB.out.below hb3)
      have BW := Lib.hid (bthen BW.out hb3)
      have HC := Lib.hid hC
      have hs4 := FB.out.lt
      clear hb3 hC
      clear a0 a1 a2 hla b0 b1 b2 hlb
      obtain ⟨a0, a1, a2, hla⟩ := FA.out.cells
      obtain ⟨b0, b1, b2, hlb⟩ := FB.out.cells
      by_cases hcc : 120 < C
      · have F := Lib.hid (show BothBad ⟨xs, p, i⟩ ⟨ys, q, j⟩ 3 from .inr ⟨HFO.out, HGO.out, rfl, a, b, HNF.out, HNG.out, by rw [← HC.out]; exact hcc⟩)
        have hci : (120 : Int) < (C : Int) := by omega
        clear hcc
        go_wp2_with (refine wpList_storeN rfl 102 _ _ rfl rfl RB.out rfl rfl (by kernel_rfl) (by simp [Value.oneCell']) ?_; intro wz hsto rz)
        exact bodyPost_ret (v := .tuple #[.agg zero8, .int .i64 3]) (by simp [results, Tryz.results48, go_sem, rz.cell, zero8]) rfl (.inl ⟨_, F.out, rfl, bsto BW.out hsto (by omega)⟩)
      · have hci : ¬ (120 : Int) < (C : Int) := by omega
        have hc120 : (C : Int) ≤ 120 := by omega
        clear hcc
        go_upto_region 10 with fail
        obtain ⟨S, hS⟩ : ∃ S, S = ordF a b := ⟨_, rfl⟩
        have hmx : (if (n1 : Int) - a.per < (n2 : Int) - b.per then (n2 : Int) - b.per else (n1 : Int) - a.per) = (S : Int) := by
          rw [hS]; unfold ordF; rw [HL1.out, HL2.out]; split <;> omega
        have hSb : (S : Int) ≤ 400 := by rw [hS]; unfold ordF; rw [HL1.out, HL2.out]; omega
        have e1 : IntKind.i64.wrap ((S : Int) + (C : Int)) = (S : Int) + (C : Int) := IntWalk.i64_in _ (by omega)
        have HS := Lib.hid hS
        clear hS
        go_cut [10] (fun s10 wx => ∃ P : Nat, s10 = .pointer (some ⟨P, 0, none⟩) ∧ w2.heap.size < P ∧ Blk wx P 102 #[.slice A1 n1 c1, .int .i64 a.per, .int .i64 a.inc, .slice A2 n2 c2, .int .i64 b.per, .int .i64 b.inc, .int .i64 ((S : Int) + (C : Int)), .bool false] ∧
          Bx (w.heap.size + 1 + 1 + 1) wx w1.heap.size A1 n1 c1 a ∧ Bx (w.heap.size + 1 + 1 + 1) wx w2.heap.size A2 n2 c2 b ∧ Blk wx (w.heap.size + 1 + 1) 102 #[.slice none 0 0, .int .i64 0, .int .i64 0, .slice none 0 0, .int .i64 0, .int .i64 0, .int .i64 0, .bool false] ∧ Below w.heap.size w wx)
        case first =>
          have FA := Lib.hid FA.out.drew; have FB := Lib.hid FB.out.drew; have RB := Lib.hid (Blk.drew RB.out); have BW := Lib.hid (Below.drew BW.out)
          clear a0 a1 a2 hla b0 b1 b2 hlb
          obtain ⟨a0, a1, a2, hla⟩ := FA.out.cells
          obtain ⟨b0, b1, b2, hlb⟩ := FB.out.cells
          refine wp_region_held_drew (S := fun w' => w'.cell? ⟨w1.heap.size, 0, none⟩ = some (.slice A1 n1 c1) ∧ w'.cell? ⟨w1.heap.size, 1, none⟩ = some (.int .i64 a.per) ∧ w'.cell? ⟨w1.heap.size, 2, none⟩ = some (.int .i64 a.inc) ∧ w'.cell? ⟨w2.heap.size, 0, none⟩ = some (.slice A2 n2 c2) ∧ w'.cell? ⟨w2.heap.size, 1, none⟩ = some (.int .i64 b.per) ∧ w'.cell? ⟨w2.heap.size, 2, none⟩ = some (.int .i64 b.inc)) (by kernel_rfl) ⟨a0, a1, a2, b0, b1, b2⟩ (fun hHeld => ?_)
          generalize hwd : w3.drew = wd at *
          clear hwd
          refine tkS (i := 0) (v := ?_) ?_ ?_
          rotate_left 1
          · (intro w hSw; (try dsimp only at hSw); go_simp; try with_reducible rfl)
          all_goals ((try simp only [Act.put]); try simp only [g8b, g8c, g8d])
          refine tkS (i := 1) (v := ?_) ?_ ?_
          rotate_left 1
          · (intro w hSw; (try dsimp only at hSw); go_simp; try with_reducible rfl)
          all_goals ((try simp only [Act.put]); try simp only [g8b, g8c, g8d])
          refine tkS (i := 2) (v := ?_) ?_ ?_
          rotate_left 1
          · (intro w hSw; (try dsimp only at hSw); go_simp; try with_reducible rfl)
          all_goals ((try simp only [Act.put]); try simp only [g8b, g8c, g8d])
          refine tkS (i := 4) (v := ?_) ?_ ?_
          rotate_left 1
          · (intro w hSw; (try dsimp only at hSw); go_simp; try with_reducible rfl)
          all_goals ((try simp only [Act.put]); try simp only [g8b, g8c, g8d])
          refine tkS (i := 7) (v := ?_) ?_ ?_
          rotate_left 1
          · (intro w hSw; (try dsimp only at hSw); go_simp; try with_reducible rfl)
          all_goals ((try simp only [Act.put]); try simp only [g8b, g8c, g8d])
          refine wpAnyH_ready (rs := [3, 10]) (by kernel_rfl) (by simp) ?_
          refine (AllReadyH.cons (by simp only [g8a, g8s, g8z]; rfl) (fun K hK => ?_) (AllReadyH.cons (by simp only [g8a, g8s, g8z]; rfl) (fun K hK => ?_) AllReadyH.nil))
          · rw [if_pos (by rfl)]
            go_simp
            refine (start_any A1 n1 c1 a.per a.inc _ (by omega) (by omega) (by omega)).mono ?_
            rintro e wa ⟨rfl, hbq⟩
            have FA := Lib.hid (FA.out.below hbq); have FB := Lib.hid (FB.out.below hbq); have RB := Lib.hid (RB.out.below hbq RB.out.lt); have BW := Lib.hid (bthen BW.out hbq)
            try (have ZB := Lib.hid (ZB.out.below hbq ZB.out.lt))
            clear hbq hHeld
            clear a0 a1 a2 hla b0 b1 b2 hlb
            obtain ⟨a0, a1, a2, hla⟩ := FA.out.cells
            obtain ⟨b0, b1, b2, hlb⟩ := FB.out.cells
            refine hK.out _ _ (by exact ⟨a0, a1, a2, b0, b1, b2⟩) (fun hHeld => ?_)
            clear hK K
            (try simp only [Act.put]); try simp only [g8b, g8c, g8d]
            refine wpAnyH_ready (rs := [5, 10]) (by kernel_rfl) (by simp) ?_
            refine (AllReadyH.cons (by simp only [g8a, g8s, g8z]; rfl) (fun K hK => ?_) (AllReadyH.cons (by simp only [g8a, g8s, g8z]; rfl) (fun K hK => ?_) AllReadyH.nil))
            · rw [if_pos (by rfl)]
              go_simp
              refine (start_any A2 n2 c2 b.per b.inc _ (by omega) (by omega) (by omega)).mono ?_
              rintro e wb ⟨rfl, hbq⟩
              have FA := Lib.hid (FA.out.below hbq); have FB := Lib.hid (FB.out.below hbq); have RB := Lib.hid (RB.out.below hbq RB.out.lt); have BW := Lib.hid (bthen BW.out hbq)
              try (have ZB := Lib.hid (ZB.out.below hbq ZB.out.lt))
              clear hbq hHeld
              clear a0 a1 a2 hla b0 b1 b2 hlb
              obtain ⟨a0, a1, a2, hla⟩ := FA.out.cells
              obtain ⟨b0, b1, b2, hlb⟩ := FB.out.cells
              refine hK.out _ _ (by exact ⟨a0, a1, a2, b0, b1, b2⟩) (fun hHeld => ?_)
              clear hK K
              (try simp only [Act.put]); try simp only [g8b, g8c, g8d]
              refine wpAnyH_ready (rs := [6, 10]) (by kernel_rfl) (by simp) ?_
              refine (AllReadyH.cons (by simp only [g8a, g8s, g8z]; rfl) (fun K hK => ?_) (AllReadyH.cons (by simp only [g8a, g8s, g8z]; rfl) (fun K hK => ?_) AllReadyH.nil))
              · rw [if_pos (by rfl)]
                go_simp
                refine hK.out _ _ (by exact ⟨a0, a1, a2, b0, b1, b2⟩) (fun hHeld => ?_)
                clear hK K
                (try simp only [Act.put]); try simp only [g8b, g8c, g8d]
                refine tkS (i := 8) (v := ?_) ?_ ?_
                rotate_left 1
                · (intro w hSw; (try dsimp only at hSw); go_simp; try with_reducible rfl)
                all_goals ((try simp only [Act.put]); try simp only [g8b, g8c, g8d])
                refine tkS (i := 9) (v := ?_) ?_ ?_
                rotate_left 1
                · (intro w hSw; (try dsimp only at hSw); go_simp; try with_reducible rfl)
                all_goals ((try simp only [Act.put]); try simp only [g8b, g8c, g8d])
                refine wpAnyH_ready (rs := [10]) (by kernel_rfl) (by simp) ?_
                refine (AllReadyH.cons (by simp only [g8a, g8s, g8z]; rfl) (fun K hK => ?_) AllReadyH.nil)
                rw [if_pos (by rfl)]
                go_simp
                have hbq := balloc wb (.cells #[.slice none 0 0, .int .i64 0, .int .i64 0, .slice none 0 0, .int .i64 0, .int .i64 0, .int .i64 0, .bool false] 102)
                have zb := Blk.new wb 102 #[.slice none 0 0, .int .i64 0, .int .i64 0, .slice none 0 0, .int .i64 0, .int .i64 0, .int .i64 0, .bool false]
                have hP := FB.out.lt
                have ZB := Lib.hid zb
                clear zb
                generalize hwa : wb.alloc (.cells #[.slice none 0 0, .int .i64 0, .int .i64 0, .slice none 0 0, .int .i64 0, .int .i64 0, .int .i64 0, .bool false] 102) = wc at *
                clear hwa
                have FA := Lib.hid (FA.out.below hbq); have FB := Lib.hid (FB.out.below hbq); have RB := Lib.hid (RB.out.below hbq RB.out.lt); have BW := Lib.hid (bthen BW.out hbq)
                clear hbq hHeld
                clear a0 a1 a2 hla b0 b1 b2 hlb
                obtain ⟨a0, a1, a2, hla⟩ := FA.out.cells
                obtain ⟨b0, b1, b2, hlb⟩ := FB.out.cells
                refine hK.out _ _ (by exact ⟨a0, a1, a2, b0, b1, b2⟩) (fun hHeld => ?_)
                clear hK K
                (try simp only [Act.put]); try simp only [g8b, g8c, g8d]
                refine wpAnyH_ready (rs := [11]) (by kernel_rfl) (by simp) ?_
                refine (AllReadyH.cons (by simp only [g8a, g8s, g8z]; rfl) (fun K hK => ?_) AllReadyH.nil)
                refine step_storeN rfl 102 _ _ rfl rfl ZB.out rfl rfl (by kernel_rfl) (by simp [Value.oneCell']) ?_
                intro wz hsto rz
                have FA := Lib.hid (FA.out.sto hsto (.inl (by omega))); have FB := Lib.hid (FB.out.sto hsto (.inl (by omega))); have RB := Lib.hid (RB.out.sto hsto (by omega)); have BW := Lib.hid (bsto BW.out hsto (by omega))
                clear a0 a1 a2 hla b0 b1 b2 hlb
                obtain ⟨a0, a1, a2, hla⟩ := FA.out.cells
                obtain ⟨b0, b1, b2, hlb⟩ := FB.out.cells
                refine hK.out _ _ (by exact ⟨a0, a1, a2, b0, b1, b2⟩) (fun hHeld => ?_)
                clear hK K
                (try simp only [Act.put]); try simp only [g8b, g8c, g8d]
                refine wpAnyH_done (by kernel_rfl) ?_ _
                go_wp2_with fail
                go_meet
                exact ⟨_, rfl, hP, rz, FA.out, FB.out, RB.out, BW.out⟩
              · rw [if_pos (by rfl)]
                go_simp
                have hbq := balloc wb (.cells #[.slice none 0 0, .int .i64 0, .int .i64 0, .slice none 0 0, .int .i64 0, .int .i64 0, .int .i64 0, .bool false] 102)
                have zb := Blk.new wb 102 #[.slice none 0 0, .int .i64 0, .int .i64 0, .slice none 0 0, .int .i64 0, .int .i64 0, .int .i64 0, .bool false]
                have hP := FB.out.lt
                have ZB := Lib.hid zb
                clear zb
                generalize hwa : wb.alloc (.cells #[.slice none 0 0, .int .i64 0, .int .i64 0, .slice none 0 0, .int .i64 0, .int .i64 0, .int .i64 0, .bool false] 102) = wc at *
                clear hwa
                have FA := Lib.hid (FA.out.below hbq); have FB := Lib.hid (FB.out.below hbq); have RB := Lib.hid (RB.out.below hbq RB.out.lt); have BW := Lib.hid (bthen BW.out hbq)
                clear hbq hHeld
                clear a0 a1 a2 hla b0 b1 b2 hlb
                obtain ⟨a0, a1, a2, hla⟩ := FA.out.cells
                obtain ⟨b0, b1, b2, hlb⟩ := FB.out.cells
                refine hK.out _ _ (by exact ⟨a0, a1, a2, b0, b1, b2⟩) (fun hHeld => ?_)
                clear hK K
                (try simp only [Act.put]); try simp only [g8b, g8c, g8d]
                refine wpAnyH_ready (rs := [6]) (by kernel_rfl) (by simp) ?_
                refine (AllReadyH.cons (by simp only [g8a, g8s, g8z]; rfl) (fun K hK => ?_) AllReadyH.nil)
                rw [if_pos (by rfl)]
                go_simp
                refine hK.out _ _ (by exact ⟨a0, a1, a2, b0, b1, b2⟩) (fun hHeld => ?_)
                clear hK K
                (try simp only [Act.put]); try simp only [g8b, g8c, g8d]
                refine tkS (i := 8) (v := ?_) ?_ ?_
                rotate_left 1
                · (intro w hSw; (try dsimp only at hSw); go_simp; try with_reducible rfl)
                all_goals ((try simp only [Act.put]); try simp only [g8b, g8c, g8d])
                refine tkS (i := 9) (v := ?_) ?_ ?_
                rotate_left 1
                · (intro w hSw; (try dsimp only at hSw); go_simp; try with_reducible rfl)
                all_goals ((try simp only [Act.put]); try simp only [g8b, g8c, g8d])
                refine wpAnyH_ready (rs := [11]) (by kernel_rfl) (by simp) ?_
                refine (AllReadyH.cons (by simp only [g8a, g8s, g8z]; rfl) (fun K hK => ?_) AllReadyH.nil)
                refine step_storeN rfl 102 _ _ rfl rfl ZB.out rfl rfl (by kernel_rfl) (by simp [Value.oneCell']) ?_
                intro wz hsto rz
                have FA := Lib.hid (FA.out.sto hsto (.inl (by omega))); have FB := Lib.hid (FB.out.sto hsto (.inl (by omega))); have RB := Lib.hid (RB.out.sto hsto (by omega)); have BW := Lib.hid (bsto BW.out hsto (by omega))
                clear a0 a1 a2 hla b0 b1 b2 hlb
                obtain ⟨a0, a1, a2, hla⟩ := FA.out.cells
                obtain ⟨b0, b1, b2, hlb⟩ := FB.out.cells
                refine hK.out _ _ (by exact ⟨a0, a1, a2, b0, b1, b2⟩) (fun hHeld => ?_)
                clear hK K
                (try simp only [Act.put]); try simp only [g8b, g8c, g8d]
                refine wpAnyH_done (by kernel_rfl) ?_ _
                go_wp2_with fail
                go_meet
                exact ⟨_, rfl, hP, rz, FA.out, FB.out, RB.out, BW.out⟩
            · rw [if_pos (by rfl)]
              go_simp
              have hbq := balloc wa (.cells #[.slice none 0 0, .int .i64 0, .int .i64 0, .slice none 0 0, .int .i64 0, .int .i64 0, .int .i64 0, .bool false] 102)
              have zb := Blk.new wa 102 #[.slice none 0 0, .int .i64 0, .int .i64 0, .slice none 0 0, .int .i64 0, .int .i64 0, .int .i64 0, .bool false]
              have hP := FB.out.lt
              have ZB := Lib.hid zb
              clear zb
              generalize hwa : wa.alloc (.cells #[.slice none 0 0, .int .i64 0, .int .i64 0, .slice none 0 0, .int .i64 0, .int .i64 0, .int .i64 0, .bool false] 102) = wb at *
              clear hwa
              have FA := Lib.hid (FA.out.below hbq); have FB := Lib.hid (FB.out.below hbq); have RB := Lib.hid (RB.out.below hbq RB.out.lt); have BW := Lib.hid (bthen BW.out hbq)
              clear hbq hHeld
              clear a0 a1 a2 hla b0 b1 b2 hlb
              obtain ⟨a0, a1, a2, hla⟩ := FA.out.cells
              obtain ⟨b0, b1, b2, hlb⟩ := FB.out.cells
              refine hK.out _ _ (by exact ⟨a0, a1, a2, b0, b1, b2⟩) (fun hHeld => ?_)
              clear hK K
              (try simp only [Act.put]); try simp only [g8b, g8c, g8d]
              refine wpAnyH_ready (rs := [5]) (by kernel_rfl) (by simp) ?_
              refine (AllReadyH.cons (by simp only [g8a, g8s, g8z]; rfl) (fun K hK => ?_) AllReadyH.nil)
              rw [if_pos (by rfl)]
              go_simp
              refine (start_any A2 n2 c2 b.per b.inc _ (by omega) (by omega) (by omega)).mono ?_
              rintro e wc ⟨rfl, hbq⟩
              have FA := Lib.hid (FA.out.below hbq); have FB := Lib.hid (FB.out.below hbq); have RB := Lib.hid (RB.out.below hbq RB.out.lt); have BW := Lib.hid (bthen BW.out hbq)
              try (have ZB := Lib.hid (ZB.out.below hbq ZB.out.lt))
              clear hbq hHeld
              clear a0 a1 a2 hla b0 b1 b2 hlb
              obtain ⟨a0, a1, a2, hla⟩ := FA.out.cells
              obtain ⟨b0, b1, b2, hlb⟩ := FB.out.cells
              refine hK.out _ _ (by exact ⟨a0, a1, a2, b0, b1, b2⟩) (fun hHeld => ?_)
              clear hK K
              (try simp only [Act.put]); try simp only [g8b, g8c, g8d]
              refine wpAnyH_ready (rs := [6]) (by kernel_rfl) (by simp) ?_
              refine (AllReadyH.cons (by simp only [g8a, g8s, g8z]; rfl) (fun K hK => ?_) AllReadyH.nil)
              rw [if_pos (by rfl)]
              go_simp
              refine hK.out _ _ (by exact ⟨a0, a1, a2, b0, b1, b2⟩) (fun hHeld => ?_)
              clear hK K
              (try simp only [Act.put]); try simp only [g8b, g8c, g8d]
              refine tkS (i := 8) (v := ?_) ?_ ?_
              rotate_left 1
              · (intro w hSw; (try dsimp only at hSw); go_simp; try with_reducible rfl)
              all_goals ((try simp only [Act.put]); try simp only [g8b, g8c, g8d])
              refine tkS (i := 9) (v := ?_) ?_ ?_
              rotate_left 1
              · (intro w hSw; (try dsimp only at hSw); go_simp; try with_reducible rfl)
              all_goals ((try simp only [Act.put]); try simp only [g8b, g8c, g8d])
              refine wpAnyH_ready (rs := [11]) (by kernel_rfl) (by simp) ?_
              refine (AllReadyH.cons (by simp only [g8a, g8s, g8z]; rfl) (fun K hK => ?_) AllReadyH.nil)
              refine step_storeN rfl 102 _ _ rfl rfl ZB.out rfl rfl (by kernel_rfl) (by simp [Value.oneCell']) ?_
              intro wz hsto rz
              have FA := Lib.hid (FA.out.sto hsto (.inl (by omega))); have FB := Lib.hid (FB.out.sto hsto (.inl (by omega))); have RB := Lib.hid (RB.out.sto hsto (by omega)); have BW := Lib.hid (bsto BW.out hsto (by omega))
              clear a0 a1 a2 hla b0 b1 b2 hlb
              obtain ⟨a0, a1, a2, hla⟩ := FA.out.cells
              obtain ⟨b0, b1, b2, hlb⟩ := FB.out.cells
              refine hK.out _ _ (by exact ⟨a0, a1, a2, b0, b1, b2⟩) (fun hHeld => ?_)
              clear hK K
              (try simp only [Act.put]); try simp only [g8b, g8c, g8d]
              refine wpAnyH_done (by kernel_rfl) ?_ _
              go_wp2_with fail
              go_meet
              exact ⟨_, rfl, hP, rz, FA.out, FB.out, RB.out, BW.out⟩
          · rw [if_pos (by rfl)]
            go_simp
            have hbq := balloc wd (.cells #[.slice none 0 0, .int .i64 0, .int .i64 0, .slice none 0 0, .int .i64 0, .int .i64 0, .int .i64 0, .bool false] 102)
            have zb := Blk.new wd 102 #[.slice none 0 0, .int .i64 0, .int .i64 0, .slice none 0 0, .int .i64 0, .int .i64 0, .int .i64 0, .bool false]
            have hP := FB.out.lt
            have ZB := Lib.hid zb
            clear zb
            generalize hwa : wd.alloc (.cells #[.slice none 0 0, .int .i64 0, .int .i64 0, .slice none 0 0, .int .i64 0, .int .i64 0, .int .i64 0, .bool false] 102) = wa at *
            clear hwa
            have FA := Lib.hid (FA.out.below hbq); have FB := Lib.hid (FB.out.below hbq); have RB := Lib.hid (RB.out.below hbq RB.out.lt); have BW := Lib.hid (bthen BW.out hbq)
            clear hbq hHeld
            clear a0 a1 a2 hla b0 b1 b2 hlb
            obtain ⟨a0, a1, a2, hla⟩ := FA.out.cells
            obtain ⟨b0, b1, b2, hlb⟩ := FB.out.cells
            refine hK.out _ _ (by exact ⟨a0, a1, a2, b0, b1, b2⟩) (fun hHeld => ?_)
            clear hK K
            (try simp only [Act.put]); try simp only [g8b, g8c, g8d]
            refine wpAnyH_ready (rs := [3]) (by kernel_rfl) (by simp) ?_
            refine (AllReadyH.cons (by simp only [g8a, g8s, g8z]; rfl) (fun K hK => ?_) AllReadyH.nil)
            rw [if_pos (by rfl)]
            go_simp
            refine (start_any A1 n1 c1 a.per a.inc _ (by omega) (by omega) (by omega)).mono ?_
            rintro e wb ⟨rfl, hbq⟩
            have FA := Lib.hid (FA.out.below hbq); have FB := Lib.hid (FB.out.below hbq); have RB := Lib.hid (RB.out.below hbq RB.out.lt); have BW := Lib.hid (bthen BW.out hbq)
            try (have ZB := Lib.hid (ZB.out.below hbq ZB.out.lt))
            clear hbq hHeld
            clear a0 a1 a2 hla b0 b1 b2 hlb
            obtain ⟨a0, a1, a2, hla⟩ := FA.out.cells
            obtain ⟨b0, b1, b2, hlb⟩ := FB.out.cells
            refine hK.out _ _ (by exact ⟨a0, a1, a2, b0, b1, b2⟩) (fun hHeld => ?_)
            clear hK K
            (try simp only [Act.put]); try simp only [g8b, g8c, g8d]
            refine wpAnyH_ready (rs := [5]) (by kernel_rfl) (by simp) ?_
            refine (AllReadyH.cons (by simp only [g8a, g8s, g8z]; rfl) (fun K hK => ?_) AllReadyH.nil)
            rw [if_pos (by rfl)]
            go_simp
            refine (start_any A2 n2 c2 b.per b.inc _ (by omega) (by omega) (by omega)).mono ?_
            rintro e wc ⟨rfl, hbq⟩
            have FA := Lib.hid (FA.out.below hbq); have FB := Lib.hid (FB.out.below hbq); have RB := Lib.hid (RB.out.below hbq RB.out.lt); have BW := Lib.hid (bthen BW.out hbq)
            try (have ZB := Lib.hid (ZB.out.below hbq ZB.out.lt))
            clear hbq hHeld
            clear a0 a1 a2 hla b0 b1 b2 hlb
            obtain ⟨a0, a1, a2, hla⟩ := FA.out.cells
            obtain ⟨b0, b1, b2, hlb⟩ := FB.out.cells
            refine hK.out _ _ (by exact ⟨a0, a1, a2, b0, b1, b2⟩) (fun hHeld => ?_)
            clear hK K
            (try simp only [Act.put]); try simp only [g8b, g8c, g8d]
            refine wpAnyH_ready (rs := [6]) (by kernel_rfl) (by simp) ?_
            refine (AllReadyH.cons (by simp only [g8a, g8s, g8z]; rfl) (fun K hK => ?_) AllReadyH.nil)
            rw [if_pos (by rfl)]
            go_simp
            refine hK.out _ _ (by exact ⟨a0, a1, a2, b0, b1, b2⟩) (fun hHeld => ?_)
            clear hK K
            (try simp only [Act.put]); try simp only [g8b, g8c, g8d]
            refine tkS (i := 8) (v := ?_) ?_ ?_
            rotate_left 1
            · (intro w hSw; (try dsimp only at hSw); go_simp; try with_reducible rfl)
            all_goals ((try simp only [Act.put]); try simp only [g8b, g8c, g8d])
            refine tkS (i := 9) (v := ?_) ?_ ?_
            rotate_left 1
            · (intro w hSw; (try dsimp only at hSw); go_simp; try with_reducible rfl)
            all_goals ((try simp only [Act.put]); try simp only [g8b, g8c, g8d])
            refine wpAnyH_ready (rs := [11]) (by kernel_rfl) (by simp) ?_
            refine (AllReadyH.cons (by simp only [g8a, g8s, g8z]; rfl) (fun K hK => ?_) AllReadyH.nil)
            refine step_storeN rfl 102 _ _ rfl rfl ZB.out rfl rfl (by kernel_rfl) (by simp [Value.oneCell']) ?_
            intro wz hsto rz
            have FA := Lib.hid (FA.out.sto hsto (.inl (by omega))); have FB := Lib.hid (FB.out.sto hsto (.inl (by omega))); have RB := Lib.hid (RB.out.sto hsto (by omega)); have BW := Lib.hid (bsto BW.out hsto (by omega))
            clear a0 a1 a2 hla b0 b1 b2 hlb
            obtain ⟨a0, a1, a2, hla⟩ := FA.out.cells
            obtain ⟨b0, b1, b2, hlb⟩ := FB.out.cells
            refine hK.out _ _ (by exact ⟨a0, a1, a2, b0, b1, b2⟩) (fun hHeld => ?_)
            clear hK K
            (try simp only [Act.put]); try simp only [g8b, g8c, g8d]
            refine wpAnyH_done (by kernel_rfl) ?_ _
            go_wp2_with fail
            go_meet
            exact ⟨_, rfl, hP, rz, FA.out, FB.out, RB.out, BW.out⟩
        case rest =>
          as_aux_lemma =>
          clear FA FB RB BW
          clear a0 a1 a2 hla b0 b1 b2 hlb
          obtain ⟨P, rfl, hP, pb, fa, fb, rb, bw⟩ := hcut
          have PB := Lib.hid pb; have FA := Lib.hid fa; have FB := Lib.hid fb; have RB := Lib.hid rb; have BW := Lib.hid bw
          clear pb fa fb rb bw hmx e1
          have LO1 := Lib.hid (show ∀ z : Bool, z = (nth b.vals (n2 - 1) != inf) → (z = true ↔ b.Fin) from fun z hz => by
            rw [hz, bne_iff_ne, ← HL2.out]; exact ⟨fun h => ⟨HBO.out, h⟩, fun h => h.2⟩)
          have LO2 := Lib.hid (show ∀ z : Bool, z = (nth a.vals (n1 - 1) != inf) → (z = true ↔ a.Fin) from fun z hz => by
            rw [hz, bne_iff_ne, ← HL1.out]; exact ⟨fun h => ⟨HAO.out, h⟩, fun h => h.2⟩)
          obtain ⟨fb, hfb⟩ : ∃ z, z = (nth b.vals (n2 - 1) != inf) := ⟨_, rfl⟩
          obtain ⟨fa, hfa⟩ : ∃ z, z = (nth a.vals (n1 - 1) != inf) := ⟨_, rfl⟩
          obtain ⟨x, hx⟩ : ∃ x, x = (C / a.per.toNat : Nat) * a.inc := ⟨_, rfl⟩
          obtain ⟨y, hy⟩ : ∃ y, y = (C / b.per.toNat : Nat) * b.inc := ⟨_, rfl⟩
          have HFB := Lib.hid hfb; have HFA := Lib.hid hfa; have HX := Lib.hid hx; have HY := Lib.hid hy
          have LO3 := Lib.hid (show ordD a b = x - y from by unfold ordD; rw [hx, hy, HC.out]; rfl)
          clear hfb hfa hx hy
          have PB := Lib.hid (Blk.drew PB.out); have FA := Lib.hid FA.out.drew; have FB := Lib.hid FB.out.drew; have RB := Lib.hid (Blk.drew RB.out); have BW := Lib.hid (Below.drew BW.out)
          obtain ⟨a0, a1, a2, hla⟩ := FA.out.cells
          obtain ⟨b0, b1, b2, hlb⟩ := FB.out.cells
          obtain ⟨p7, hlp⟩ : _ ∧ _ := ⟨PB.out.cell 7, PB.out.lt⟩
          have v7 := PB.out.frozen 7
          simp at p7
          have hPr := RB.out.lt
          have hPs : w1.heap.size < P := by have := hs3; omega
          go_wp2_with fail
          refine wp_region_held_drew (S := fun w' => w'.cell? ⟨w1.heap.size, 0, none⟩ = some (.slice A1 n1 c1) ∧ w'.cell? ⟨w1.heap.size, 1, none⟩ = some (.int .i64 a.per) ∧ w'.cell? ⟨w1.heap.size, 2, none⟩ = some (.int .i64 a.inc) ∧ w'.cell? ⟨w2.heap.size, 0, none⟩ = some (.slice A2 n2 c2) ∧ w'.cell? ⟨w2.heap.size, 1, none⟩ = some (.int .i64 b.per) ∧ w'.cell? ⟨w2.heap.size, 2, none⟩ = some (.int .i64 b.inc)) (by kernel_rfl) ⟨a0, a1, a2, b0, b1, b2⟩ (fun hHeld => ?_)
          generalize hwd : wc.drew = wd at *
          clear hwd
          refine tkS (i := 0) (v := ?_) ?_ ?_
          rotate_left 1
          · (intro w hSw; (try dsimp only at hSw); go_simp; try with_reducible rfl)
          all_goals ((try simp only [Act.put]); try simp only [g8b, g8c, g8d])
          refine wpAnyH_ready (rs := [1]) (by kernel_rfl) (by simp) ?_
          refine (AllReadyH.cons (by simp only [g8a, g8s, g8z]; rfl) (fun K hK => ?_) AllReadyH.nil)
          rw [if_pos (by rfl)]
          go_simp
          refine (finite_any A2 n2 c2 b.per b.inc b.vals _ (by exact FB.out.ints) (by omega) (by omega)).mono ?_
          rw [← HFB.out]
          rintro e wf ⟨rfl, hbq⟩
          have PB := Lib.hid (PB.out.below hbq PB.out.lt); have FA := Lib.hid (FA.out.below hbq); have FB := Lib.hid (FB.out.below hbq); have RB := Lib.hid (RB.out.below hbq RB.out.lt); have BW := Lib.hid (bthen BW.out hbq)
          clear hbq hHeld
          clear a0 a1 a2 hla b0 b1 b2 hlb
          obtain ⟨a0, a1, a2, hla⟩ := FA.out.cells
          obtain ⟨b0, b1, b2, hlb⟩ := FB.out.cells
          clear p7 hlp v7
          obtain ⟨p7, hlp⟩ : _ ∧ _ := ⟨PB.out.cell 7, PB.out.lt⟩
          have v7 := PB.out.frozen 7
          simp at p7
          refine hK.out _ _ (by exact ⟨a0, a1, a2, b0, b1, b2⟩) (fun hHeld => ?_)
          clear hK K
          (try simp only [Act.put]); try simp only [g8b, g8c, g8d]
          cases fb
          case false =>
            refine tkS (i := 2) (v := ?_) ?_ ?_
            rotate_left 1
            · (intro w hSw; (try dsimp only at hSw); go_simp; try with_reducible rfl)
            all_goals ((try simp only [Act.put]); try simp only [g8b, g8c, g8d])
            refine wpAnyH_take (i := 3) (oi := _) (v := undef) (by simp only [g8a, g8s, g8z]; rfl) (by kernel_rfl) (by kernel_rfl) (by kernel_rfl) (by exact fun _ _ _ h => h) (Or.inr ⟨by rfl, rfl⟩) (by assumption) ?_
            (try simp only [Act.put]); try simp only [g8b, g8c, g8d]
            refine wpAnyH_take (i := 4) (oi := _) (v := undef) (by simp only [g8a, g8s, g8z]; rfl) (by kernel_rfl) (by kernel_rfl) (by kernel_rfl) (by exact fun _ _ _ h => h) (Or.inr ⟨by rfl, rfl⟩) (by assumption) ?_
            (try simp only [Act.put]); try simp only [g8b, g8c, g8d]
            refine wpAnyH_take (i := 5) (oi := _) (v := undef) (by simp only [g8a, g8s, g8z]; rfl) (by kernel_rfl) (by kernel_rfl) (by kernel_rfl) (by exact fun _ _ _ h => h) (Or.inr ⟨by rfl, rfl⟩) (by assumption) ?_
            (try simp only [Act.put]); try simp only [g8b, g8c, g8d]
            refine wpAnyH_take (i := 6) (oi := _) (v := undef) (by simp only [g8a, g8s, g8z]; rfl) (by kernel_rfl) (by kernel_rfl) (by kernel_rfl) (by exact fun _ _ _ h => h) (Or.inr ⟨by rfl, rfl⟩) (by assumption) ?_
            (try simp only [Act.put]); try simp only [g8b, g8c, g8d]
            refine wpAnyH_take (i := 7) (oi := _) (v := undef) (by simp only [g8a, g8s, g8z]; rfl) (by kernel_rfl) (by kernel_rfl) (by kernel_rfl) (by exact fun _ _ _ h => h) (Or.inr ⟨by rfl, rfl⟩) (by assumption) ?_
            (try simp only [Act.put]); try simp only [g8b, g8c, g8d]
            refine wpAnyH_take (i := 8) (oi := _) (v := undef) (by simp only [g8a, g8s, g8z]; rfl) (by kernel_rfl) (by kernel_rfl) (by kernel_rfl) (by exact fun _ _ _ h => h) (Or.inr ⟨by rfl, rfl⟩) (by assumption) ?_
            (try simp only [Act.put]); try simp only [g8b, g8c, g8d]
            refine wpAnyH_take (i := 9) (oi := _) (v := undef) (by simp only [g8a, g8s, g8z]; rfl) (by kernel_rfl) (by kernel_rfl) (by kernel_rfl) (by exact fun _ _ _ h => h) (Or.inr ⟨by rfl, rfl⟩) (by assumption) ?_
            (try simp only [Act.put]); try simp only [g8b, g8c, g8d]
            refine wpAnyH_take (i := 10) (oi := _) (v := undef) (by simp only [g8a, g8s, g8z]; rfl) (by kernel_rfl) (by kernel_rfl) (by kernel_rfl) (by exact fun _ _ _ h => h) (Or.inr ⟨by rfl, rfl⟩) (by assumption) ?_
            (try simp only [Act.put]); try simp only [g8b, g8c, g8d]
            refine wpAnyH_take (i := 11) (oi := _) (v := undef) (by simp only [g8a, g8s, g8z]; rfl) (by kernel_rfl) (by kernel_rfl) (by kernel_rfl) (by exact fun _ _ _ h => h) (Or.inr ⟨by rfl, rfl⟩) (by assumption) ?_
            (try simp only [Act.put]); try simp only [g8b, g8c, g8d]
            refine wpAnyH_take (i := 12) (oi := _) (v := undef) (by simp only [g8a, g8s, g8z]; rfl) (by kernel_rfl) (by kernel_rfl) (by kernel_rfl) (by exact fun _ _ _ h => h) (Or.inr ⟨by rfl, rfl⟩) (by assumption) ?_
            (try simp only [Act.put]); try simp only [g8b, g8c, g8d]
            refine wpAnyH_take (i := 13) (oi := _) (v := undef) (by simp only [g8a, g8s, g8z]; rfl) (by kernel_rfl) (by kernel_rfl) (by kernel_rfl) (by exact fun _ _ _ h => h) (Or.inr ⟨by rfl, rfl⟩) (by assumption) ?_
            (try simp only [Act.put]); try simp only [g8b, g8c, g8d]
            refine wpAnyH_take (i := 14) (oi := _) (v := undef) (by simp only [g8a, g8s, g8z]; rfl) (by kernel_rfl) (by kernel_rfl) (by kernel_rfl) (by exact fun _ _ _ h => h) (Or.inr ⟨by rfl, rfl⟩) (by assumption) ?_
            (try simp only [Act.put]); try simp only [g8b, g8c, g8d]
            refine tkS (i := 15) (v := ?_) ?_ ?_
            rotate_left 1
            · (intro w hSw; (try dsimp only at hSw); go_simp; try with_reducible rfl)
            all_goals ((try simp only [Act.put]); try simp only [g8b, g8c, g8d])
            have HLO := Lib.hid (show LzB false a b from by
              have h1 := LO1.out _ HFB.out
              exact ⟨(fun h => by cases h), (fun h => by have := h1.2 h.1; cases this)⟩)
            refine tkS (i := 16) (v := ?_) ?_ ?_
            rotate_left 1
            · (intro w hSw; (try dsimp only at hSw); go_simp; try with_reducible rfl)
            all_goals ((try simp only [Act.put]); try simp only [g8b, g8c, g8d])
            refine wpAnyH_ready (rs := [17]) (by kernel_rfl) (by simp) ?_
            refine (AllReadyH.cons (by simp only [g8a, g8s, g8z]; rfl) (fun K hK => ?_) AllReadyH.nil)
            rw [if_pos (by rfl)]
            go_simp
            refine hK.out _ _ (by exact ⟨(cell_set1 (by omega)).trans a0, (cell_set1 (by omega)).trans a1, (cell_set1 (by omega)).trans a2, (cell_set1 (by omega)).trans b0, (cell_set1 (by omega)).trans b1, (cell_set1 (by omega)).trans b2⟩) (fun hHeld => ?_)
            clear hK K
            (try simp only [Act.put]); try simp only [g8b, g8c, g8d]
            refine wpAnyH_done (by kernel_rfl) ?_ _
            have PB := Lib.hid (PB.out.set_ 7 (.bool false)); have FA := Lib.hid (FA.out.set1 (g := P) (.inl (by omega)) 7 (.bool false)); have FB := Lib.hid (FB.out.set1 (g := P) (.inl (by omega)) 7 (.bool false)); have RB := Lib.hid (RB.out.far (p := ⟨P, 7, none⟩) (by simp; omega) (.bool false)); have BW := Lib.hid (BW.out.setCell (p := ⟨P, 7, none⟩) (by simp; omega) (.bool false))
            clear a0 a1 a2 hla b0 b1 b2 hlb
            clear p7 hlp v7
            try clear hHeld
            generalize hwe : wf.setCell ⟨P, 7, none⟩ (.bool false) = we at *
            clear hwe
            simp only [List.setIfInBounds_toArray, List.set_cons_succ, List.set_cons_zero] at PB
            go_upto_region 12 with fail
            refine wp_region_lit ?_
            refine wpList_load_row rfl 102 _ rfl P rfl 102 #[.slice A1 n1 c1, .int .i64 a.per, .int .i64 a.inc, .slice A2 n2 c2, .int .i64 b.per, .int .i64 b.inc, .int .i64 ((S : Int) + (C : Int)), .bool false] (0, 0) _ PB.out Tryz.underlying102 rfl (by kernel_rfl) ?_
            refine wpList_storeN rfl 102 _ _ rfl rfl RB.out rfl rfl (by kernel_rfl) (by simp [Value.oneCell']) ?_
            intro wz hsto rz
            have FA := Lib.hid (FA.out.sto hsto (.inr (by omega))); have FB := Lib.hid (FB.out.sto hsto (.inr (by omega)))
            have bw := bsto BW.out hsto (by omega)
            (try simp only [Act.put]); try simp only [g8b, g8c, g8d]
            go_wp2_with fail
            exact bodyPost_ret (v := .tuple #[.agg (dpA A1 n1 c1 a A2 n2 c2 b ((S : Int) + (C : Int)) false), .int .i64 0]) (by simp [results, Tryz.results48, go_sem, rz.cell, dpA]) rfl
              (.inr ⟨HFO.out, HGO.out, a, b, A1, n1, c1, A2, n2, c2, false, HNF.out, HNG.out, HAO.out, HBO.out, by rw [← HC.out]; omega, HLO.out, by rw [show ((ordF a b + ordC a b : Nat) : Int) = (S : Int) + (C : Int) from by rw [HS.out, HC.out]; exact Int.natCast_add _ _], FA.out.ints, FB.out.ints, fun b' off s e => by have := (FA.out.ap b' off s e).1; omega, fun b' off s e => by have := (FB.out.ap b' off s e).1; omega, bw⟩)
          case true =>
            refine tkS (i := 2) (v := ?_) ?_ ?_
            rotate_left 1
            · (intro w hSw; (try dsimp only at hSw); go_simp; try with_reducible rfl)
            all_goals ((try simp only [Act.put]); try simp only [g8b, g8c, g8d])
            refine tkS (i := 3) (v := ?_) ?_ ?_
            rotate_left 1
            · (intro w hSw; (try dsimp only at hSw); go_simp; try with_reducible rfl)
            all_goals ((try simp only [Act.put]); try simp only [g8b, g8c, g8d])
            refine wpAnyH_ready (rs := [4]) (by kernel_rfl) (by simp) ?_
            refine (AllReadyH.cons (by simp only [g8a, g8s, g8z]; rfl) (fun K hK => ?_) AllReadyH.nil)
            rw [if_pos (by rfl)]
            go_simp
            refine (finite_any A1 n1 c1 a.per a.inc a.vals _ (by exact FA.out.ints) (by omega) (by omega)).mono ?_
            rw [← HFA.out]
            rintro e wg ⟨rfl, hbq⟩
            have PB := Lib.hid (PB.out.below hbq PB.out.lt); have FA := Lib.hid (FA.out.below hbq); have FB := Lib.hid (FB.out.below hbq); have RB := Lib.hid (RB.out.below hbq RB.out.lt); have BW := Lib.hid (bthen BW.out hbq)
            clear hbq hHeld
            clear a0 a1 a2 hla b0 b1 b2 hlb
            obtain ⟨a0, a1, a2, hla⟩ := FA.out.cells
            obtain ⟨b0, b1, b2, hlb⟩ := FB.out.cells
            clear p7 hlp v7
            obtain ⟨p7, hlp⟩ : _ ∧ _ := ⟨PB.out.cell 7, PB.out.lt⟩
            have v7 := PB.out.frozen 7
            simp at p7
            refine hK.out _ _ (by exact ⟨a0, a1, a2, b0, b1, b2⟩) (fun hHeld => ?_)
            clear hK K
            (try simp only [Act.put]); try simp only [g8b, g8c, g8d]
            cases fa
            case false =>
              refine tkS (i := 5) (v := ?_) ?_ ?_
              rotate_left 1
              · (intro w hSw; (try dsimp only at hSw); go_simp; try with_reducible rfl)
              all_goals ((try simp only [Act.put]); try simp only [g8b, g8c, g8d])
              refine tkS (i := 6) (v := ?_) ?_ ?_
              rotate_left 1
              · (intro w hSw; (try dsimp only at hSw); go_simp; try with_reducible rfl)
              all_goals ((try simp only [Act.put]); try simp only [g8b, g8c, g8d])
              refine wpAnyH_take (i := 7) (oi := _) (v := undef) (by simp only [g8a, g8s, g8z]; rfl) (by kernel_rfl) (by kernel_rfl) (by kernel_rfl) (by exact fun _ _ _ h => h) (Or.inr ⟨by rfl, rfl⟩) (by assumption) ?_
              (try simp only [Act.put]); try simp only [g8b, g8c, g8d]
              refine wpAnyH_take (i := 8) (oi := _) (v := undef) (by simp only [g8a, g8s, g8z]; rfl) (by kernel_rfl) (by kernel_rfl) (by kernel_rfl) (by exact fun _ _ _ h => h) (Or.inr ⟨by rfl, rfl⟩) (by assumption) ?_
              (try simp only [Act.put]); try simp only [g8b, g8c, g8d]
              refine wpAnyH_take (i := 9) (oi := _) (v := undef) (by simp only [g8a, g8s, g8z]; rfl) (by kernel_rfl) (by kernel_rfl) (by kernel_rfl) (by exact fun _ _ _ h => h) (Or.inr ⟨by rfl, rfl⟩) (by assumption) ?_
              (try simp only [Act.put]); try simp only [g8b, g8c, g8d]
              refine wpAnyH_take (i := 10) (oi := _) (v := undef) (by simp only [g8a, g8s, g8z]; rfl) (by kernel_rfl) (by kernel_rfl) (by kernel_rfl) (by exact fun _ _ _ h => h) (Or.inr ⟨by rfl, rfl⟩) (by assumption) ?_
              (try simp only [Act.put]); try simp only [g8b, g8c, g8d]
              refine wpAnyH_take (i := 11) (oi := _) (v := undef) (by simp only [g8a, g8s, g8z]; rfl) (by kernel_rfl) (by kernel_rfl) (by kernel_rfl) (by exact fun _ _ _ h => h) (Or.inr ⟨by rfl, rfl⟩) (by assumption) ?_
              (try simp only [Act.put]); try simp only [g8b, g8c, g8d]
              refine wpAnyH_take (i := 12) (oi := _) (v := undef) (by simp only [g8a, g8s, g8z]; rfl) (by kernel_rfl) (by kernel_rfl) (by kernel_rfl) (by exact fun _ _ _ h => h) (Or.inr ⟨by rfl, rfl⟩) (by assumption) ?_
              (try simp only [Act.put]); try simp only [g8b, g8c, g8d]
              refine wpAnyH_take (i := 13) (oi := _) (v := undef) (by simp only [g8a, g8s, g8z]; rfl) (by kernel_rfl) (by kernel_rfl) (by kernel_rfl) (by exact fun _ _ _ h => h) (Or.inr ⟨by rfl, rfl⟩) (by assumption) ?_
              (try simp only [Act.put]); try simp only [g8b, g8c, g8d]
              refine tkS (i := 14) (v := ?_) ?_ ?_
              rotate_left 1
              · (intro w hSw; (try dsimp only at hSw); go_simp; try with_reducible rfl)
              all_goals ((try simp only [Act.put]); try simp only [g8b, g8c, g8d])
              refine tkS (i := 15) (v := ?_) ?_ ?_
              rotate_left 1
              · (intro w hSw; (try dsimp only at hSw); go_simp; try with_reducible rfl)
              all_goals ((try simp only [Act.put]); try simp only [g8b, g8c, g8d])
              have HLO := Lib.hid (show LzB true a b from by
                have h1 := LO1.out _ HFB.out
                have h2 := LO2.out _ HFA.out
                exact ⟨fun _ => ⟨h1.1 rfl, .inl (fun h => by have := h2.2 h; cases this)⟩, fun _ => rfl⟩)
              refine tkS (i := 16) (v := ?_) ?_ ?_
              rotate_left 1
              · (intro w hSw; (try dsimp only at hSw); go_simp; try with_reducible rfl)
              all_goals ((try simp only [Act.put]); try simp only [g8b, g8c, g8d])
              refine wpAnyH_ready (rs := [17]) (by kernel_rfl) (by simp) ?_
              refine (AllReadyH.cons (by simp only [g8a, g8s, g8z]; rfl) (fun K hK => ?_) AllReadyH.nil)
              rw [if_pos (by rfl)]
              go_simp
              refine hK.out _ _ (by exact ⟨(cell_set1 (by omega)).trans a0, (cell_set1 (by omega)).trans a1, (cell_set1 (by omega)).trans a2, (cell_set1 (by omega)).trans b0, (cell_set1 (by omega)).trans b1, (cell_set1 (by omega)).trans b2⟩) (fun hHeld => ?_)
              clear hK K
              (try simp only [Act.put]); try simp only [g8b, g8c, g8d]
              refine wpAnyH_done (by kernel_rfl) ?_ _
              have PB := Lib.hid (PB.out.set_ 7 (.bool true)); have FA := Lib.hid (FA.out.set1 (g := P) (.inl (by omega)) 7 (.bool true)); have FB := Lib.hid (FB.out.set1 (g := P) (.inl (by omega)) 7 (.bool true)); have RB := Lib.hid (RB.out.far (p := ⟨P, 7, none⟩) (by simp; omega) (.bool true)); have BW := Lib.hid (BW.out.setCell (p := ⟨P, 7, none⟩) (by simp; omega) (.bool true))
              clear a0 a1 a2 hla b0 b1 b2 hlb
              clear p7 hlp v7
              try clear hHeld
              generalize hwe : wg.setCell ⟨P, 7, none⟩ (.bool true) = we at *
              clear hwe
              simp only [List.setIfInBounds_toArray, List.set_cons_succ, List.set_cons_zero] at PB
              go_upto_region 12 with fail
              refine wp_region_lit ?_
              refine wpList_load_row rfl 102 _ rfl P rfl 102 #[.slice A1 n1 c1, .int .i64 a.per, .int .i64 a.inc, .slice A2 n2 c2, .int .i64 b.per, .int .i64 b.inc, .int .i64 ((S : Int) + (C : Int)), .bool true] (0, 0) _ PB.out Tryz.underlying102 rfl (by kernel_rfl) ?_
              refine wpList_storeN rfl 102 _ _ rfl rfl RB.out rfl rfl (by kernel_rfl) (by simp [Value.oneCell']) ?_
              intro wz hsto rz
              have FA := Lib.hid (FA.out.sto hsto (.inr (by omega))); have FB := Lib.hid (FB.out.sto hsto (.inr (by omega)))
              have bw := bsto BW.out hsto (by omega)
              (try simp only [Act.put]); try simp only [g8b, g8c, g8d]
              go_wp2_with fail
              exact bodyPost_ret (v := .tuple #[.agg (dpA A1 n1 c1 a A2 n2 c2 b ((S : Int) + (C : Int)) true), .int .i64 0]) (by simp [results, Tryz.results48, go_sem, rz.cell, dpA]) rfl
                (.inr ⟨HFO.out, HGO.out, a, b, A1, n1, c1, A2, n2, c2, true, HNF.out, HNG.out, HAO.out, HBO.out, by rw [← HC.out]; omega, HLO.out, by rw [show ((ordF a b + ordC a b : Nat) : Int) = (S : Int) + (C : Int) from by rw [HS.out, HC.out]; exact Int.natCast_add _ _], FA.out.ints, FB.out.ints, fun b' off s e => by have := (FA.out.ap b' off s e).1; omega, fun b' off s e => by have := (FB.out.ap b' off s e).1; omega, bw⟩)
            case true =>
              refine tkS (i := 5) (v := ?_) ?_ ?_
              rotate_left 1
              · (intro w hSw; (try dsimp only at hSw); go_simp; try with_reducible rfl)
              all_goals ((try simp only [Act.put]); try simp only [g8b, g8c, g8d])
              refine tkS (i := 6) (v := ?_) ?_ ?_
              rotate_left 1
              · (intro w hSw; (try dsimp only at hSw); go_simp; try with_reducible rfl)
              all_goals ((try simp only [Act.put]); try simp only [g8b, g8c, g8d])
              refine tkS (i := 7) (v := ?_) ?_ ?_
              rotate_left 1
              · (intro w hSw; (try dsimp only at hSw); go_simp; try with_reducible rfl)
              all_goals ((try simp only [Act.put]); try simp only [g8b, g8c, g8d])
              refine tkS (i := 8) (v := ?_) ?_ ?_
              rotate_left 1
              · (intro w hSw; (try dsimp only at hSw); go_simp; try with_reducible rfl)
              all_goals ((try simp only [Act.put]); try simp only [g8b, g8c, g8d])
              refine tkS (i := 10) (v := ?_) ?_ ?_
              rotate_left 1
              · (intro w hSw; (try dsimp only at hSw); go_simp; try with_reducible rfl)
              all_goals ((try simp only [Act.put]); try simp only [g8b, g8c, g8d])
              refine tkS (i := 11) (v := ?_) ?_ ?_
              rotate_left 1
              · (intro w hSw; (try dsimp only at hSw); go_simp; try with_reducible rfl)
              all_goals ((try simp only [Act.put]); try simp only [g8b, g8c, g8d])
              refine wpAnyH_ready (rs := [9]) (by kernel_rfl) (by simp) ?_
              refine (AllReadyH.cons (by simp only [g8a, g8s, g8z]; rfl) (fun K hK => ?_) AllReadyH.nil)
              rw [if_pos (by rfl)]
              go_simp
              refine (gain_any A1 n1 c1 a.per a.inc C _ (by omega) (by omega) (by omega) (by omega) (by omega)).mono ?_
              rw [Int.toNat_natCast, ← HX.out]
              rintro e wh ⟨rfl, hbq⟩
              have PB := Lib.hid (PB.out.below hbq PB.out.lt); have FA := Lib.hid (FA.out.below hbq); have FB := Lib.hid (FB.out.below hbq); have RB := Lib.hid (RB.out.below hbq RB.out.lt); have BW := Lib.hid (bthen BW.out hbq)
              clear hbq hHeld
              clear a0 a1 a2 hla b0 b1 b2 hlb
              obtain ⟨a0, a1, a2, hla⟩ := FA.out.cells
              obtain ⟨b0, b1, b2, hlb⟩ := FB.out.cells
              clear p7 hlp v7
              obtain ⟨p7, hlp⟩ : _ ∧ _ := ⟨PB.out.cell 7, PB.out.lt⟩
              have v7 := PB.out.frozen 7
              simp at p7
              refine hK.out _ _ (by exact ⟨a0, a1, a2, b0, b1, b2⟩) (fun hHeld => ?_)
              clear hK K
              (try simp only [Act.put]); try simp only [g8b, g8c, g8d]
              refine wpAnyH_ready (rs := [12]) (by kernel_rfl) (by simp) ?_
              refine (AllReadyH.cons (by simp only [g8a, g8s, g8z]; rfl) (fun K hK => ?_) AllReadyH.nil)
              rw [if_pos (by rfl)]
              go_simp
              refine (gain_any A2 n2 c2 b.per b.inc C _ (by omega) (by omega) (by omega) (by omega) (by omega)).mono ?_
              rw [Int.toNat_natCast, ← HY.out]
              rintro e wi ⟨rfl, hbq⟩
              have PB := Lib.hid (PB.out.below hbq PB.out.lt); have FA := Lib.hid (FA.out.below hbq); have FB := Lib.hid (FB.out.below hbq); have RB := Lib.hid (RB.out.below hbq RB.out.lt); have BW := Lib.hid (bthen BW.out hbq)
              clear hbq hHeld
              clear a0 a1 a2 hla b0 b1 b2 hlb
              obtain ⟨a0, a1, a2, hla⟩ := FA.out.cells
              obtain ⟨b0, b1, b2, hlb⟩ := FB.out.cells
              clear p7 hlp v7
              obtain ⟨p7, hlp⟩ : _ ∧ _ := ⟨PB.out.cell 7, PB.out.lt⟩
              have v7 := PB.out.frozen 7
              simp at p7
              refine hK.out _ _ (by exact ⟨a0, a1, a2, b0, b1, b2⟩) (fun hHeld => ?_)
              clear hK K
              (try simp only [Act.put]); try simp only [g8b, g8c, g8d]
              refine tkS (i := 13) (v := ?_) ?_ ?_
              rotate_left 1
              · (intro w hSw; (try dsimp only at hSw); go_simp; try with_reducible rfl)
              all_goals ((try simp only [Act.put]); try simp only [g8b, g8c, g8d])
              refine tkS (i := 14) (v := ?_) ?_ ?_
              rotate_left 1
              · (intro w hSw; (try dsimp only at hSw); go_simp; try with_reducible rfl)
              all_goals ((try simp only [Act.put]); try simp only [g8b, g8c, g8d])
              refine tkS (i := 15) (v := ?_) ?_ ?_
              rotate_left 1
              · (intro w hSw; (try dsimp only at hSw); go_simp; try with_reducible rfl)
              all_goals ((try simp only [Act.put]); try simp only [g8b, g8c, g8d])
              have HLO := Lib.hid (show LzB (decide (y < x)) a b from by
                have h1 := LO1.out _ HFB.out
                have h2 := LO2.out _ HFA.out
                unfold LzB
                rw [decide_eq_true_iff]
                unfold Loose
                rw [LO3.out]
                exact ⟨fun h => ⟨h1.1 rfl, .inr (by omega)⟩, fun h => by
                  rcases h.2 with h3 | h3
                  · exact absurd (h2.1 rfl) h3
                  · omega⟩)
              refine tkS (i := 16) (v := ?_) ?_ ?_
              rotate_left 1
              · (intro w hSw; (try dsimp only at hSw); go_simp; try with_reducible rfl)
              all_goals ((try simp only [Act.put]); try simp only [g8b, g8c, g8d])
              refine wpAnyH_ready (rs := [17]) (by kernel_rfl) (by simp) ?_
              refine (AllReadyH.cons (by simp only [g8a, g8s, g8z]; rfl) (fun K hK => ?_) AllReadyH.nil)
              rw [if_pos (by rfl)]
              go_simp
              refine hK.out _ _ (by exact ⟨(cell_set1 (by omega)).trans a0, (cell_set1 (by omega)).trans a1, (cell_set1 (by omega)).trans a2, (cell_set1 (by omega)).trans b0, (cell_set1 (by omega)).trans b1, (cell_set1 (by omega)).trans b2⟩) (fun hHeld => ?_)
              clear hK K
              (try simp only [Act.put]); try simp only [g8b, g8c, g8d]
              refine wpAnyH_done (by kernel_rfl) ?_ _
              have PB := Lib.hid (PB.out.set_ 7 (.bool (decide (y < x)))); have FA := Lib.hid (FA.out.set1 (g := P) (.inl (by omega)) 7 (.bool (decide (y < x)))); have FB := Lib.hid (FB.out.set1 (g := P) (.inl (by omega)) 7 (.bool (decide (y < x)))); have RB := Lib.hid (RB.out.far (p := ⟨P, 7, none⟩) (by simp; omega) (.bool (decide (y < x)))); have BW := Lib.hid (BW.out.setCell (p := ⟨P, 7, none⟩) (by simp; omega) (.bool (decide (y < x))))
              clear a0 a1 a2 hla b0 b1 b2 hlb
              clear p7 hlp v7
              try clear hHeld
              generalize hwe : wi.setCell ⟨P, 7, none⟩ (.bool (decide (y < x))) = we at *
              clear hwe
              simp only [List.setIfInBounds_toArray, List.set_cons_succ, List.set_cons_zero] at PB
              go_upto_region 12 with fail
              refine wp_region_lit ?_
              refine wpList_load_row rfl 102 _ rfl P rfl 102 #[.slice A1 n1 c1, .int .i64 a.per, .int .i64 a.inc, .slice A2 n2 c2, .int .i64 b.per, .int .i64 b.inc, .int .i64 ((S : Int) + (C : Int)), .bool (decide (y < x))] (0, 0) _ PB.out Tryz.underlying102 rfl (by kernel_rfl) ?_
              refine wpList_storeN rfl 102 _ _ rfl rfl RB.out rfl rfl (by kernel_rfl) (by simp [Value.oneCell']) ?_
              intro wz hsto rz
              have FA := Lib.hid (FA.out.sto hsto (.inr (by omega))); have FB := Lib.hid (FB.out.sto hsto (.inr (by omega)))
              have bw := bsto BW.out hsto (by omega)
              (try simp only [Act.put]); try simp only [g8b, g8c, g8d]
              go_wp2_with fail
              exact bodyPost_ret (v := .tuple #[.agg (dpA A1 n1 c1 a A2 n2 c2 b ((S : Int) + (C : Int)) (decide (y < x))), .int .i64 0]) (by simp [results, Tryz.results48, go_sem, rz.cell, dpA]) rfl
                (.inr ⟨HFO.out, HGO.out, a, b, A1, n1, c1, A2, n2, c2, (decide (y < x)), HNF.out, HNG.out, HAO.out, HBO.out, by rw [← HC.out]; omega, HLO.out, by rw [show ((ordF a b + ordC a b : Nat) : Int) = (S : Int) + (C : Int) from by rw [HS.out, HC.out]; exact Int.natCast_add _ _], FA.out.ints, FB.out.ints, fun b' off s e => by have := (FA.out.ap b' off s e).1; omega, fun b' off s e => by have := (FB.out.ap b' off s e).1; omega, bw⟩)
    · have F := Lib.hid (show BothBad ⟨xs, p, i⟩ ⟨ys, q, j⟩ 1 from .inl ⟨fun h => hno h.2, rfl⟩)
      have RB := Lib.hid (RB.out.alloc (.cells #[.slice A2 n2 c2, .int .i64 Cv.none.per, .int .i64 Cv.none.inc] 26))
      have BW := Lib.hid (bthen BW.out (balloc _ (.cells #[.slice A2 n2 c2, .int .i64 Cv.none.per, .int .i64 Cv.none.inc] 26)))
      clear hno HN
      go_wp2_with (refine wpList_storeN rfl 102 _ _ rfl rfl RB.out rfl rfl (by kernel_rfl) (by simp [Value.oneCell']) ?_; intro wz hsto rz)
      exact bodyPost_ret (v := .tuple #[.agg zero8, .int .i64 1]) (by simp [results, Tryz.results48, go_sem, rz.cell, zero8]) rfl (.inl ⟨_, F.out, rfl, bsto BW.out hsto (by omega)⟩)
  · have F := Lib.hid (show BothBad ⟨xs, p, i⟩ ⟨ys, q, j⟩ 1 from .inl ⟨fun h => hno h.1, rfl⟩)
    have RB := Lib.hid (RB.out.alloc (.cells #[.slice A1 n1 c1, .int .i64 Cv.none.per, .int .i64 Cv.none.inc] 26))
    have BW := Lib.hid (bthen P.out.bw (balloc _ (.cells #[.slice A1 n1 c1, .int .i64 Cv.none.per, .int .i64 Cv.none.inc] 26)))
    clear hno HN
    go_wp2_with (refine wpList_storeN rfl 102 _ _ rfl rfl RB.out rfl rfl (by kernel_rfl) (by simp [Value.oneCell']) ?_; intro wz hsto rz)
    exact bodyPost_ret (v := .tuple #[.agg zero8, .int .i64 1]) (by simp [results, Tryz.results48, go_sem, rz.cell, zero8]) rfl (.inl ⟨_, F.out, rfl, bsto BW.out hsto (by omega)⟩)
end Go.Proofs.YtaejfleahamapaaGreat

