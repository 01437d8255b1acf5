/- deconvolution.both: the pair of two curves in normal form. -/
import Derived.Test.YtbkimphcmmmaiaaDcLaw
namespace Go.Proofs.Ytbkimphcmmmaiaa
open Go.RowKit
set_option linter.unusedVariables false

/-- what both returns -/
def RetDb (f g : Cv) (w : World) (e : Ending) (w' : World) : Prop :=
  (∃ er, DcBad f g er ∧ e = .returned (.tuple #[.agg zero8, .int .i64 er]) ∧ Below w.heap.size w w') ∨
  (f.Ok ∧ g.Ok ∧ ∃ (a b : Cv) (A : Option Addr) (n c : Nat) (B : Option Addr) (m d : Nat) (l : Bool), NF f.at a ∧ NF g.at b ∧ a.Ok ∧ b.Ok ∧ b.at 0 = 0 ∧ comm a.per.toNat b.per.toNat ≤ 120 ∧ (l = true ↔ b.Fin ∧ a.Fin ∧ 0 < ordD a b) ∧
    e = .returned (.tuple #[.agg (dpA A n c a B m d b (dcK a b : Nat) l), .int .i64 0]) ∧ Ints w' w'.heap.size A n a.vals ∧ Ints w' w'.heap.size B m b.vals ∧ (∀ b off s, A = some ⟨b, off, s⟩ → w.heap.size ≤ b) ∧ (∀ b off s, B = some ⟨b, off, s⟩ → w.heap.size ≤ b) ∧ Below w.heap.size w w')

set_option maxHeartbeats 4000000 in
set_option maxRecDepth 100000 in
theorem dcboth_any (A B : Option Addr) (n m c d : Nat) (p i q j : Int) (xs ys : List Int) (w : World) (hA : Ints w w.heap.size A n xs) (hB : Ints w w.heap.size B m ys) (hn : (n : Int) ≤ 1000000) (hm : (m : Int) ≤ 1000000) :
    Calls Try.prog 78 #[.agg #[.slice A n c, .int .i64 p, .int .i64 i], .agg #[.slice B m d, .int .i64 q, .int .i64 j]] w (RetDb ⟨xs, p, i⟩ ⟨ys, q, j⟩ w) := by
  have P := Lib.hid ((PS.new (c := c) (p := p) (i := i) (d := d) (q := q) (j := j) hA hB).alloc (.cells zero8 101))
  have rb := Blk.new ((w.alloc (.cells #[.slice A n c, .int .i64 p, .int .i64 i] 31)).alloc (.cells #[.slice B m d, .int .i64 q, .int .i64 j] 31)) 101 zero8
  rw [World.size_alloc, World.size_alloc] at rb
  have RB := Lib.hid rb
  clear hA hB rb
  unfold zero8 at P RB
  go_enter Try.func78, Try.ntmps78
  go_wp2_with fail
  refine (normal_any A n c p i xs _ P.out.ia hn).mono ?_
  rintro e w1 ⟨a, er, hN, A1, n1, c1, rfl, hI1, hA1, hb1⟩
  simp only [World.size_alloc] at hA1
  have HN := Lib.hid (NormR.of hN)
  have P := Lib.hid (P.out.below hb1)
  have RB := Lib.hid (RB.out.below hb1 RB.out.lt)
  have HI1 := Lib.hid hI1
  have hs1 := RB.out.lt
  clear hN hI1 hb1
  rcases HN.out with ⟨hfo, hnf, hao, rfl⟩ | ⟨hno, rfl, rfl⟩
  · have ha1 := hao.n1; have ha2 := hao.n2; have hap := hao.p1; have hap2 := hao.p2; have hai := hao.i1; have hai2 := hao.i2; have hapn := hao.pn
    have hl1 : a.vals.length = n1 := HI1.out.1
    rw [hl1] at ha1 ha2 hapn
    have FA := Lib.hid (Bx.new (c := c1) (f := a) HI1.out hA1 (Nat.le_refl _) (by omega) (by omega))
    have P := Lib.hid (P.out.alloc (.cells #[.slice A1 n1 c1, .int .i64 a.per, .int .i64 a.inc] 31))
    have RB := Lib.hid (RB.out.alloc (.cells #[.slice A1 n1 c1, .int .i64 a.per, .int .i64 a.inc] 31))
    have HNF := Lib.hid hnf; have HFO := Lib.hid hfo; have HAO := Lib.hid hao; have HL1 := Lib.hid hl1
    clear hnf hfo hao HI1 hA1 HN hl1
    obtain ⟨f0, f1, f2, g0, g1, g2, hlf, hlg⟩ := P.out.cells
    go_wp2_with fail
    refine (normal_any B m d q j ys _ P.out.ib hm).mono ?_
    rintro e w2 ⟨b, er, hN, A2, n2, c2, rfl, hI2, hA2, hb2⟩
    simp only [World.size_alloc] at hA2
    have HN := Lib.hid (NormR.of hN)
    have RB := Lib.hid (RB.out.below hb2 RB.out.lt)
    have FA := Lib.hid (FA.out.below hb2)
    have BW := Lib.hid (bthen P.out.bw hb2)
    have HI2 := Lib.hid hI2
    have hs2 := RB.out.lt
    have hs3 := FA.out.lt
    clear hN hI2 hb2 P f0 f1 f2 g0 g1 g2 hlf hlg
    rcases HN.out with ⟨hgo, hnf, hbo, rfl⟩ | ⟨hno, rfl, rfl⟩
    · have hb1 := hbo.n1; have hb2 := hbo.n2; have hbp := hbo.p1; have hbp2 := hbo.p2; have hbi := hbo.i1; have hbi2 := hbo.i2; have hbpn := hbo.pn
      have hl2 : b.vals.length = n2 := HI2.out.1
      rw [hl2] at hb1 hb2 hbpn
      have FB := Lib.hid (Bx.new (L := w.heap.size + 1 + 1 + 1) (c := c2) (f := b) HI2.out hA2 (by omega) (by omega) (by omega))
      have FA := Lib.hid (FA.out.alloc (.cells #[.slice A2 n2 c2, .int .i64 b.per, .int .i64 b.inc] 31))
      have RB := Lib.hid (RB.out.alloc (.cells #[.slice A2 n2 c2, .int .i64 b.per, .int .i64 b.inc] 31))
      have BW := Lib.hid (bthen BW.out (balloc _ (.cells #[.slice A2 n2 c2, .int .i64 b.per, .int .i64 b.inc] 31)))
      have HNG := Lib.hid hnf; have HGO := Lib.hid hgo; have HBO := Lib.hid hbo; have HL2 := Lib.hid hl2
      clear hnf hgo hbo HI2 hA2 HN hl2
      obtain ⟨a0, a1, a2, hla⟩ := FA.out.cells
      obtain ⟨b0, b1, b2, hlb⟩ := FB.out.cells
      obtain ⟨ad2, of2, hAe, hbl2, hcell2⟩ := FB.out.ints.2 (by omega)
      subst hAe
      have hck := hcell2 0 (by omega)
      simp only [Nat.add_zero] at hck
      obtain ⟨z, hz⟩ : ∃ z, z = nth b.vals 0 := ⟨_, rfl⟩
      rw [← hz] at hck
      have HZ0 := Lib.hid (show z = Cv.at ⟨ys, q, j⟩ 0 from by rw [hz, ← HNG.out.at, Cv.at_lt (by have := HL2.out; omega)])
      clear hcell2 hz
      by_cases hz0 : z = 0
      · have d0 : (z != 0) = false := by simpa using hz0
        have H0 := Lib.hid (show Cv.at ⟨ys, q, j⟩ 0 = 0 from by rw [← HZ0.out]; exact hz0)
        clear hz0
        go_wp2_with fail
        refine (common2_any a.per b.per _ (by omega) (by omega) (by omega) (by omega)).mono ?_
        rintro e w3 ⟨rfl, hb3⟩
        obtain ⟨C, hC⟩ : ∃ C, C = comm a.per.toNat b.per.toNat := ⟨_, rfl⟩
        rw [← hC]
        clear hck hbl2 d0
        have RB := Lib.hid (RB.out.below hb3 RB.out.lt)
        have FA := Lib.hid (FA.out.below hb3)
        have FB := Lib.hid (FB.out.below hb3)
        have BW := Lib.hid (bthen BW.out hb3)
        have HC := Lib.hid hC
        have hs4 := FB.out.lt
        clear hb3 hC
        clear a0 a1 a2 hla b0 b1 b2 hlb
        obtain ⟨a0, a1, a2, hla⟩ := FA.out.cells
        obtain ⟨b0, b1, b2, hlb⟩ := FB.out.cells
        by_cases hcc : 120 < C
        · have F := Lib.hid (show DcBad ⟨xs, p, i⟩ ⟨ys, q, j⟩ 3 from .inr (.inr ⟨HFO.out, HGO.out, H0.out, rfl, a, b, HNF.out, HNG.out, by rw [← HC.out]; exact hcc⟩))
          have hci : (120 : Int) < (C : Int) := by omega
          clear hcc
          go_wp2_with (refine wpList_storeN rfl 101 _ _ rfl rfl RB.out rfl rfl (by kernel_rfl) (by simp [Value.oneCell']) ?_; intro wz hsto rz)
          exact bodyPost_ret (v := .tuple #[.agg zero8, .int .i64 3]) (by simp [results, Try.results78, go_sem, rz.cell, zero8]) rfl (.inl ⟨_, F.out, rfl, bsto BW.out hsto (by omega)⟩)
        · have hci : ¬ (120 : Int) < (C : Int) := by omega
          have hc120 : (C : Int) ≤ 120 := by omega
          clear hcc
          go_upto_region 12 with fail
          obtain ⟨S, hS⟩ : ∃ S, S = ordF a b := ⟨_, rfl⟩
          have hmx : (if (n1 : Int) - a.per < (n2 : Int) - b.per then (n2 : Int) - b.per else (n1 : Int) - a.per) = (S : Int) := by
            rw [hS]; unfold ordF; rw [HL1.out, HL2.out]; split <;> omega
          have hSb : (S : Int) ≤ 400 := by rw [hS]; unfold ordF; rw [HL1.out, HL2.out]; omega
          have e1 : IntKind.i64.wrap ((S : Int) + (C : Int)) = (S : Int) + (C : Int) := IntWalk.i64_in _ (by omega)
          have HS := Lib.hid hS
          clear hS
          go_cut [10] (fun s10 wx => ∃ P : Nat, s10 = .pointer (some ⟨P, 0, none⟩) ∧ w2.heap.size < P ∧ Blk wx P 101 #[.slice A1 n1 c1, .int .i64 a.per, .int .i64 a.inc, .slice (some ⟨ad2, of2, none⟩) n2 c2, .int .i64 b.per, .int .i64 b.inc, .int .i64 ((n2 : Int) - b.per), .bool false] ∧ Bx (w.heap.size + 1 + 1 + 1) wx w1.heap.size A1 n1 c1 a ∧ Bx (w.heap.size + 1 + 1 + 1) wx w2.heap.size (some ⟨ad2, of2, none⟩) n2 c2 b ∧ Blk wx (w.heap.size + 1 + 1) 101 #[.slice none 0 0, .int .i64 0, .int .i64 0, .slice none 0 0, .int .i64 0, .int .i64 0, .int .i64 0, .bool false] ∧ Below w.heap.size w wx)
          case first =>
            have FA := Lib.hid FA.out.drew; have FB := Lib.hid FB.out.drew; have RB := Lib.hid (Blk.drew RB.out); have BW := Lib.hid (Below.drew BW.out)
            clear a0 a1 a2 hla b0 b1 b2 hlb
            obtain ⟨a0, a1, a2, hla⟩ := FA.out.cells
            obtain ⟨b0, b1, b2, hlb⟩ := FB.out.cells
            refine wp_region_held_drew (S := fun w' => w'.cell? ⟨w1.heap.size, 0, none⟩ = some (.slice A1 n1 c1) ∧ w'.cell? ⟨w1.heap.size, 1, none⟩ = some (.int .i64 a.per) ∧ w'.cell? ⟨w1.heap.size, 2, none⟩ = some (.int .i64 a.inc) ∧ w'.cell? ⟨w2.heap.size, 0, none⟩ = some (.slice (some ⟨ad2, of2, none⟩) n2 c2) ∧ w'.cell? ⟨w2.heap.size, 1, none⟩ = some (.int .i64 b.per) ∧ w'.cell? ⟨w2.heap.size, 2, none⟩ = some (.int .i64 b.inc)) (by kernel_rfl) ⟨a0, a1, a2, b0, b1, b2⟩ (fun hHeld => ?_)
            generalize hwd : w3.drew = wd at *
            clear hwd
            refine wpAnyH_take (i := 0) (oi := _) (v := ?_) (by simp only [g8a, g8z]; rfl) (by kernel_rfl) (by kernel_rfl) (by kernel_rfl) (by exact fun _ _ _ h => h) (Or.inl ⟨by rfl, ?_⟩) (by assumption) ?_
            rotate_left 1
            · (intro w hSw; (try dsimp only at hSw); go_simp; try with_reducible rfl)
            all_goals ((try simp only [Act.put]); (try simp only [g8b]); (try simp only [g8c]); (try simp only [g8d]))
            refine wpAnyH_take (i := 1) (oi := _) (v := ?_) (by simp only [g8a, g8s, g8z]; rfl) (by kernel_rfl) (by kernel_rfl) (by kernel_rfl) (by exact fun _ _ _ h => h) (Or.inl ⟨by rfl, ?_⟩) (by assumption) ?_
            rotate_left 1
            · (intro w hSw; (try dsimp only at hSw); go_simp; try with_reducible rfl)
            all_goals ((try simp only [Act.put]); (try simp only [g8b]); (try simp only [g8c]); (try simp only [g8d]))
            refine wpAnyH_take (i := 2) (oi := _) (v := ?_) (by simp only [g8a, g8s, g8z]; rfl) (by kernel_rfl) (by kernel_rfl) (by kernel_rfl) (by exact fun _ _ _ h => h) (Or.inl ⟨by rfl, ?_⟩) (by assumption) ?_
            rotate_left 1
            · (intro w hSw; (try dsimp only at hSw); go_simp; try with_reducible rfl)
            all_goals ((try simp only [Act.put]); (try simp only [g8b]); (try simp only [g8c]); (try simp only [g8d]))
            refine wpAnyH_ready (rs := [3, 5]) (by kernel_rfl) (by simp) ?_
            refine (AllReadyH.cons (by simp only [g8a, g8s, g8z]; rfl) (fun K hK => ?_) (AllReadyH.cons (by simp only [g8a, g8s, g8z]; rfl) (fun K hK => ?_) AllReadyH.nil))
            · rw [if_pos (by rfl)]
              go_simp
              refine (start_any (some ⟨ad2, of2, none⟩) n2 c2 b.per b.inc _ (by omega) (by omega) (by omega)).mono ?_
              rintro e wa ⟨rfl, hbq⟩
              have FA := Lib.hid (FA.out.below hbq); have FB := Lib.hid (FB.out.below hbq); have RB := Lib.hid (RB.out.below hbq RB.out.lt); have BW := Lib.hid (bthen BW.out hbq)
              try (have ZB := Lib.hid (ZB.out.below hbq ZB.out.lt))
              clear hbq hHeld
              clear a0 a1 a2 hla b0 b1 b2 hlb
              obtain ⟨a0, a1, a2, hla⟩ := FA.out.cells
              obtain ⟨b0, b1, b2, hlb⟩ := FB.out.cells
              refine hK.out _ _ (by exact ⟨a0, a1, a2, b0, b1, b2⟩) (fun hHeld => ?_)
              clear hK K
              (try simp only [Act.put]); (try simp only [g8b]); (try simp only [g8c]); (try simp only [g8d])
              refine wpAnyH_take (i := 4) (oi := _) (v := ?_) (by simp only [g8a, g8s, g8z]; rfl) (by kernel_rfl) (by kernel_rfl) (by kernel_rfl) (by exact fun _ _ _ h => h) (Or.inl ⟨by rfl, ?_⟩) (by assumption) ?_
              rotate_left 1
              · (intro w hSw; (try dsimp only at hSw); go_simp; try with_reducible rfl)
              all_goals ((try simp only [Act.put]); (try simp only [g8b]); (try simp only [g8c]); (try simp only [g8d]))
              refine wpAnyH_ready (rs := [5]) (by kernel_rfl) (by simp) ?_
              refine (AllReadyH.cons (by simp only [g8a, g8s, g8z]; rfl) (fun K hK => ?_) AllReadyH.nil)
              rw [if_pos (by rfl)]
              go_simp
              have hbq := balloc wa (.cells #[.slice none 0 0, .int .i64 0, .int .i64 0, .slice none 0 0, .int .i64 0, .int .i64 0, .int .i64 0, .bool false] 101)
              have zb := Blk.new wa 101 #[.slice none 0 0, .int .i64 0, .int .i64 0, .slice none 0 0, .int .i64 0, .int .i64 0, .int .i64 0, .bool false]
              have hP := FB.out.lt
              have ZB := Lib.hid zb
              clear zb
              generalize hwa : wa.alloc (.cells #[.slice none 0 0, .int .i64 0, .int .i64 0, .slice none 0 0, .int .i64 0, .int .i64 0, .int .i64 0, .bool false] 101) = wb at *
              clear hwa
              have FA := Lib.hid (FA.out.below hbq); have FB := Lib.hid (FB.out.below hbq); have RB := Lib.hid (RB.out.below hbq RB.out.lt); have BW := Lib.hid (bthen BW.out hbq)
              clear hbq hHeld
              clear a0 a1 a2 hla b0 b1 b2 hlb
              obtain ⟨a0, a1, a2, hla⟩ := FA.out.cells
              obtain ⟨b0, b1, b2, hlb⟩ := FB.out.cells
              refine hK.out _ _ (by exact ⟨a0, a1, a2, b0, b1, b2⟩) (fun hHeld => ?_)
              clear hK K
              (try simp only [Act.put]); (try simp only [g8b]); (try simp only [g8c]); (try simp only [g8d])
              refine wpAnyH_ready (rs := [6]) (by kernel_rfl) (by simp) ?_
              refine (AllReadyH.cons (by simp only [g8a, g8s, g8z]; rfl) (fun K hK => ?_) AllReadyH.nil)
              refine step_storeN rfl 101 _ _ rfl rfl ZB.out rfl rfl (by kernel_rfl) (by simp [Value.oneCell']) ?_
              intro wz hsto rz
              have FA := Lib.hid (FA.out.sto hsto (.inl (by omega))); have FB := Lib.hid (FB.out.sto hsto (.inl (by omega))); have RB := Lib.hid (RB.out.sto hsto (by omega)); have BW := Lib.hid (bsto BW.out hsto (by omega))
              clear a0 a1 a2 hla b0 b1 b2 hlb
              obtain ⟨a0, a1, a2, hla⟩ := FA.out.cells
              obtain ⟨b0, b1, b2, hlb⟩ := FB.out.cells
              refine hK.out _ _ (by exact ⟨a0, a1, a2, b0, b1, b2⟩) (fun hHeld => ?_)
              clear hK K
              (try simp only [Act.put]); (try simp only [g8b]); (try simp only [g8c]); (try simp only [g8d])
              refine wpAnyH_done (by kernel_rfl) ?_ _
              go_wp2_with fail
              go_meet
              exact ⟨_, rfl, hP, rz, FA.out, FB.out, RB.out, BW.out⟩
            · rw [if_pos (by rfl)]
              go_simp
              have hbq := balloc wd (.cells #[.slice none 0 0, .int .i64 0, .int .i64 0, .slice none 0 0, .int .i64 0, .int .i64 0, .int .i64 0, .bool false] 101)
              have zb := Blk.new wd 101 #[.slice none 0 0, .int .i64 0, .int .i64 0, .slice none 0 0, .int .i64 0, .int .i64 0, .int .i64 0, .bool false]
              have hP := FB.out.lt
              have ZB := Lib.hid zb
              clear zb
              generalize hwa : wd.alloc (.cells #[.slice none 0 0, .int .i64 0, .int .i64 0, .slice none 0 0, .int .i64 0, .int .i64 0, .int .i64 0, .bool false] 101) = wa at *
              clear hwa
              have FA := Lib.hid (FA.out.below hbq); have FB := Lib.hid (FB.out.below hbq); have RB := Lib.hid (RB.out.below hbq RB.out.lt); have BW := Lib.hid (bthen BW.out hbq)
              clear hbq hHeld
              clear a0 a1 a2 hla b0 b1 b2 hlb
              obtain ⟨a0, a1, a2, hla⟩ := FA.out.cells
              obtain ⟨b0, b1, b2, hlb⟩ := FB.out.cells
              refine hK.out _ _ (by exact ⟨a0, a1, a2, b0, b1, b2⟩) (fun hHeld => ?_)
              clear hK K
              (try simp only [Act.put]); (try simp only [g8b]); (try simp only [g8c]); (try simp only [g8d])
              refine wpAnyH_ready (rs := [3]) (by kernel_rfl) (by simp) ?_
              refine (AllReadyH.cons (by simp only [g8a, g8s, g8z]; rfl) (fun K hK => ?_) AllReadyH.nil)
              rw [if_pos (by rfl)]
              go_simp
              refine (start_any (some ⟨ad2, of2, none⟩) n2 c2 b.per b.inc _ (by omega) (by omega) (by omega)).mono ?_
              rintro e wb ⟨rfl, hbq⟩
              have FA := Lib.hid (FA.out.below hbq); have FB := Lib.hid (FB.out.below hbq); have RB := Lib.hid (RB.out.below hbq RB.out.lt); have BW := Lib.hid (bthen BW.out hbq)
              try (have ZB := Lib.hid (ZB.out.below hbq ZB.out.lt))
              clear hbq hHeld
              clear a0 a1 a2 hla b0 b1 b2 hlb
              obtain ⟨a0, a1, a2, hla⟩ := FA.out.cells
              obtain ⟨b0, b1, b2, hlb⟩ := FB.out.cells
              refine hK.out _ _ (by exact ⟨a0, a1, a2, b0, b1, b2⟩) (fun hHeld => ?_)
              clear hK K
              (try simp only [Act.put]); (try simp only [g8b]); (try simp only [g8c]); (try simp only [g8d])
              refine wpAnyH_take (i := 4) (oi := _) (v := ?_) (by simp only [g8a, g8s, g8z]; rfl) (by kernel_rfl) (by kernel_rfl) (by kernel_rfl) (by exact fun _ _ _ h => h) (Or.inl ⟨by rfl, ?_⟩) (by assumption) ?_
              rotate_left 1
              · (intro w hSw; (try dsimp only at hSw); go_simp; try with_reducible rfl)
              all_goals ((try simp only [Act.put]); (try simp only [g8b]); (try simp only [g8c]); (try simp only [g8d]))
              refine wpAnyH_ready (rs := [6]) (by kernel_rfl) (by simp) ?_
              refine (AllReadyH.cons (by simp only [g8a, g8s, g8z]; rfl) (fun K hK => ?_) AllReadyH.nil)
              refine step_storeN rfl 101 _ _ rfl rfl ZB.out rfl rfl (by kernel_rfl) (by simp [Value.oneCell']) ?_
              intro wz hsto rz
              have FA := Lib.hid (FA.out.sto hsto (.inl (by omega))); have FB := Lib.hid (FB.out.sto hsto (.inl (by omega))); have RB := Lib.hid (RB.out.sto hsto (by omega)); have BW := Lib.hid (bsto BW.out hsto (by omega))
              clear a0 a1 a2 hla b0 b1 b2 hlb
              obtain ⟨a0, a1, a2, hla⟩ := FA.out.cells
              obtain ⟨b0, b1, b2, hlb⟩ := FB.out.cells
              refine hK.out _ _ (by exact ⟨a0, a1, a2, b0, b1, b2⟩) (fun hHeld => ?_)
              clear hK K
              (try simp only [Act.put]); (try simp only [g8b]); (try simp only [g8c]); (try simp only [g8d])
              refine wpAnyH_done (by kernel_rfl) ?_ _
              go_wp2_with fail
              go_meet
              exact ⟨_, rfl, hP, rz, FA.out, FB.out, RB.out, BW.out⟩
          case rest =>
            as_aux_lemma =>
            clear FA FB RB BW
            clear a0 a1 a2 hla b0 b1 b2 hlb
            obtain ⟨P, rfl, hP, pb, fa, fb, rb, bw⟩ := hcut
            have PB := Lib.hid pb; have FA := Lib.hid fa; have FB := Lib.hid fb; have RB := Lib.hid rb; have BW := Lib.hid bw
            clear pb fa fb rb bw
            have LO1 := Lib.hid (show ∀ z : Bool, z = (nth b.vals (n2 - 1) != inf) → (z = true ↔ b.Fin) from fun z hz => by
              rw [hz, bne_iff_ne, ← HL2.out]; exact ⟨fun h => ⟨HBO.out, h⟩, fun h => h.2⟩)
            have LO2 := Lib.hid (show ∀ z : Bool, z = (nth a.vals (n1 - 1) != inf) → (z = true ↔ a.Fin) from fun z hz => by
              rw [hz, bne_iff_ne, ← HL1.out]; exact ⟨fun h => ⟨HAO.out, h⟩, fun h => h.2⟩)
            obtain ⟨fb, hfb⟩ : ∃ z, z = (nth b.vals (n2 - 1) != inf) := ⟨_, rfl⟩
            obtain ⟨fa, hfa⟩ : ∃ z, z = (nth a.vals (n1 - 1) != inf) := ⟨_, rfl⟩
            obtain ⟨x, hx⟩ : ∃ x, x = (C / a.per.toNat : Nat) * a.inc := ⟨_, rfl⟩
            obtain ⟨y, hy⟩ : ∃ y, y = (C / b.per.toNat : Nat) * b.inc := ⟨_, rfl⟩
            have HFB := Lib.hid hfb; have HFA := Lib.hid hfa; have HX := Lib.hid hx; have HY := Lib.hid hy
            have LO3 := Lib.hid (show ordD a b = x - y from by unfold ordD; rw [hx, hy, HC.out]; rfl)
            clear hfb hfa hx hy
            obtain ⟨a0, a1, a2, hla⟩ := FA.out.cells
            obtain ⟨b0, b1, b2, hlb⟩ := FB.out.cells
            have hPr := RB.out.lt
            have hPs : w1.heap.size < P := by have := hs3; omega
            go_wp2_with fail
            refine (finite_any (some ⟨ad2, of2, none⟩) n2 c2 b.per b.inc b.vals _ (by exact FB.out.ints) (by omega) (by omega)).mono ?_
            rw [← HFB.out]
            rintro e wf ⟨rfl, hbq⟩
            have PB := Lib.hid (PB.out.below hbq PB.out.lt); have FA := Lib.hid (FA.out.below hbq); have FB := Lib.hid (FB.out.below hbq); have RB := Lib.hid (RB.out.below hbq RB.out.lt); have BW := Lib.hid (bthen BW.out hbq)
            clear hbq
            clear a0 a1 a2 hla b0 b1 b2 hlb
            go_upto_if 49 with fail
            go_cut [] (fun wx => ∃ l : Bool, (l = true ↔ b.Fin ∧ a.Fin ∧ 0 < ordD a b) ∧ Blk wx P 101 #[.slice A1 n1 c1, .int .i64 a.per, .int .i64 a.inc, .slice (some ⟨ad2, of2, none⟩) n2 c2, .int .i64 b.per, .int .i64 b.inc, .int .i64 (dcK a b : Nat), .bool l] ∧ Bx (w.heap.size + 1 + 1 + 1) wx w1.heap.size A1 n1 c1 a ∧ Bx (w.heap.size + 1 + 1 + 1) wx w2.heap.size (some ⟨ad2, of2, none⟩) n2 c2 b ∧ Blk wx (w.heap.size + 1 + 1) 101 #[.slice none 0 0, .int .i64 0, .int .i64 0, .slice none 0 0, .int .i64 0, .int .i64 0, .int .i64 0, .bool false] ∧ Below w.heap.size w wx)
            case first =>
              cases fb
              case false =>
                have h1 := LO1.out _ HFB.out
                have hK : ((dcK a b : Nat) : Int) = (n2 : Int) - b.per := by
                  unfold dcK
                  rw [if_pos (by have h2 := HFB.out; rw [← HL2.out] at h2; simpa using h2.symm), HL2.out]
                  omega
                have HKT := Lib.hid hK
                have HLO : (false = true ↔ b.Fin ∧ a.Fin ∧ 0 < ordD a b) := ⟨(fun h => by cases h), (fun h => by have := h1.2 h.1; cases this)⟩
                clear hK h1 e1 hmx
                go_wp2_with fail
                go_meet
                exact ⟨false, HLO, by rw [HKT.out]; exact PB.out, FA.out, FB.out, RB.out, BW.out⟩
              case true =>
                have hK : ((dcK a b : Nat) : Int) = (S : Int) + (C : Int) := by
                  unfold dcK
                  rw [if_neg (by have h2 := HFB.out; rw [← HL2.out] at h2; simpa using h2.symm), HS.out, HC.out]
                  exact Int.natCast_add _ _
                have HKT := Lib.hid hK
                clear hK
                go_upto_region 14 with fail
                have PB := Lib.hid (Blk.drew PB.out); have FA := Lib.hid FA.out.drew; have FB := Lib.hid FB.out.drew; have RB := Lib.hid (Blk.drew RB.out); have BW := Lib.hid (Below.drew BW.out)
                obtain ⟨a0, a1, a2, hla⟩ := FA.out.cells
                obtain ⟨b0, b1, b2, hlb⟩ := FB.out.cells
                obtain ⟨p6, hlp⟩ : _ ∧ _ := ⟨PB.out.cell 6, PB.out.lt⟩
                have v6 := PB.out.frozen 6
                simp at p6
                refine wp_region_held_drew (S := fun w' => w'.cell? ⟨w1.heap.size, 0, none⟩ = some (.slice A1 n1 c1) ∧ w'.cell? ⟨w1.heap.size, 1, none⟩ = some (.int .i64 a.per) ∧ w'.cell? ⟨w1.heap.size, 2, none⟩ = some (.int .i64 a.inc) ∧ w'.cell? ⟨w2.heap.size, 0, none⟩ = some (.slice (some ⟨ad2, of2, none⟩) n2 c2) ∧ w'.cell? ⟨w2.heap.size, 1, none⟩ = some (.int .i64 b.per) ∧ w'.cell? ⟨w2.heap.size, 2, none⟩ = some (.int .i64 b.inc)) (by kernel_rfl) ⟨a0, a1, a2, b0, b1, b2⟩ (fun hHeld => ?_)
                generalize hwd : wf.drew = wd at *
                clear hwd
                refine wpAnyH_take (i := 0) (oi := _) (v := ?_) (by simp only [g8a, g8z]; rfl) (by kernel_rfl) (by kernel_rfl) (by kernel_rfl) (by exact fun _ _ _ h => h) (Or.inl ⟨by rfl, ?_⟩) (by assumption) ?_
                rotate_left 1
                · (intro w hSw; (try dsimp only at hSw); go_simp; try with_reducible rfl)
                all_goals ((try simp only [Act.put]); (try simp only [g8b]); (try simp only [g8c]); (try simp only [g8d]))
                refine wpAnyH_take (i := 2) (oi := _) (v := ?_) (by simp only [g8a, g8s, g8z]; rfl) (by kernel_rfl) (by kernel_rfl) (by kernel_rfl) (by exact fun _ _ _ h => h) (Or.inl ⟨by rfl, ?_⟩) (by assumption) ?_
                rotate_left 1
                · (intro w hSw; (try dsimp only at hSw); go_simp; try with_reducible rfl)
                all_goals ((try simp only [Act.put]); (try simp only [g8b]); (try simp only [g8c]); (try simp only [g8d]))
                refine wpAnyH_take (i := 5) (oi := _) (v := ?_) (by simp only [g8a, g8s, g8z]; rfl) (by kernel_rfl) (by kernel_rfl) (by kernel_rfl) (by exact fun _ _ _ h => h) (Or.inl ⟨by rfl, ?_⟩) (by assumption) ?_
                rotate_left 1
                · (intro w hSw; (try dsimp only at hSw); go_simp; try with_reducible rfl)
                all_goals ((try simp only [Act.put]); (try simp only [g8b]); (try simp only [g8c]); (try simp only [g8d]))
                refine wpAnyH_ready (rs := [1]) (by kernel_rfl) (by simp) ?_
                refine (AllReadyH.cons (by simp only [g8a, g8s, g8z]; rfl) (fun K hK => ?_) AllReadyH.nil)
                rw [if_pos (by rfl)]
                go_simp
                refine (start_any A1 n1 c1 a.per a.inc _ (by omega) (by omega) (by omega)).mono ?_
                rintro e wa ⟨rfl, hbq⟩
                have PB := Lib.hid (PB.out.below hbq PB.out.lt); have FA := Lib.hid (FA.out.below hbq); have FB := Lib.hid (FB.out.below hbq); have RB := Lib.hid (RB.out.below hbq RB.out.lt); have BW := Lib.hid (bthen BW.out hbq)
                clear hbq hHeld
                clear a0 a1 a2 hla b0 b1 b2 hlb
                obtain ⟨a0, a1, a2, hla⟩ := FA.out.cells
                obtain ⟨b0, b1, b2, hlb⟩ := FB.out.cells
                clear p6 hlp v6
                obtain ⟨p6, hlp⟩ : _ ∧ _ := ⟨PB.out.cell 6, PB.out.lt⟩
                have v6 := PB.out.frozen 6
                simp at p6
                refine hK.out _ _ (by exact ⟨a0, a1, a2, b0, b1, b2⟩) (fun hHeld => ?_)
                clear hK K
                (try simp only [Act.put]); (try simp only [g8b]); (try simp only [g8c]); (try simp only [g8d])
                refine wpAnyH_ready (rs := [3]) (by kernel_rfl) (by simp) ?_
                refine (AllReadyH.cons (by simp only [g8a, g8s, g8z]; rfl) (fun K hK => ?_) AllReadyH.nil)
                rw [if_pos (by rfl)]
                go_simp
                refine (start_any (some ⟨ad2, of2, none⟩) n2 c2 b.per b.inc _ (by omega) (by omega) (by omega)).mono ?_
                rintro e wb ⟨rfl, hbq⟩
                have PB := Lib.hid (PB.out.below hbq PB.out.lt); have FA := Lib.hid (FA.out.below hbq); have FB := Lib.hid (FB.out.below hbq); have RB := Lib.hid (RB.out.below hbq RB.out.lt); have BW := Lib.hid (bthen BW.out hbq)
                clear hbq hHeld
                clear a0 a1 a2 hla b0 b1 b2 hlb
                obtain ⟨a0, a1, a2, hla⟩ := FA.out.cells
                obtain ⟨b0, b1, b2, hlb⟩ := FB.out.cells
                clear p6 hlp v6
                obtain ⟨p6, hlp⟩ : _ ∧ _ := ⟨PB.out.cell 6, PB.out.lt⟩
                have v6 := PB.out.frozen 6
                simp at p6
                refine hK.out _ _ (by exact ⟨a0, a1, a2, b0, b1, b2⟩) (fun hHeld => ?_)
                clear hK K
                (try simp only [Act.put]); (try simp only [g8b]); (try simp only [g8c]); (try simp only [g8d])
                refine wpAnyH_ready (rs := [4]) (by kernel_rfl) (by simp) ?_
                refine (AllReadyH.cons (by simp only [g8a, g8s, g8z]; rfl) (fun K hK => ?_) AllReadyH.nil)
                rw [if_pos (by rfl)]
                go_simp
                refine hK.out _ _ (by exact ⟨a0, a1, a2, b0, b1, b2⟩) (fun hHeld => ?_)
                clear hK K
                (try simp only [Act.put]); (try simp only [g8b]); (try simp only [g8c]); (try simp only [g8d])
                refine wpAnyH_take (i := 6) (oi := _) (v := ?_) (by simp only [g8a, g8s, g8z]; rfl) (by kernel_rfl) (by kernel_rfl) (by kernel_rfl) (by exact fun _ _ _ h => h) (Or.inl ⟨by rfl, ?_⟩) (by assumption) ?_
                rotate_left 1
                · (intro w hSw; (try dsimp only at hSw); go_simp; try with_reducible rfl)
                all_goals ((try simp only [Act.put]); (try simp only [g8b]); (try simp only [g8c]); (try simp only [g8d]))
                refine wpAnyH_take (i := 7) (oi := _) (v := ?_) (by simp only [g8a, g8s, g8z]; rfl) (by kernel_rfl) (by kernel_rfl) (by kernel_rfl) (by exact fun _ _ _ h => h) (Or.inl ⟨by rfl, ?_⟩) (by assumption) ?_
                rotate_left 1
                · (intro w hSw; (try dsimp only at hSw); go_simp; try with_reducible rfl)
                all_goals ((try simp only [Act.put]); (try simp only [g8b]); (try simp only [g8c]); (try simp only [g8d]))
                refine wpAnyH_ready (rs := [8]) (by kernel_rfl) (by simp) ?_
                refine (AllReadyH.cons (by simp only [g8a, g8s, g8z]; rfl) (fun K hK => ?_) AllReadyH.nil)
                rw [if_pos (by rfl)]
                go_simp
                refine hK.out _ _ (by exact ⟨(cell_set1 (by omega)).trans a0, (cell_set1 (by omega)).trans a1, (cell_set1 (by omega)).trans a2, (cell_set1 (by omega)).trans b0, (cell_set1 (by omega)).trans b1, (cell_set1 (by omega)).trans b2⟩) (fun hHeld => ?_)
                clear hK K
                (try simp only [Act.put]); (try simp only [g8b]); (try simp only [g8c]); (try simp only [g8d])
                refine wpAnyH_done (by kernel_rfl) ?_ _
                have PB := Lib.hid (PB.out.set_ 6 (.int .i64 ((S : Int) + (C : Int)))); have FA := Lib.hid (FA.out.set1 (g := P) (.inl (by omega)) 6 (.int .i64 ((S : Int) + (C : Int)))); have FB := Lib.hid (FB.out.set1 (g := P) (.inl (by omega)) 6 (.int .i64 ((S : Int) + (C : Int)))); have RB := Lib.hid (RB.out.far (p := ⟨P, 6, none⟩) (by simp; omega) (.int .i64 ((S : Int) + (C : Int)))); have BW := Lib.hid (BW.out.setCell (p := ⟨P, 6, none⟩) (by simp; omega) (.int .i64 ((S : Int) + (C : Int))))
                clear a0 a1 a2 hla b0 b1 b2 hlb
                clear p6 hlp v6
                try clear hHeld
                generalize hwe : wb.setCell ⟨P, 6, none⟩ (.int .i64 ((S : Int) + (C : Int))) = wh at *
                clear hwe
                simp only [List.setIfInBounds_toArray, List.set_cons_succ, List.set_cons_zero] at PB
                go_upto_region 15 with fail
                have PB := Lib.hid (Blk.drew PB.out); have FA := Lib.hid FA.out.drew; have FB := Lib.hid FB.out.drew; have RB := Lib.hid (Blk.drew RB.out); have BW := Lib.hid (Below.drew BW.out)
                obtain ⟨a0, a1, a2, hla⟩ := FA.out.cells
                obtain ⟨b0, b1, b2, hlb⟩ := FB.out.cells
                obtain ⟨p7, hlp⟩ : _ ∧ _ := ⟨PB.out.cell 7, PB.out.lt⟩
                have v7 := PB.out.frozen 7
                simp at p7
                refine wp_region_held_drew (S := fun w' => w'.cell? ⟨w1.heap.size, 0, none⟩ = some (.slice A1 n1 c1) ∧ w'.cell? ⟨w1.heap.size, 1, none⟩ = some (.int .i64 a.per) ∧ w'.cell? ⟨w1.heap.size, 2, none⟩ = some (.int .i64 a.inc) ∧ w'.cell? ⟨w2.heap.size, 0, none⟩ = some (.slice (some ⟨ad2, of2, none⟩) n2 c2) ∧ w'.cell? ⟨w2.heap.size, 1, none⟩ = some (.int .i64 b.per) ∧ w'.cell? ⟨w2.heap.size, 2, none⟩ = some (.int .i64 b.inc)) (by kernel_rfl) ⟨a0, a1, a2, b0, b1, b2⟩ (fun hHeld => ?_)
                generalize hwd : wh.drew = wd at *
                clear hwd
                refine wpAnyH_take (i := 0) (oi := _) (v := ?_) (by simp only [g8a, g8z]; rfl) (by kernel_rfl) (by kernel_rfl) (by kernel_rfl) (by exact fun _ _ _ h => h) (Or.inl ⟨by rfl, ?_⟩) (by assumption) ?_
                rotate_left 1
                · (intro w hSw; (try dsimp only at hSw); go_simp; try with_reducible rfl)
                all_goals ((try simp only [Act.put]); (try simp only [g8b]); (try simp only [g8c]); (try simp only [g8d]))
                refine wpAnyH_ready (rs := [1]) (by kernel_rfl) (by simp) ?_
                refine (AllReadyH.cons (by simp only [g8a, g8s, g8z]; rfl) (fun K hK => ?_) AllReadyH.nil)
                rw [if_pos (by rfl)]
                go_simp
                refine (finite_any A1 n1 c1 a.per a.inc a.vals _ (by exact FA.out.ints) (by omega) (by omega)).mono ?_
                rw [← HFA.out]
                rintro e wg ⟨rfl, hbq⟩
                have PB := Lib.hid (PB.out.below hbq PB.out.lt); have FA := Lib.hid (FA.out.below hbq); have FB := Lib.hid (FB.out.below hbq); have RB := Lib.hid (RB.out.below hbq RB.out.lt); have BW := Lib.hid (bthen BW.out hbq)
                clear hbq hHeld
                clear a0 a1 a2 hla b0 b1 b2 hlb
                obtain ⟨a0, a1, a2, hla⟩ := FA.out.cells
                obtain ⟨b0, b1, b2, hlb⟩ := FB.out.cells
                clear p7 hlp v7
                obtain ⟨p7, hlp⟩ : _ ∧ _ := ⟨PB.out.cell 7, PB.out.lt⟩
                have v7 := PB.out.frozen 7
                simp at p7
                refine hK.out _ _ (by exact ⟨a0, a1, a2, b0, b1, b2⟩) (fun hHeld => ?_)
                clear hK K
                (try simp only [Act.put]); (try simp only [g8b]); (try simp only [g8c]); (try simp only [g8d])
                cases fa
                case false =>
                  refine wpAnyH_take (i := 2) (oi := _) (v := ?_) (by simp only [g8a, g8s, g8z]; rfl) (by kernel_rfl) (by kernel_rfl) (by kernel_rfl) (by exact fun _ _ _ h => h) (Or.inl ⟨by rfl, ?_⟩) (by assumption) ?_
                  rotate_left 1
                  · (intro w hSw; (try dsimp only at hSw); go_simp; try with_reducible rfl)
                  all_goals ((try simp only [Act.put]); (try simp only [g8b]); (try simp only [g8c]); (try simp only [g8d]))
                  refine wpAnyH_take (i := 3) (oi := _) (v := undef) (by simp only [g8a, g8s, g8z]; rfl) (by kernel_rfl) (by kernel_rfl) (by kernel_rfl) (by exact fun _ _ _ h => h) (Or.inr ⟨by rfl, rfl⟩) (by assumption) ?_
                  (try simp only [Act.put]); (try simp only [g8b]); (try simp only [g8c]); (try simp only [g8d])
                  refine wpAnyH_take (i := 4) (oi := _) (v := undef) (by simp only [g8a, g8s, g8z]; rfl) (by kernel_rfl) (by kernel_rfl) (by kernel_rfl) (by exact fun _ _ _ h => h) (Or.inr ⟨by rfl, rfl⟩) (by assumption) ?_
                  (try simp only [Act.put]); (try simp only [g8b]); (try simp only [g8c]); (try simp only [g8d])
                  refine wpAnyH_take (i := 5) (oi := _) (v := undef) (by simp only [g8a, g8s, g8z]; rfl) (by kernel_rfl) (by kernel_rfl) (by kernel_rfl) (by exact fun _ _ _ h => h) (Or.inr ⟨by rfl, rfl⟩) (by assumption) ?_
                  (try simp only [Act.put]); (try simp only [g8b]); (try simp only [g8c]); (try simp only [g8d])
                  refine wpAnyH_take (i := 6) (oi := _) (v := undef) (by simp only [g8a, g8s, g8z]; rfl) (by kernel_rfl) (by kernel_rfl) (by kernel_rfl) (by exact fun _ _ _ h => h) (Or.inr ⟨by rfl, rfl⟩) (by assumption) ?_
                  (try simp only [Act.put]); (try simp only [g8b]); (try simp only [g8c]); (try simp only [g8d])
                  refine wpAnyH_take (i := 7) (oi := _) (v := undef) (by simp only [g8a, g8s, g8z]; rfl) (by kernel_rfl) (by kernel_rfl) (by kernel_rfl) (by exact fun _ _ _ h => h) (Or.inr ⟨by rfl, rfl⟩) (by assumption) ?_
                  (try simp only [Act.put]); (try simp only [g8b]); (try simp only [g8c]); (try simp only [g8d])
                  refine wpAnyH_take (i := 8) (oi := _) (v := undef) (by simp only [g8a, g8s, g8z]; rfl) (by kernel_rfl) (by kernel_rfl) (by kernel_rfl) (by exact fun _ _ _ h => h) (Or.inr ⟨by rfl, rfl⟩) (by assumption) ?_
                  (try simp only [Act.put]); (try simp only [g8b]); (try simp only [g8c]); (try simp only [g8d])
                  refine wpAnyH_take (i := 9) (oi := _) (v := undef) (by simp only [g8a, g8s, g8z]; rfl) (by kernel_rfl) (by kernel_rfl) (by kernel_rfl) (by exact fun _ _ _ h => h) (Or.inr ⟨by rfl, rfl⟩) (by assumption) ?_
                  (try simp only [Act.put]); (try simp only [g8b]); (try simp only [g8c]); (try simp only [g8d])
                  refine wpAnyH_take (i := 10) (oi := _) (v := ?_) (by simp only [g8a, g8s, g8z]; rfl) (by kernel_rfl) (by kernel_rfl) (by kernel_rfl) (by exact fun _ _ _ h => h) (Or.inl ⟨by rfl, ?_⟩) (by assumption) ?_
                  rotate_left 1
                  · (intro w hSw; (try dsimp only at hSw); go_simp; try with_reducible rfl)
                  all_goals ((try simp only [Act.put]); (try simp only [g8b]); (try simp only [g8c]); (try simp only [g8d]))
                  refine wpAnyH_take (i := 11) (oi := _) (v := ?_) (by simp only [g8a, g8s, g8z]; rfl) (by kernel_rfl) (by kernel_rfl) (by kernel_rfl) (by exact fun _ _ _ h => h) (Or.inl ⟨by rfl, ?_⟩) (by assumption) ?_
                  rotate_left 1
                  · (intro w hSw; (try dsimp only at hSw); go_simp; try with_reducible rfl)
                  all_goals ((try simp only [Act.put]); (try simp only [g8b]); (try simp only [g8c]); (try simp only [g8d]))
                  have HLO := Lib.hid (show (false = true ↔ b.Fin ∧ a.Fin ∧ 0 < ordD a b) from by
                    have h2 := LO2.out _ HFA.out
                    exact ⟨(fun h => by cases h), (fun h => by have := h2.2 h.2.1; cases this)⟩)
                  refine wpAnyH_ready (rs := [12]) (by kernel_rfl) (by simp) ?_
                  refine (AllReadyH.cons (by simp only [g8a, g8s, g8z]; rfl) (fun K hK => ?_) AllReadyH.nil)
                  rw [if_pos (by rfl)]
                  go_simp
                  refine hK.out _ _ (by exact ⟨(cell_set1 (by omega)).trans a0, (cell_set1 (by omega)).trans a1, (cell_set1 (by omega)).trans a2, (cell_set1 (by omega)).trans b0, (cell_set1 (by omega)).trans b1, (cell_set1 (by omega)).trans b2⟩) (fun hHeld => ?_)
                  clear hK K
                  (try simp only [Act.put]); (try simp only [g8b]); (try simp only [g8c]); (try simp only [g8d])
                  refine wpAnyH_done (by kernel_rfl) ?_ _
                  have PB := Lib.hid (PB.out.set_ 7 (.bool false)); have FA := Lib.hid (FA.out.set1 (g := P) (.inl (by omega)) 7 (.bool false)); have FB := Lib.hid (FB.out.set1 (g := P) (.inl (by omega)) 7 (.bool false)); have RB := Lib.hid (RB.out.far (p := ⟨P, 7, none⟩) (by simp; omega) (.bool false)); have BW := Lib.hid (BW.out.setCell (p := ⟨P, 7, none⟩) (by simp; omega) (.bool false))
                  clear a0 a1 a2 hla b0 b1 b2 hlb
                  clear p7 hlp v7
                  try clear hHeld
                  generalize hwe : wg.setCell ⟨P, 7, none⟩ (.bool false) = we at *
                  clear hwe
                  simp only [List.setIfInBounds_toArray, List.set_cons_succ, List.set_cons_zero] at PB
                  go_wp2_with fail
                  go_meet
                  exact ⟨false, HLO.out, by rw [HKT.out]; exact PB.out, FA.out, FB.out, RB.out, BW.out⟩
                case true =>
                  refine wpAnyH_take (i := 2) (oi := _) (v := ?_) (by simp only [g8a, g8s, g8z]; rfl) (by kernel_rfl) (by kernel_rfl) (by kernel_rfl) (by exact fun _ _ _ h => h) (Or.inl ⟨by rfl, ?_⟩) (by assumption) ?_
                  rotate_left 1
                  · (intro w hSw; (try dsimp only at hSw); go_simp; try with_reducible rfl)
                  all_goals ((try simp only [Act.put]); (try simp only [g8b]); (try simp only [g8c]); (try simp only [g8d]))
                  refine wpAnyH_take (i := 3) (oi := _) (v := ?_) (by simp only [g8a, g8s, g8z]; rfl) (by kernel_rfl) (by kernel_rfl) (by kernel_rfl) (by exact fun _ _ _ h => h) (Or.inl ⟨by rfl, ?_⟩) (by assumption) ?_
                  rotate_left 1
                  · (intro w hSw; (try dsimp only at hSw); go_simp; try with_reducible rfl)
                  all_goals ((try simp only [Act.put]); (try simp only [g8b]); (try simp only [g8c]); (try simp only [g8d]))
                  refine wpAnyH_take (i := 4) (oi := _) (v := ?_) (by simp only [g8a, g8s, g8z]; rfl) (by kernel_rfl) (by kernel_rfl) (by kernel_rfl) (by exact fun _ _ _ h => h) (Or.inl ⟨by rfl, ?_⟩) (by assumption) ?_
                  rotate_left 1
                  · (intro w hSw; (try dsimp only at hSw); go_simp; try with_reducible rfl)
                  all_goals ((try simp only [Act.put]); (try simp only [g8b]); (try simp only [g8c]); (try simp only [g8d]))
                  refine wpAnyH_take (i := 6) (oi := _) (v := ?_) (by simp only [g8a, g8s, g8z]; rfl) (by kernel_rfl) (by kernel_rfl) (by kernel_rfl) (by exact fun _ _ _ h => h) (Or.inl ⟨by rfl, ?_⟩) (by assumption) ?_
                  rotate_left 1
                  · (intro w hSw; (try dsimp only at hSw); go_simp; try with_reducible rfl)
                  all_goals ((try simp only [Act.put]); (try simp only [g8b]); (try simp only [g8c]); (try simp only [g8d]))
                  refine wpAnyH_take (i := 7) (oi := _) (v := ?_) (by simp only [g8a, g8s, g8z]; rfl) (by kernel_rfl) (by kernel_rfl) (by kernel_rfl) (by exact fun _ _ _ h => h) (Or.inl ⟨by rfl, ?_⟩) (by assumption) ?_
                  rotate_left 1
                  · (intro w hSw; (try dsimp only at hSw); go_simp; try with_reducible rfl)
                  all_goals ((try simp only [Act.put]); (try simp only [g8b]); (try simp only [g8c]); (try simp only [g8d]))
                  refine wpAnyH_ready (rs := [5]) (by kernel_rfl) (by simp) ?_
                  refine (AllReadyH.cons (by simp only [g8a, g8s, g8z]; rfl) (fun K hK => ?_) AllReadyH.nil)
                  rw [if_pos (by rfl)]
                  go_simp
                  refine (gain_any A1 n1 c1 a.per a.inc C _ (by omega) (by omega) (by omega) (by omega) (by omega)).mono ?_
                  rw [Int.toNat_natCast, ← HX.out]
                  rintro e wk ⟨rfl, hbq⟩
                  have PB := Lib.hid (PB.out.below hbq PB.out.lt); have FA := Lib.hid (FA.out.below hbq); have FB := Lib.hid (FB.out.below hbq); have RB := Lib.hid (RB.out.below hbq RB.out.lt); have BW := Lib.hid (bthen BW.out hbq)
                  clear hbq hHeld
                  clear a0 a1 a2 hla b0 b1 b2 hlb
                  obtain ⟨a0, a1, a2, hla⟩ := FA.out.cells
                  obtain ⟨b0, b1, b2, hlb⟩ := FB.out.cells
                  clear p7 hlp v7
                  obtain ⟨p7, hlp⟩ : _ ∧ _ := ⟨PB.out.cell 7, PB.out.lt⟩
                  have v7 := PB.out.frozen 7
                  simp at p7
                  refine hK.out _ _ (by exact ⟨a0, a1, a2, b0, b1, b2⟩) (fun hHeld => ?_)
                  clear hK K
                  (try simp only [Act.put]); (try simp only [g8b]); (try simp only [g8c]); (try simp only [g8d])
                  refine wpAnyH_ready (rs := [8]) (by kernel_rfl) (by simp) ?_
                  refine (AllReadyH.cons (by simp only [g8a, g8s, g8z]; rfl) (fun K hK => ?_) AllReadyH.nil)
                  rw [if_pos (by rfl)]
                  go_simp
                  refine (gain_any (some ⟨ad2, of2, none⟩) n2 c2 b.per b.inc C _ (by omega) (by omega) (by omega) (by omega) (by omega)).mono ?_
                  rw [Int.toNat_natCast, ← HY.out]
                  rintro e wi ⟨rfl, hbq⟩
                  have PB := Lib.hid (PB.out.below hbq PB.out.lt); have FA := Lib.hid (FA.out.below hbq); have FB := Lib.hid (FB.out.below hbq); have RB := Lib.hid (RB.out.below hbq RB.out.lt); have BW := Lib.hid (bthen BW.out hbq)
                  clear hbq hHeld
                  clear a0 a1 a2 hla b0 b1 b2 hlb
                  obtain ⟨a0, a1, a2, hla⟩ := FA.out.cells
                  obtain ⟨b0, b1, b2, hlb⟩ := FB.out.cells
                  clear p7 hlp v7
                  obtain ⟨p7, hlp⟩ : _ ∧ _ := ⟨PB.out.cell 7, PB.out.lt⟩
                  have v7 := PB.out.frozen 7
                  simp at p7
                  refine hK.out _ _ (by exact ⟨a0, a1, a2, b0, b1, b2⟩) (fun hHeld => ?_)
                  clear hK K
                  (try simp only [Act.put]); (try simp only [g8b]); (try simp only [g8c]); (try simp only [g8d])
                  refine wpAnyH_take (i := 9) (oi := _) (v := ?_) (by simp only [g8a, g8s, g8z]; rfl) (by kernel_rfl) (by kernel_rfl) (by kernel_rfl) (by exact fun _ _ _ h => h) (Or.inl ⟨by rfl, ?_⟩) (by assumption) ?_
                  rotate_left 1
                  · (intro w hSw; (try dsimp only at hSw); go_simp; try with_reducible rfl)
                  all_goals ((try simp only [Act.put]); (try simp only [g8b]); (try simp only [g8c]); (try simp only [g8d]))
                  refine wpAnyH_take (i := 10) (oi := _) (v := ?_) (by simp only [g8a, g8s, g8z]; rfl) (by kernel_rfl) (by kernel_rfl) (by kernel_rfl) (by exact fun _ _ _ h => h) (Or.inl ⟨by rfl, ?_⟩) (by assumption) ?_
                  rotate_left 1
                  · (intro w hSw; (try dsimp only at hSw); go_simp; try with_reducible rfl)
                  all_goals ((try simp only [Act.put]); (try simp only [g8b]); (try simp only [g8c]); (try simp only [g8d]))
                  refine wpAnyH_take (i := 11) (oi := _) (v := ?_) (by simp only [g8a, g8s, g8z]; rfl) (by kernel_rfl) (by kernel_rfl) (by kernel_rfl) (by exact fun _ _ _ h => h) (Or.inl ⟨by rfl, ?_⟩) (by assumption) ?_
                  rotate_left 1
                  · (intro w hSw; (try dsimp only at hSw); go_simp; try with_reducible rfl)
                  all_goals ((try simp only [Act.put]); (try simp only [g8b]); (try simp only [g8c]); (try simp only [g8d]))
                  have HLO := Lib.hid (show (decide (y < x) = true ↔ b.Fin ∧ a.Fin ∧ 0 < ordD a b) from by
                    have h1 := LO1.out _ HFB.out
                    have h2 := LO2.out _ HFA.out
                    rw [decide_eq_true_iff, LO3.out]
                    exact ⟨fun h => ⟨h1.1 rfl, h2.1 rfl, by omega⟩, fun h => by omega⟩)
                  refine wpAnyH_ready (rs := [12]) (by kernel_rfl) (by simp) ?_
                  refine (AllReadyH.cons (by simp only [g8a, g8s, g8z]; rfl) (fun K hK => ?_) AllReadyH.nil)
                  rw [if_pos (by rfl)]
                  go_simp
                  refine hK.out _ _ (by exact ⟨(cell_set1 (by omega)).trans a0, (cell_set1 (by omega)).trans a1, (cell_set1 (by omega)).trans a2, (cell_set1 (by omega)).trans b0, (cell_set1 (by omega)).trans b1, (cell_set1 (by omega)).trans b2⟩) (fun hHeld => ?_)
                  clear hK K
                  (try simp only [Act.put]); (try simp only [g8b]); (try simp only [g8c]); (try simp only [g8d])
                  refine wpAnyH_done (by kernel_rfl) ?_ _
                  have PB := Lib.hid (PB.out.set_ 7 (.bool (decide (y < x)))); have FA := Lib.hid (FA.out.set1 (g := P) (.inl (by omega)) 7 (.bool (decide (y < x)))); have FB := Lib.hid (FB.out.set1 (g := P) (.inl (by omega)) 7 (.bool (decide (y < x)))); have RB := Lib.hid (RB.out.far (p := ⟨P, 7, none⟩) (by simp; omega) (.bool (decide (y < x)))); have BW := Lib.hid (BW.out.setCell (p := ⟨P, 7, none⟩) (by simp; omega) (.bool (decide (y < x))))
                  clear a0 a1 a2 hla b0 b1 b2 hlb
                  clear p7 hlp v7
                  try clear hHeld
                  generalize hwe : wi.setCell ⟨P, 7, none⟩ (.bool (decide (y < x))) = we at *
                  clear hwe
                  simp only [List.setIfInBounds_toArray, List.set_cons_succ, List.set_cons_zero] at PB
                  go_wp2_with fail
                  go_meet
                  exact ⟨(decide (y < x)), HLO.out, by rw [HKT.out]; exact PB.out, FA.out, FB.out, RB.out, BW.out⟩
            case rest =>
              as_aux_lemma =>
              clear PB FA FB RB BW
              obtain ⟨l, hl, pb, fa', fb', rb, bw⟩ := hcut
              have HLO := Lib.hid hl; have PB := Lib.hid pb; have FA := Lib.hid fa'; have FB := Lib.hid fb'; have RB := Lib.hid rb; have BW := Lib.hid bw
              clear hl pb fa' fb' rb bw
              have hPr := RB.out.lt
              go_upto_region 16 with fail
              refine wp_region_lit ?_
              refine wpList_load_row rfl 101 _ rfl P rfl 101 #[.slice A1 n1 c1, .int .i64 a.per, .int .i64 a.inc, .slice (some ⟨ad2, of2, none⟩) n2 c2, .int .i64 b.per, .int .i64 b.inc, .int .i64 (dcK a b : Nat), .bool l] (0, 0) _ PB.out Try.underlying101 rfl (by kernel_rfl) ?_
              refine wpList_storeN rfl 101 _ _ rfl rfl RB.out rfl rfl (by kernel_rfl) (by simp [Value.oneCell']) ?_
              intro wz hsto rz
              have FA := Lib.hid (FA.out.sto hsto (.inr (by omega))); have FB := Lib.hid (FB.out.sto hsto (.inr (by omega)))
              have bw := bsto BW.out hsto (by omega)
              (try simp only [Act.put]); (try simp only [g8b]); (try simp only [g8c]); (try simp only [g8d])
              go_wp2_with fail
              exact bodyPost_ret (v := .tuple #[.agg (dpA A1 n1 c1 a (some ⟨ad2, of2, none⟩) n2 c2 b (dcK a b : Nat) l), .int .i64 0]) (by simp [results, Try.results78, go_sem, rz.cell, dpA]) rfl
                (.inr ⟨HFO.out, HGO.out, a, b, A1, n1, c1, (some ⟨ad2, of2, none⟩), n2, c2, l, HNF.out, HNG.out, HAO.out, HBO.out, by rw [HNG.out.at]; exact H0.out, by rw [← HC.out]; omega, HLO.out, rfl, FA.out.ints, FB.out.ints, fun b' off s e => by have := (FA.out.ap b' off s e).1; omega, fun b' off s e => by have := (FB.out.ap b' off s e).1; omega, bw⟩)
      · have d0 : (z != 0) = true := by simpa using hz0
        have F := Lib.hid (show DcBad ⟨xs, p, i⟩ ⟨ys, q, j⟩ 6 from .inr (.inl ⟨HFO.out, HGO.out, by rw [← HZ0.out]; exact hz0, rfl⟩))
        clear hz0
        go_wp2_with (refine wpList_storeN rfl 101 _ _ rfl rfl RB.out rfl rfl (by kernel_rfl) (by simp [Value.oneCell']) ?_; intro wz hsto rz)
        exact bodyPost_ret (v := .tuple #[.agg zero8, .int .i64 6]) (by simp [results, Try.results78, go_sem, rz.cell, zero8]) rfl (.inl ⟨_, F.out, rfl, bsto BW.out hsto (by omega)⟩)
    · have F := Lib.hid (show DcBad ⟨xs, p, i⟩ ⟨ys, q, j⟩ 1 from .inl ⟨fun h => hno h.2, rfl⟩)
      have RB := Lib.hid (RB.out.alloc (.cells #[.slice A2 n2 c2, .int .i64 Cv.none.per, .int .i64 Cv.none.inc] 31))
      have BW := Lib.hid (bthen BW.out (balloc _ (.cells #[.slice A2 n2 c2, .int .i64 Cv.none.per, .int .i64 Cv.none.inc] 31)))
      clear hno HN
      go_wp2_with (refine wpList_storeN rfl 101 _ _ rfl rfl RB.out rfl rfl (by kernel_rfl) (by simp [Value.oneCell']) ?_; intro wz hsto rz)
      exact bodyPost_ret (v := .tuple #[.agg zero8, .int .i64 1]) (by simp [results, Try.results78, go_sem, rz.cell, zero8]) rfl (.inl ⟨_, F.out, rfl, bsto BW.out hsto (by omega)⟩)
  · have F := Lib.hid (show DcBad ⟨xs, p, i⟩ ⟨ys, q, j⟩ 1 from .inl ⟨fun h => hno h.1, rfl⟩)
    have RB := Lib.hid (RB.out.alloc (.cells #[.slice A1 n1 c1, .int .i64 Cv.none.per, .int .i64 Cv.none.inc] 31))
    have BW := Lib.hid (bthen P.out.bw (balloc _ (.cells #[.slice A1 n1 c1, .int .i64 Cv.none.per, .int .i64 Cv.none.inc] 31)))
    clear hno HN
    go_wp2_with (refine wpList_storeN rfl 101 _ _ rfl rfl RB.out rfl rfl (by kernel_rfl) (by simp [Value.oneCell']) ?_; intro wz hsto rz)
    exact bodyPost_ret (v := .tuple #[.agg zero8, .int .i64 1]) (by simp [results, Try.results78, go_sem, rz.cell, zero8]) rfl (.inl ⟨_, F.out, rfl, bsto BW.out hsto (by omega)⟩)
end Go.Proofs.Ytbkimphcmmmaiaa
