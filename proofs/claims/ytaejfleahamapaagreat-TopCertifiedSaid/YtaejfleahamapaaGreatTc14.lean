/- remainder.both: the gap of two curves in normal form. -/
import Derived.Test.YtaejfleahamapaaGreatTc12
import Derived.Test.YtaejfleahamapaaGreatTc11
import Derived.Test.YtaejfleahamapaaGreatTc2
namespace Go.Proofs.YtaejfleahamapaaGreat
open Go.RowKit
set_option linter.unusedVariables false

def zero9 : Array Value := #[.slice none 0 0, .int .i64 0, .int .i64 0, .slice none 0 0, .int .i64 0, .int .i64 0, .int .i64 0, .int .i64 0, .int .i64 0]
def gpA (A : Option Addr) (n c : Nat) (a : Cv) (B : Option Addr) (m d : Nat) (b : Cv) (from_ common drift : Int) : Array Value := #[.slice A n c, .int .i64 a.per, .int .i64 a.inc, .slice B m d, .int .i64 b.per, .int .i64 b.inc, .int .i64 from_, .int .i64 common, .int .i64 drift]
def GapBad (f g : Cv) (er : Int) : Prop := (¬ (f.Ok ∧ g.Ok) ∧ er = 1) ∨ (f.Ok ∧ g.Ok ∧ er = 3 ∧ ∃ a b, NF f.at a ∧ NF g.at b ∧ a.Ok ∧ b.Ok ∧ 120 < comm a.per.toNat b.per.toNat)
def RetGap (f g : Cv) (w : World) (e : Ending) (w' : World) : Prop :=
  (∃ er, GapBad f g er ∧ e = .returned (.tuple #[.agg zero9, .int .i64 er]) ∧ Below w.heap.size w w') ∨
  (f.Ok ∧ g.Ok ∧ ∃ (a b : Cv) (A : Option Addr) (n c : Nat) (B : Option Addr) (m d : Nat), NF f.at a ∧ NF g.at b ∧ a.Ok ∧ b.Ok ∧ comm a.per.toNat b.per.toNat ≤ 120 ∧
    e = .returned (.tuple #[.agg (gpA A n c a B m d b (ordF a b : Nat) (ordC a b : Nat) (ordD a b)), .int .i64 0]) ∧ Ints w' w'.heap.size A n a.vals ∧ Ints w' w'.heap.size B m b.vals ∧ (∀ b off s, A = some ⟨b, off, s⟩ → w.heap.size ≤ b) ∧ (∀ b off s, B = some ⟨b, off, s⟩ → w.heap.size ≤ b) ∧ Below w.heap.size w w')
theorem comm_le2 {p q : Nat} (hp : p ≤ 120) (hq : q ≤ 120) : comm p q ≤ 14400 := by
  unfold comm
  exact Nat.le_trans (Nat.mul_le_mul (Nat.le_trans (Nat.div_le_self _ _) hp) hq) (by omega)
theorem comm_pos {p q : Nat} (hp : 1 ≤ p) (hq : 1 ≤ q) : 1 ≤ comm p q := by
  unfold comm
  have h1 : 1 ≤ p / Nat.gcd p q := Nat.div_pos (Nat.le_of_dvd hp (Nat.gcd_dvd_left p q)) (Nat.gcd_pos_of_pos_left _ hp)
  exact Nat.mul_pos h1 hq

set_option maxHeartbeats 4000000 in
set_option maxRecDepth 100000 in
theorem rmboth_any (A B : Option Addr) (n m c d : Nat) (p i q j : Int) (xs ys : List Int) (w : World) (hA : Ints w w.heap.size A n xs) (hB : Ints w w.heap.size B m ys) (hn : (n : Int) ≤ 1000000) (hm : (m : Int) ≤ 1000000) :
    Calls Tryz.prog 186 #[.agg #[.slice A n c, .int .i64 p, .int .i64 i], .agg #[.slice B m d, .int .i64 q, .int .i64 j]] w (RetGap ⟨xs, p, i⟩ ⟨ys, q, j⟩ w) := by
  have P := Lib.hid ((PS.new (c := c) (p := p) (i := i) (d := d) (q := q) (j := j) hA hB).alloc (.cells zero9 234))
  have rb := Blk.new ((w.alloc (.cells #[.slice A n c, .int .i64 p, .int .i64 i] 26)).alloc (.cells #[.slice B m d, .int .i64 q, .int .i64 j] 26)) 234 zero9
  rw [World.size_alloc, World.size_alloc] at rb
  have RB := Lib.hid rb
  clear hA hB rb
  unfold zero9 at P RB
  go_enter Tryz.func186, Tryz.ntmps186
  go_wp2_with fail
  refine (normal_any A n c p i xs _ P.out.ia hn).mono ?_
  rintro e w1 ⟨a, er, hN, A1, n1, c1, rfl, hI1, hA1, hb1⟩
  simp only [World.size_alloc] at hA1
  have HN := Lib.hid (NormR.of hN)
  have P := Lib.hid (P.out.below hb1)
  have RB := Lib.hid (RB.out.below hb1 RB.out.lt)
  have HI1 := Lib.hid hI1
  have hs1 := RB.out.lt
  clear hN hI1 hb1
  rcases HN.out with ⟨hfo, hnf, hao, rfl⟩ | ⟨hno, rfl, rfl⟩
  · have ha1 := hao.n1; have ha2 := hao.n2; have hap := hao.p1; have hap2 := hao.p2; have hai := hao.i1; have hai2 := hao.i2; have hapn := hao.pn
    have hl1 : a.vals.length = n1 := HI1.out.1
    rw [hl1] at ha1 ha2 hapn
    have FA := Lib.hid (Bx.new (c := c1) (f := a) HI1.out hA1 (Nat.le_refl _) (by omega) (by omega))
    have P := Lib.hid (P.out.alloc (.cells #[.slice A1 n1 c1, .int .i64 a.per, .int .i64 a.inc] 26))
    have RB := Lib.hid (RB.out.alloc (.cells #[.slice A1 n1 c1, .int .i64 a.per, .int .i64 a.inc] 26))
    have HNF := Lib.hid hnf; have HFO := Lib.hid hfo; have HAO := Lib.hid hao; have HL1 := Lib.hid hl1
    clear hnf hfo hao HI1 hA1 HN hl1
    obtain ⟨f0, f1, f2, g0, g1, g2, hlf, hlg⟩ := P.out.cells
    go_wp2_with fail
    refine (normal_any B m d q j ys _ P.out.ib hm).mono ?_
    rintro e w2 ⟨b, er, hN, A2, n2, c2, rfl, hI2, hA2, hb2⟩
    simp only [World.size_alloc] at hA2
    have HN := Lib.hid (NormR.of hN)
    have RB := Lib.hid (RB.out.below hb2 RB.out.lt)
    have FA := Lib.hid (FA.out.below hb2)
    have BW := Lib.hid (bthen P.out.bw hb2)
    have HI2 := Lib.hid hI2
    have hs2 := RB.out.lt
    have hs3 := FA.out.lt
    clear hN hI2 hb2 P f0 f1 f2 g0 g1 g2 hlf hlg
    rcases HN.out with ⟨hgo, hnf, hbo, rfl⟩ | ⟨hno, rfl, rfl⟩
    · have hb1 := hbo.n1; have hb2 := hbo.n2; have hbp := hbo.p1; have hbp2 := hbo.p2; have hbi := hbo.i1; have hbi2 := hbo.i2; have hbpn := hbo.pn
      have hl2 : b.vals.length = n2 := HI2.out.1
      rw [hl2] at hb1 hb2 hbpn
      have FB := Lib.hid (Bx.new (L := w.heap.size + 1 + 1 + 1) (c := c2) (f := b) HI2.out hA2 (by omega) (by omega) (by omega))
      have FA := Lib.hid (FA.out.alloc (.cells #[.slice A2 n2 c2, .int .i64 b.per, .int .i64 b.inc] 26))
      have RB := Lib.hid (RB.out.alloc (.cells #[.slice A2 n2 c2, .int .i64 b.per, .int .i64 b.inc] 26))
      have BW := Lib.hid (bthen BW.out (balloc _ (.cells #[.slice A2 n2 c2, .int .i64 b.per, .int .i64 b.inc] 26)))
      have HNG := Lib.hid hnf; have HGO := Lib.hid hgo; have HBO := Lib.hid hbo; have HL2 := Lib.hid hl2
      clear hnf hgo hbo HI2 hA2 HN hl2
      obtain ⟨C, hC⟩ : ∃ C, C = comm a.per.toNat b.per.toNat := ⟨_, rfl⟩
      obtain ⟨S, hS⟩ : ∃ S, S = ordF a b := ⟨_, rfl⟩
      have hmx : (if (n1 : Int) - a.per < (n2 : Int) - b.per then (n2 : Int) - b.per else (n1 : Int) - a.per) = (S : Int) := by
        rw [hS]; unfold ordF; rw [HL1.out, HL2.out]; split <;> omega
      have hSb : (S : Int) ≤ 400 := by rw [hS]; unfold ordF; rw [HL1.out, HL2.out]; omega
      have hCb : C ≤ 14400 := by
        rw [hC]
        exact comm_le2 (by omega) (by omega)
      have hC1 : 1 ≤ C := by rw [hC]; exact comm_pos (by omega) (by omega)
      have HS := Lib.hid hS; have HC := Lib.hid hC
      clear hS hC
      go_upto_region 7 with fail
      generalize hwe : w2.alloc (.cells #[.slice A2 n2 c2, .int .i64 b.per, .int .i64 b.inc] 26) = w3 at *
      clear hwe
      go_cut [9] (fun s9 wx => ∃ P : Nat, s9 = .pointer (some ⟨P, 0, none⟩) ∧ w2.heap.size < P ∧ Blk wx P 234 #[.slice A1 n1 c1, .int .i64 a.per, .int .i64 a.inc, .slice A2 n2 c2, .int .i64 b.per, .int .i64 b.inc, .int .i64 S, .int .i64 C, .int .i64 0] ∧
        Bx (w.heap.size + 1 + 1 + 1) wx w1.heap.size A1 n1 c1 a ∧ Bx (w.heap.size + 1 + 1 + 1) wx w2.heap.size A2 n2 c2 b ∧ Blk wx (w.heap.size + 1 + 1) 234 #[.slice none 0 0, .int .i64 0, .int .i64 0, .slice none 0 0, .int .i64 0, .int .i64 0, .int .i64 0, .int .i64 0, .int .i64 0] ∧ Below w.heap.size w wx)
      case first =>
        have FA := Lib.hid FA.out.drew; have FB := Lib.hid FB.out.drew; have RB := Lib.hid (Blk.drew RB.out); have BW := Lib.hid (Below.drew BW.out)
        obtain ⟨a0, a1, a2, hla⟩ := FA.out.cells
        obtain ⟨b0, b1, b2, hlb⟩ := FB.out.cells
        refine wp_region_held_drew (S := fun w' => w'.cell? ⟨w1.heap.size, 0, none⟩ = some (.slice A1 n1 c1) ∧ w'.cell? ⟨w1.heap.size, 1, none⟩ = some (.int .i64 a.per) ∧ w'.cell? ⟨w1.heap.size, 2, none⟩ = some (.int .i64 a.inc) ∧ w'.cell? ⟨w2.heap.size, 0, none⟩ = some (.slice A2 n2 c2) ∧ w'.cell? ⟨w2.heap.size, 1, none⟩ = some (.int .i64 b.per) ∧ w'.cell? ⟨w2.heap.size, 2, none⟩ = some (.int .i64 b.inc)) (by kernel_rfl) ⟨a0, a1, a2, b0, b1, b2⟩ (fun hHeld => ?_)
        generalize hwd : w3.drew = wd at *
        clear hwd
        refine tkS (i := 0) (v := ?_) ?_ ?_
        rotate_left 1
        · (intro w hSw; (try dsimp only at hSw); go_simp; try with_reducible rfl)
        all_goals ((try simp only [Act.put]); try simp only [g8b, g8c, g8d])
        refine tkS (i := 1) (v := ?_) ?_ ?_
        rotate_left 1
        · (intro w hSw; (try dsimp only at hSw); go_simp; try with_reducible rfl)
        all_goals ((try simp only [Act.put]); try simp only [g8b, g8c, g8d])
        refine tkS (i := 2) (v := ?_) ?_ ?_
        rotate_left 1
        · (intro w hSw; (try dsimp only at hSw); go_simp; try with_reducible rfl)
        all_goals ((try simp only [Act.put]); try simp only [g8b, g8c, g8d])
        refine tkS (i := 4) (v := ?_) ?_ ?_
        rotate_left 1
        · (intro w hSw; (try dsimp only at hSw); go_simp; try with_reducible rfl)
        all_goals ((try simp only [Act.put]); try simp only [g8b, g8c, g8d])
        refine tkS (i := 7) (v := ?_) ?_ ?_
        rotate_left 1
        · (intro w hSw; (try dsimp only at hSw); go_simp; try with_reducible rfl)
        all_goals ((try simp only [Act.put]); try simp only [g8b, g8c, g8d])
        refine tkS (i := 8) (v := ?_) ?_ ?_
        rotate_left 1
        · (intro w hSw; (try dsimp only at hSw); go_simp; try with_reducible rfl)
        all_goals ((try simp only [Act.put]); try simp only [g8b, g8c, g8d])
        refine tkS (i := 9) (v := ?_) ?_ ?_
        rotate_left 1
        · (intro w hSw; (try dsimp only at hSw); go_simp; try with_reducible rfl)
        all_goals ((try simp only [Act.put]); try simp only [g8b, g8c, g8d])
        refine tkS (i := 10) (v := ?_) ?_ ?_
        rotate_left 1
        · (intro w hSw; (try dsimp only at hSw); go_simp; try with_reducible rfl)
        all_goals ((try simp only [Act.put]); try simp only [g8b, g8c, g8d])
        refine wpAnyH_ready (rs := [3, 13]) (by kernel_rfl) (by simp) ?_
        refine (AllReadyH.cons (by simp only [g8a, g8s, g8z]; rfl) (fun K hK => ?_) (AllReadyH.cons (by simp only [g8a, g8s, g8z]; rfl) (fun K hK => ?_) AllReadyH.nil))
        · rw [if_pos (by rfl)]
          go_simp
          refine (start_any A1 n1 c1 a.per a.inc _ (by omega) (by omega) (by omega)).mono ?_
          rintro e wa ⟨rfl, hbq⟩
          have FA := Lib.hid (FA.out.below hbq); have FB := Lib.hid (FB.out.below hbq); have RB := Lib.hid (RB.out.below hbq RB.out.lt); have BW := Lib.hid (bthen BW.out hbq)
          try (have ZB := Lib.hid (ZB.out.below hbq ZB.out.lt))
          clear hbq hHeld
          clear a0 a1 a2 hla b0 b1 b2 hlb
          obtain ⟨a0, a1, a2, hla⟩ := FA.out.cells
          obtain ⟨b0, b1, b2, hlb⟩ := FB.out.cells
          refine hK.out _ _ (by exact ⟨a0, a1, a2, b0, b1, b2⟩) (fun hHeld => ?_)
          clear hK K
          (try simp only [Act.put]); try simp only [g8b, g8c, g8d]
          refine wpAnyH_ready (rs := [5, 13]) (by kernel_rfl) (by simp) ?_
          refine (AllReadyH.cons (by simp only [g8a, g8s, g8z]; rfl) (fun K hK => ?_) (AllReadyH.cons (by simp only [g8a, g8s, g8z]; rfl) (fun K hK => ?_) AllReadyH.nil))
          · rw [if_pos (by rfl)]
            go_simp
            refine (start_any A2 n2 c2 b.per b.inc _ (by omega) (by omega) (by omega)).mono ?_
            rintro e wb ⟨rfl, hbq⟩
            have FA := Lib.hid (FA.out.below hbq); have FB := Lib.hid (FB.out.below hbq); have RB := Lib.hid (RB.out.below hbq RB.out.lt); have BW := Lib.hid (bthen BW.out hbq)
            try (have ZB := Lib.hid (ZB.out.below hbq ZB.out.lt))
            clear hbq hHeld
            clear a0 a1 a2 hla b0 b1 b2 hlb
            obtain ⟨a0, a1, a2, hla⟩ := FA.out.cells
            obtain ⟨b0, b1, b2, hlb⟩ := FB.out.cells
            refine hK.out _ _ (by exact ⟨a0, a1, a2, b0, b1, b2⟩) (fun hHeld => ?_)
            clear hK K
            (try simp only [Act.put]); try simp only [g8b, g8c, g8d]
            refine tkS (i := 6) (v := ?_) ?_ ?_
            rotate_left 1
            · (intro w hSw; (try dsimp only at hSw); go_simp; try with_reducible rfl)
            all_goals ((try simp only [Act.put]); try simp only [g8b, g8c, g8d])
            refine wpAnyH_ready (rs := [11, 13]) (by kernel_rfl) (by simp) ?_
            refine (AllReadyH.cons (by simp only [g8a, g8s, g8z]; rfl) (fun K hK => ?_) (AllReadyH.cons (by simp only [g8a, g8s, g8z]; rfl) (fun K hK => ?_) AllReadyH.nil))
            · rw [if_pos (by rfl)]
              go_simp
              refine (common2_any a.per b.per _ (by omega) (by omega) (by omega) (by omega)).mono ?_
              rintro e wc ⟨rfl, hbq⟩
              rw [← HC.out]
              have FA := Lib.hid (FA.out.below hbq); have FB := Lib.hid (FB.out.below hbq); have RB := Lib.hid (RB.out.below hbq RB.out.lt); have BW := Lib.hid (bthen BW.out hbq)
              try (have ZB := Lib.hid (ZB.out.below hbq ZB.out.lt))
              clear hbq hHeld
              clear a0 a1 a2 hla b0 b1 b2 hlb
              obtain ⟨a0, a1, a2, hla⟩ := FA.out.cells
              obtain ⟨b0, b1, b2, hlb⟩ := FB.out.cells
              refine hK.out _ _ (by exact ⟨a0, a1, a2, b0, b1, b2⟩) (fun hHeld => ?_)
              clear hK K
              (try simp only [Act.put]); try simp only [g8b, g8c, g8d]
              refine tkS (i := 12) (v := ?_) ?_ ?_
              rotate_left 1
              · (intro w hSw; (try dsimp only at hSw); go_simp; try with_reducible rfl)
              all_goals ((try simp only [Act.put]); try simp only [g8b, g8c, g8d])
              refine wpAnyH_ready (rs := [13]) (by kernel_rfl) (by simp) ?_
              refine (AllReadyH.cons (by simp only [g8a, g8s, g8z]; rfl) (fun K hK => ?_) AllReadyH.nil)
              rw [if_pos (by rfl)]
              go_simp
              have hbq := balloc wc (.cells #[.slice none 0 0, .int .i64 0, .int .i64 0, .slice none 0 0, .int .i64 0, .int .i64 0, .int .i64 0, .int .i64 0, .int .i64 0] 234)
              have zb := Blk.new wc 234 #[.slice none 0 0, .int .i64 0, .int .i64 0, .slice none 0 0, .int .i64 0, .int .i64 0, .int .i64 0, .int .i64 0, .int .i64 0]
              have hP := FB.out.lt
              have ZB := Lib.hid zb
              clear zb
              generalize hwa : wc.alloc (.cells #[.slice none 0 0, .int .i64 0, .int .i64 0, .slice none 0 0, .int .i64 0, .int .i64 0, .int .i64 0, .int .i64 0, .int .i64 0] 234) = wz at *
              clear hwa
              have FA := Lib.hid (FA.out.below hbq); have FB := Lib.hid (FB.out.below hbq); have RB := Lib.hid (RB.out.below hbq RB.out.lt); have BW := Lib.hid (bthen BW.out hbq)
              clear hbq hHeld
              clear a0 a1 a2 hla b0 b1 b2 hlb
              obtain ⟨a0, a1, a2, hla⟩ := FA.out.cells
              obtain ⟨b0, b1, b2, hlb⟩ := FB.out.cells
              refine hK.out _ _ (by exact ⟨a0, a1, a2, b0, b1, b2⟩) (fun hHeld => ?_)
              clear hK K
              (try simp only [Act.put]); try simp only [g8b, g8c, g8d]
              refine wpAnyH_ready (rs := [14]) (by kernel_rfl) (by simp) ?_
              refine (AllReadyH.cons (by simp only [g8a, g8s, g8z]; rfl) (fun K hK => ?_) AllReadyH.nil)
              refine step_storeN rfl 234 _ _ rfl rfl ZB.out rfl rfl (by kernel_rfl) (by simp [Value.oneCell']) ?_
              intro wz hsto rz
              have FA := Lib.hid (FA.out.sto hsto (.inl (by omega))); have FB := Lib.hid (FB.out.sto hsto (.inl (by omega))); have RB := Lib.hid (RB.out.sto hsto (by omega)); have BW := Lib.hid (bsto BW.out hsto (by omega))
              clear a0 a1 a2 hla b0 b1 b2 hlb
              obtain ⟨a0, a1, a2, hla⟩ := FA.out.cells
              obtain ⟨b0, b1, b2, hlb⟩ := FB.out.cells
              refine hK.out _ _ (by exact ⟨a0, a1, a2, b0, b1, b2⟩) (fun hHeld => ?_)
              clear hK K
              (try simp only [Act.put]); try simp only [g8b, g8c, g8d]
              refine wpAnyH_done (by kernel_rfl) ?_ _
              go_wp2_with fail
              go_meet
              exact ⟨_, rfl, hP, rz, FA.out, FB.out, RB.out, BW.out⟩
            · rw [if_pos (by rfl)]
              go_simp
              have hbq := balloc wb (.cells #[.slice none 0 0, .int .i64 0, .int .i64 0, .slice none 0 0, .int .i64 0, .int .i64 0, .int .i64 0, .int .i64 0, .int .i64 0] 234)
              have zb := Blk.new wb 234 #[.slice none 0 0, .int .i64 0, .int .i64 0, .slice none 0 0, .int .i64 0, .int .i64 0, .int .i64 0, .int .i64 0, .int .i64 0]
              have hP := FB.out.lt
              have ZB := Lib.hid zb
              clear zb
              generalize hwa : wb.alloc (.cells #[.slice none 0 0, .int .i64 0, .int .i64 0, .slice none 0 0, .int .i64 0, .int .i64 0, .int .i64 0, .int .i64 0, .int .i64 0] 234) = wz at *
              clear hwa
              have FA := Lib.hid (FA.out.below hbq); have FB := Lib.hid (FB.out.below hbq); have RB := Lib.hid (RB.out.below hbq RB.out.lt); have BW := Lib.hid (bthen BW.out hbq)
              clear hbq hHeld
              clear a0 a1 a2 hla b0 b1 b2 hlb
              obtain ⟨a0, a1, a2, hla⟩ := FA.out.cells
              obtain ⟨b0, b1, b2, hlb⟩ := FB.out.cells
              refine hK.out _ _ (by exact ⟨a0, a1, a2, b0, b1, b2⟩) (fun hHeld => ?_)
              clear hK K
              (try simp only [Act.put]); try simp only [g8b, g8c, g8d]
              refine wpAnyH_ready (rs := [11]) (by kernel_rfl) (by simp) ?_
              refine (AllReadyH.cons (by simp only [g8a, g8s, g8z]; rfl) (fun K hK => ?_) AllReadyH.nil)
              rw [if_pos (by rfl)]
              go_simp
              refine (common2_any a.per b.per _ (by omega) (by omega) (by omega) (by omega)).mono ?_
              rintro e wc ⟨rfl, hbq⟩
              rw [← HC.out]
              have FA := Lib.hid (FA.out.below hbq); have FB := Lib.hid (FB.out.below hbq); have RB := Lib.hid (RB.out.below hbq RB.out.lt); have BW := Lib.hid (bthen BW.out hbq)
              try (have ZB := Lib.hid (ZB.out.below hbq ZB.out.lt))
              clear hbq hHeld
              clear a0 a1 a2 hla b0 b1 b2 hlb
              obtain ⟨a0, a1, a2, hla⟩ := FA.out.cells
              obtain ⟨b0, b1, b2, hlb⟩ := FB.out.cells
              refine hK.out _ _ (by exact ⟨a0, a1, a2, b0, b1, b2⟩) (fun hHeld => ?_)
              clear hK K
              (try simp only [Act.put]); try simp only [g8b, g8c, g8d]
              refine tkS (i := 12) (v := ?_) ?_ ?_
              rotate_left 1
              · (intro w hSw; (try dsimp only at hSw); go_simp; try with_reducible rfl)
              all_goals ((try simp only [Act.put]); try simp only [g8b, g8c, g8d])
              refine wpAnyH_ready (rs := [14]) (by kernel_rfl) (by simp) ?_
              refine (AllReadyH.cons (by simp only [g8a, g8s, g8z]; rfl) (fun K hK => ?_) AllReadyH.nil)
              refine step_storeN rfl 234 _ _ rfl rfl ZB.out rfl rfl (by kernel_rfl) (by simp [Value.oneCell']) ?_
              intro wz hsto rz
              have FA := Lib.hid (FA.out.sto hsto (.inl (by omega))); have FB := Lib.hid (FB.out.sto hsto (.inl (by omega))); have RB := Lib.hid (RB.out.sto hsto (by omega)); have BW := Lib.hid (bsto BW.out hsto (by omega))
              clear a0 a1 a2 hla b0 b1 b2 hlb
              obtain ⟨a0, a1, a2, hla⟩ := FA.out.cells
              obtain ⟨b0, b1, b2, hlb⟩ := FB.out.cells
              refine hK.out _ _ (by exact ⟨a0, a1, a2, b0, b1, b2⟩) (fun hHeld => ?_)
              clear hK K
              (try simp only [Act.put]); try simp only [g8b, g8c, g8d]
              refine wpAnyH_done (by kernel_rfl) ?_ _
              go_wp2_with fail
              go_meet
              exact ⟨_, rfl, hP, rz, FA.out, FB.out, RB.out, BW.out⟩
          · rw [if_pos (by rfl)]
            go_simp
            have hbq := balloc wa (.cells #[.slice none 0 0, .int .i64 0, .int .i64 0, .slice none 0 0, .int .i64 0, .int .i64 0, .int .i64 0, .int .i64 0, .int .i64 0] 234)
            have zb := Blk.new wa 234 #[.slice none 0 0, .int .i64 0, .int .i64 0, .slice none 0 0, .int .i64 0, .int .i64 0, .int .i64 0, .int .i64 0, .int .i64 0]
            have hP := FB.out.lt
            have ZB := Lib.hid zb
            clear zb
            generalize hwa : wa.alloc (.cells #[.slice none 0 0, .int .i64 0, .int .i64 0, .slice none 0 0, .int .i64 0, .int .i64 0, .int .i64 0, .int .i64 0, .int .i64 0] 234) = wb at *
            clear hwa
            have FA := Lib.hid (FA.out.below hbq); have FB := Lib.hid (FB.out.below hbq); have RB := Lib.hid (RB.out.below hbq RB.out.lt); have BW := Lib.hid (bthen BW.out hbq)
            clear hbq hHeld
            clear a0 a1 a2 hla b0 b1 b2 hlb
            obtain ⟨a0, a1, a2, hla⟩ := FA.out.cells
            obtain ⟨b0, b1, b2, hlb⟩ := FB.out.cells
            refine hK.out _ _ (by exact ⟨a0, a1, a2, b0, b1, b2⟩) (fun hHeld => ?_)
            clear hK K
            (try simp only [Act.put]); try simp only [g8b, g8c, g8d]
            refine wpAnyH_ready (rs := [5]) (by kernel_rfl) (by simp) ?_
            refine (AllReadyH.cons (by simp only [g8a, g8s, g8z]; rfl) (fun K hK => ?_) AllReadyH.nil)
            rw [if_pos (by rfl)]
            go_simp
            refine (start_any A2 n2 c2 b.per b.inc _ (by omega) (by omega) (by omega)).mono ?_
            rintro e wc ⟨rfl, hbq⟩
            have FA := Lib.hid (FA.out.below hbq); have FB := Lib.hid (FB.out.below hbq); have RB := Lib.hid (RB.out.below hbq RB.out.lt); have BW := Lib.hid (bthen BW.out hbq)
            try (have ZB := Lib.hid (ZB.out.below hbq ZB.out.lt))
            clear hbq hHeld
            clear a0 a1 a2 hla b0 b1 b2 hlb
            obtain ⟨a0, a1, a2, hla⟩ := FA.out.cells
            obtain ⟨b0, b1, b2, hlb⟩ := FB.out.cells
            refine hK.out _ _ (by exact ⟨a0, a1, a2, b0, b1, b2⟩) (fun hHeld => ?_)
            clear hK K
            (try simp only [Act.put]); try simp only [g8b, g8c, g8d]
            refine tkS (i := 6) (v := ?_) ?_ ?_
            rotate_left 1
            · (intro w hSw; (try dsimp only at hSw); go_simp; try with_reducible rfl)
            all_goals ((try simp only [Act.put]); try simp only [g8b, g8c, g8d])
            refine wpAnyH_ready (rs := [11]) (by kernel_rfl) (by simp) ?_
            refine (AllReadyH.cons (by simp only [g8a, g8s, g8z]; rfl) (fun K hK => ?_) AllReadyH.nil)
            rw [if_pos (by rfl)]
            go_simp
            refine (common2_any a.per b.per _ (by omega) (by omega) (by omega) (by omega)).mono ?_
            rintro e wz ⟨rfl, hbq⟩
            rw [← HC.out]
            have FA := Lib.hid (FA.out.below hbq); have FB := Lib.hid (FB.out.below hbq); have RB := Lib.hid (RB.out.below hbq RB.out.lt); have BW := Lib.hid (bthen BW.out hbq)
            try (have ZB := Lib.hid (ZB.out.below hbq ZB.out.lt))
            clear hbq hHeld
            clear a0 a1 a2 hla b0 b1 b2 hlb
            obtain ⟨a0, a1, a2, hla⟩ := FA.out.cells
            obtain ⟨b0, b1, b2, hlb⟩ := FB.out.cells
            refine hK.out _ _ (by exact ⟨a0, a1, a2, b0, b1, b2⟩) (fun hHeld => ?_)
            clear hK K
            (try simp only [Act.put]); try simp only [g8b, g8c, g8d]
            refine tkS (i := 12) (v := ?_) ?_ ?_
            rotate_left 1
            · (intro w hSw; (try dsimp only at hSw); go_simp; try with_reducible rfl)
            all_goals ((try simp only [Act.put]); try simp only [g8b, g8c, g8d])
            refine wpAnyH_ready (rs := [14]) (by kernel_rfl) (by simp) ?_
            refine (AllReadyH.cons (by simp only [g8a, g8s, g8z]; rfl) (fun K hK => ?_) AllReadyH.nil)
            refine step_storeN rfl 234 _ _ rfl rfl ZB.out rfl rfl (by kernel_rfl) (by simp [Value.oneCell']) ?_
            intro wz hsto rz
            have FA := Lib.hid (FA.out.sto hsto (.inl (by omega))); have FB := Lib.hid (FB.out.sto hsto (.inl (by omega))); have RB := Lib.hid (RB.out.sto hsto (by omega)); have BW := Lib.hid (bsto BW.out hsto (by omega))
            clear a0 a1 a2 hla b0 b1 b2 hlb
            obtain ⟨a0, a1, a2, hla⟩ := FA.out.cells
            obtain ⟨b0, b1, b2, hlb⟩ := FB.out.cells
            refine hK.out _ _ (by exact ⟨a0, a1, a2, b0, b1, b2⟩) (fun hHeld => ?_)
            clear hK K
            (try simp only [Act.put]); try simp only [g8b, g8c, g8d]
            refine wpAnyH_done (by kernel_rfl) ?_ _
            go_wp2_with fail
            go_meet
            exact ⟨_, rfl, hP, rz, FA.out, FB.out, RB.out, BW.out⟩
        · rw [if_pos (by rfl)]
          go_simp
          have hbq := balloc wd (.cells #[.slice none 0 0, .int .i64 0, .int .i64 0, .slice none 0 0, .int .i64 0, .int .i64 0, .int .i64 0, .int .i64 0, .int .i64 0] 234)
          have zb := Blk.new wd 234 #[.slice none 0 0, .int .i64 0, .int .i64 0, .slice none 0 0, .int .i64 0, .int .i64 0, .int .i64 0, .int .i64 0, .int .i64 0]
          have hP := FB.out.lt
          have ZB := Lib.hid zb
          clear zb
          generalize hwa : wd.alloc (.cells #[.slice none 0 0, .int .i64 0, .int .i64 0, .slice none 0 0, .int .i64 0, .int .i64 0, .int .i64 0, .int .i64 0, .int .i64 0] 234) = wa at *
          clear hwa
          have FA := Lib.hid (FA.out.below hbq); have FB := Lib.hid (FB.out.below hbq); have RB := Lib.hid (RB.out.below hbq RB.out.lt); have BW := Lib.hid (bthen BW.out hbq)
          clear hbq hHeld
          clear a0 a1 a2 hla b0 b1 b2 hlb
          obtain ⟨a0, a1, a2, hla⟩ := FA.out.cells
          obtain ⟨b0, b1, b2, hlb⟩ := FB.out.cells
          refine hK.out _ _ (by exact ⟨a0, a1, a2, b0, b1, b2⟩) (fun hHeld => ?_)
          clear hK K
          (try simp only [Act.put]); try simp only [g8b, g8c, g8d]
          refine wpAnyH_ready (rs := [3]) (by kernel_rfl) (by simp) ?_
          refine (AllReadyH.cons (by simp only [g8a, g8s, g8z]; rfl) (fun K hK => ?_) AllReadyH.nil)
          rw [if_pos (by rfl)]
          go_simp
          refine (start_any A1 n1 c1 a.per a.inc _ (by omega) (by omega) (by omega)).mono ?_
          rintro e wb ⟨rfl, hbq⟩
          have FA := Lib.hid (FA.out.below hbq); have FB := Lib.hid (FB.out.below hbq); have RB := Lib.hid (RB.out.below hbq RB.out.lt); have BW := Lib.hid (bthen BW.out hbq)
          try (have ZB := Lib.hid (ZB.out.below hbq ZB.out.lt))
          clear hbq hHeld
          clear a0 a1 a2 hla b0 b1 b2 hlb
          obtain ⟨a0, a1, a2, hla⟩ := FA.out.cells
          obtain ⟨b0, b1, b2, hlb⟩ := FB.out.cells
          refine hK.out _ _ (by exact ⟨a0, a1, a2, b0, b1, b2⟩) (fun hHeld => ?_)
          clear hK K
          (try simp only [Act.put]); try simp only [g8b, g8c, g8d]
          refine wpAnyH_ready (rs := [5]) (by kernel_rfl) (by simp) ?_
          refine (AllReadyH.cons (by simp only [g8a, g8s, g8z]; rfl) (fun K hK => ?_) AllReadyH.nil)
          rw [if_pos (by rfl)]
          go_simp
          refine (start_any A2 n2 c2 b.per b.inc _ (by omega) (by omega) (by omega)).mono ?_
          rintro e wc ⟨rfl, hbq⟩
          have FA := Lib.hid (FA.out.below hbq); have FB := Lib.hid (FB.out.below hbq); have RB := Lib.hid (RB.out.below hbq RB.out.lt); have BW := Lib.hid (bthen BW.out hbq)
          try (have ZB := Lib.hid (ZB.out.below hbq ZB.out.lt))
          clear hbq hHeld
          clear a0 a1 a2 hla b0 b1 b2 hlb
          obtain ⟨a0, a1, a2, hla⟩ := FA.out.cells
          obtain ⟨b0, b1, b2, hlb⟩ := FB.out.cells
          refine hK.out _ _ (by exact ⟨a0, a1, a2, b0, b1, b2⟩) (fun hHeld => ?_)
          clear hK K
          (try simp only [Act.put]); try simp only [g8b, g8c, g8d]
          refine tkS (i := 6) (v := ?_) ?_ ?_
          rotate_left 1
          · (intro w hSw; (try dsimp only at hSw); go_simp; try with_reducible rfl)
          all_goals ((try simp only [Act.put]); try simp only [g8b, g8c, g8d])
          refine wpAnyH_ready (rs := [11]) (by kernel_rfl) (by simp) ?_
          refine (AllReadyH.cons (by simp only [g8a, g8s, g8z]; rfl) (fun K hK => ?_) AllReadyH.nil)
          rw [if_pos (by rfl)]
          go_simp
          refine (common2_any a.per b.per _ (by omega) (by omega) (by omega) (by omega)).mono ?_
          rintro e wz ⟨rfl, hbq⟩
          rw [← HC.out]
          have FA := Lib.hid (FA.out.below hbq); have FB := Lib.hid (FB.out.below hbq); have RB := Lib.hid (RB.out.below hbq RB.out.lt); have BW := Lib.hid (bthen BW.out hbq)
          try (have ZB := Lib.hid (ZB.out.below hbq ZB.out.lt))
          clear hbq hHeld
          clear a0 a1 a2 hla b0 b1 b2 hlb
          obtain ⟨a0, a1, a2, hla⟩ := FA.out.cells
          obtain ⟨b0, b1, b2, hlb⟩ := FB.out.cells
          refine hK.out _ _ (by exact ⟨a0, a1, a2, b0, b1, b2⟩) (fun hHeld => ?_)
          clear hK K
          (try simp only [Act.put]); try simp only [g8b, g8c, g8d]
          refine tkS (i := 12) (v := ?_) ?_ ?_
          rotate_left 1
          · (intro w hSw; (try dsimp only at hSw); go_simp; try with_reducible rfl)
          all_goals ((try simp only [Act.put]); try simp only [g8b, g8c, g8d])
          refine wpAnyH_ready (rs := [14]) (by kernel_rfl) (by simp) ?_
          refine (AllReadyH.cons (by simp only [g8a, g8s, g8z]; rfl) (fun K hK => ?_) AllReadyH.nil)
          refine step_storeN rfl 234 _ _ rfl rfl ZB.out rfl rfl (by kernel_rfl) (by simp [Value.oneCell']) ?_
          intro wz hsto rz
          have FA := Lib.hid (FA.out.sto hsto (.inl (by omega))); have FB := Lib.hid (FB.out.sto hsto (.inl (by omega))); have RB := Lib.hid (RB.out.sto hsto (by omega)); have BW := Lib.hid (bsto BW.out hsto (by omega))
          clear a0 a1 a2 hla b0 b1 b2 hlb
          obtain ⟨a0, a1, a2, hla⟩ := FA.out.cells
          obtain ⟨b0, b1, b2, hlb⟩ := FB.out.cells
          refine hK.out _ _ (by exact ⟨a0, a1, a2, b0, b1, b2⟩) (fun hHeld => ?_)
          clear hK K
          (try simp only [Act.put]); try simp only [g8b, g8c, g8d]
          refine wpAnyH_done (by kernel_rfl) ?_ _
          go_wp2_with fail
          go_meet
          exact ⟨_, rfl, hP, rz, FA.out, FB.out, RB.out, BW.out⟩
      case rest =>
        as_aux_lemma =>
        clear FA FB RB BW
        obtain ⟨P, rfl, hP, pb, fa, fb, rb, bw⟩ := hcut
        have PB := Lib.hid pb; have FA := Lib.hid fa; have FB := Lib.hid fb; have RB := Lib.hid rb; have BW := Lib.hid bw
        clear pb fa fb rb bw hmx
        obtain ⟨p7, hlp⟩ : _ ∧ _ := ⟨PB.out.cell 7, PB.out.lt⟩
        simp at p7
        by_cases hcc : 120 < C
        · have F := Lib.hid (show GapBad ⟨xs, p, i⟩ ⟨ys, q, j⟩ 3 from .inr ⟨HFO.out, HGO.out, rfl, a, b, HNF.out, HNG.out, HAO.out, HBO.out, by rw [← HC.out]; exact hcc⟩)
          have hci : (120 : Int) < (C : Int) := by omega
          clear hcc
          go_wp2_with (refine wpList_storeN rfl 234 _ _ rfl rfl RB.out rfl rfl (by kernel_rfl) (by simp [Value.oneCell']) ?_; intro wz hsto rz)
          exact bodyPost_ret (v := .tuple #[.agg zero9, .int .i64 3]) (by simp [results, Tryz.results186, go_sem, rz.cell, zero9]) rfl (.inl ⟨_, F.out, rfl, bsto BW.out hsto (by omega)⟩)
        · have hci : ¬ (120 : Int) < (C : Int) := by omega
          have hc120 : (C : Int) ≤ 120 := by omega
          obtain ⟨u, hu⟩ : ∃ u : Int, u = (C : Int) / a.per := ⟨_, rfl⟩
          obtain ⟨v, hv⟩ : ∃ v : Int, v = (C : Int) / b.per := ⟨_, rfl⟩
          have hu0 : 0 ≤ u := by rw [hu]; exact Int.ediv_nonneg (by omega) (by omega)
          have hu1 : u ≤ C := by rw [hu]; exact Int.ediv_le_self _ (by omega)
          have hv0 : 0 ≤ v := by rw [hv]; exact Int.ediv_nonneg (by omega) (by omega)
          have hv1 : v ≤ C := by rw [hv]; exact Int.ediv_le_self _ (by omega)
          have e1 : (C : Int).tdiv a.per = u := by rw [Int.tdiv_eq_ediv_of_nonneg (by omega)]; exact hu.symm
          have e2 : (C : Int).tdiv b.per = v := by rw [Int.tdiv_eq_ediv_of_nonneg (by omega)]; exact hv.symm
          have e1' : IntKind.i64.wrap u = u := IntWalk.i64_in _ (by omega)
          have e2' : IntKind.i64.wrap v = v := IntWalk.i64_in _ (by omega)
          obtain ⟨x, hx⟩ : ∃ x, x = u * a.inc := ⟨_, rfl⟩
          obtain ⟨y, hy⟩ : ∃ y, y = v * b.inc := ⟨_, rfl⟩
          have hx0 : 0 ≤ x := by rw [hx]; exact Int.mul_nonneg hu0 hai
          have hx1 : x ≤ 120 * 1073741824 := by rw [hx]; exact Int.mul_le_mul (by omega) hai2 hai (by omega)
          have hy0 : 0 ≤ y := by rw [hy]; exact Int.mul_nonneg hv0 hbi
          have hy1 : y ≤ 120 * 1073741824 := by rw [hy]; exact Int.mul_le_mul (by omega) hbi2 hbi (by omega)
          have e3 : IntKind.i64.wrap (u * a.inc) = x := by rw [← hx]; exact IntWalk.i64_in _ (by omega)
          have e4 : IntKind.i64.wrap (v * b.inc) = y := by rw [← hy]; exact IntWalk.i64_in _ (by omega)
          obtain ⟨D, hD⟩ : ∃ D, D = x - y := ⟨_, rfl⟩
          have e5 : IntKind.i64.wrap (x - y) = D := by rw [← hD]; exact IntWalk.i64_in _ (by omega)
          have HD := Lib.hid (show ordD a b = D from by
            unfold ordD
            have h1 : ((ordC a b / a.per.toNat : Nat) : Int) = u := by
              rw [hu, show ordC a b = C from HC.out.symm, Int.natCast_ediv, Int.toNat_of_nonneg (by omega)]
            have h2 : ((ordC a b / b.per.toNat : Nat) : Int) = v := by
              rw [hv, show ordC a b = C from HC.out.symm, Int.natCast_ediv, Int.toNat_of_nonneg (by omega)]
            rw [h1, h2, ← hx, ← hy, hD])
          have hpn : a.per ≠ 0 := by omega
          have hqn : b.per ≠ 0 := by omega
          clear hcc hu hv hx hy hD
          go_upto_region 10 with fail
          go_cut [] (fun wx => Blk wx P 234 #[.slice A1 n1 c1, .int .i64 a.per, .int .i64 a.inc, .slice A2 n2 c2, .int .i64 b.per, .int .i64 b.inc, .int .i64 S, .int .i64 C, .int .i64 D] ∧
            Bx (w.heap.size + 1 + 1 + 1) wx w1.heap.size A1 n1 c1 a ∧ Bx (w.heap.size + 1 + 1 + 1) wx w2.heap.size A2 n2 c2 b ∧ Blk wx (w.heap.size + 1 + 1) 234 #[.slice none 0 0, .int .i64 0, .int .i64 0, .slice none 0 0, .int .i64 0, .int .i64 0, .int .i64 0, .int .i64 0, .int .i64 0] ∧ Below w.heap.size w wx)
          case first =>
            have PB := Lib.hid (Blk.drew PB.out); have FA := Lib.hid FA.out.drew; have FB := Lib.hid FB.out.drew; have RB := Lib.hid (Blk.drew RB.out); have BW := Lib.hid (Below.drew BW.out)
            have y8 := PB.out.frozen 8; have p8 := PB.out.cell 8
            simp at p8
            obtain ⟨a0, a1, a2, hla⟩ := FA.out.cells
            obtain ⟨b0, b1, b2, hlb⟩ := FB.out.cells
            have hPr := RB.out.lt
            have hPs : w1.heap.size < P := by have := hs3; omega
            go_region
            all_goals
              go_wp2_with fail
              go_meet
              exact ⟨PB.out.set_ 8 (.int .i64 D), FA.out.set1 (g := P) (.inl (by omega)) 8 (.int .i64 D), FB.out.set1 (g := P) (.inl (by omega)) 8 (.int .i64 D), RB.out.far (p := ⟨P, 8, none⟩) (by simp; omega) (.int .i64 D), BW.out.setCell (p := ⟨P, 8, none⟩) (by simp; omega) (.int .i64 D)⟩
          case rest =>
            clear PB FA FB RB BW
            clear p7 hlp
            obtain ⟨pb, fa, fb, rb, bw⟩ := hcut
            have PB := Lib.hid pb; have FA := Lib.hid fa; have FB := Lib.hid fb; have RB := Lib.hid rb; have BW := Lib.hid bw
            clear pb fa fb rb bw
            go_upto_region 11 with fail
            refine wp_region_lit ?_
            refine wpList_load_row rfl 234 _ rfl P rfl 234 #[.slice A1 n1 c1, .int .i64 a.per, .int .i64 a.inc, .slice A2 n2 c2, .int .i64 b.per, .int .i64 b.inc, .int .i64 S, .int .i64 C, .int .i64 D] (0, 0) _ PB.out Tryz.underlying234 rfl (by kernel_rfl) ?_
            refine wpList_storeN rfl 234 _ _ rfl rfl RB.out rfl rfl (by kernel_rfl) (by simp [Value.oneCell']) ?_
            intro wz hsto rz
            have FA := Lib.hid (FA.out.sto hsto (.inr (by omega))); have FB := Lib.hid (FB.out.sto hsto (.inr (by omega)))
            have bw := bsto BW.out hsto (by omega)
            (try simp only [Act.put]); try simp only [g8b, g8c, g8d]
            go_wp2_with fail
            exact bodyPost_ret (v := .tuple #[.agg (gpA A1 n1 c1 a A2 n2 c2 b S C D), .int .i64 0]) (by simp [results, Tryz.results186, go_sem, rz.cell, gpA]) rfl
              (.inr ⟨HFO.out, HGO.out, a, b, A1, n1, c1, A2, n2, c2, HNF.out, HNG.out, HAO.out, HBO.out, by rw [← HC.out]; omega, by rw [HD.out, ← HS.out, show ordC a b = C from HC.out.symm], FA.out.ints, FB.out.ints, fun b' off s e => by have := (FA.out.ap b' off s e).1; omega, fun b' off s e => by have := (FB.out.ap b' off s e).1; omega, bw⟩)
    · have F := Lib.hid (show GapBad ⟨xs, p, i⟩ ⟨ys, q, j⟩ 1 from .inl ⟨fun h => hno h.2, rfl⟩)
      have RB := Lib.hid (RB.out.alloc (.cells #[.slice A2 n2 c2, .int .i64 Cv.none.per, .int .i64 Cv.none.inc] 26))
      have BW := Lib.hid (bthen BW.out (balloc _ (.cells #[.slice A2 n2 c2, .int .i64 Cv.none.per, .int .i64 Cv.none.inc] 26)))
      clear hno HN
      go_wp2_with (refine wpList_storeN rfl 234 _ _ rfl rfl RB.out rfl rfl (by kernel_rfl) (by simp [Value.oneCell']) ?_; intro wz hsto rz)
      exact bodyPost_ret (v := .tuple #[.agg zero9, .int .i64 1]) (by simp [results, Tryz.results186, go_sem, rz.cell, zero9]) rfl (.inl ⟨_, F.out, rfl, bsto BW.out hsto (by omega)⟩)
  · have F := Lib.hid (show GapBad ⟨xs, p, i⟩ ⟨ys, q, j⟩ 1 from .inl ⟨fun h => hno h.1, rfl⟩)
    have RB := Lib.hid (RB.out.alloc (.cells #[.slice A1 n1 c1, .int .i64 Cv.none.per, .int .i64 Cv.none.inc] 26))
    have BW := Lib.hid (bthen P.out.bw (balloc _ (.cells #[.slice A1 n1 c1, .int .i64 Cv.none.per, .int .i64 Cv.none.inc] 26)))
    clear hno HN
    go_wp2_with (refine wpList_storeN rfl 234 _ _ rfl rfl RB.out rfl rfl (by kernel_rfl) (by simp [Value.oneCell']) ?_; intro wz hsto rz)
    exact bodyPost_ret (v := .tuple #[.agg zero9, .int .i64 1]) (by simp [results, Tryz.results186, go_sem, rz.cell, zero9]) rfl (.inl ⟨_, F.out, rfl, bsto BW.out hsto (by omega)⟩)
end Go.Proofs.YtaejfleahamapaaGreat

