/- convolution.both: the pair of two curves in normal form. -/
import Derived.Test.YthdibkmjoiipgaaCvoLaw
import Derived.Test.YthdibkmjoiipgaaBy
import Derived.Test.YthdibkmjoiipgaaSto
import Derived.Test.YthdibkmjoiipgaaCurve2
import Derived.Test.YthdibkmjoiipgaaTab
import Derived.Deep.DeepCutAuto
import Derived.WalkMore
import Derived.Deep.QuietTactic
import Derived.BigQuiet
namespace Go.Proofs.Ythdibkmjoiipgaa
open Go.RowKit
set_option linter.unusedVariables false

def zero7 : Array Value := #[.slice none 0 0, .int .i64 0, .int .i64 0, .slice none 0 0, .int .i64 0, .int .i64 0, .int .i64 0]
/-- a pair of curves, as cells -/
def cpA (A : Option Addr) (n c : Nat) (f : Cv) (B : Option Addr) (m d : Nat) (g : Cv) (K : Int) : Array Value :=
  #[.slice A n c, .int .i64 f.per, .int .i64 f.inc, .slice B m d, .int .i64 g.per, .int .i64 g.inc, .int .i64 K]
/-- no pair could be made -/
def CvBad (f g : Cv) (er : Int) : Prop := (¬ (f.Ok ∧ g.Ok) ∧ er = 1) ∨ (f.Ok ∧ g.Ok ∧ er = 3 ∧ ∃ a b, NF f.at a ∧ NF g.at b ∧ 120 < comm a.per.toNat b.per.toNat)
theorem CvBad.pair {S : Cv → Cv → Cv → Int → Prop} {f g : Cv} {er : Int} (h : CvBad f g er) : PairS S f g Cv.none er := by
  rcases h with ⟨h, rfl⟩ | ⟨hf, hg, rfl, a, b, ha, hb, hk⟩
  · exact .inl ⟨h, rfl, rfl⟩
  · exact .inr ⟨hf, hg, a, b, ha, hb, .inl ⟨hk, rfl, rfl⟩⟩
theorem CvBad.ne {f g : Cv} {er : Int} (h : CvBad f g er) : er ≠ 0 := by
  rcases h with ⟨_, rfl⟩ | ⟨_, _, rfl, _⟩ <;> decide
/-- what both returns -/
def RetCb (f g : Cv) (w : World) (e : Ending) (w' : World) : Prop :=
  (∃ er, CvBad f g er ∧ e = .returned (.tuple #[.agg zero7, .int .i64 er]) ∧ Below w.heap.size w w') ∨
  (f.Ok ∧ g.Ok ∧ ∃ (a b : Cv) (A : Option Addr) (n c : Nat) (B : Option Addr) (m d : Nat), NF f.at a ∧ NF g.at b ∧ a.Ok ∧ b.Ok ∧ ordC a b ≤ 120 ∧
    e = .returned (.tuple #[.agg (cpA A n c a B m d b (ordC a b : Nat)), .int .i64 0]) ∧ Ints w' w'.heap.size A n a.vals ∧ Ints w' w'.heap.size B m b.vals ∧ (∀ b off s, A = some ⟨b, off, s⟩ → w.heap.size ≤ b) ∧ (∀ b off s, B = some ⟨b, off, s⟩ → w.heap.size ≤ b) ∧ Below w.heap.size w w')
set_option maxHeartbeats 4000000 in
set_option maxRecDepth 100000 in
theorem cvboth_any (A B : Option Addr) (n m c d : Nat) (p i q j : Int) (xs ys : List Int) (w : World) (hA : Ints w w.heap.size A n xs) (hB : Ints w w.heap.size B m ys) (hn : (n : Int) ≤ 1000000) (hm : (m : Int) ≤ 1000000) :
    Calls Try.prog 120 #[.agg #[.slice A n c, .int .i64 p, .int .i64 i], .agg #[.slice B m d, .int .i64 q, .int .i64 j]] w (RetCb ⟨xs, p, i⟩ ⟨ys, q, j⟩ w) := by
  have P := Lib.hid ((PS.new (c := c) (p := p) (i := i) (d := d) (q := q) (j := j) hA hB).alloc (.cells #[.slice none 0 0, .int .i64 0, .int .i64 0, .slice none 0 0, .int .i64 0, .int .i64 0, .int .i64 0] 122))
  have rb := Blk.new ((w.alloc (.cells #[.slice A n c, .int .i64 p, .int .i64 i] 46)).alloc (.cells #[.slice B m d, .int .i64 q, .int .i64 j] 46)) 122 #[.slice none 0 0, .int .i64 0, .int .i64 0, .slice none 0 0, .int .i64 0, .int .i64 0, .int .i64 0]
  rw [World.size_alloc, World.size_alloc] at rb
  have RB := Lib.hid rb
  clear hA hB rb
  go_enter Try.func120, Try.ntmps120
  obtain ⟨f0, f1, f2, g0, g1, g2, hlf, hlg⟩ := P.out.cells
  go_wp2_with fail
  refine (normal_any A n c p i xs _ P.out.ia hn).mono ?_
  rintro e w1 ⟨a, er, hN, A1, n1, c1, rfl, hI1, hA1, hb1⟩
  simp only [World.size_alloc] at hA1
  have HN := Lib.hid (NormR.of hN)
  have P := Lib.hid (P.out.below hb1)
  have RB := Lib.hid (RB.out.below hb1 RB.out.lt)
  have HI1 := Lib.hid hI1
  have hs1 := RB.out.lt
  clear hN hI1 hb1 f0 f1 f2 g0 g1 g2 hlf hlg
  rcases HN.out with ⟨hfo, hnf, hao, rfl⟩ | ⟨hno, rfl, rfl⟩
  · have ha1 := hao.n1; have ha2 := hao.n2; have hap := hao.p1; have hap2 := hao.p2; have hai := hao.i1; have hai2 := hao.i2; have hapn := hao.pn
    have hl1 : a.vals.length = n1 := HI1.out.1
    rw [hl1] at ha1 ha2 hapn
    have FA := Lib.hid (Bx.new (c := c1) (f := a) HI1.out hA1 (Nat.le_refl _) (by omega) (by omega))
    have P := Lib.hid (P.out.alloc (.cells #[.slice A1 n1 c1, .int .i64 a.per, .int .i64 a.inc] 46))
    have RB := Lib.hid (RB.out.alloc (.cells #[.slice A1 n1 c1, .int .i64 a.per, .int .i64 a.inc] 46))
    have HNF := Lib.hid hnf; have HFO := Lib.hid hfo; have HAO := Lib.hid hao; have HL1 := Lib.hid hl1
    clear hnf hfo hao HI1 hA1 HN hl1
    obtain ⟨f0, f1, f2, g0, g1, g2, hlf, hlg⟩ := P.out.cells
    go_wp2_with fail
    refine (normal_any B m d q j ys _ P.out.ib hm).mono ?_
    rintro e w2 ⟨b, er, hN, A2, n2, c2, rfl, hI2, hA2, hb2⟩
    simp only [World.size_alloc] at hA2
    have HN := Lib.hid (NormR.of hN)
    have RB := Lib.hid (RB.out.below hb2 RB.out.lt)
    have FA := Lib.hid (FA.out.below hb2)
    have BW := Lib.hid (bthen P.out.bw hb2)
    have HI2 := Lib.hid hI2
    have hs2 := RB.out.lt
    have hs3 := FA.out.lt
    clear hN hI2 hb2 P f0 f1 f2 g0 g1 g2 hlf hlg
    rcases HN.out with ⟨hgo, hnf, hbo, rfl⟩ | ⟨hno, rfl, rfl⟩
    · have hb1 := hbo.n1; have hb2 := hbo.n2; have hbp := hbo.p1; have hbp2 := hbo.p2; have hbi := hbo.i1; have hbi2 := hbo.i2; have hbpn := hbo.pn
      have hl2 : b.vals.length = n2 := HI2.out.1
      rw [hl2] at hb1 hb2 hbpn
      have FB := Lib.hid (Bx.new (L := w.heap.size + 1 + 1 + 1) (c := c2) (f := b) HI2.out hA2 (by omega) (by omega) (by omega))
      have FA := Lib.hid (FA.out.alloc (.cells #[.slice A2 n2 c2, .int .i64 b.per, .int .i64 b.inc] 46))
      have RB := Lib.hid (RB.out.alloc (.cells #[.slice A2 n2 c2, .int .i64 b.per, .int .i64 b.inc] 46))
      have BW := Lib.hid (bthen BW.out (balloc _ (.cells #[.slice A2 n2 c2, .int .i64 b.per, .int .i64 b.inc] 46)))
      have HNG := Lib.hid hnf; have HGO := Lib.hid hgo; have HBO := Lib.hid hbo; have HL2 := Lib.hid hl2
      clear hnf hgo hbo HI2 hA2 HN hl2
      obtain ⟨C, hC⟩ : ∃ C, C = comm a.per.toNat b.per.toNat := ⟨_, rfl⟩
      have HC := Lib.hid hC
      clear hC
      go_upto_region 7 with fail
      generalize hwe : w2.alloc (.cells #[.slice A2 n2 c2, .int .i64 b.per, .int .i64 b.inc] 46) = w3 at *
      clear hwe
      go_cut [9] (fun s9 wx => ∃ P : Nat, s9 = .pointer (some ⟨P, 0, none⟩) ∧ w2.heap.size < P ∧ Blk wx P 122 #[.slice A1 n1 c1, .int .i64 a.per, .int .i64 a.inc, .slice A2 n2 c2, .int .i64 b.per, .int .i64 b.inc, .int .i64 C] ∧ Bx (w.heap.size + 1 + 1 + 1) wx w1.heap.size A1 n1 c1 a ∧ Bx (w.heap.size + 1 + 1 + 1) wx w2.heap.size A2 n2 c2 b ∧ Blk wx (w.heap.size + 1 + 1) 122 #[.slice none 0 0, .int .i64 0, .int .i64 0, .slice none 0 0, .int .i64 0, .int .i64 0, .int .i64 0] ∧ Below w.heap.size w wx)
      case first =>
        have FA := Lib.hid FA.out.drew; have FB := Lib.hid FB.out.drew; have RB := Lib.hid (Blk.drew RB.out); have BW := Lib.hid (Below.drew BW.out)
        obtain ⟨a0, a1, a2, hla⟩ := FA.out.cells
        obtain ⟨b0, b1, b2, hlb⟩ := FB.out.cells
        refine wp_region_held_drew (S := (fun w' => w'.cell? ⟨w1.heap.size, 0, none⟩ = some (.slice A1 n1 c1) ∧ w'.cell? ⟨w1.heap.size, 1, none⟩ = some (.int .i64 a.per) ∧ w'.cell? ⟨w1.heap.size, 2, none⟩ = some (.int .i64 a.inc) ∧ w'.cell? ⟨w2.heap.size, 0, none⟩ = some (.slice A2 n2 c2) ∧ w'.cell? ⟨w2.heap.size, 1, none⟩ = some (.int .i64 b.per) ∧ w'.cell? ⟨w2.heap.size, 2, none⟩ = some (.int .i64 b.inc))) (by kernel_rfl) ⟨a0, a1, a2, b0, b1, b2⟩ (fun hHeld => ?_)
        generalize hwd : w3.drew = wd at *
        clear hwd
        refine wpAnyH_take (i := 0) (oi := _) (v := ?_) (by simp only [g8a, g8z]; rfl) (by kernel_rfl) (by kernel_rfl) (by kernel_rfl) (by exact fun _ _ _ h => h) (Or.inl ⟨by rfl, ?_⟩) (by assumption) ?_
        rotate_left 1
        · (intro w hSw; (try dsimp only at hSw); go_simp; try with_reducible rfl)
        all_goals ((try simp only [Act.put]); (try simp only [g8b]); (try simp only [g8c]); (try simp only [g8d]))
        refine wpAnyH_take (i := 1) (oi := _) (v := ?_) (by simp only [g8a, g8s, g8z]; rfl) (by kernel_rfl) (by kernel_rfl) (by kernel_rfl) (by exact fun _ _ _ h => h) (Or.inl ⟨by rfl, ?_⟩) (by assumption) ?_
        rotate_left 1
        · (intro w hSw; (try dsimp only at hSw); go_simp; try with_reducible rfl)
        all_goals ((try simp only [Act.put]); (try simp only [g8b]); (try simp only [g8c]); (try simp only [g8d]))
        refine wpAnyH_take (i := 2) (oi := _) (v := ?_) (by simp only [g8a, g8s, g8z]; rfl) (by kernel_rfl) (by kernel_rfl) (by kernel_rfl) (by exact fun _ _ _ h => h) (Or.inl ⟨by rfl, ?_⟩) (by assumption) ?_
        rotate_left 1
        · (intro w hSw; (try dsimp only at hSw); go_simp; try with_reducible rfl)
        all_goals ((try simp only [Act.put]); (try simp only [g8b]); (try simp only [g8c]); (try simp only [g8d]))
        refine wpAnyH_take (i := 3) (oi := _) (v := ?_) (by simp only [g8a, g8s, g8z]; rfl) (by kernel_rfl) (by kernel_rfl) (by kernel_rfl) (by exact fun _ _ _ h => h) (Or.inl ⟨by rfl, ?_⟩) (by assumption) ?_
        rotate_left 1
        · (intro w hSw; (try dsimp only at hSw); go_simp; try with_reducible rfl)
        all_goals ((try simp only [Act.put]); (try simp only [g8b]); (try simp only [g8c]); (try simp only [g8d]))
        refine wpAnyH_take (i := 4) (oi := _) (v := ?_) (by simp only [g8a, g8s, g8z]; rfl) (by kernel_rfl) (by kernel_rfl) (by kernel_rfl) (by exact fun _ _ _ h => h) (Or.inl ⟨by rfl, ?_⟩) (by assumption) ?_
        rotate_left 1
        · (intro w hSw; (try dsimp only at hSw); go_simp; try with_reducible rfl)
        all_goals ((try simp only [Act.put]); (try simp only [g8b]); (try simp only [g8c]); (try simp only [g8d]))
        refine wpAnyH_take (i := 5) (oi := _) (v := ?_) (by simp only [g8a, g8s, g8z]; rfl) (by kernel_rfl) (by kernel_rfl) (by kernel_rfl) (by exact fun _ _ _ h => h) (Or.inl ⟨by rfl, ?_⟩) (by assumption) ?_
        rotate_left 1
        · (intro w hSw; (try dsimp only at hSw); go_simp; try with_reducible rfl)
        all_goals ((try simp only [Act.put]); (try simp only [g8b]); (try simp only [g8c]); (try simp only [g8d]))
        refine wpAnyH_ready (rs := [6, 8]) (by kernel_rfl) (by simp) ?_
        refine (AllReadyH.cons (by simp only [g8a, g8s, g8z]; rfl) (fun K hK => ?_) (AllReadyH.cons (by simp only [g8a, g8s, g8z]; rfl) (fun K hK => ?_) AllReadyH.nil))
        · rw [if_pos (by rfl)]
          go_simp
          refine (common2_any a.per b.per _ (by omega) (by omega) (by omega) (by omega)).mono ?_
          rw [← HC.out]
          rintro e wa ⟨rfl, hbq⟩
          have FA := Lib.hid (FA.out.below hbq); have FB := Lib.hid (FB.out.below hbq); have RB := Lib.hid (RB.out.below hbq RB.out.lt); have BW := Lib.hid (bthen BW.out hbq)
          try (have ZB := Lib.hid (ZB.out.below hbq ZB.out.lt))
          clear hbq hHeld
          clear a0 a1 a2 hla b0 b1 b2 hlb
          obtain ⟨a0, a1, a2, hla⟩ := FA.out.cells
          obtain ⟨b0, b1, b2, hlb⟩ := FB.out.cells
          refine hK.out _ _ (by exact ⟨a0, a1, a2, b0, b1, b2⟩) (fun hHeld => ?_)
          clear hK K
          (try simp only [Act.put]); (try simp only [g8b]); (try simp only [g8c]); (try simp only [g8d])
          refine wpAnyH_take (i := 7) (oi := _) (v := ?_) (by simp only [g8a, g8s, g8z]; rfl) (by kernel_rfl) (by kernel_rfl) (by kernel_rfl) (by exact fun _ _ _ h => h) (Or.inl ⟨by rfl, ?_⟩) (by assumption) ?_
          rotate_left 1
          · (intro w hSw; (try dsimp only at hSw); go_simp; try with_reducible rfl)
          all_goals ((try simp only [Act.put]); (try simp only [g8b]); (try simp only [g8c]); (try simp only [g8d]))
          refine wpAnyH_ready (rs := [8]) (by kernel_rfl) (by simp) ?_
          refine (AllReadyH.cons (by simp only [g8a, g8s, g8z]; rfl) (fun K hK => ?_) AllReadyH.nil)
          rw [if_pos (by rfl)]
          go_simp
          have hbq := balloc wa (.cells #[.slice none 0 0, .int .i64 0, .int .i64 0, .slice none 0 0, .int .i64 0, .int .i64 0, .int .i64 0] 122)
          have zb := Blk.new wa 122 #[.slice none 0 0, .int .i64 0, .int .i64 0, .slice none 0 0, .int .i64 0, .int .i64 0, .int .i64 0]
          have hP := FB.out.lt
          have ZB := Lib.hid zb
          clear zb
          generalize hwa : wa.alloc (.cells #[.slice none 0 0, .int .i64 0, .int .i64 0, .slice none 0 0, .int .i64 0, .int .i64 0, .int .i64 0] 122) = wb at *
          clear hwa
          have FA := Lib.hid (FA.out.below hbq); have FB := Lib.hid (FB.out.below hbq); have RB := Lib.hid (RB.out.below hbq RB.out.lt); have BW := Lib.hid (bthen BW.out hbq)
          clear hbq hHeld
          clear a0 a1 a2 hla b0 b1 b2 hlb
          obtain ⟨a0, a1, a2, hla⟩ := FA.out.cells
          obtain ⟨b0, b1, b2, hlb⟩ := FB.out.cells
          refine hK.out _ _ (by exact ⟨a0, a1, a2, b0, b1, b2⟩) (fun hHeld => ?_)
          clear hK K
          (try simp only [Act.put]); (try simp only [g8b]); (try simp only [g8c]); (try simp only [g8d])
          refine wpAnyH_ready (rs := [9]) (by kernel_rfl) (by simp) ?_
          refine (AllReadyH.cons (by simp only [g8a, g8s, g8z]; rfl) (fun K hK => ?_) AllReadyH.nil)
          refine step_storeN rfl 122 _ _ rfl rfl ZB.out rfl rfl (by kernel_rfl) (by simp [Value.oneCell']) ?_
          intro wz hsto rz
          have FA := Lib.hid (FA.out.sto hsto (.inl (by omega))); have FB := Lib.hid (FB.out.sto hsto (.inl (by omega))); have RB := Lib.hid (RB.out.sto hsto (by omega)); have BW := Lib.hid (bsto BW.out hsto (by omega))
          clear a0 a1 a2 hla b0 b1 b2 hlb
          obtain ⟨a0, a1, a2, hla⟩ := FA.out.cells
          obtain ⟨b0, b1, b2, hlb⟩ := FB.out.cells
          refine hK.out _ _ (by exact ⟨a0, a1, a2, b0, b1, b2⟩) (fun hHeld => ?_)
          clear hK K
          (try simp only [Act.put]); (try simp only [g8b]); (try simp only [g8c]); (try simp only [g8d])
          refine wpAnyH_done (by kernel_rfl) ?_ _
          go_wp2_with fail
          go_meet
          exact ⟨_, rfl, hP, rz, FA.out, FB.out, RB.out, BW.out⟩
        · rw [if_pos (by rfl)]
          go_simp
          have hbq := balloc wd (.cells #[.slice none 0 0, .int .i64 0, .int .i64 0, .slice none 0 0, .int .i64 0, .int .i64 0, .int .i64 0] 122)
          have zb := Blk.new wd 122 #[.slice none 0 0, .int .i64 0, .int .i64 0, .slice none 0 0, .int .i64 0, .int .i64 0, .int .i64 0]
          have hP := FB.out.lt
          have ZB := Lib.hid zb
          clear zb
          generalize hwa : wd.alloc (.cells #[.slice none 0 0, .int .i64 0, .int .i64 0, .slice none 0 0, .int .i64 0, .int .i64 0, .int .i64 0] 122) = wa at *
          clear hwa
          have FA := Lib.hid (FA.out.below hbq); have FB := Lib.hid (FB.out.below hbq); have RB := Lib.hid (RB.out.below hbq RB.out.lt); have BW := Lib.hid (bthen BW.out hbq)
          clear hbq hHeld
          clear a0 a1 a2 hla b0 b1 b2 hlb
          obtain ⟨a0, a1, a2, hla⟩ := FA.out.cells
          obtain ⟨b0, b1, b2, hlb⟩ := FB.out.cells
          refine hK.out _ _ (by exact ⟨a0, a1, a2, b0, b1, b2⟩) (fun hHeld => ?_)
          clear hK K
          (try simp only [Act.put]); (try simp only [g8b]); (try simp only [g8c]); (try simp only [g8d])
          refine wpAnyH_ready (rs := [6]) (by kernel_rfl) (by simp) ?_
          refine (AllReadyH.cons (by simp only [g8a, g8s, g8z]; rfl) (fun K hK => ?_) AllReadyH.nil)
          rw [if_pos (by rfl)]
          go_simp
          refine (common2_any a.per b.per _ (by omega) (by omega) (by omega) (by omega)).mono ?_
          rw [← HC.out]
          rintro e wb ⟨rfl, hbq⟩
          have FA := Lib.hid (FA.out.below hbq); have FB := Lib.hid (FB.out.below hbq); have RB := Lib.hid (RB.out.below hbq RB.out.lt); have BW := Lib.hid (bthen BW.out hbq)
          try (have ZB := Lib.hid (ZB.out.below hbq ZB.out.lt))
          clear hbq hHeld
          clear a0 a1 a2 hla b0 b1 b2 hlb
          obtain ⟨a0, a1, a2, hla⟩ := FA.out.cells
          obtain ⟨b0, b1, b2, hlb⟩ := FB.out.cells
          refine hK.out _ _ (by exact ⟨a0, a1, a2, b0, b1, b2⟩) (fun hHeld => ?_)
          clear hK K
          (try simp only [Act.put]); (try simp only [g8b]); (try simp only [g8c]); (try simp only [g8d])
          refine wpAnyH_take (i := 7) (oi := _) (v := ?_) (by simp only [g8a, g8s, g8z]; rfl) (by kernel_rfl) (by kernel_rfl) (by kernel_rfl) (by exact fun _ _ _ h => h) (Or.inl ⟨by rfl, ?_⟩) (by assumption) ?_
          rotate_left 1
          · (intro w hSw; (try dsimp only at hSw); go_simp; try with_reducible rfl)
          all_goals ((try simp only [Act.put]); (try simp only [g8b]); (try simp only [g8c]); (try simp only [g8d]))
          refine wpAnyH_ready (rs := [9]) (by kernel_rfl) (by simp) ?_
          refine (AllReadyH.cons (by simp only [g8a, g8s, g8z]; rfl) (fun K hK => ?_) AllReadyH.nil)
          refine step_storeN rfl 122 _ _ rfl rfl ZB.out rfl rfl (by kernel_rfl) (by simp [Value.oneCell']) ?_
          intro wz hsto rz
          have FA := Lib.hid (FA.out.sto hsto (.inl (by omega))); have FB := Lib.hid (FB.out.sto hsto (.inl (by omega))); have RB := Lib.hid (RB.out.sto hsto (by omega)); have BW := Lib.hid (bsto BW.out hsto (by omega))
          clear a0 a1 a2 hla b0 b1 b2 hlb
          obtain ⟨a0, a1, a2, hla⟩ := FA.out.cells
          obtain ⟨b0, b1, b2, hlb⟩ := FB.out.cells
          refine hK.out _ _ (by exact ⟨a0, a1, a2, b0, b1, b2⟩) (fun hHeld => ?_)
          clear hK K
          (try simp only [Act.put]); (try simp only [g8b]); (try simp only [g8c]); (try simp only [g8d])
          refine wpAnyH_done (by kernel_rfl) ?_ _
          go_wp2_with fail
          go_meet
          exact ⟨_, rfl, hP, rz, FA.out, FB.out, RB.out, BW.out⟩
      case rest =>
        as_aux_lemma =>
        clear FA FB RB BW
        obtain ⟨P, rfl, hP, pb, fa, fb, rb, bw⟩ := hcut
        have PB := Lib.hid pb; have FA := Lib.hid fa; have FB := Lib.hid fb; have RB := Lib.hid rb; have BW := Lib.hid bw
        clear pb fa fb rb bw
        obtain ⟨p6, hlp⟩ : _ ∧ _ := ⟨PB.out.cell 6, PB.out.lt⟩
        simp at p6
        have hrl := RB.out.lt
        by_cases hcc : 120 < C
        · have F := Lib.hid (show CvBad ⟨xs, p, i⟩ ⟨ys, q, j⟩ 3 from .inr ⟨HFO.out, HGO.out, rfl, a, b, HNF.out, HNG.out, by rw [← HC.out]; exact hcc⟩)
          have hci : (120 : Int) < (C : Int) := by omega
          clear hcc
          go_wp2_with (refine wpList_storeN rfl 122 _ _ rfl rfl RB.out rfl rfl (by kernel_rfl) (by simp [Value.oneCell']) ?_; intro wz hsto rz)
          exact bodyPost_ret (v := .tuple #[.agg zero7, .int .i64 3]) (by simp [results, Try.results120, go_sem, rz.cell, zero7]) rfl (.inl ⟨_, F.out, rfl, bsto BW.out hsto (by omega)⟩)
        · have hci : ¬ (120 : Int) < (C : Int) := by omega
          have HCC := Lib.hid hcc
          clear hcc
          go_upto_region 10 with fail
          refine wp_region_lit ?_
          refine wpList_load_row rfl 122 _ rfl P rfl 122 #[.slice A1 n1 c1, .int .i64 a.per, .int .i64 a.inc, .slice A2 n2 c2, .int .i64 b.per, .int .i64 b.inc, .int .i64 C] (0, 0) _ PB.out Try.underlying122 rfl (by kernel_rfl) ?_
          refine wpList_storeN rfl 122 _ _ rfl rfl RB.out rfl rfl (by kernel_rfl) (by simp [Value.oneCell']) ?_
          intro wz hsto rz
          have FA := Lib.hid (FA.out.sto hsto (.inr (by omega))); have FB := Lib.hid (FB.out.sto hsto (.inr (by omega)))
          have bw := bsto BW.out hsto (by omega)
          (try simp only [Act.put]); (try simp only [g8b]); (try simp only [g8c]); (try simp only [g8d])
          go_wp2_with fail
          have hCo : C = ordC a b := HC.out
          exact bodyPost_ret (v := .tuple #[.agg (cpA A1 n1 c1 a A2 n2 c2 b (ordC a b : Nat)), .int .i64 0]) (by simp [results, Try.results120, go_sem, rz.cell, cpA, hCo]) rfl
            (.inr ⟨HFO.out, HGO.out, a, b, A1, n1, c1, A2, n2, c2, HNF.out, HNG.out, HAO.out, HBO.out, by rw [← hCo]; have := HCC.out; omega, rfl, FA.out.ints, FB.out.ints, fun b' off s e => by have := (FA.out.ap b' off s e).1; omega, fun b' off s e => by have := (FB.out.ap b' off s e).1; omega, bw⟩)
    · have F := Lib.hid (show CvBad ⟨xs, p, i⟩ ⟨ys, q, j⟩ 1 from .inl ⟨fun h => hno h.2, rfl⟩)
      have RB := Lib.hid (RB.out.alloc (.cells #[.slice A2 n2 c2, .int .i64 Cv.none.per, .int .i64 Cv.none.inc] 46))
      have BW := Lib.hid (bthen BW.out (balloc _ (.cells #[.slice A2 n2 c2, .int .i64 Cv.none.per, .int .i64 Cv.none.inc] 46)))
      clear hno HN
      go_wp2_with (refine wpList_storeN rfl 122 _ _ rfl rfl RB.out rfl rfl (by kernel_rfl) (by simp [Value.oneCell']) ?_; intro wz hsto rz)
      exact bodyPost_ret (v := .tuple #[.agg zero7, .int .i64 1]) (by simp [results, Try.results120, go_sem, rz.cell, zero7]) rfl (.inl ⟨_, F.out, rfl, bsto BW.out hsto (by omega)⟩)
  · have F := Lib.hid (show CvBad ⟨xs, p, i⟩ ⟨ys, q, j⟩ 1 from .inl ⟨fun h => hno h.1, rfl⟩)
    have RB := Lib.hid (RB.out.alloc (.cells #[.slice A1 n1 c1, .int .i64 Cv.none.per, .int .i64 Cv.none.inc] 46))
    have BW := Lib.hid (bthen P.out.bw (balloc _ (.cells #[.slice A1 n1 c1, .int .i64 Cv.none.per, .int .i64 Cv.none.inc] 46)))
    clear hno HN
    go_wp2_with (refine wpList_storeN rfl 122 _ _ rfl rfl RB.out rfl rfl (by kernel_rfl) (by simp [Value.oneCell']) ?_; intro wz hsto rz)
    exact bodyPost_ret (v := .tuple #[.agg zero7, .int .i64 1]) (by simp [results, Try.results120, go_sem, rz.cell, zero7]) rfl (.inl ⟨_, F.out, rfl, bsto BW.out hsto (by omega)⟩)
end Go.Proofs.Ythdibkmjoiipgaa
namespace Go.Proofs.Ythdibkmjoiipgaa
open Go.RowKit
set_option linter.unusedVariables false

/-- the least value of the splits from lo on -/
def RetLs (a b : Cv) (lo t : Nat) (w : World) (e : Ending) (w' : World) : Prop := ∃ v, CvI a b lo t (t + 1) v ∧ 0 ≤ v ∧ v ≤ 4611686018427387904 ∧ e = .returned (.int .i64 v) ∧ Below w.heap.size w w'
theorem CvI.bd {a b : Cv} (ha : a.Ok) (hb : b.Ok) {lo t S : Nat} {v : Int} (ht : t ≤ 2000) (h : CvI a b lo t S v) : 0 ≤ v ∧ v ≤ 4611686018427387904 := by
  rcases h with ⟨_, rfl⟩ | ⟨⟨s, _, _, h3, rfl⟩, _⟩
  · unfold inf; omega
  · have := csp_bd ha hb ht h3; omega
set_option maxHeartbeats 1000000 in
theorem cvleast_any (q1 q2 N : Nat) (a b : Cv) (t lo : Nat) (w : World) (hA : RowI w q1 (tab a.at 0 N)) (hB : RowI w q2 (tab b.at 0 N)) (ha : a.Ok) (hb : b.Ok) (ht : t < N) (hN : N ≤ 2000) (hlo : lo ≤ t) :
    Calls Try.prog 153 #[.slice (some ⟨q1, 0, none⟩) N N, .slice (some ⟨q2, 0, none⟩) N N, .int .i64 t, .int .i64 lo, .int .i64 t] w (RetLs a b lo t w) := by
  have T1 := Lib.hid hA; have T2 := Lib.hid hB; have HA := Lib.hid ha; have HB := Lib.hid hb
  have BW := Lib.hid (Below.refl w.heap.size w)
  clear hA hB ha hb
  go_enter Try.func153, Try.ntmps153
  go_wp2_with fail
  go_loopg [12, 11] (t + 1 - lo) (fun gg s12 s11 wx => ∃ (S : Nat) (v : Int), lo ≤ S ∧ S + gg = t + 1 ∧ s12 = .int .i64 S ∧ s11 = .int .i64 v ∧ CvI a b lo t S v ∧ RowI wx q1 (tab a.at 0 N) ∧ RowI wx q2 (tab b.at 0 N) ∧ Below w.heap.size w wx)
  case atStart => exact ⟨lo, inf, Nat.le_refl _, by omega, rfl, rfl, CvI.zero a b lo t, T1.out, T2.out, BW.out⟩
  case round =>
    clear T1 T2 BW
    obtain ⟨S, v, hS, hgg, rfl, rfl, hI, h1, h2, h3⟩ := hrel
    have T1 := Lib.hid h1; have T2 := Lib.hid h2; have BW := Lib.hid h3; have HI := Lib.hid hI
    clear h1 h2 h3 hI
    by_cases hk : S ≤ t
    · have hki : (S : Int) ≤ t := by omega
      obtain ⟨u, hu⟩ : ∃ u, u = t - S := ⟨_, rfl⟩
      have e1 : IntKind.i64.wrap ((t : Int) - (S : Int)) = (u : Int) := by rw [IntWalk.i64_in _ (by omega)]; omega
      have hSN : S < N := by omega
      have huN : u < N := by omega
      have hSNi : (S : Int) < N := by omega
      have huNi : (u : Int) < N := by omega
      have hs0 : 0 ≤ (S : Int) := by omega
      have hu0 : 0 ≤ (u : Int) := by omega
      have c1 := T1.out.cell S (by rw [tab_length]; exact hSN)
      have c2 := T2.out.cell u (by rw [tab_length]; exact huN)
      rw [tab_nth _ _ _ _ hSN, Nat.zero_add] at c1
      rw [tab_nth _ _ _ _ huN, Nat.zero_add] at c2
      obtain ⟨x, hx⟩ : ∃ x, x = a.at S := ⟨_, rfl⟩
      obtain ⟨y, hy⟩ : ∃ y, y = b.at u := ⟨_, rfl⟩
      rw [← hx] at c1
      rw [← hy] at c2
      have bx := HA.out.at_bd (n := S) (by omega)
      have by' := HB.out.at_bd (n := u) (by omega)
      rw [← hx] at bx
      rw [← hy] at by'
      have hl1 := T1.out.lt; have hl2 := T2.out.lt
      have HU := Lib.hid hu; have HX := Lib.hid hx; have HY := Lib.hid hy
      clear hu hx hy
      by_cases ix : x = inf
      · have NI := Lib.hid (HI.out.skip (fun h => h.2.1 (bx.2.2 ix)))
        unfold inf at ix
        have dx : (x != 4611686018427387904) = false := by simpa using ix
        clear bx by' ix
        go_wp2_with fail
        go_quiet (fail)
        go_wp2_with fail
        go_roundg (gk - 1)
        case measure => omega
        case rel => exact ⟨S + 1, v, by omega, by omega, by go_num, rfl, NI.out, T1.out, T2.out, bdrewN BW.out⟩
      · have dx : (x != 4611686018427387904) = true := by unfold inf at ix; simpa using ix
        by_cases iy : y = inf
        · have NI := Lib.hid (HI.out.skip (fun h => h.2.2 (by rw [← HU.out]; exact by'.2.2 iy)))
          unfold inf at iy
          have dy : (y != 4611686018427387904) = false := by simpa using iy
          clear bx by' ix iy
          go_wp2_with fail
          go_quiet (fail)
          go_wp2_with fail
          go_roundg (gk - 1)
          case measure => omega
          case rel => exact ⟨S + 1, v, by omega, by omega, by go_num, rfl, NI.out, T1.out, T2.out, bdrewN BW.out⟩
        · have dy : (y != 4611686018427387904) = true := by unfold inf at iy; simpa using iy
          have HC := Lib.hid (show CSp a b t S from ⟨by omega, fun h => ix (by rw [HX.out]; exact h.2), fun h => iy (by rw [HY.out, HU.out]; exact h.2)⟩)
          have bd := csp_bd HA.out HB.out (show t ≤ 2000 by omega) HC.out
          rw [← HU.out, ← HX.out, ← HY.out] at bd
          have vb := HI.out.bd HA.out HB.out (by omega)
          have bx0 := bx.1; have by0 := by'.1
          have bd1 := bd.1; have bd2 := bd.2
          have e2 : IntKind.i64.wrap (x + y) = x + y := IntWalk.i64_in _ (by omega)
          obtain ⟨z, hz⟩ : ∃ z, z = x + y := ⟨_, rfl⟩
          rw [← hz] at e2 bd1 bd2
          have HZ := Lib.hid hz
          have e3 : x + y = z := hz.symm
          clear bx by' bd ix iy hz
          by_cases hlt : z < v
          · have NI := Lib.hid (HI.out.more hS HC.out (.inr (by rw [← HU.out, ← HX.out, ← HY.out]; omega)))
            rw [← HU.out, ← HX.out, ← HY.out, ← HZ.out] at NI
            clear vb
            go_wp2_with fail
            go_quiet (fail)
            go_wp2_with fail
            go_roundg (gk - 1)
            case measure => omega
            case rel => exact ⟨S + 1, z, by omega, by omega, by go_num, rfl, NI.out, T1.out, T2.out, bdrewN BW.out⟩
          · have NI := Lib.hid (HI.out.keep (by rw [← HU.out, ← HX.out, ← HY.out]; omega) (by rw [← HU.out, ← HX.out, ← HY.out]; unfold inf; omega))
            clear vb
            go_wp2_with fail
            go_quiet (fail)
            go_wp2_with fail
            go_roundg (gk - 1)
            case measure => omega
            case rel => exact ⟨S + 1, v, by omega, by omega, by go_num, rfl, NI.out, T1.out, T2.out, bdrewN BW.out⟩
    · have hki : ¬ (S : Int) ≤ t := by omega
      obtain rfl : S = t + 1 := by omega
      have bd := HI.out.bd HA.out HB.out (by omega)
      have BD := Lib.hid bd
      clear bd
      go_wp2_with fail
      go_ret
      exact ⟨v, HI.out, BD.out.1, BD.out.2, rfl, BW.out⟩
end Go.Proofs.Ythdibkmjoiipgaa
