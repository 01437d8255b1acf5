/- netcalculusref07.horizon. -/
import Derived.Test.YtbkimphcmmmaiaaRef7A
import Derived.Test.YtbkimphcmmmaiaaHeldT
import Derived.Test.YtbkimphcmmmaiaaCgLaw
import Derived.Test.YtbkimphcmmmaiaaRef7O
import Derived.Test.YtbkimphcmmmaiaaCpPrv
import Derived.Test.YtbkimphcmmmaiaaCvSame
import Derived.Test.YtbkimphcmmmaiaaRefSame
import Derived.Deep.LoopGhost
namespace Go.Proofs.Ytbkimphcmmmaiaa
open Go.RowKit
set_option linter.unusedVariables false
set_option maxHeartbeats 2000000 in
set_option maxRecDepth 100000 in
theorem hor7_any (A B D : Option Addr) (n m k c d s : Nat) (p i q j r z : Int) (C : Nat) (w : World) (hn : n ≤ 1000) (hm : m ≤ 1000) (hk : k ≤ 1000) (hp : 1 ≤ p) (hpn : p ≤ n) (hq : 1 ≤ q) (hqm : q ≤ m) (hr : 1 ≤ r) (hrk : r ≤ k) (hC : C ≤ 120) (N1 N2 N3 N : Nat)
    (h1 : (n : Int) - p = N1) (h2 : (m : Int) - q = N2) (h3 : (k : Int) - r = N3) (h4 : N = max (N1 + N2) N3 + C) :
    Calls Try.prog 103 #[.agg #[.slice A n c, .int .i64 p, .int .i64 i], .agg #[.slice B m d, .int .i64 q, .int .i64 j], .agg #[.slice D k s, .int .i64 r, .int .i64 z], .int .i64 C] w fun e w' => e = .returned (.int .i64 N) ∧ Below w.heap.size w w' := by
  have FA := Lib.hid (((Blk.new w 31 #[.slice A n c, .int .i64 p, .int .i64 i]).alloc (.cells #[.slice B m d, .int .i64 q, .int .i64 j] 31)).alloc (.cells #[.slice D k s, .int .i64 r, .int .i64 z] 31))
  have FB := Lib.hid ((Blk.new (w.alloc (.cells #[.slice A n c, .int .i64 p, .int .i64 i] 31)) 31 #[.slice B m d, .int .i64 q, .int .i64 j]).alloc (.cells #[.slice D k s, .int .i64 r, .int .i64 z] 31))
  have FD := Lib.hid (Blk.new ((w.alloc (.cells #[.slice A n c, .int .i64 p, .int .i64 i] 31)).alloc (.cells #[.slice B m d, .int .i64 q, .int .i64 j] 31)) 31 #[.slice D k s, .int .i64 r, .int .i64 z])
  have BW := Lib.hid (bthen (bthen (balloc w (.cells #[.slice A n c, .int .i64 p, .int .i64 i] 31)) (balloc _ (.cells #[.slice B m d, .int .i64 q, .int .i64 j] 31))) (balloc _ (.cells #[.slice D k s, .int .i64 r, .int .i64 z] 31)))
  rw [World.size_alloc] at FB FD
  rw [World.size_alloc] at FD
  obtain ⟨M, hM⟩ : ∃ M : Nat, M = max (N1 + N2) N3 := ⟨_, rfl⟩
  obtain ⟨N12, h12⟩ : ∃ x : Nat, x = N1 + N2 := ⟨_, rfl⟩
  have e1 : IntKind.i64.wrap ((N1 : Int) + (N2 : Int)) = (N12 : Int) := by rw [IntWalk.i64_in _ (by omega)]; omega
  have e2 : (N1 : Int) + (N2 : Int) = (N12 : Int) := by omega
  have e3 : (if (N12 : Int) < (N3 : Int) then (N3 : Int) else (N12 : Int)) = (M : Int) := by rw [hM]; split <;> omega
  have e3' : (if N12 < N3 then (N3 : Int) else (N12 : Int)) = (M : Int) := by rw [hM]; split <;> omega
  have e4 : IntKind.i64.wrap ((M : Int) + (C : Int)) = (N : Int) := by rw [IntWalk.i64_in _ (by omega)]; omega
  have e5 : (M : Int) + (C : Int) = (N : Int) := by omega
  have e6 : IntKind.i64.wrap (N : Int) = (N : Int) := IntWalk.i64_in _ (by omega)
  have e7 : IntKind.i64.wrap (N12 : Int) = (N12 : Int) := IntWalk.i64_in _ (by omega)
  clear h4 hM h12
  go_enter Try.func103, Try.ntmps103
  go_upto_region 1 with fail
  generalize hwe : ((w.alloc (.cells #[.slice A n c, .int .i64 p, .int .i64 i] 31)).alloc (.cells #[.slice B m d, .int .i64 q, .int .i64 j] 31)).alloc (.cells #[.slice D k s, .int .i64 r, .int .i64 z] 31) = we at *
  clear hwe
  obtain ⟨QA, hQA⟩ : ∃ QA, QA = w.heap.size := ⟨_, rfl⟩
  obtain ⟨QB, hQB⟩ : ∃ QB, QB = w.heap.size + 1 := ⟨_, rfl⟩
  obtain ⟨QD, hQD⟩ : ∃ QD, QD = w.heap.size + 1 + 1 := ⟨_, rfl⟩
  rw [← hQD] at FD ⊢
  rw [← hQB] at FB ⊢
  rw [← hQA] at FA ⊢
  replace FA := Lib.hid FA.out.drew
  replace FB := Lib.hid FB.out.drew
  replace FD := Lib.hid FD.out.drew
  replace BW := Lib.hid (Below.drew BW.out)
  clear hQA hQB hQD
  obtain ⟨⟨a0, a1, a2⟩, _, hla⟩ := FA.out.c3
  obtain ⟨⟨b0, b1, b2⟩, _, hlb⟩ := FB.out.c3
  obtain ⟨⟨d0, d1, d2⟩, _, hld⟩ := FD.out.c3
  refine wp_region_held_drew (S := fun w' => w'.cell? ⟨QA, 0, none⟩ = some (.slice A n c) ∧ w'.cell? ⟨QA, 1, none⟩ = some (.int .i64 p) ∧ w'.cell? ⟨QA, 2, none⟩ = some (.int .i64 i) ∧ w'.cell? ⟨QB, 0, none⟩ = some (.slice B m d) ∧ w'.cell? ⟨QB, 1, none⟩ = some (.int .i64 q) ∧ w'.cell? ⟨QB, 2, none⟩ = some (.int .i64 j) ∧ w'.cell? ⟨QD, 0, none⟩ = some (.slice D k s) ∧ w'.cell? ⟨QD, 1, none⟩ = some (.int .i64 r) ∧ w'.cell? ⟨QD, 2, none⟩ = some (.int .i64 z)) (by kernel_rfl) (by exact ⟨a0, a1, a2, b0, b1, b2, d0, d1, d2⟩) (fun hHeld => ?_)
  generalize hwd : we.drew = wd at *
  clear hwd
  refine wpAnyH_take (i := 0) (oi := _) (v := ?_) (by simp only [g8a, g8z]; rfl) (by kernel_rfl) (by kernel_rfl) (by kernel_rfl) (by exact fun _ _ _ h => h) (Or.inl ⟨by rfl, ?_⟩) (by assumption) ?_
  rotate_left 1
  · (intro w hSw; (try dsimp only at hSw); go_simp; try with_reducible rfl)
  all_goals ((try simp only [Act.put]); try simp only [g8b, g8c, g8d])
  refine wpAnyH_take (i := 2) (oi := _) (v := ?_) (by simp only [g8a, g8s, g8z]; rfl) (by kernel_rfl) (by kernel_rfl) (by kernel_rfl) (by exact fun _ _ _ h => h) (Or.inl ⟨by rfl, ?_⟩) (by assumption) ?_
  rotate_left 1
  · (intro w hSw; (try dsimp only at hSw); go_simp; try with_reducible rfl)
  all_goals ((try simp only [Act.put]); try simp only [g8b, g8c, g8d])
  refine wpAnyH_take (i := 5) (oi := _) (v := ?_) (by simp only [g8a, g8s, g8z]; rfl) (by kernel_rfl) (by kernel_rfl) (by kernel_rfl) (by exact fun _ _ _ h => h) (Or.inl ⟨by rfl, ?_⟩) (by assumption) ?_
  rotate_left 1
  · (intro w hSw; (try dsimp only at hSw); go_simp; try with_reducible rfl)
  all_goals ((try simp only [Act.put]); try simp only [g8b, g8c, g8d])
  refine wpAnyH_take (i := 8) (oi := _) (v := ?_) (by simp only [g8a, g8s, g8z]; rfl) (by kernel_rfl) (by kernel_rfl) (by kernel_rfl) (by exact fun _ _ _ h => h) (Or.inl ⟨by rfl, ?_⟩) (by assumption) ?_
  rotate_left 1
  · (intro w hSw; (try dsimp only at hSw); go_simp; try with_reducible rfl)
  all_goals ((try simp only [Act.put]); try simp only [g8b, g8c, g8d])
  refine wpAnyH_ready (rs := [1]) (by kernel_rfl) (by simp) ?_
  refine (AllReadyH.cons (by simp only [g8a, g8s, g8z]; rfl) (fun K hK => ?_) AllReadyH.nil)
  rw [if_pos (by rfl)]
  go_simp
  refine (start7_any A n c p i _ (by omega) (by omega) (by omega)).mono ?_
  rw [show (n : Int) - p = (N1 : Int) from by omega]
  rintro e w1 ⟨rfl, hb⟩
  replace FA := Lib.hid (FA.out.below hb FA.out.lt)
  replace FB := Lib.hid (FB.out.below hb FB.out.lt)
  replace FD := Lib.hid (FD.out.below hb FD.out.lt)
  replace BW := Lib.hid (bthen BW.out hb)
  clear a0 a1 a2 hla b0 b1 b2 hlb d0 d1 d2 hld
  clear hb
  obtain ⟨⟨a0, a1, a2⟩, _, hla⟩ := FA.out.c3
  obtain ⟨⟨b0, b1, b2⟩, _, hlb⟩ := FB.out.c3
  obtain ⟨⟨d0, d1, d2⟩, _, hld⟩ := FD.out.c3
  refine hK.out _ _ (by exact ⟨a0, a1, a2, b0, b1, b2, d0, d1, d2⟩) (fun hHeld => ?_)
  clear hK K
  (try simp only [Act.put]); try simp only [g8b, g8c, g8d]
  refine wpAnyH_ready (rs := [3]) (by kernel_rfl) (by simp) ?_
  refine (AllReadyH.cons (by simp only [g8a, g8s, g8z]; rfl) (fun K hK => ?_) AllReadyH.nil)
  rw [if_pos (by rfl)]
  go_simp
  refine (start7_any B m d q j _ (by omega) (by omega) (by omega)).mono ?_
  rw [show (m : Int) - q = (N2 : Int) from by omega]
  rintro e w2 ⟨rfl, hb⟩
  replace FA := Lib.hid (FA.out.below hb FA.out.lt)
  replace FB := Lib.hid (FB.out.below hb FB.out.lt)
  replace FD := Lib.hid (FD.out.below hb FD.out.lt)
  replace BW := Lib.hid (bthen BW.out hb)
  clear a0 a1 a2 hla b0 b1 b2 hlb d0 d1 d2 hld
  clear hb
  obtain ⟨⟨a0, a1, a2⟩, _, hla⟩ := FA.out.c3
  obtain ⟨⟨b0, b1, b2⟩, _, hlb⟩ := FB.out.c3
  obtain ⟨⟨d0, d1, d2⟩, _, hld⟩ := FD.out.c3
  refine hK.out _ _ (by exact ⟨a0, a1, a2, b0, b1, b2, d0, d1, d2⟩) (fun hHeld => ?_)
  clear hK K
  (try simp only [Act.put]); try simp only [g8b, g8c, g8d]
  refine wpAnyH_take (i := 4) (oi := _) (v := ?_) (by simp only [g8a, g8s, g8z]; rfl) (by kernel_rfl) (by kernel_rfl) (by kernel_rfl) (by exact fun _ _ _ h => h) (Or.inl ⟨by rfl, ?_⟩) (by assumption) ?_
  rotate_left 1
  · (intro w hSw; (try dsimp only at hSw); go_simp; try with_reducible rfl)
  all_goals ((try simp only [Act.put]); try simp only [g8b, g8c, g8d])
  refine wpAnyH_ready (rs := [6]) (by kernel_rfl) (by simp) ?_
  refine (AllReadyH.cons (by simp only [g8a, g8s, g8z]; rfl) (fun K hK => ?_) AllReadyH.nil)
  rw [if_pos (by rfl)]
  go_simp
  refine (start7_any D k s r z _ (by omega) (by omega) (by omega)).mono ?_
  rw [show (k : Int) - r = (N3 : Int) from by omega]
  rintro e w3 ⟨rfl, hb⟩
  replace FA := Lib.hid (FA.out.below hb FA.out.lt)
  replace FB := Lib.hid (FB.out.below hb FB.out.lt)
  replace FD := Lib.hid (FD.out.below hb FD.out.lt)
  replace BW := Lib.hid (bthen BW.out hb)
  clear a0 a1 a2 hla b0 b1 b2 hlb d0 d1 d2 hld
  clear hb
  obtain ⟨⟨a0, a1, a2⟩, _, hla⟩ := FA.out.c3
  obtain ⟨⟨b0, b1, b2⟩, _, hlb⟩ := FB.out.c3
  obtain ⟨⟨d0, d1, d2⟩, _, hld⟩ := FD.out.c3
  refine hK.out _ _ (by exact ⟨a0, a1, a2, b0, b1, b2, d0, d1, d2⟩) (fun hHeld => ?_)
  clear hK K
  (try simp only [Act.put]); try simp only [g8b, g8c, g8d]
  refine wpAnyH_take (i := 7) (oi := _) (v := ?_) (by simp only [g8a, g8s, g8z]; rfl) (by kernel_rfl) (by kernel_rfl) (by kernel_rfl) (by exact fun _ _ _ h => h) (Or.inl ⟨by rfl, ?_⟩) (by assumption) ?_
  rotate_left 1
  · (intro w hSw; (try dsimp only at hSw); go_simp; try with_reducible rfl)
  all_goals ((try simp only [Act.put]); try simp only [g8b, g8c, g8d])
  refine wpAnyH_take (i := 9) (oi := _) (v := ?_) (by simp only [g8a, g8s, g8z]; rfl) (by kernel_rfl) (by kernel_rfl) (by kernel_rfl) (by exact fun _ _ _ h => h) (Or.inl ⟨by rfl, ?_⟩) (by assumption) ?_
  rotate_left 1
  · (intro w hSw; (try dsimp only at hSw); go_simp; try with_reducible rfl)
  all_goals ((try simp only [Act.put]); try simp only [g8b, g8c, g8d])
  refine wpAnyH_take (i := 10) (oi := _) (v := ?_) (by simp only [g8a, g8s, g8z]; rfl) (by kernel_rfl) (by kernel_rfl) (by kernel_rfl) (by exact fun _ _ _ h => h) (Or.inl ⟨by rfl, ?_⟩) (by assumption) ?_
  rotate_left 1
  · (intro w hSw; (try dsimp only at hSw); go_simp; try with_reducible rfl)
  all_goals ((try simp only [Act.put]); try simp only [g8b, g8c, g8d])
  refine wpAnyH_done (by kernel_rfl) ?_ _
  go_wp2_with fail
  go_ret
  exact ⟨rfl, BW.out⟩
end Go.Proofs.Ytbkimphcmmmaiaa
namespace Go.Proofs.Ytbkimphcmmmaiaa
set_option linter.unusedVariables false

theorem spok_iff {a b r : Cv} (ha : a.Ok) (hb : b.Ok) (hr : r.Ok) (hn : NF r.at r) (H : CvF a b r.at) {t x : Nat} {must : Bool} (hm : must = true ↔ cvH a b r ≤ t) (hx : x ≤ t) :
    (pl (a.at x) (b.at (t - x)) = r.at t ∧ (must = false ∨ r.at t = inf ∨ RepQ a b (slopeQ a b) t x)) ↔ SpOk a b r t x := by
  have hf := cp_fin ha hb hr H
  have hmf : must = false ↔ t < cvH a b r := by
    cases must
    · have h1 : ¬ cvH a b r ≤ t := fun h => Bool.noConfusion (hm.2 h)
      exact ⟨fun _ => by omega, fun _ => rfl⟩
    · have h1 := hm.1 rfl
      exact ⟨fun h => Bool.noConfusion h, fun h => by omega⟩
  have key : cvH a b r ≤ t → r.at t ≠ inf → gnl r (ordC a b) = slopeQ a b := fun h1 h2 => by
    have fr : r.Fin := by
      rcases hr.fin_or with h | h
      · exact h
      · exact absurd (hr.infAt_start h (n := t) (by unfold cvH at h1; have : cst r = r.vals.length - r.per.toNat := rfl; omega)).2 h2
    rw [slopeQ_yes (hf.1 fr)]
    exact (cp_gnl ha hb fr hn H).2
  constructor
  · rintro ⟨h1, h2⟩
    refine ⟨hx, h1, ?_⟩
    by_cases h3 : t < cvH a b r
    · exact .inl h3
    by_cases h4 : r.at t = inf
    · exact .inr (.inl h4)
    rcases h2 with h2 | h2 | h2
    · exact absurd (hmf.1 h2) h3
    · exact absurd h2 h4
    · refine .inr (.inr ?_)
      unfold Rep
      rw [key (by omega) h4]; exact h2
  · rintro ⟨_, h1, h2⟩
    refine ⟨h1, ?_⟩
    by_cases h3 : t < cvH a b r
    · exact .inl (hmf.2 h3)
    by_cases h4 : r.at t = inf
    · exact .inr (.inl h4)
    rcases h2 with h2 | h2 | h2
    · exact absurd h2 h3
    · exact absurd h2 h4
    · refine .inr (.inr ?_)
      unfold Rep at h2
      rw [key (by omega) h4] at h2; exact h2
theorem ref_split {a b r : Cv} (ha : a.Ok) (hb : b.Ok) (hr : r.Ok) (hn : NF r.at r) (H : CvF a b r.at) {t : Nat} {must : Bool} {v : Int} (hm : must = true ↔ cvH a b r ≤ t) (ht : t ≤ 2000) (hS : SplitR a b (r.at t) (slopeQ a b) t must v) :
    ∃ u : Nat, v = u ∧ SpOk a b r t u ∧ ∀ x, x < u → ¬ SpOk a b r t x := by
  rcases hS with ⟨s, rfl, hs, h1, h2⟩ | ⟨_, h⟩
  · exact ⟨s, rfl, (spok_iff ha hb hr hn H hm hs).1 h1, fun x hx h => h2 x hx ((spok_iff ha hb hr hn H hm (by omega)).2 h)⟩
  · obtain ⟨s, hs⟩ := cp_split ha hb hr hn H ht
    exact absurd ((spok_iff ha hb hr hn H hm hs.1).2 hs) (h s hs.1)
end Go.Proofs.Ytbkimphcmmmaiaa
namespace Go.Proofs.Ytbkimphcmmmaiaa
open Go.RowKit
set_option linter.unusedVariables false
set_option maxHeartbeats 4000000 in
set_option maxRecDepth 100000 in
theorem prove7_any (A B : Option Addr) (n m c d : Nat) (p i q j : Int) (xs ys : List Int) (w : World) (hA : Ints w w.heap.size A n xs) (hB : Ints w w.heap.size B m ys) (hn : (n : Int) ≤ 1000000) (hm : (m : Int) ≤ 1000000) (hnc : n ≤ c) (hmd : m ≤ d) :
    Calls Try.prog 52 #[.agg #[.slice A n c, .int .i64 p, .int .i64 i], .agg #[.slice B m d, .int .i64 q, .int .i64 j]] w (RetSp (PvS ⟨xs, p, i⟩ ⟨ys, q, j⟩) w) := by
  have P := Lib.hid ((PT.new (c := c) (p := p) (i := i) (d := d) (q := q) (j := j) hA hB).alloc (.cells #[.slice none 0 0, .int .i64 0, .int .i64 0, .int .i64 0, .slice none 0 0] 56))
  have rb := Blk.new ((w.alloc (.cells #[.slice A n c, .int .i64 p, .int .i64 i] 31)).alloc (.cells #[.slice B m d, .int .i64 q, .int .i64 j] 31)) 56 #[.slice none 0 0, .int .i64 0, .int .i64 0, .int .i64 0, .slice none 0 0]
  rw [World.size_alloc, World.size_alloc] at rb
  have RB := Lib.hid rb
  have HNC := Lib.hid hnc; have HMD := Lib.hid hmd
  clear hA hB rb hnc hmd
  go_enter Try.func52, Try.ntmps52
  go_wp2_with fail
  refine (refCv7_any A B n m c d p i q j xs ys _ P.out.ia P.out.ib hn hm HNC.out HMD.out).mono ?_
  rintro e w1 ⟨h, er, A5, n5, c5, hS, hc5, rfl, hI, hA, hb⟩
  simp only [World.size_alloc] at hA
  have hs1 : w.heap.size + 1 + 1 < w1.heap.size := by have := hb.size; simp only [World.size_alloc] at this; omega
  have HS := Lib.hid hS; have HC5 := Lib.hid hc5
  have RB := Lib.hid ((RB.out.below hb RB.out.lt).alloc (.cells #[.slice A5 n5 c5, .int .i64 h.per, .int .i64 h.inc] 31))
  have P := Lib.hid ((P.out.below hb).alloc (.cells #[.slice A5 n5 c5, .int .i64 h.per, .int .i64 h.inc] 31))
  have FH := Lib.hid (By.new (L := w.heap.size + 1 + 1 + 1) (f := h) (c := c5) hI hA (Nat.le_refl _) (by omega))
  clear hS hI hA hb hc5
  go_upto_region 2 with fail
  generalize hwe : w1.alloc (.cells #[.slice A5 n5 c5, .int .i64 h.per, .int .i64 h.inc] 31) = we at *
  clear hwe
  generalize w1.heap.size = QH at *
  by_cases her : er = 0
  case neg =>
    have de : (er != 0) = true := by simpa using her
    obtain ⟨⟨r0, r1, r2, r3, r4⟩, ⟨y0, y1, y2, y3, y4⟩, hlr⟩ := RB.out.d5
    have F := Lib.hid (show PvS ⟨xs, p, i⟩ ⟨ys, q, j⟩ h 0 [] er from ⟨HS.out, .inl ⟨her, rfl, rfl⟩⟩)
    have F0 := Lib.hid (show h = Cv.none from by
      rcases HS.out with ⟨_, h1, _⟩ | ⟨_, _, a, b, _, _, ⟨_, h1, _⟩ | ⟨_, h0, _, hM⟩⟩
      · exact h1
      · exact h1
      · rcases hM with ⟨_, _, h1⟩ | ⟨_, h1, _⟩
        · exact absurd h1 her
        · exact h1)
    clear her
    go_wp2_with fail
    have rb := RB.out.store5 (.slice none 0 0) (.int .i64 0) (.int .i64 0) (.int .i64 0) (.slice none 0 0)
    have FF := F.out
    rw [F0.out] at FF
    exact bodyPost_ret (v := .tuple #[.agg #[.slice none 0 0, .int .i64 0, .int .i64 0, .int .i64 0, .slice none 0 0], .int .i64 er]) (by simp [results, Try.results52, go_sem, rb.cell]) rfl
      ⟨Cv.none, 0, [], er, FF, none, 0, 0, none, 0, 0, Nat.le_refl 0, Nat.le_refl 0, rfl, Ints.none_, Ints.none_, (fun b off s h => by cases h), (fun b off s h => by cases h), bsto P.out.bw (Sto.five _ _ _ _ _ _ _) (by omega)⟩
  case pos =>
  subst her
  have hP := P.out
  obtain ⟨f0, f1, f2, g0, g1, g2, hlf, hlg⟩ : _ ∧ _ ∧ _ ∧ _ ∧ _ ∧ _ ∧ w.heap.size < we.heap.size ∧ w.heap.size + 1 < we.heap.size := ⟨hP.fb.cell 0, hP.fb.cell 1, hP.fb.cell 2, hP.gb.cell 0, hP.gb.cell 1, hP.gb.cell 2, hP.fb.lt, hP.gb.lt⟩
  simp at f0 f1 f2 g0 g1 g2
  clear hP
  go_wp2_with fail
  refine (refPair_any A B n m c d p i q j xs ys _ P.out.ia P.out.ib hn hm HNC.out HMD.out).mono ?_
  rintro e w2 ⟨a, b, l, ep, A1, n1, c1, A2, n2, c2, hR, rfl, hI1, hI2, hA1, hA2, hb⟩
  obtain ⟨hf, hg, a', b', hna', hnb', hao, hbo, hcc, hho, hhn, hCF, _⟩ := cvS_nf HS.out
  have HQ := hR
  rcases hR with ⟨h1, _⟩ | ⟨_, _, hna, hnb, _, _, ⟨h1, _⟩ | ⟨_, hl, _⟩⟩
  · exact absurd ⟨hf, hg⟩ h1
  · rw [hna.unique hna', hnb.unique hnb'] at h1; omega
  obtain rfl := hna.unique hna'
  obtain rfl := hnb.unique hnb'
  clear HQ hna' hnb'
  obtain ⟨C, hC⟩ : ∃ C : Nat, C = comm a.per.toNat b.per.toNat := ⟨_, rfl⟩
  rw [← hC] at hl hcc
  obtain rfl := hl
  have HC := Lib.hid (show C = ordC a b from hC)
  have NA := Lib.hid hna; have NB := Lib.hid hnb; have AO := Lib.hid hao; have BO := Lib.hid hbo; have HO := Lib.hid hho; have HN := Lib.hid hhn; have CF := Lib.hid hCF
  have hs2 := FH.out.lt
  have hs3 := hb.size
  have RB := Lib.hid (((RB.out.below hb RB.out.lt).alloc (.cells #[.slice A1 n1 c1, .int .i64 a.per, .int .i64 a.inc] 31)).alloc (.cells #[.slice A2 n2 c2, .int .i64 b.per, .int .i64 b.inc] 31))
  have P := Lib.hid (((P.out.below hb).alloc (.cells #[.slice A1 n1 c1, .int .i64 a.per, .int .i64 a.inc] 31)).alloc (.cells #[.slice A2 n2 c2, .int .i64 b.per, .int .i64 b.inc] 31))
  have FH := Lib.hid (((FH.out.below hb).alloc (.cells #[.slice A1 n1 c1, .int .i64 a.per, .int .i64 a.inc] 31)).alloc (.cells #[.slice A2 n2 c2, .int .i64 b.per, .int .i64 b.inc] 31))
  have FA := Lib.hid ((By.new (L := QH + 1) (c := c1) hI1 hA1 (by omega) (by omega)).alloc (.cells #[.slice A2 n2 c2, .int .i64 b.per, .int .i64 b.inc] 31))
  have fb := By.new (L := QH + 1) (f := b) (c := c2) (hI2.alloc' (.cells #[.slice A1 n1 c1, .int .i64 a.per, .int .i64 a.inc] 31)) hA2 (by omega) (by simp only [World.size_alloc]; omega)
  simp only [World.size_alloc] at fb
  have FB := Lib.hid fb
  clear hna hnb hao hbo hho hhn hCF hC hf hg hI1 hI2 hA1 hA2 hb fb f0 f1 f2 g0 g1 g2 hlf hlg
  go_upto_region 5 with fail
  generalize hwz : (w2.alloc (.cells #[.slice A1 n1 c1, .int .i64 a.per, .int .i64 a.inc] 31)).alloc (.cells #[.slice A2 n2 c2, .int .i64 b.per, .int .i64 b.inc] 31) = wz at *
  clear hwz
  generalize w2.heap.size = QA at *
  have hsz : QA + 1 < wz.heap.size := FB.out.lt
  have a1 := AO.out.n1; have a2 := AO.out.n2; have a3 := AO.out.p1; have a4 := AO.out.p2; have a5 := AO.out.pn; have a6 := AO.out.i1; have a7 := AO.out.i2
  have b1 := BO.out.n1; have b2 := BO.out.n2; have b3 := BO.out.p1; have b4 := BO.out.p2; have b5 := BO.out.pn; have b6 := BO.out.i1; have b7 := BO.out.i2
  have h1 := HO.out.n1; have h2 := HO.out.n2; have h3 := HO.out.p1; have h4 := HO.out.p2; have h5 := HO.out.pn; have h6 := HO.out.i1; have h7 := HO.out.i2
  have hl1 : a.vals.length = n1 := FA.out.ints.1
  have hl2 : b.vals.length = n2 := FB.out.ints.1
  have hl5 : h.vals.length = n5 := FH.out.ints.1
  rw [hl1] at a1 a2 a5
  rw [hl2] at b1 b2 b5
  rw [hl5] at h1 h2 h5
  have ca : ((cst a : Nat) : Int) = (n1 : Int) - a.per := by unfold cst; rw [hl1]; omega
  have cb : ((cst b : Nat) : Int) = (n2 : Int) - b.per := by unfold cst; rw [hl2]; omega
  have ch : ((cst h : Nat) : Int) = (n5 : Int) - h.per := by unfold cst; rw [hl5]; omega
  obtain ⟨N, hN⟩ : ∃ N : Nat, N = max (cst a + cst b) (cst h) + C := ⟨_, rfl⟩
  have NH := Lib.hid (show N = cvH a b h from by rw [hN, HC.out]; rfl)
  have CA := Lib.hid ca; have CB := Lib.hid cb; have CH' := Lib.hid ch; have HNN := Lib.hid hN
  have hN9 : N ≤ 920 := by omega
  clear hl1 hl2 hl5 ca cb ch hN
  obtain ⟨⟨x0, x1, x2⟩, _, hlx⟩ := FA.out.blk.c3
  obtain ⟨⟨y0, y1, y2⟩, _, hly⟩ := FB.out.blk.c3
  go_wp2_with fail
  refine (slope7_any A1 A2 n1 n2 c1 c2 a b C _ (by exact FA.out.ints) (by exact FB.out.ints) AO.out BO.out HC.out hcc).mono ?_
  rintro e w3 ⟨q', zz, hq, hz, rfl, hb⟩
  have SQ := Lib.hid hq
  have RB := Lib.hid (RB.out.below hb RB.out.lt)
  have P := Lib.hid (P.out.below hb)
  have FH := Lib.hid (FH.out.below hb); have FA := Lib.hid (FA.out.below hb); have FB := Lib.hid (FB.out.below hb)
  have hsz2 : QA + 1 < w3.heap.size := by have := hb.size; omega
  clear hq hz hb x0 x1 x2 hlx y0 y1 y2 hly
  go_upto_region 6 with fail
  go_cut [14] (fun s14 wx => ∃ QO : Nat, s14 = .pointer (some ⟨QO, 0, none⟩) ∧ QA + 1 < QO ∧ QH < QO ∧ Blk wx QO 56 #[.slice A5 n5 c5, .int .i64 h.per, .int .i64 h.inc, .int .i64 (N : Int), .slice none 0 0] ∧ By (w.heap.size + 1 + 1 + 1) wx QH A5 n5 c5 h ∧ By (QH + 1) wx QA A1 n1 c1 a ∧ By (QH + 1) wx (QA + 1) A2 n2 c2 b ∧ Blk wx (w.heap.size + 1 + 1) 56 #[.slice none 0 0, .int .i64 0, .int .i64 0, .int .i64 0, .slice none 0 0] ∧ PT w wx A n c p i xs B m d q j ys)
  case first =>
    have FA := Lib.hid FA.out.drew; have FB := Lib.hid FB.out.drew; have FH := Lib.hid FH.out.drew; have RB := Lib.hid (Blk.drew RB.out); have P := Lib.hid P.out.drew
    obtain ⟨⟨x0, x1, x2⟩, _, hlx⟩ := FA.out.blk.c3
    obtain ⟨⟨y0, y1, y2⟩, _, hly⟩ := FB.out.blk.c3
    obtain ⟨⟨z0, z1, z2⟩, _, hlz⟩ := FH.out.blk.c3
    refine wp_region_held_drew (S := fun w' => w'.cell? ⟨QA, 0, none⟩ = some (.slice A1 n1 c1) ∧ w'.cell? ⟨QA, 1, none⟩ = some (.int .i64 a.per) ∧ w'.cell? ⟨QA, 2, none⟩ = some (.int .i64 a.inc) ∧ w'.cell? ⟨QA + 1, 0, none⟩ = some (.slice A2 n2 c2) ∧ w'.cell? ⟨QA + 1, 1, none⟩ = some (.int .i64 b.per) ∧ w'.cell? ⟨QA + 1, 2, none⟩ = some (.int .i64 b.inc) ∧ w'.cell? ⟨QH, 0, none⟩ = some (.slice A5 n5 c5) ∧ w'.cell? ⟨QH, 1, none⟩ = some (.int .i64 h.per) ∧ w'.cell? ⟨QH, 2, none⟩ = some (.int .i64 h.inc)) (by kernel_rfl) (by exact ⟨x0, x1, x2, y0, y1, y2, z0, z1, z2⟩) (fun hHeld => ?_)
    generalize hwd : w3.drew = wd at *
    clear hwd
    refine wpAnyH_take (i := 0) (oi := _) (v := ?_) (by simp only [g8a, g8z]; rfl) (by kernel_rfl) (by kernel_rfl) (by kernel_rfl) (by exact fun _ _ _ h => h) (Or.inl ⟨by rfl, ?_⟩) (by assumption) ?_
    rotate_left 1
    · (intro w hSw; (try dsimp only at hSw); go_simp; try with_reducible rfl)
    all_goals ((try simp only [Act.put]); try simp only [g8b, g8c, g8d])
    refine wpAnyH_take (i := 1) (oi := _) (v := ?_) (by simp only [g8a, g8s, g8z]; rfl) (by kernel_rfl) (by kernel_rfl) (by kernel_rfl) (by exact fun _ _ _ h => h) (Or.inl ⟨by rfl, ?_⟩) (by assumption) ?_
    rotate_left 1
    · (intro w hSw; (try dsimp only at hSw); go_simp; try with_reducible rfl)
    all_goals ((try simp only [Act.put]); try simp only [g8b, g8c, g8d])
    refine wpAnyH_take (i := 2) (oi := _) (v := ?_) (by simp only [g8a, g8s, g8z]; rfl) (by kernel_rfl) (by kernel_rfl) (by kernel_rfl) (by exact fun _ _ _ h => h) (Or.inl ⟨by rfl, ?_⟩) (by assumption) ?_
    rotate_left 1
    · (intro w hSw; (try dsimp only at hSw); go_simp; try with_reducible rfl)
    all_goals ((try simp only [Act.put]); try simp only [g8b, g8c, g8d])
    refine wpAnyH_take (i := 3) (oi := _) (v := ?_) (by simp only [g8a, g8s, g8z]; rfl) (by kernel_rfl) (by kernel_rfl) (by kernel_rfl) (by exact fun _ _ _ h => h) (Or.inl ⟨by rfl, ?_⟩) (by assumption) ?_
    rotate_left 1
    · (intro w hSw; (try dsimp only at hSw); go_simp; try with_reducible rfl)
    all_goals ((try simp only [Act.put]); try simp only [g8b, g8c, g8d])
    refine wpAnyH_take (i := 4) (oi := _) (v := ?_) (by simp only [g8a, g8s, g8z]; rfl) (by kernel_rfl) (by kernel_rfl) (by kernel_rfl) (by exact fun _ _ _ h => h) (Or.inl ⟨by rfl, ?_⟩) (by assumption) ?_
    rotate_left 1
    · (intro w hSw; (try dsimp only at hSw); go_simp; try with_reducible rfl)
    all_goals ((try simp only [Act.put]); try simp only [g8b, g8c, g8d])
    refine wpAnyH_ready (rs := [5, 7]) (by kernel_rfl) (by simp) ?_
    refine (AllReadyH.cons (by simp only [g8a, g8s, g8z]; rfl) (fun K hK => ?_) (AllReadyH.cons (by simp only [g8a, g8s, g8z]; rfl) (fun K hK => ?_) AllReadyH.nil))
    · rw [if_pos (by rfl)]
      go_simp
      refine (hor7_any A1 A2 A5 n1 n2 n5 c1 c2 c5 a.per a.inc b.per b.inc h.per h.inc C _ (by omega) (by omega) (by omega) (by omega) (by omega) (by omega) (by omega) (by omega) (by omega) (by omega) (cst a) (cst b) (cst h) N CA.out.symm CB.out.symm CH'.out.symm HNN.out).mono ?_
      rintro e wa ⟨rfl, hbq⟩
      try clear hHeld
      have FA := Lib.hid (FA.out.below hbq); have FB := Lib.hid (FB.out.below hbq); have FH := Lib.hid (FH.out.below hbq); have RB := Lib.hid (RB.out.below hbq RB.out.lt); have P := Lib.hid (P.out.below hbq)
      try (have ZB := Lib.hid (ZB.out.below hbq ZB.out.lt))
      clear hbq
      clear x0 x1 x2 hlx y0 y1 y2 hly z0 z1 z2 hlz
      obtain ⟨⟨x0, x1, x2⟩, _, hlx⟩ := FA.out.blk.c3
      obtain ⟨⟨y0, y1, y2⟩, _, hly⟩ := FB.out.blk.c3
      obtain ⟨⟨z0, z1, z2⟩, _, hlz⟩ := FH.out.blk.c3
      refine hK.out _ _ (by exact ⟨x0, x1, x2, y0, y1, y2, z0, z1, z2⟩) (fun hHeld => ?_)
      clear hK K
      (try simp only [Act.put]); try simp only [g8b, g8c, g8d]
      refine wpAnyH_take (i := 6) (oi := _) (v := ?_) (by simp only [g8a, g8s, g8z]; rfl) (by kernel_rfl) (by kernel_rfl) (by kernel_rfl) (by exact fun _ _ _ h => h) (Or.inl ⟨by rfl, ?_⟩) (by assumption) ?_
      rotate_left 1
      · (intro w hSw; (try dsimp only at hSw); go_simp; try with_reducible rfl)
      all_goals ((try simp only [Act.put]); try simp only [g8b, g8c, g8d])
      refine wpAnyH_ready (rs := [7]) (by kernel_rfl) (by simp) ?_
      refine (AllReadyH.cons (by simp only [g8a, g8s, g8z]; rfl) (fun K hK => ?_) AllReadyH.nil)
      rw [if_pos (by rfl)]
      go_simp
      have hbq := balloc wa (.cells #[.slice none 0 0, .int .i64 0, .int .i64 0, .int .i64 0, .slice none 0 0] 56)
      have hQ : QA + 1 < wa.heap.size := FB.out.lt
      have hQ2 : QH < wa.heap.size := FH.out.lt
      try clear hHeld
      have FA := Lib.hid (FA.out.below hbq); have FB := Lib.hid (FB.out.below hbq); have FH := Lib.hid (FH.out.below hbq); have RB := Lib.hid (RB.out.below hbq RB.out.lt); have P := Lib.hid (P.out.below hbq)
      try (have ZB := Lib.hid (ZB.out.below hbq ZB.out.lt))
      clear hbq
      clear x0 x1 x2 hlx y0 y1 y2 hly z0 z1 z2 hlz
      obtain ⟨⟨x0, x1, x2⟩, _, hlx⟩ := FA.out.blk.c3
      obtain ⟨⟨y0, y1, y2⟩, _, hly⟩ := FB.out.blk.c3
      obtain ⟨⟨z0, z1, z2⟩, _, hlz⟩ := FH.out.blk.c3
      have ZB := Lib.hid (Blk.new wa 56 #[.slice none 0 0, .int .i64 0, .int .i64 0, .int .i64 0, .slice none 0 0])
      generalize hwa : wa.alloc (.cells #[.slice none 0 0, .int .i64 0, .int .i64 0, .int .i64 0, .slice none 0 0] 56) = wb at *
      clear hwa
      generalize wa.heap.size = QO at *
      refine hK.out _ _ (by exact ⟨x0, x1, x2, y0, y1, y2, z0, z1, z2⟩) (fun hHeld => ?_)
      clear hK K
      (try simp only [Act.put]); try simp only [g8b, g8c, g8d]
      refine wpAnyH_ready (rs := [8]) (by kernel_rfl) (by simp) ?_
      refine (AllReadyH.cons (by simp only [g8a, g8s, g8z]; rfl) (fun K hK => ?_) AllReadyH.nil)
      refine step_storeN rfl 56 _ _ rfl rfl ZB.out rfl rfl (by kernel_rfl) (by simp [Value.oneCell']) ?_
      intro wz hsto rz
      have FA := Lib.hid (FA.out.sto hsto (.inl (by omega))); have FB := Lib.hid (FB.out.sto hsto (.inl (by omega))); have FH := Lib.hid (FH.out.sto hsto (.inl (by omega))); have RB := Lib.hid (RB.out.sto hsto (by omega)); have P := Lib.hid (P.out.sto hsto (by omega))
      try clear hHeld
      clear x0 x1 x2 hlx y0 y1 y2 hly z0 z1 z2 hlz
      obtain ⟨⟨x0, x1, x2⟩, _, hlx⟩ := FA.out.blk.c3
      obtain ⟨⟨y0, y1, y2⟩, _, hly⟩ := FB.out.blk.c3
      obtain ⟨⟨z0, z1, z2⟩, _, hlz⟩ := FH.out.blk.c3
      refine hK.out _ _ (by exact ⟨x0, x1, x2, y0, y1, y2, z0, z1, z2⟩) (fun hHeld => ?_)
      clear hK K
      (try simp only [Act.put]); try simp only [g8b, g8c, g8d]
      refine wpAnyH_done (by kernel_rfl) ?_ _
      try clear hHeld
      clear x0 x1 x2 hlx y0 y1 y2 hly z0 z1 z2 hlz
      go_wp2_with fail
      go_meet
      exact ⟨QO, rfl, hQ, hQ2, rz, FH.out, FA.out, FB.out, RB.out, P.out⟩
    · rw [if_pos (by rfl)]
      go_simp
      have hbq := balloc wd (.cells #[.slice none 0 0, .int .i64 0, .int .i64 0, .int .i64 0, .slice none 0 0] 56)
      have hQ : QA + 1 < wd.heap.size := FB.out.lt
      have hQ2 : QH < wd.heap.size := FH.out.lt
      try clear hHeld
      have FA := Lib.hid (FA.out.below hbq); have FB := Lib.hid (FB.out.below hbq); have FH := Lib.hid (FH.out.below hbq); have RB := Lib.hid (RB.out.below hbq RB.out.lt); have P := Lib.hid (P.out.below hbq)
      try (have ZB := Lib.hid (ZB.out.below hbq ZB.out.lt))
      clear hbq
      clear x0 x1 x2 hlx y0 y1 y2 hly z0 z1 z2 hlz
      obtain ⟨⟨x0, x1, x2⟩, _, hlx⟩ := FA.out.blk.c3
      obtain ⟨⟨y0, y1, y2⟩, _, hly⟩ := FB.out.blk.c3
      obtain ⟨⟨z0, z1, z2⟩, _, hlz⟩ := FH.out.blk.c3
      have ZB := Lib.hid (Blk.new wd 56 #[.slice none 0 0, .int .i64 0, .int .i64 0, .int .i64 0, .slice none 0 0])
      generalize hwa : wd.alloc (.cells #[.slice none 0 0, .int .i64 0, .int .i64 0, .int .i64 0, .slice none 0 0] 56) = wa at *
      clear hwa
      generalize wd.heap.size = QO at *
      refine hK.out _ _ (by exact ⟨x0, x1, x2, y0, y1, y2, z0, z1, z2⟩) (fun hHeld => ?_)
      clear hK K
      (try simp only [Act.put]); try simp only [g8b, g8c, g8d]
      refine wpAnyH_ready (rs := [5]) (by kernel_rfl) (by simp) ?_
      refine (AllReadyH.cons (by simp only [g8a, g8s, g8z]; rfl) (fun K hK => ?_) AllReadyH.nil)
      rw [if_pos (by rfl)]
      go_simp
      refine (hor7_any A1 A2 A5 n1 n2 n5 c1 c2 c5 a.per a.inc b.per b.inc h.per h.inc C _ (by omega) (by omega) (by omega) (by omega) (by omega) (by omega) (by omega) (by omega) (by omega) (by omega) (cst a) (cst b) (cst h) N CA.out.symm CB.out.symm CH'.out.symm HNN.out).mono ?_
      rintro e wb ⟨rfl, hbq⟩
      try clear hHeld
      have FA := Lib.hid (FA.out.below hbq); have FB := Lib.hid (FB.out.below hbq); have FH := Lib.hid (FH.out.below hbq); have RB := Lib.hid (RB.out.below hbq RB.out.lt); have P := Lib.hid (P.out.below hbq)
      try (have ZB := Lib.hid (ZB.out.below hbq ZB.out.lt))
      clear hbq
      clear x0 x1 x2 hlx y0 y1 y2 hly z0 z1 z2 hlz
      obtain ⟨⟨x0, x1, x2⟩, _, hlx⟩ := FA.out.blk.c3
      obtain ⟨⟨y0, y1, y2⟩, _, hly⟩ := FB.out.blk.c3
      obtain ⟨⟨z0, z1, z2⟩, _, hlz⟩ := FH.out.blk.c3
      refine hK.out _ _ (by exact ⟨x0, x1, x2, y0, y1, y2, z0, z1, z2⟩) (fun hHeld => ?_)
      clear hK K
      (try simp only [Act.put]); try simp only [g8b, g8c, g8d]
      refine wpAnyH_take (i := 6) (oi := _) (v := ?_) (by simp only [g8a, g8s, g8z]; rfl) (by kernel_rfl) (by kernel_rfl) (by kernel_rfl) (by exact fun _ _ _ h => h) (Or.inl ⟨by rfl, ?_⟩) (by assumption) ?_
      rotate_left 1
      · (intro w hSw; (try dsimp only at hSw); go_simp; try with_reducible rfl)
      all_goals ((try simp only [Act.put]); try simp only [g8b, g8c, g8d])
      refine wpAnyH_ready (rs := [8]) (by kernel_rfl) (by simp) ?_
      refine (AllReadyH.cons (by simp only [g8a, g8s, g8z]; rfl) (fun K hK => ?_) AllReadyH.nil)
      refine step_storeN rfl 56 _ _ rfl rfl ZB.out rfl rfl (by kernel_rfl) (by simp [Value.oneCell']) ?_
      intro wz hsto rz
      have FA := Lib.hid (FA.out.sto hsto (.inl (by omega))); have FB := Lib.hid (FB.out.sto hsto (.inl (by omega))); have FH := Lib.hid (FH.out.sto hsto (.inl (by omega))); have RB := Lib.hid (RB.out.sto hsto (by omega)); have P := Lib.hid (P.out.sto hsto (by omega))
      try clear hHeld
      clear x0 x1 x2 hlx y0 y1 y2 hly z0 z1 z2 hlz
      obtain ⟨⟨x0, x1, x2⟩, _, hlx⟩ := FA.out.blk.c3
      obtain ⟨⟨y0, y1, y2⟩, _, hly⟩ := FB.out.blk.c3
      obtain ⟨⟨z0, z1, z2⟩, _, hlz⟩ := FH.out.blk.c3
      refine hK.out _ _ (by exact ⟨x0, x1, x2, y0, y1, y2, z0, z1, z2⟩) (fun hHeld => ?_)
      clear hK K
      (try simp only [Act.put]); try simp only [g8b, g8c, g8d]
      refine wpAnyH_done (by kernel_rfl) ?_ _
      try clear hHeld
      clear x0 x1 x2 hlx y0 y1 y2 hly z0 z1 z2 hlz
      go_wp2_with fail
      go_meet
      exact ⟨QO, rfl, hQ, hQ2, rz, FH.out, FA.out, FB.out, RB.out, P.out⟩
  case rest =>
  clear FA FB FH RB P
  obtain ⟨QO, rfl, hQ, hQ2, hO, hFH, hFA, hFB, hRB, hP⟩ := hcut
  have OB := Lib.hid hO; have FH := Lib.hid hFH; have FA := Lib.hid hFA; have FB := Lib.hid hFB; have RB := Lib.hid hRB; have P := Lib.hid hP
  clear hO hFH hFA hFB hRB hP
  obtain ⟨NC, hNC⟩ : ∃ NC : Nat, NC = N + C := ⟨_, rfl⟩
  have hcc' : C ≤ 120 := hcc
  have e1 : IntKind.i64.wrap ((N : Int) + (C : Int)) = (NC : Int) := by rw [IntWalk.i64_in _ (by omega)]; omega
  have e2 : (N : Int) + (C : Int) = (NC : Int) := by omega
  have HNC2 := Lib.hid hNC
  have hNC9 : NC ≤ 1040 := by omega
  clear hNC
  go_wp2_with fail
  go_loopg [15] NC (fun gg s15 wx => ∃ (t : Nat) (Am : Option Addr) (cm : Nat) (cs : List Int), t + gg = NC ∧ s15 = .int .i64 t ∧ (∀ k, k < t → ∃ u : Nat, nth cs k = u ∧ SpOk a b h k u ∧ ∀ x, x < u → ¬ SpOk a b h k x) ∧ Blk wx QO 56 #[.slice A5 n5 c5, .int .i64 h.per, .int .i64 h.inc, .int .i64 (N : Int), .slice Am t cm] ∧ Own wx (QO + 1) (.slice Am t cm) t cs ∧
    By (w.heap.size + 1 + 1 + 1) wx QH A5 n5 c5 h ∧ By (QH + 1) wx QA A1 n1 c1 a ∧ By (QH + 1) wx (QA + 1) A2 n2 c2 b ∧ Blk wx (w.heap.size + 1 + 1) 56 #[.slice none 0 0, .int .i64 0, .int .i64 0, .int .i64 0, .slice none 0 0] ∧ PT w wx A n c p i xs B m d q j ys)
  case atStart => exact ⟨0, none, 0, [], by omega, rfl, (fun k hk => by omega), OB.out, Own.nil_ _ _, FH.out, FA.out, FB.out, RB.out, P.out⟩
  case round =>
    clear OB FH FA FB RB P
    obtain ⟨t, Am, cm, cs, htg, rfl, hall, hO, hW, hFH, hFA, hFB, hRB, hP⟩ := hrel
    have ALL := Lib.hid hall; have OB := Lib.hid hO; have OWN := Lib.hid hW; have FH := Lib.hid hFH; have FA := Lib.hid hFA; have FB := Lib.hid hFB; have RB := Lib.hid hRB; have P := Lib.hid hP
    clear hall hO hW hFH hFA hFB hRB hP
    by_cases ht : t < NC
    · have hti : (t : Int) < NC := by omega
      obtain ⟨must, hmust⟩ : ∃ must : Bool, must = decide (N ≤ t) := ⟨_, rfl⟩
      have HM := Lib.hid (show must = true ↔ cvH a b h ≤ t from by rw [hmust, ← NH.out]; simp)
      have dm1 : decide ((N : Int) ≤ (t : Int)) = must := by rw [hmust]; simp
      have dm2 : decide ((t : Int) ≥ (N : Int)) = must := by rw [hmust]; simp
      have dm3 : decide (N ≤ t) = must := hmust.symm
      obtain ⟨va, hva⟩ : ∃ va, va = h.at t := ⟨_, rfl⟩
      have HV := Lib.hid hva
      clear hva hmust ht
      obtain ⟨⟨o0, o1, o2, o3, o4⟩, ⟨v0, v1, v2, v3, v4⟩, hlo⟩ := OB.out.d5
      go_upto_region 10 with fail
      clear o0 o1 o2 o3 o4 v0 v1 v2 v3 v4 hlo
      have FA := Lib.hid FA.out.drew; have FB := Lib.hid FB.out.drew; have FH := Lib.hid FH.out.drew; have RB := Lib.hid (Blk.drew RB.out); have P := Lib.hid P.out.drew; have OB := Lib.hid (Blk.drew OB.out); have OWN := Lib.hid OWN.out.drew
      obtain ⟨⟨x0, x1, x2⟩, _, hlx⟩ := FA.out.blk.c3
      obtain ⟨⟨y0, y1, y2⟩, _, hly⟩ := FB.out.blk.c3
      obtain ⟨⟨z0, z1, z2⟩, _, hlz⟩ := FH.out.blk.c3
      obtain ⟨⟨o0, o1, o2, o3, o4⟩, ⟨v0, v1, v2, v3, v4⟩, hlo⟩ := OB.out.d5
      refine wp_region_T (fun w' => w'.cell? ⟨QA, 0, none⟩ = some (.slice A1 n1 c1) ∧ w'.cell? ⟨QA, 1, none⟩ = some (.int .i64 a.per) ∧ w'.cell? ⟨QA, 2, none⟩ = some (.int .i64 a.inc) ∧ w'.cell? ⟨QA + 1, 0, none⟩ = some (.slice A2 n2 c2) ∧ w'.cell? ⟨QA + 1, 1, none⟩ = some (.int .i64 b.per) ∧ w'.cell? ⟨QA + 1, 2, none⟩ = some (.int .i64 b.inc) ∧ w'.cell? ⟨QH, 0, none⟩ = some (.slice A5 n5 c5) ∧ w'.cell? ⟨QH, 1, none⟩ = some (.int .i64 h.per) ∧ w'.cell? ⟨QH, 2, none⟩ = some (.int .i64 h.inc) ∧ w'.cell? ⟨QO, 3, none⟩ = some (.int .i64 (N : Int))) (fun w' => w'.cell? ⟨QO, 4, none⟩ = some (.slice Am t cm)) 16 (by kernel_rfl) (by exact ⟨x0, x1, x2, y0, y1, y2, z0, z1, z2, o3⟩) (by exact o4) (fun _ => ?_)
      clear x0 x1 x2 hlx y0 y1 y2 hly z0 z1 z2 hlz
      clear o0 o1 o2 o3 o4 v0 v1 v2 v3 v4 hlo
      generalize hwd : wr.drew = wd at *
      clear hwd
      obtain ⟨⟨x0, x1, x2⟩, _, hlx⟩ := FA.out.blk.c3
      obtain ⟨⟨y0, y1, y2⟩, _, hly⟩ := FB.out.blk.c3
      obtain ⟨⟨z0, z1, z2⟩, _, hlz⟩ := FH.out.blk.c3
      obtain ⟨⟨o0, o1, o2, o3, o4⟩, ⟨v0, v1, v2, v3, v4⟩, hlo⟩ := OB.out.d5
      have hF : (wd.cell? ⟨QA, 0, none⟩ = some (.slice A1 n1 c1) ∧ wd.cell? ⟨QA, 1, none⟩ = some (.int .i64 a.per) ∧ wd.cell? ⟨QA, 2, none⟩ = some (.int .i64 a.inc) ∧ wd.cell? ⟨QA + 1, 0, none⟩ = some (.slice A2 n2 c2) ∧ wd.cell? ⟨QA + 1, 1, none⟩ = some (.int .i64 b.per) ∧ wd.cell? ⟨QA + 1, 2, none⟩ = some (.int .i64 b.inc) ∧ wd.cell? ⟨QH, 0, none⟩ = some (.slice A5 n5 c5) ∧ wd.cell? ⟨QH, 1, none⟩ = some (.int .i64 h.per) ∧ wd.cell? ⟨QH, 2, none⟩ = some (.int .i64 h.inc) ∧ wd.cell? ⟨QO, 3, none⟩ = some (.int .i64 (N : Int))) := ⟨x0, x1, x2, y0, y1, y2, z0, z1, z2, o3⟩
      have hG := o4
      refine wpAnyT_take (i := 0) (oi := _) (v := ?_) (by simp only [g8a, g8z]; rfl) (by kernel_rfl) (by kernel_rfl) (by kernel_rfl) (by rfl) (by exact fun _ _ _ h => h) (Or.inl ⟨by rfl, ?_⟩) ⟨(by exact hF), fun _ => (by exact hG)⟩ (fun _ => ?_)
      rotate_left 1
      · (intro w hSw; (try dsimp only at hSw); go_simp; try with_reducible rfl)
      all_goals ((try simp only [Act.put]); try simp only [g8b, g8c, g8d])
      refine wpAnyT_takeG (i := 1) (oi := _) (v := ?_) (by simp only [g8a, g8s, g8z]; rfl) (by kernel_rfl) (by kernel_rfl) (by kernel_rfl) (by rfl) (by kernel_rfl) (by kernel_rfl) (by exact fun _ _ _ h => h) (Or.inl ⟨by rfl, ?_⟩) ⟨(by exact hF), fun _ => (by exact hG)⟩ (fun _ => ?_)
      rotate_left 1
      · (intro w hSw; (try dsimp only at hSw); go_simp; try with_reducible rfl)
      all_goals ((try simp only [Act.put]); try simp only [g8b, g8c, g8d])
      refine wpAnyT_take (i := 2) (oi := _) (v := ?_) (by simp only [g8a, g8s, g8z]; rfl) (by kernel_rfl) (by kernel_rfl) (by kernel_rfl) (by rfl) (by exact fun _ _ _ h => h) (Or.inl ⟨by rfl, ?_⟩) ⟨(by exact hF), fun _ => (by exact hG)⟩ (fun _ => ?_)
      rotate_left 1
      · (intro w hSw; (try dsimp only at hSw); go_simp; try with_reducible rfl)
      all_goals ((try simp only [Act.put]); try simp only [g8b, g8c, g8d])
      refine wpAnyT_take (i := 3) (oi := _) (v := ?_) (by simp only [g8a, g8s, g8z]; rfl) (by kernel_rfl) (by kernel_rfl) (by kernel_rfl) (by rfl) (by exact fun _ _ _ h => h) (Or.inl ⟨by rfl, ?_⟩) ⟨(by exact hF), fun _ => (by exact hG)⟩ (fun _ => ?_)
      rotate_left 1
      · (intro w hSw; (try dsimp only at hSw); go_simp; try with_reducible rfl)
      all_goals ((try simp only [Act.put]); try simp only [g8b, g8c, g8d])
      refine wpAnyT_take (i := 4) (oi := _) (v := ?_) (by simp only [g8a, g8s, g8z]; rfl) (by kernel_rfl) (by kernel_rfl) (by kernel_rfl) (by rfl) (by exact fun _ _ _ h => h) (Or.inl ⟨by rfl, ?_⟩) ⟨(by exact hF), fun _ => (by exact hG)⟩ (fun _ => ?_)
      rotate_left 1
      · (intro w hSw; (try dsimp only at hSw); go_simp; try with_reducible rfl)
      all_goals ((try simp only [Act.put]); try simp only [g8b, g8c, g8d])
      refine wpAnyT_take (i := 5) (oi := _) (v := ?_) (by simp only [g8a, g8s, g8z]; rfl) (by kernel_rfl) (by kernel_rfl) (by kernel_rfl) (by rfl) (by exact fun _ _ _ h => h) (Or.inl ⟨by rfl, ?_⟩) ⟨(by exact hF), fun _ => (by exact hG)⟩ (fun _ => ?_)
      rotate_left 1
      · (intro w hSw; (try dsimp only at hSw); go_simp; try with_reducible rfl)
      all_goals ((try simp only [Act.put]); try simp only [g8b, g8c, g8d])
      refine wpAnyT_take (i := 7) (oi := _) (v := ?_) (by simp only [g8a, g8s, g8z]; rfl) (by kernel_rfl) (by kernel_rfl) (by kernel_rfl) (by rfl) (by exact fun _ _ _ h => h) (Or.inl ⟨by rfl, ?_⟩) ⟨(by exact hF), fun _ => (by exact hG)⟩ (fun _ => ?_)
      rotate_left 1
      · (intro w hSw; (try dsimp only at hSw); go_simp; try with_reducible rfl)
      all_goals ((try simp only [Act.put]); try simp only [g8b, g8c, g8d])
      refine wpAnyT_take (i := 8) (oi := _) (v := ?_) (by simp only [g8a, g8s, g8z]; rfl) (by kernel_rfl) (by kernel_rfl) (by kernel_rfl) (by rfl) (by exact fun _ _ _ h => h) (Or.inl ⟨by rfl, ?_⟩) ⟨(by exact hF), fun _ => (by exact hG)⟩ (fun _ => ?_)
      rotate_left 1
      · (intro w hSw; (try dsimp only at hSw); go_simp; try with_reducible rfl)
      all_goals ((try simp only [Act.put]); try simp only [g8b, g8c, g8d])
      refine wpAnyT_take (i := 9) (oi := _) (v := ?_) (by simp only [g8a, g8s, g8z]; rfl) (by kernel_rfl) (by kernel_rfl) (by kernel_rfl) (by rfl) (by exact fun _ _ _ h => h) (Or.inl ⟨by rfl, ?_⟩) ⟨(by exact hF), fun _ => (by exact hG)⟩ (fun _ => ?_)
      rotate_left 1
      · (intro w hSw; (try dsimp only at hSw); go_simp; try with_reducible rfl)
      all_goals ((try simp only [Act.put]); try simp only [g8b, g8c, g8d])
      refine wpAnyT_take (i := 10) (oi := _) (v := ?_) (by simp only [g8a, g8s, g8z]; rfl) (by kernel_rfl) (by kernel_rfl) (by kernel_rfl) (by rfl) (by exact fun _ _ _ h => h) (Or.inl ⟨by rfl, ?_⟩) ⟨(by exact hF), fun _ => (by exact hG)⟩ (fun _ => ?_)
      rotate_left 1
      · (intro w hSw; (try dsimp only at hSw); go_simp; try with_reducible rfl)
      all_goals ((try simp only [Act.put]); try simp only [g8b, g8c, g8d])
      refine wpAnyT_take (i := 11) (oi := _) (v := ?_) (by simp only [g8a, g8s, g8z]; rfl) (by kernel_rfl) (by kernel_rfl) (by kernel_rfl) (by rfl) (by exact fun _ _ _ h => h) (Or.inl ⟨by rfl, ?_⟩) ⟨(by exact hF), fun _ => (by exact hG)⟩ (fun _ => ?_)
      rotate_left 1
      · (intro w hSw; (try dsimp only at hSw); go_simp; try with_reducible rfl)
      all_goals ((try simp only [Act.put]); try simp only [g8b, g8c, g8d])
      refine wpAnyT_take (i := 12) (oi := _) (v := ?_) (by simp only [g8a, g8s, g8z]; rfl) (by kernel_rfl) (by kernel_rfl) (by kernel_rfl) (by rfl) (by exact fun _ _ _ h => h) (Or.inl ⟨by rfl, ?_⟩) ⟨(by exact hF), fun _ => (by exact hG)⟩ (fun _ => ?_)
      rotate_left 1
      · (intro w hSw; (try dsimp only at hSw); go_simp; try with_reducible rfl)
      all_goals ((try simp only [Act.put]); try simp only [g8b, g8c, g8d])
      refine wpAnyT_take (i := 13) (oi := _) (v := ?_) (by simp only [g8a, g8s, g8z]; rfl) (by kernel_rfl) (by kernel_rfl) (by kernel_rfl) (by rfl) (by exact fun _ _ _ h => h) (Or.inl ⟨by rfl, ?_⟩) ⟨(by exact hF), fun _ => (by exact hG)⟩ (fun _ => ?_)
      rotate_left 1
      · (intro w hSw; (try dsimp only at hSw); go_simp; try with_reducible rfl)
      all_goals ((try simp only [Act.put]); try simp only [g8b, g8c, g8d])
      refine wpAnyT_ready (rs := [6]) (by kernel_rfl) (by simp) ?_
      refine (AllReadyT.cons (by simp only [g8a, g8s, g8z]; rfl) (fun K hK => ?_) AllReadyT.nil)
      rw [if_pos (by rfl)]
      go_simp
      refine (refAt_any A5 n5 c5 h.per h.inc t h.vals _ (by exact FH.out.ints) (by omega) (by omega) (by omega) (by omega) (by omega) HO.out.nn (by omega) (by omega)).mono ?_
      rw [Int.toNat_natCast, show Cv.at ⟨h.vals, h.per, h.inc⟩ t = va from HV.out.symm]
      rintro e wq ⟨rfl, hbq⟩
      have FA := Lib.hid (FA.out.below hbq); have FB := Lib.hid (FB.out.below hbq); have FH := Lib.hid (FH.out.below hbq); have RB := Lib.hid (RB.out.below hbq RB.out.lt); have P := Lib.hid (P.out.below hbq)
      have OB := Lib.hid (OB.out.below hbq OB.out.lt); have OWN := Lib.hid (OWN.out.below hbq (fun g hg => (OWN.out.blk_lt g hg).2))
      clear hbq hF hG
      clear x0 x1 x2 hlx y0 y1 y2 hly z0 z1 z2 hlz
      clear o0 o1 o2 o3 o4 v0 v1 v2 v3 v4 hlo
      obtain ⟨⟨x0, x1, x2⟩, _, hlx⟩ := FA.out.blk.c3
      obtain ⟨⟨y0, y1, y2⟩, _, hly⟩ := FB.out.blk.c3
      obtain ⟨⟨z0, z1, z2⟩, _, hlz⟩ := FH.out.blk.c3
      obtain ⟨⟨o0, o1, o2, o3, o4⟩, ⟨v0, v1, v2, v3, v4⟩, hlo⟩ := OB.out.d5
      have hF := And.intro x0 (And.intro x1 (And.intro x2 (And.intro y0 (And.intro y1 (And.intro y2 (And.intro z0 (And.intro z1 (And.intro z2 o3))))))))
      have hG := o4
      refine hK.out _ _ ⟨(by exact hF), fun _ => (by exact hG)⟩ (fun _ => ?_)
      clear hK K
      (try simp only [Act.put]); try simp only [g8b, g8c, g8d]
      refine wpAnyT_ready (rs := [14]) (by kernel_rfl) (by simp) ?_
      refine (AllReadyT.cons (by simp only [g8a, g8s, g8z]; rfl) (fun K hK => ?_) AllReadyT.nil)
      rw [if_pos (by rfl)]
      go_simp
      refine (split7_any A1 A2 n1 n2 c1 c2 a b C t va q' must _ (by exact FA.out.ints) (by exact FB.out.ints) AO.out BO.out HC.out hcc (by omega)).mono ?_
      rintro e wq2 ⟨z, hz, rfl, hbq⟩
      have HZ := Lib.hid hz
      clear hz
      have FA := Lib.hid (FA.out.below hbq); have FB := Lib.hid (FB.out.below hbq); have FH := Lib.hid (FH.out.below hbq); have RB := Lib.hid (RB.out.below hbq RB.out.lt); have P := Lib.hid (P.out.below hbq)
      have OB := Lib.hid (OB.out.below hbq OB.out.lt); have OWN := Lib.hid (OWN.out.below hbq (fun g hg => (OWN.out.blk_lt g hg).2))
      clear hbq hF hG
      clear x0 x1 x2 hlx y0 y1 y2 hly z0 z1 z2 hlz
      clear o0 o1 o2 o3 o4 v0 v1 v2 v3 v4 hlo
      obtain ⟨⟨x0, x1, x2⟩, _, hlx⟩ := FA.out.blk.c3
      obtain ⟨⟨y0, y1, y2⟩, _, hly⟩ := FB.out.blk.c3
      obtain ⟨⟨z0, z1, z2⟩, _, hlz⟩ := FH.out.blk.c3
      obtain ⟨⟨o0, o1, o2, o3, o4⟩, ⟨v0, v1, v2, v3, v4⟩, hlo⟩ := OB.out.d5
      have hF := And.intro x0 (And.intro x1 (And.intro x2 (And.intro y0 (And.intro y1 (And.intro y2 (And.intro z0 (And.intro z1 (And.intro z2 o3))))))))
      have hG := o4
      refine hK.out _ _ ⟨(by exact hF), fun _ => (by exact hG)⟩ (fun _ => ?_)
      clear hK K
      (try simp only [Act.put]); try simp only [g8b, g8c, g8d]
      refine wpAnyT_ready (rs := [15]) (by kernel_rfl) (by simp) ?_
      refine (AllReadyT.cons (by simp only [g8a, g8s, g8z]; rfl) (fun K hK => ?_) AllReadyT.nil)
      rw [if_pos (by rfl)]
      go_simp
      have hlit := ints_litC wq2 [z]
      have hbq := balloc wq2 (.cells ([z].map (Value.int .i64)).toArray 3)
      simp only [List.map_cons, List.map_nil] at hlit hbq
      generalize hwl : wq2.alloc (.cells [Value.int .i64 z].toArray 3) = wl at *
      clear hwl
      have FA := Lib.hid (FA.out.below hbq); have FB := Lib.hid (FB.out.below hbq); have FH := Lib.hid (FH.out.below hbq); have RB := Lib.hid (RB.out.below hbq RB.out.lt); have P := Lib.hid (P.out.below hbq)
      have OB := Lib.hid (OB.out.below hbq OB.out.lt); have OWN := Lib.hid (OWN.out.below hbq (fun g hg => (OWN.out.blk_lt g hg).2))
      clear hbq hF hG
      clear x0 x1 x2 hlx y0 y1 y2 hly z0 z1 z2 hlz
      clear o0 o1 o2 o3 o4 v0 v1 v2 v3 v4 hlo
      obtain ⟨⟨x0, x1, x2⟩, _, hlx⟩ := FA.out.blk.c3
      obtain ⟨⟨y0, y1, y2⟩, _, hly⟩ := FB.out.blk.c3
      obtain ⟨⟨z0, z1, z2⟩, _, hlz⟩ := FH.out.blk.c3
      obtain ⟨⟨o0, o1, o2, o3, o4⟩, ⟨v0, v1, v2, v3, v4⟩, hlo⟩ := OB.out.d5
      have hF := And.intro x0 (And.intro x1 (And.intro x2 (And.intro y0 (And.intro y1 (And.intro y2 (And.intro z0 (And.intro z1 (And.intro z2 o3))))))))
      have hG := o4
      refine hK.out _ _ ⟨(by exact hF), fun _ => (by exact hG)⟩ (fun _ => ?_)
      clear hK K
      (try simp only [Act.put]); try simp only [g8b, g8c, g8d]
      refine wpAnyT_ready (rs := [16]) (by kernel_rfl) (by simp) ?_
      refine (AllReadyT.cons (by simp only [g8a, g8s, g8z]; rfl) (fun K hK => ?_) AllReadyT.nil)
      refine step_app (by rfl) _ _ 22 (by rfl) Try.underlying22 (QO + 1) (.slice Am t cm) t cs (by rfl) OWN.out wl.heap.size (some ⟨wq2.heap.size, 0, none⟩) 1 1 [z] (by rfl) hlit (by omega) (by omega) ?_
      intro v9 w9 own2 grow2 at2
      have hb2 : Below (QO + 1) wl w9 := Below.grown (Below.refl _ _) grow2 (by omega) (fun g hg => (OWN.out.blk_lt g hg).1)
      clear hF hG at2 grow2 hlit
      clear x0 x1 x2 hlx y0 y1 y2 hly z0 z1 z2 hlz
      clear o0 o1 o2 o3 o4 v0 v1 v2 v3 v4 hlo
      have hpl := P.out.gb.lt
      have FA := Lib.hid (FA.out.upto hb2 (by omega)); have FB := Lib.hid (FB.out.upto hb2 (by omega)); have FH := Lib.hid (FH.out.upto hb2 (by omega)); have RB := Lib.hid (RB.out.below hb2 (by omega)); have P := Lib.hid (P.out.upto hb2 (by omega)); have OB := Lib.hid (OB.out.below hb2 (by omega))
      obtain ⟨A9, c9, rfl, hc9, hI9, hf9⟩ := own2.ints
      have OWN := Lib.hid own2
      clear own2 hb2 hI9 hf9 hc9 hpl
      obtain ⟨⟨x0, x1, x2⟩, _, hlx⟩ := FA.out.blk.c3
      obtain ⟨⟨y0, y1, y2⟩, _, hly⟩ := FB.out.blk.c3
      obtain ⟨⟨z0, z1, z2⟩, _, hlz⟩ := FH.out.blk.c3
      obtain ⟨⟨o0, o1, o2, o3, o4⟩, ⟨v0, v1, v2, v3, v4⟩, hlo⟩ := OB.out.d5
      have hF := And.intro x0 (And.intro x1 (And.intro x2 (And.intro y0 (And.intro y1 (And.intro y2 (And.intro z0 (And.intro z1 (And.intro z2 o3))))))))
      refine hK.out _ _ ⟨(by exact hF), fun h => Bool.noConfusion (show true = false from h)⟩ (fun _ => ?_)
      clear hK K
      (try simp only [Act.put]); try simp only [g8b, g8c, g8d]
      refine wpAnyT_take (i := 17) (oi := _) (v := ?_) (by simp only [g8a, g8s, g8z]; rfl) (by kernel_rfl) (by kernel_rfl) (by kernel_rfl) (by rfl) (by exact fun _ _ _ h => h) (Or.inl ⟨by rfl, ?_⟩) ⟨(by exact hF), fun h => Bool.noConfusion (show true = false from h)⟩ (fun _ => ?_)
      rotate_left 1
      · (intro w hSw; (try dsimp only at hSw); go_simp; try with_reducible rfl)
      all_goals ((try simp only [Act.put]); try simp only [g8b, g8c, g8d])
      refine wpAnyT_ready (rs := [18]) (by kernel_rfl) (by simp) ?_
      refine (AllReadyT.cons (by simp only [g8a, g8s, g8z]; rfl) (fun K hK => ?_) AllReadyT.nil)
      rw [if_pos (by rfl)]
      go_simp
      have own3 := OWN.out.far (p := ⟨QO, 4, none⟩) (fun e => by have := (OWN.out.blk_lt _ e).1; simp at this; omega) (.slice A9 (t + 1) c9)
      have OWN := Lib.hid own3
      clear own3 hF
      clear x0 x1 x2 hlx y0 y1 y2 hly z0 z1 z2 hlz
      clear o0 o1 o2 o3 o4 v0 v1 v2 v3 v4 hlo
      have FA := Lib.hid (FA.out.set1 (g := QO) (.inl (by omega)) 4 (.slice A9 (t + 1) c9)); have FB := Lib.hid (FB.out.set1 (g := QO) (.inl (by omega)) 4 (.slice A9 (t + 1) c9)); have FH := Lib.hid (FH.out.set1 (g := QO) (.inl (by omega)) 4 (.slice A9 (t + 1) c9))
      have RB := Lib.hid (RB.out.far (p := ⟨QO, 4, none⟩) (by show w.heap.size + 1 + 1 ≠ QO; omega) (.slice A9 (t + 1) c9)); have P := Lib.hid (P.out.sto ((Sto.refl QO w9).set 4 (.slice A9 (t + 1) c9)) (by omega))
      have OB := Lib.hid (show Blk _ QO 56 #[.slice A5 n5 c5, .int .i64 h.per, .int .i64 h.inc, .int .i64 (N : Int), .slice A9 (t + 1) c9] from OB.out.set_ 4 (.slice A9 (t + 1) c9))
      generalize hws : w9.setCell ⟨QO, 4, none⟩ (.slice A9 (t + 1) c9) = ws at *
      clear hws
      obtain ⟨⟨x0, x1, x2⟩, _, hlx⟩ := FA.out.blk.c3
      obtain ⟨⟨y0, y1, y2⟩, _, hly⟩ := FB.out.blk.c3
      obtain ⟨⟨z0, z1, z2⟩, _, hlz⟩ := FH.out.blk.c3
      obtain ⟨⟨o0, o1, o2, o3, o4⟩, ⟨v0, v1, v2, v3, v4⟩, hlo⟩ := OB.out.d5
      have hF := And.intro x0 (And.intro x1 (And.intro x2 (And.intro y0 (And.intro y1 (And.intro y2 (And.intro z0 (And.intro z1 (And.intro z2 o3))))))))
      refine hK.out _ _ ⟨(by exact hF), fun h => Bool.noConfusion (show true = false from h)⟩ (fun _ => ?_)
      clear hK K
      (try simp only [Act.put]); try simp only [g8b, g8c, g8d]
      refine wpAnyT_done (by kernel_rfl) ?_ _
      clear x0 x1 x2 hlx y0 y1 y2 hly z0 z1 z2 hlz
      clear o0 o1 o2 o3 o4 v0 v1 v2 v3 v4 hlo
      clear hF
      have hsr := HZ.out
      rw [HV.out, SQ.out] at hsr
      have hsp := ref_split AO.out BO.out HO.out HN.out CF.out HM.out (by omega) hsr
      have hlc : cs.length = t := by have h1 := OWN.out.len; simp at h1; exact h1
      have ALL2 := Lib.hid (show ∀ k, k < t + 1 → ∃ u : Nat, nth (cs ++ [z]) k = u ∧ SpOk a b h k u ∧ ∀ x, x < u → ¬ SpOk a b h k x from fun k hk => by
        rw [nth_append, hlc]
        by_cases hkt : k < t
        · rw [if_pos hkt]; exact ALL.out k hkt
        · rw [if_neg hkt, show k - t = 0 by omega, show k = t by omega]
          exact hsp)
      clear hsr hsp hlc
      go_wp2_with fail
      go_roundg (gk - 1)
      case measure => omega
      case rel => exact ⟨t + 1, A9, c9, _, by omega, by go_num, ALL2.out, OB.out, OWN.out, FH.out, FA.out, FB.out, RB.out, P.out⟩
    · have htN : t = NC := by omega
      have hti : ¬ (t : Int) < NC := by omega
      have hlc : cs.length = t := OWN.out.len
      have F := Lib.hid (show PvS ⟨xs, p, i⟩ ⟨ys, q, j⟩ h (N : Nat) cs 0 from ⟨HS.out, .inr ⟨rfl, a, b, NA.out, NB.out, by rw [NH.out], ⟨by rw [hlc, htN, HNC2.out, NH.out, HC.out], fun k hk => ALL.out k (by rw [← hlc]; exact hk)⟩⟩⟩)
      obtain ⟨Am', cm', e', hcm, hIm, hfm⟩ := OWN.out.ints
      injection e' with e1' e2' e3'
      subst e1' e3'
      have HCM := Lib.hid hcm; have HIM := Lib.hid hIm; have HFM := Lib.hid hfm
      clear hcm hIm hfm e2' htN hlc ht OWN
      obtain ⟨⟨o0, o1, o2, o3, o4⟩, ⟨v0, v1, v2, v3, v4⟩, hlo⟩ := OB.out.d5
      go_upto_region 11 with fail
      clear hti
      obtain ⟨⟨r0, r1, r2, r3, r4⟩, ⟨k0, k1, k2, k3, k4⟩, hlr⟩ := RB.out.d5
      go_wp2_with fail
      have rb := RB.out.store5 (.slice A5 n5 c5) (.int .i64 h.per) (.int .i64 h.inc) (.int .i64 (N : Int)) (.slice Am t cm)
      exact bodyPost_ret (v := .tuple #[.agg #[.slice A5 n5 c5, .int .i64 h.per, .int .i64 h.inc, .int .i64 (N : Int), .slice Am t cm], .int .i64 0]) (by simp [results, Try.results52, go_sem, rb.cell]) rfl
        ⟨h, (N : Nat), cs, 0, F.out, A5, n5, c5, Am, t, cm, HC5.out, HCM.out, rfl, FH.out.ints.five (B := w.heap.size + 1 + 1 + 1) FH.out.lo (by omega), HIM.out.five (B := QO + 1) HFM.out (by omega), (fun b off s e => by have := FH.out.lo b off s e; omega), (fun b off s e => by have := HFM.out b off s e; omega), bsto P.out.bw (Sto.five _ _ _ _ _ _ _) (by omega)⟩
end Go.Proofs.Ytbkimphcmmmaiaa
namespace Go.Proofs.Ytbkimphcmmmaiaa
open Go.RowKit
set_option linter.unusedVariables false

set_option maxHeartbeats 2000000 in
set_option maxRecDepth 100000 in
theorem same7_any (A B A' B' : Option Addr) (n c m d n' c' m' d' : Nat) (f g : Cv) (fr gr : Int) (xs ys : List Int) (w : World) (hA : Ints w w.heap.size A n f.vals) (hB : Ints w w.heap.size B m xs) (hA' : Ints w w.heap.size A' n' g.vals) (hB' : Ints w w.heap.size B' m' ys)
    (hn : (n : Int) ≤ 1000000) (hn' : (n' : Int) ≤ 1000000) (hm : (m : Int) ≤ 1000000) (hm' : (m' : Int) ≤ 1000000) :
    Calls Try.prog 53 #[.agg #[.slice A n c, .int .i64 f.per, .int .i64 f.inc, .int .i64 fr, .slice B m d], .agg #[.slice A' n' c', .int .i64 g.per, .int .i64 g.inc, .int .i64 gr, .slice B' m' d']] w (RetQ (f = g ∧ fr = gr ∧ xs = ys) w) := by
  have IA := Lib.hid ((hA.alloc' (.cells #[.slice A n c, .int .i64 f.per, .int .i64 f.inc, .int .i64 fr, .slice B m d] 56)).alloc' (.cells #[.slice A' n' c', .int .i64 g.per, .int .i64 g.inc, .int .i64 gr, .slice B' m' d'] 56)); have IB := Lib.hid ((hB.alloc' (.cells #[.slice A n c, .int .i64 f.per, .int .i64 f.inc, .int .i64 fr, .slice B m d] 56)).alloc' (.cells #[.slice A' n' c', .int .i64 g.per, .int .i64 g.inc, .int .i64 gr, .slice B' m' d'] 56)); have JA := Lib.hid ((hA'.alloc' (.cells #[.slice A n c, .int .i64 f.per, .int .i64 f.inc, .int .i64 fr, .slice B m d] 56)).alloc' (.cells #[.slice A' n' c', .int .i64 g.per, .int .i64 g.inc, .int .i64 gr, .slice B' m' d'] 56)); have JB := Lib.hid ((hB'.alloc' (.cells #[.slice A n c, .int .i64 f.per, .int .i64 f.inc, .int .i64 fr, .slice B m d] 56)).alloc' (.cells #[.slice A' n' c', .int .i64 g.per, .int .i64 g.inc, .int .i64 gr, .slice B' m' d'] 56))
  have FB := Lib.hid ((Blk.new w 56 #[.slice A n c, .int .i64 f.per, .int .i64 f.inc, .int .i64 fr, .slice B m d]).alloc (.cells #[.slice A' n' c', .int .i64 g.per, .int .i64 g.inc, .int .i64 gr, .slice B' m' d'] 56))
  have gb := Blk.new (w.alloc (.cells #[.slice A n c, .int .i64 f.per, .int .i64 f.inc, .int .i64 fr, .slice B m d] 56)) 56 #[.slice A' n' c', .int .i64 g.per, .int .i64 g.inc, .int .i64 gr, .slice B' m' d']
  rw [World.size_alloc] at gb
  have GB := Lib.hid gb
  have BW := Lib.hid (bthen (balloc w (.cells #[.slice A n c, .int .i64 f.per, .int .i64 f.inc, .int .i64 fr, .slice B m d] 56)) (balloc _ (.cells #[.slice A' n' c', .int .i64 g.per, .int .i64 g.inc, .int .i64 gr, .slice B' m' d'] 56)))
  have hxm : xs.length = m := hB.1
  have hym : ys.length = m' := hB'.1
  have HXM := Lib.hid hxm; have HYM := Lib.hid hym
  clear hA hB hA' hB' gb hxm hym
  go_enter Try.func53, Try.ntmps53
  go_upto_region 1 with fail
  generalize hwe : (w.alloc (.cells #[.slice A n c, .int .i64 f.per, .int .i64 f.inc, .int .i64 fr, .slice B m d] 56)).alloc (.cells #[.slice A' n' c', .int .i64 g.per, .int .i64 g.inc, .int .i64 gr, .slice B' m' d'] 56) = we at *
  clear hwe
  obtain ⟨⟨f0, f1, f2, f3, f4⟩, _, hlf⟩ := FB.out.d5
  obtain ⟨⟨g0, g1, g2, g3, g4⟩, _, hlg⟩ := GB.out.d5
  by_cases hfg : fr = gr
  case neg =>
    have df : (fr != gr) = true := by simpa using hfg
    have NO := Lib.hid (show ¬ (f = g ∧ fr = gr ∧ xs = ys) from fun h => hfg h.2.1)
    clear hfg
    have bw := BW.out
    go_wp2_with fail
    go_ret
    exact RetQ.no (by simpa using NO.out) bw
  case pos =>
  subst hfg
  have df : (fr != fr) = false := by simp
  by_cases hmm : m = m'
  case neg =>
    have dm : ((m : Int) != (m' : Int)) = true := by simp; omega
    have dm' : (m != m') = true := by simpa using hmm
    have NO := Lib.hid (show ¬ (f = g ∧ xs = ys) from fun h => hmm (by rw [← HXM.out, ← HYM.out, h.2]))
    clear hmm
    have bw := BW.out
    go_wp2_with fail
    go_ret
    exact RetQ.no (by simpa using NO.out) bw
  case pos =>
    subst hmm
    have dm : ((m : Int) != (m : Int)) = false := by simp
    obtain ⟨z, hz⟩ : ∃ z, z = Cv.same ⟨f.vals, f.per, f.inc⟩ ⟨g.vals, g.per, g.inc⟩ := ⟨_, rfl⟩
    have HZ := Lib.hid (show z = true ↔ f = g from by rw [hz]; exact Cv.same_iff f g)
    have HZZ := Lib.hid hz
    clear hz
    go_wp2_with fail
    refine (refSame_any A A' n n' c c' f.per g.per f.inc g.inc f.vals g.vals _ (by exact IA.out) (by exact JA.out) hn hn').mono ?_
    rw [← HZZ.out]
    rintro e w2 ⟨rfl, hb⟩
    have FB := Lib.hid (FB.out.below hb FB.out.lt); have GB := Lib.hid (GB.out.below hb GB.out.lt); have IB := Lib.hid (IB.out.ext hb); have JB := Lib.hid (JB.out.ext hb); have BW := Lib.hid (bthen BW.out hb)
    clear hb IA JA dm
    clear f0 f1 f2 f3 f4 hlf g0 g1 g2 g3 g4 hlg
    obtain ⟨⟨f0, f1, f2, f3, f4⟩, _, hlf⟩ := FB.out.d5
    obtain ⟨⟨g0, g1, g2, g3, g4⟩, _, hlg⟩ := GB.out.d5
    cases z
    case false =>
      have NO := Lib.hid (show ¬ (f = g ∧ xs = ys) from fun h => by have := HZ.out.2 h.1; cases this)
      have bw := BW.out
      go_wp2_with fail
      go_ret
      exact RetQ.no (by simpa using NO.out) bw
    case true =>
      have HFG := Lib.hid (show f = g from HZ.out.1 (by first | rfl | trivial))
      go_wp2_with fail
      clear f0 f1 f2 f3 f4 hlf g0 g1 g2 g3 g4 hlg
      go_loopg [5] m (fun gg s5 wx => ∃ k : Nat, k + gg = m ∧ s5 = .int .i64 k ∧ (∀ j, j < k → nth xs j = nth ys j) ∧ Blk wx w.heap.size 56 #[.slice A n c, .int .i64 f.per, .int .i64 f.inc, .int .i64 fr, .slice B m d] ∧ Blk wx (w.heap.size + 1) 56 #[.slice A' n' c', .int .i64 g.per, .int .i64 g.inc, .int .i64 fr, .slice B' m d'] ∧ Ints wx wx.heap.size B m xs ∧ Ints wx wx.heap.size B' m ys ∧ Below w.heap.size w wx)
      case atStart => exact ⟨0, by omega, rfl, (fun j hj => by omega), FB.out, GB.out, IB.out, JB.out, BW.out⟩
      case round =>
        clear FB GB IB JB BW
        obtain ⟨k, hkg, rfl, hsame, hF, hG, hI, hJ, hb⟩ := hrel
        have FB := Lib.hid hF; have GB := Lib.hid hG; have IB := Lib.hid hI; have JB := Lib.hid hJ; have BW := Lib.hid hb; have HS := Lib.hid hsame
        clear hF hG hI hJ hb hsame
        obtain ⟨⟨f0, f1, f2, f3, f4⟩, _, hlf⟩ := FB.out.d5
        obtain ⟨⟨g0, g1, g2, g3, g4⟩, _, hlg⟩ := GB.out.d5
        by_cases hk : k < m
        · have hki : (k : Int) < m := by omega
          obtain ⟨ad, of, hAe, hbl, hcell⟩ := IB.out.2 (by omega)
          subst hAe
          have hck := hcell k hk
          obtain ⟨ad', of', hAe', hbl', hcell'⟩ := JB.out.2 (by omega)
          subst hAe'
          have hck' := hcell' k hk
          obtain ⟨x, hx⟩ : ∃ x, x = nth xs k := ⟨_, rfl⟩
          obtain ⟨y, hy⟩ : ∃ y, y = nth ys k := ⟨_, rfl⟩
          rw [← hx] at hck
          rw [← hy] at hck'
          have HX := Lib.hid hx; have HY := Lib.hid hy
          clear hx hy hcell hcell'
          go_upto_region 6 with fail
          have FB := Lib.hid (Blk.drew FB.out); have GB := Lib.hid (Blk.drew GB.out); have IB := Lib.hid (show Ints wr.drew wr.drew.heap.size (some ⟨ad, of, none⟩) m xs from IB.out); have JB := Lib.hid (show Ints wr.drew wr.drew.heap.size (some ⟨ad', of', none⟩) m ys from JB.out); have BW := Lib.hid (Below.drew BW.out)
          refine wp_region_held_drew (S := fun w' => w'.cell? ⟨w.heap.size, 4, none⟩ = some (.slice (some ⟨ad, of, none⟩) m d) ∧ w'.cell? ⟨w.heap.size + 1, 4, none⟩ = some (.slice (some ⟨ad', of', none⟩) m d') ∧ w'.cell? ⟨ad, of + k, none⟩ = some (.int .i64 x) ∧ w'.cell? ⟨ad', of' + k, none⟩ = some (.int .i64 y)) (by kernel_rfl) (by exact ⟨f4, g4, hck, hck'⟩) (fun hHeld => ?_)
          generalize hwd : wr.drew = wd at *
          clear hwd
          clear f0 f1 f2 f3 f4 hlf g0 g1 g2 g3 g4 hlg
          clear hck hck'
          refine wpAnyH_take (i := 0) (oi := _) (v := ?_) (by simp only [g8a, g8z]; rfl) (by kernel_rfl) (by kernel_rfl) (by kernel_rfl) (by exact fun _ _ _ h => h) (Or.inl ⟨by rfl, ?_⟩) (by assumption) ?_
          rotate_left 1
          · (intro w hSw; (try dsimp only at hSw); go_simp; try with_reducible rfl)
          all_goals ((try simp only [Act.put]); try simp only [g8b, g8c, g8d])
          refine wpAnyH_take (i := 1) (oi := _) (v := ?_) (by simp only [g8a, g8s, g8z]; rfl) (by kernel_rfl) (by kernel_rfl) (by kernel_rfl) (by exact fun _ _ _ h => h) (Or.inl ⟨by rfl, ?_⟩) (by assumption) ?_
          rotate_left 1
          · (intro w hSw; (try dsimp only at hSw); go_simp; try with_reducible rfl)
          all_goals ((try simp only [Act.put]); try simp only [g8b, g8c, g8d])
          refine wpAnyH_take (i := 2) (oi := _) (v := ?_) (by simp only [g8a, g8s, g8z]; rfl) (by kernel_rfl) (by kernel_rfl) (by kernel_rfl) (by exact fun _ _ _ h => h) (Or.inl ⟨by rfl, ?_⟩) (by assumption) ?_
          rotate_left 1
          · (intro w hSw; (try dsimp only at hSw); go_simp; try with_reducible rfl)
          all_goals ((try simp only [Act.put]); try simp only [g8b, g8c, g8d])
          refine wpAnyH_take (i := 3) (oi := _) (v := ?_) (by simp only [g8a, g8s, g8z]; rfl) (by kernel_rfl) (by kernel_rfl) (by kernel_rfl) (by exact fun _ _ _ h => h) (Or.inl ⟨by rfl, ?_⟩) (by assumption) ?_
          rotate_left 1
          · (intro w hSw; (try dsimp only at hSw); go_simp; try with_reducible rfl)
          all_goals ((try simp only [Act.put]); try simp only [g8b, g8c, g8d])
          refine wpAnyH_take (i := 4) (oi := _) (v := ?_) (by simp only [g8a, g8s, g8z]; rfl) (by kernel_rfl) (by kernel_rfl) (by kernel_rfl) (by exact fun _ _ _ h => h) (Or.inl ⟨by rfl, ?_⟩) (by assumption) ?_
          rotate_left 1
          · (intro w hSw; (try dsimp only at hSw); go_simp; try with_reducible rfl)
          all_goals ((try simp only [Act.put]); try simp only [g8b, g8c, g8d])
          refine wpAnyH_take (i := 5) (oi := _) (v := ?_) (by simp only [g8a, g8s, g8z]; rfl) (by kernel_rfl) (by kernel_rfl) (by kernel_rfl) (by exact fun _ _ _ h => h) (Or.inl ⟨by rfl, ?_⟩) (by assumption) ?_
          rotate_left 1
          · (intro w hSw; (try dsimp only at hSw); go_simp; try with_reducible rfl)
          all_goals ((try simp only [Act.put]); try simp only [g8b, g8c, g8d])
          refine wpAnyH_take (i := 6) (oi := _) (v := ?_) (by simp only [g8a, g8s, g8z]; rfl) (by kernel_rfl) (by kernel_rfl) (by kernel_rfl) (by exact fun _ _ _ h => h) (Or.inl ⟨by rfl, ?_⟩) (by assumption) ?_
          rotate_left 1
          · (intro w hSw; (try dsimp only at hSw); go_simp; try with_reducible rfl)
          all_goals ((try simp only [Act.put]); try simp only [g8b, g8c, g8d])
          refine wpAnyH_take (i := 7) (oi := _) (v := ?_) (by simp only [g8a, g8s, g8z]; rfl) (by kernel_rfl) (by kernel_rfl) (by kernel_rfl) (by exact fun _ _ _ h => h) (Or.inl ⟨by rfl, ?_⟩) (by assumption) ?_
          rotate_left 1
          · (intro w hSw; (try dsimp only at hSw); go_simp; try with_reducible rfl)
          all_goals ((try simp only [Act.put]); try simp only [g8b, g8c, g8d])
          refine wpAnyH_take (i := 8) (oi := _) (v := ?_) (by simp only [g8a, g8s, g8z]; rfl) (by kernel_rfl) (by kernel_rfl) (by kernel_rfl) (by exact fun _ _ _ h => h) (Or.inl ⟨by rfl, ?_⟩) (by assumption) ?_
          rotate_left 1
          · (intro w hSw; (try dsimp only at hSw); go_simp; try with_reducible rfl)
          all_goals ((try simp only [Act.put]); try simp only [g8b, g8c, g8d])
          refine wpAnyH_take (i := 9) (oi := _) (v := ?_) (by simp only [g8a, g8s, g8z]; rfl) (by kernel_rfl) (by kernel_rfl) (by kernel_rfl) (by exact fun _ _ _ h => h) (Or.inl ⟨by rfl, ?_⟩) (by assumption) ?_
          rotate_left 1
          · (intro w hSw; (try dsimp only at hSw); go_simp; try with_reducible rfl)
          all_goals ((try simp only [Act.put]); try simp only [g8b, g8c, g8d])
          by_cases hxy : x = y
          · have dd : (x != y) = false := by simpa using hxy
            have NX := Lib.hid (show ∀ j, j < k + 1 → nth xs j = nth ys j from fun j hj => by
              rcases Nat.lt_or_ge j k with h1 | h1
              · exact HS.out j h1
              · obtain rfl : j = k := by omega
                rw [← HX.out, ← HY.out]; exact hxy)
            clear hxy
            refine wpAnyH_take (i := 10) (oi := _) (v := ?_) (by simp only [g8a, g8s, g8z]; rfl) (by kernel_rfl) (by kernel_rfl) (by kernel_rfl) (by exact fun _ _ _ h => h) (Or.inl ⟨by rfl, ?_⟩) (by assumption) ?_
            rotate_left 1
            · (intro w hSw; (try dsimp only at hSw); go_simp; try with_reducible rfl)
            all_goals ((try simp only [Act.put]); try simp only [g8b, g8c, g8d])
            refine wpAnyH_done (by kernel_rfl) ?_ _
            clear hHeld
            go_wp2_with fail
            go_roundg (gk - 1)
            case measure => omega
            case rel => exact ⟨k + 1, by omega, by go_num, NX.out, FB.out, GB.out, by exact IB.out, by exact JB.out, BW.out⟩
          · have dd : (x != y) = true := by simpa using hxy
            have NO := Lib.hid (show ¬ (f = g ∧ xs = ys) from fun h => hxy (by rw [HX.out, HY.out, h.2]))
            clear hxy
            refine wpAnyH_take (i := 10) (oi := _) (v := ?_) (by simp only [g8a, g8s, g8z]; rfl) (by kernel_rfl) (by kernel_rfl) (by kernel_rfl) (by exact fun _ _ _ h => h) (Or.inl ⟨by rfl, ?_⟩) (by assumption) ?_
            rotate_left 1
            · (intro w hSw; (try dsimp only at hSw); go_simp; try with_reducible rfl)
            all_goals ((try simp only [Act.put]); try simp only [g8b, g8c, g8d])
            refine wpAnyH_done (by kernel_rfl) ?_ _
            clear hHeld
            have bw := BW.out
            go_wp2_with fail
            go_ret
            exact RetQ.no (by simpa using NO.out) bw
        · have hkm : k = m := by omega
          have hki : ¬ (k : Int) < m := by omega
          have YES := Lib.hid (show f = g ∧ xs = ys from ⟨HFG.out, list_ext (by rw [HXM.out, HYM.out]) (fun j hj => HS.out j (by rw [hkm, ← HXM.out]; exact hj))⟩)
          have bw := BW.out
          clear hk hkm
          go_wp2_with fail
          go_ret
          exact RetQ.yes (by simpa using YES.out) bw
end Go.Proofs.Ytbkimphcmmmaiaa
