/- netcalculusref08.Check: what it returns. -/
import Derived.Test.YthgfmaijoigckaaRef8A
import Derived.Test.YthgfmaijoigckaaDcChk
namespace Go.Proofs.Ythgfmaijoigckaa
open Go.RowKit
set_option linter.unusedVariables false

theorem ints_at {w : World} {n dd od : Nat} {zs : List Int} (h : Ints w w.heap.size (some ⟨dd, od, none⟩) n zs) {t : Nat} (ht : t < n) : dd < w.heap.size ∧ w.cell? ⟨dd, od + t, none⟩ = some (.int .i64 (nth zs t)) := by
  obtain ⟨b, off, e, hb, hc⟩ := h.2 (by omega)
  cases e
  exact ⟨hb, hc t ht⟩
theorem tick_most {a b : Cv} (ha : a.Ok) (hb : b.Ok) (hnb : NF b.at b) (hc : ordC a b ≤ 120) (hs : ¬ Steep a b) (h0 : b.at 0 = 0) {D : Nat → Int} (H : DcF a b D) {t : Nat} (ht : t ≤ 1000) (v : Int) : (∀ u, u < dcK a b → gn a b t u ≤ v) ↔ D t ≤ v := by
  constructor
  · intro h1
    obtain ⟨u, hu, hD⟩ := gn_hit ha hb hc hs h0 H ht
    have := h1 u hu
    omega
  · intro h1 u hu
    have hK := dcK_le ha hb hc
    have := gn_le ha hb H (t := t) (u := u) (by omega) (dcK_fin (a := a) hb (b_before hnb) hu)
    omega
set_option maxHeartbeats 8000000 in
set_option maxRecDepth 100000 in
theorem refChk_any (A B C D : Option Addr) (n m k x c d s y : Nat) (p i q j : Int) (xs ys : List Int) (h : Cv) (cs : List Int) (w : World) (hA : Ints w w.heap.size A n xs) (hB : Ints w w.heap.size B m ys) (hC : Ints w w.heap.size C k h.vals) (hD : Ints w w.heap.size D x cs)
    (hn : (n : Int) ≤ 1000000) (hm : (m : Int) ≤ 1000000) (hk : (k : Int) ≤ 1000000) (hx : (x : Int) ≤ 1000000) (hnc : n ≤ c) (hmd : m ≤ d) (hks : k ≤ s) :
    Calls Try.prog 36 #[.agg #[.slice A n c, .int .i64 p, .int .i64 i], .agg #[.slice B m d, .int .i64 q, .int .i64 j], .agg #[.slice C k s, .int .i64 h.per, .int .i64 h.inc, .slice D x y]] w (RetQ (CheckS ⟨xs, p, i⟩ ⟨ys, q, j⟩ h cs) w) := by
  have P := Lib.hid ((PS.new (c := c) (p := p) (i := i) (d := d) (q := q) (j := j) hA hB).alloc (.cells #[.slice C k s, .int .i64 h.per, .int .i64 h.inc, .slice D x y] 55))
  have cb := Blk.new ((w.alloc (.cells #[.slice A n c, .int .i64 p, .int .i64 i] 44)).alloc (.cells #[.slice B m d, .int .i64 q, .int .i64 j] 44)) 55 #[.slice C k s, .int .i64 h.per, .int .i64 h.inc, .slice D x y]
  rw [World.size_alloc, World.size_alloc] at cb
  have CB := Lib.hid cb
  have IC := Lib.hid (((hC.alloc' (.cells #[.slice A n c, .int .i64 p, .int .i64 i] 44)).alloc' (.cells #[.slice B m d, .int .i64 q, .int .i64 j] 44)).alloc' (.cells #[.slice C k s, .int .i64 h.per, .int .i64 h.inc, .slice D x y] 55))
  have ID := Lib.hid (((hD.alloc' (.cells #[.slice A n c, .int .i64 p, .int .i64 i] 44)).alloc' (.cells #[.slice B m d, .int .i64 q, .int .i64 j] 44)).alloc' (.cells #[.slice C k s, .int .i64 h.per, .int .i64 h.inc, .slice D x y] 55))
  have HNC := Lib.hid hnc; have HMD := Lib.hid hmd; have HKS := Lib.hid hks
  clear hA hB hC hD cb hnc hmd hks
  go_enter Try.func36, Try.ntmps36
  obtain ⟨f0, f1, f2, g0, g1, g2, hlf, hlg⟩ := P.out.cells
  go_wp2_with fail
  refine (pair8_any A B n m c d p i q j xs ys _ P.out.ia P.out.ib hn hm HNC.out HMD.out).mono ?_
  rintro e w1 ⟨a, b, l, er, A1, n1, c1, A2, n2, c2, hR, rfl, hI1, hI2, hA1, hA2, hb⟩
  simp only [World.size_alloc] at hA1 hA2
  have HR := Lib.hid hR
  have hs1 : w.heap.size + 1 + 1 < w1.heap.size := by have := hb.size; simp only [World.size_alloc] at this; omega
  have hbq := bthen (bthen hb (balloc w1 (.cells #[.slice A1 n1 c1, .int .i64 a.per, .int .i64 a.inc] 44))) (balloc _ (.cells #[.slice A2 n2 c2, .int .i64 b.per, .int .i64 b.inc] 44))
  replace CB := Lib.hid (CB.out.below hbq CB.out.lt); replace IC := Lib.hid (IC.out.ext hbq); replace ID := Lib.hid (ID.out.ext hbq); have BW := Lib.hid (bthen P.out.bw hbq)
  have FA := Lib.hid ((By.new (L := w.heap.size + 1 + 1 + 1) (c := c1) hI1 hA1 (Nat.le_refl _) (by omega)).alloc (.cells #[.slice A2 n2 c2, .int .i64 b.per, .int .i64 b.inc] 44))
  have fb := By.new (L := w.heap.size + 1 + 1 + 1) (f := b) (c := c2) (hI2.alloc' (.cells #[.slice A1 n1 c1, .int .i64 a.per, .int .i64 a.inc] 44)) hA2 (Nat.le_refl _) (by simp only [World.size_alloc]; omega)
  simp only [World.size_alloc] at fb
  have FB := Lib.hid fb
  clear hR hI1 hI2 hA1 hA2 hb hbq fb P f0 f1 f2 g0 g1 g2 hlf hlg
  go_upto_region 2 with fail
  generalize hwz : (w1.alloc (.cells #[.slice A1 n1 c1, .int .i64 a.per, .int .i64 a.inc] 44)).alloc (.cells #[.slice A2 n2 c2, .int .i64 b.per, .int .i64 b.inc] 44) = w2 at *
  clear hwz
  have HB := Lib.hid (Blk.new w2 44 #[.slice C k s, .int .i64 h.per, .int .i64 h.inc])
  have hbq := balloc w2 (.cells #[.slice C k s, .int .i64 h.per, .int .i64 h.inc] 44)
  have hHw : w1.heap.size + 1 < w2.heap.size := FB.out.lt
  obtain ⟨⟨r0, r1, r2, r3⟩, _, hlr⟩ := CB.out.c4
  go_upto_region 3 with fail
  clear r0 r1 r2 r3 hlr
  replace FA := Lib.hid (FA.out.below hbq); replace FB := Lib.hid (FB.out.below hbq); replace CB := Lib.hid (CB.out.below hbq CB.out.lt); replace IC := Lib.hid (IC.out.ext hbq); replace ID := Lib.hid (ID.out.ext hbq); replace BW := Lib.hid (bthen BW.out hbq)
  clear hbq
  generalize hwz : w2.alloc (.cells #[.slice C k s, .int .i64 h.per, .int .i64 h.inc] 44) = w3 at *
  clear hwz
  generalize hHe : w2.heap.size = H at *
  clear hHe
  have HXM := Lib.hid (show cs.length = x from ID.out.1); have HKM := Lib.hid (show h.vals.length = k from IC.out.1)
  have FA := Lib.hid FA.out.drew; have FB := Lib.hid FB.out.drew; replace HB := Lib.hid (Blk.drew HB.out); replace CB := Lib.hid (Blk.drew CB.out); replace BW := Lib.hid (Below.drew BW.out)
  replace IC := Lib.hid (show Ints w3.drew w3.drew.heap.size C k h.vals from IC.out); replace ID := Lib.hid (show Ints w3.drew w3.drew.heap.size D x cs from ID.out)
  obtain ⟨a0, a1, a2, hla⟩ := FA.out.cells
  obtain ⟨b0, b1, b2, hlb⟩ := FB.out.cells
  obtain ⟨⟨h0, h1, h2⟩, _, hlh⟩ := HB.out.c3
  obtain ⟨⟨r0, r1, r2, r3⟩, _, hlr⟩ := CB.out.c4
  refine wp_region_held_drew (S := fun w' => w'.cell? ⟨H, 0, none⟩ = some (.slice C k s) ∧ w'.cell? ⟨H, 1, none⟩ = some (.int .i64 h.per) ∧ w'.cell? ⟨H, 2, none⟩ = some (.int .i64 h.inc)) (by kernel_rfl) (by exact ⟨h0, h1, h2⟩) (fun hHeld => ?_)
  clear a0 a1 a2 hla b0 b1 b2 hlb
  clear h0 h1 h2 hlh
  clear r0 r1 r2 r3 hlr
  generalize hwd : w3.drew = wd at *
  clear hwd
  obtain ⟨a0, a1, a2, hla⟩ := FA.out.cells
  obtain ⟨b0, b1, b2, hlb⟩ := FB.out.cells
  obtain ⟨⟨h0, h1, h2⟩, _, hlh⟩ := HB.out.c3
  obtain ⟨⟨r0, r1, r2, r3⟩, _, hlr⟩ := CB.out.c4
  refine wpAnyH_take (i := 0) (oi := _) (v := ?_) (by simp only [g8a, g8z]; rfl) (by kernel_rfl) (by kernel_rfl) (by kernel_rfl) (by exact fun _ _ _ h => h) (Or.inl ⟨by rfl, ?_⟩) (by assumption) ?_
  rotate_left 1
  · (intro w hSw; (try dsimp only at hSw); go_simp; try with_reducible rfl)
  all_goals ((try simp only [Act.put]); (try simp only [g8b]); (try simp only [g8c]); (try simp only [g8d]))
  rcases HR.out with hbad | ⟨hf, hg, hg0, hna, hnb, hao, hbo, hcc, hle, rfl⟩
  · have hne : (er != 0) = true := by
      rcases hbad with ⟨_, rfl⟩ | ⟨_, _, _, rfl⟩ | ⟨_, _, _, rfl, _⟩ <;> rfl
    have NO := Lib.hid (show ¬ CheckS ⟨xs, p, i⟩ ⟨ys, q, j⟩ h cs from fun ⟨k1, k2, k3, a, b, k4, k5, k6, _⟩ => hbad.not k1 k2 k3 ⟨a, b, k4, k5, k6⟩)
    clear hbad HR
    refine wpAnyH_take (i := 1) (oi := _) (v := ?_) (by simp only [g8a, g8s, g8z]; rfl) (by kernel_rfl) (by kernel_rfl) (by kernel_rfl) (by exact fun _ _ _ h => h) (Or.inl ⟨by rfl, ?_⟩) (by assumption) ?_
    rotate_left 1
    · (intro w hSw; (try dsimp only at hSw); go_simp; try with_reducible rfl)
    all_goals ((try simp only [Act.put]); (try simp only [g8b]); (try simp only [g8c]); (try simp only [g8d]))
    refine wpAnyH_take (i := 2) (oi := _) (v := ?_) (by simp only [g8a, g8s, g8z]; rfl) (by kernel_rfl) (by kernel_rfl) (by kernel_rfl) (by exact fun _ _ _ h => h) (Or.inl ⟨by rfl, ?_⟩) (by assumption) ?_
    rotate_left 1
    · (intro w hSw; (try dsimp only at hSw); go_simp; try with_reducible rfl)
    all_goals ((try simp only [Act.put]); (try simp only [g8b]); (try simp only [g8c]); (try simp only [g8d]))
    refine wpAnyH_take (i := 3) (oi := _) (v := undef) (by simp only [g8a, g8s, g8z]; rfl) (by kernel_rfl) (by kernel_rfl) (by kernel_rfl) (by exact fun _ _ _ h => h) (Or.inr ⟨by rfl, rfl⟩) (by assumption) ?_
    (try simp only [Act.put]); (try simp only [g8b]); (try simp only [g8c]); (try simp only [g8d])
    refine wpAnyH_take (i := 4) (oi := _) (v := undef) (by simp only [g8a, g8s, g8z]; rfl) (by kernel_rfl) (by kernel_rfl) (by kernel_rfl) (by exact fun _ _ _ h => h) (Or.inr ⟨by rfl, rfl⟩) (by assumption) ?_
    (try simp only [Act.put]); (try simp only [g8b]); (try simp only [g8c]); (try simp only [g8d])
    refine wpAnyH_take (i := 5) (oi := _) (v := undef) (by simp only [g8a, g8s, g8z]; rfl) (by kernel_rfl) (by kernel_rfl) (by kernel_rfl) (by exact fun _ _ _ h => h) (Or.inr ⟨by rfl, rfl⟩) (by assumption) ?_
    (try simp only [Act.put]); (try simp only [g8b]); (try simp only [g8c]); (try simp only [g8d])
    refine wpAnyH_take (i := 6) (oi := _) (v := ?_) (by simp only [g8a, g8s, g8z]; rfl) (by kernel_rfl) (by kernel_rfl) (by kernel_rfl) (by exact fun _ _ _ h => h) (Or.inl ⟨by rfl, ?_⟩) (by assumption) ?_
    rotate_left 1
    · (intro w hSw; (try dsimp only at hSw); go_simp; try with_reducible rfl)
    all_goals ((try simp only [Act.put]); (try simp only [g8b]); (try simp only [g8c]); (try simp only [g8d]))
    refine wpAnyH_take (i := 7) (oi := _) (v := ?_) (by simp only [g8a, g8s, g8z]; rfl) (by kernel_rfl) (by kernel_rfl) (by kernel_rfl) (by exact fun _ _ _ h => h) (Or.inl ⟨by rfl, ?_⟩) (by assumption) ?_
    rotate_left 1
    · (intro w hSw; (try dsimp only at hSw); go_simp; try with_reducible rfl)
    all_goals ((try simp only [Act.put]); (try simp only [g8b]); (try simp only [g8c]); (try simp only [g8d]))
    refine wpAnyH_take (i := 8) (oi := _) (v := undef) (by simp only [g8a, g8s, g8z]; rfl) (by kernel_rfl) (by kernel_rfl) (by kernel_rfl) (by exact fun _ _ _ h => h) (Or.inr ⟨by rfl, rfl⟩) (by assumption) ?_
    (try simp only [Act.put]); (try simp only [g8b]); (try simp only [g8c]); (try simp only [g8d])
    refine wpAnyH_take (i := 9) (oi := _) (v := undef) (by simp only [g8a, g8s, g8z]; rfl) (by kernel_rfl) (by kernel_rfl) (by kernel_rfl) (by exact fun _ _ _ h => h) (Or.inr ⟨by rfl, rfl⟩) (by assumption) ?_
    (try simp only [Act.put]); (try simp only [g8b]); (try simp only [g8c]); (try simp only [g8d])
    refine wpAnyH_take (i := 10) (oi := _) (v := undef) (by simp only [g8a, g8s, g8z]; rfl) (by kernel_rfl) (by kernel_rfl) (by kernel_rfl) (by exact fun _ _ _ h => h) (Or.inr ⟨by rfl, rfl⟩) (by assumption) ?_
    (try simp only [Act.put]); (try simp only [g8b]); (try simp only [g8c]); (try simp only [g8d])
    refine wpAnyH_take (i := 11) (oi := _) (v := undef) (by simp only [g8a, g8s, g8z]; rfl) (by kernel_rfl) (by kernel_rfl) (by kernel_rfl) (by exact fun _ _ _ h => h) (Or.inr ⟨by rfl, rfl⟩) (by assumption) ?_
    (try simp only [Act.put]); (try simp only [g8b]); (try simp only [g8c]); (try simp only [g8d])
    refine wpAnyH_take (i := 12) (oi := _) (v := undef) (by simp only [g8a, g8s, g8z]; rfl) (by kernel_rfl) (by kernel_rfl) (by kernel_rfl) (by exact fun _ _ _ h => h) (Or.inr ⟨by rfl, rfl⟩) (by assumption) ?_
    (try simp only [Act.put]); (try simp only [g8b]); (try simp only [g8c]); (try simp only [g8d])
    refine wpAnyH_take (i := 13) (oi := _) (v := ?_) (by simp only [g8a, g8s, g8z]; rfl) (by kernel_rfl) (by kernel_rfl) (by kernel_rfl) (by exact fun _ _ _ h => h) (Or.inl ⟨by rfl, ?_⟩) (by assumption) ?_
    rotate_left 1
    · (intro w hSw; (try dsimp only at hSw); go_simp; try with_reducible rfl)
    all_goals ((try simp only [Act.put]); (try simp only [g8b]); (try simp only [g8c]); (try simp only [g8d]))
    refine wpAnyH_done (by kernel_rfl) ?_ _
    clear hHeld
    have FIN := Lib.hid (show ¬ CheckS ⟨xs, p, i⟩ ⟨ys, q, j⟩ h cs from NO.out)
    have bwx := BW.out
    go_wp2_with fail
    try rw [Exit.noGoto_ret]
    go_ret
    exact RetQ.no FIN.out bwx
  · have HFO := Lib.hid hf; have HGO := Lib.hid hg; have HG0 := Lib.hid hg0; have HNA := Lib.hid hna; have HNB := Lib.hid hnb; have HAO := Lib.hid hao; have HBO := Lib.hid hbo
    obtain ⟨CM, hCM⟩ : ∃ CM, CM = comm a.per.toNat b.per.toNat := ⟨_, rfl⟩
    rw [← hCM] at hle hcc
    obtain rfl := hle
    have HC := Lib.hid hCM
    clear HR hf hg hg0 hna hnb hao hbo hCM
    obtain ⟨v, hv⟩ : ∃ v, v = Cv.okB ⟨h.vals, h.per, h.inc⟩ := ⟨_, rfl⟩
    have HV := Lib.hid hv
    clear hv
    refine wpAnyH_take (i := 1) (oi := _) (v := ?_) (by simp only [g8a, g8s, g8z]; rfl) (by kernel_rfl) (by kernel_rfl) (by kernel_rfl) (by exact fun _ _ _ h => h) (Or.inl ⟨by rfl, ?_⟩) (by assumption) ?_
    rotate_left 1
    · (intro w hSw; (try dsimp only at hSw); go_simp; try with_reducible rfl)
    all_goals ((try simp only [Act.put]); (try simp only [g8b]); (try simp only [g8c]); (try simp only [g8d]))
    refine wpAnyH_take (i := 2) (oi := _) (v := ?_) (by simp only [g8a, g8s, g8z]; rfl) (by kernel_rfl) (by kernel_rfl) (by kernel_rfl) (by exact fun _ _ _ h => h) (Or.inl ⟨by rfl, ?_⟩) (by assumption) ?_
    rotate_left 1
    · (intro w hSw; (try dsimp only at hSw); go_simp; try with_reducible rfl)
    all_goals ((try simp only [Act.put]); (try simp only [g8b]); (try simp only [g8c]); (try simp only [g8d]))
    refine wpAnyH_take (i := 3) (oi := _) (v := ?_) (by simp only [g8a, g8s, g8z]; rfl) (by kernel_rfl) (by kernel_rfl) (by kernel_rfl) (by exact fun _ _ _ h => h) (Or.inl ⟨by rfl, ?_⟩) (by assumption) ?_
    rotate_left 1
    · (intro w hSw; (try dsimp only at hSw); go_simp; try with_reducible rfl)
    all_goals ((try simp only [Act.put]); (try simp only [g8b]); (try simp only [g8c]); (try simp only [g8d]))
    refine wpAnyH_ready (rs := [4]) (by kernel_rfl) (by simp) ?_
    refine (AllReadyH.cons (by simp only [g8a, g8s, g8z]; rfl) (fun K hK => ?_) AllReadyH.nil)
    rw [if_pos (by rfl)]
    go_simp
    refine (refValid_any C k s h.per h.inc h.vals _ (by exact IC.out) hk).mono ?_
    rw [← HV.out]
    rintro e w4 ⟨rfl, hbq⟩
    replace FA := Lib.hid (FA.out.below hbq); replace FB := Lib.hid (FB.out.below hbq); replace HB := Lib.hid (HB.out.below hbq HB.out.lt); replace CB := Lib.hid (CB.out.below hbq CB.out.lt); replace IC := Lib.hid (IC.out.ext hbq); replace ID := Lib.hid (ID.out.ext hbq); replace BW := Lib.hid (bthen BW.out hbq)
    try clear hHeld
    clear hbq
    clear a0 a1 a2 hla b0 b1 b2 hlb
    clear h0 h1 h2 hlh
    clear r0 r1 r2 r3 hlr
    obtain ⟨a0, a1, a2, hla⟩ := FA.out.cells
    obtain ⟨b0, b1, b2, hlb⟩ := FB.out.cells
    obtain ⟨⟨h0, h1, h2⟩, _, hlh⟩ := HB.out.c3
    obtain ⟨⟨r0, r1, r2, r3⟩, _, hlr⟩ := CB.out.c4
    refine hK.out _ _ (by exact ⟨h0, h1, h2⟩) (fun hHeld => ?_)
    clear hK K
    (try simp only [Act.put]); (try simp only [g8b]); (try simp only [g8c]); (try simp only [g8d])
    cases v
    case false =>
      have NO := Lib.hid (show ¬ CheckS ⟨xs, p, i⟩ ⟨ys, q, j⟩ h cs from fun ⟨_, _, _, _, _, _, _, _, k7, _⟩ => by
        have := HV.out
        rw [Cv.okB_true k7] at this
        cases this)
      refine wpAnyH_take (i := 5) (oi := _) (v := ?_) (by simp only [g8a, g8s, g8z]; rfl) (by kernel_rfl) (by kernel_rfl) (by kernel_rfl) (by exact fun _ _ _ h => h) (Or.inl ⟨by rfl, ?_⟩) (by assumption) ?_
      rotate_left 1
      · (intro w hSw; (try dsimp only at hSw); go_simp; try with_reducible rfl)
      all_goals ((try simp only [Act.put]); (try simp only [g8b]); (try simp only [g8c]); (try simp only [g8d]))
      refine wpAnyH_take (i := 6) (oi := _) (v := ?_) (by simp only [g8a, g8s, g8z]; rfl) (by kernel_rfl) (by kernel_rfl) (by kernel_rfl) (by exact fun _ _ _ h => h) (Or.inl ⟨by rfl, ?_⟩) (by assumption) ?_
      rotate_left 1
      · (intro w hSw; (try dsimp only at hSw); go_simp; try with_reducible rfl)
      all_goals ((try simp only [Act.put]); (try simp only [g8b]); (try simp only [g8c]); (try simp only [g8d]))
      refine wpAnyH_take (i := 7) (oi := _) (v := ?_) (by simp only [g8a, g8s, g8z]; rfl) (by kernel_rfl) (by kernel_rfl) (by kernel_rfl) (by exact fun _ _ _ h => h) (Or.inl ⟨by rfl, ?_⟩) (by assumption) ?_
      rotate_left 1
      · (intro w hSw; (try dsimp only at hSw); go_simp; try with_reducible rfl)
      all_goals ((try simp only [Act.put]); (try simp only [g8b]); (try simp only [g8c]); (try simp only [g8d]))
      refine wpAnyH_take (i := 8) (oi := _) (v := undef) (by simp only [g8a, g8s, g8z]; rfl) (by kernel_rfl) (by kernel_rfl) (by kernel_rfl) (by exact fun _ _ _ h => h) (Or.inr ⟨by rfl, rfl⟩) (by assumption) ?_
      (try simp only [Act.put]); (try simp only [g8b]); (try simp only [g8c]); (try simp only [g8d])
      refine wpAnyH_take (i := 9) (oi := _) (v := undef) (by simp only [g8a, g8s, g8z]; rfl) (by kernel_rfl) (by kernel_rfl) (by kernel_rfl) (by exact fun _ _ _ h => h) (Or.inr ⟨by rfl, rfl⟩) (by assumption) ?_
      (try simp only [Act.put]); (try simp only [g8b]); (try simp only [g8c]); (try simp only [g8d])
      refine wpAnyH_take (i := 10) (oi := _) (v := undef) (by simp only [g8a, g8s, g8z]; rfl) (by kernel_rfl) (by kernel_rfl) (by kernel_rfl) (by exact fun _ _ _ h => h) (Or.inr ⟨by rfl, rfl⟩) (by assumption) ?_
      (try simp only [Act.put]); (try simp only [g8b]); (try simp only [g8c]); (try simp only [g8d])
      refine wpAnyH_take (i := 11) (oi := _) (v := undef) (by simp only [g8a, g8s, g8z]; rfl) (by kernel_rfl) (by kernel_rfl) (by kernel_rfl) (by exact fun _ _ _ h => h) (Or.inr ⟨by rfl, rfl⟩) (by assumption) ?_
      (try simp only [Act.put]); (try simp only [g8b]); (try simp only [g8c]); (try simp only [g8d])
      refine wpAnyH_take (i := 12) (oi := _) (v := undef) (by simp only [g8a, g8s, g8z]; rfl) (by kernel_rfl) (by kernel_rfl) (by kernel_rfl) (by exact fun _ _ _ h => h) (Or.inr ⟨by rfl, rfl⟩) (by assumption) ?_
      (try simp only [Act.put]); (try simp only [g8b]); (try simp only [g8c]); (try simp only [g8d])
      refine wpAnyH_take (i := 13) (oi := _) (v := ?_) (by simp only [g8a, g8s, g8z]; rfl) (by kernel_rfl) (by kernel_rfl) (by kernel_rfl) (by exact fun _ _ _ h => h) (Or.inl ⟨by rfl, ?_⟩) (by assumption) ?_
      rotate_left 1
      · (intro w hSw; (try dsimp only at hSw); go_simp; try with_reducible rfl)
      all_goals ((try simp only [Act.put]); (try simp only [g8b]); (try simp only [g8c]); (try simp only [g8d]))
      refine wpAnyH_done (by kernel_rfl) ?_ _
      clear hHeld
      have FIN := Lib.hid (show ¬ CheckS ⟨xs, p, i⟩ ⟨ys, q, j⟩ h cs from NO.out)
      have bwx := BW.out
      go_wp2_with fail
      try rw [Exit.noGoto_ret]
      go_ret
      exact RetQ.no FIN.out bwx
    case true =>
      have HHO := Lib.hid (show h.Ok from Cv.okB_iff.1 HV.out.symm)
      refine wpAnyH_take (i := 5) (oi := _) (v := ?_) (by simp only [g8a, g8s, g8z]; rfl) (by kernel_rfl) (by kernel_rfl) (by kernel_rfl) (by exact fun _ _ _ h => h) (Or.inl ⟨by rfl, ?_⟩) (by assumption) ?_
      rotate_left 1
      · (intro w hSw; (try dsimp only at hSw); go_simp; try with_reducible rfl)
      all_goals ((try simp only [Act.put]); (try simp only [g8b]); (try simp only [g8c]); (try simp only [g8d]))
      refine wpAnyH_take (i := 6) (oi := _) (v := ?_) (by simp only [g8a, g8s, g8z]; rfl) (by kernel_rfl) (by kernel_rfl) (by kernel_rfl) (by exact fun _ _ _ h => h) (Or.inl ⟨by rfl, ?_⟩) (by assumption) ?_
      rotate_left 1
      · (intro w hSw; (try dsimp only at hSw); go_simp; try with_reducible rfl)
      all_goals ((try simp only [Act.put]); (try simp only [g8b]); (try simp only [g8c]); (try simp only [g8d]))
      refine wpAnyH_take (i := 7) (oi := _) (v := ?_) (by simp only [g8a, g8s, g8z]; rfl) (by kernel_rfl) (by kernel_rfl) (by kernel_rfl) (by exact fun _ _ _ h => h) (Or.inl ⟨by rfl, ?_⟩) (by assumption) ?_
      rotate_left 1
      · (intro w hSw; (try dsimp only at hSw); go_simp; try with_reducible rfl)
      all_goals ((try simp only [Act.put]); (try simp only [g8b]); (try simp only [g8c]); (try simp only [g8d]))
      refine wpAnyH_take (i := 8) (oi := _) (v := ?_) (by simp only [g8a, g8s, g8z]; rfl) (by kernel_rfl) (by kernel_rfl) (by kernel_rfl) (by exact fun _ _ _ h => h) (Or.inl ⟨by rfl, ?_⟩) (by assumption) ?_
      rotate_left 1
      · (intro w hSw; (try dsimp only at hSw); go_simp; try with_reducible rfl)
      all_goals ((try simp only [Act.put]); (try simp only [g8b]); (try simp only [g8c]); (try simp only [g8d]))
      refine wpAnyH_take (i := 9) (oi := _) (v := ?_) (by simp only [g8a, g8s, g8z]; rfl) (by kernel_rfl) (by kernel_rfl) (by kernel_rfl) (by exact fun _ _ _ h => h) (Or.inl ⟨by rfl, ?_⟩) (by assumption) ?_
      rotate_left 1
      · (intro w hSw; (try dsimp only at hSw); go_simp; try with_reducible rfl)
      all_goals ((try simp only [Act.put]); (try simp only [g8b]); (try simp only [g8c]); (try simp only [g8d]))
      refine wpAnyH_ready (rs := [10]) (by kernel_rfl) (by simp) ?_
      refine (AllReadyH.cons (by simp only [g8a, g8s, g8z]; rfl) (fun K hK => ?_) AllReadyH.nil)
      rw [if_pos (by rfl)]
      go_simp
      refine (refLeast_any C k s h.per h.inc h.vals _ (by exact IC.out) HKS.out HHO.out.pre).mono ?_
      rintro e w5 ⟨g, A6, n6, c6, hS, hc6, rfl, hI6, hge6, hbq⟩
      have HI6 := Lib.hid hI6
      obtain ⟨hnf6, hok6, _⟩ := LeastS.ok (f := h) HHO.out hS
      have hn6 : n6 ≤ 400 := by have h1 := hok6.n2; rw [hI6.1] at h1; exact h1
      have HNF := Lib.hid hnf6
      clear hS hc6 hI6 hge6 hnf6 hok6
      replace FA := Lib.hid (FA.out.below hbq); replace FB := Lib.hid (FB.out.below hbq); replace HB := Lib.hid (HB.out.below hbq HB.out.lt); replace CB := Lib.hid (CB.out.below hbq CB.out.lt); replace IC := Lib.hid (IC.out.ext hbq); replace ID := Lib.hid (ID.out.ext hbq); replace BW := Lib.hid (bthen BW.out hbq)
      try clear hHeld
      clear hbq
      clear a0 a1 a2 hla b0 b1 b2 hlb
      clear h0 h1 h2 hlh
      clear r0 r1 r2 r3 hlr
      obtain ⟨a0, a1, a2, hla⟩ := FA.out.cells
      obtain ⟨b0, b1, b2, hlb⟩ := FB.out.cells
      obtain ⟨⟨h0, h1, h2⟩, _, hlh⟩ := HB.out.c3
      obtain ⟨⟨r0, r1, r2, r3⟩, _, hlr⟩ := CB.out.c4
      refine hK.out _ _ (by exact ⟨h0, h1, h2⟩) (fun hHeld => ?_)
      clear hK K
      (try simp only [Act.put]); (try simp only [g8b]); (try simp only [g8c]); (try simp only [g8d])
      obtain ⟨z, hz⟩ : ∃ z, z = Cv.same ⟨h.vals, h.per, h.inc⟩ ⟨g.vals, g.per, g.inc⟩ := ⟨_, rfl⟩
      have HZ := Lib.hid (show z = true ↔ h = g from by rw [hz]; exact Cv.same_iff h g)
      have HZZ := Lib.hid hz
      clear hz
      refine wpAnyH_ready (rs := [11]) (by kernel_rfl) (by simp) ?_
      refine (AllReadyH.cons (by simp only [g8a, g8s, g8z]; rfl) (fun K hK => ?_) AllReadyH.nil)
      rw [if_pos (by rfl)]
      go_simp
      refine (refSame_any C A6 k n6 s c6 h.per g.per h.inc g.inc h.vals g.vals _ (by exact IC.out) (by exact HI6.out) hk (by omega)).mono ?_
      rw [← HZZ.out]
      rintro e w6 ⟨rfl, hbq⟩
      clear HI6
      replace FA := Lib.hid (FA.out.below hbq); replace FB := Lib.hid (FB.out.below hbq); replace HB := Lib.hid (HB.out.below hbq HB.out.lt); replace CB := Lib.hid (CB.out.below hbq CB.out.lt); replace IC := Lib.hid (IC.out.ext hbq); replace ID := Lib.hid (ID.out.ext hbq); replace BW := Lib.hid (bthen BW.out hbq)
      try clear hHeld
      clear hbq
      clear a0 a1 a2 hla b0 b1 b2 hlb
      clear h0 h1 h2 hlh
      clear r0 r1 r2 r3 hlr
      obtain ⟨a0, a1, a2, hla⟩ := FA.out.cells
      obtain ⟨b0, b1, b2, hlb⟩ := FB.out.cells
      obtain ⟨⟨h0, h1, h2⟩, _, hlh⟩ := HB.out.c3
      obtain ⟨⟨r0, r1, r2, r3⟩, _, hlr⟩ := CB.out.c4
      refine hK.out _ _ (by exact ⟨h0, h1, h2⟩) (fun hHeld => ?_)
      clear hK K
      (try simp only [Act.put]); (try simp only [g8b]); (try simp only [g8c]); (try simp only [g8d])
      cases z
      case false =>
        have NO := Lib.hid (show ¬ CheckS ⟨xs, p, i⟩ ⟨ys, q, j⟩ h cs from fun ⟨_, _, _, _, _, _, _, _, _, k8, _⟩ => by
          have := HZ.out.2 (NF.unique k8 HNF.out)
          cases this)
        refine wpAnyH_take (i := 12) (oi := _) (v := ?_) (by simp only [g8a, g8s, g8z]; rfl) (by kernel_rfl) (by kernel_rfl) (by kernel_rfl) (by exact fun _ _ _ h => h) (Or.inl ⟨by rfl, ?_⟩) (by assumption) ?_
        rotate_left 1
        · (intro w hSw; (try dsimp only at hSw); go_simp; try with_reducible rfl)
        all_goals ((try simp only [Act.put]); (try simp only [g8b]); (try simp only [g8c]); (try simp only [g8d]))
        refine wpAnyH_take (i := 13) (oi := _) (v := ?_) (by simp only [g8a, g8s, g8z]; rfl) (by kernel_rfl) (by kernel_rfl) (by kernel_rfl) (by exact fun _ _ _ h => h) (Or.inl ⟨by rfl, ?_⟩) (by assumption) ?_
        rotate_left 1
        · (intro w hSw; (try dsimp only at hSw); go_simp; try with_reducible rfl)
        all_goals ((try simp only [Act.put]); (try simp only [g8b]); (try simp only [g8c]); (try simp only [g8d]))
        refine wpAnyH_done (by kernel_rfl) ?_ _
        clear hHeld
        have FIN := Lib.hid (show ¬ CheckS ⟨xs, p, i⟩ ⟨ys, q, j⟩ h cs from NO.out)
        have bwx := BW.out
        go_wp2_with fail
        try rw [Exit.noGoto_ret]
        go_ret
        exact RetQ.no FIN.out bwx
      case true =>
        have hhg := HZ.out.1 (by first | rfl | trivial)
        have CI := Lib.hid (check_iff (cs := cs) HFO.out HGO.out HG0.out HNA.out HNB.out (by rw [← HC.out]; exact hcc) HHO.out (by have := HNF.out; rw [← hhg] at this; exact this))
        clear hhg HZ HZZ HNF
        refine wpAnyH_take (i := 12) (oi := _) (v := ?_) (by simp only [g8a, g8s, g8z]; rfl) (by kernel_rfl) (by kernel_rfl) (by kernel_rfl) (by exact fun _ _ _ h => h) (Or.inl ⟨by rfl, ?_⟩) (by assumption) ?_
        rotate_left 1
        · (intro w hSw; (try dsimp only at hSw); go_simp; try with_reducible rfl)
        all_goals ((try simp only [Act.put]); (try simp only [g8b]); (try simp only [g8c]); (try simp only [g8d]))
        refine wpAnyH_take (i := 13) (oi := _) (v := ?_) (by simp only [g8a, g8s, g8z]; rfl) (by kernel_rfl) (by kernel_rfl) (by kernel_rfl) (by exact fun _ _ _ h => h) (Or.inl ⟨by rfl, ?_⟩) (by assumption) ?_
        rotate_left 1
        · (intro w hSw; (try dsimp only at hSw); go_simp; try with_reducible rfl)
        all_goals ((try simp only [Act.put]); (try simp only [g8b]); (try simp only [g8c]); (try simp only [g8d]))
        refine wpAnyH_done (by kernel_rfl) ?_ _
        clear hHeld
        have ff := HHO.out
        have f1' := ff.n1; have f2' := ff.n2; have f3' := ff.p1; have f4' := ff.p2; have f5' := ff.pn; have f6' := ff.i1; have f7' := ff.i2
        rw [HKM.out] at f1' f2' f5'
        have fa := HAO.out
        have a1' := fa.n1; have a2' := fa.n2; have a3' := fa.p1; have a4' := fa.p2; have a5' := fa.pn; have a6' := fa.i1; have a7' := fa.i2
        have HN1 := Lib.hid (show a.vals.length = n1 from FA.out.ints.1); have HN2 := Lib.hid (show b.vals.length = n2 from FB.out.ints.1)
        rw [HN1.out] at a1' a2' a5'
        clear ff fa
        obtain ⟨z, hz⟩ : ∃ z, z = steepB a b := ⟨_, rfl⟩
        have HZ := Lib.hid (show z = true ↔ Steep a b from by rw [hz]; exact steepB_iff HAO.out HBO.out)
        have HZZ := Lib.hid hz
        clear hz
        go_wp2_with fail
        refine (steep8_any A1 A2 n1 n2 c1 c2 a b CM _ (by exact FA.out.ints) (by exact FB.out.ints) HAO.out HBO.out HC.out hcc).mono ?_
        rw [← HZZ.out]
        rintro e w7 ⟨rfl, hbq⟩
        replace FA := Lib.hid (FA.out.below hbq); replace FB := Lib.hid (FB.out.below hbq); replace HB := Lib.hid (HB.out.below hbq HB.out.lt); replace CB := Lib.hid (CB.out.below hbq CB.out.lt); replace IC := Lib.hid (IC.out.ext hbq); replace ID := Lib.hid (ID.out.ext hbq); replace BW := Lib.hid (bthen BW.out hbq)
        try clear hHeld
        clear hbq
        clear a0 a1 a2 hla b0 b1 b2 hlb
        clear h0 h1 h2 hlh
        clear r0 r1 r2 r3 hlr
        obtain ⟨a0, a1, a2, hla⟩ := FA.out.cells
        obtain ⟨b0, b1, b2, hlb⟩ := FB.out.cells
        obtain ⟨⟨h0, h1, h2⟩, _, hlh⟩ := HB.out.c3
        obtain ⟨⟨r0, r1, r2, r3⟩, _, hlr⟩ := CB.out.c4
        cases z
        case true =>
          have HS := Lib.hid (show Steep a b from HZ.out.1 (by first | rfl | trivial))
          have CI2 := Lib.hid (show CheckS ⟨xs, p, i⟩ ⟨ys, q, j⟩ h cs ↔ nth h.vals 0 = inf ∧ x = 0 from by rw [CI.out, cert_steep HS.out, HXM.out])
          obtain ⟨ad, of, hAe, hbl, hcell⟩ := IC.out.2 (by omega)
          subst hAe
          have hck := hcell 0 (by omega)
          simp only [Nat.add_zero] at hck
          obtain ⟨v0, hv0⟩ : ∃ z, z = nth h.vals 0 := ⟨_, rfl⟩
          rw [← hv0] at hck CI2
          clear hcell hv0
          by_cases hvi : v0 = inf
          · have dv : (v0 == 4611686018427387904) = true := by unfold inf at hvi; simpa using hvi
            have HVI := Lib.hid hvi
            clear hvi
            by_cases hx0 : x = 0
            · subst hx0
              have bwx := BW.out
              go_wp2_with fail
              try rw [Exit.noGoto_ret]
              go_ret
              exact RetQ.yes (CI2.out.2 ⟨HVI.out, by first | rfl | trivial⟩) bwx
            · have dx : ((x : Int) == 0) = false := by simp; omega
              have dx2 : (x == 0) = false := by simp; omega
              have HX0 := Lib.hid hx0
              clear hx0
              have bwx := BW.out
              go_wp2_with fail
              try rw [Exit.noGoto_ret]
              go_ret
              exact RetQ.no (fun h => HX0.out (CI2.out.1 h).2) bwx
          · have dv : (v0 == 4611686018427387904) = false := by unfold inf at hvi; simpa using hvi
            have HVI := Lib.hid hvi
            clear hvi
            have bwx := BW.out
            go_wp2_with fail
            try rw [Exit.noGoto_ret]
            go_ret
            exact RetQ.no (fun h => HVI.out (CI2.out.1 h).1) bwx
        case false =>
          have NS := Lib.hid (show ¬ Steep a b from fun h => by have := HZ.out.2 h; cases this)
          have CI2 := Lib.hid (show CheckS ⟨xs, p, i⟩ ⟨ys, q, j⟩ h cs ↔ (h.Fin ↔ a.Fin) ∧ (a.Fin → h.per.toNat ∣ a.per.toNat ∧ ((a.per.toNat / h.per.toNat : Nat) : Int) * h.inc = a.inc) ∧ cs.length = dcExt a h ∧ ∀ t, t < cs.length → TickOk a b h cs t from by rw [CI.out, cert_flat NS.out])
          obtain ⟨DD, hDD⟩ := dc_exists HAO.out HBO.out
          have HDD := Lib.hid hDD
          have HB0 := Lib.hid (show b.at 0 = 0 from by rw [HNB.out.at]; exact HG0.out)
          have HBN := Lib.hid HNB.out.self
          have HOC := Lib.hid (show ordC a b ≤ 120 from by unfold ordC; rw [← HC.out]; exact hcc)
          have hK := dcK_le HAO.out HBO.out HOC.out
          have TM := Lib.hid (fun t (ht : t ≤ 1000) v => tick_most HAO.out HBO.out HBN.out HOC.out NS.out HB0.out HDD.out (t := t) ht v)
          obtain ⟨fa, hfa⟩ : ∃ z, z = (nth a.vals (n1 - 1) != inf) := ⟨_, rfl⟩
          obtain ⟨fh, hfh⟩ : ∃ z, z = (nth h.vals (k - 1) != inf) := ⟨_, rfl⟩
          have HFA := Lib.hid hfa; have HFH := Lib.hid hfh
          have LA := Lib.hid (show fa = true ↔ a.Fin from by
            rw [hfa, bne_iff_ne, ← HN1.out]; exact ⟨fun h => ⟨HAO.out, h⟩, fun h => h.2⟩)
          have LH := Lib.hid (show fh = true ↔ h.Fin from by
            rw [hfh, bne_iff_ne, ← HKM.out]; exact ⟨fun h => ⟨HHO.out, h⟩, fun h => h.2⟩)
          obtain ⟨X, hX⟩ : ∃ X, X = dcExt a h := ⟨_, rfl⟩
          obtain ⟨S, hSS⟩ : ∃ S : Nat, S = max (a.vals.length - a.per.toNat) (h.vals.length - h.per.toNat) := ⟨_, rfl⟩
          have hSX : (X : Int) = (S : Int) + a.per := by rw [hX, hSS]; unfold dcExt; omega
          have hS2 : S ≤ 400 := by rw [hSS, HN1.out, HKM.out]; omega
          have hmx : (if (n1 : Int) - a.per < (k : Int) - h.per then (k : Int) - h.per else (n1 : Int) - a.per) = (S : Int) := by
            rw [hSS, HN1.out, HKM.out]; split <;> omega
          have e1 : IntKind.i64.wrap ((S : Int) + a.per) = (X : Int) := by rw [IntWalk.i64_in _ (by omega)]; omega
          have e2 : (S : Int) + a.per = (X : Int) := by omega
          have e3 : IntKind.i64.wrap (X : Int) = (X : Int) := IntWalk.i64_in _ (by omega)
          have hX5 : X ≤ 520 := by omega
          have HXX := Lib.hid hX
          clear hfa hfh hX hSS hSX hDD
          go_upto_region 7 with fail
          go_cut [95] (fun s95 wx => ∃ z : Bool, s95 = .bool z ∧ Hid (z = false ↔ ((h.Fin ↔ a.Fin) ∧ (a.Fin → h.per.toNat ∣ a.per.toNat ∧ ((a.per.toNat / h.per.toNat : Nat) : Int) * h.inc = a.inc) ∧ cs.length = dcExt a h)) ∧ By (w.heap.size + 1 + 1 + 1) wx w1.heap.size A1 n1 c1 a ∧ By (w.heap.size + 1 + 1 + 1) wx (w1.heap.size + 1) A2 n2 c2 b ∧ Blk wx H 44 #[.slice C k s, .int .i64 h.per, .int .i64 h.inc] ∧ Blk wx (w.heap.size + 1 + 1) 55 #[.slice C k s, .int .i64 h.per, .int .i64 h.inc, .slice D x y] ∧ Ints wx wx.heap.size C k h.vals ∧ Ints wx wx.heap.size D x cs ∧ Below w.heap.size w wx)
          case first =>
            have FA := Lib.hid FA.out.drew; have FB := Lib.hid FB.out.drew; replace HB := Lib.hid (Blk.drew HB.out); replace CB := Lib.hid (Blk.drew CB.out); replace BW := Lib.hid (Below.drew BW.out)
            replace IC := Lib.hid (show Ints w7.drew w7.drew.heap.size C k h.vals from IC.out); replace ID := Lib.hid (show Ints w7.drew w7.drew.heap.size D x cs from ID.out)
            clear a0 a1 a2 hla b0 b1 b2 hlb
            clear h0 h1 h2 hlh
            clear r0 r1 r2 r3 hlr
            obtain ⟨a0, a1, a2, hla⟩ := FA.out.cells
            obtain ⟨b0, b1, b2, hlb⟩ := FB.out.cells
            obtain ⟨⟨h0, h1, h2⟩, _, hlh⟩ := HB.out.c3
            obtain ⟨⟨r0, r1, r2, r3⟩, _, hlr⟩ := CB.out.c4
            refine wp_region_held_drew (S := fun w' => w'.cell? ⟨w1.heap.size, 0, none⟩ = some (.slice A1 n1 c1) ∧ w'.cell? ⟨w1.heap.size, 1, none⟩ = some (.int .i64 a.per) ∧ w'.cell? ⟨w1.heap.size, 2, none⟩ = some (.int .i64 a.inc) ∧ w'.cell? ⟨w1.heap.size + 1, 0, none⟩ = some (.slice A2 n2 c2) ∧ w'.cell? ⟨w1.heap.size + 1, 1, none⟩ = some (.int .i64 b.per) ∧ w'.cell? ⟨w1.heap.size + 1, 2, none⟩ = some (.int .i64 b.inc) ∧ w'.cell? ⟨H, 0, none⟩ = some (.slice C k s) ∧ w'.cell? ⟨H, 1, none⟩ = some (.int .i64 h.per) ∧ w'.cell? ⟨H, 2, none⟩ = some (.int .i64 h.inc) ∧ w'.cell? ⟨w.heap.size + 1 + 1, 3, none⟩ = some (.slice D x y)) (by kernel_rfl) (by exact ⟨a0, a1, a2, b0, b1, b2, h0, h1, h2, r3⟩) (fun hHeld => ?_)
            clear a0 a1 a2 hla b0 b1 b2 hlb
            clear h0 h1 h2 hlh
            clear r0 r1 r2 r3 hlr
            generalize hwd : w7.drew = wd at *
            clear hwd
            obtain ⟨a0, a1, a2, hla⟩ := FA.out.cells
            obtain ⟨b0, b1, b2, hlb⟩ := FB.out.cells
            obtain ⟨⟨h0, h1, h2⟩, _, hlh⟩ := HB.out.c3
            obtain ⟨⟨r0, r1, r2, r3⟩, _, hlr⟩ := CB.out.c4
            refine wpAnyH_take (i := 0) (oi := _) (v := ?_) (by simp only [g8a, g8z]; rfl) (by kernel_rfl) (by kernel_rfl) (by kernel_rfl) (by exact fun _ _ _ h => h) (Or.inl ⟨by rfl, ?_⟩) (by assumption) ?_
            rotate_left 1
            · (intro w hSw; (try dsimp only at hSw); go_simp; try with_reducible rfl)
            all_goals ((try simp only [Act.put]); (try simp only [g8b]); (try simp only [g8c]); (try simp only [g8d]))
            refine wpAnyH_take (i := 2) (oi := _) (v := ?_) (by simp only [g8a, g8s, g8z]; rfl) (by kernel_rfl) (by kernel_rfl) (by kernel_rfl) (by exact fun _ _ _ h => h) (Or.inl ⟨by rfl, ?_⟩) (by assumption) ?_
            rotate_left 1
            · (intro w hSw; (try dsimp only at hSw); go_simp; try with_reducible rfl)
            all_goals ((try simp only [Act.put]); (try simp only [g8b]); (try simp only [g8c]); (try simp only [g8d]))
            refine wpAnyH_ready (rs := [1]) (by kernel_rfl) (by simp) ?_
            refine (AllReadyH.cons (by simp only [g8a, g8s, g8z]; rfl) (fun K hK => ?_) AllReadyH.nil)
            rw [if_pos (by rfl)]
            go_simp
            refine (fin8_any C k s h.per h.inc h.vals _ (by exact IC.out) (by omega) (by omega)).mono ?_
            rw [← HFH.out]
            rintro e wa ⟨rfl, hbq⟩
            replace FA := Lib.hid (FA.out.below hbq); replace FB := Lib.hid (FB.out.below hbq); replace HB := Lib.hid (HB.out.below hbq HB.out.lt); replace CB := Lib.hid (CB.out.below hbq CB.out.lt); replace IC := Lib.hid (IC.out.ext hbq); replace ID := Lib.hid (ID.out.ext hbq); replace BW := Lib.hid (bthen BW.out hbq)
            try clear hHeld
            clear hbq
            clear a0 a1 a2 hla b0 b1 b2 hlb
            clear h0 h1 h2 hlh
            clear r0 r1 r2 r3 hlr
            obtain ⟨a0, a1, a2, hla⟩ := FA.out.cells
            obtain ⟨b0, b1, b2, hlb⟩ := FB.out.cells
            obtain ⟨⟨h0, h1, h2⟩, _, hlh⟩ := HB.out.c3
            obtain ⟨⟨r0, r1, r2, r3⟩, _, hlr⟩ := CB.out.c4
            refine hK.out _ _ (by exact ⟨a0, a1, a2, b0, b1, b2, h0, h1, h2, r3⟩) (fun hHeld => ?_)
            clear hK K
            (try simp only [Act.put]); (try simp only [g8b]); (try simp only [g8c]); (try simp only [g8d])
            refine wpAnyH_ready (rs := [3]) (by kernel_rfl) (by simp) ?_
            refine (AllReadyH.cons (by simp only [g8a, g8s, g8z]; rfl) (fun K hK => ?_) AllReadyH.nil)
            rw [if_pos (by rfl)]
            go_simp
            refine (fin8_any A1 n1 c1 a.per a.inc a.vals _ (by exact FA.out.ints) (by omega) (by omega)).mono ?_
            rw [← HFA.out]
            rintro e wb ⟨rfl, hbq⟩
            replace FA := Lib.hid (FA.out.below hbq); replace FB := Lib.hid (FB.out.below hbq); replace HB := Lib.hid (HB.out.below hbq HB.out.lt); replace CB := Lib.hid (CB.out.below hbq CB.out.lt); replace IC := Lib.hid (IC.out.ext hbq); replace ID := Lib.hid (ID.out.ext hbq); replace BW := Lib.hid (bthen BW.out hbq)
            try clear hHeld
            clear hbq
            clear a0 a1 a2 hla b0 b1 b2 hlb
            clear h0 h1 h2 hlh
            clear r0 r1 r2 r3 hlr
            obtain ⟨a0, a1, a2, hla⟩ := FA.out.cells
            obtain ⟨b0, b1, b2, hlb⟩ := FB.out.cells
            obtain ⟨⟨h0, h1, h2⟩, _, hlh⟩ := HB.out.c3
            obtain ⟨⟨r0, r1, r2, r3⟩, _, hlr⟩ := CB.out.c4
            refine hK.out _ _ (by exact ⟨a0, a1, a2, b0, b1, b2, h0, h1, h2, r3⟩) (fun hHeld => ?_)
            clear hK K
            (try simp only [Act.put]); (try simp only [g8b]); (try simp only [g8c]); (try simp only [g8d])
            obtain ⟨zx, hzx⟩ : ∃ z : Bool, z = ((x : Int) != (X : Int)) := ⟨_, rfl⟩
            have ZX := Lib.hid (show zx = false ↔ cs.length = dcExt a h from by
              rw [hzx, HXM.out, ← HXX.out, bne_eq_false_iff_eq]
              omega)
            have ezx : ((x : Int) != (X : Int)) = zx := hzx.symm
            have ezx2 : (x != X) = zx := by
              rw [hzx]
              by_cases hh : x = X
              · subst hh; simp
              · rw [bne_iff_ne.2 hh, bne_iff_ne.2 (by omega)]
            clear hzx
            cases fh
            case false =>
              cases fa
              case false =>
                have HFF := Lib.hid (show h.Fin ↔ a.Fin from by rw [← LA.out, ← LH.out])
                have NFA := Lib.hid (show ¬ a.Fin from fun h1 => by have := LA.out.2 h1; cases this)
                have RES := Lib.hid (show zx = false ↔ ((h.Fin ↔ a.Fin) ∧ (a.Fin → h.per.toNat ∣ a.per.toNat ∧ ((a.per.toNat / h.per.toNat : Nat) : Int) * h.inc = a.inc) ∧ cs.length = dcExt a h) from
                  ⟨fun h1 => ⟨HFF.out, fun h2 => absurd h2 NFA.out, ZX.out.1 h1⟩, fun h1 => ZX.out.2 h1.2.2⟩)
                refine wpAnyH_take (i := 4) (oi := _) (v := ?_) (by simp only [g8a, g8s, g8z]; rfl) (by kernel_rfl) (by kernel_rfl) (by kernel_rfl) (by exact fun _ _ _ h => h) (Or.inl ⟨by rfl, ?_⟩) (by assumption) ?_
                rotate_left 1
                · (intro w hSw; (try dsimp only at hSw); go_simp; try with_reducible rfl)
                all_goals ((try simp only [Act.put]); (try simp only [g8b]); (try simp only [g8c]); (try simp only [g8d]))
                refine wpAnyH_take (i := 5) (oi := _) (v := ?_) (by simp only [g8a, g8s, g8z]; rfl) (by kernel_rfl) (by kernel_rfl) (by kernel_rfl) (by exact fun _ _ _ h => h) (Or.inl ⟨by rfl, ?_⟩) (by assumption) ?_
                rotate_left 1
                · (intro w hSw; (try dsimp only at hSw); go_simp; try with_reducible rfl)
                all_goals ((try simp only [Act.put]); (try simp only [g8b]); (try simp only [g8c]); (try simp only [g8d]))
                refine wpAnyH_take (i := 6) (oi := _) (v := ?_) (by simp only [g8a, g8s, g8z]; rfl) (by kernel_rfl) (by kernel_rfl) (by kernel_rfl) (by exact fun _ _ _ h => h) (Or.inl ⟨by rfl, ?_⟩) (by assumption) ?_
                rotate_left 1
                · (intro w hSw; (try dsimp only at hSw); go_simp; try with_reducible rfl)
                all_goals ((try simp only [Act.put]); (try simp only [g8b]); (try simp only [g8c]); (try simp only [g8d]))
                refine wpAnyH_ready (rs := [7]) (by kernel_rfl) (by simp) ?_
                refine (AllReadyH.cons (by simp only [g8a, g8s, g8z]; rfl) (fun K hK => ?_) AllReadyH.nil)
                rw [if_pos (by rfl)]
                go_simp
                refine (fin8_any A1 n1 c1 a.per a.inc a.vals _ (by exact FA.out.ints) (by omega) (by omega)).mono ?_
                rw [← HFA.out]
                rintro e wc ⟨rfl, hbq⟩
                replace FA := Lib.hid (FA.out.below hbq); replace FB := Lib.hid (FB.out.below hbq); replace HB := Lib.hid (HB.out.below hbq HB.out.lt); replace CB := Lib.hid (CB.out.below hbq CB.out.lt); replace IC := Lib.hid (IC.out.ext hbq); replace ID := Lib.hid (ID.out.ext hbq); replace BW := Lib.hid (bthen BW.out hbq)
                try clear hHeld
                clear hbq
                clear a0 a1 a2 hla b0 b1 b2 hlb
                clear h0 h1 h2 hlh
                clear r0 r1 r2 r3 hlr
                obtain ⟨a0, a1, a2, hla⟩ := FA.out.cells
                obtain ⟨b0, b1, b2, hlb⟩ := FB.out.cells
                obtain ⟨⟨h0, h1, h2⟩, _, hlh⟩ := HB.out.c3
                obtain ⟨⟨r0, r1, r2, r3⟩, _, hlr⟩ := CB.out.c4
                refine hK.out _ _ (by exact ⟨a0, a1, a2, b0, b1, b2, h0, h1, h2, r3⟩) (fun hHeld => ?_)
                clear hK K
                (try simp only [Act.put]); (try simp only [g8b]); (try simp only [g8c]); (try simp only [g8d])
                refine wpAnyH_take (i := 8) (oi := _) (v := ?_) (by simp only [g8a, g8s, g8z]; rfl) (by kernel_rfl) (by kernel_rfl) (by kernel_rfl) (by exact fun _ _ _ h => h) (Or.inl ⟨by rfl, ?_⟩) (by assumption) ?_
                rotate_left 1
                · (intro w hSw; (try dsimp only at hSw); go_simp; try with_reducible rfl)
                all_goals ((try simp only [Act.put]); (try simp only [g8b]); (try simp only [g8c]); (try simp only [g8d]))
                refine wpAnyH_take (i := 9) (oi := _) (v := undef) (by simp only [g8a, g8s, g8z]; rfl) (by kernel_rfl) (by kernel_rfl) (by kernel_rfl) (by exact fun _ _ _ h => h) (Or.inr ⟨by rfl, rfl⟩) (by assumption) ?_
                (try simp only [Act.put]); (try simp only [g8b]); (try simp only [g8c]); (try simp only [g8d])
                refine wpAnyH_take (i := 10) (oi := _) (v := undef) (by simp only [g8a, g8s, g8z]; rfl) (by kernel_rfl) (by kernel_rfl) (by kernel_rfl) (by exact fun _ _ _ h => h) (Or.inr ⟨by rfl, rfl⟩) (by assumption) ?_
                (try simp only [Act.put]); (try simp only [g8b]); (try simp only [g8c]); (try simp only [g8d])
                refine wpAnyH_take (i := 11) (oi := _) (v := undef) (by simp only [g8a, g8s, g8z]; rfl) (by kernel_rfl) (by kernel_rfl) (by kernel_rfl) (by exact fun _ _ _ h => h) (Or.inr ⟨by rfl, rfl⟩) (by assumption) ?_
                (try simp only [Act.put]); (try simp only [g8b]); (try simp only [g8c]); (try simp only [g8d])
                refine wpAnyH_take (i := 12) (oi := _) (v := undef) (by simp only [g8a, g8s, g8z]; rfl) (by kernel_rfl) (by kernel_rfl) (by kernel_rfl) (by exact fun _ _ _ h => h) (Or.inr ⟨by rfl, rfl⟩) (by assumption) ?_
                (try simp only [Act.put]); (try simp only [g8b]); (try simp only [g8c]); (try simp only [g8d])
                refine wpAnyH_take (i := 13) (oi := _) (v := undef) (by simp only [g8a, g8s, g8z]; rfl) (by kernel_rfl) (by kernel_rfl) (by kernel_rfl) (by exact fun _ _ _ h => h) (Or.inr ⟨by rfl, rfl⟩) (by assumption) ?_
                (try simp only [Act.put]); (try simp only [g8b]); (try simp only [g8c]); (try simp only [g8d])
                refine wpAnyH_take (i := 14) (oi := _) (v := undef) (by simp only [g8a, g8s, g8z]; rfl) (by kernel_rfl) (by kernel_rfl) (by kernel_rfl) (by exact fun _ _ _ h => h) (Or.inr ⟨by rfl, rfl⟩) (by assumption) ?_
                (try simp only [Act.put]); (try simp only [g8b]); (try simp only [g8c]); (try simp only [g8d])
                refine wpAnyH_take (i := 15) (oi := _) (v := undef) (by simp only [g8a, g8s, g8z]; rfl) (by kernel_rfl) (by kernel_rfl) (by kernel_rfl) (by exact fun _ _ _ h => h) (Or.inr ⟨by rfl, rfl⟩) (by assumption) ?_
                (try simp only [Act.put]); (try simp only [g8b]); (try simp only [g8c]); (try simp only [g8d])
                refine wpAnyH_take (i := 16) (oi := _) (v := undef) (by simp only [g8a, g8s, g8z]; rfl) (by kernel_rfl) (by kernel_rfl) (by kernel_rfl) (by exact fun _ _ _ h => h) (Or.inr ⟨by rfl, rfl⟩) (by assumption) ?_
                (try simp only [Act.put]); (try simp only [g8b]); (try simp only [g8c]); (try simp only [g8d])
                refine wpAnyH_take (i := 17) (oi := _) (v := undef) (by simp only [g8a, g8s, g8z]; rfl) (by kernel_rfl) (by kernel_rfl) (by kernel_rfl) (by exact fun _ _ _ h => h) (Or.inr ⟨by rfl, rfl⟩) (by assumption) ?_
                (try simp only [Act.put]); (try simp only [g8b]); (try simp only [g8c]); (try simp only [g8d])
                refine wpAnyH_take (i := 18) (oi := _) (v := undef) (by simp only [g8a, g8s, g8z]; rfl) (by kernel_rfl) (by kernel_rfl) (by kernel_rfl) (by exact fun _ _ _ h => h) (Or.inr ⟨by rfl, rfl⟩) (by assumption) ?_
                (try simp only [Act.put]); (try simp only [g8b]); (try simp only [g8c]); (try simp only [g8d])
                refine wpAnyH_take (i := 19) (oi := _) (v := undef) (by simp only [g8a, g8s, g8z]; rfl) (by kernel_rfl) (by kernel_rfl) (by kernel_rfl) (by exact fun _ _ _ h => h) (Or.inr ⟨by rfl, rfl⟩) (by assumption) ?_
                (try simp only [Act.put]); (try simp only [g8b]); (try simp only [g8c]); (try simp only [g8d])
                refine wpAnyH_take (i := 20) (oi := _) (v := undef) (by simp only [g8a, g8s, g8z]; rfl) (by kernel_rfl) (by kernel_rfl) (by kernel_rfl) (by exact fun _ _ _ h => h) (Or.inr ⟨by rfl, rfl⟩) (by assumption) ?_
                (try simp only [Act.put]); (try simp only [g8b]); (try simp only [g8c]); (try simp only [g8d])
                refine wpAnyH_take (i := 21) (oi := _) (v := undef) (by simp only [g8a, g8s, g8z]; rfl) (by kernel_rfl) (by kernel_rfl) (by kernel_rfl) (by exact fun _ _ _ h => h) (Or.inr ⟨by rfl, rfl⟩) (by assumption) ?_
                (try simp only [Act.put]); (try simp only [g8b]); (try simp only [g8c]); (try simp only [g8d])
                refine wpAnyH_take (i := 22) (oi := _) (v := undef) (by simp only [g8a, g8s, g8z]; rfl) (by kernel_rfl) (by kernel_rfl) (by kernel_rfl) (by exact fun _ _ _ h => h) (Or.inr ⟨by rfl, rfl⟩) (by assumption) ?_
                (try simp only [Act.put]); (try simp only [g8b]); (try simp only [g8c]); (try simp only [g8d])
                refine wpAnyH_take (i := 23) (oi := _) (v := undef) (by simp only [g8a, g8s, g8z]; rfl) (by kernel_rfl) (by kernel_rfl) (by kernel_rfl) (by exact fun _ _ _ h => h) (Or.inr ⟨by rfl, rfl⟩) (by assumption) ?_
                (try simp only [Act.put]); (try simp only [g8b]); (try simp only [g8c]); (try simp only [g8d])
                refine wpAnyH_take (i := 24) (oi := _) (v := undef) (by simp only [g8a, g8s, g8z]; rfl) (by kernel_rfl) (by kernel_rfl) (by kernel_rfl) (by exact fun _ _ _ h => h) (Or.inr ⟨by rfl, rfl⟩) (by assumption) ?_
                (try simp only [Act.put]); (try simp only [g8b]); (try simp only [g8c]); (try simp only [g8d])
                refine wpAnyH_take (i := 25) (oi := _) (v := undef) (by simp only [g8a, g8s, g8z]; rfl) (by kernel_rfl) (by kernel_rfl) (by kernel_rfl) (by exact fun _ _ _ h => h) (Or.inr ⟨by rfl, rfl⟩) (by assumption) ?_
                (try simp only [Act.put]); (try simp only [g8b]); (try simp only [g8c]); (try simp only [g8d])
                refine wpAnyH_take (i := 26) (oi := _) (v := undef) (by simp only [g8a, g8s, g8z]; rfl) (by kernel_rfl) (by kernel_rfl) (by kernel_rfl) (by exact fun _ _ _ h => h) (Or.inr ⟨by rfl, rfl⟩) (by assumption) ?_
                (try simp only [Act.put]); (try simp only [g8b]); (try simp only [g8c]); (try simp only [g8d])
                refine wpAnyH_take (i := 27) (oi := _) (v := undef) (by simp only [g8a, g8s, g8z]; rfl) (by kernel_rfl) (by kernel_rfl) (by kernel_rfl) (by exact fun _ _ _ h => h) (Or.inr ⟨by rfl, rfl⟩) (by assumption) ?_
                (try simp only [Act.put]); (try simp only [g8b]); (try simp only [g8c]); (try simp only [g8d])
                refine wpAnyH_take (i := 28) (oi := _) (v := ?_) (by simp only [g8a, g8s, g8z]; rfl) (by kernel_rfl) (by kernel_rfl) (by kernel_rfl) (by exact fun _ _ _ h => h) (Or.inl ⟨by rfl, ?_⟩) (by assumption) ?_
                rotate_left 1
                · (intro w hSw; (try dsimp only at hSw); go_simp; try with_reducible rfl)
                all_goals ((try simp only [Act.put]); (try simp only [g8b]); (try simp only [g8c]); (try simp only [g8d]))
                refine wpAnyH_take (i := 29) (oi := _) (v := ?_) (by simp only [g8a, g8s, g8z]; rfl) (by kernel_rfl) (by kernel_rfl) (by kernel_rfl) (by exact fun _ _ _ h => h) (Or.inl ⟨by rfl, ?_⟩) (by assumption) ?_
                rotate_left 1
                · (intro w hSw; (try dsimp only at hSw); go_simp; try with_reducible rfl)
                all_goals ((try simp only [Act.put]); (try simp only [g8b]); (try simp only [g8c]); (try simp only [g8d]))
                refine wpAnyH_take (i := 30) (oi := _) (v := ?_) (by simp only [g8a, g8s, g8z]; rfl) (by kernel_rfl) (by kernel_rfl) (by kernel_rfl) (by exact fun _ _ _ h => h) (Or.inl ⟨by rfl, ?_⟩) (by assumption) ?_
                rotate_left 1
                · (intro w hSw; (try dsimp only at hSw); go_simp; try with_reducible rfl)
                all_goals ((try simp only [Act.put]); (try simp only [g8b]); (try simp only [g8c]); (try simp only [g8d]))
                refine wpAnyH_take (i := 31) (oi := _) (v := ?_) (by simp only [g8a, g8s, g8z]; rfl) (by kernel_rfl) (by kernel_rfl) (by kernel_rfl) (by exact fun _ _ _ h => h) (Or.inl ⟨by rfl, ?_⟩) (by assumption) ?_
                rotate_left 1
                · (intro w hSw; (try dsimp only at hSw); go_simp; try with_reducible rfl)
                all_goals ((try simp only [Act.put]); (try simp only [g8b]); (try simp only [g8c]); (try simp only [g8d]))
                refine wpAnyH_take (i := 32) (oi := _) (v := ?_) (by simp only [g8a, g8s, g8z]; rfl) (by kernel_rfl) (by kernel_rfl) (by kernel_rfl) (by exact fun _ _ _ h => h) (Or.inl ⟨by rfl, ?_⟩) (by assumption) ?_
                rotate_left 1
                · (intro w hSw; (try dsimp only at hSw); go_simp; try with_reducible rfl)
                all_goals ((try simp only [Act.put]); (try simp only [g8b]); (try simp only [g8c]); (try simp only [g8d]))
                refine wpAnyH_take (i := 33) (oi := _) (v := ?_) (by simp only [g8a, g8s, g8z]; rfl) (by kernel_rfl) (by kernel_rfl) (by kernel_rfl) (by exact fun _ _ _ h => h) (Or.inl ⟨by rfl, ?_⟩) (by assumption) ?_
                rotate_left 1
                · (intro w hSw; (try dsimp only at hSw); go_simp; try with_reducible rfl)
                all_goals ((try simp only [Act.put]); (try simp only [g8b]); (try simp only [g8c]); (try simp only [g8d]))
                refine wpAnyH_take (i := 34) (oi := _) (v := ?_) (by simp only [g8a, g8s, g8z]; rfl) (by kernel_rfl) (by kernel_rfl) (by kernel_rfl) (by exact fun _ _ _ h => h) (Or.inl ⟨by rfl, ?_⟩) (by assumption) ?_
                rotate_left 1
                · (intro w hSw; (try dsimp only at hSw); go_simp; try with_reducible rfl)
                all_goals ((try simp only [Act.put]); (try simp only [g8b]); (try simp only [g8c]); (try simp only [g8d]))
                refine wpAnyH_take (i := 36) (oi := _) (v := ?_) (by simp only [g8a, g8s, g8z]; rfl) (by kernel_rfl) (by kernel_rfl) (by kernel_rfl) (by exact fun _ _ _ h => h) (Or.inl ⟨by rfl, ?_⟩) (by assumption) ?_
                rotate_left 1
                · (intro w hSw; (try dsimp only at hSw); go_simp; try with_reducible rfl)
                all_goals ((try simp only [Act.put]); (try simp only [g8b]); (try simp only [g8c]); (try simp only [g8d]))
                refine wpAnyH_take (i := 39) (oi := _) (v := ?_) (by simp only [g8a, g8s, g8z]; rfl) (by kernel_rfl) (by kernel_rfl) (by kernel_rfl) (by exact fun _ _ _ h => h) (Or.inl ⟨by rfl, ?_⟩) (by assumption) ?_
                rotate_left 1
                · (intro w hSw; (try dsimp only at hSw); go_simp; try with_reducible rfl)
                all_goals ((try simp only [Act.put]); (try simp only [g8b]); (try simp only [g8c]); (try simp only [g8d]))
                refine wpAnyH_take (i := 40) (oi := _) (v := ?_) (by simp only [g8a, g8s, g8z]; rfl) (by kernel_rfl) (by kernel_rfl) (by kernel_rfl) (by exact fun _ _ _ h => h) (Or.inl ⟨by rfl, ?_⟩) (by assumption) ?_
                rotate_left 1
                · (intro w hSw; (try dsimp only at hSw); go_simp; try with_reducible rfl)
                all_goals ((try simp only [Act.put]); (try simp only [g8b]); (try simp only [g8c]); (try simp only [g8d]))
                refine wpAnyH_ready (rs := [35]) (by kernel_rfl) (by simp) ?_
                refine (AllReadyH.cons (by simp only [g8a, g8s, g8z]; rfl) (fun K hK => ?_) AllReadyH.nil)
                rw [if_pos (by rfl)]
                go_simp
                refine (start8_any A1 n1 c1 a.per a.inc _ (by omega) (by omega) (by omega)).mono ?_
                rintro e wy ⟨rfl, hbq⟩
                replace FA := Lib.hid (FA.out.below hbq); replace FB := Lib.hid (FB.out.below hbq); replace HB := Lib.hid (HB.out.below hbq HB.out.lt); replace CB := Lib.hid (CB.out.below hbq CB.out.lt); replace IC := Lib.hid (IC.out.ext hbq); replace ID := Lib.hid (ID.out.ext hbq); replace BW := Lib.hid (bthen BW.out hbq)
                try clear hHeld
                clear hbq
                clear a0 a1 a2 hla b0 b1 b2 hlb
                clear h0 h1 h2 hlh
                clear r0 r1 r2 r3 hlr
                obtain ⟨a0, a1, a2, hla⟩ := FA.out.cells
                obtain ⟨b0, b1, b2, hlb⟩ := FB.out.cells
                obtain ⟨⟨h0, h1, h2⟩, _, hlh⟩ := HB.out.c3
                obtain ⟨⟨r0, r1, r2, r3⟩, _, hlr⟩ := CB.out.c4
                refine hK.out _ _ (by exact ⟨a0, a1, a2, b0, b1, b2, h0, h1, h2, r3⟩) (fun hHeld => ?_)
                clear hK K
                (try simp only [Act.put]); (try simp only [g8b]); (try simp only [g8c]); (try simp only [g8d])
                refine wpAnyH_ready (rs := [37]) (by kernel_rfl) (by simp) ?_
                refine (AllReadyH.cons (by simp only [g8a, g8s, g8z]; rfl) (fun K hK => ?_) AllReadyH.nil)
                rw [if_pos (by rfl)]
                go_simp
                refine (start8_any C k s h.per h.inc _ (by omega) (by omega) (by omega)).mono ?_
                rintro e wz ⟨rfl, hbq⟩
                replace FA := Lib.hid (FA.out.below hbq); replace FB := Lib.hid (FB.out.below hbq); replace HB := Lib.hid (HB.out.below hbq HB.out.lt); replace CB := Lib.hid (CB.out.below hbq CB.out.lt); replace IC := Lib.hid (IC.out.ext hbq); replace ID := Lib.hid (ID.out.ext hbq); replace BW := Lib.hid (bthen BW.out hbq)
                try clear hHeld
                clear hbq
                clear a0 a1 a2 hla b0 b1 b2 hlb
                clear h0 h1 h2 hlh
                clear r0 r1 r2 r3 hlr
                obtain ⟨a0, a1, a2, hla⟩ := FA.out.cells
                obtain ⟨b0, b1, b2, hlb⟩ := FB.out.cells
                obtain ⟨⟨h0, h1, h2⟩, _, hlh⟩ := HB.out.c3
                obtain ⟨⟨r0, r1, r2, r3⟩, _, hlr⟩ := CB.out.c4
                refine hK.out _ _ (by exact ⟨a0, a1, a2, b0, b1, b2, h0, h1, h2, r3⟩) (fun hHeld => ?_)
                clear hK K
                (try simp only [Act.put]); (try simp only [g8b]); (try simp only [g8c]); (try simp only [g8d])
                refine wpAnyH_ready (rs := [38]) (by kernel_rfl) (by simp) ?_
                refine (AllReadyH.cons (by simp only [g8a, g8s, g8z]; rfl) (fun K hK => ?_) AllReadyH.nil)
                rw [if_pos (by rfl)]
                go_simp
                refine hK.out _ _ (by exact ⟨a0, a1, a2, b0, b1, b2, h0, h1, h2, r3⟩) (fun hHeld => ?_)
                clear hK K
                (try simp only [Act.put]); (try simp only [g8b]); (try simp only [g8c]); (try simp only [g8d])
                refine wpAnyH_take (i := 41) (oi := _) (v := ?_) (by simp only [g8a, g8s, g8z]; rfl) (by kernel_rfl) (by kernel_rfl) (by kernel_rfl) (by exact fun _ _ _ h => h) (Or.inl ⟨by rfl, ?_⟩) (by assumption) ?_
                rotate_left 1
                · (intro w hSw; (try dsimp only at hSw); go_simp; try with_reducible rfl)
                all_goals ((try simp only [Act.put]); (try simp only [g8b]); (try simp only [g8c]); (try simp only [g8d]))
                refine wpAnyH_take (i := 42) (oi := _) (v := ?_) (by simp only [g8a, g8s, g8z]; rfl) (by kernel_rfl) (by kernel_rfl) (by kernel_rfl) (by exact fun _ _ _ h => h) (Or.inl ⟨by rfl, ?_⟩) (by assumption) ?_
                rotate_left 1
                · (intro w hSw; (try dsimp only at hSw); go_simp; try with_reducible rfl)
                all_goals ((try simp only [Act.put]); (try simp only [g8b]); (try simp only [g8c]); (try simp only [g8d]))
                refine wpAnyH_take (i := 43) (oi := _) (v := ?_) (by simp only [g8a, g8s, g8z]; rfl) (by kernel_rfl) (by kernel_rfl) (by kernel_rfl) (by exact fun _ _ _ h => h) (Or.inl ⟨by rfl, ?_⟩) (by assumption) ?_
                rotate_left 1
                · (intro w hSw; (try dsimp only at hSw); go_simp; try with_reducible rfl)
                all_goals ((try simp only [Act.put]); (try simp only [g8b]); (try simp only [g8c]); (try simp only [g8d]))
                refine wpAnyH_done (by kernel_rfl) ?_ _
                clear hHeld
                go_wp2_with fail
                go_meet
                exact ⟨_, rfl, RES, FA.out, FB.out, HB.out, CB.out, by exact IC.out, by exact ID.out, BW.out⟩
              case true =>
                have NO := Lib.hid (show ¬ (h.Fin ↔ a.Fin) from fun h1 => by
                  rw [← LA.out, ← LH.out] at h1
                  simp at h1)
                refine wpAnyH_take (i := 4) (oi := _) (v := ?_) (by simp only [g8a, g8s, g8z]; rfl) (by kernel_rfl) (by kernel_rfl) (by kernel_rfl) (by exact fun _ _ _ h => h) (Or.inl ⟨by rfl, ?_⟩) (by assumption) ?_
                rotate_left 1
                · (intro w hSw; (try dsimp only at hSw); go_simp; try with_reducible rfl)
                all_goals ((try simp only [Act.put]); (try simp only [g8b]); (try simp only [g8c]); (try simp only [g8d]))
                refine wpAnyH_take (i := 5) (oi := _) (v := ?_) (by simp only [g8a, g8s, g8z]; rfl) (by kernel_rfl) (by kernel_rfl) (by kernel_rfl) (by exact fun _ _ _ h => h) (Or.inl ⟨by rfl, ?_⟩) (by assumption) ?_
                rotate_left 1
                · (intro w hSw; (try dsimp only at hSw); go_simp; try with_reducible rfl)
                all_goals ((try simp only [Act.put]); (try simp only [g8b]); (try simp only [g8c]); (try simp only [g8d]))
                refine wpAnyH_take (i := 6) (oi := _) (v := undef) (by simp only [g8a, g8s, g8z]; rfl) (by kernel_rfl) (by kernel_rfl) (by kernel_rfl) (by exact fun _ _ _ h => h) (Or.inr ⟨by rfl, rfl⟩) (by assumption) ?_
                (try simp only [Act.put]); (try simp only [g8b]); (try simp only [g8c]); (try simp only [g8d])
                refine wpAnyH_take (i := 7) (oi := _) (v := undef) (by simp only [g8a, g8s, g8z]; rfl) (by kernel_rfl) (by kernel_rfl) (by kernel_rfl) (by exact fun _ _ _ h => h) (Or.inr ⟨by rfl, rfl⟩) (by assumption) ?_
                (try simp only [Act.put]); (try simp only [g8b]); (try simp only [g8c]); (try simp only [g8d])
                refine wpAnyH_take (i := 8) (oi := _) (v := undef) (by simp only [g8a, g8s, g8z]; rfl) (by kernel_rfl) (by kernel_rfl) (by kernel_rfl) (by exact fun _ _ _ h => h) (Or.inr ⟨by rfl, rfl⟩) (by assumption) ?_
                (try simp only [Act.put]); (try simp only [g8b]); (try simp only [g8c]); (try simp only [g8d])
                refine wpAnyH_take (i := 9) (oi := _) (v := undef) (by simp only [g8a, g8s, g8z]; rfl) (by kernel_rfl) (by kernel_rfl) (by kernel_rfl) (by exact fun _ _ _ h => h) (Or.inr ⟨by rfl, rfl⟩) (by assumption) ?_
                (try simp only [Act.put]); (try simp only [g8b]); (try simp only [g8c]); (try simp only [g8d])
                refine wpAnyH_take (i := 10) (oi := _) (v := undef) (by simp only [g8a, g8s, g8z]; rfl) (by kernel_rfl) (by kernel_rfl) (by kernel_rfl) (by exact fun _ _ _ h => h) (Or.inr ⟨by rfl, rfl⟩) (by assumption) ?_
                (try simp only [Act.put]); (try simp only [g8b]); (try simp only [g8c]); (try simp only [g8d])
                refine wpAnyH_take (i := 11) (oi := _) (v := undef) (by simp only [g8a, g8s, g8z]; rfl) (by kernel_rfl) (by kernel_rfl) (by kernel_rfl) (by exact fun _ _ _ h => h) (Or.inr ⟨by rfl, rfl⟩) (by assumption) ?_
                (try simp only [Act.put]); (try simp only [g8b]); (try simp only [g8c]); (try simp only [g8d])
                refine wpAnyH_take (i := 12) (oi := _) (v := undef) (by simp only [g8a, g8s, g8z]; rfl) (by kernel_rfl) (by kernel_rfl) (by kernel_rfl) (by exact fun _ _ _ h => h) (Or.inr ⟨by rfl, rfl⟩) (by assumption) ?_
                (try simp only [Act.put]); (try simp only [g8b]); (try simp only [g8c]); (try simp only [g8d])
                refine wpAnyH_take (i := 13) (oi := _) (v := undef) (by simp only [g8a, g8s, g8z]; rfl) (by kernel_rfl) (by kernel_rfl) (by kernel_rfl) (by exact fun _ _ _ h => h) (Or.inr ⟨by rfl, rfl⟩) (by assumption) ?_
                (try simp only [Act.put]); (try simp only [g8b]); (try simp only [g8c]); (try simp only [g8d])
                refine wpAnyH_take (i := 14) (oi := _) (v := undef) (by simp only [g8a, g8s, g8z]; rfl) (by kernel_rfl) (by kernel_rfl) (by kernel_rfl) (by exact fun _ _ _ h => h) (Or.inr ⟨by rfl, rfl⟩) (by assumption) ?_
                (try simp only [Act.put]); (try simp only [g8b]); (try simp only [g8c]); (try simp only [g8d])
                refine wpAnyH_take (i := 15) (oi := _) (v := undef) (by simp only [g8a, g8s, g8z]; rfl) (by kernel_rfl) (by kernel_rfl) (by kernel_rfl) (by exact fun _ _ _ h => h) (Or.inr ⟨by rfl, rfl⟩) (by assumption) ?_
                (try simp only [Act.put]); (try simp only [g8b]); (try simp only [g8c]); (try simp only [g8d])
                refine wpAnyH_take (i := 16) (oi := _) (v := undef) (by simp only [g8a, g8s, g8z]; rfl) (by kernel_rfl) (by kernel_rfl) (by kernel_rfl) (by exact fun _ _ _ h => h) (Or.inr ⟨by rfl, rfl⟩) (by assumption) ?_
                (try simp only [Act.put]); (try simp only [g8b]); (try simp only [g8c]); (try simp only [g8d])
                refine wpAnyH_take (i := 17) (oi := _) (v := undef) (by simp only [g8a, g8s, g8z]; rfl) (by kernel_rfl) (by kernel_rfl) (by kernel_rfl) (by exact fun _ _ _ h => h) (Or.inr ⟨by rfl, rfl⟩) (by assumption) ?_
                (try simp only [Act.put]); (try simp only [g8b]); (try simp only [g8c]); (try simp only [g8d])
                refine wpAnyH_take (i := 18) (oi := _) (v := undef) (by simp only [g8a, g8s, g8z]; rfl) (by kernel_rfl) (by kernel_rfl) (by kernel_rfl) (by exact fun _ _ _ h => h) (Or.inr ⟨by rfl, rfl⟩) (by assumption) ?_
                (try simp only [Act.put]); (try simp only [g8b]); (try simp only [g8c]); (try simp only [g8d])
                refine wpAnyH_take (i := 19) (oi := _) (v := undef) (by simp only [g8a, g8s, g8z]; rfl) (by kernel_rfl) (by kernel_rfl) (by kernel_rfl) (by exact fun _ _ _ h => h) (Or.inr ⟨by rfl, rfl⟩) (by assumption) ?_
                (try simp only [Act.put]); (try simp only [g8b]); (try simp only [g8c]); (try simp only [g8d])
                refine wpAnyH_take (i := 20) (oi := _) (v := undef) (by simp only [g8a, g8s, g8z]; rfl) (by kernel_rfl) (by kernel_rfl) (by kernel_rfl) (by exact fun _ _ _ h => h) (Or.inr ⟨by rfl, rfl⟩) (by assumption) ?_
                (try simp only [Act.put]); (try simp only [g8b]); (try simp only [g8c]); (try simp only [g8d])
                refine wpAnyH_take (i := 21) (oi := _) (v := undef) (by simp only [g8a, g8s, g8z]; rfl) (by kernel_rfl) (by kernel_rfl) (by kernel_rfl) (by exact fun _ _ _ h => h) (Or.inr ⟨by rfl, rfl⟩) (by assumption) ?_
                (try simp only [Act.put]); (try simp only [g8b]); (try simp only [g8c]); (try simp only [g8d])
                refine wpAnyH_take (i := 22) (oi := _) (v := undef) (by simp only [g8a, g8s, g8z]; rfl) (by kernel_rfl) (by kernel_rfl) (by kernel_rfl) (by exact fun _ _ _ h => h) (Or.inr ⟨by rfl, rfl⟩) (by assumption) ?_
                (try simp only [Act.put]); (try simp only [g8b]); (try simp only [g8c]); (try simp only [g8d])
                refine wpAnyH_take (i := 23) (oi := _) (v := undef) (by simp only [g8a, g8s, g8z]; rfl) (by kernel_rfl) (by kernel_rfl) (by kernel_rfl) (by exact fun _ _ _ h => h) (Or.inr ⟨by rfl, rfl⟩) (by assumption) ?_
                (try simp only [Act.put]); (try simp only [g8b]); (try simp only [g8c]); (try simp only [g8d])
                refine wpAnyH_take (i := 24) (oi := _) (v := undef) (by simp only [g8a, g8s, g8z]; rfl) (by kernel_rfl) (by kernel_rfl) (by kernel_rfl) (by exact fun _ _ _ h => h) (Or.inr ⟨by rfl, rfl⟩) (by assumption) ?_
                (try simp only [Act.put]); (try simp only [g8b]); (try simp only [g8c]); (try simp only [g8d])
                refine wpAnyH_take (i := 25) (oi := _) (v := undef) (by simp only [g8a, g8s, g8z]; rfl) (by kernel_rfl) (by kernel_rfl) (by kernel_rfl) (by exact fun _ _ _ h => h) (Or.inr ⟨by rfl, rfl⟩) (by assumption) ?_
                (try simp only [Act.put]); (try simp only [g8b]); (try simp only [g8c]); (try simp only [g8d])
                refine wpAnyH_take (i := 26) (oi := _) (v := undef) (by simp only [g8a, g8s, g8z]; rfl) (by kernel_rfl) (by kernel_rfl) (by kernel_rfl) (by exact fun _ _ _ h => h) (Or.inr ⟨by rfl, rfl⟩) (by assumption) ?_
                (try simp only [Act.put]); (try simp only [g8b]); (try simp only [g8c]); (try simp only [g8d])
                refine wpAnyH_take (i := 27) (oi := _) (v := undef) (by simp only [g8a, g8s, g8z]; rfl) (by kernel_rfl) (by kernel_rfl) (by kernel_rfl) (by exact fun _ _ _ h => h) (Or.inr ⟨by rfl, rfl⟩) (by assumption) ?_
                (try simp only [Act.put]); (try simp only [g8b]); (try simp only [g8c]); (try simp only [g8d])
                refine wpAnyH_take (i := 28) (oi := _) (v := undef) (by simp only [g8a, g8s, g8z]; rfl) (by kernel_rfl) (by kernel_rfl) (by kernel_rfl) (by exact fun _ _ _ h => h) (Or.inr ⟨by rfl, rfl⟩) (by assumption) ?_
                (try simp only [Act.put]); (try simp only [g8b]); (try simp only [g8c]); (try simp only [g8d])
                refine wpAnyH_take (i := 29) (oi := _) (v := ?_) (by simp only [g8a, g8s, g8z]; rfl) (by kernel_rfl) (by kernel_rfl) (by kernel_rfl) (by exact fun _ _ _ h => h) (Or.inl ⟨by rfl, ?_⟩) (by assumption) ?_
                rotate_left 1
                · (intro w hSw; (try dsimp only at hSw); go_simp; try with_reducible rfl)
                all_goals ((try simp only [Act.put]); (try simp only [g8b]); (try simp only [g8c]); (try simp only [g8d]))
                refine wpAnyH_take (i := 30) (oi := _) (v := ?_) (by simp only [g8a, g8s, g8z]; rfl) (by kernel_rfl) (by kernel_rfl) (by kernel_rfl) (by exact fun _ _ _ h => h) (Or.inl ⟨by rfl, ?_⟩) (by assumption) ?_
                rotate_left 1
                · (intro w hSw; (try dsimp only at hSw); go_simp; try with_reducible rfl)
                all_goals ((try simp only [Act.put]); (try simp only [g8b]); (try simp only [g8c]); (try simp only [g8d]))
                refine wpAnyH_take (i := 31) (oi := _) (v := undef) (by simp only [g8a, g8s, g8z]; rfl) (by kernel_rfl) (by kernel_rfl) (by kernel_rfl) (by exact fun _ _ _ h => h) (Or.inr ⟨by rfl, rfl⟩) (by assumption) ?_
                (try simp only [Act.put]); (try simp only [g8b]); (try simp only [g8c]); (try simp only [g8d])
                refine wpAnyH_take (i := 32) (oi := _) (v := undef) (by simp only [g8a, g8s, g8z]; rfl) (by kernel_rfl) (by kernel_rfl) (by kernel_rfl) (by exact fun _ _ _ h => h) (Or.inr ⟨by rfl, rfl⟩) (by assumption) ?_
                (try simp only [Act.put]); (try simp only [g8b]); (try simp only [g8c]); (try simp only [g8d])
                refine wpAnyH_take (i := 33) (oi := _) (v := undef) (by simp only [g8a, g8s, g8z]; rfl) (by kernel_rfl) (by kernel_rfl) (by kernel_rfl) (by exact fun _ _ _ h => h) (Or.inr ⟨by rfl, rfl⟩) (by assumption) ?_
                (try simp only [Act.put]); (try simp only [g8b]); (try simp only [g8c]); (try simp only [g8d])
                refine wpAnyH_take (i := 34) (oi := _) (v := undef) (by simp only [g8a, g8s, g8z]; rfl) (by kernel_rfl) (by kernel_rfl) (by kernel_rfl) (by exact fun _ _ _ h => h) (Or.inr ⟨by rfl, rfl⟩) (by assumption) ?_
                (try simp only [Act.put]); (try simp only [g8b]); (try simp only [g8c]); (try simp only [g8d])
                refine wpAnyH_take (i := 35) (oi := _) (v := undef) (by simp only [g8a, g8s, g8z]; rfl) (by kernel_rfl) (by kernel_rfl) (by kernel_rfl) (by exact fun _ _ _ h => h) (Or.inr ⟨by rfl, rfl⟩) (by assumption) ?_
                (try simp only [Act.put]); (try simp only [g8b]); (try simp only [g8c]); (try simp only [g8d])
                refine wpAnyH_take (i := 36) (oi := _) (v := undef) (by simp only [g8a, g8s, g8z]; rfl) (by kernel_rfl) (by kernel_rfl) (by kernel_rfl) (by exact fun _ _ _ h => h) (Or.inr ⟨by rfl, rfl⟩) (by assumption) ?_
                (try simp only [Act.put]); (try simp only [g8b]); (try simp only [g8c]); (try simp only [g8d])
                refine wpAnyH_take (i := 37) (oi := _) (v := undef) (by simp only [g8a, g8s, g8z]; rfl) (by kernel_rfl) (by kernel_rfl) (by kernel_rfl) (by exact fun _ _ _ h => h) (Or.inr ⟨by rfl, rfl⟩) (by assumption) ?_
                (try simp only [Act.put]); (try simp only [g8b]); (try simp only [g8c]); (try simp only [g8d])
                refine wpAnyH_take (i := 38) (oi := _) (v := undef) (by simp only [g8a, g8s, g8z]; rfl) (by kernel_rfl) (by kernel_rfl) (by kernel_rfl) (by exact fun _ _ _ h => h) (Or.inr ⟨by rfl, rfl⟩) (by assumption) ?_
                (try simp only [Act.put]); (try simp only [g8b]); (try simp only [g8c]); (try simp only [g8d])
                refine wpAnyH_take (i := 39) (oi := _) (v := undef) (by simp only [g8a, g8s, g8z]; rfl) (by kernel_rfl) (by kernel_rfl) (by kernel_rfl) (by exact fun _ _ _ h => h) (Or.inr ⟨by rfl, rfl⟩) (by assumption) ?_
                (try simp only [Act.put]); (try simp only [g8b]); (try simp only [g8c]); (try simp only [g8d])
                refine wpAnyH_take (i := 40) (oi := _) (v := undef) (by simp only [g8a, g8s, g8z]; rfl) (by kernel_rfl) (by kernel_rfl) (by kernel_rfl) (by exact fun _ _ _ h => h) (Or.inr ⟨by rfl, rfl⟩) (by assumption) ?_
                (try simp only [Act.put]); (try simp only [g8b]); (try simp only [g8c]); (try simp only [g8d])
                refine wpAnyH_take (i := 41) (oi := _) (v := undef) (by simp only [g8a, g8s, g8z]; rfl) (by kernel_rfl) (by kernel_rfl) (by kernel_rfl) (by exact fun _ _ _ h => h) (Or.inr ⟨by rfl, rfl⟩) (by assumption) ?_
                (try simp only [Act.put]); (try simp only [g8b]); (try simp only [g8c]); (try simp only [g8d])
                refine wpAnyH_take (i := 42) (oi := _) (v := undef) (by simp only [g8a, g8s, g8z]; rfl) (by kernel_rfl) (by kernel_rfl) (by kernel_rfl) (by exact fun _ _ _ h => h) (Or.inr ⟨by rfl, rfl⟩) (by assumption) ?_
                (try simp only [Act.put]); (try simp only [g8b]); (try simp only [g8c]); (try simp only [g8d])
                refine wpAnyH_take (i := 43) (oi := _) (v := ?_) (by simp only [g8a, g8s, g8z]; rfl) (by kernel_rfl) (by kernel_rfl) (by kernel_rfl) (by exact fun _ _ _ h => h) (Or.inl ⟨by rfl, ?_⟩) (by assumption) ?_
                rotate_left 1
                · (intro w hSw; (try dsimp only at hSw); go_simp; try with_reducible rfl)
                all_goals ((try simp only [Act.put]); (try simp only [g8b]); (try simp only [g8c]); (try simp only [g8d]))
                refine wpAnyH_done (by kernel_rfl) ?_ _
                clear hHeld
                go_wp2_with fail
                go_meet
                exact ⟨true, rfl, Lib.hid ⟨(fun h => by cases h), (fun h => absurd h.1 NO.out)⟩, FA.out, FB.out, HB.out, CB.out, by exact IC.out, by exact ID.out, BW.out⟩
            case true =>
              cases fa
              case false =>
                have NO := Lib.hid (show ¬ (h.Fin ↔ a.Fin) from fun h1 => by
                  rw [← LA.out, ← LH.out] at h1
                  simp at h1)
                refine wpAnyH_take (i := 4) (oi := _) (v := ?_) (by simp only [g8a, g8s, g8z]; rfl) (by kernel_rfl) (by kernel_rfl) (by kernel_rfl) (by exact fun _ _ _ h => h) (Or.inl ⟨by rfl, ?_⟩) (by assumption) ?_
                rotate_left 1
                · (intro w hSw; (try dsimp only at hSw); go_simp; try with_reducible rfl)
                all_goals ((try simp only [Act.put]); (try simp only [g8b]); (try simp only [g8c]); (try simp only [g8d]))
                refine wpAnyH_take (i := 5) (oi := _) (v := ?_) (by simp only [g8a, g8s, g8z]; rfl) (by kernel_rfl) (by kernel_rfl) (by kernel_rfl) (by exact fun _ _ _ h => h) (Or.inl ⟨by rfl, ?_⟩) (by assumption) ?_
                rotate_left 1
                · (intro w hSw; (try dsimp only at hSw); go_simp; try with_reducible rfl)
                all_goals ((try simp only [Act.put]); (try simp only [g8b]); (try simp only [g8c]); (try simp only [g8d]))
                refine wpAnyH_take (i := 6) (oi := _) (v := undef) (by simp only [g8a, g8s, g8z]; rfl) (by kernel_rfl) (by kernel_rfl) (by kernel_rfl) (by exact fun _ _ _ h => h) (Or.inr ⟨by rfl, rfl⟩) (by assumption) ?_
                (try simp only [Act.put]); (try simp only [g8b]); (try simp only [g8c]); (try simp only [g8d])
                refine wpAnyH_take (i := 7) (oi := _) (v := undef) (by simp only [g8a, g8s, g8z]; rfl) (by kernel_rfl) (by kernel_rfl) (by kernel_rfl) (by exact fun _ _ _ h => h) (Or.inr ⟨by rfl, rfl⟩) (by assumption) ?_
                (try simp only [Act.put]); (try simp only [g8b]); (try simp only [g8c]); (try simp only [g8d])
                refine wpAnyH_take (i := 8) (oi := _) (v := undef) (by simp only [g8a, g8s, g8z]; rfl) (by kernel_rfl) (by kernel_rfl) (by kernel_rfl) (by exact fun _ _ _ h => h) (Or.inr ⟨by rfl, rfl⟩) (by assumption) ?_
                (try simp only [Act.put]); (try simp only [g8b]); (try simp only [g8c]); (try simp only [g8d])
                refine wpAnyH_take (i := 9) (oi := _) (v := undef) (by simp only [g8a, g8s, g8z]; rfl) (by kernel_rfl) (by kernel_rfl) (by kernel_rfl) (by exact fun _ _ _ h => h) (Or.inr ⟨by rfl, rfl⟩) (by assumption) ?_
                (try simp only [Act.put]); (try simp only [g8b]); (try simp only [g8c]); (try simp only [g8d])
                refine wpAnyH_take (i := 10) (oi := _) (v := undef) (by simp only [g8a, g8s, g8z]; rfl) (by kernel_rfl) (by kernel_rfl) (by kernel_rfl) (by exact fun _ _ _ h => h) (Or.inr ⟨by rfl, rfl⟩) (by assumption) ?_
                (try simp only [Act.put]); (try simp only [g8b]); (try simp only [g8c]); (try simp only [g8d])
                refine wpAnyH_take (i := 11) (oi := _) (v := undef) (by simp only [g8a, g8s, g8z]; rfl) (by kernel_rfl) (by kernel_rfl) (by kernel_rfl) (by exact fun _ _ _ h => h) (Or.inr ⟨by rfl, rfl⟩) (by assumption) ?_
                (try simp only [Act.put]); (try simp only [g8b]); (try simp only [g8c]); (try simp only [g8d])
                refine wpAnyH_take (i := 12) (oi := _) (v := undef) (by simp only [g8a, g8s, g8z]; rfl) (by kernel_rfl) (by kernel_rfl) (by kernel_rfl) (by exact fun _ _ _ h => h) (Or.inr ⟨by rfl, rfl⟩) (by assumption) ?_
                (try simp only [Act.put]); (try simp only [g8b]); (try simp only [g8c]); (try simp only [g8d])
                refine wpAnyH_take (i := 13) (oi := _) (v := undef) (by simp only [g8a, g8s, g8z]; rfl) (by kernel_rfl) (by kernel_rfl) (by kernel_rfl) (by exact fun _ _ _ h => h) (Or.inr ⟨by rfl, rfl⟩) (by assumption) ?_
                (try simp only [Act.put]); (try simp only [g8b]); (try simp only [g8c]); (try simp only [g8d])
                refine wpAnyH_take (i := 14) (oi := _) (v := undef) (by simp only [g8a, g8s, g8z]; rfl) (by kernel_rfl) (by kernel_rfl) (by kernel_rfl) (by exact fun _ _ _ h => h) (Or.inr ⟨by rfl, rfl⟩) (by assumption) ?_
                (try simp only [Act.put]); (try simp only [g8b]); (try simp only [g8c]); (try simp only [g8d])
                refine wpAnyH_take (i := 15) (oi := _) (v := undef) (by simp only [g8a, g8s, g8z]; rfl) (by kernel_rfl) (by kernel_rfl) (by kernel_rfl) (by exact fun _ _ _ h => h) (Or.inr ⟨by rfl, rfl⟩) (by assumption) ?_
                (try simp only [Act.put]); (try simp only [g8b]); (try simp only [g8c]); (try simp only [g8d])
                refine wpAnyH_take (i := 16) (oi := _) (v := undef) (by simp only [g8a, g8s, g8z]; rfl) (by kernel_rfl) (by kernel_rfl) (by kernel_rfl) (by exact fun _ _ _ h => h) (Or.inr ⟨by rfl, rfl⟩) (by assumption) ?_
                (try simp only [Act.put]); (try simp only [g8b]); (try simp only [g8c]); (try simp only [g8d])
                refine wpAnyH_take (i := 17) (oi := _) (v := undef) (by simp only [g8a, g8s, g8z]; rfl) (by kernel_rfl) (by kernel_rfl) (by kernel_rfl) (by exact fun _ _ _ h => h) (Or.inr ⟨by rfl, rfl⟩) (by assumption) ?_
                (try simp only [Act.put]); (try simp only [g8b]); (try simp only [g8c]); (try simp only [g8d])
                refine wpAnyH_take (i := 18) (oi := _) (v := undef) (by simp only [g8a, g8s, g8z]; rfl) (by kernel_rfl) (by kernel_rfl) (by kernel_rfl) (by exact fun _ _ _ h => h) (Or.inr ⟨by rfl, rfl⟩) (by assumption) ?_
                (try simp only [Act.put]); (try simp only [g8b]); (try simp only [g8c]); (try simp only [g8d])
                refine wpAnyH_take (i := 19) (oi := _) (v := undef) (by simp only [g8a, g8s, g8z]; rfl) (by kernel_rfl) (by kernel_rfl) (by kernel_rfl) (by exact fun _ _ _ h => h) (Or.inr ⟨by rfl, rfl⟩) (by assumption) ?_
                (try simp only [Act.put]); (try simp only [g8b]); (try simp only [g8c]); (try simp only [g8d])
                refine wpAnyH_take (i := 20) (oi := _) (v := undef) (by simp only [g8a, g8s, g8z]; rfl) (by kernel_rfl) (by kernel_rfl) (by kernel_rfl) (by exact fun _ _ _ h => h) (Or.inr ⟨by rfl, rfl⟩) (by assumption) ?_
                (try simp only [Act.put]); (try simp only [g8b]); (try simp only [g8c]); (try simp only [g8d])
                refine wpAnyH_take (i := 21) (oi := _) (v := undef) (by simp only [g8a, g8s, g8z]; rfl) (by kernel_rfl) (by kernel_rfl) (by kernel_rfl) (by exact fun _ _ _ h => h) (Or.inr ⟨by rfl, rfl⟩) (by assumption) ?_
                (try simp only [Act.put]); (try simp only [g8b]); (try simp only [g8c]); (try simp only [g8d])
                refine wpAnyH_take (i := 22) (oi := _) (v := undef) (by simp only [g8a, g8s, g8z]; rfl) (by kernel_rfl) (by kernel_rfl) (by kernel_rfl) (by exact fun _ _ _ h => h) (Or.inr ⟨by rfl, rfl⟩) (by assumption) ?_
                (try simp only [Act.put]); (try simp only [g8b]); (try simp only [g8c]); (try simp only [g8d])
                refine wpAnyH_take (i := 23) (oi := _) (v := undef) (by simp only [g8a, g8s, g8z]; rfl) (by kernel_rfl) (by kernel_rfl) (by kernel_rfl) (by exact fun _ _ _ h => h) (Or.inr ⟨by rfl, rfl⟩) (by assumption) ?_
                (try simp only [Act.put]); (try simp only [g8b]); (try simp only [g8c]); (try simp only [g8d])
                refine wpAnyH_take (i := 24) (oi := _) (v := undef) (by simp only [g8a, g8s, g8z]; rfl) (by kernel_rfl) (by kernel_rfl) (by kernel_rfl) (by exact fun _ _ _ h => h) (Or.inr ⟨by rfl, rfl⟩) (by assumption) ?_
                (try simp only [Act.put]); (try simp only [g8b]); (try simp only [g8c]); (try simp only [g8d])
                refine wpAnyH_take (i := 25) (oi := _) (v := undef) (by simp only [g8a, g8s, g8z]; rfl) (by kernel_rfl) (by kernel_rfl) (by kernel_rfl) (by exact fun _ _ _ h => h) (Or.inr ⟨by rfl, rfl⟩) (by assumption) ?_
                (try simp only [Act.put]); (try simp only [g8b]); (try simp only [g8c]); (try simp only [g8d])
                refine wpAnyH_take (i := 26) (oi := _) (v := undef) (by simp only [g8a, g8s, g8z]; rfl) (by kernel_rfl) (by kernel_rfl) (by kernel_rfl) (by exact fun _ _ _ h => h) (Or.inr ⟨by rfl, rfl⟩) (by assumption) ?_
                (try simp only [Act.put]); (try simp only [g8b]); (try simp only [g8c]); (try simp only [g8d])
                refine wpAnyH_take (i := 27) (oi := _) (v := undef) (by simp only [g8a, g8s, g8z]; rfl) (by kernel_rfl) (by kernel_rfl) (by kernel_rfl) (by exact fun _ _ _ h => h) (Or.inr ⟨by rfl, rfl⟩) (by assumption) ?_
                (try simp only [Act.put]); (try simp only [g8b]); (try simp only [g8c]); (try simp only [g8d])
                refine wpAnyH_take (i := 28) (oi := _) (v := undef) (by simp only [g8a, g8s, g8z]; rfl) (by kernel_rfl) (by kernel_rfl) (by kernel_rfl) (by exact fun _ _ _ h => h) (Or.inr ⟨by rfl, rfl⟩) (by assumption) ?_
                (try simp only [Act.put]); (try simp only [g8b]); (try simp only [g8c]); (try simp only [g8d])
                refine wpAnyH_take (i := 29) (oi := _) (v := ?_) (by simp only [g8a, g8s, g8z]; rfl) (by kernel_rfl) (by kernel_rfl) (by kernel_rfl) (by exact fun _ _ _ h => h) (Or.inl ⟨by rfl, ?_⟩) (by assumption) ?_
                rotate_left 1
                · (intro w hSw; (try dsimp only at hSw); go_simp; try with_reducible rfl)
                all_goals ((try simp only [Act.put]); (try simp only [g8b]); (try simp only [g8c]); (try simp only [g8d]))
                refine wpAnyH_take (i := 30) (oi := _) (v := ?_) (by simp only [g8a, g8s, g8z]; rfl) (by kernel_rfl) (by kernel_rfl) (by kernel_rfl) (by exact fun _ _ _ h => h) (Or.inl ⟨by rfl, ?_⟩) (by assumption) ?_
                rotate_left 1
                · (intro w hSw; (try dsimp only at hSw); go_simp; try with_reducible rfl)
                all_goals ((try simp only [Act.put]); (try simp only [g8b]); (try simp only [g8c]); (try simp only [g8d]))
                refine wpAnyH_take (i := 31) (oi := _) (v := undef) (by simp only [g8a, g8s, g8z]; rfl) (by kernel_rfl) (by kernel_rfl) (by kernel_rfl) (by exact fun _ _ _ h => h) (Or.inr ⟨by rfl, rfl⟩) (by assumption) ?_
                (try simp only [Act.put]); (try simp only [g8b]); (try simp only [g8c]); (try simp only [g8d])
                refine wpAnyH_take (i := 32) (oi := _) (v := undef) (by simp only [g8a, g8s, g8z]; rfl) (by kernel_rfl) (by kernel_rfl) (by kernel_rfl) (by exact fun _ _ _ h => h) (Or.inr ⟨by rfl, rfl⟩) (by assumption) ?_
                (try simp only [Act.put]); (try simp only [g8b]); (try simp only [g8c]); (try simp only [g8d])
                refine wpAnyH_take (i := 33) (oi := _) (v := undef) (by simp only [g8a, g8s, g8z]; rfl) (by kernel_rfl) (by kernel_rfl) (by kernel_rfl) (by exact fun _ _ _ h => h) (Or.inr ⟨by rfl, rfl⟩) (by assumption) ?_
                (try simp only [Act.put]); (try simp only [g8b]); (try simp only [g8c]); (try simp only [g8d])
                refine wpAnyH_take (i := 34) (oi := _) (v := undef) (by simp only [g8a, g8s, g8z]; rfl) (by kernel_rfl) (by kernel_rfl) (by kernel_rfl) (by exact fun _ _ _ h => h) (Or.inr ⟨by rfl, rfl⟩) (by assumption) ?_
                (try simp only [Act.put]); (try simp only [g8b]); (try simp only [g8c]); (try simp only [g8d])
                refine wpAnyH_take (i := 35) (oi := _) (v := undef) (by simp only [g8a, g8s, g8z]; rfl) (by kernel_rfl) (by kernel_rfl) (by kernel_rfl) (by exact fun _ _ _ h => h) (Or.inr ⟨by rfl, rfl⟩) (by assumption) ?_
                (try simp only [Act.put]); (try simp only [g8b]); (try simp only [g8c]); (try simp only [g8d])
                refine wpAnyH_take (i := 36) (oi := _) (v := undef) (by simp only [g8a, g8s, g8z]; rfl) (by kernel_rfl) (by kernel_rfl) (by kernel_rfl) (by exact fun _ _ _ h => h) (Or.inr ⟨by rfl, rfl⟩) (by assumption) ?_
                (try simp only [Act.put]); (try simp only [g8b]); (try simp only [g8c]); (try simp only [g8d])
                refine wpAnyH_take (i := 37) (oi := _) (v := undef) (by simp only [g8a, g8s, g8z]; rfl) (by kernel_rfl) (by kernel_rfl) (by kernel_rfl) (by exact fun _ _ _ h => h) (Or.inr ⟨by rfl, rfl⟩) (by assumption) ?_
                (try simp only [Act.put]); (try simp only [g8b]); (try simp only [g8c]); (try simp only [g8d])
                refine wpAnyH_take (i := 38) (oi := _) (v := undef) (by simp only [g8a, g8s, g8z]; rfl) (by kernel_rfl) (by kernel_rfl) (by kernel_rfl) (by exact fun _ _ _ h => h) (Or.inr ⟨by rfl, rfl⟩) (by assumption) ?_
                (try simp only [Act.put]); (try simp only [g8b]); (try simp only [g8c]); (try simp only [g8d])
                refine wpAnyH_take (i := 39) (oi := _) (v := undef) (by simp only [g8a, g8s, g8z]; rfl) (by kernel_rfl) (by kernel_rfl) (by kernel_rfl) (by exact fun _ _ _ h => h) (Or.inr ⟨by rfl, rfl⟩) (by assumption) ?_
                (try simp only [Act.put]); (try simp only [g8b]); (try simp only [g8c]); (try simp only [g8d])
                refine wpAnyH_take (i := 40) (oi := _) (v := undef) (by simp only [g8a, g8s, g8z]; rfl) (by kernel_rfl) (by kernel_rfl) (by kernel_rfl) (by exact fun _ _ _ h => h) (Or.inr ⟨by rfl, rfl⟩) (by assumption) ?_
                (try simp only [Act.put]); (try simp only [g8b]); (try simp only [g8c]); (try simp only [g8d])
                refine wpAnyH_take (i := 41) (oi := _) (v := undef) (by simp only [g8a, g8s, g8z]; rfl) (by kernel_rfl) (by kernel_rfl) (by kernel_rfl) (by exact fun _ _ _ h => h) (Or.inr ⟨by rfl, rfl⟩) (by assumption) ?_
                (try simp only [Act.put]); (try simp only [g8b]); (try simp only [g8c]); (try simp only [g8d])
                refine wpAnyH_take (i := 42) (oi := _) (v := undef) (by simp only [g8a, g8s, g8z]; rfl) (by kernel_rfl) (by kernel_rfl) (by kernel_rfl) (by exact fun _ _ _ h => h) (Or.inr ⟨by rfl, rfl⟩) (by assumption) ?_
                (try simp only [Act.put]); (try simp only [g8b]); (try simp only [g8c]); (try simp only [g8d])
                refine wpAnyH_take (i := 43) (oi := _) (v := ?_) (by simp only [g8a, g8s, g8z]; rfl) (by kernel_rfl) (by kernel_rfl) (by kernel_rfl) (by exact fun _ _ _ h => h) (Or.inl ⟨by rfl, ?_⟩) (by assumption) ?_
                rotate_left 1
                · (intro w hSw; (try dsimp only at hSw); go_simp; try with_reducible rfl)
                all_goals ((try simp only [Act.put]); (try simp only [g8b]); (try simp only [g8c]); (try simp only [g8d]))
                refine wpAnyH_done (by kernel_rfl) ?_ _
                clear hHeld
                go_wp2_with fail
                go_meet
                exact ⟨true, rfl, Lib.hid ⟨(fun h => by cases h), (fun h => absurd h.1 NO.out)⟩, FA.out, FB.out, HB.out, CB.out, by exact IC.out, by exact ID.out, BW.out⟩
              case true =>
                have HFF := Lib.hid (show h.Fin ↔ a.Fin from by rw [← LA.out, ← LH.out])
                have YFA := Lib.hid (show a.Fin from LA.out.1 (by first | rfl | trivial))
                obtain ⟨r, hr⟩ : ∃ r, r = a.per.tmod h.per := ⟨_, rfl⟩
                have HR := Lib.hid hr
                have hp0 : ¬ h.per = 0 := by omega
                have er := HR.out.symm
                clear hr
                refine wpAnyH_take (i := 4) (oi := _) (v := ?_) (by simp only [g8a, g8s, g8z]; rfl) (by kernel_rfl) (by kernel_rfl) (by kernel_rfl) (by exact fun _ _ _ h => h) (Or.inl ⟨by rfl, ?_⟩) (by assumption) ?_
                rotate_left 1
                · (intro w hSw; (try dsimp only at hSw); go_simp; try with_reducible rfl)
                all_goals ((try simp only [Act.put]); (try simp only [g8b]); (try simp only [g8c]); (try simp only [g8d]))
                refine wpAnyH_take (i := 5) (oi := _) (v := ?_) (by simp only [g8a, g8s, g8z]; rfl) (by kernel_rfl) (by kernel_rfl) (by kernel_rfl) (by exact fun _ _ _ h => h) (Or.inl ⟨by rfl, ?_⟩) (by assumption) ?_
                rotate_left 1
                · (intro w hSw; (try dsimp only at hSw); go_simp; try with_reducible rfl)
                all_goals ((try simp only [Act.put]); (try simp only [g8b]); (try simp only [g8c]); (try simp only [g8d]))
                refine wpAnyH_take (i := 6) (oi := _) (v := ?_) (by simp only [g8a, g8s, g8z]; rfl) (by kernel_rfl) (by kernel_rfl) (by kernel_rfl) (by exact fun _ _ _ h => h) (Or.inl ⟨by rfl, ?_⟩) (by assumption) ?_
                rotate_left 1
                · (intro w hSw; (try dsimp only at hSw); go_simp; try with_reducible rfl)
                all_goals ((try simp only [Act.put]); (try simp only [g8b]); (try simp only [g8c]); (try simp only [g8d]))
                refine wpAnyH_ready (rs := [7]) (by kernel_rfl) (by simp) ?_
                refine (AllReadyH.cons (by simp only [g8a, g8s, g8z]; rfl) (fun K hK => ?_) AllReadyH.nil)
                rw [if_pos (by rfl)]
                go_simp
                refine (fin8_any A1 n1 c1 a.per a.inc a.vals _ (by exact FA.out.ints) (by omega) (by omega)).mono ?_
                rw [← HFA.out]
                rintro e wc ⟨rfl, hbq⟩
                replace FA := Lib.hid (FA.out.below hbq); replace FB := Lib.hid (FB.out.below hbq); replace HB := Lib.hid (HB.out.below hbq HB.out.lt); replace CB := Lib.hid (CB.out.below hbq CB.out.lt); replace IC := Lib.hid (IC.out.ext hbq); replace ID := Lib.hid (ID.out.ext hbq); replace BW := Lib.hid (bthen BW.out hbq)
                try clear hHeld
                clear hbq
                clear a0 a1 a2 hla b0 b1 b2 hlb
                clear h0 h1 h2 hlh
                clear r0 r1 r2 r3 hlr
                obtain ⟨a0, a1, a2, hla⟩ := FA.out.cells
                obtain ⟨b0, b1, b2, hlb⟩ := FB.out.cells
                obtain ⟨⟨h0, h1, h2⟩, _, hlh⟩ := HB.out.c3
                obtain ⟨⟨r0, r1, r2, r3⟩, _, hlr⟩ := CB.out.c4
                refine hK.out _ _ (by exact ⟨a0, a1, a2, b0, b1, b2, h0, h1, h2, r3⟩) (fun hHeld => ?_)
                clear hK K
                (try simp only [Act.put]); (try simp only [g8b]); (try simp only [g8c]); (try simp only [g8d])
                refine wpAnyH_take (i := 8) (oi := _) (v := ?_) (by simp only [g8a, g8s, g8z]; rfl) (by kernel_rfl) (by kernel_rfl) (by kernel_rfl) (by exact fun _ _ _ h => h) (Or.inl ⟨by rfl, ?_⟩) (by assumption) ?_
                rotate_left 1
                · (intro w hSw; (try dsimp only at hSw); go_simp; try with_reducible rfl)
                all_goals ((try simp only [Act.put]); (try simp only [g8b]); (try simp only [g8c]); (try simp only [g8d]))
                refine wpAnyH_take (i := 9) (oi := _) (v := ?_) (by simp only [g8a, g8s, g8z]; rfl) (by kernel_rfl) (by kernel_rfl) (by kernel_rfl) (by exact fun _ _ _ h => h) (Or.inl ⟨by rfl, ?_⟩) (by assumption) ?_
                rotate_left 1
                · (intro w hSw; (try dsimp only at hSw); go_simp; try with_reducible rfl)
                all_goals ((try simp only [Act.put]); (try simp only [g8b]); (try simp only [g8c]); (try simp only [g8d]))
                refine wpAnyH_take (i := 10) (oi := _) (v := ?_) (by simp only [g8a, g8s, g8z]; rfl) (by kernel_rfl) (by kernel_rfl) (by kernel_rfl) (by exact fun _ _ _ h => h) (Or.inl ⟨by rfl, ?_⟩) (by assumption) ?_
                rotate_left 1
                · (intro w hSw; (try dsimp only at hSw); go_simp; try with_reducible rfl)
                all_goals ((try simp only [Act.put]); (try simp only [g8b]); (try simp only [g8c]); (try simp only [g8d]))
                refine wpAnyH_take (i := 11) (oi := _) (v := ?_) (by simp only [g8a, g8s, g8z]; rfl) (by kernel_rfl) (by kernel_rfl) (by kernel_rfl) (by exact fun _ _ _ h => h) (Or.inl ⟨by rfl, ?_⟩) (by assumption) ?_
                rotate_left 1
                · (intro w hSw; (try dsimp only at hSw); go_simp; try with_reducible rfl)
                all_goals ((try simp only [Act.put]); (try simp only [g8b]); (try simp only [g8c]); (try simp only [g8d]))
                refine wpAnyH_take (i := 12) (oi := _) (v := ?_) (by simp only [g8a, g8s, g8z]; rfl) (by kernel_rfl) (by kernel_rfl) (by kernel_rfl) (by exact fun _ _ _ h => h) (Or.inl ⟨by rfl, ?_⟩) (by assumption) ?_
                rotate_left 1
                · (intro w hSw; (try dsimp only at hSw); go_simp; try with_reducible rfl)
                all_goals ((try simp only [Act.put]); (try simp only [g8b]); (try simp only [g8c]); (try simp only [g8d]))
                refine wpAnyH_take (i := 13) (oi := _) (v := ?_) (by simp only [g8a, g8s, g8z]; rfl) (by kernel_rfl) (by kernel_rfl) (by kernel_rfl) (by exact fun _ _ _ h => h) (Or.inl ⟨by rfl, ?_⟩) (by assumption) ?_
                rotate_left 1
                · (intro w hSw; (try dsimp only at hSw); go_simp; try with_reducible rfl)
                all_goals ((try simp only [Act.put]); (try simp only [g8b]); (try simp only [g8c]); (try simp only [g8d]))
                by_cases hr0 : r = 0
                case neg =>
                  have dr : (r != 0) = true := by simpa using hr0
                  have NO := Lib.hid (show ¬ (h.per.toNat ∣ a.per.toNat) from fun h1 => hr0 (by rw [HR.out]; exact (dvd_mod a3' f3').2 h1))
                  clear hr0
                  refine wpAnyH_take (i := 14) (oi := _) (v := ?_) (by simp only [g8a, g8s, g8z]; rfl) (by kernel_rfl) (by kernel_rfl) (by kernel_rfl) (by exact fun _ _ _ h => h) (Or.inl ⟨by rfl, ?_⟩) (by assumption) ?_
                  rotate_left 1
                  · (intro w hSw; (try dsimp only at hSw); go_simp; try with_reducible rfl)
                  all_goals ((try simp only [Act.put]); (try simp only [g8b]); (try simp only [g8c]); (try simp only [g8d]))
                  refine wpAnyH_take (i := 15) (oi := _) (v := ?_) (by simp only [g8a, g8s, g8z]; rfl) (by kernel_rfl) (by kernel_rfl) (by kernel_rfl) (by exact fun _ _ _ h => h) (Or.inl ⟨by rfl, ?_⟩) (by assumption) ?_
                  rotate_left 1
                  · (intro w hSw; (try dsimp only at hSw); go_simp; try with_reducible rfl)
                  all_goals ((try simp only [Act.put]); (try simp only [g8b]); (try simp only [g8c]); (try simp only [g8d]))
                  refine wpAnyH_take (i := 16) (oi := _) (v := undef) (by simp only [g8a, g8s, g8z]; rfl) (by kernel_rfl) (by kernel_rfl) (by kernel_rfl) (by exact fun _ _ _ h => h) (Or.inr ⟨by rfl, rfl⟩) (by assumption) ?_
                  (try simp only [Act.put]); (try simp only [g8b]); (try simp only [g8c]); (try simp only [g8d])
                  refine wpAnyH_take (i := 17) (oi := _) (v := undef) (by simp only [g8a, g8s, g8z]; rfl) (by kernel_rfl) (by kernel_rfl) (by kernel_rfl) (by exact fun _ _ _ h => h) (Or.inr ⟨by rfl, rfl⟩) (by assumption) ?_
                  (try simp only [Act.put]); (try simp only [g8b]); (try simp only [g8c]); (try simp only [g8d])
                  refine wpAnyH_take (i := 18) (oi := _) (v := undef) (by simp only [g8a, g8s, g8z]; rfl) (by kernel_rfl) (by kernel_rfl) (by kernel_rfl) (by exact fun _ _ _ h => h) (Or.inr ⟨by rfl, rfl⟩) (by assumption) ?_
                  (try simp only [Act.put]); (try simp only [g8b]); (try simp only [g8c]); (try simp only [g8d])
                  refine wpAnyH_take (i := 19) (oi := _) (v := undef) (by simp only [g8a, g8s, g8z]; rfl) (by kernel_rfl) (by kernel_rfl) (by kernel_rfl) (by exact fun _ _ _ h => h) (Or.inr ⟨by rfl, rfl⟩) (by assumption) ?_
                  (try simp only [Act.put]); (try simp only [g8b]); (try simp only [g8c]); (try simp only [g8d])
                  refine wpAnyH_take (i := 20) (oi := _) (v := undef) (by simp only [g8a, g8s, g8z]; rfl) (by kernel_rfl) (by kernel_rfl) (by kernel_rfl) (by exact fun _ _ _ h => h) (Or.inr ⟨by rfl, rfl⟩) (by assumption) ?_
                  (try simp only [Act.put]); (try simp only [g8b]); (try simp only [g8c]); (try simp only [g8d])
                  refine wpAnyH_take (i := 21) (oi := _) (v := undef) (by simp only [g8a, g8s, g8z]; rfl) (by kernel_rfl) (by kernel_rfl) (by kernel_rfl) (by exact fun _ _ _ h => h) (Or.inr ⟨by rfl, rfl⟩) (by assumption) ?_
                  (try simp only [Act.put]); (try simp only [g8b]); (try simp only [g8c]); (try simp only [g8d])
                  refine wpAnyH_take (i := 22) (oi := _) (v := undef) (by simp only [g8a, g8s, g8z]; rfl) (by kernel_rfl) (by kernel_rfl) (by kernel_rfl) (by exact fun _ _ _ h => h) (Or.inr ⟨by rfl, rfl⟩) (by assumption) ?_
                  (try simp only [Act.put]); (try simp only [g8b]); (try simp only [g8c]); (try simp only [g8d])
                  refine wpAnyH_take (i := 23) (oi := _) (v := undef) (by simp only [g8a, g8s, g8z]; rfl) (by kernel_rfl) (by kernel_rfl) (by kernel_rfl) (by exact fun _ _ _ h => h) (Or.inr ⟨by rfl, rfl⟩) (by assumption) ?_
                  (try simp only [Act.put]); (try simp only [g8b]); (try simp only [g8c]); (try simp only [g8d])
                  refine wpAnyH_take (i := 24) (oi := _) (v := undef) (by simp only [g8a, g8s, g8z]; rfl) (by kernel_rfl) (by kernel_rfl) (by kernel_rfl) (by exact fun _ _ _ h => h) (Or.inr ⟨by rfl, rfl⟩) (by assumption) ?_
                  (try simp only [Act.put]); (try simp only [g8b]); (try simp only [g8c]); (try simp only [g8d])
                  refine wpAnyH_take (i := 25) (oi := _) (v := undef) (by simp only [g8a, g8s, g8z]; rfl) (by kernel_rfl) (by kernel_rfl) (by kernel_rfl) (by exact fun _ _ _ h => h) (Or.inr ⟨by rfl, rfl⟩) (by assumption) ?_
                  (try simp only [Act.put]); (try simp only [g8b]); (try simp only [g8c]); (try simp only [g8d])
                  refine wpAnyH_take (i := 26) (oi := _) (v := undef) (by simp only [g8a, g8s, g8z]; rfl) (by kernel_rfl) (by kernel_rfl) (by kernel_rfl) (by exact fun _ _ _ h => h) (Or.inr ⟨by rfl, rfl⟩) (by assumption) ?_
                  (try simp only [Act.put]); (try simp only [g8b]); (try simp only [g8c]); (try simp only [g8d])
                  refine wpAnyH_take (i := 27) (oi := _) (v := ?_) (by simp only [g8a, g8s, g8z]; rfl) (by kernel_rfl) (by kernel_rfl) (by kernel_rfl) (by exact fun _ _ _ h => h) (Or.inl ⟨by rfl, ?_⟩) (by assumption) ?_
                  rotate_left 1
                  · (intro w hSw; (try dsimp only at hSw); go_simp; try with_reducible rfl)
                  all_goals ((try simp only [Act.put]); (try simp only [g8b]); (try simp only [g8c]); (try simp only [g8d]))
                  refine wpAnyH_take (i := 28) (oi := _) (v := ?_) (by simp only [g8a, g8s, g8z]; rfl) (by kernel_rfl) (by kernel_rfl) (by kernel_rfl) (by exact fun _ _ _ h => h) (Or.inl ⟨by rfl, ?_⟩) (by assumption) ?_
                  rotate_left 1
                  · (intro w hSw; (try dsimp only at hSw); go_simp; try with_reducible rfl)
                  all_goals ((try simp only [Act.put]); (try simp only [g8b]); (try simp only [g8c]); (try simp only [g8d]))
                  refine wpAnyH_take (i := 29) (oi := _) (v := ?_) (by simp only [g8a, g8s, g8z]; rfl) (by kernel_rfl) (by kernel_rfl) (by kernel_rfl) (by exact fun _ _ _ h => h) (Or.inl ⟨by rfl, ?_⟩) (by assumption) ?_
                  rotate_left 1
                  · (intro w hSw; (try dsimp only at hSw); go_simp; try with_reducible rfl)
                  all_goals ((try simp only [Act.put]); (try simp only [g8b]); (try simp only [g8c]); (try simp only [g8d]))
                  refine wpAnyH_take (i := 30) (oi := _) (v := ?_) (by simp only [g8a, g8s, g8z]; rfl) (by kernel_rfl) (by kernel_rfl) (by kernel_rfl) (by exact fun _ _ _ h => h) (Or.inl ⟨by rfl, ?_⟩) (by assumption) ?_
                  rotate_left 1
                  · (intro w hSw; (try dsimp only at hSw); go_simp; try with_reducible rfl)
                  all_goals ((try simp only [Act.put]); (try simp only [g8b]); (try simp only [g8c]); (try simp only [g8d]))
                  refine wpAnyH_take (i := 31) (oi := _) (v := undef) (by simp only [g8a, g8s, g8z]; rfl) (by kernel_rfl) (by kernel_rfl) (by kernel_rfl) (by exact fun _ _ _ h => h) (Or.inr ⟨by rfl, rfl⟩) (by assumption) ?_
                  (try simp only [Act.put]); (try simp only [g8b]); (try simp only [g8c]); (try simp only [g8d])
                  refine wpAnyH_take (i := 32) (oi := _) (v := undef) (by simp only [g8a, g8s, g8z]; rfl) (by kernel_rfl) (by kernel_rfl) (by kernel_rfl) (by exact fun _ _ _ h => h) (Or.inr ⟨by rfl, rfl⟩) (by assumption) ?_
                  (try simp only [Act.put]); (try simp only [g8b]); (try simp only [g8c]); (try simp only [g8d])
                  refine wpAnyH_take (i := 33) (oi := _) (v := undef) (by simp only [g8a, g8s, g8z]; rfl) (by kernel_rfl) (by kernel_rfl) (by kernel_rfl) (by exact fun _ _ _ h => h) (Or.inr ⟨by rfl, rfl⟩) (by assumption) ?_
                  (try simp only [Act.put]); (try simp only [g8b]); (try simp only [g8c]); (try simp only [g8d])
                  refine wpAnyH_take (i := 34) (oi := _) (v := undef) (by simp only [g8a, g8s, g8z]; rfl) (by kernel_rfl) (by kernel_rfl) (by kernel_rfl) (by exact fun _ _ _ h => h) (Or.inr ⟨by rfl, rfl⟩) (by assumption) ?_
                  (try simp only [Act.put]); (try simp only [g8b]); (try simp only [g8c]); (try simp only [g8d])
                  refine wpAnyH_take (i := 35) (oi := _) (v := undef) (by simp only [g8a, g8s, g8z]; rfl) (by kernel_rfl) (by kernel_rfl) (by kernel_rfl) (by exact fun _ _ _ h => h) (Or.inr ⟨by rfl, rfl⟩) (by assumption) ?_
                  (try simp only [Act.put]); (try simp only [g8b]); (try simp only [g8c]); (try simp only [g8d])
                  refine wpAnyH_take (i := 36) (oi := _) (v := undef) (by simp only [g8a, g8s, g8z]; rfl) (by kernel_rfl) (by kernel_rfl) (by kernel_rfl) (by exact fun _ _ _ h => h) (Or.inr ⟨by rfl, rfl⟩) (by assumption) ?_
                  (try simp only [Act.put]); (try simp only [g8b]); (try simp only [g8c]); (try simp only [g8d])
                  refine wpAnyH_take (i := 37) (oi := _) (v := undef) (by simp only [g8a, g8s, g8z]; rfl) (by kernel_rfl) (by kernel_rfl) (by kernel_rfl) (by exact fun _ _ _ h => h) (Or.inr ⟨by rfl, rfl⟩) (by assumption) ?_
                  (try simp only [Act.put]); (try simp only [g8b]); (try simp only [g8c]); (try simp only [g8d])
                  refine wpAnyH_take (i := 38) (oi := _) (v := undef) (by simp only [g8a, g8s, g8z]; rfl) (by kernel_rfl) (by kernel_rfl) (by kernel_rfl) (by exact fun _ _ _ h => h) (Or.inr ⟨by rfl, rfl⟩) (by assumption) ?_
                  (try simp only [Act.put]); (try simp only [g8b]); (try simp only [g8c]); (try simp only [g8d])
                  refine wpAnyH_take (i := 39) (oi := _) (v := undef) (by simp only [g8a, g8s, g8z]; rfl) (by kernel_rfl) (by kernel_rfl) (by kernel_rfl) (by exact fun _ _ _ h => h) (Or.inr ⟨by rfl, rfl⟩) (by assumption) ?_
                  (try simp only [Act.put]); (try simp only [g8b]); (try simp only [g8c]); (try simp only [g8d])
                  refine wpAnyH_take (i := 40) (oi := _) (v := undef) (by simp only [g8a, g8s, g8z]; rfl) (by kernel_rfl) (by kernel_rfl) (by kernel_rfl) (by exact fun _ _ _ h => h) (Or.inr ⟨by rfl, rfl⟩) (by assumption) ?_
                  (try simp only [Act.put]); (try simp only [g8b]); (try simp only [g8c]); (try simp only [g8d])
                  refine wpAnyH_take (i := 41) (oi := _) (v := undef) (by simp only [g8a, g8s, g8z]; rfl) (by kernel_rfl) (by kernel_rfl) (by kernel_rfl) (by exact fun _ _ _ h => h) (Or.inr ⟨by rfl, rfl⟩) (by assumption) ?_
                  (try simp only [Act.put]); (try simp only [g8b]); (try simp only [g8c]); (try simp only [g8d])
                  refine wpAnyH_take (i := 42) (oi := _) (v := undef) (by simp only [g8a, g8s, g8z]; rfl) (by kernel_rfl) (by kernel_rfl) (by kernel_rfl) (by exact fun _ _ _ h => h) (Or.inr ⟨by rfl, rfl⟩) (by assumption) ?_
                  (try simp only [Act.put]); (try simp only [g8b]); (try simp only [g8c]); (try simp only [g8d])
                  refine wpAnyH_take (i := 43) (oi := _) (v := ?_) (by simp only [g8a, g8s, g8z]; rfl) (by kernel_rfl) (by kernel_rfl) (by kernel_rfl) (by exact fun _ _ _ h => h) (Or.inl ⟨by rfl, ?_⟩) (by assumption) ?_
                  rotate_left 1
                  · (intro w hSw; (try dsimp only at hSw); go_simp; try with_reducible rfl)
                  all_goals ((try simp only [Act.put]); (try simp only [g8b]); (try simp only [g8c]); (try simp only [g8d]))
                  refine wpAnyH_done (by kernel_rfl) ?_ _
                  clear hHeld
                  go_wp2_with fail
                  go_meet
                  exact ⟨true, rfl, Lib.hid ⟨(fun h => by cases h), (fun h => absurd (h.2.1 YFA.out).1 NO.out)⟩, FA.out, FB.out, HB.out, CB.out, by exact IC.out, by exact ID.out, BW.out⟩
                case pos =>
                  have dr : (r != 0) = false := by simpa using hr0
                  have DV := Lib.hid (show h.per.toNat ∣ a.per.toNat from (dvd_mod a3' f3').1 (by rw [← HR.out]; exact hr0))
                  clear hr0 er
                  obtain ⟨Q, hQ⟩ : ∃ Q : Nat, Q = a.per.toNat / h.per.toNat := ⟨_, rfl⟩
                  have eq1 : a.per.tdiv h.per = (Q : Int) := by
                    obtain ⟨pn, hpe⟩ := Int.eq_ofNat_of_zero_le (show 0 ≤ a.per by omega)
                    obtain ⟨qn, hqe⟩ := Int.eq_ofNat_of_zero_le (show 0 ≤ h.per by omega)
                    rw [hQ, hpe, hqe]; rfl
                  have eq1' : a.per / h.per = (Q : Int) := by
                    rw [← eq1, Int.tdiv_eq_ediv_of_nonneg (by omega)]
                  have hQ2 : Q ≤ 120 := by rw [hQ]; exact Nat.le_trans (Nat.div_le_self _ _) (by omega)
                  obtain ⟨gv, hgv⟩ : ∃ z, z = (Q : Int) * h.inc := ⟨_, rfl⟩
                  have hgv1 : (Q : Int) * h.inc ≤ 120 * 1073741824 := Int.mul_le_mul (by omega) f7' f6' (by omega)
                  have hgv0 : 0 ≤ (Q : Int) * h.inc := Int.mul_nonneg (by omega) f6'
                  have eq2 : IntKind.i64.wrap (h.inc * (Q : Int)) = gv := by rw [Int.mul_comm, hgv]; exact IntWalk.i64_in _ (by omega)
                  have eq3 : IntKind.i64.wrap (Q : Int) = (Q : Int) := IntWalk.i64_in _ (by omega)
                  have HGV := Lib.hid (show gv = ((a.per.toNat / h.per.toNat : Nat) : Int) * h.inc from by rw [hgv, hQ])
                  clear hQ hgv hgv1 hgv0
                  refine wpAnyH_take (i := 14) (oi := _) (v := ?_) (by simp only [g8a, g8s, g8z]; rfl) (by kernel_rfl) (by kernel_rfl) (by kernel_rfl) (by exact fun _ _ _ h => h) (Or.inl ⟨by rfl, ?_⟩) (by assumption) ?_
                  rotate_left 1
                  · (intro w hSw; (try dsimp only at hSw); go_simp; try with_reducible rfl)
                  all_goals ((try simp only [Act.put]); (try simp only [g8b]); (try simp only [g8c]); (try simp only [g8d]))
                  refine wpAnyH_take (i := 15) (oi := _) (v := ?_) (by simp only [g8a, g8s, g8z]; rfl) (by kernel_rfl) (by kernel_rfl) (by kernel_rfl) (by exact fun _ _ _ h => h) (Or.inl ⟨by rfl, ?_⟩) (by assumption) ?_
                  rotate_left 1
                  · (intro w hSw; (try dsimp only at hSw); go_simp; try with_reducible rfl)
                  all_goals ((try simp only [Act.put]); (try simp only [g8b]); (try simp only [g8c]); (try simp only [g8d]))
                  refine wpAnyH_take (i := 16) (oi := _) (v := ?_) (by simp only [g8a, g8s, g8z]; rfl) (by kernel_rfl) (by kernel_rfl) (by kernel_rfl) (by exact fun _ _ _ h => h) (Or.inl ⟨by rfl, ?_⟩) (by assumption) ?_
                  rotate_left 1
                  · (intro w hSw; (try dsimp only at hSw); go_simp; try with_reducible rfl)
                  all_goals ((try simp only [Act.put]); (try simp only [g8b]); (try simp only [g8c]); (try simp only [g8d]))
                  refine wpAnyH_take (i := 17) (oi := _) (v := ?_) (by simp only [g8a, g8s, g8z]; rfl) (by kernel_rfl) (by kernel_rfl) (by kernel_rfl) (by exact fun _ _ _ h => h) (Or.inl ⟨by rfl, ?_⟩) (by assumption) ?_
                  rotate_left 1
                  · (intro w hSw; (try dsimp only at hSw); go_simp; try with_reducible rfl)
                  all_goals ((try simp only [Act.put]); (try simp only [g8b]); (try simp only [g8c]); (try simp only [g8d]))
                  refine wpAnyH_take (i := 18) (oi := _) (v := ?_) (by simp only [g8a, g8s, g8z]; rfl) (by kernel_rfl) (by kernel_rfl) (by kernel_rfl) (by exact fun _ _ _ h => h) (Or.inl ⟨by rfl, ?_⟩) (by assumption) ?_
                  rotate_left 1
                  · (intro w hSw; (try dsimp only at hSw); go_simp; try with_reducible rfl)
                  all_goals ((try simp only [Act.put]); (try simp only [g8b]); (try simp only [g8c]); (try simp only [g8d]))
                  refine wpAnyH_take (i := 19) (oi := _) (v := ?_) (by simp only [g8a, g8s, g8z]; rfl) (by kernel_rfl) (by kernel_rfl) (by kernel_rfl) (by exact fun _ _ _ h => h) (Or.inl ⟨by rfl, ?_⟩) (by assumption) ?_
                  rotate_left 1
                  · (intro w hSw; (try dsimp only at hSw); go_simp; try with_reducible rfl)
                  all_goals ((try simp only [Act.put]); (try simp only [g8b]); (try simp only [g8c]); (try simp only [g8d]))
                  refine wpAnyH_take (i := 20) (oi := _) (v := ?_) (by simp only [g8a, g8s, g8z]; rfl) (by kernel_rfl) (by kernel_rfl) (by kernel_rfl) (by exact fun _ _ _ h => h) (Or.inl ⟨by rfl, ?_⟩) (by assumption) ?_
                  rotate_left 1
                  · (intro w hSw; (try dsimp only at hSw); go_simp; try with_reducible rfl)
                  all_goals ((try simp only [Act.put]); (try simp only [g8b]); (try simp only [g8c]); (try simp only [g8d]))
                  refine wpAnyH_take (i := 21) (oi := _) (v := ?_) (by simp only [g8a, g8s, g8z]; rfl) (by kernel_rfl) (by kernel_rfl) (by kernel_rfl) (by exact fun _ _ _ h => h) (Or.inl ⟨by rfl, ?_⟩) (by assumption) ?_
                  rotate_left 1
                  · (intro w hSw; (try dsimp only at hSw); go_simp; try with_reducible rfl)
                  all_goals ((try simp only [Act.put]); (try simp only [g8b]); (try simp only [g8c]); (try simp only [g8d]))
                  refine wpAnyH_take (i := 22) (oi := _) (v := ?_) (by simp only [g8a, g8s, g8z]; rfl) (by kernel_rfl) (by kernel_rfl) (by kernel_rfl) (by exact fun _ _ _ h => h) (Or.inl ⟨by rfl, ?_⟩) (by assumption) ?_
                  rotate_left 1
                  · (intro w hSw; (try dsimp only at hSw); go_simp; try with_reducible rfl)
                  all_goals ((try simp only [Act.put]); (try simp only [g8b]); (try simp only [g8c]); (try simp only [g8d]))
                  refine wpAnyH_take (i := 23) (oi := _) (v := ?_) (by simp only [g8a, g8s, g8z]; rfl) (by kernel_rfl) (by kernel_rfl) (by kernel_rfl) (by exact fun _ _ _ h => h) (Or.inl ⟨by rfl, ?_⟩) (by assumption) ?_
                  rotate_left 1
                  · (intro w hSw; (try dsimp only at hSw); go_simp; try with_reducible rfl)
                  all_goals ((try simp only [Act.put]); (try simp only [g8b]); (try simp only [g8c]); (try simp only [g8d]))
                  by_cases hgi : gv = a.inc
                  case neg =>
                    have dg : (gv != a.inc) = true := by simpa using hgi
                    have NO := Lib.hid (show ¬ ((a.per.toNat / h.per.toNat : Nat) : Int) * h.inc = a.inc from fun h1 => hgi (by rw [HGV.out]; exact h1))
                    clear hgi
                    refine wpAnyH_take (i := 24) (oi := _) (v := ?_) (by simp only [g8a, g8s, g8z]; rfl) (by kernel_rfl) (by kernel_rfl) (by kernel_rfl) (by exact fun _ _ _ h => h) (Or.inl ⟨by rfl, ?_⟩) (by assumption) ?_
                    rotate_left 1
                    · (intro w hSw; (try dsimp only at hSw); go_simp; try with_reducible rfl)
                    all_goals ((try simp only [Act.put]); (try simp only [g8b]); (try simp only [g8c]); (try simp only [g8d]))
                    refine wpAnyH_take (i := 25) (oi := _) (v := ?_) (by simp only [g8a, g8s, g8z]; rfl) (by kernel_rfl) (by kernel_rfl) (by kernel_rfl) (by exact fun _ _ _ h => h) (Or.inl ⟨by rfl, ?_⟩) (by assumption) ?_
                    rotate_left 1
                    · (intro w hSw; (try dsimp only at hSw); go_simp; try with_reducible rfl)
                    all_goals ((try simp only [Act.put]); (try simp only [g8b]); (try simp only [g8c]); (try simp only [g8d]))
                    refine wpAnyH_take (i := 26) (oi := _) (v := ?_) (by simp only [g8a, g8s, g8z]; rfl) (by kernel_rfl) (by kernel_rfl) (by kernel_rfl) (by exact fun _ _ _ h => h) (Or.inl ⟨by rfl, ?_⟩) (by assumption) ?_
                    rotate_left 1
                    · (intro w hSw; (try dsimp only at hSw); go_simp; try with_reducible rfl)
                    all_goals ((try simp only [Act.put]); (try simp only [g8b]); (try simp only [g8c]); (try simp only [g8d]))
                    refine wpAnyH_take (i := 27) (oi := _) (v := ?_) (by simp only [g8a, g8s, g8z]; rfl) (by kernel_rfl) (by kernel_rfl) (by kernel_rfl) (by exact fun _ _ _ h => h) (Or.inl ⟨by rfl, ?_⟩) (by assumption) ?_
                    rotate_left 1
                    · (intro w hSw; (try dsimp only at hSw); go_simp; try with_reducible rfl)
                    all_goals ((try simp only [Act.put]); (try simp only [g8b]); (try simp only [g8c]); (try simp only [g8d]))
                    refine wpAnyH_take (i := 28) (oi := _) (v := ?_) (by simp only [g8a, g8s, g8z]; rfl) (by kernel_rfl) (by kernel_rfl) (by kernel_rfl) (by exact fun _ _ _ h => h) (Or.inl ⟨by rfl, ?_⟩) (by assumption) ?_
                    rotate_left 1
                    · (intro w hSw; (try dsimp only at hSw); go_simp; try with_reducible rfl)
                    all_goals ((try simp only [Act.put]); (try simp only [g8b]); (try simp only [g8c]); (try simp only [g8d]))
                    refine wpAnyH_take (i := 29) (oi := _) (v := ?_) (by simp only [g8a, g8s, g8z]; rfl) (by kernel_rfl) (by kernel_rfl) (by kernel_rfl) (by exact fun _ _ _ h => h) (Or.inl ⟨by rfl, ?_⟩) (by assumption) ?_
                    rotate_left 1
                    · (intro w hSw; (try dsimp only at hSw); go_simp; try with_reducible rfl)
                    all_goals ((try simp only [Act.put]); (try simp only [g8b]); (try simp only [g8c]); (try simp only [g8d]))
                    refine wpAnyH_take (i := 30) (oi := _) (v := ?_) (by simp only [g8a, g8s, g8z]; rfl) (by kernel_rfl) (by kernel_rfl) (by kernel_rfl) (by exact fun _ _ _ h => h) (Or.inl ⟨by rfl, ?_⟩) (by assumption) ?_
                    rotate_left 1
                    · (intro w hSw; (try dsimp only at hSw); go_simp; try with_reducible rfl)
                    all_goals ((try simp only [Act.put]); (try simp only [g8b]); (try simp only [g8c]); (try simp only [g8d]))
                    refine wpAnyH_take (i := 31) (oi := _) (v := undef) (by simp only [g8a, g8s, g8z]; rfl) (by kernel_rfl) (by kernel_rfl) (by kernel_rfl) (by exact fun _ _ _ h => h) (Or.inr ⟨by rfl, rfl⟩) (by assumption) ?_
                    (try simp only [Act.put]); (try simp only [g8b]); (try simp only [g8c]); (try simp only [g8d])
                    refine wpAnyH_take (i := 32) (oi := _) (v := undef) (by simp only [g8a, g8s, g8z]; rfl) (by kernel_rfl) (by kernel_rfl) (by kernel_rfl) (by exact fun _ _ _ h => h) (Or.inr ⟨by rfl, rfl⟩) (by assumption) ?_
                    (try simp only [Act.put]); (try simp only [g8b]); (try simp only [g8c]); (try simp only [g8d])
                    refine wpAnyH_take (i := 33) (oi := _) (v := undef) (by simp only [g8a, g8s, g8z]; rfl) (by kernel_rfl) (by kernel_rfl) (by kernel_rfl) (by exact fun _ _ _ h => h) (Or.inr ⟨by rfl, rfl⟩) (by assumption) ?_
                    (try simp only [Act.put]); (try simp only [g8b]); (try simp only [g8c]); (try simp only [g8d])
                    refine wpAnyH_take (i := 34) (oi := _) (v := undef) (by simp only [g8a, g8s, g8z]; rfl) (by kernel_rfl) (by kernel_rfl) (by kernel_rfl) (by exact fun _ _ _ h => h) (Or.inr ⟨by rfl, rfl⟩) (by assumption) ?_
                    (try simp only [Act.put]); (try simp only [g8b]); (try simp only [g8c]); (try simp only [g8d])
                    refine wpAnyH_take (i := 35) (oi := _) (v := undef) (by simp only [g8a, g8s, g8z]; rfl) (by kernel_rfl) (by kernel_rfl) (by kernel_rfl) (by exact fun _ _ _ h => h) (Or.inr ⟨by rfl, rfl⟩) (by assumption) ?_
                    (try simp only [Act.put]); (try simp only [g8b]); (try simp only [g8c]); (try simp only [g8d])
                    refine wpAnyH_take (i := 36) (oi := _) (v := undef) (by simp only [g8a, g8s, g8z]; rfl) (by kernel_rfl) (by kernel_rfl) (by kernel_rfl) (by exact fun _ _ _ h => h) (Or.inr ⟨by rfl, rfl⟩) (by assumption) ?_
                    (try simp only [Act.put]); (try simp only [g8b]); (try simp only [g8c]); (try simp only [g8d])
                    refine wpAnyH_take (i := 37) (oi := _) (v := undef) (by simp only [g8a, g8s, g8z]; rfl) (by kernel_rfl) (by kernel_rfl) (by kernel_rfl) (by exact fun _ _ _ h => h) (Or.inr ⟨by rfl, rfl⟩) (by assumption) ?_
                    (try simp only [Act.put]); (try simp only [g8b]); (try simp only [g8c]); (try simp only [g8d])
                    refine wpAnyH_take (i := 38) (oi := _) (v := undef) (by simp only [g8a, g8s, g8z]; rfl) (by kernel_rfl) (by kernel_rfl) (by kernel_rfl) (by exact fun _ _ _ h => h) (Or.inr ⟨by rfl, rfl⟩) (by assumption) ?_
                    (try simp only [Act.put]); (try simp only [g8b]); (try simp only [g8c]); (try simp only [g8d])
                    refine wpAnyH_take (i := 39) (oi := _) (v := undef) (by simp only [g8a, g8s, g8z]; rfl) (by kernel_rfl) (by kernel_rfl) (by kernel_rfl) (by exact fun _ _ _ h => h) (Or.inr ⟨by rfl, rfl⟩) (by assumption) ?_
                    (try simp only [Act.put]); (try simp only [g8b]); (try simp only [g8c]); (try simp only [g8d])
                    refine wpAnyH_take (i := 40) (oi := _) (v := undef) (by simp only [g8a, g8s, g8z]; rfl) (by kernel_rfl) (by kernel_rfl) (by kernel_rfl) (by exact fun _ _ _ h => h) (Or.inr ⟨by rfl, rfl⟩) (by assumption) ?_
                    (try simp only [Act.put]); (try simp only [g8b]); (try simp only [g8c]); (try simp only [g8d])
                    refine wpAnyH_take (i := 41) (oi := _) (v := undef) (by simp only [g8a, g8s, g8z]; rfl) (by kernel_rfl) (by kernel_rfl) (by kernel_rfl) (by exact fun _ _ _ h => h) (Or.inr ⟨by rfl, rfl⟩) (by assumption) ?_
                    (try simp only [Act.put]); (try simp only [g8b]); (try simp only [g8c]); (try simp only [g8d])
                    refine wpAnyH_take (i := 42) (oi := _) (v := undef) (by simp only [g8a, g8s, g8z]; rfl) (by kernel_rfl) (by kernel_rfl) (by kernel_rfl) (by exact fun _ _ _ h => h) (Or.inr ⟨by rfl, rfl⟩) (by assumption) ?_
                    (try simp only [Act.put]); (try simp only [g8b]); (try simp only [g8c]); (try simp only [g8d])
                    refine wpAnyH_take (i := 43) (oi := _) (v := ?_) (by simp only [g8a, g8s, g8z]; rfl) (by kernel_rfl) (by kernel_rfl) (by kernel_rfl) (by exact fun _ _ _ h => h) (Or.inl ⟨by rfl, ?_⟩) (by assumption) ?_
                    rotate_left 1
                    · (intro w hSw; (try dsimp only at hSw); go_simp; try with_reducible rfl)
                    all_goals ((try simp only [Act.put]); (try simp only [g8b]); (try simp only [g8c]); (try simp only [g8d]))
                    refine wpAnyH_done (by kernel_rfl) ?_ _
                    clear hHeld
                    go_wp2_with fail
                    go_meet
                    exact ⟨true, rfl, Lib.hid ⟨(fun h => by cases h), (fun h => absurd (h.2.1 YFA.out).2 NO.out)⟩, FA.out, FB.out, HB.out, CB.out, by exact IC.out, by exact ID.out, BW.out⟩
                  case pos =>
                    have dg : (gv != a.inc) = false := by simpa using hgi
                    have RES := Lib.hid (show zx = false ↔ ((h.Fin ↔ a.Fin) ∧ (a.Fin → h.per.toNat ∣ a.per.toNat ∧ ((a.per.toNat / h.per.toNat : Nat) : Int) * h.inc = a.inc) ∧ cs.length = dcExt a h) from
                      ⟨fun h1 => ⟨HFF.out, fun _ => ⟨DV.out, by rw [← HGV.out]; exact hgi⟩, ZX.out.1 h1⟩, fun h1 => ZX.out.2 h1.2.2⟩)
                    clear hgi
                    refine wpAnyH_take (i := 24) (oi := _) (v := ?_) (by simp only [g8a, g8s, g8z]; rfl) (by kernel_rfl) (by kernel_rfl) (by kernel_rfl) (by exact fun _ _ _ h => h) (Or.inl ⟨by rfl, ?_⟩) (by assumption) ?_
                    rotate_left 1
                    · (intro w hSw; (try dsimp only at hSw); go_simp; try with_reducible rfl)
                    all_goals ((try simp only [Act.put]); (try simp only [g8b]); (try simp only [g8c]); (try simp only [g8d]))
                    refine wpAnyH_take (i := 25) (oi := _) (v := ?_) (by simp only [g8a, g8s, g8z]; rfl) (by kernel_rfl) (by kernel_rfl) (by kernel_rfl) (by exact fun _ _ _ h => h) (Or.inl ⟨by rfl, ?_⟩) (by assumption) ?_
                    rotate_left 1
                    · (intro w hSw; (try dsimp only at hSw); go_simp; try with_reducible rfl)
                    all_goals ((try simp only [Act.put]); (try simp only [g8b]); (try simp only [g8c]); (try simp only [g8d]))
                    refine wpAnyH_take (i := 26) (oi := _) (v := ?_) (by simp only [g8a, g8s, g8z]; rfl) (by kernel_rfl) (by kernel_rfl) (by kernel_rfl) (by exact fun _ _ _ h => h) (Or.inl ⟨by rfl, ?_⟩) (by assumption) ?_
                    rotate_left 1
                    · (intro w hSw; (try dsimp only at hSw); go_simp; try with_reducible rfl)
                    all_goals ((try simp only [Act.put]); (try simp only [g8b]); (try simp only [g8c]); (try simp only [g8d]))
                    refine wpAnyH_take (i := 27) (oi := _) (v := ?_) (by simp only [g8a, g8s, g8z]; rfl) (by kernel_rfl) (by kernel_rfl) (by kernel_rfl) (by exact fun _ _ _ h => h) (Or.inl ⟨by rfl, ?_⟩) (by assumption) ?_
                    rotate_left 1
                    · (intro w hSw; (try dsimp only at hSw); go_simp; try with_reducible rfl)
                    all_goals ((try simp only [Act.put]); (try simp only [g8b]); (try simp only [g8c]); (try simp only [g8d]))
                    refine wpAnyH_take (i := 28) (oi := _) (v := ?_) (by simp only [g8a, g8s, g8z]; rfl) (by kernel_rfl) (by kernel_rfl) (by kernel_rfl) (by exact fun _ _ _ h => h) (Or.inl ⟨by rfl, ?_⟩) (by assumption) ?_
                    rotate_left 1
                    · (intro w hSw; (try dsimp only at hSw); go_simp; try with_reducible rfl)
                    all_goals ((try simp only [Act.put]); (try simp only [g8b]); (try simp only [g8c]); (try simp only [g8d]))
                    refine wpAnyH_take (i := 29) (oi := _) (v := ?_) (by simp only [g8a, g8s, g8z]; rfl) (by kernel_rfl) (by kernel_rfl) (by kernel_rfl) (by exact fun _ _ _ h => h) (Or.inl ⟨by rfl, ?_⟩) (by assumption) ?_
                    rotate_left 1
                    · (intro w hSw; (try dsimp only at hSw); go_simp; try with_reducible rfl)
                    all_goals ((try simp only [Act.put]); (try simp only [g8b]); (try simp only [g8c]); (try simp only [g8d]))
                    refine wpAnyH_take (i := 30) (oi := _) (v := ?_) (by simp only [g8a, g8s, g8z]; rfl) (by kernel_rfl) (by kernel_rfl) (by kernel_rfl) (by exact fun _ _ _ h => h) (Or.inl ⟨by rfl, ?_⟩) (by assumption) ?_
                    rotate_left 1
                    · (intro w hSw; (try dsimp only at hSw); go_simp; try with_reducible rfl)
                    all_goals ((try simp only [Act.put]); (try simp only [g8b]); (try simp only [g8c]); (try simp only [g8d]))
                    refine wpAnyH_take (i := 31) (oi := _) (v := ?_) (by simp only [g8a, g8s, g8z]; rfl) (by kernel_rfl) (by kernel_rfl) (by kernel_rfl) (by exact fun _ _ _ h => h) (Or.inl ⟨by rfl, ?_⟩) (by assumption) ?_
                    rotate_left 1
                    · (intro w hSw; (try dsimp only at hSw); go_simp; try with_reducible rfl)
                    all_goals ((try simp only [Act.put]); (try simp only [g8b]); (try simp only [g8c]); (try simp only [g8d]))
                    refine wpAnyH_take (i := 32) (oi := _) (v := ?_) (by simp only [g8a, g8s, g8z]; rfl) (by kernel_rfl) (by kernel_rfl) (by kernel_rfl) (by exact fun _ _ _ h => h) (Or.inl ⟨by rfl, ?_⟩) (by assumption) ?_
                    rotate_left 1
                    · (intro w hSw; (try dsimp only at hSw); go_simp; try with_reducible rfl)
                    all_goals ((try simp only [Act.put]); (try simp only [g8b]); (try simp only [g8c]); (try simp only [g8d]))
                    refine wpAnyH_take (i := 33) (oi := _) (v := ?_) (by simp only [g8a, g8s, g8z]; rfl) (by kernel_rfl) (by kernel_rfl) (by kernel_rfl) (by exact fun _ _ _ h => h) (Or.inl ⟨by rfl, ?_⟩) (by assumption) ?_
                    rotate_left 1
                    · (intro w hSw; (try dsimp only at hSw); go_simp; try with_reducible rfl)
                    all_goals ((try simp only [Act.put]); (try simp only [g8b]); (try simp only [g8c]); (try simp only [g8d]))
                    refine wpAnyH_take (i := 34) (oi := _) (v := ?_) (by simp only [g8a, g8s, g8z]; rfl) (by kernel_rfl) (by kernel_rfl) (by kernel_rfl) (by exact fun _ _ _ h => h) (Or.inl ⟨by rfl, ?_⟩) (by assumption) ?_
                    rotate_left 1
                    · (intro w hSw; (try dsimp only at hSw); go_simp; try with_reducible rfl)
                    all_goals ((try simp only [Act.put]); (try simp only [g8b]); (try simp only [g8c]); (try simp only [g8d]))
                    refine wpAnyH_take (i := 36) (oi := _) (v := ?_) (by simp only [g8a, g8s, g8z]; rfl) (by kernel_rfl) (by kernel_rfl) (by kernel_rfl) (by exact fun _ _ _ h => h) (Or.inl ⟨by rfl, ?_⟩) (by assumption) ?_
                    rotate_left 1
                    · (intro w hSw; (try dsimp only at hSw); go_simp; try with_reducible rfl)
                    all_goals ((try simp only [Act.put]); (try simp only [g8b]); (try simp only [g8c]); (try simp only [g8d]))
                    refine wpAnyH_take (i := 39) (oi := _) (v := ?_) (by simp only [g8a, g8s, g8z]; rfl) (by kernel_rfl) (by kernel_rfl) (by kernel_rfl) (by exact fun _ _ _ h => h) (Or.inl ⟨by rfl, ?_⟩) (by assumption) ?_
                    rotate_left 1
                    · (intro w hSw; (try dsimp only at hSw); go_simp; try with_reducible rfl)
                    all_goals ((try simp only [Act.put]); (try simp only [g8b]); (try simp only [g8c]); (try simp only [g8d]))
                    refine wpAnyH_take (i := 40) (oi := _) (v := ?_) (by simp only [g8a, g8s, g8z]; rfl) (by kernel_rfl) (by kernel_rfl) (by kernel_rfl) (by exact fun _ _ _ h => h) (Or.inl ⟨by rfl, ?_⟩) (by assumption) ?_
                    rotate_left 1
                    · (intro w hSw; (try dsimp only at hSw); go_simp; try with_reducible rfl)
                    all_goals ((try simp only [Act.put]); (try simp only [g8b]); (try simp only [g8c]); (try simp only [g8d]))
                    refine wpAnyH_ready (rs := [35]) (by kernel_rfl) (by simp) ?_
                    refine (AllReadyH.cons (by simp only [g8a, g8s, g8z]; rfl) (fun K hK => ?_) AllReadyH.nil)
                    rw [if_pos (by rfl)]
                    go_simp
                    refine (start8_any A1 n1 c1 a.per a.inc _ (by omega) (by omega) (by omega)).mono ?_
                    rintro e wy ⟨rfl, hbq⟩
                    replace FA := Lib.hid (FA.out.below hbq); replace FB := Lib.hid (FB.out.below hbq); replace HB := Lib.hid (HB.out.below hbq HB.out.lt); replace CB := Lib.hid (CB.out.below hbq CB.out.lt); replace IC := Lib.hid (IC.out.ext hbq); replace ID := Lib.hid (ID.out.ext hbq); replace BW := Lib.hid (bthen BW.out hbq)
                    try clear hHeld
                    clear hbq
                    clear a0 a1 a2 hla b0 b1 b2 hlb
                    clear h0 h1 h2 hlh
                    clear r0 r1 r2 r3 hlr
                    obtain ⟨a0, a1, a2, hla⟩ := FA.out.cells
                    obtain ⟨b0, b1, b2, hlb⟩ := FB.out.cells
                    obtain ⟨⟨h0, h1, h2⟩, _, hlh⟩ := HB.out.c3
                    obtain ⟨⟨r0, r1, r2, r3⟩, _, hlr⟩ := CB.out.c4
                    refine hK.out _ _ (by exact ⟨a0, a1, a2, b0, b1, b2, h0, h1, h2, r3⟩) (fun hHeld => ?_)
                    clear hK K
                    (try simp only [Act.put]); (try simp only [g8b]); (try simp only [g8c]); (try simp only [g8d])
                    refine wpAnyH_ready (rs := [37]) (by kernel_rfl) (by simp) ?_
                    refine (AllReadyH.cons (by simp only [g8a, g8s, g8z]; rfl) (fun K hK => ?_) AllReadyH.nil)
                    rw [if_pos (by rfl)]
                    go_simp
                    refine (start8_any C k s h.per h.inc _ (by omega) (by omega) (by omega)).mono ?_
                    rintro e wz ⟨rfl, hbq⟩
                    replace FA := Lib.hid (FA.out.below hbq); replace FB := Lib.hid (FB.out.below hbq); replace HB := Lib.hid (HB.out.below hbq HB.out.lt); replace CB := Lib.hid (CB.out.below hbq CB.out.lt); replace IC := Lib.hid (IC.out.ext hbq); replace ID := Lib.hid (ID.out.ext hbq); replace BW := Lib.hid (bthen BW.out hbq)
                    try clear hHeld
                    clear hbq
                    clear a0 a1 a2 hla b0 b1 b2 hlb
                    clear h0 h1 h2 hlh
                    clear r0 r1 r2 r3 hlr
                    obtain ⟨a0, a1, a2, hla⟩ := FA.out.cells
                    obtain ⟨b0, b1, b2, hlb⟩ := FB.out.cells
                    obtain ⟨⟨h0, h1, h2⟩, _, hlh⟩ := HB.out.c3
                    obtain ⟨⟨r0, r1, r2, r3⟩, _, hlr⟩ := CB.out.c4
                    refine hK.out _ _ (by exact ⟨a0, a1, a2, b0, b1, b2, h0, h1, h2, r3⟩) (fun hHeld => ?_)
                    clear hK K
                    (try simp only [Act.put]); (try simp only [g8b]); (try simp only [g8c]); (try simp only [g8d])
                    refine wpAnyH_ready (rs := [38]) (by kernel_rfl) (by simp) ?_
                    refine (AllReadyH.cons (by simp only [g8a, g8s, g8z]; rfl) (fun K hK => ?_) AllReadyH.nil)
                    rw [if_pos (by rfl)]
                    go_simp
                    refine hK.out _ _ (by exact ⟨a0, a1, a2, b0, b1, b2, h0, h1, h2, r3⟩) (fun hHeld => ?_)
                    clear hK K
                    (try simp only [Act.put]); (try simp only [g8b]); (try simp only [g8c]); (try simp only [g8d])
                    refine wpAnyH_take (i := 41) (oi := _) (v := ?_) (by simp only [g8a, g8s, g8z]; rfl) (by kernel_rfl) (by kernel_rfl) (by kernel_rfl) (by exact fun _ _ _ h => h) (Or.inl ⟨by rfl, ?_⟩) (by assumption) ?_
                    rotate_left 1
                    · (intro w hSw; (try dsimp only at hSw); go_simp; try with_reducible rfl)
                    all_goals ((try simp only [Act.put]); (try simp only [g8b]); (try simp only [g8c]); (try simp only [g8d]))
                    refine wpAnyH_take (i := 42) (oi := _) (v := ?_) (by simp only [g8a, g8s, g8z]; rfl) (by kernel_rfl) (by kernel_rfl) (by kernel_rfl) (by exact fun _ _ _ h => h) (Or.inl ⟨by rfl, ?_⟩) (by assumption) ?_
                    rotate_left 1
                    · (intro w hSw; (try dsimp only at hSw); go_simp; try with_reducible rfl)
                    all_goals ((try simp only [Act.put]); (try simp only [g8b]); (try simp only [g8c]); (try simp only [g8d]))
                    refine wpAnyH_take (i := 43) (oi := _) (v := ?_) (by simp only [g8a, g8s, g8z]; rfl) (by kernel_rfl) (by kernel_rfl) (by kernel_rfl) (by exact fun _ _ _ h => h) (Or.inl ⟨by rfl, ?_⟩) (by assumption) ?_
                    rotate_left 1
                    · (intro w hSw; (try dsimp only at hSw); go_simp; try with_reducible rfl)
                    all_goals ((try simp only [Act.put]); (try simp only [g8b]); (try simp only [g8c]); (try simp only [g8d]))
                    refine wpAnyH_done (by kernel_rfl) ?_ _
                    clear hHeld
                    go_wp2_with fail
                    go_meet
                    exact ⟨_, rfl, RES, FA.out, FB.out, HB.out, CB.out, by exact IC.out, by exact ID.out, BW.out⟩
          case rest =>
            as_aux_lemma =>
            clear a0 a1 a2 hla b0 b1 b2 hlb
            clear h0 h1 h2 hlh
            clear r0 r1 r2 r3 hlr
            clear FA FB HB CB IC ID BW HXM HKM HN1 HN2
            obtain ⟨z7, rfl, hz7, fa', fb', hb', cb', ic', id', bw'⟩ := hcut
            have FA := Lib.hid fa'; have FB := Lib.hid fb'; have HB := Lib.hid hb'; have CB := Lib.hid cb'; have IC := Lib.hid ic'; have ID := Lib.hid id'; have BW := Lib.hid bw'
            have HXM := Lib.hid (show cs.length = x from id'.1)
            clear fa' fb' hb' cb' ic' id' bw' hmx e1 e2 e3
            cases z7
            case true =>
              have NO := Lib.hid (show ¬ CheckS ⟨xs, p, i⟩ ⟨ys, q, j⟩ h cs from fun h1 => by
                have h2 := CI2.out.1 h1
                have := hz7.out.2 ⟨h2.1, h2.2.1, h2.2.2.1⟩
                cases this)
              have FIN := Lib.hid (show ¬ CheckS ⟨xs, p, i⟩ ⟨ys, q, j⟩ h cs from NO.out)
              have bwx := BW.out
              go_wp2_with fail
              try rw [Exit.noGoto_ret]
              go_ret
              exact RetQ.no FIN.out bwx
            case false =>
              have GD7 := Lib.hid (hz7.out.1 (by first | rfl | trivial))
              have CI3 := Lib.hid (show CheckS ⟨xs, p, i⟩ ⟨ys, q, j⟩ h cs ↔ ∀ t, t < cs.length → TickOk a b h cs t from by
                rw [CI2.out]
                exact ⟨fun h1 => h1.2.2.2, fun h1 => ⟨GD7.out.1, GD7.out.2.1, GD7.out.2.2, h1⟩⟩)
              have hx5 : x ≤ 520 := by rw [← HXM.out, GD7.out.2.2, ← HXX.out]; exact hX5
              clear hz7 CI2
              go_wp2_with fail
              go_loopg [12] x (fun gg s12 wx => ∃ t : Nat, t + gg = x ∧ s12 = .int .i64 t ∧ (∀ z, z < t → TickOk a b h cs z) ∧ By (w.heap.size + 1 + 1 + 1) wx w1.heap.size A1 n1 c1 a ∧ By (w.heap.size + 1 + 1 + 1) wx (w1.heap.size + 1) A2 n2 c2 b ∧ Blk wx H 44 #[.slice C k s, .int .i64 h.per, .int .i64 h.inc] ∧ Blk wx (w.heap.size + 1 + 1) 55 #[.slice C k s, .int .i64 h.per, .int .i64 h.inc, .slice D x y] ∧ Ints wx wx.heap.size C k h.vals ∧ Ints wx wx.heap.size D x cs ∧ Below w.heap.size w wx)
              case atStart => exact ⟨0, by omega, rfl, (fun z hz => by omega), FA.out, FB.out, HB.out, CB.out, IC.out, ID.out, BW.out⟩
              case round =>
                clear FA FB HB CB IC ID BW
                obtain ⟨t, htg, rfl, hgood, fa', fb', hb', cb', ic', id', bw'⟩ := hrel
                have FA := Lib.hid fa'; have FB := Lib.hid fb'; have HB := Lib.hid hb'; have CB := Lib.hid cb'; have IC := Lib.hid ic'; have ID := Lib.hid id'; have BW := Lib.hid bw'; have HG := Lib.hid hgood
                clear fa' fb' hb' cb' ic' id' bw' hgood
                obtain ⟨a0, a1, a2, hla⟩ := FA.out.cells
                obtain ⟨b0, b1, b2, hlb⟩ := FB.out.cells
                obtain ⟨⟨h0, h1, h2⟩, _, hlh⟩ := HB.out.c3
                obtain ⟨⟨r0, r1, r2, r3⟩, _, hlr⟩ := CB.out.c4
                by_cases ht : t < x
                · have hti : (t : Int) < x := by omega
                  have htx : t < cs.length := by rw [HXM.out]; exact ht
                  obtain ⟨dd, od, hDe, hdl, hdc⟩ := ID.out.2 (by omega)
                  subst hDe
                  obtain ⟨at', hat⟩ : ∃ z, z = nth cs t := ⟨_, rfl⟩
                  obtain ⟨v, hv⟩ : ∃ z, z = h.at t := ⟨_, rfl⟩
                  obtain ⟨Dt, hDt⟩ : ∃ z, z = DD t := ⟨_, rfl⟩
                  have HAT := Lib.hid hat; have HV := Lib.hid hv; have HDT := Lib.hid hDt
                  have hdt := hdc t ht
                  rw [← hat] at hdt
                  clear hdc hat hv hDt
                  go_upto_region 12 with fail
                  have FA := Lib.hid FA.out.drew; have FB := Lib.hid FB.out.drew; replace HB := Lib.hid (Blk.drew HB.out); replace CB := Lib.hid (Blk.drew CB.out); replace BW := Lib.hid (Below.drew BW.out)
                  replace IC := Lib.hid (show Ints wr.drew wr.drew.heap.size C k h.vals from IC.out); replace ID := Lib.hid (show Ints wr.drew wr.drew.heap.size (some ⟨dd, od, none⟩) x cs from ID.out)
                  clear hdt
                  clear a0 a1 a2 hla b0 b1 b2 hlb
                  clear h0 h1 h2 hlh
                  clear r0 r1 r2 r3 hlr
                  obtain ⟨a0, a1, a2, hla⟩ := FA.out.cells
                  obtain ⟨b0, b1, b2, hlb⟩ := FB.out.cells
                  obtain ⟨⟨h0, h1, h2⟩, _, hlh⟩ := HB.out.c3
                  obtain ⟨⟨r0, r1, r2, r3⟩, _, hlr⟩ := CB.out.c4
                  obtain ⟨hdl, hdt⟩ := ints_at ID.out ht
                  rw [← HAT.out] at hdt
                  refine wp_region_held_drew (S := fun w' => w'.cell? ⟨w1.heap.size, 0, none⟩ = some (.slice A1 n1 c1) ∧ w'.cell? ⟨w1.heap.size, 1, none⟩ = some (.int .i64 a.per) ∧ w'.cell? ⟨w1.heap.size, 2, none⟩ = some (.int .i64 a.inc) ∧ w'.cell? ⟨w1.heap.size + 1, 0, none⟩ = some (.slice A2 n2 c2) ∧ w'.cell? ⟨w1.heap.size + 1, 1, none⟩ = some (.int .i64 b.per) ∧ w'.cell? ⟨w1.heap.size + 1, 2, none⟩ = some (.int .i64 b.inc) ∧ w'.cell? ⟨H, 0, none⟩ = some (.slice C k s) ∧ w'.cell? ⟨H, 1, none⟩ = some (.int .i64 h.per) ∧ w'.cell? ⟨H, 2, none⟩ = some (.int .i64 h.inc) ∧ w'.cell? ⟨w.heap.size + 1 + 1, 3, none⟩ = some (.slice (some ⟨dd, od, none⟩) x y) ∧ w'.cell? ⟨dd, od + t, none⟩ = some (.int .i64 at')) (by kernel_rfl) (by exact ⟨a0, a1, a2, b0, b1, b2, h0, h1, h2, r3, hdt⟩) (fun hHeld => ?_)
                  clear a0 a1 a2 hla b0 b1 b2 hlb
                  clear h0 h1 h2 hlh
                  clear r0 r1 r2 r3 hlr
                  clear hdt
                  generalize hwd : wr.drew = wd at *
                  clear hwd
                  obtain ⟨a0, a1, a2, hla⟩ := FA.out.cells
                  obtain ⟨b0, b1, b2, hlb⟩ := FB.out.cells
                  obtain ⟨⟨h0, h1, h2⟩, _, hlh⟩ := HB.out.c3
                  obtain ⟨⟨r0, r1, r2, r3⟩, _, hlr⟩ := CB.out.c4
                  obtain ⟨hdl, hdt⟩ := ints_at ID.out ht
                  rw [← HAT.out] at hdt
                  refine wpAnyH_take (i := 0) (oi := _) (v := ?_) (by simp only [g8a, g8z]; rfl) (by kernel_rfl) (by kernel_rfl) (by kernel_rfl) (by exact fun _ _ _ h => h) (Or.inl ⟨by rfl, ?_⟩) (by assumption) ?_
                  rotate_left 1
                  · (intro w hSw; (try dsimp only at hSw); go_simp; try with_reducible rfl)
                  all_goals ((try simp only [Act.put]); (try simp only [g8b]); (try simp only [g8c]); (try simp only [g8d]))
                  refine wpAnyH_take (i := 1) (oi := _) (v := ?_) (by simp only [g8a, g8s, g8z]; rfl) (by kernel_rfl) (by kernel_rfl) (by kernel_rfl) (by exact fun _ _ _ h => h) (Or.inl ⟨by rfl, ?_⟩) (by assumption) ?_
                  rotate_left 1
                  · (intro w hSw; (try dsimp only at hSw); go_simp; try with_reducible rfl)
                  all_goals ((try simp only [Act.put]); (try simp only [g8b]); (try simp only [g8c]); (try simp only [g8d]))
                  refine wpAnyH_take (i := 2) (oi := _) (v := ?_) (by simp only [g8a, g8s, g8z]; rfl) (by kernel_rfl) (by kernel_rfl) (by kernel_rfl) (by exact fun _ _ _ h => h) (Or.inl ⟨by rfl, ?_⟩) (by assumption) ?_
                  rotate_left 1
                  · (intro w hSw; (try dsimp only at hSw); go_simp; try with_reducible rfl)
                  all_goals ((try simp only [Act.put]); (try simp only [g8b]); (try simp only [g8c]); (try simp only [g8d]))
                  refine wpAnyH_take (i := 3) (oi := _) (v := ?_) (by simp only [g8a, g8s, g8z]; rfl) (by kernel_rfl) (by kernel_rfl) (by kernel_rfl) (by exact fun _ _ _ h => h) (Or.inl ⟨by rfl, ?_⟩) (by assumption) ?_
                  rotate_left 1
                  · (intro w hSw; (try dsimp only at hSw); go_simp; try with_reducible rfl)
                  all_goals ((try simp only [Act.put]); (try simp only [g8b]); (try simp only [g8c]); (try simp only [g8d]))
                  refine wpAnyH_take (i := 4) (oi := _) (v := ?_) (by simp only [g8a, g8s, g8z]; rfl) (by kernel_rfl) (by kernel_rfl) (by kernel_rfl) (by exact fun _ _ _ h => h) (Or.inl ⟨by rfl, ?_⟩) (by assumption) ?_
                  rotate_left 1
                  · (intro w hSw; (try dsimp only at hSw); go_simp; try with_reducible rfl)
                  all_goals ((try simp only [Act.put]); (try simp only [g8b]); (try simp only [g8c]); (try simp only [g8d]))
                  by_cases hn0 : at' < 0
                  · have dz0 : decide (at' < 0) = true := by simpa using hn0
                    have HN0 := Lib.hid hn0
                    clear hn0
                    refine wpAnyH_take (i := 5) (oi := _) (v := ?_) (by simp only [g8a, g8s, g8z]; rfl) (by kernel_rfl) (by kernel_rfl) (by kernel_rfl) (by exact fun _ _ _ h => h) (Or.inl ⟨by rfl, ?_⟩) (by assumption) ?_
                    rotate_left 1
                    · (intro w hSw; (try dsimp only at hSw); go_simp; try with_reducible rfl)
                    all_goals ((try simp only [Act.put]); (try simp only [g8b]); (try simp only [g8c]); (try simp only [g8d]))
                    refine wpAnyH_take (i := 6) (oi := _) (v := ?_) (by simp only [g8a, g8s, g8z]; rfl) (by kernel_rfl) (by kernel_rfl) (by kernel_rfl) (by exact fun _ _ _ h => h) (Or.inl ⟨by rfl, ?_⟩) (by assumption) ?_
                    rotate_left 1
                    · (intro w hSw; (try dsimp only at hSw); go_simp; try with_reducible rfl)
                    all_goals ((try simp only [Act.put]); (try simp only [g8b]); (try simp only [g8c]); (try simp only [g8d]))
                    refine wpAnyH_take (i := 7) (oi := _) (v := undef) (by simp only [g8a, g8s, g8z]; rfl) (by kernel_rfl) (by kernel_rfl) (by kernel_rfl) (by exact fun _ _ _ h => h) (Or.inr ⟨by rfl, rfl⟩) (by assumption) ?_
                    (try simp only [Act.put]); (try simp only [g8b]); (try simp only [g8c]); (try simp only [g8d])
                    refine wpAnyH_take (i := 8) (oi := _) (v := undef) (by simp only [g8a, g8s, g8z]; rfl) (by kernel_rfl) (by kernel_rfl) (by kernel_rfl) (by exact fun _ _ _ h => h) (Or.inr ⟨by rfl, rfl⟩) (by assumption) ?_
                    (try simp only [Act.put]); (try simp only [g8b]); (try simp only [g8c]); (try simp only [g8d])
                    refine wpAnyH_take (i := 9) (oi := _) (v := undef) (by simp only [g8a, g8s, g8z]; rfl) (by kernel_rfl) (by kernel_rfl) (by kernel_rfl) (by exact fun _ _ _ h => h) (Or.inr ⟨by rfl, rfl⟩) (by assumption) ?_
                    (try simp only [Act.put]); (try simp only [g8b]); (try simp only [g8c]); (try simp only [g8d])
                    refine wpAnyH_take (i := 10) (oi := _) (v := undef) (by simp only [g8a, g8s, g8z]; rfl) (by kernel_rfl) (by kernel_rfl) (by kernel_rfl) (by exact fun _ _ _ h => h) (Or.inr ⟨by rfl, rfl⟩) (by assumption) ?_
                    (try simp only [Act.put]); (try simp only [g8b]); (try simp only [g8c]); (try simp only [g8d])
                    refine wpAnyH_take (i := 11) (oi := _) (v := undef) (by simp only [g8a, g8s, g8z]; rfl) (by kernel_rfl) (by kernel_rfl) (by kernel_rfl) (by exact fun _ _ _ h => h) (Or.inr ⟨by rfl, rfl⟩) (by assumption) ?_
                    (try simp only [Act.put]); (try simp only [g8b]); (try simp only [g8c]); (try simp only [g8d])
                    refine wpAnyH_take (i := 12) (oi := _) (v := undef) (by simp only [g8a, g8s, g8z]; rfl) (by kernel_rfl) (by kernel_rfl) (by kernel_rfl) (by exact fun _ _ _ h => h) (Or.inr ⟨by rfl, rfl⟩) (by assumption) ?_
                    (try simp only [Act.put]); (try simp only [g8b]); (try simp only [g8c]); (try simp only [g8d])
                    refine wpAnyH_take (i := 13) (oi := _) (v := undef) (by simp only [g8a, g8s, g8z]; rfl) (by kernel_rfl) (by kernel_rfl) (by kernel_rfl) (by exact fun _ _ _ h => h) (Or.inr ⟨by rfl, rfl⟩) (by assumption) ?_
                    (try simp only [Act.put]); (try simp only [g8b]); (try simp only [g8c]); (try simp only [g8d])
                    refine wpAnyH_take (i := 14) (oi := _) (v := undef) (by simp only [g8a, g8s, g8z]; rfl) (by kernel_rfl) (by kernel_rfl) (by kernel_rfl) (by exact fun _ _ _ h => h) (Or.inr ⟨by rfl, rfl⟩) (by assumption) ?_
                    (try simp only [Act.put]); (try simp only [g8b]); (try simp only [g8c]); (try simp only [g8d])
                    refine wpAnyH_take (i := 15) (oi := _) (v := undef) (by simp only [g8a, g8s, g8z]; rfl) (by kernel_rfl) (by kernel_rfl) (by kernel_rfl) (by exact fun _ _ _ h => h) (Or.inr ⟨by rfl, rfl⟩) (by assumption) ?_
                    (try simp only [Act.put]); (try simp only [g8b]); (try simp only [g8c]); (try simp only [g8d])
                    refine wpAnyH_take (i := 16) (oi := _) (v := undef) (by simp only [g8a, g8s, g8z]; rfl) (by kernel_rfl) (by kernel_rfl) (by kernel_rfl) (by exact fun _ _ _ h => h) (Or.inr ⟨by rfl, rfl⟩) (by assumption) ?_
                    (try simp only [Act.put]); (try simp only [g8b]); (try simp only [g8c]); (try simp only [g8d])
                    refine wpAnyH_take (i := 17) (oi := _) (v := ?_) (by simp only [g8a, g8s, g8z]; rfl) (by kernel_rfl) (by kernel_rfl) (by kernel_rfl) (by exact fun _ _ _ h => h) (Or.inl ⟨by rfl, ?_⟩) (by assumption) ?_
                    rotate_left 1
                    · (intro w hSw; (try dsimp only at hSw); go_simp; try with_reducible rfl)
                    all_goals ((try simp only [Act.put]); (try simp only [g8b]); (try simp only [g8c]); (try simp only [g8d]))
                    refine wpAnyH_take (i := 18) (oi := _) (v := ?_) (by simp only [g8a, g8s, g8z]; rfl) (by kernel_rfl) (by kernel_rfl) (by kernel_rfl) (by exact fun _ _ _ h => h) (Or.inl ⟨by rfl, ?_⟩) (by assumption) ?_
                    rotate_left 1
                    · (intro w hSw; (try dsimp only at hSw); go_simp; try with_reducible rfl)
                    all_goals ((try simp only [Act.put]); (try simp only [g8b]); (try simp only [g8c]); (try simp only [g8d]))
                    refine wpAnyH_take (i := 19) (oi := _) (v := undef) (by simp only [g8a, g8s, g8z]; rfl) (by kernel_rfl) (by kernel_rfl) (by kernel_rfl) (by exact fun _ _ _ h => h) (Or.inr ⟨by rfl, rfl⟩) (by assumption) ?_
                    (try simp only [Act.put]); (try simp only [g8b]); (try simp only [g8c]); (try simp only [g8d])
                    refine wpAnyH_take (i := 20) (oi := _) (v := undef) (by simp only [g8a, g8s, g8z]; rfl) (by kernel_rfl) (by kernel_rfl) (by kernel_rfl) (by exact fun _ _ _ h => h) (Or.inr ⟨by rfl, rfl⟩) (by assumption) ?_
                    (try simp only [Act.put]); (try simp only [g8b]); (try simp only [g8c]); (try simp only [g8d])
                    refine wpAnyH_take (i := 21) (oi := _) (v := undef) (by simp only [g8a, g8s, g8z]; rfl) (by kernel_rfl) (by kernel_rfl) (by kernel_rfl) (by exact fun _ _ _ h => h) (Or.inr ⟨by rfl, rfl⟩) (by assumption) ?_
                    (try simp only [Act.put]); (try simp only [g8b]); (try simp only [g8c]); (try simp only [g8d])
                    refine wpAnyH_take (i := 22) (oi := _) (v := undef) (by simp only [g8a, g8s, g8z]; rfl) (by kernel_rfl) (by kernel_rfl) (by kernel_rfl) (by exact fun _ _ _ h => h) (Or.inr ⟨by rfl, rfl⟩) (by assumption) ?_
                    (try simp only [Act.put]); (try simp only [g8b]); (try simp only [g8c]); (try simp only [g8d])
                    refine wpAnyH_take (i := 23) (oi := _) (v := undef) (by simp only [g8a, g8s, g8z]; rfl) (by kernel_rfl) (by kernel_rfl) (by kernel_rfl) (by exact fun _ _ _ h => h) (Or.inr ⟨by rfl, rfl⟩) (by assumption) ?_
                    (try simp only [Act.put]); (try simp only [g8b]); (try simp only [g8c]); (try simp only [g8d])
                    refine wpAnyH_take (i := 24) (oi := _) (v := undef) (by simp only [g8a, g8s, g8z]; rfl) (by kernel_rfl) (by kernel_rfl) (by kernel_rfl) (by exact fun _ _ _ h => h) (Or.inr ⟨by rfl, rfl⟩) (by assumption) ?_
                    (try simp only [Act.put]); (try simp only [g8b]); (try simp only [g8c]); (try simp only [g8d])
                    refine wpAnyH_take (i := 25) (oi := _) (v := undef) (by simp only [g8a, g8s, g8z]; rfl) (by kernel_rfl) (by kernel_rfl) (by kernel_rfl) (by exact fun _ _ _ h => h) (Or.inr ⟨by rfl, rfl⟩) (by assumption) ?_
                    (try simp only [Act.put]); (try simp only [g8b]); (try simp only [g8c]); (try simp only [g8d])
                    refine wpAnyH_take (i := 26) (oi := _) (v := undef) (by simp only [g8a, g8s, g8z]; rfl) (by kernel_rfl) (by kernel_rfl) (by kernel_rfl) (by exact fun _ _ _ h => h) (Or.inr ⟨by rfl, rfl⟩) (by assumption) ?_
                    (try simp only [Act.put]); (try simp only [g8b]); (try simp only [g8c]); (try simp only [g8d])
                    refine wpAnyH_take (i := 27) (oi := _) (v := undef) (by simp only [g8a, g8s, g8z]; rfl) (by kernel_rfl) (by kernel_rfl) (by kernel_rfl) (by exact fun _ _ _ h => h) (Or.inr ⟨by rfl, rfl⟩) (by assumption) ?_
                    (try simp only [Act.put]); (try simp only [g8b]); (try simp only [g8c]); (try simp only [g8d])
                    refine wpAnyH_take (i := 28) (oi := _) (v := undef) (by simp only [g8a, g8s, g8z]; rfl) (by kernel_rfl) (by kernel_rfl) (by kernel_rfl) (by exact fun _ _ _ h => h) (Or.inr ⟨by rfl, rfl⟩) (by assumption) ?_
                    (try simp only [Act.put]); (try simp only [g8b]); (try simp only [g8c]); (try simp only [g8d])
                    refine wpAnyH_take (i := 29) (oi := _) (v := undef) (by simp only [g8a, g8s, g8z]; rfl) (by kernel_rfl) (by kernel_rfl) (by kernel_rfl) (by exact fun _ _ _ h => h) (Or.inr ⟨by rfl, rfl⟩) (by assumption) ?_
                    (try simp only [Act.put]); (try simp only [g8b]); (try simp only [g8c]); (try simp only [g8d])
                    refine wpAnyH_take (i := 30) (oi := _) (v := undef) (by simp only [g8a, g8s, g8z]; rfl) (by kernel_rfl) (by kernel_rfl) (by kernel_rfl) (by exact fun _ _ _ h => h) (Or.inr ⟨by rfl, rfl⟩) (by assumption) ?_
                    (try simp only [Act.put]); (try simp only [g8b]); (try simp only [g8c]); (try simp only [g8d])
                    refine wpAnyH_take (i := 31) (oi := _) (v := undef) (by simp only [g8a, g8s, g8z]; rfl) (by kernel_rfl) (by kernel_rfl) (by kernel_rfl) (by exact fun _ _ _ h => h) (Or.inr ⟨by rfl, rfl⟩) (by assumption) ?_
                    (try simp only [Act.put]); (try simp only [g8b]); (try simp only [g8c]); (try simp only [g8d])
                    refine wpAnyH_take (i := 32) (oi := _) (v := ?_) (by simp only [g8a, g8s, g8z]; rfl) (by kernel_rfl) (by kernel_rfl) (by kernel_rfl) (by exact fun _ _ _ h => h) (Or.inl ⟨by rfl, ?_⟩) (by assumption) ?_
                    rotate_left 1
                    · (intro w hSw; (try dsimp only at hSw); go_simp; try with_reducible rfl)
                    all_goals ((try simp only [Act.put]); (try simp only [g8b]); (try simp only [g8c]); (try simp only [g8d]))
                    refine wpAnyH_take (i := 33) (oi := _) (v := ?_) (by simp only [g8a, g8s, g8z]; rfl) (by kernel_rfl) (by kernel_rfl) (by kernel_rfl) (by exact fun _ _ _ h => h) (Or.inl ⟨by rfl, ?_⟩) (by assumption) ?_
                    rotate_left 1
                    · (intro w hSw; (try dsimp only at hSw); go_simp; try with_reducible rfl)
                    all_goals ((try simp only [Act.put]); (try simp only [g8b]); (try simp only [g8c]); (try simp only [g8d]))
                    refine wpAnyH_take (i := 34) (oi := _) (v := undef) (by simp only [g8a, g8s, g8z]; rfl) (by kernel_rfl) (by kernel_rfl) (by kernel_rfl) (by exact fun _ _ _ h => h) (Or.inr ⟨by rfl, rfl⟩) (by assumption) ?_
                    (try simp only [Act.put]); (try simp only [g8b]); (try simp only [g8c]); (try simp only [g8d])
                    refine wpAnyH_take (i := 35) (oi := _) (v := undef) (by simp only [g8a, g8s, g8z]; rfl) (by kernel_rfl) (by kernel_rfl) (by kernel_rfl) (by exact fun _ _ _ h => h) (Or.inr ⟨by rfl, rfl⟩) (by assumption) ?_
                    (try simp only [Act.put]); (try simp only [g8b]); (try simp only [g8c]); (try simp only [g8d])
                    refine wpAnyH_take (i := 36) (oi := _) (v := undef) (by simp only [g8a, g8s, g8z]; rfl) (by kernel_rfl) (by kernel_rfl) (by kernel_rfl) (by exact fun _ _ _ h => h) (Or.inr ⟨by rfl, rfl⟩) (by assumption) ?_
                    (try simp only [Act.put]); (try simp only [g8b]); (try simp only [g8c]); (try simp only [g8d])
                    refine wpAnyH_take (i := 37) (oi := _) (v := undef) (by simp only [g8a, g8s, g8z]; rfl) (by kernel_rfl) (by kernel_rfl) (by kernel_rfl) (by exact fun _ _ _ h => h) (Or.inr ⟨by rfl, rfl⟩) (by assumption) ?_
                    (try simp only [Act.put]); (try simp only [g8b]); (try simp only [g8c]); (try simp only [g8d])
                    refine wpAnyH_take (i := 38) (oi := _) (v := undef) (by simp only [g8a, g8s, g8z]; rfl) (by kernel_rfl) (by kernel_rfl) (by kernel_rfl) (by exact fun _ _ _ h => h) (Or.inr ⟨by rfl, rfl⟩) (by assumption) ?_
                    (try simp only [Act.put]); (try simp only [g8b]); (try simp only [g8c]); (try simp only [g8d])
                    refine wpAnyH_take (i := 39) (oi := _) (v := undef) (by simp only [g8a, g8s, g8z]; rfl) (by kernel_rfl) (by kernel_rfl) (by kernel_rfl) (by exact fun _ _ _ h => h) (Or.inr ⟨by rfl, rfl⟩) (by assumption) ?_
                    (try simp only [Act.put]); (try simp only [g8b]); (try simp only [g8c]); (try simp only [g8d])
                    refine wpAnyH_take (i := 40) (oi := _) (v := undef) (by simp only [g8a, g8s, g8z]; rfl) (by kernel_rfl) (by kernel_rfl) (by kernel_rfl) (by exact fun _ _ _ h => h) (Or.inr ⟨by rfl, rfl⟩) (by assumption) ?_
                    (try simp only [Act.put]); (try simp only [g8b]); (try simp only [g8c]); (try simp only [g8d])
                    refine wpAnyH_take (i := 41) (oi := _) (v := undef) (by simp only [g8a, g8s, g8z]; rfl) (by kernel_rfl) (by kernel_rfl) (by kernel_rfl) (by exact fun _ _ _ h => h) (Or.inr ⟨by rfl, rfl⟩) (by assumption) ?_
                    (try simp only [Act.put]); (try simp only [g8b]); (try simp only [g8c]); (try simp only [g8d])
                    refine wpAnyH_take (i := 42) (oi := _) (v := undef) (by simp only [g8a, g8s, g8z]; rfl) (by kernel_rfl) (by kernel_rfl) (by kernel_rfl) (by exact fun _ _ _ h => h) (Or.inr ⟨by rfl, rfl⟩) (by assumption) ?_
                    (try simp only [Act.put]); (try simp only [g8b]); (try simp only [g8c]); (try simp only [g8d])
                    refine wpAnyH_take (i := 43) (oi := _) (v := ?_) (by simp only [g8a, g8s, g8z]; rfl) (by kernel_rfl) (by kernel_rfl) (by kernel_rfl) (by exact fun _ _ _ h => h) (Or.inl ⟨by rfl, ?_⟩) (by assumption) ?_
                    rotate_left 1
                    · (intro w hSw; (try dsimp only at hSw); go_simp; try with_reducible rfl)
                    all_goals ((try simp only [Act.put]); (try simp only [g8b]); (try simp only [g8c]); (try simp only [g8d]))
                    refine wpAnyH_done (by kernel_rfl) ?_ _
                    clear hHeld
                    have FIN := Lib.hid (show ¬ CheckS ⟨xs, p, i⟩ ⟨ys, q, j⟩ h cs from (fun h => by have := ((CI3.out.1 h) t htx).1; rw [← HAT.out] at this; have := HN0.out; omega))
                    have bwx := BW.out
                    go_wp2_with fail
                    try rw [Exit.noGoto_ret]
                    go_ret
                    exact RetQ.no FIN.out bwx
                  · have dz0 : decide (at' < 0) = false := by simpa using hn0
                    refine wpAnyH_take (i := 5) (oi := _) (v := ?_) (by simp only [g8a, g8s, g8z]; rfl) (by kernel_rfl) (by kernel_rfl) (by kernel_rfl) (by exact fun _ _ _ h => h) (Or.inl ⟨by rfl, ?_⟩) (by assumption) ?_
                    rotate_left 1
                    · (intro w hSw; (try dsimp only at hSw); go_simp; try with_reducible rfl)
                    all_goals ((try simp only [Act.put]); (try simp only [g8b]); (try simp only [g8c]); (try simp only [g8d]))
                    refine wpAnyH_take (i := 6) (oi := _) (v := ?_) (by simp only [g8a, g8s, g8z]; rfl) (by kernel_rfl) (by kernel_rfl) (by kernel_rfl) (by exact fun _ _ _ h => h) (Or.inl ⟨by rfl, ?_⟩) (by assumption) ?_
                    rotate_left 1
                    · (intro w hSw; (try dsimp only at hSw); go_simp; try with_reducible rfl)
                    all_goals ((try simp only [Act.put]); (try simp only [g8b]); (try simp only [g8c]); (try simp only [g8d]))
                    refine wpAnyH_take (i := 7) (oi := _) (v := ?_) (by simp only [g8a, g8s, g8z]; rfl) (by kernel_rfl) (by kernel_rfl) (by kernel_rfl) (by exact fun _ _ _ h => h) (Or.inl ⟨by rfl, ?_⟩) (by assumption) ?_
                    rotate_left 1
                    · (intro w hSw; (try dsimp only at hSw); go_simp; try with_reducible rfl)
                    all_goals ((try simp only [Act.put]); (try simp only [g8b]); (try simp only [g8c]); (try simp only [g8d]))
                    refine wpAnyH_take (i := 8) (oi := _) (v := ?_) (by simp only [g8a, g8s, g8z]; rfl) (by kernel_rfl) (by kernel_rfl) (by kernel_rfl) (by exact fun _ _ _ h => h) (Or.inl ⟨by rfl, ?_⟩) (by assumption) ?_
                    rotate_left 1
                    · (intro w hSw; (try dsimp only at hSw); go_simp; try with_reducible rfl)
                    all_goals ((try simp only [Act.put]); (try simp only [g8b]); (try simp only [g8c]); (try simp only [g8d]))
                    refine wpAnyH_take (i := 9) (oi := _) (v := ?_) (by simp only [g8a, g8s, g8z]; rfl) (by kernel_rfl) (by kernel_rfl) (by kernel_rfl) (by exact fun _ _ _ h => h) (Or.inl ⟨by rfl, ?_⟩) (by assumption) ?_
                    rotate_left 1
                    · (intro w hSw; (try dsimp only at hSw); go_simp; try with_reducible rfl)
                    all_goals ((try simp only [Act.put]); (try simp only [g8b]); (try simp only [g8c]); (try simp only [g8d]))
                    refine wpAnyH_take (i := 10) (oi := _) (v := ?_) (by simp only [g8a, g8s, g8z]; rfl) (by kernel_rfl) (by kernel_rfl) (by kernel_rfl) (by exact fun _ _ _ h => h) (Or.inl ⟨by rfl, ?_⟩) (by assumption) ?_
                    rotate_left 1
                    · (intro w hSw; (try dsimp only at hSw); go_simp; try with_reducible rfl)
                    all_goals ((try simp only [Act.put]); (try simp only [g8b]); (try simp only [g8c]); (try simp only [g8d]))
                    refine wpAnyH_take (i := 11) (oi := _) (v := ?_) (by simp only [g8a, g8s, g8z]; rfl) (by kernel_rfl) (by kernel_rfl) (by kernel_rfl) (by exact fun _ _ _ h => h) (Or.inl ⟨by rfl, ?_⟩) (by assumption) ?_
                    rotate_left 1
                    · (intro w hSw; (try dsimp only at hSw); go_simp; try with_reducible rfl)
                    all_goals ((try simp only [Act.put]); (try simp only [g8b]); (try simp only [g8c]); (try simp only [g8d]))
                    refine wpAnyH_take (i := 12) (oi := _) (v := ?_) (by simp only [g8a, g8s, g8z]; rfl) (by kernel_rfl) (by kernel_rfl) (by kernel_rfl) (by exact fun _ _ _ h => h) (Or.inl ⟨by rfl, ?_⟩) (by assumption) ?_
                    rotate_left 1
                    · (intro w hSw; (try dsimp only at hSw); go_simp; try with_reducible rfl)
                    all_goals ((try simp only [Act.put]); (try simp only [g8b]); (try simp only [g8c]); (try simp only [g8d]))
                    refine wpAnyH_take (i := 13) (oi := _) (v := ?_) (by simp only [g8a, g8s, g8z]; rfl) (by kernel_rfl) (by kernel_rfl) (by kernel_rfl) (by exact fun _ _ _ h => h) (Or.inl ⟨by rfl, ?_⟩) (by assumption) ?_
                    rotate_left 1
                    · (intro w hSw; (try dsimp only at hSw); go_simp; try with_reducible rfl)
                    all_goals ((try simp only [Act.put]); (try simp only [g8b]); (try simp only [g8c]); (try simp only [g8d]))
                    refine wpAnyH_take (i := 14) (oi := _) (v := ?_) (by simp only [g8a, g8s, g8z]; rfl) (by kernel_rfl) (by kernel_rfl) (by kernel_rfl) (by exact fun _ _ _ h => h) (Or.inl ⟨by rfl, ?_⟩) (by assumption) ?_
                    rotate_left 1
                    · (intro w hSw; (try dsimp only at hSw); go_simp; try with_reducible rfl)
                    all_goals ((try simp only [Act.put]); (try simp only [g8b]); (try simp only [g8c]); (try simp only [g8d]))
                    refine wpAnyH_ready (rs := [15]) (by kernel_rfl) (by simp) ?_
                    refine (AllReadyH.cons (by simp only [g8a, g8s, g8z]; rfl) (fun K hK => ?_) AllReadyH.nil)
                    rw [if_pos (by rfl)]
                    go_simp
                    refine (reach8_any A1 A2 n1 n2 c1 c2 a b CM _ (by exact FA.out.ints) (by exact FB.out.ints) HAO.out HBO.out HC.out hcc).mono ?_
                    rintro e wa ⟨rfl, hbq⟩
                    replace FA := Lib.hid (FA.out.below hbq); replace FB := Lib.hid (FB.out.below hbq); replace HB := Lib.hid (HB.out.below hbq HB.out.lt); replace CB := Lib.hid (CB.out.below hbq CB.out.lt); replace IC := Lib.hid (IC.out.ext hbq); replace ID := Lib.hid (ID.out.ext hbq); replace BW := Lib.hid (bthen BW.out hbq)
                    try clear hHeld
                    clear hbq hdt hdl
                    clear a0 a1 a2 hla b0 b1 b2 hlb
                    clear h0 h1 h2 hlh
                    clear r0 r1 r2 r3 hlr
                    obtain ⟨a0, a1, a2, hla⟩ := FA.out.cells
                    obtain ⟨b0, b1, b2, hlb⟩ := FB.out.cells
                    obtain ⟨⟨h0, h1, h2⟩, _, hlh⟩ := HB.out.c3
                    obtain ⟨⟨r0, r1, r2, r3⟩, _, hlr⟩ := CB.out.c4
                    obtain ⟨hdl, hdt⟩ := ints_at ID.out ht
                    rw [← HAT.out] at hdt
                    refine hK.out _ _ (by exact ⟨a0, a1, a2, b0, b1, b2, h0, h1, h2, r3, hdt⟩) (fun hHeld => ?_)
                    clear hK K
                    (try simp only [Act.put]); (try simp only [g8b]); (try simp only [g8c]); (try simp only [g8d])
                    obtain ⟨K, hKK⟩ : ∃ K, K = dcK a b := ⟨_, rfl⟩
                    rw [← hKK] at hK ⊢
                    have HKK := Lib.hid hKK
                    clear hKK
                    by_cases hnK : (K : Int) ≤ at'
                    · have dz1 : decide (at' ≥ (K : Int)) = true := by simpa using hnK
                      have dz1' : decide ((K : Int) ≤ at') = true := by simpa using hnK
                      have HNK := Lib.hid hnK
                      clear hnK hn0
                      refine wpAnyH_take (i := 16) (oi := _) (v := ?_) (by simp only [g8a, g8s, g8z]; rfl) (by kernel_rfl) (by kernel_rfl) (by kernel_rfl) (by exact fun _ _ _ h => h) (Or.inl ⟨by rfl, ?_⟩) (by assumption) ?_
                      rotate_left 1
                      · (intro w hSw; (try dsimp only at hSw); go_simp; try with_reducible rfl)
                      all_goals ((try simp only [Act.put]); (try simp only [g8b]); (try simp only [g8c]); (try simp only [g8d]))
                      refine wpAnyH_take (i := 17) (oi := _) (v := ?_) (by simp only [g8a, g8s, g8z]; rfl) (by kernel_rfl) (by kernel_rfl) (by kernel_rfl) (by exact fun _ _ _ h => h) (Or.inl ⟨by rfl, ?_⟩) (by assumption) ?_
                      rotate_left 1
                      · (intro w hSw; (try dsimp only at hSw); go_simp; try with_reducible rfl)
                      all_goals ((try simp only [Act.put]); (try simp only [g8b]); (try simp only [g8c]); (try simp only [g8d]))
                      refine wpAnyH_take (i := 18) (oi := _) (v := ?_) (by simp only [g8a, g8s, g8z]; rfl) (by kernel_rfl) (by kernel_rfl) (by kernel_rfl) (by exact fun _ _ _ h => h) (Or.inl ⟨by rfl, ?_⟩) (by assumption) ?_
                      rotate_left 1
                      · (intro w hSw; (try dsimp only at hSw); go_simp; try with_reducible rfl)
                      all_goals ((try simp only [Act.put]); (try simp only [g8b]); (try simp only [g8c]); (try simp only [g8d]))
                      refine wpAnyH_take (i := 19) (oi := _) (v := undef) (by simp only [g8a, g8s, g8z]; rfl) (by kernel_rfl) (by kernel_rfl) (by kernel_rfl) (by exact fun _ _ _ h => h) (Or.inr ⟨by rfl, rfl⟩) (by assumption) ?_
                      (try simp only [Act.put]); (try simp only [g8b]); (try simp only [g8c]); (try simp only [g8d])
                      refine wpAnyH_take (i := 20) (oi := _) (v := undef) (by simp only [g8a, g8s, g8z]; rfl) (by kernel_rfl) (by kernel_rfl) (by kernel_rfl) (by exact fun _ _ _ h => h) (Or.inr ⟨by rfl, rfl⟩) (by assumption) ?_
                      (try simp only [Act.put]); (try simp only [g8b]); (try simp only [g8c]); (try simp only [g8d])
                      refine wpAnyH_take (i := 21) (oi := _) (v := undef) (by simp only [g8a, g8s, g8z]; rfl) (by kernel_rfl) (by kernel_rfl) (by kernel_rfl) (by exact fun _ _ _ h => h) (Or.inr ⟨by rfl, rfl⟩) (by assumption) ?_
                      (try simp only [Act.put]); (try simp only [g8b]); (try simp only [g8c]); (try simp only [g8d])
                      refine wpAnyH_take (i := 22) (oi := _) (v := undef) (by simp only [g8a, g8s, g8z]; rfl) (by kernel_rfl) (by kernel_rfl) (by kernel_rfl) (by exact fun _ _ _ h => h) (Or.inr ⟨by rfl, rfl⟩) (by assumption) ?_
                      (try simp only [Act.put]); (try simp only [g8b]); (try simp only [g8c]); (try simp only [g8d])
                      refine wpAnyH_take (i := 23) (oi := _) (v := undef) (by simp only [g8a, g8s, g8z]; rfl) (by kernel_rfl) (by kernel_rfl) (by kernel_rfl) (by exact fun _ _ _ h => h) (Or.inr ⟨by rfl, rfl⟩) (by assumption) ?_
                      (try simp only [Act.put]); (try simp only [g8b]); (try simp only [g8c]); (try simp only [g8d])
                      refine wpAnyH_take (i := 24) (oi := _) (v := undef) (by simp only [g8a, g8s, g8z]; rfl) (by kernel_rfl) (by kernel_rfl) (by kernel_rfl) (by exact fun _ _ _ h => h) (Or.inr ⟨by rfl, rfl⟩) (by assumption) ?_
                      (try simp only [Act.put]); (try simp only [g8b]); (try simp only [g8c]); (try simp only [g8d])
                      refine wpAnyH_take (i := 25) (oi := _) (v := undef) (by simp only [g8a, g8s, g8z]; rfl) (by kernel_rfl) (by kernel_rfl) (by kernel_rfl) (by exact fun _ _ _ h => h) (Or.inr ⟨by rfl, rfl⟩) (by assumption) ?_
                      (try simp only [Act.put]); (try simp only [g8b]); (try simp only [g8c]); (try simp only [g8d])
                      refine wpAnyH_take (i := 26) (oi := _) (v := undef) (by simp only [g8a, g8s, g8z]; rfl) (by kernel_rfl) (by kernel_rfl) (by kernel_rfl) (by exact fun _ _ _ h => h) (Or.inr ⟨by rfl, rfl⟩) (by assumption) ?_
                      (try simp only [Act.put]); (try simp only [g8b]); (try simp only [g8c]); (try simp only [g8d])
                      refine wpAnyH_take (i := 27) (oi := _) (v := undef) (by simp only [g8a, g8s, g8z]; rfl) (by kernel_rfl) (by kernel_rfl) (by kernel_rfl) (by exact fun _ _ _ h => h) (Or.inr ⟨by rfl, rfl⟩) (by assumption) ?_
                      (try simp only [Act.put]); (try simp only [g8b]); (try simp only [g8c]); (try simp only [g8d])
                      refine wpAnyH_take (i := 28) (oi := _) (v := undef) (by simp only [g8a, g8s, g8z]; rfl) (by kernel_rfl) (by kernel_rfl) (by kernel_rfl) (by exact fun _ _ _ h => h) (Or.inr ⟨by rfl, rfl⟩) (by assumption) ?_
                      (try simp only [Act.put]); (try simp only [g8b]); (try simp only [g8c]); (try simp only [g8d])
                      refine wpAnyH_take (i := 29) (oi := _) (v := undef) (by simp only [g8a, g8s, g8z]; rfl) (by kernel_rfl) (by kernel_rfl) (by kernel_rfl) (by exact fun _ _ _ h => h) (Or.inr ⟨by rfl, rfl⟩) (by assumption) ?_
                      (try simp only [Act.put]); (try simp only [g8b]); (try simp only [g8c]); (try simp only [g8d])
                      refine wpAnyH_take (i := 30) (oi := _) (v := undef) (by simp only [g8a, g8s, g8z]; rfl) (by kernel_rfl) (by kernel_rfl) (by kernel_rfl) (by exact fun _ _ _ h => h) (Or.inr ⟨by rfl, rfl⟩) (by assumption) ?_
                      (try simp only [Act.put]); (try simp only [g8b]); (try simp only [g8c]); (try simp only [g8d])
                      refine wpAnyH_take (i := 31) (oi := _) (v := undef) (by simp only [g8a, g8s, g8z]; rfl) (by kernel_rfl) (by kernel_rfl) (by kernel_rfl) (by exact fun _ _ _ h => h) (Or.inr ⟨by rfl, rfl⟩) (by assumption) ?_
                      (try simp only [Act.put]); (try simp only [g8b]); (try simp only [g8c]); (try simp only [g8d])
                      refine wpAnyH_take (i := 32) (oi := _) (v := ?_) (by simp only [g8a, g8s, g8z]; rfl) (by kernel_rfl) (by kernel_rfl) (by kernel_rfl) (by exact fun _ _ _ h => h) (Or.inl ⟨by rfl, ?_⟩) (by assumption) ?_
                      rotate_left 1
                      · (intro w hSw; (try dsimp only at hSw); go_simp; try with_reducible rfl)
                      all_goals ((try simp only [Act.put]); (try simp only [g8b]); (try simp only [g8c]); (try simp only [g8d]))
                      refine wpAnyH_take (i := 33) (oi := _) (v := ?_) (by simp only [g8a, g8s, g8z]; rfl) (by kernel_rfl) (by kernel_rfl) (by kernel_rfl) (by exact fun _ _ _ h => h) (Or.inl ⟨by rfl, ?_⟩) (by assumption) ?_
                      rotate_left 1
                      · (intro w hSw; (try dsimp only at hSw); go_simp; try with_reducible rfl)
                      all_goals ((try simp only [Act.put]); (try simp only [g8b]); (try simp only [g8c]); (try simp only [g8d]))
                      refine wpAnyH_take (i := 34) (oi := _) (v := undef) (by simp only [g8a, g8s, g8z]; rfl) (by kernel_rfl) (by kernel_rfl) (by kernel_rfl) (by exact fun _ _ _ h => h) (Or.inr ⟨by rfl, rfl⟩) (by assumption) ?_
                      (try simp only [Act.put]); (try simp only [g8b]); (try simp only [g8c]); (try simp only [g8d])
                      refine wpAnyH_take (i := 35) (oi := _) (v := undef) (by simp only [g8a, g8s, g8z]; rfl) (by kernel_rfl) (by kernel_rfl) (by kernel_rfl) (by exact fun _ _ _ h => h) (Or.inr ⟨by rfl, rfl⟩) (by assumption) ?_
                      (try simp only [Act.put]); (try simp only [g8b]); (try simp only [g8c]); (try simp only [g8d])
                      refine wpAnyH_take (i := 36) (oi := _) (v := undef) (by simp only [g8a, g8s, g8z]; rfl) (by kernel_rfl) (by kernel_rfl) (by kernel_rfl) (by exact fun _ _ _ h => h) (Or.inr ⟨by rfl, rfl⟩) (by assumption) ?_
                      (try simp only [Act.put]); (try simp only [g8b]); (try simp only [g8c]); (try simp only [g8d])
                      refine wpAnyH_take (i := 37) (oi := _) (v := undef) (by simp only [g8a, g8s, g8z]; rfl) (by kernel_rfl) (by kernel_rfl) (by kernel_rfl) (by exact fun _ _ _ h => h) (Or.inr ⟨by rfl, rfl⟩) (by assumption) ?_
                      (try simp only [Act.put]); (try simp only [g8b]); (try simp only [g8c]); (try simp only [g8d])
                      refine wpAnyH_take (i := 38) (oi := _) (v := undef) (by simp only [g8a, g8s, g8z]; rfl) (by kernel_rfl) (by kernel_rfl) (by kernel_rfl) (by exact fun _ _ _ h => h) (Or.inr ⟨by rfl, rfl⟩) (by assumption) ?_
                      (try simp only [Act.put]); (try simp only [g8b]); (try simp only [g8c]); (try simp only [g8d])
                      refine wpAnyH_take (i := 39) (oi := _) (v := undef) (by simp only [g8a, g8s, g8z]; rfl) (by kernel_rfl) (by kernel_rfl) (by kernel_rfl) (by exact fun _ _ _ h => h) (Or.inr ⟨by rfl, rfl⟩) (by assumption) ?_
                      (try simp only [Act.put]); (try simp only [g8b]); (try simp only [g8c]); (try simp only [g8d])
                      refine wpAnyH_take (i := 40) (oi := _) (v := undef) (by simp only [g8a, g8s, g8z]; rfl) (by kernel_rfl) (by kernel_rfl) (by kernel_rfl) (by exact fun _ _ _ h => h) (Or.inr ⟨by rfl, rfl⟩) (by assumption) ?_
                      (try simp only [Act.put]); (try simp only [g8b]); (try simp only [g8c]); (try simp only [g8d])
                      refine wpAnyH_take (i := 41) (oi := _) (v := undef) (by simp only [g8a, g8s, g8z]; rfl) (by kernel_rfl) (by kernel_rfl) (by kernel_rfl) (by exact fun _ _ _ h => h) (Or.inr ⟨by rfl, rfl⟩) (by assumption) ?_
                      (try simp only [Act.put]); (try simp only [g8b]); (try simp only [g8c]); (try simp only [g8d])
                      refine wpAnyH_take (i := 42) (oi := _) (v := undef) (by simp only [g8a, g8s, g8z]; rfl) (by kernel_rfl) (by kernel_rfl) (by kernel_rfl) (by exact fun _ _ _ h => h) (Or.inr ⟨by rfl, rfl⟩) (by assumption) ?_
                      (try simp only [Act.put]); (try simp only [g8b]); (try simp only [g8c]); (try simp only [g8d])
                      refine wpAnyH_take (i := 43) (oi := _) (v := ?_) (by simp only [g8a, g8s, g8z]; rfl) (by kernel_rfl) (by kernel_rfl) (by kernel_rfl) (by exact fun _ _ _ h => h) (Or.inl ⟨by rfl, ?_⟩) (by assumption) ?_
                      rotate_left 1
                      · (intro w hSw; (try dsimp only at hSw); go_simp; try with_reducible rfl)
                      all_goals ((try simp only [Act.put]); (try simp only [g8b]); (try simp only [g8c]); (try simp only [g8d]))
                      refine wpAnyH_done (by kernel_rfl) ?_ _
                      clear hHeld
                      have FIN := Lib.hid (show ¬ CheckS ⟨xs, p, i⟩ ⟨ys, q, j⟩ h cs from (fun h => by have := ((CI3.out.1 h) t htx).2.1; rw [← HAT.out, ← HKK.out] at this; have := HNK.out; omega))
                      have bwx := BW.out
                      go_wp2_with fail
                      try rw [Exit.noGoto_ret]
                      go_ret
                      exact RetQ.no FIN.out bwx
                    · have dz1' : decide ((K : Int) ≤ at') = false := by simpa using hnK
                      obtain ⟨u, hu⟩ : ∃ u : Nat, at' = u := ⟨at'.toNat, by omega⟩
                      subst hu
                      have dz2 : decide (K ≤ u) = false := by simp; omega
                      have huK : u < K := by omega
                      obtain ⟨gx, hg1⟩ : ∃ z, z = gn a b t u := ⟨_, rfl⟩
                      have HG1 := Lib.hid hg1
                      clear hg1 hn0 hnK
                      refine wpAnyH_take (i := 16) (oi := _) (v := ?_) (by simp only [g8a, g8s, g8z]; rfl) (by kernel_rfl) (by kernel_rfl) (by kernel_rfl) (by exact fun _ _ _ h => h) (Or.inl ⟨by rfl, ?_⟩) (by assumption) ?_
                      rotate_left 1
                      · (intro w hSw; (try dsimp only at hSw); go_simp; try with_reducible rfl)
                      all_goals ((try simp only [Act.put]); (try simp only [g8b]); (try simp only [g8c]); (try simp only [g8d]))
                      refine wpAnyH_take (i := 17) (oi := _) (v := ?_) (by simp only [g8a, g8s, g8z]; rfl) (by kernel_rfl) (by kernel_rfl) (by kernel_rfl) (by exact fun _ _ _ h => h) (Or.inl ⟨by rfl, ?_⟩) (by assumption) ?_
                      rotate_left 1
                      · (intro w hSw; (try dsimp only at hSw); go_simp; try with_reducible rfl)
                      all_goals ((try simp only [Act.put]); (try simp only [g8b]); (try simp only [g8c]); (try simp only [g8d]))
                      refine wpAnyH_take (i := 18) (oi := _) (v := ?_) (by simp only [g8a, g8s, g8z]; rfl) (by kernel_rfl) (by kernel_rfl) (by kernel_rfl) (by exact fun _ _ _ h => h) (Or.inl ⟨by rfl, ?_⟩) (by assumption) ?_
                      rotate_left 1
                      · (intro w hSw; (try dsimp only at hSw); go_simp; try with_reducible rfl)
                      all_goals ((try simp only [Act.put]); (try simp only [g8b]); (try simp only [g8c]); (try simp only [g8d]))
                      refine wpAnyH_take (i := 19) (oi := _) (v := ?_) (by simp only [g8a, g8s, g8z]; rfl) (by kernel_rfl) (by kernel_rfl) (by kernel_rfl) (by exact fun _ _ _ h => h) (Or.inl ⟨by rfl, ?_⟩) (by assumption) ?_
                      rotate_left 1
                      · (intro w hSw; (try dsimp only at hSw); go_simp; try with_reducible rfl)
                      all_goals ((try simp only [Act.put]); (try simp only [g8b]); (try simp only [g8c]); (try simp only [g8d]))
                      refine wpAnyH_take (i := 20) (oi := _) (v := ?_) (by simp only [g8a, g8s, g8z]; rfl) (by kernel_rfl) (by kernel_rfl) (by kernel_rfl) (by exact fun _ _ _ h => h) (Or.inl ⟨by rfl, ?_⟩) (by assumption) ?_
                      rotate_left 1
                      · (intro w hSw; (try dsimp only at hSw); go_simp; try with_reducible rfl)
                      all_goals ((try simp only [Act.put]); (try simp only [g8b]); (try simp only [g8c]); (try simp only [g8d]))
                      refine wpAnyH_take (i := 21) (oi := _) (v := ?_) (by simp only [g8a, g8s, g8z]; rfl) (by kernel_rfl) (by kernel_rfl) (by kernel_rfl) (by exact fun _ _ _ h => h) (Or.inl ⟨by rfl, ?_⟩) (by assumption) ?_
                      rotate_left 1
                      · (intro w hSw; (try dsimp only at hSw); go_simp; try with_reducible rfl)
                      all_goals ((try simp only [Act.put]); (try simp only [g8b]); (try simp only [g8c]); (try simp only [g8d]))
                      refine wpAnyH_take (i := 22) (oi := _) (v := ?_) (by simp only [g8a, g8s, g8z]; rfl) (by kernel_rfl) (by kernel_rfl) (by kernel_rfl) (by exact fun _ _ _ h => h) (Or.inl ⟨by rfl, ?_⟩) (by assumption) ?_
                      rotate_left 1
                      · (intro w hSw; (try dsimp only at hSw); go_simp; try with_reducible rfl)
                      all_goals ((try simp only [Act.put]); (try simp only [g8b]); (try simp only [g8c]); (try simp only [g8d]))
                      refine wpAnyH_take (i := 23) (oi := _) (v := ?_) (by simp only [g8a, g8s, g8z]; rfl) (by kernel_rfl) (by kernel_rfl) (by kernel_rfl) (by exact fun _ _ _ h => h) (Or.inl ⟨by rfl, ?_⟩) (by assumption) ?_
                      rotate_left 1
                      · (intro w hSw; (try dsimp only at hSw); go_simp; try with_reducible rfl)
                      all_goals ((try simp only [Act.put]); (try simp only [g8b]); (try simp only [g8c]); (try simp only [g8d]))
                      refine wpAnyH_take (i := 24) (oi := _) (v := ?_) (by simp only [g8a, g8s, g8z]; rfl) (by kernel_rfl) (by kernel_rfl) (by kernel_rfl) (by exact fun _ _ _ h => h) (Or.inl ⟨by rfl, ?_⟩) (by assumption) ?_
                      rotate_left 1
                      · (intro w hSw; (try dsimp only at hSw); go_simp; try with_reducible rfl)
                      all_goals ((try simp only [Act.put]); (try simp only [g8b]); (try simp only [g8c]); (try simp only [g8d]))
                      refine wpAnyH_take (i := 25) (oi := _) (v := ?_) (by simp only [g8a, g8s, g8z]; rfl) (by kernel_rfl) (by kernel_rfl) (by kernel_rfl) (by exact fun _ _ _ h => h) (Or.inl ⟨by rfl, ?_⟩) (by assumption) ?_
                      rotate_left 1
                      · (intro w hSw; (try dsimp only at hSw); go_simp; try with_reducible rfl)
                      all_goals ((try simp only [Act.put]); (try simp only [g8b]); (try simp only [g8c]); (try simp only [g8d]))
                      refine wpAnyH_take (i := 26) (oi := _) (v := ?_) (by simp only [g8a, g8s, g8z]; rfl) (by kernel_rfl) (by kernel_rfl) (by kernel_rfl) (by exact fun _ _ _ h => h) (Or.inl ⟨by rfl, ?_⟩) (by assumption) ?_
                      rotate_left 1
                      · (intro w hSw; (try dsimp only at hSw); go_simp; try with_reducible rfl)
                      all_goals ((try simp only [Act.put]); (try simp only [g8b]); (try simp only [g8c]); (try simp only [g8d]))
                      refine wpAnyH_take (i := 28) (oi := _) (v := ?_) (by simp only [g8a, g8s, g8z]; rfl) (by kernel_rfl) (by kernel_rfl) (by kernel_rfl) (by exact fun _ _ _ h => h) (Or.inl ⟨by rfl, ?_⟩) (by assumption) ?_
                      rotate_left 1
                      · (intro w hSw; (try dsimp only at hSw); go_simp; try with_reducible rfl)
                      all_goals ((try simp only [Act.put]); (try simp only [g8b]); (try simp only [g8c]); (try simp only [g8d]))
                      refine wpAnyH_take (i := 29) (oi := _) (v := ?_) (by simp only [g8a, g8s, g8z]; rfl) (by kernel_rfl) (by kernel_rfl) (by kernel_rfl) (by exact fun _ _ _ h => h) (Or.inl ⟨by rfl, ?_⟩) (by assumption) ?_
                      rotate_left 1
                      · (intro w hSw; (try dsimp only at hSw); go_simp; try with_reducible rfl)
                      all_goals ((try simp only [Act.put]); (try simp only [g8b]); (try simp only [g8c]); (try simp only [g8d]))
                      refine wpAnyH_ready (rs := [27]) (by kernel_rfl) (by simp) ?_
                      refine (AllReadyH.cons (by simp only [g8a, g8s, g8z]; rfl) (fun K hK => ?_) AllReadyH.nil)
                      rw [if_pos (by rfl)]
                      go_simp
                      refine (gain8_any A1 A2 n1 n2 c1 c2 a b t u _ (by exact FA.out.ints) (by exact FB.out.ints) HAO.out HBO.out (by omega)).mono ?_
                      rw [← HG1.out]
                      rintro e wb ⟨rfl, hbq⟩
                      replace FA := Lib.hid (FA.out.below hbq); replace FB := Lib.hid (FB.out.below hbq); replace HB := Lib.hid (HB.out.below hbq HB.out.lt); replace CB := Lib.hid (CB.out.below hbq CB.out.lt); replace IC := Lib.hid (IC.out.ext hbq); replace ID := Lib.hid (ID.out.ext hbq); replace BW := Lib.hid (bthen BW.out hbq)
                      try clear hHeld
                      clear hbq hdt hdl
                      clear a0 a1 a2 hla b0 b1 b2 hlb
                      clear h0 h1 h2 hlh
                      clear r0 r1 r2 r3 hlr
                      obtain ⟨a0, a1, a2, hla⟩ := FA.out.cells
                      obtain ⟨b0, b1, b2, hlb⟩ := FB.out.cells
                      obtain ⟨⟨h0, h1, h2⟩, _, hlh⟩ := HB.out.c3
                      obtain ⟨⟨r0, r1, r2, r3⟩, _, hlr⟩ := CB.out.c4
                      obtain ⟨hdl, hdt⟩ := ints_at ID.out ht
                      rw [← HAT.out] at hdt
                      refine hK.out _ _ (by exact ⟨a0, a1, a2, b0, b1, b2, h0, h1, h2, r3, hdt⟩) (fun hHeld => ?_)
                      clear hK K
                      (try simp only [Act.put]); (try simp only [g8b]); (try simp only [g8c]); (try simp only [g8d])
                      refine wpAnyH_ready (rs := [30]) (by kernel_rfl) (by simp) ?_
                      refine (AllReadyH.cons (by simp only [g8a, g8s, g8z]; rfl) (fun K hK => ?_) AllReadyH.nil)
                      rw [if_pos (by rfl)]
                      go_simp
                      refine (refAt_any C k s h.per h.inc (t : Int) h.vals _ (by exact IC.out) (by omega) (by omega) (by omega) (by omega) (by omega) HHO.out.nn (by omega) (by omega)).mono ?_
                      rw [Int.toNat_natCast, show Cv.at ⟨h.vals, h.per, h.inc⟩ t = v from HV.out.symm]
                      rintro e wc ⟨rfl, hbq⟩
                      replace FA := Lib.hid (FA.out.below hbq); replace FB := Lib.hid (FB.out.below hbq); replace HB := Lib.hid (HB.out.below hbq HB.out.lt); replace CB := Lib.hid (CB.out.below hbq CB.out.lt); replace IC := Lib.hid (IC.out.ext hbq); replace ID := Lib.hid (ID.out.ext hbq); replace BW := Lib.hid (bthen BW.out hbq)
                      try clear hHeld
                      clear hbq hdt hdl
                      clear a0 a1 a2 hla b0 b1 b2 hlb
                      clear h0 h1 h2 hlh
                      clear r0 r1 r2 r3 hlr
                      obtain ⟨a0, a1, a2, hla⟩ := FA.out.cells
                      obtain ⟨b0, b1, b2, hlb⟩ := FB.out.cells
                      obtain ⟨⟨h0, h1, h2⟩, _, hlh⟩ := HB.out.c3
                      obtain ⟨⟨r0, r1, r2, r3⟩, _, hlr⟩ := CB.out.c4
                      obtain ⟨hdl, hdt⟩ := ints_at ID.out ht
                      rw [← HAT.out] at hdt
                      refine hK.out _ _ (by exact ⟨a0, a1, a2, b0, b1, b2, h0, h1, h2, r3, hdt⟩) (fun hHeld => ?_)
                      clear hK K
                      (try simp only [Act.put]); (try simp only [g8b]); (try simp only [g8c]); (try simp only [g8d])
                      by_cases hgv : gx = v
                      · have dg : (gx != v) = false := by simpa using hgv
                        have HGV := Lib.hid hgv
                        clear hgv
                        refine wpAnyH_take (i := 31) (oi := _) (v := ?_) (by simp only [g8a, g8s, g8z]; rfl) (by kernel_rfl) (by kernel_rfl) (by kernel_rfl) (by exact fun _ _ _ h => h) (Or.inl ⟨by rfl, ?_⟩) (by assumption) ?_
                        rotate_left 1
                        · (intro w hSw; (try dsimp only at hSw); go_simp; try with_reducible rfl)
                        all_goals ((try simp only [Act.put]); (try simp only [g8b]); (try simp only [g8c]); (try simp only [g8d]))
                        refine wpAnyH_take (i := 32) (oi := _) (v := ?_) (by simp only [g8a, g8s, g8z]; rfl) (by kernel_rfl) (by kernel_rfl) (by kernel_rfl) (by exact fun _ _ _ h => h) (Or.inl ⟨by rfl, ?_⟩) (by assumption) ?_
                        rotate_left 1
                        · (intro w hSw; (try dsimp only at hSw); go_simp; try with_reducible rfl)
                        all_goals ((try simp only [Act.put]); (try simp only [g8b]); (try simp only [g8c]); (try simp only [g8d]))
                        refine wpAnyH_take (i := 33) (oi := _) (v := ?_) (by simp only [g8a, g8s, g8z]; rfl) (by kernel_rfl) (by kernel_rfl) (by kernel_rfl) (by exact fun _ _ _ h => h) (Or.inl ⟨by rfl, ?_⟩) (by assumption) ?_
                        rotate_left 1
                        · (intro w hSw; (try dsimp only at hSw); go_simp; try with_reducible rfl)
                        all_goals ((try simp only [Act.put]); (try simp only [g8b]); (try simp only [g8c]); (try simp only [g8d]))
                        refine wpAnyH_take (i := 34) (oi := _) (v := ?_) (by simp only [g8a, g8s, g8z]; rfl) (by kernel_rfl) (by kernel_rfl) (by kernel_rfl) (by exact fun _ _ _ h => h) (Or.inl ⟨by rfl, ?_⟩) (by assumption) ?_
                        rotate_left 1
                        · (intro w hSw; (try dsimp only at hSw); go_simp; try with_reducible rfl)
                        all_goals ((try simp only [Act.put]); (try simp only [g8b]); (try simp only [g8c]); (try simp only [g8d]))
                        refine wpAnyH_take (i := 35) (oi := _) (v := ?_) (by simp only [g8a, g8s, g8z]; rfl) (by kernel_rfl) (by kernel_rfl) (by kernel_rfl) (by exact fun _ _ _ h => h) (Or.inl ⟨by rfl, ?_⟩) (by assumption) ?_
                        rotate_left 1
                        · (intro w hSw; (try dsimp only at hSw); go_simp; try with_reducible rfl)
                        all_goals ((try simp only [Act.put]); (try simp only [g8b]); (try simp only [g8c]); (try simp only [g8d]))
                        refine wpAnyH_take (i := 36) (oi := _) (v := ?_) (by simp only [g8a, g8s, g8z]; rfl) (by kernel_rfl) (by kernel_rfl) (by kernel_rfl) (by exact fun _ _ _ h => h) (Or.inl ⟨by rfl, ?_⟩) (by assumption) ?_
                        rotate_left 1
                        · (intro w hSw; (try dsimp only at hSw); go_simp; try with_reducible rfl)
                        all_goals ((try simp only [Act.put]); (try simp only [g8b]); (try simp only [g8c]); (try simp only [g8d]))
                        refine wpAnyH_take (i := 37) (oi := _) (v := ?_) (by simp only [g8a, g8s, g8z]; rfl) (by kernel_rfl) (by kernel_rfl) (by kernel_rfl) (by exact fun _ _ _ h => h) (Or.inl ⟨by rfl, ?_⟩) (by assumption) ?_
                        rotate_left 1
                        · (intro w hSw; (try dsimp only at hSw); go_simp; try with_reducible rfl)
                        all_goals ((try simp only [Act.put]); (try simp only [g8b]); (try simp only [g8c]); (try simp only [g8d]))
                        refine wpAnyH_take (i := 39) (oi := _) (v := ?_) (by simp only [g8a, g8s, g8z]; rfl) (by kernel_rfl) (by kernel_rfl) (by kernel_rfl) (by exact fun _ _ _ h => h) (Or.inl ⟨by rfl, ?_⟩) (by assumption) ?_
                        rotate_left 1
                        · (intro w hSw; (try dsimp only at hSw); go_simp; try with_reducible rfl)
                        all_goals ((try simp only [Act.put]); (try simp only [g8b]); (try simp only [g8c]); (try simp only [g8d]))
                        refine wpAnyH_take (i := 40) (oi := _) (v := ?_) (by simp only [g8a, g8s, g8z]; rfl) (by kernel_rfl) (by kernel_rfl) (by kernel_rfl) (by exact fun _ _ _ h => h) (Or.inl ⟨by rfl, ?_⟩) (by assumption) ?_
                        rotate_left 1
                        · (intro w hSw; (try dsimp only at hSw); go_simp; try with_reducible rfl)
                        all_goals ((try simp only [Act.put]); (try simp only [g8b]); (try simp only [g8c]); (try simp only [g8d]))
                        refine wpAnyH_ready (rs := [38]) (by kernel_rfl) (by simp) ?_
                        refine (AllReadyH.cons (by simp only [g8a, g8s, g8z]; rfl) (fun K hK => ?_) AllReadyH.nil)
                        rw [if_pos (by rfl)]
                        go_simp
                        refine (most8_any A1 A2 n1 n2 c1 c2 a b CM t _ (by exact FA.out.ints) (by exact FB.out.ints) HAO.out HBO.out HC.out hcc (by omega) HBN.out NS.out HB0.out HDD.out).mono ?_
                        rw [← HDT.out]
                        rintro e wd2 ⟨rfl, hbq⟩
                        replace FA := Lib.hid (FA.out.below hbq); replace FB := Lib.hid (FB.out.below hbq); replace HB := Lib.hid (HB.out.below hbq HB.out.lt); replace CB := Lib.hid (CB.out.below hbq CB.out.lt); replace IC := Lib.hid (IC.out.ext hbq); replace ID := Lib.hid (ID.out.ext hbq); replace BW := Lib.hid (bthen BW.out hbq)
                        try clear hHeld
                        clear hbq hdt hdl
                        clear a0 a1 a2 hla b0 b1 b2 hlb
                        clear h0 h1 h2 hlh
                        clear r0 r1 r2 r3 hlr
                        obtain ⟨a0, a1, a2, hla⟩ := FA.out.cells
                        obtain ⟨b0, b1, b2, hlb⟩ := FB.out.cells
                        obtain ⟨⟨h0, h1, h2⟩, _, hlh⟩ := HB.out.c3
                        obtain ⟨⟨r0, r1, r2, r3⟩, _, hlr⟩ := CB.out.c4
                        obtain ⟨hdl, hdt⟩ := ints_at ID.out ht
                        rw [← HAT.out] at hdt
                        refine hK.out _ _ (by exact ⟨a0, a1, a2, b0, b1, b2, h0, h1, h2, r3, hdt⟩) (fun hHeld => ?_)
                        clear hK K
                        (try simp only [Act.put]); (try simp only [g8b]); (try simp only [g8c]); (try simp only [g8d])
                        refine wpAnyH_ready (rs := [41]) (by kernel_rfl) (by simp) ?_
                        refine (AllReadyH.cons (by simp only [g8a, g8s, g8z]; rfl) (fun K hK => ?_) AllReadyH.nil)
                        rw [if_pos (by rfl)]
                        go_simp
                        refine (refAt_any C k s h.per h.inc (t : Int) h.vals _ (by exact IC.out) (by omega) (by omega) (by omega) (by omega) (by omega) HHO.out.nn (by omega) (by omega)).mono ?_
                        rw [Int.toNat_natCast, show Cv.at ⟨h.vals, h.per, h.inc⟩ t = v from HV.out.symm]
                        rintro e we2 ⟨rfl, hbq⟩
                        replace FA := Lib.hid (FA.out.below hbq); replace FB := Lib.hid (FB.out.below hbq); replace HB := Lib.hid (HB.out.below hbq HB.out.lt); replace CB := Lib.hid (CB.out.below hbq CB.out.lt); replace IC := Lib.hid (IC.out.ext hbq); replace ID := Lib.hid (ID.out.ext hbq); replace BW := Lib.hid (bthen BW.out hbq)
                        try clear hHeld
                        clear hbq hdt hdl
                        clear a0 a1 a2 hla b0 b1 b2 hlb
                        clear h0 h1 h2 hlh
                        clear r0 r1 r2 r3 hlr
                        obtain ⟨a0, a1, a2, hla⟩ := FA.out.cells
                        obtain ⟨b0, b1, b2, hlb⟩ := FB.out.cells
                        obtain ⟨⟨h0, h1, h2⟩, _, hlh⟩ := HB.out.c3
                        obtain ⟨⟨r0, r1, r2, r3⟩, _, hlr⟩ := CB.out.c4
                        obtain ⟨hdl, hdt⟩ := ints_at ID.out ht
                        rw [← HAT.out] at hdt
                        refine hK.out _ _ (by exact ⟨a0, a1, a2, b0, b1, b2, h0, h1, h2, r3, hdt⟩) (fun hHeld => ?_)
                        clear hK K
                        (try simp only [Act.put]); (try simp only [g8b]); (try simp only [g8c]); (try simp only [g8d])
                        by_cases hDv : v < Dt
                        · have dd1 : decide (v < Dt) = true := by simpa using hDv
                          have HDV := Lib.hid hDv
                          clear hDv
                          refine wpAnyH_take (i := 42) (oi := _) (v := ?_) (by simp only [g8a, g8s, g8z]; rfl) (by kernel_rfl) (by kernel_rfl) (by kernel_rfl) (by exact fun _ _ _ h => h) (Or.inl ⟨by rfl, ?_⟩) (by assumption) ?_
                          rotate_left 1
                          · (intro w hSw; (try dsimp only at hSw); go_simp; try with_reducible rfl)
                          all_goals ((try simp only [Act.put]); (try simp only [g8b]); (try simp only [g8c]); (try simp only [g8d]))
                          refine wpAnyH_take (i := 43) (oi := _) (v := ?_) (by simp only [g8a, g8s, g8z]; rfl) (by kernel_rfl) (by kernel_rfl) (by kernel_rfl) (by exact fun _ _ _ h => h) (Or.inl ⟨by rfl, ?_⟩) (by assumption) ?_
                          rotate_left 1
                          · (intro w hSw; (try dsimp only at hSw); go_simp; try with_reducible rfl)
                          all_goals ((try simp only [Act.put]); (try simp only [g8b]); (try simp only [g8c]); (try simp only [g8d]))
                          refine wpAnyH_done (by kernel_rfl) ?_ _
                          clear hHeld
                          have FIN := Lib.hid (show ¬ CheckS ⟨xs, p, i⟩ ⟨ys, q, j⟩ h cs from (fun h => by have := (TM.out t (by omega) v).1 (by rw [HV.out]; exact ((CI3.out.1 h) t htx).2.2.2); rw [← HDT.out] at this; have := HDV.out; omega))
                          have bwx := BW.out
                          go_wp2_with fail
                          try rw [Exit.noGoto_ret]
                          go_ret
                          exact RetQ.no FIN.out bwx
                        · have dd1 : decide (v < Dt) = false := by simpa using hDv
                          have GD := Lib.hid (show TickOk a b h cs t from by
                            refine ⟨by rw [← HAT.out]; omega, by rw [← HAT.out, ← HKK.out]; omega, ?_, ?_⟩
                            · rw [← HAT.out, Int.toNat_natCast, ← HG1.out, HGV.out, HV.out]
                            · rw [← HV.out]
                              exact (TM.out t (by omega) v).2 (by rw [← HDT.out]; omega))
                          clear hDv
                          refine wpAnyH_take (i := 42) (oi := _) (v := ?_) (by simp only [g8a, g8s, g8z]; rfl) (by kernel_rfl) (by kernel_rfl) (by kernel_rfl) (by exact fun _ _ _ h => h) (Or.inl ⟨by rfl, ?_⟩) (by assumption) ?_
                          rotate_left 1
                          · (intro w hSw; (try dsimp only at hSw); go_simp; try with_reducible rfl)
                          all_goals ((try simp only [Act.put]); (try simp only [g8b]); (try simp only [g8c]); (try simp only [g8d]))
                          refine wpAnyH_take (i := 43) (oi := _) (v := ?_) (by simp only [g8a, g8s, g8z]; rfl) (by kernel_rfl) (by kernel_rfl) (by kernel_rfl) (by exact fun _ _ _ h => h) (Or.inl ⟨by rfl, ?_⟩) (by assumption) ?_
                          rotate_left 1
                          · (intro w hSw; (try dsimp only at hSw); go_simp; try with_reducible rfl)
                          all_goals ((try simp only [Act.put]); (try simp only [g8b]); (try simp only [g8c]); (try simp only [g8d]))
                          refine wpAnyH_done (by kernel_rfl) ?_ _
                          clear hHeld
                          clear a0 a1 a2 hla b0 b1 b2 hlb
                          clear h0 h1 h2 hlh
                          clear r0 r1 r2 r3 hlr
                          go_wp2_with fail
                          go_roundg (gk - 1)
                          case measure => omega
                          case rel => exact ⟨t + 1, by omega, by go_num, (fun z hz => by
                            rcases Nat.lt_or_ge z t with h1 | h1
                            · exact HG.out z h1
                            · obtain rfl : z = t := by omega
                              exact GD.out), FA.out, FB.out, HB.out, CB.out, by exact IC.out, by exact ID.out, BW.out⟩
                      · have dg : (gx != v) = true := by simpa using hgv
                        have HGV := Lib.hid hgv
                        clear hgv
                        refine wpAnyH_take (i := 31) (oi := _) (v := ?_) (by simp only [g8a, g8s, g8z]; rfl) (by kernel_rfl) (by kernel_rfl) (by kernel_rfl) (by exact fun _ _ _ h => h) (Or.inl ⟨by rfl, ?_⟩) (by assumption) ?_
                        rotate_left 1
                        · (intro w hSw; (try dsimp only at hSw); go_simp; try with_reducible rfl)
                        all_goals ((try simp only [Act.put]); (try simp only [g8b]); (try simp only [g8c]); (try simp only [g8d]))
                        refine wpAnyH_take (i := 32) (oi := _) (v := ?_) (by simp only [g8a, g8s, g8z]; rfl) (by kernel_rfl) (by kernel_rfl) (by kernel_rfl) (by exact fun _ _ _ h => h) (Or.inl ⟨by rfl, ?_⟩) (by assumption) ?_
                        rotate_left 1
                        · (intro w hSw; (try dsimp only at hSw); go_simp; try with_reducible rfl)
                        all_goals ((try simp only [Act.put]); (try simp only [g8b]); (try simp only [g8c]); (try simp only [g8d]))
                        refine wpAnyH_take (i := 33) (oi := _) (v := ?_) (by simp only [g8a, g8s, g8z]; rfl) (by kernel_rfl) (by kernel_rfl) (by kernel_rfl) (by exact fun _ _ _ h => h) (Or.inl ⟨by rfl, ?_⟩) (by assumption) ?_
                        rotate_left 1
                        · (intro w hSw; (try dsimp only at hSw); go_simp; try with_reducible rfl)
                        all_goals ((try simp only [Act.put]); (try simp only [g8b]); (try simp only [g8c]); (try simp only [g8d]))
                        refine wpAnyH_take (i := 34) (oi := _) (v := undef) (by simp only [g8a, g8s, g8z]; rfl) (by kernel_rfl) (by kernel_rfl) (by kernel_rfl) (by exact fun _ _ _ h => h) (Or.inr ⟨by rfl, rfl⟩) (by assumption) ?_
                        (try simp only [Act.put]); (try simp only [g8b]); (try simp only [g8c]); (try simp only [g8d])
                        refine wpAnyH_take (i := 35) (oi := _) (v := undef) (by simp only [g8a, g8s, g8z]; rfl) (by kernel_rfl) (by kernel_rfl) (by kernel_rfl) (by exact fun _ _ _ h => h) (Or.inr ⟨by rfl, rfl⟩) (by assumption) ?_
                        (try simp only [Act.put]); (try simp only [g8b]); (try simp only [g8c]); (try simp only [g8d])
                        refine wpAnyH_take (i := 36) (oi := _) (v := undef) (by simp only [g8a, g8s, g8z]; rfl) (by kernel_rfl) (by kernel_rfl) (by kernel_rfl) (by exact fun _ _ _ h => h) (Or.inr ⟨by rfl, rfl⟩) (by assumption) ?_
                        (try simp only [Act.put]); (try simp only [g8b]); (try simp only [g8c]); (try simp only [g8d])
                        refine wpAnyH_take (i := 37) (oi := _) (v := undef) (by simp only [g8a, g8s, g8z]; rfl) (by kernel_rfl) (by kernel_rfl) (by kernel_rfl) (by exact fun _ _ _ h => h) (Or.inr ⟨by rfl, rfl⟩) (by assumption) ?_
                        (try simp only [Act.put]); (try simp only [g8b]); (try simp only [g8c]); (try simp only [g8d])
                        refine wpAnyH_take (i := 38) (oi := _) (v := undef) (by simp only [g8a, g8s, g8z]; rfl) (by kernel_rfl) (by kernel_rfl) (by kernel_rfl) (by exact fun _ _ _ h => h) (Or.inr ⟨by rfl, rfl⟩) (by assumption) ?_
                        (try simp only [Act.put]); (try simp only [g8b]); (try simp only [g8c]); (try simp only [g8d])
                        refine wpAnyH_take (i := 39) (oi := _) (v := undef) (by simp only [g8a, g8s, g8z]; rfl) (by kernel_rfl) (by kernel_rfl) (by kernel_rfl) (by exact fun _ _ _ h => h) (Or.inr ⟨by rfl, rfl⟩) (by assumption) ?_
                        (try simp only [Act.put]); (try simp only [g8b]); (try simp only [g8c]); (try simp only [g8d])
                        refine wpAnyH_take (i := 40) (oi := _) (v := undef) (by simp only [g8a, g8s, g8z]; rfl) (by kernel_rfl) (by kernel_rfl) (by kernel_rfl) (by exact fun _ _ _ h => h) (Or.inr ⟨by rfl, rfl⟩) (by assumption) ?_
                        (try simp only [Act.put]); (try simp only [g8b]); (try simp only [g8c]); (try simp only [g8d])
                        refine wpAnyH_take (i := 41) (oi := _) (v := undef) (by simp only [g8a, g8s, g8z]; rfl) (by kernel_rfl) (by kernel_rfl) (by kernel_rfl) (by exact fun _ _ _ h => h) (Or.inr ⟨by rfl, rfl⟩) (by assumption) ?_
                        (try simp only [Act.put]); (try simp only [g8b]); (try simp only [g8c]); (try simp only [g8d])
                        refine wpAnyH_take (i := 42) (oi := _) (v := undef) (by simp only [g8a, g8s, g8z]; rfl) (by kernel_rfl) (by kernel_rfl) (by kernel_rfl) (by exact fun _ _ _ h => h) (Or.inr ⟨by rfl, rfl⟩) (by assumption) ?_
                        (try simp only [Act.put]); (try simp only [g8b]); (try simp only [g8c]); (try simp only [g8d])
                        refine wpAnyH_take (i := 43) (oi := _) (v := ?_) (by simp only [g8a, g8s, g8z]; rfl) (by kernel_rfl) (by kernel_rfl) (by kernel_rfl) (by exact fun _ _ _ h => h) (Or.inl ⟨by rfl, ?_⟩) (by assumption) ?_
                        rotate_left 1
                        · (intro w hSw; (try dsimp only at hSw); go_simp; try with_reducible rfl)
                        all_goals ((try simp only [Act.put]); (try simp only [g8b]); (try simp only [g8c]); (try simp only [g8d]))
                        refine wpAnyH_done (by kernel_rfl) ?_ _
                        clear hHeld
                        have FIN := Lib.hid (show ¬ CheckS ⟨xs, p, i⟩ ⟨ys, q, j⟩ h cs from (fun h => by have := ((CI3.out.1 h) t htx).2.2.1; rw [← HAT.out, Int.toNat_natCast, ← HG1.out, ← HV.out] at this; exact HGV.out this))
                        have bwx := BW.out
                        go_wp2_with fail
                        try rw [Exit.noGoto_ret]
                        go_ret
                        exact RetQ.no FIN.out bwx
                · have htx : t = x := by omega
                  have hti : ¬ (t : Int) < x := by omega
                  have FIN := Lib.hid (show CheckS ⟨xs, p, i⟩ ⟨ys, q, j⟩ h cs from CI3.out.2 (fun z hz => HG.out z (by rw [htx, ← HXM.out]; exact hz)))
                  have bwx := BW.out
                  clear ht htx
                  go_wp2_with fail
                  try rw [Exit.noGoto_ret]
                  go_ret
                  exact RetQ.yes FIN.out bwx
end Go.Proofs.Ythgfmaijoigckaa
