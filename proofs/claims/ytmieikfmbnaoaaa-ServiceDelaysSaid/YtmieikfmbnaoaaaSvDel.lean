/- The statement ServiceDelays: the walk. -/
import Derived.Test.YtmieikfmbnaoaaaAwake12
import Derived.Test.YtmieikfmbnaoaaaSrcFr
import Derived.Test.YtmieikfmbnaoaaaEnvL
import Derived.Test.YtmieikfmbnaoaaaRefLater
namespace Go.Proofs.Ytmieikfmbnaoaaa
open Go.RowKit
set_option linter.unusedVariables false

/-- the fractions' blocks of the law -/
structure SD (w wx : World) (P1 P2 : Nat) (R r L l : Int) : Prop where
  x : Blk wx P1 23 #[.int .i64 R, .int .i64 r]
  y : Blk wx P2 23 #[.int .i64 L, .int .i64 l]
  bw : Below w.heap.size w wx
section
variable {w wx wy : World} {P1 P2 : Nat} {R r L l : Int}
theorem SD.below (h : SD w wx P1 P2 R r L l) (hb : Below wx.heap.size wx wy) : SD w wy P1 P2 R r L l := ⟨h.x.below hb h.x.lt, h.y.below hb h.y.lt, bthen h.bw hb⟩
theorem SD.alloc (h : SD w wx P1 P2 R r L l) (o : Obj) : SD w (wx.alloc o) P1 P2 R r L l := h.below (balloc _ o)
theorem SD.cells (h : SD w wx P1 P2 R r L l) : (wx.cell? ⟨P1, 0, none⟩ = some (.int .i64 R) ∧ wx.cell? ⟨P1, 1, none⟩ = some (.int .i64 r)) ∧ (wx.cell? ⟨P2, 0, none⟩ = some (.int .i64 L) ∧ wx.cell? ⟨P2, 1, none⟩ = some (.int .i64 l)) ∧ P1 < wx.heap.size ∧ P2 < wx.heap.size := by
  have q0 := h.x.cell 0; have q1 := h.x.cell 1; have p0 := h.y.cell 0; have p1 := h.y.cell 1
  simp at q0 q1 p0 p1
  exact ⟨⟨q0, q1⟩, ⟨p0, p1⟩, h.x.lt, h.y.lt⟩
end
theorem two_fr {W : World} (w : World) (R r L l : Int) (h : Below W.heap.size W w) : SD W ((w.alloc (.cells #[.int .i64 R, .int .i64 r] 23)).alloc (.cells #[.int .i64 L, .int .i64 l] 23)) w.heap.size (w.heap.size + 1) R r L l := by
  have h2 := Blk.new (w.alloc (.cells #[.int .i64 R, .int .i64 r] 23)) 23 #[.int .i64 L, .int .i64 l]
  rw [World.size_alloc] at h2
  exact ⟨(Blk.new _ _ _).alloc _, h2, bthen (bthen h (balloc _ _)) (balloc _ _)⟩
set_option maxHeartbeats 4000000 in
set_option maxRecDepth 100000 in
theorem svDel_any (A0 : Option Addr) (n0 c0 : Nat) (L0 : List Int) (w : World) (hL : Ints w w.heap.size A0 n0 L0) (hc0 : n0 ≤ c0) (hn0 : (n0 : Int) ≤ 9223372036854775807) :
    Calls Try.prog 5 #[.slice A0 n0 c0] w fun e w' => e = .returned (.bool true) ∧ Below w.heap.size w w' := by
  have hL : Ints w w.heap.size A0 n0 L0 := hL
  go_enter Try.func5, Try.ntmps5
  go_wp2_with fail
  refine (new_any A0 n0 c0 L0 w hL hc0 hn0).mono ?_
  rintro e w1 ⟨rfl, hS1, hb1⟩
  have E := Lib.hid (EnvL.start hS1 hb1)
  clear hL hS1 hb1
  -- 9 top, 5 most, _ the world before, w2 the world behind, R r the fraction, hF1 its facts
  go_wp2_with fail
  refine (srcFr_any w.heap.size 9 5 _ (by exact E.out.s) (by omega) (by omega) (by omega) (by omega)).mono ?_
  rintro e w2 ⟨R, r, hF1, rfl, hS, hk⟩
  have E := Lib.hid (E.out.kept hS hk)
  clear hS hk
  -- 3 top, 4 most, _ the world before, w3 the world behind, L l the fraction, hF2 its facts
  go_wp2_with fail
  refine (srcFr_any w.heap.size 3 4 _ (by exact E.out.s) (by omega) (by omega) (by omega) (by omega)).mono ?_
  rintro e w3 ⟨L, l, hF2, rfl, hS, hk⟩
  have E := Lib.hid (E.out.kept hS hk)
  clear hS hk
  -- 30 the bound, _ the world before, w4 the world behind, N the number
  go_wp2_with fail
  refine (n_any w.heap.size 30 _ (by exact E.out.s) (by omega) (by omega)).mono ?_
  rintro e w4 ⟨z, hz0, hz1, rfl, hS, hk⟩
  have E := Lib.hid (E.out.kept hS hk)
  obtain ⟨N, rfl⟩ := Int.eq_ofNat_of_zero_le hz0
  have hbN : N < 30 := by omega
  clear hz0 hz1 hS hk
  obtain ⟨hR, hr5, hR45⟩ := hF1
  obtain ⟨hLg, hl4, hL12⟩ := hF2
  have hR0 := hR.2; have hr0 := hR.1.1; have hL0 := hLg.2; have hl0 := hLg.1.1
  have hN0 : 0 ≤ (N : Int) * l := Int.mul_nonneg (by omega) (by omega)
  have hN1 : (N : Int) * l ≤ 30 * 4 := Int.mul_le_mul (by omega) (by omega) (by omega) (by omega)
  obtain ⟨⟨g, hg1, hg2, hg3⟩, hcg⟩ := pace_cur hR (by omega) (by omega) hLg (by omega)
  have hW := whole_eq hLg (by omega) (by omega) (n := (N : Int)) (by omega) (by omega)
  have hWg := whole_ok hLg (by omega) (by omega) (n := (N : Int)) (by omega) (by omega)
  obtain ⟨⟨k, hk1, hk2, hk3⟩, hck⟩ := pace_cur hR (by omega) (by omega) hWg (by omega)
  have HR := Lib.hid hR; have HL := Lib.hid hLg; have HW := Lib.hid hW; have HWG := Lib.hid hWg
  have HG := Lib.hid hg1; have HG2 := Lib.hid hg2; have HG3 := Lib.hid hg3; have HK := Lib.hid hk1; have HK2 := Lib.hid hk2; have HK3 := Lib.hid hk3
  have g2 := hg3.n2; have k2 := hk3.n2
  clear hR hLg hW hWg hg1 hg2 hg3 hk1 hk2 hk3 hR0 hr0 hL0 hl0
  have BW := Lib.hid E.out.fin
  clear E
  go_upto_region 3 with fail
  have D := Lib.hid (two_fr w4 R r L l BW.out)
  generalize hwe : (w4.alloc (.cells #[.int .i64 R, .int .i64 r] 23)).alloc (.cells #[.int .i64 L, .int .i64 l] 23) = w5 at *
  clear hwe BW
  generalize w4.heap.size + 1 = P2 at *
  generalize w4.heap.size = P1 at *
  obtain ⟨⟨f0, f1⟩, ⟨g0, g1⟩, hl1, hl2⟩ := D.out.cells
  go_wp2_with fail
  refine (radd_any L l (N : Int) 1 _).mono ?_
  rw [HW.out]
  obtain ⟨M, hM⟩ : ∃ M, M = L + (N : Int) * l := ⟨_, rfl⟩
  rw [← hM] at hck ⊢
  rw [← hM] at HWG HK
  have HM := Lib.hid hM
  clear hM HW
  rintro e w6 ⟨rfl, hb⟩
  replace D := Lib.hid ((D.out.below hb).alloc (.cells #[.int .i64 M, .int .i64 l] 23))
  have MB := Lib.hid (Blk.new w6 23 #[.int .i64 M, .int .i64 l])
  clear hb
  clear f0 f1 g0 g1 hl1 hl2
  go_upto_region 4 with fail
  generalize hwe : w6.alloc (.cells #[.int .i64 M, .int .i64 l] 23) = w7 at *
  clear hwe
  generalize w6.heap.size = P3 at *
  obtain ⟨⟨f0, f1⟩, ⟨g0, g1⟩, hl1, hl2⟩ := D.out.cells
  go_wp2_with fail
  refine (paceK_any R r L l _).mono ?_
  rintro e w8 ⟨f, er, hS, A, n, c, hnc, rfl, hI, hA, hb⟩
  obtain ⟨rfl, rfl⟩ : f = g ∧ er = 0 := pace_made HR.out (by omega) HL.out hcg hS HG.out HG2.out
  have hn : f.vals.length = n := hI.1
  rw [hn] at g2
  replace D := Lib.hid ((D.out.below hb).alloc (.cells #[.slice A n c, .int .i64 f.per, .int .i64 f.inc] 41))
  replace MB := Lib.hid ((MB.out.below hb MB.out.lt).alloc (.cells #[.slice A n c, .int .i64 f.per, .int .i64 f.inc] 41))
  have FA := Lib.hid (By.new (L := 0) (B := 0) (c := c) hI (fun b off s e => Nat.zero_le _) (Nat.le_refl _) (Nat.zero_le _))
  clear hS hI hA hb hcg
  clear f0 f1 g0 g1 hl1 hl2
  go_upto_region 5 with fail
  generalize hwe : w8.alloc (.cells #[.slice A n c, .int .i64 f.per, .int .i64 f.inc] 41) = w9 at *
  clear hwe
  generalize w8.heap.size = PF at *
  obtain ⟨⟨f0, f1⟩, ⟨g0, g1⟩, hl1, hl2⟩ := D.out.cells
  obtain ⟨m0, m1⟩ : _ ∧ _ := ⟨MB.out.cell 0, MB.out.cell 1⟩
  simp at m0 m1
  have hlm := MB.out.lt
  go_wp2_with fail
  refine (paceK_any R r M l _).mono ?_
  rintro e w10 ⟨q, er, hS, B, m, d, hmd, rfl, hI, hA, hb⟩
  obtain ⟨rfl, rfl⟩ : q = k ∧ er = 0 := pace_made HR.out (by omega) HWG.out hck hS HK.out HK2.out
  have hm : q.vals.length = m := hI.1
  rw [hm] at k2
  have BW := Lib.hid (D.out.below hb).bw
  replace FA := Lib.hid ((FA.out.below hb).alloc (.cells #[.slice B m d, .int .i64 q.per, .int .i64 q.inc] 41))
  have GB := Lib.hid (By.new (L := 0) (B := 0) (c := d) hI (fun b off s e => Nat.zero_le _) (Nat.le_refl _) (Nat.zero_le _))
  replace BW := Lib.hid (bthen BW.out (balloc _ (.cells #[.slice B m d, .int .i64 q.per, .int .i64 q.inc] 41)))
  clear hS hI hA hb hck m0 m1 hlm MB
  clear f0 f1 g0 g1 hl1 hl2
  clear D
  go_upto_region 6 with fail
  generalize hwe : w10.alloc (.cells #[.slice B m d, .int .i64 q.per, .int .i64 q.inc] 41) = w11 at *
  clear hwe
  generalize w10.heap.size = PG at *
  obtain ⟨a0, a1, a2, hla⟩ := FA.out.cells
  go_wp2_with fail
  refine (refLater_any A n c f.per f.inc (N : Int) f.vals _ (by exact FA.out.ints) (by omega) hnc).mono ?_
  rintro e w12 ⟨x, er, A3, n3, c3, hS, hc3, rfl, hI, hA, hb⟩
  obtain ⟨rfl, rfl⟩ : x = q ∧ er = 0 := delay_same HR.out HL.out (by omega) HG.out HG3.out (by rw [← HM.out]; exact HK.out) HK2.out hS
  have hn3 : x.vals.length = n3 := hI.1
  have XA := Lib.hid (By.new (L := 0) (B := 0) (c := c3) hI (fun b off s e => Nat.zero_le _) (Nat.le_refl _) (Nat.zero_le _))
  replace GB := Lib.hid ((GB.out.below hb).alloc (.cells #[.slice A3 n3 c3, .int .i64 x.per, .int .i64 x.inc] 41))
  replace BW := Lib.hid (bthen (bthen BW.out hb) (balloc _ (.cells #[.slice A3 n3 c3, .int .i64 x.per, .int .i64 x.inc] 41)))
  clear hS hI hA hb a0 a1 a2 hla FA
  go_upto_region 7 with fail
  generalize hwe : w12.alloc (.cells #[.slice A3 n3 c3, .int .i64 x.per, .int .i64 x.inc] 41) = w13 at *
  clear hwe
  generalize w12.heap.size = PX at *
  obtain ⟨a0, a1, a2, hla⟩ := XA.out.cells
  obtain ⟨b0, b1, b2, hlb⟩ := GB.out.cells
  go_wp2_with fail
  refine (refSame_any B A3 m n3 d c3 x.per x.per x.inc x.inc x.vals x.vals _ (by exact GB.out.ints) (by exact XA.out.ints) (by omega) (by omega)).mono ?_
  rw [(Cv.same_iff _ _).2 rfl]
  rintro e wb ⟨rfl, hb⟩
  replace BW := Lib.hid (bthen BW.out hb)
  clear hb
  go_wp2_with fail
  refine (awake12_any _).mono ?_
  rintro e wq ⟨rfl, hb⟩
  have bw := bthen BW.out hb
  go_wp2_with fail
  go_ret
  exact ⟨rfl, bw⟩
end Go.Proofs.Ytmieikfmbnaoaaa
