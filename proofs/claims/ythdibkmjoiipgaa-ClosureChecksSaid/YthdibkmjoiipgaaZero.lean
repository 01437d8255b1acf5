/- (*netcalculuskeep.Src).Zero: what it draws. -/
import Derived.Test.YthdibkmjoiipgaaEnvL
import Derived.Test.YthdibkmjoiipgaaRowI
import Derived.Deep.LoopGhost
namespace Go.Proofs.Ythdibkmjoiipgaa
open Go.RowKit
set_option linter.unusedVariables false

/-- a curve, less its first value -/
theorem draw_less {most : Nat} {zs ys : List Int} {p i : Int} (h : DrawC most ⟨zs, p, i⟩) (hf : nth zs (zs.length - 1) ≠ inf) (hl : ys.length = zs.length) (hy : ∀ j, j < zs.length → nth ys j = nth zs j - nth zs 0) : DrawC most ⟨ys, p, i⟩ ∧ Cv.Fin ⟨ys, p, i⟩ := by
  have ok := h.ok
  have hF : Cv.Fin ⟨zs, p, i⟩ := ⟨ok, hf⟩
  have hn1 : 1 ≤ zs.length := ok.n1
  have hpn : p ≤ zs.length := ok.pn
  have hp1 : 1 ≤ p := ok.p1
  have h0 : ∀ j, j < zs.length → 0 ≤ nth zs 0 ∧ nth zs 0 ≤ nth zs j ∧ nth zs j ≤ 400 := fun j hj => by
    have a := ok.le 0 j (Nat.zero_le _) hj
    have b := (ok.nn 0).1
    have c := (h.small j hj).elim (fun e => absurd e (hF.ne j hj).1) id
    exact ⟨b, a, c⟩
  have hbd : ∀ j, j < ys.length → 0 ≤ nth ys j ∧ nth ys j ≤ 400 := fun j hj => by
    have a := h0 j (by omega)
    rw [hy j (by omega)]
    omega
  have hlast : nth ys (ys.length - 1) ≠ inf := by
    have := hbd (ys.length - 1) (by omega)
    unfold inf; omega
  have hok : Cv.Ok ⟨ys, p, i⟩ := by
    refine ⟨by show 1 ≤ ys.length; omega, by show ys.length ≤ 400; rw [hl]; exact ok.n2, hp1, ok.p2, by show p ≤ (ys.length : Nat); omega, ok.i1, ok.i2, fun k hk => (okv_iff _).2 (.inr (by have := hbd k hk; show nth ys k ≤ _; omega)), (hbd 0 (by omega)).1, ?_, fun e => absurd e hlast, fun _ => ?_⟩
    · intro k hk
      have hk' : k + 1 < ys.length := hk
      show nth ys k ≤ nth ys (k + 1)
      rw [hy k (by omega), hy (k + 1) (by omega)]
      have := ok.mono k (by show k + 1 < zs.length; omega)
      have this' : nth zs k ≤ nth zs (k + 1) := this
      omega
    · show nth ys (ys.length - 1) ≤ nth ys (ys.length - p.toNat) + i
      rw [hl, hy _ (by omega), hy _ (by omega)]
      have := ok.wrap hf
      have this' : nth zs (zs.length - 1) ≤ nth zs (zs.length - p.toNat) + i := this
      omega
  have hat : ∀ t, Cv.at ⟨ys, p, i⟩ t = Cv.at ⟨zs, p, i⟩ t - nth zs 0 := fun t => by
    have hF2 : Cv.Fin ⟨ys, p, i⟩ := ⟨hok, hlast⟩
    refine Cv.FinL.unique (f := ⟨ys, p, i⟩) (h := fun t => Cv.at ⟨zs, p, i⟩ t - nth zs 0) hF2.toL (fun t ht => ?_) (fun t ht => ?_) t
    · have ht' : t < ys.length := ht
      show nth ys t = Cv.at ⟨zs, p, i⟩ t - nth zs 0
      rw [hy t (by omega), Cv.at_lt (f := ⟨zs, p, i⟩) (by show t < zs.length; omega)]
    · show Cv.at ⟨zs, p, i⟩ (t + p.toNat) - nth zs 0 = Cv.at ⟨zs, p, i⟩ t - nth zs 0 + i
      have ht' : ys.length - p.toNat ≤ t := ht
      have := hF.toL.step t (by show zs.length - p.toNat ≤ t; omega)
      have this' : Cv.at ⟨zs, p, i⟩ (t + p.toNat) = Cv.at ⟨zs, p, i⟩ t + i := this
      omega
  obtain ⟨s4, q4, b4, h41, h42, h43⟩ := h.p4
  exact ⟨⟨hok, by show ys.length ≤ _; rw [hl]; exact h.len, h.per, h.inc, fun k hk => .inr (hbd k hk).2, h.slope, ⟨s4, q4, b4, h41, h42, fun t ht => by rw [hat, hat, h43 t ht]; omega⟩⟩, hok, hlast⟩

/-- the curve that is taken for one that is not finite -/
theorem draw_zero {most : Nat} {x y : Int} (hm : 1 ≤ most) (hx0 : 0 ≤ x) (hx1 : x ≤ 4) (hy0 : 0 ≤ y) (hy1 : y ≤ 1) : DrawC most ⟨[0, 4, 4 + x], 1 + y, 8⟩ ∧ Cv.Fin ⟨[0, 4, 4 + x], 1 + y, 8⟩ := by
  have n0 : nth [0, 4, 4 + x] 0 = 0 := rfl
  have n1 : nth [0, 4, 4 + x] 1 = 4 := rfl
  have n2 : nth [0, 4, 4 + x] 2 = 4 + x := rfl
  have hk3 : ∀ k, k < 3 → 0 ≤ nth [0, 4, 4 + x] k ∧ nth [0, 4, 4 + x] k ≤ 8 := fun k hk => by
    have : k = 0 ∨ k = 1 ∨ k = 2 := by omega
    rcases this with rfl | rfl | rfl <;> omega
  have hlast : nth [0, 4, 4 + x] ([0, 4, 4 + x].length - 1) ≠ inf := by
    show nth [0, 4, 4 + x] 2 ≠ inf
    rw [n2]; unfold inf; omega
  have hok : Cv.Ok ⟨[0, 4, 4 + x], 1 + y, 8⟩ := by
    refine ⟨by show 1 ≤ 3; omega, by show 3 ≤ 400; omega, by show 1 ≤ 1 + y; omega, by show 1 + y ≤ 120; omega, by show 1 + y ≤ (3 : Nat); omega, by show (0 : Int) ≤ 8; omega, by show (8 : Int) ≤ _; omega, ?_, by show 0 ≤ nth [0, 4, 4 + x] 0; omega, ?_, fun e => absurd e hlast, fun _ => ?_⟩
    · intro k hk
      have hk' : k < 3 := hk
      exact (okv_iff _).2 (.inr (by have := hk3 k hk'; show nth [0, 4, 4 + x] k ≤ _; omega))
    · intro k hk
      have hk' : k + 1 < 3 := hk
      show nth [0, 4, 4 + x] k ≤ nth [0, 4, 4 + x] (k + 1)
      have : k = 0 ∨ k = 1 := by omega
      rcases this with rfl | rfl
      · show nth [0, 4, 4 + x] 0 ≤ nth [0, 4, 4 + x] 1
        omega
      · show nth [0, 4, 4 + x] 1 ≤ nth [0, 4, 4 + x] 2
        omega
    · show nth [0, 4, 4 + x] 2 ≤ nth [0, 4, 4 + x] (3 - (1 + y).toNat) + 8
      have := (hk3 (3 - (1 + y).toNat) (by omega)).1
      have hy : y = 0 ∨ y = 1 := by omega
      rcases hy with rfl | rfl
      · rw [show 3 - ((1 : Int) + 0).toNat = 2 from rfl]; omega
      · rw [show 3 - ((1 : Int) + 1).toNat = 1 from rfl]; omega
  exact ⟨⟨hok, by show 3 ≤ most + 8; omega, by show 1 + y ≤ 8; omega, by show (8 : Int) ≤ 1000; omega, fun k hk => .inr (by have := hk3 k hk; show nth [0, 4, 4 + x] k ≤ 400; omega), by show (8 : Int) ≤ 9 * (1 + y); omega, ⟨_, (1 + y).toNat, 8, by omega, by omega, (show Cv.Fin ⟨[0, 4, 4 + x], 1 + y, 8⟩ from ⟨hok, hlast⟩).toL.step⟩⟩, hok, hlast⟩

set_option maxHeartbeats 4000000 in
set_option maxRecDepth 100000 in
theorem srcZero3_any (p : Nat) (most : Int) (w : World) (hS : SrcAt w p) (hm1 : 1 ≤ most) (hm2 : most ≤ 12) :
    Calls Try.prog 34 #[.pointer (some ⟨p, 0, none⟩), .int .i64 most] w (RetD2 (fun f => (DrawC most.toNat f ∧ f.Fin) ∧ nth f.vals 0 = 0) p w) := by
  have hpl := hS.lt
  go_enter Try.func34, Try.ntmps34
  go_wp2_with fail
  refine (srcCurve2_any p most _ (hS.alloc _) hm1 hm2).mono ?_
  rintro e w1 ⟨f, A, n, c, hD, hnc0, rfl, hI, hA, hS1, hk⟩
  as_aux_lemma =>
  have rb := (Blk.new w 46 #[.slice none 0 0, .int .i64 0, .int .i64 0]).kept (by omega) hk
  have RB := Lib.hid (rb.alloc (.cells #[.slice A n c, .int .i64 f.per, .int .i64 f.inc] 46))
  have FB := Lib.hid (Blk.new w1 46 #[.slice A n c, .int .i64 f.per, .int .i64 f.inc])
  have SS := Lib.hid (hS1.alloc (.cells #[.slice A n c, .int .i64 f.per, .int .i64 f.inc] 46))
  have KK := Lib.hid (kall (kstep (kall (Kept.refl w.heap.size p w) _) hk) (.cells #[.slice A n c, .int .i64 f.per, .int .i64 f.inc] 46))
  have IA := Lib.hid (hI.alloc' (.cells #[.slice A n c, .int .i64 f.per, .int .i64 f.inc] 46))
  have hF1 : w.heap.size + 1 ≤ w1.heap.size := by have := hk.size; simpa using this
  have HA := Lib.hid (show ∀ b off s, A = some ⟨b, off, s⟩ → w.heap.size + 1 ≤ b ∧ b ≠ w1.heap.size from fun b off s e => by
    have h1 := hA b off s e
    have h0 : 0 < n := by have h2 := hD.ok.n1; rw [hI.1] at h2; exact h2
    obtain ⟨b', off', e', hb, _⟩ := hI.2 h0
    rw [e] at e'; cases e'
    simp at h1
    omega)
  have HD := Lib.hid hD
  have HNC := Lib.hid hnc0
  clear rb hk hS1 hI hA hD hS hnc0
  have f0 := FB.out.cell 0; have f1 := FB.out.cell 1; have f2 := FB.out.cell 2
  simp at f0 f1 f2
  have hlf := FB.out.lt
  go_wp2_with fail
  clear f0 f1 f2 hlf
  go_loopg [] 1 (fun gg wx => ∃ (f : Cv) (A : Option Addr) (n c : Nat), Blk wx w1.heap.size 46 #[.slice A n c, .int .i64 f.per, .int .i64 f.inc] ∧ Ints wx wx.heap.size A n f.vals ∧
    (∀ b off s, A = some ⟨b, off, s⟩ → w.heap.size + 1 ≤ b ∧ b ≠ w1.heap.size) ∧ DrawC most.toNat f ∧ (gg = 0 → f.Fin) ∧ gg ≤ 1 ∧ n ≤ c ∧ Blk wx w.heap.size 46 #[.slice none 0 0, .int .i64 0, .int .i64 0] ∧ SrcAt wx p ∧ Kept w.heap.size p w wx)
  case atStart => exact ⟨f, A, n, c, FB.out, IA.out, HA.out, HD.out, (fun h => by omega), Nat.le_refl _, HNC.out, RB.out, SS.out, KK.out⟩
  case round =>
    as_aux_lemma =>
    clear FB IA HA HD RB SS KK HNC
    obtain ⟨f, A, n, c, fb, ia, ha, hd, hgf, hg1, hnc, rb, ss, kk⟩ := hrel
    have HNC := Lib.hid hnc
    clear hnc
    have FB := Lib.hid fb; have IA := Lib.hid ia; have HA := Lib.hid ha; have HD := Lib.hid hd; have HGF := Lib.hid hgf; have RB := Lib.hid rb; have SS := Lib.hid ss; have KK := Lib.hid kk
    clear fb ia ha hd hgf rb ss kk
    have f0 := FB.out.cell 0; have f1 := FB.out.cell 1; have f2 := FB.out.cell 2; have v0 := FB.out.frozen 0; have v1 := FB.out.frozen 1; have v2 := FB.out.frozen 2
    simp at f0 f1 f2
    have hlf := FB.out.lt
    have hnl : f.vals.length = n := IA.out.1
    have hn1 : 1 ≤ n := by rw [← hnl]; exact HD.out.ok.n1
    have hn2 : n ≤ 20 := by rw [← hnl]; have := HD.out.len; omega
    obtain ⟨b, off, hAe, hbl, hcell⟩ := IA.out.2 (by omega)
    subst hAe
    obtain ⟨m, rfl⟩ : ∃ m, n = m + 1 := ⟨n - 1, by omega⟩
    have hlast := hcell m (by omega)
    have hfirst := hcell 0 (by omega)
    rw [Nat.add_zero] at hfirst
    have HCELL := Lib.hid hcell; have HNL := Lib.hid hnl
    clear hcell hnl
    obtain ⟨x, hx⟩ : ∃ x, x = nth f.vals m := ⟨_, rfl⟩
    rw [← hx] at hlast
    by_cases hxi : x = 4611686018427387904
    · have b1 : (x == 4611686018427387904) = true := by simpa using hxi
      have hg : gk = 1 := by
        rcases Nat.lt_or_ge 0 gk with h | h
        · omega
        · exfalso
          have h1 := (HGF.out (by omega)).2
          rw [HNL.out, Nat.add_sub_cancel, ← hx] at h1
          exact h1 hxi
      have hpw := SS.out.lt
      have hlf0 := FB.out.lt
      clear hx hxi hfirst
      go_wp2_with fail
      refine (n_any p 5 _ SS.out (by omega) (by omega)).mono ?_
      rintro e w2 ⟨z, hz0, hz1, rfl, hS2, hk2⟩
      have FB := Lib.hid (FB.out.kept (by omega) hk2); have RB := Lib.hid (RB.out.kept (by omega) hk2); have KK := Lib.hid (kstep KK.out hk2)
      have IL := Lib.hid (ints_lit w2 [0, 4, 4 + z])
      have SS := Lib.hid (hS2.alloc (.cells ([0, 4, 4 + z].map (Value.int .i64)).toArray 3))
      have sz2 := hk2.size
      clear f0 f1 f2 v0 v1 v2 hlf hS2 hk2 hlast
      go_wp2_with fail
      refine (n_any p 2 _ SS.out (by omega) (by omega)).mono ?_
      rintro e w3 ⟨y, hy0, hy1, rfl, hS3, hk3⟩
      have FB := Lib.hid ((FB.out.alloc _).kept (by omega) hk3); have RB := Lib.hid ((RB.out.alloc _).kept (by omega) hk3); have KK := Lib.hid (kstep (kall KK.out _) hk3)
      have IL := Lib.hid (IL.out.kept (fun b off s e => by cases e; omega) hk3)
      have hne : ∀ b off s, (some ⟨w2.heap.size, 0, none⟩ : Option Addr) = some ⟨b, off, s⟩ → b ≠ w1.heap.size := fun b off s e => by cases e; omega
      have hDZ := draw_zero (most := most.toNat) (x := z) (y := y) (by omega) hz0 (by omega) hy0 (by omega)
      have f0 := FB.out.cell 0; have f1 := FB.out.cell 1; have f2 := FB.out.cell 2; have v0 := FB.out.frozen 0; have v1 := FB.out.frozen 1; have v2 := FB.out.frozen 2
      simp at f0 f1 f2
      have hlf := FB.out.lt
      go_wp2_with fail
      go_roundg 0
      case measure => omega
      case rel => exact ⟨⟨[0, 4, 4 + z], 1 + y, 8⟩, some ⟨w2.heap.size, 0, none⟩, 3, 3, FB.out.store3 _ _ _, by
        have i3 := ((IL.out.setCell (p := ⟨w1.heap.size, 0, none⟩) hne (.slice (some ⟨w2.heap.size, 0, none⟩) 3 3)).setCell (p := ⟨w1.heap.size, 1, none⟩) hne (.int .i64 (1 + y))).setCell (p := ⟨w1.heap.size, 2, none⟩) hne (.int .i64 8)
        simpa using i3, (fun b off s e => by cases e; omega), hDZ.1, (fun _ => hDZ.2), by omega, Nat.le_refl _, ((RB.out.far (by show w.heap.size ≠ w1.heap.size; omega) _).far (by show w.heap.size ≠ w1.heap.size; omega) _).far (by show w.heap.size ≠ w1.heap.size; omega) _, hS3.far3 (by omega), KK.out.set3 (by omega)⟩
    · have b1 : (x == 4611686018427387904) = false := by simpa using hxi
      have hfin : f.Fin := ⟨HD.out.ok, by rw [HNL.out, Nat.add_sub_cancel, ← hx]; exact hxi⟩
      obtain ⟨v, hv⟩ : ∃ v, v = nth f.vals 0 := ⟨_, rfl⟩
      rw [← hv] at hfirst
      have HFIN := Lib.hid hfin; have HV := Lib.hid hv
      have r0 := RB.out.cell 0; have r1 := RB.out.cell 1; have r2 := RB.out.cell 2; have u0 := RB.out.frozen 0; have u1 := RB.out.frozen 1; have u2 := RB.out.frozen 2
      simp at r0 r1 r2
      have hlr := RB.out.lt
      clear hx hxi hfin hv
      by_cases hv0 : 0 < v
      · have d0 : decide (0 < v) = true := by simpa using hv0
        have hlf0 := FB.out.lt
        clear hv0 r0 r1 r2 u0 u1 u2
        go_wp2_with (at_builtin; refine wpList_app rfl _ _ 29 rfl Try.underlying29 wr.heap.size (.slice (some ⟨wr.heap.size, 0, none⟩) 0 0) 0 [] rfl (Own.empty_ wr (Nat.le_refl _)) _ (some ⟨b, off, none⟩) (m + 1) c f.vals rfl (IA.out.alloc' _) (by omega) (by simp) ?_; intro v1 w4 own1 grow1 at1; simp only [Nat.zero_add, List.nil_append] at own1; have hb4 : Below wr.heap.size wr w4 := (balloc _ _).grown grow1 (by simp) (by simp [Value.ownBlock]); obtain ⟨g, c4, rfl, hg, hc4, hrow⟩ := own1.row (by omega); have FB := Lib.hid (FB.out.below hb4 FB.out.lt); have RB := Lib.hid (RB.out.below hb4 RB.out.lt); have SS := Lib.hid (SS.out.ext hb4); have KK := Lib.hid (kbel KK.out hb4); have ROW := Lib.hid hrow; have hgl := hrow.lt; clear own1 grow1 at1 hrow hb4 f0 f1 f2 v0 v1 v2 hlf hlast hfirst; have f0 := FB.out.cell 0; have f1 := FB.out.cell 1; have f2 := FB.out.cell 2; have z0 := FB.out.frozen 0; simp at f0 f1 f2; have hlf := FB.out.lt)
        have hgF : w1.heap.size ≠ g := by omega
        have FB := Lib.hid (FB.out.set_ 0 (.slice (some ⟨g, 0, none⟩) (m + 1) c4))
        have RB := Lib.hid (RB.out.far (p := ⟨w1.heap.size, 0, none⟩) (by show w.heap.size ≠ w1.heap.size; omega) (.slice (some ⟨g, 0, none⟩) (m + 1) c4))
        have SS := Lib.hid (SS.out.far (a := ⟨w1.heap.size, 0, none⟩) (by show p < w1.heap.size; omega) (.slice (some ⟨g, 0, none⟩) (m + 1) c4))
        have KK := Lib.hid (KK.out.setCell (a := ⟨w1.heap.size, 0, none⟩) (.inr (by show w.heap.size ≤ w1.heap.size; omega)) (.slice (some ⟨g, 0, none⟩) (m + 1) c4))
        have ROW := Lib.hid (ROW.out.far (p := ⟨w1.heap.size, 0, none⟩) (by show g ≠ w1.heap.size; omega) (.slice (some ⟨g, 0, none⟩) (m + 1) c4))
        clear f0 f1 f2 z0 hlf
        go_loopg [45] (m + 1) (fun gg s45 wx => ∃ (k : Nat) (ys : List Int), k + gg = m + 1 ∧ s45 = .int .i64 k ∧ RowI wx g ys ∧ Hid (ys.length = m + 1 ∧ ∀ j, j < m + 1 → nth ys j = if j < k then nth f.vals j - v else nth f.vals j) ∧
          Blk wx w1.heap.size 46 #[.slice (some ⟨g, 0, none⟩) (m + 1) c4, .int .i64 f.per, .int .i64 f.inc] ∧ Blk wx w.heap.size 46 #[.slice none 0 0, .int .i64 0, .int .i64 0] ∧ SrcAt wx p ∧ Kept w.heap.size p w wx)
        case atStart => exact ⟨0, f.vals, by omega, rfl, ROW.out, ⟨HNL.out, fun j hj => by rw [if_neg (by omega)]⟩, FB.out, RB.out, SS.out, KK.out⟩
        case round =>
          as_aux_lemma =>
          clear ROW FB RB SS KK IA HA HCELL
          obtain ⟨k, ys, hkg, rfl, row, hys, fb, rb, ss, kk⟩ := hrel
          have ROW := Lib.hid row; have FB := Lib.hid fb; have RB := Lib.hid rb; have SS := Lib.hid ss; have KK := Lib.hid kk; have HYS := Lib.hid hys
          clear row fb rb ss kk hys
          have f0 := FB.out.cell 0; have f1 := FB.out.cell 1; have f2 := FB.out.cell 2
          simp at f0 f1 f2
          have hlf := FB.out.lt
          by_cases hk : k < m + 1
          · have hki : (k : Int) < (m : Int) + 1 := by omega
            have hck := ROW.out.cell k (by have := HYS.out.out.1; omega)
            have hzk := ROW.out.frozen k
            obtain ⟨y, hy⟩ : ∃ y, y = nth ys k := ⟨_, rfl⟩
            have hyf : y = nth f.vals k := by rw [hy, HYS.out.out.2 k hk, if_neg (by omega)]
            have hyb := HD.out.ok.nn k
            have hvb := HD.out.ok.nn 0
            rw [← hyf] at hyb
            rw [← HV.out] at hvb
            rw [← hy] at hck
            have HY := Lib.hid hyf
            have hgl2 := ROW.out.lt
            clear hy hyf
            go_wp2_with fail
            go_roundg (gk - 1)
            case measure => omega
            case rel => exact ⟨k + 1, ys.set k (y - v), by omega, by go_num, ROW.out.set_ k (by have := HYS.out.out.1; omega) _, ⟨by rw [List.length_set]; exact HYS.out.out.1, fun j hj => by
              rw [nth_set _ _ _ _ (by have := HYS.out.out.1; omega)]
              by_cases e : j = k
              · rw [if_pos e, if_pos (by omega), HY.out, e]
              · rw [if_neg e, HYS.out.out.2 j hj]
                by_cases e2 : j < k
                · rw [if_pos e2, if_pos (by omega)]
                · rw [if_neg e2, if_neg (by omega)]⟩, FB.out.far (by show w1.heap.size ≠ g; omega) _, RB.out.far (by show w.heap.size ≠ g; omega) _, SS.out.far (by show p < g; omega) _, KK.out.setCell (.inr (by show w.heap.size ≤ g; omega)) _⟩
          · have hkm : k = m + 1 := by omega
            clear hk hkg
            subst hkm
            have hdl := draw_less (most := most.toNat) (zs := f.vals) (ys := ys) (p := f.per) (i := f.inc) HD.out HFIN.out.2 (by rw [HYS.out.out.1, HNL.out]) (fun j hj => by rw [HNL.out] at hj; rw [HYS.out.out.2 j hj, if_pos hj, HV.out])
            have hyl := HYS.out.out.1
            have IY := Lib.hid ROW.out.ints
            rw [hyl] at IY
            have r0 := RB.out.cell 0; have r1 := RB.out.cell 1; have r2 := RB.out.cell 2; have u0 := RB.out.frozen 0; have u1 := RB.out.frozen 1; have u2 := RB.out.frozen 2
            simp at r0 r1 r2
            have hlr := RB.out.lt
            have hne2 : ∀ b' off' s, (some ⟨g, 0, none⟩ : Option Addr) = some ⟨b', off', s⟩ → b' ≠ w.heap.size := fun b' off' s e => by cases e; omega
            have HDL := Lib.hid (show (DrawC most.toNat ⟨ys, f.per, f.inc⟩ ∧ Cv.Fin ⟨ys, f.per, f.inc⟩) ∧ nth ys 0 = 0 from ⟨hdl, by rw [HYS.out.out.2 0 (by omega), if_pos (by omega), HV.out]; omega⟩)
            clear hdl
            go_wp2_with fail
            have rb := RB.out.store3 (.slice (some ⟨g, 0, none⟩) (m + 1) c4) (.int .i64 f.per) (.int .i64 f.inc)
            refine bodyPost_ret (v := .agg #[.slice (some ⟨g, 0, none⟩) (m + 1) c4, .int .i64 f.per, .int .i64 f.inc]) (by simp [results, Try.results34, go_sem, rb.cell]) rfl
              ⟨⟨ys, f.per, f.inc⟩, _, m + 1, c4, HDL.out, hc4, rfl, ?_, (fun b' off' s e => by cases e; omega), SS.out.far3 hpl, KK.out.set3 (Nat.le_refl _)⟩
            have i3 := ((IY.out.setCell (p := ⟨w.heap.size, 0, none⟩) hne2 (.slice (some ⟨g, 0, none⟩) (m + 1) c4)).setCell (p := ⟨w.heap.size, 1, none⟩) hne2 (.int .i64 f.per)).setCell (p := ⟨w.heap.size, 2, none⟩) hne2 (.int .i64 f.inc)
            simpa using i3
      · have d0 : decide (0 < v) = false := by simpa using hv0
        have HV0 := Lib.hid (show nth f.vals 0 = 0 from by have := (HD.out.ok.nn 0).1; rw [← HV.out] at this ⊢; omega)
        have hne2 : ∀ b' off' s, (some ⟨b, off, none⟩ : Option Addr) = some ⟨b', off', s⟩ → b' ≠ w.heap.size := fun b' off' s e => by have := HA.out b' off' s e; omega
        clear hv0
        go_wp2_with fail
        have rb := RB.out.store3 (.slice (some ⟨b, off, none⟩) (m + 1) c) (.int .i64 f.per) (.int .i64 f.inc)
        refine bodyPost_ret (v := .agg #[.slice (some ⟨b, off, none⟩) (m + 1) c, .int .i64 f.per, .int .i64 f.inc]) (by simp [results, Try.results34, go_sem, rb.cell]) rfl
          ⟨f, _, m + 1, c, ⟨⟨HD.out, HFIN.out⟩, HV0.out⟩, HNC.out, rfl, ?_, (fun b' off' s e => by have := HA.out b' off' s e; omega), SS.out.far3 hpl, KK.out.set3 (Nat.le_refl _)⟩
        have i3 := ((IA.out.setCell (p := ⟨w.heap.size, 0, none⟩) hne2 (.slice (some ⟨b, off, none⟩) (m + 1) c)).setCell (p := ⟨w.heap.size, 1, none⟩) hne2 (.int .i64 f.per)).setCell (p := ⟨w.heap.size, 2, none⟩) hne2 (.int .i64 f.inc)
        simpa using i3
theorem srcZero2_any (p : Nat) (most : Int) (w : World) (hS : SrcAt w p) (hm1 : 1 ≤ most) (hm2 : most ≤ 12) :
    Calls Try.prog 34 #[.pointer (some ⟨p, 0, none⟩), .int .i64 most] w (RetD2 (fun f => DrawC most.toNat f ∧ f.Fin) p w) :=
  (srcZero3_any p most w hS hm1 hm2).mono fun _ _ h => by
    obtain ⟨f, A, n, c, hf, h⟩ := h
    exact ⟨f, A, n, c, hf.1, h⟩
theorem srcZero_any (p : Nat) (most : Int) (w : World) (hS : SrcAt w p) (hm1 : 1 ≤ most) (hm2 : most ≤ 12) :
    Calls Try.prog 34 #[.pointer (some ⟨p, 0, none⟩), .int .i64 most] w (RetD (fun f => DrawC most.toNat f ∧ f.Fin) p w) :=
  (srcZero2_any p most w hS hm1 hm2).mono fun _ _ h => h.weak
end Go.Proofs.Ythdibkmjoiipgaa
