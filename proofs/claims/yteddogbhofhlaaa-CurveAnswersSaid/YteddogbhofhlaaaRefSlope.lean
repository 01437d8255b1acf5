/- netcalculusref01.New of small numbers, netcalculusref02's Slope and Equal: what each returns. -/
import Derived.Test.YteddogbhofhlaaaRefCv
import Derived.Test.YteddogbhofhlaaaSlope
import Derived.Test.YteddogbhofhlaaaRefAt
namespace Go.Proofs.Yteddogbhofhlaaa
open Go.RowKit
set_option linter.unusedVariables false

theorem refAbs_any (a : Nat) (w : World) (ha : (a : Int) ≤ 1073741824) :
    Calls Try.prog 90 #[.int .i64 a] w fun e w' => e = .returned (.int .i64 a) ∧ Below w.heap.size w w' := by
  have e1 : IntKind.i64.wrap (-(a : Int)) = -(a : Int) := IntWalk.i64_in _ (by omega)
  have e2 : (if (a : Int) < -(a : Int) then -(a : Int) else (a : Int)) = (a : Int) := if_neg (by omega)
  go_enter Try.func90, Try.ntmps90
  go_wp2_with fail
  go_ret
  exact ⟨rfl, Below.refl _ _⟩

set_option maxHeartbeats 1000000 in
theorem refFracValid_any (a b : Nat) (w : World) (ha : (a : Int) ≤ 1073741824) (hb : (b : Int) ≤ 1073741824) (hb1 : 1 ≤ b) (hg : Nat.gcd a b = 1) :
    Calls Try.prog 76 #[.agg #[.int .i64 a, .int .i64 b]] w fun e w' => e = .returned (.bool true) ∧ Below w.heap.size w w' := by
  have d1 : decide (1 ≤ (b : Int)) = true := by rw [decide_eq_true_eq]; omega
  have d2 : decide ((b : Int) ≤ 1073741824) = true := by simpa using hb
  have d3 : decide (-1073741824 ≤ (a : Int)) = true := by rw [decide_eq_true_eq]; omega
  have d4 : decide ((a : Int) ≤ 1073741824) = true := by simpa using ha
  have d5 : decide (1 ≤ b) = true := by simpa using hb1
  have f0 := (Blk.new w 49 #[.int .i64 a, .int .i64 b]).cell 0
  have f1 := (Blk.new w 49 #[.int .i64 a, .int .i64 b]).cell 1
  simp at f0 f1
  have hlf : w.heap.size < (w.alloc (.cells #[.int .i64 a, .int .i64 b] 49)).heap.size := by simp
  have FB := Lib.hid (Blk.new w 49 #[.int .i64 a, .int .i64 b])
  have BW := Lib.hid (balloc w (.cells #[.int .i64 a, .int .i64 b] 49))
  have HG := Lib.hid hg
  clear hg
  go_enter Try.func76, Try.ntmps76
  go_wp2_with fail
  go_region_held3 (fun w' => w'.cell? ⟨w.heap.size, 0, none⟩ = some (.int .i64 a) ∧ w'.cell? ⟨w.heap.size, 1, none⟩ = some (.int .i64 b)) (first | go_keep)
    (first
      | (go_at_call 90
         refine (refAbs_any a _ (by omega)).mono ?_
         rintro q wq ⟨rfl, hbq⟩
         have FB := Lib.hid (FB.out.below (by first | exact hbq | exact bofdrew hbq) FB.out.lt)
         have BW := Lib.hid (bthen BW.out (by first | exact hbq | exact bofdrew hbq))
         clear f0 f1 hlf hbq
         have f0 := FB.out.cell 0; have f1 := FB.out.cell 1
         simp at f0 f1
         have hlf := FB.out.lt
         dsimp only)
      | (go_at_call 69
         refine (refGcd_any a b _ (by omega) (by omega)).mono ?_
         rw [HG.out]
         rintro q wq ⟨rfl, hbq⟩
         have FB := Lib.hid (FB.out.below (by first | exact hbq | exact bofdrew hbq) FB.out.lt)
         have BW := Lib.hid (bthen BW.out (by first | exact hbq | exact bofdrew hbq))
         clear f0 f1 hlf hbq
         have f0 := FB.out.cell 0; have f1 := FB.out.cell 1
         simp at f0 f1
         have hlf := FB.out.lt
         dsimp only))
  all_goals
    have bw := BW.out
    go_wp2_with fail
    go_ret
    exact ⟨rfl, bw⟩

set_option maxHeartbeats 1000000 in
theorem refFrac_any (a b : Nat) (w : World) (ha : (a : Int) ≤ 1073741824) (hb : (b : Int) ≤ 1073741824) (hb1 : 1 ≤ b) :
    Calls Try.prog 73 #[.int .i64 a, .int .i64 b] w (RetF (a / Nat.gcd a b : Nat) (b / Nat.gcd a b : Nat) 0 w) := by
  have d0 : decide ((b : Int) < 0) = false := by simp
  have b0 : ((b : Int) == 0) = false := by simp; omega
  have m0 : ((a : Int) == -9223372036854775808) = false := by simp
  have m1 : ((b : Int) == -9223372036854775808) = false := by simp
  obtain ⟨g, hg⟩ : ∃ g, g = Nat.gcd a b := ⟨_, rfl⟩
  have hg1 : 0 < g := by rw [hg]; exact Nat.gcd_pos_of_pos_right _ (by omega)
  obtain ⟨x, hx⟩ : ∃ x, x = a / g := ⟨_, rfl⟩
  obtain ⟨y, hy⟩ : ∃ y, y = b / g := ⟨_, rfl⟩
  have hxa : x ≤ a := by rw [hx]; exact Nat.div_le_self _ _
  have hyb : y ≤ b := by rw [hy]; exact Nat.div_le_self _ _
  have hgb : g ≤ b := by rw [hg]; exact Nat.gcd_le_right _ (by omega)
  have hy1 : 1 ≤ y := by rw [hy]; exact Nat.div_pos hgb hg1
  have hxy : Nat.gcd x y = 1 := by rw [hx, hy, hg]; exact Nat.gcd_div_gcd_div_gcd_of_pos_right (by omega)
  rw [← hg, ← hx, ← hy]
  have HG := Lib.hid hg; have HX := Lib.hid hx; have HY := Lib.hid hy; have HXY := Lib.hid hxy
  have zb := Blk.new w 49 #[.int .i64 0, .int .i64 0]
  have ZB := Lib.hid zb
  have BW := Lib.hid (balloc w (.cells #[.int .i64 0, .int .i64 0] 49))
  clear hg hx hy hxy zb
  go_enter Try.func73, Try.ntmps73
  go_wp2_with fail
  go_loopg [0, 1] 0 (fun gg s0 s1 wx => gg = 0 ∧ s0 = .int .i64 a ∧ s1 = .int .i64 b ∧ Blk wx w.heap.size 49 #[.int .i64 0, .int .i64 0] ∧ Below w.heap.size w wx)
  case atStart => exact ⟨rfl, rfl, rfl, ZB.out, BW.out⟩
  case round =>
    clear ZB BW
    as_aux_lemma =>
    obtain ⟨rfl, rfl, rfl, zb, bw⟩ := hrel
    have ZB := Lib.hid zb; have BW := Lib.hid bw
    clear zb bw
    go_wp2_with fail
    refine (refAbs_any a _ (by omega)).mono ?_
    rintro q wq ⟨rfl, hbq⟩
    have ZB := Lib.hid (ZB.out.below hbq ZB.out.lt)
    have BW := Lib.hid (bthen BW.out hbq)
    clear hbq
    go_wp2_with fail
    refine (refGcd_any a b _ (by omega) (by omega)).mono ?_
    rw [← HG.out]
    rintro q wq ⟨rfl, hbq⟩
    have ZB := Lib.hid (ZB.out.below hbq ZB.out.lt)
    have BW := Lib.hid (bthen BW.out hbq)
    clear hbq
    have hgn : (g : Int) ≠ 0 := by omega
    have hgn2 : g ≠ 0 := by omega
    have ed1 : ((a : Int).tdiv (g : Int)) = (x : Int) := by rw [HX.out]; rfl
    have ed2 : ((b : Int).tdiv (g : Int)) = (y : Int) := by rw [HY.out]; rfl
    have ew1 : IntKind.i64.wrap (x : Int) = (x : Int) := IntWalk.i64_in _ (by omega)
    have ew2 : IntKind.i64.wrap (y : Int) = (y : Int) := IntWalk.i64_in _ (by omega)
    go_wp2_with fail
    go_region
    have OB := Lib.hid ((Blk.new wq 49 #[.int .i64 x, .int .i64 y]))
    have ZB := Lib.hid (ZB.out.alloc (.cells #[.int .i64 x, .int .i64 y] 49))
    have BW := Lib.hid (bthen BW.out (balloc wq (.cells #[.int .i64 x, .int .i64 y] 49)))
    go_wp2_with fail
    refine (refFracValid_any x y _ (by omega) (by omega) (by omega) HXY.out).mono ?_
    rintro q wr ⟨rfl, hbq⟩
    have hbq := bofdrew hbq
    have OB := Lib.hid (OB.out.below hbq OB.out.lt)
    have ZB := Lib.hid (ZB.out.below hbq ZB.out.lt)
    have BW := Lib.hid (bthen BW.out hbq)
    clear hbq
    have o0 := OB.out.cell 0; have o1 := OB.out.cell 1
    have z0 := ZB.out.cell 0; have z1 := ZB.out.cell 1; have v0 := ZB.out.frozen 0; have v1 := ZB.out.frozen 1
    simp at o0 o1 z0 z1
    have hlo := OB.out.lt; have hlz := ZB.out.lt
    go_wp2_with fail
    have rb := (ZB.out.set_ 0 (.int .i64 x)).set_ 1 (.int .i64 y)
    have bw := BW.out
    exact bodyPost_ret (v := .tuple #[.agg #[.int .i64 x, .int .i64 y], .int .i64 0]) (by simp [results, Try.results73, go_sem, rb.cell]) rfl ⟨rfl, ((bw.setCell (by simp) _).setCell (by simp) _)⟩

set_option maxHeartbeats 1000000 in
theorem refSlope_any (A : Option Addr) (n c : Nat) (p i : Int) (zs : List Int) (w : World) (hA : Ints w w.heap.size A n zs) (hn : (n : Int) ≤ 1000000) :
    Calls Try.prog 44 #[.agg #[.slice A n c, .int .i64 p, .int .i64 i]] w (RetSl ⟨zs, p, i⟩ w) := by
  have FB := Lib.hid ((Blk.new w 26 #[.slice A n c, .int .i64 p, .int .i64 i]).alloc (.cells #[.int .i64 0, .int .i64 0] 49))
  have rb := Blk.new (w.alloc (.cells #[.slice A n c, .int .i64 p, .int .i64 i] 26)) 49 #[.int .i64 0, .int .i64 0]
  rw [World.size_alloc] at rb
  have RB := Lib.hid rb
  have IA := Lib.hid ((hA.alloc' (.cells #[.slice A n c, .int .i64 p, .int .i64 i] 26)).alloc' (.cells #[.int .i64 0, .int .i64 0] 49))
  have BW := Lib.hid (bthen (balloc w (.cells #[.slice A n c, .int .i64 p, .int .i64 i] 26)) (balloc _ (.cells #[.int .i64 0, .int .i64 0] 49)))
  clear rb
  by_cases hfb : Cv.finB ⟨zs, p, i⟩ = true
  · have hok : Cv.Ok ⟨zs, p, i⟩ := by
      apply Cv.okB_iff.1
      unfold Cv.finB at hfb
      simp only [Bool.and_eq_true] at hfb
      exact hfb.1
    have hp1 := hok.p1; have hp2 := hok.p2; have hi1 := hok.i1; have hi2 := hok.i2
    simp only at hp1 hp2 hi1 hi2
    obtain ⟨p, rfl⟩ := Int.eq_ofNat_of_zero_le (show 0 ≤ p by omega)
    obtain ⟨i, rfl⟩ := Int.eq_ofNat_of_zero_le hi1
    have hs : Cv.slope ⟨zs, p, i⟩ = (((i / Nat.gcd i p : Nat) : Int), ((p / Nat.gcd i p : Nat) : Int), true) := by
      unfold Cv.slope; rw [if_pos hfb]; simp only [Int.toNat_natCast]
    unfold RetSl
    rw [hs]
    clear hok hs hA
    obtain ⟨x, hx⟩ : ∃ x, x = i / Nat.gcd i p := ⟨_, rfl⟩
    obtain ⟨y, hy⟩ : ∃ y, y = p / Nat.gcd i p := ⟨_, rfl⟩
    have HFR := Lib.hid (refFrac_any i p)
    rw [← hx, ← hy] at HFR
    rw [← hx, ← hy]
    clear hx hy
    go_enter Try.func44, Try.ntmps44
    go_wp2_with fail
    refine (refFinite_any A n c p i zs _ IA.out hn).mono ?_
    rw [hfb]
    rintro e w1 ⟨rfl, hb⟩
    have FB := Lib.hid (FB.out.below hb FB.out.lt); have RB := Lib.hid (RB.out.below hb RB.out.lt); have BW := Lib.hid (bthen BW.out hb)
    clear hb
    have f1 := FB.out.cell 1; have f2 := FB.out.cell 2
    simp at f1 f2
    have hlf := FB.out.lt
    go_wp2_with fail
    refine (HFR.out _ (by omega) (by omega) (by omega)).mono ?_
    rintro e w2 ⟨rfl, hb⟩
    have RB := Lib.hid (RB.out.below hb RB.out.lt); have BW := Lib.hid (bthen BW.out hb)
    have r0 := RB.out.cell 0; have r1 := RB.out.cell 1; have v0 := RB.out.frozen 0; have v1 := RB.out.frozen 1
    simp at r0 r1
    have hlr := RB.out.lt
    clear hb f1 f2 hlf
    go_wp2_with fail
    have rb := ((RB.out.set_ 0 (.int .i64 x)).set_ 1 (.int .i64 y)).alloc (.cells #[.int .i64 x, .int .i64 y] 49)
    exact bodyPost_ret (v := .tuple #[.agg #[.int .i64 x, .int .i64 y], .bool true]) (by simp [results, Try.results44, go_sem, rb.cell]) rfl ⟨rfl, bthen ((BW.out.setCell (by show _ ≤ w.heap.size + 1; omega) _).setCell (by show _ ≤ w.heap.size + 1; omega) _) (balloc _ _)⟩
  · have hf : Cv.finB ⟨zs, p, i⟩ = false := by simpa using hfb
    have hs : Cv.slope ⟨zs, p, i⟩ = (0, 0, false) := by unfold Cv.slope; rw [if_neg hfb]
    unfold RetSl
    rw [hs]
    clear hfb hs hA
    go_enter Try.func44, Try.ntmps44
    go_wp2_with fail
    refine (refFinite_any A n c p i zs _ IA.out hn).mono ?_
    rw [hf]
    rintro e w1 ⟨rfl, hb⟩
    have RB := Lib.hid (RB.out.below hb RB.out.lt); have BW := Lib.hid (bthen BW.out hb)
    have r0 := RB.out.cell 0; have r1 := RB.out.cell 1; have v0 := RB.out.frozen 0; have v1 := RB.out.frozen 1
    simp at r0 r1
    have hlr := RB.out.lt
    clear hb
    go_wp2_with fail
    have rb := (RB.out.set_ 0 (.int .i64 0)).set_ 1 (.int .i64 0)
    exact bodyPost_ret (v := .tuple #[.agg #[.int .i64 0, .int .i64 0], .bool false]) (by simp [results, Try.results44, go_sem, rb.cell]) rfl ⟨rfl, (BW.out.setCell (by show _ ≤ w.heap.size + 1; omega) _).setCell (by show _ ≤ w.heap.size + 1; omega) _⟩
end Go.Proofs.Yteddogbhofhlaaa
