/- The statement CurveTail: the law returns true for every list of numbers and every tick, and writes nothing that was there. -/
import Derived.Test.YteddogbhofhlaaaAwake2
import Derived.Test.YteddogbhofhlaaaSrcCurve
import Derived.Deep.RegionHeld3
namespace Go.Proofs.Yteddogbhofhlaaa
open Go.RowKit
set_option linter.unusedVariables false

theorem value_ok {f : Cv} (ok : f.Ok) {t : Int} (h0 : 0 ≤ t) (h1 : t ≤ 1048576) : f.value t = (f.at t.toNat, 0) := by
  unfold Cv.value; rw [if_pos (Cv.okB_true ok), if_neg (by omega)]

theorem tail_plain {f : Cv} (ok : f.Ok) (x k : Nat) (hx : (x : Int) < f.per) : 
    (f.at (f.vals.length - f.per.toNat + x) = inf → f.at (f.vals.length - f.per.toNat + x + k * f.per.toNat) = inf) ∧
    (f.at (f.vals.length - f.per.toNat + x) ≠ inf → f.at (f.vals.length - f.per.toNat + x + k * f.per.toNat) = f.at (f.vals.length - f.per.toNat + x) + k * f.inc) := by
  have hp1 := ok.p1; have hpn := ok.pn
  refine ⟨fun h => ok.inf_from (by omega) (by omega) h, fun h => ?_⟩
  have hF : f.Fin := ⟨ok, fun e => by
    have := (ok.last e).1
    apply h
    rw [Cv.at_lt (by omega), show f.vals.length - f.per.toNat + x = f.vals.length - 1 by omega]
    exact e⟩
  exact hF.toL.step.mul k _ (by omega)

attribute [local go_sem ↓] app_fold

set_option maxHeartbeats 2000000 in
set_option maxRecDepth 100000 in
theorem tail_any (A0 : Option Addr) (n0 c0 : Nat) (L : List Int) (t : Int) (w : World) (hL : Ints w w.heap.size A0 n0 L) (hc0 : n0 ≤ c0) (hn0 : (n0 : Int) ≤ 9223372036854775807) :
    Calls Try.prog 4 #[.slice A0 n0 c0, .int .i64 t] w fun e w' => e = .returned (.bool true) ∧ Below w.heap.size w w' := by
  go_enter Try.func4, Try.ntmps4
  go_wp2_with fail
  refine (new_any A0 n0 c0 L w hL hc0 hn0).mono ?_
  rintro e w1 ⟨rfl, hS1, hb1⟩
  have hpl := hS1.lt
  clear hL
  go_wp2_with fail
  refine (srcCurve_any w.heap.size 9 w1 hS1 (by omega) (by omega)).mono ?_
  rintro e w2 ⟨f, A, n, c, hD, rfl, hI, hA, hS2, hk2⟩
  have ok := hD.ok
  have hl : f.vals.length = n := hI.1
  have hlen := hD.len; have hper := hD.per; have hinc := hD.inc
  have hp1 := ok.p1; have hpn := ok.pn; have hi1 := ok.i1
  rw [hl] at hlen hpn
  obtain ⟨vals, per, inc⟩ := f
  simp only at hl hper hinc hp1 hpn hi1 hI
  obtain ⟨q, rfl⟩ := Int.eq_ofNat_of_zero_le (show 0 ≤ per by omega)
  have hlen' : n ≤ 17 := hlen
  have OK := Lib.hid ok; have HD := Lib.hid hD; have HL := Lib.hid hl; have HI := Lib.hid hI; have HA := Lib.hid hA; have SS := Lib.hid hS2
  have K2 := Lib.hid (show Kept w.heap.size w.heap.size w w2 from (Kept.of hb1).trans (hk2.mono hb1.size))
  have hpl2 := hS2.lt
  clear ok hD hl hI hA hS1 hS2 hk2 hb1 hlen
  have fB := Blk.new w2 26 #[.slice A n c, .int .i64 q, .int .i64 inc]
  have FB := Lib.hid fB
  have HI3 := Lib.hid (HI.out.alloc' (.cells #[.slice A n c, .int .i64 q, .int .i64 inc] 26))
  have SS3 := Lib.hid (SS.out.alloc (.cells #[.slice A n c, .int .i64 q, .int .i64 inc] 26))
  have K3 := Lib.hid (K2.out.alloc K2.out.size (.cells #[.slice A n c, .int .i64 q, .int .i64 inc] 26))
  have hlF := fB.lt
  clear fB
  go_wp2_with fail
  generalize w2.alloc (.cells #[.slice A n c, .int .i64 q, .int .i64 inc] 26) = w3 at *
  have q0 := FB.out.cell 0; have q1 := FB.out.cell 1; have q2 := FB.out.cell 2
  simp at q0 q1 q2
  have e1 : IntKind.i64.wrap ((n : Int) - q) = (n : Int) - q := IntWalk.i64_in _ (by omega)
  go_region_held3 (fun w' => w'.cell? ⟨w2.heap.size, 0, none⟩ = some (.slice A n c) ∧ w'.cell? ⟨w2.heap.size, 1, none⟩ = some (.int .i64 q)) (first | go_keep)
    (first
      | (go_at_call 19
         refine (n_any w.heap.size q _ (by first | exact SS3.out | exact SrcAt.drew SS3.out) (by omega) (by omega)).mono ?_
         rintro e w4 ⟨x, hx0, hx1, rfl, hS4, hk4⟩
         have fb4 := (Blk.drew FB.out).kept (by omega) hk4
         have f40 := fb4.cell 0; have f41 := fb4.cell 1; have f42 := fb4.cell 2
         simp at f40 f41 f42
         have e2 : IntKind.i64.wrap ((n : Int) - q + x) = (n : Int) - q + x := IntWalk.i64_in _ (by omega)
         have hlF4 := fb4.lt
         have FB4 := Lib.hid fb4
         have HI4 := Lib.hid ((Ints.drew HI3.out).kept (fun b off s h => by have := HA.out b off s h; omega) hk4)
         have K4 := Lib.hid (K3.out.trans ((kofdrew hk4).mono K3.out.size))
         clear fb4 hS4 hk4))
  obtain ⟨x, rfl⟩ := Int.eq_ofNat_of_zero_le hx0
  have hnx : (n : Int) - q + x = ((n - q + x : Nat) : Int) := by omega
  have hnb : n - q + x < n := by omega
  go_wp2_with fail
  refine (mod_any t 5000 _ (by omega) (by omega)).mono ?_
  rintro e w5 ⟨⟨y, hy0, hy1, rfl⟩, rfl⟩
  obtain ⟨y, rfl⟩ := Int.eq_ofNat_of_zero_le hy0
  clear e1 e2 q0 q1 q2
  have hpl1 := tail_plain OK.out x y hx1
  simp only [HL.out, Int.toNat_natCast] at hpl1
  have hav := OK.out.nn (n - q + x)
  rw [← Cv.at_lt (by show _ < vals.length; rw [HL.out]; exact hnb)] at hav
  have hv1 := value_ok OK.out (t := (n : Int) - q + x) (by omega) (by omega)
  have hyq : (y : Int) * q ≤ 5000 * 8 := Int.mul_le_mul (by omega) hper (by omega) (by omega)
  have hyq0 : 0 ≤ (y : Int) * q := Int.mul_nonneg (by omega) (by omega)
  have hv2 := value_ok OK.out (t := (n : Int) - q + x + y * q) (by omega) (by omega)
  rw [show ((n : Int) - q + x).toNat = n - q + x by omega] at hv1
  rw [show ((n : Int) - q + x + y * q).toNat = n - q + x + y * q by have : ((y * q : Nat) : Int) = (y : Int) * q := by simp
                                                                    omega] at hv2
  have hyi : (y : Int) * inc ≤ 5000 * 1000 := Int.mul_le_mul (by omega) hinc (by omega) (by omega)
  have hyi0 : 0 ≤ (y : Int) * inc := Int.mul_nonneg (by omega) (by omega)
  generalize Cv.at ⟨vals, q, inc⟩ (n - q + x) = va at *
  generalize Cv.at ⟨vals, q, inc⟩ (n - q + x + y * q) = vb at *
  have PL := Lib.hid hpl1; have HV1 := Lib.hid hv1; have HV2 := Lib.hid hv2; have HNX := Lib.hid hnx
  clear hpl1 hv1 hv2 hnx
  go_wp2_with fail
  refine (value_any A n c q inc ((n : Int) - q + x) vals _ HI4.out (by omega)).mono ?_
  rw [HV1.out]
  rintro e w6 ⟨rfl, hb6⟩
  have fb6 := FB4.out.below hb6 FB4.out.lt
  have f60 := fb6.cell 0; have f61 := fb6.cell 1; have f62 := fb6.cell 2
  simp at f60 f61 f62
  have FB6 := Lib.hid fb6; have HI6 := Lib.hid (HI4.out.ext hb6); have K6 := Lib.hid (K4.out.trans ((Kept.of hb6).mono K4.out.size))
  clear f40 f41 f42 fb6 hb6
  go_wp2_with fail
  refine (value_any A n c q inc ((n : Int) - q + x + y * q) vals _ HI6.out (by omega)).mono ?_
  rw [HV2.out]
  rintro e w7 ⟨rfl, hb7⟩
  have fb7 := FB6.out.below hb7 FB6.out.lt
  have f70 := fb7.cell 0; have f71 := fb7.cell 1; have f72 := fb7.cell 2
  simp at f70 f71 f72
  have K7 := Lib.hid (K6.out.trans ((Kept.of hb7).mono K6.out.size))
  clear f60 f61 f62 fb7 hb7
  by_cases hai : va = 4611686018427387904
  · have hb1 : (va == 4611686018427387904) = true := by simpa using hai
    have hb2 : (vb == 4611686018427387904) = true := beq_iff_eq.2 (PL.out.1 hai)
    clear hai
    go_wp2_with fail
    refine (awake2_any _).mono ?_
    rintro e w8 ⟨rfl, hb8⟩
    go_wp2_with fail
    go_ret
    exact ⟨rfl, (K7.out.trans ((Kept.of hb8).mono K7.out.size)).below (Nat.le_refl _)⟩
  · have hb1 : (va == 4611686018427387904) = false := by simpa using hai
    have hb2 : (vb == va + (y : Int) * inc) = true := by simpa using (PL.out.2 hai)
    clear hai
    go_wp2_with fail
    refine (awake2_any _).mono ?_
    rintro e w8 ⟨rfl, hb8⟩
    go_wp2_with fail
    go_ret
    exact ⟨rfl, (K7.out.trans ((Kept.of hb8).mono K7.out.size)).below (Nat.le_refl _)⟩
end Go.Proofs.Yteddogbhofhlaaa
