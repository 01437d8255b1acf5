/- The references of Exceeds, AtMost, Settles and Meets: what each returns. -/
import Derived.Test.YthgfmaijoigckaaBy
import Derived.BigQuiet
import Derived.Deep.QuietTactic
import Derived.Deep.LoopGhost
import Derived.Deep.RegionHeld3
import Derived.Deep.DeepCutAuto
import Derived.Deep.MidRow
import Derived.Test.YthgfmaijoigckaaRefAt
import Derived.Test.YthgfmaijoigckaaRefOrdLaw
namespace Go.Proofs.Ythgfmaijoigckaa
open Go.RowKit
set_option linter.unusedVariables false


set_option maxHeartbeats 1000000 in
theorem refWindow_any (A B : Option Addr) (n m c d : Nat) (p i q j : Int) (xs ys : List Int) (w : World) (hA : Ints w w.heap.size A n xs) (hB : Ints w w.heap.size B m ys) (hf : Cv.Ok ⟨xs, p, i⟩) (hg : Cv.Ok ⟨ys, q, j⟩) :
    Calls Try.prog 145 #[.agg #[.slice A n c, .int .i64 p, .int .i64 i], .agg #[.slice B m d, .int .i64 q, .int .i64 j]] w fun e w' => e = .returned (.tuple #[.int .i64 (ordM ⟨xs, p, i⟩ ⟨ys, q, j⟩ : Nat), .int .i64 (ordC ⟨xs, p, i⟩ ⟨ys, q, j⟩ : Nat), .int .i64 (ordD ⟨xs, p, i⟩ ⟨ys, q, j⟩)]) ∧ Below w.heap.size w w' := by
  have P := Lib.hid (PS.new (c := c) (p := p) (i := i) (d := d) (q := q) (j := j) hA hB)
  have OB := ord_b hf hg
  have hn := hf.n2; have hm := hg.n2
  have hp1 := hf.p1; have hp2 := hf.p2; have hi1 := hf.i1; have hi2 := hf.i2
  have hq1 := hg.p1; have hq2 := hg.p2; have hj1 := hg.i1; have hj2 := hg.i2
  have hl := hA.1; have hl2 := hB.1
  have hc1 := OB.c1; have hc2 := OB.c2
  have hd0 := OB.a1; have hd1 := OB.a2; have hb1 := OB.b1; have hb2 := OB.b2
  obtain ⟨M, hM⟩ : ∃ M, M = ordM ⟨xs, p, i⟩ ⟨ys, q, j⟩ := ⟨_, rfl⟩
  obtain ⟨C, hC⟩ : ∃ C, C = ordC ⟨xs, p, i⟩ ⟨ys, q, j⟩ := ⟨_, rfl⟩
  obtain ⟨D, hD⟩ : ∃ D, D = ordD ⟨xs, p, i⟩ ⟨ys, q, j⟩ := ⟨_, rfl⟩
  have hM' : M = max n m := by rw [hM]; unfold ordM; simp only [hl, hl2]
  have hC' : comm p.toNat q.toNat = C := by rw [hC]; rfl
  have hD' : D = ((C / p.toNat : Nat) : Int) * i - ((C / q.toNat : Nat) : Int) * j := by rw [hD, hC]; rfl
  rw [← hM, ← hC, ← hD]
  rw [← hC] at hc1 hc2 hd0 hd1 hb1 hb2
  simp only [hl, hl2] at hn hm hp1 hp2 hi1 hi2 hq1 hq2 hj1 hj2 hd0 hd1 hb1 hb2
  obtain ⟨pn, rfl⟩ := Int.eq_ofNat_of_zero_le (show 0 ≤ p by omega)
  obtain ⟨qn, rfl⟩ := Int.eq_ofNat_of_zero_le (show 0 ≤ q by omega)
  simp only [Int.toNat_natCast] at hC' hD' hd0 hd1 hb1 hb2
  obtain ⟨u, hu⟩ : ∃ u, u = C / pn := ⟨_, rfl⟩
  obtain ⟨v, hv⟩ : ∃ v, v = C / qn := ⟨_, rfl⟩
  rw [← hu] at hd0 hb1 hD'
  rw [← hv] at hd1 hb2 hD'
  have HM := Lib.hid hM'; have HC := Lib.hid hC'; have HD := Lib.hid hD'; have HU := Lib.hid hu; have HV := Lib.hid hv
  clear hA hB hf hg OB hl hl2 hM hC hD hM' hC' hD' hu hv
  go_enter Try.func145, Try.ntmps145
  obtain ⟨f0, f1, f2, g0, g1, g2, hlf, hlg⟩ := P.out.cells
  go_wp2_with fail
  have hmx : (if (n : Int) < (m : Int) then (m : Int) else (n : Int)) = (M : Int) := by have := HM.out; split <;> omega
  have hmx2 : (if n < m then (m : Int) else (n : Int)) = (M : Int) := by have := HM.out; split <;> omega
  go_region_held3 (fun w' => w'.cell? ⟨w.heap.size, 0, none⟩ = some (.slice A n c) ∧ w'.cell? ⟨w.heap.size, 1, none⟩ = some (.int .i64 pn) ∧ w'.cell? ⟨w.heap.size + 1, 0, none⟩ = some (.slice B m d) ∧ w'.cell? ⟨w.heap.size + 1, 1, none⟩ = some (.int .i64 qn)) (first | go_keep)
    (first
      | (go_at_call 144
         refine (refLcm_any pn qn _ (by omega) (by omega) (by omega)).mono ?_
         rw [HC.out]
         rintro e wq ⟨rfl, hbq⟩
         have P := Lib.hid (P.out.below (by first | exact hbq | exact bofdrew hbq))
         clear hbq
         clear f0 f1 f2 g0 g1 g2 hlf hlg
         obtain ⟨f0, f1, f2, g0, g1, g2, hlf, hlg⟩ := P.out.cells
         dsimp only))
  all_goals
    clear hmx hmx2
    have e1 : ((C : Int).tdiv (pn : Int)) = (u : Int) := by rw [HU.out]; rfl
    have e2 : ((C : Int).tdiv (qn : Int)) = (v : Int) := by rw [HV.out]; rfl
    have e3 : IntKind.i64.wrap (i * (u : Int)) = i * (u : Int) := by rw [Int.mul_comm i]; exact IntWalk.i64_in _ (by omega)
    have e4 : IntKind.i64.wrap (j * (v : Int)) = j * (v : Int) := by rw [Int.mul_comm j]; exact IntWalk.i64_in _ (by omega)
    have e5 : IntKind.i64.wrap (i * (u : Int) - j * (v : Int)) = D := by rw [HD.out, Int.mul_comm i, Int.mul_comm j]; exact IntWalk.i64_in _ (by omega)
    have hpn : (pn : Int) ≠ 0 := by omega
    have hqn : (qn : Int) ≠ 0 := by omega
    have bw := P.out.bw
    go_wp2_with fail
    go_quiet (fail)
    go_wp2_with fail
    refine bodyPost_ret (v := .tuple #[.int .i64 M, .int .i64 C, .int .i64 D]) (by simp [results, Try.results145, go_sem]) rfl ⟨rfl, bdrewN bw⟩

set_option maxHeartbeats 1000000 in
theorem refAbove_any (A B : Option Addr) (n m c d : Nat) (p i q j : Int) (xs ys : List Int) (w : World) (hA : Ints w w.heap.size A n xs) (hB : Ints w w.heap.size B m ys) (t : Int) (hf : Cv.Ok ⟨xs, p, i⟩) (hg : Cv.Ok ⟨ys, q, j⟩) (ht0 : 0 ≤ t) (ht : t ≤ 20000) :
    Calls Try.prog 146 #[.agg #[.slice A n c, .int .i64 p, .int .i64 i], .agg #[.slice B m d, .int .i64 q, .int .i64 j], .int .i64 t] w fun e w' => e = .returned (.int .i64 (abv ⟨xs, p, i⟩ ⟨ys, q, j⟩ t.toNat)) ∧ Below w.heap.size w w' := by
  have P := Lib.hid (PS.new (c := c) (p := p) (i := i) (d := d) (q := q) (j := j) hA hB)
  have hn := hf.n2; have hm := hg.n2
  have hp1 := hf.p1; have hpn := hf.pn; have hi1 := hf.i1; have hi2 := hf.i2
  have hq1 := hg.p1; have hqm := hg.pn; have hj1 := hg.i1; have hj2 := hg.i2
  have hl := hA.1; have hl2 := hB.1
  simp only [hl, hl2] at hn hm hp1 hpn hi1 hi2 hq1 hqm hj1 hj2
  have NF := Lib.hid hf.nn; have NG := Lib.hid hg.nn
  obtain ⟨x, hx⟩ : ∃ x, x = Cv.at ⟨xs, p, i⟩ t.toNat := ⟨_, rfl⟩
  obtain ⟨y, hy⟩ : ∃ y, y = Cv.at ⟨ys, q, j⟩ t.toNat := ⟨_, rfl⟩
  have hxb := at_inf_bd hf (n := t.toNat) (by omega)
  have hyb := at_inf_bd hg (n := t.toNat) (by omega)
  rw [← hx] at hxb
  rw [← hy] at hyb
  have fin : abv ⟨xs, p, i⟩ ⟨ys, q, j⟩ t.toNat = if y = 4611686018427387904 then 0 else if x = 4611686018427387904 then 1 else x - y := by unfold abv inf; rw [← hx, ← hy]
  obtain ⟨r, hr⟩ : ∃ r, r = abv ⟨xs, p, i⟩ ⟨ys, q, j⟩ t.toNat := ⟨_, rfl⟩
  rw [← hr] at fin ⊢
  have HX := Lib.hid hx; have HY := Lib.hid hy; have F := Lib.hid fin
  clear hx hy hf hg hl hl2 fin hA hB hr
  go_enter Try.func146, Try.ntmps146
  obtain ⟨f0, f1, f2, g0, g1, g2, hlf, hlg⟩ := P.out.cells
  go_wp2_with fail
  go_region_held3 (fun w' => w'.cell? ⟨w.heap.size, 0, none⟩ = some (.slice A n c) ∧ w'.cell? ⟨w.heap.size, 1, none⟩ = some (.int .i64 p) ∧ w'.cell? ⟨w.heap.size, 2, none⟩ = some (.int .i64 i) ∧ w'.cell? ⟨w.heap.size + 1, 0, none⟩ = some (.slice B m d) ∧ w'.cell? ⟨w.heap.size + 1, 1, none⟩ = some (.int .i64 q) ∧ w'.cell? ⟨w.heap.size + 1, 2, none⟩ = some (.int .i64 j)) (first | go_keep)
    (first
      | (go_at_call_of 43 (Value.agg #[.slice A n c, .int .i64 p, .int .i64 i])
         refine (refAt_any A n c p i t xs _ (by exact P.out.ia) (by omega) hp1 hpn hi1 (by omega) NF.out ht0 (by omega)).mono ?_
         rw [← HX.out]
         rintro e wq ⟨rfl, hbq⟩
         have P := Lib.hid (P.out.below (by first | exact hbq | exact bofdrew hbq))
         clear hbq
         clear f0 f1 f2 g0 g1 g2 hlf hlg
         obtain ⟨f0, f1, f2, g0, g1, g2, hlf, hlg⟩ := P.out.cells
         skip)
      | (go_at_call_of 43 (Value.agg #[.slice B m d, .int .i64 q, .int .i64 j])
         refine (refAt_any B m d q j t ys _ (by exact P.out.ib) (by omega) hq1 hqm hj1 (by omega) NG.out ht0 (by omega)).mono ?_
         rw [← HY.out]
         rintro e wq ⟨rfl, hbq⟩
         have P := Lib.hid (P.out.below (by first | exact hbq | exact bofdrew hbq))
         clear hbq
         clear f0 f1 f2 g0 g1 g2 hlf hlg
         obtain ⟨f0, f1, f2, g0, g1, g2, hlf, hlg⟩ := P.out.cells
         skip))
  all_goals
    have bw := P.out.bw
    by_cases hyi : y = 4611686018427387904
    · have F2 := Lib.hid (show r = 0 by rw [F.out, if_pos hyi])
      have hyf : (y == 4611686018427387904) = true := by simpa using hyi
      obtain ⟨bx, hbx⟩ : ∃ bx, (x == 4611686018427387904) = bx := ⟨_, rfl⟩
      clear hyi
      cases bx
      all_goals
        go_wp2_with fail
        go_ret
        exact ⟨ret_int F2.out.symm, bw⟩
    · have hyf : (y == 4611686018427387904) = false := by simpa using hyi
      by_cases hxi : x = 4611686018427387904
      · have F2 := Lib.hid (show r = 1 by rw [F.out, if_neg hyi, if_pos hxi])
        have hxf : (x == 4611686018427387904) = true := by simpa using hxi
        clear hyi hxi
        go_wp2_with fail
        go_ret
        exact ⟨ret_int F2.out.symm, bw⟩
      · have hxf : (x == 4611686018427387904) = false := by simpa using hxi
        have F2 := Lib.hid (show r = x - y by rw [F.out, if_neg hyi, if_neg hxi])
        clear hyi hxi
        go_wp2_with fail
        go_ret
        exact ⟨ret_int F2.out.symm, bw⟩
end Go.Proofs.Ythgfmaijoigckaa
