/- . -/
import Derived.Deep.LoopGhost
import Derived.Deep.DeepCutAuto
import Derived.BigQuiet
import Derived.StillTailTactics
import Derived.Deep.QuietTactic
import Derived.Test.YtaejfleahamapaaGreatTa30
import Derived.Test.YtaejfleahamapaaGreatTa18
namespace Go.Proofs.YtaejfleahamapaaGreat
set_option linter.unusedVariables false
set_option linter.unusedSimpArgs false
set_option maxHeartbeats 4000000
set_option maxRecDepth 100000
open Go.RowKit
section
theorem attains_any (q1 q2 N F t : Nat) (l : Int) (tl : Bool) (st : Nat) (s : Int) (a h : Cv) (w : World) (hT1 : RowI w q1 (tab a.at 0 N)) (hT2 : RowI w q2 (tab h.at 0 N)) (ha : a.Ok) (hh : h.Ok) (hN : N ≤ 2000) (ht : t < N) (hF : F = clF a h) (hF2 : F ≤ 100000) (htl : tl = true ↔ ClT a h) (hst : st = cst h) :
 Calls Tryz.prog 112 #[.agg #[.int .i64 l, .int .i64 F, .bool tl], .slice (some ⟨q1, 0, none⟩) N N, .slice (some ⟨q2, 0, none⟩) N N, .int .i64 st, .int .i64 s, .int .i64 t] w (RetQ (0 ≤ s ∧ ClFit a h t s.toNat) w) := by
 have hst9 : st ≤ 400 := by rw [hst]; exact cst_le hh
 have FB := hi_ (Blk.new w 171 #[.int .i64 l, .int .i64 F, .bool tl])
 have BW := hi_ (balloc w (.cells #[.int .i64 l, .int .i64 F, .bool tl] 171))
 have T1 := hi_ (hT1.below (balloc w (.cells #[.int .i64 l, .int .i64 F, .bool tl] 171)) hT1.lt)
 have T2 := hi_ (hT2.below (balloc w (.cells #[.int .i64 l, .int .i64 F, .bool tl] 171)) hT2.lt)
 have HA := hi_ ha; have HH := hi_ hh; have HF := hi_ hF; have HTL := hi_ htl; have HST := hi_ hst
 obtain ⟨x, hx⟩ : ∃ x, x = a.at t := ⟨_, rfl⟩
 obtain ⟨y, hy⟩ : ∃ y, y = h.at t := ⟨_, rfl⟩
 have HX := hi_ hx; have HY := hi_ hy
 have nx := at_near hh (t := t) (by omega)
 rw [← hy] at nx
 have NY := hi_ nx
 have hti : (t : Int) < N := by omega
 clear hT1 hT2 ha hh hF htl hst hx hy nx
 have tx := T1.out.cell t (by rw [tab_length]; exact ht)
 have ty := T2.out.cell t (by rw [tab_length]; exact ht)
 rw [tab_nth _ _ _ _ ht, Nat.zero_add, ← HX.out] at tx
 rw [tab_nth _ _ _ _ ht, Nat.zero_add, ← HY.out] at ty
 have TX := hi_ tx; have TY := hi_ ty
 clear tx ty
 by_cases hs0 : s = 0
 ·subst hs0
  go_enter Tryz.func112, Tryz.ntmps112
  go_upto_region 2 with fail
  generalize hwe : w.alloc (.cells #[.int .i64 l, .int .i64 F, .bool tl] 171) = we at *
  clear hwe
  have t1 := TX.out; have t2 := TY.out
  obtain ⟨⟨f0, f1, f2⟩, _, hlt⟩ := FB.out.c3
  have hl1 := T1.out.lt; have hl2 := T2.out.lt
  clear FB
  have BW := hi_ (Below.drew BW.out)
  refine wp_region_held_drew (S := (fun w' => w'.cell? ⟨q1, t, none⟩ = some (.int .i64 x) ∧ w'.cell? ⟨q2, t, none⟩ = some (.int .i64 y) ∧ w'.cell? ⟨w.heap.size, 0, none⟩ = some (.int .i64 l) ∧ w'.cell? ⟨w.heap.size, 1, none⟩ = some (.int .i64 F) ∧ w'.cell? ⟨w.heap.size, 2, none⟩ = some (.bool tl))) (by kernel_rfl) ⟨t1, t2, f0, f1, f2⟩ (fun hY => ?_)
  replace t1 : we.drew.cell? ⟨q1, t, none⟩ = some (.int .i64 x) := t1
  replace t2 : we.drew.cell? ⟨q2, t, none⟩ = some (.int .i64 y) := t2
  replace f0 : we.drew.cell? ⟨w.heap.size, 0, none⟩ = some (.int .i64 l) := f0
  replace f1 : we.drew.cell? ⟨w.heap.size, 1, none⟩ = some (.int .i64 F) := f1
  replace f2 : we.drew.cell? ⟨w.heap.size, 2, none⟩ = some (.bool tl) := f2
  replace hlt : w.heap.size < we.drew.heap.size := hlt
  replace hl1 : q1 < we.drew.heap.size := hl1
  replace hl2 : q2 < we.drew.heap.size := hl2
  generalize hwd : we.drew = wd at *
  clear hwd
  by_cases hxy : x = y
  ·have d1 : (x == y) = true := by simpa using hxy
   have E1 := hi_ (show a.at t = h.at t from by rw [← HX.out, ← HY.out]; exact hxy)
   clear hxy
   by_cases h1 : t < F
   ·have d2 : decide ((t : Int) < (F : Int)) = true := by simp; omega
    have d3 : decide (t < F) = true := by simpa using h1
    refine tkO [0, 1, 2, 3, 4, 5, 6, 7, 8, 9, 10, 11, 12, 13, 14, 15, 16, 17, 18, 19, 20, 21, 22, 23, 24, 25, 26] ?_; (iterate 15 refine tkI ?_); (iterate 5 refine tkJ ?_); (iterate 2 refine tkI ?_); (iterate 2 refine tkJ ?_); (iterate 3 refine tkI ?_); refine tkX ?_
    refine dnH ?_
    have GD := hi_ (show (0 : Int) ≤ 0 ∧ ClFit a h t (0 : Int).toNat from ⟨by omega, .inl ⟨rfl, E1.out, .inl (by rw [← HF.out]; exact h1)⟩⟩)
    try clear hY
    go_wp2_with fail
    go_ret
    exact ⟨⟨true, ⟨fun _ => GD.out, fun _ => rfl⟩, rfl⟩, BW.out⟩
   ·have d2 : decide ((t : Int) < (F : Int)) = false := by simp; omega
    have d3 : decide (t < F) = false := by simpa using h1
    by_cases h2 : y = inf
    ·have d4 : (y == 4611686018427387904) = true := by unfold inf at h2; simpa using h2
     have GD := hi_ (show (0 : Int) ≤ 0 ∧ ClFit a h t (0 : Int).toNat from ⟨by omega, .inl ⟨rfl, E1.out, .inr (.inl (by rw [← HY.out]; exact h2))⟩⟩)
     clear h2
     refine tkO [0, 1, 2, 3, 4, 5, 6, 7, 8, 9, 10, 11, 12, 13, 14, 15, 16, 17, 18, 19, 20, 21, 22, 23, 24, 25, 26] ?_; (iterate 22 refine tkI ?_); (iterate 2 refine tkJ ?_); (iterate 3 refine tkI ?_); refine tkX ?_
     refine dnH ?_
     try clear hY
     go_wp2_with fail
     go_ret
     exact ⟨⟨true, ⟨fun _ => GD.out, fun _ => rfl⟩, rfl⟩, BW.out⟩
    ·have d4 : (y == 4611686018427387904) = false := by unfold inf at h2; simpa using h2
     have GD := hi_ (show tl = true ↔ ((0 : Int) ≤ 0 ∧ ClFit a h t (0 : Int).toNat) from by
      rw [HTL.out]
      constructor
      ·intro k; exact ⟨by omega, .inl ⟨rfl, E1.out, .inr (.inr k)⟩⟩
      ·rintro ⟨_, ⟨_, _, k | k | k⟩ | ⟨k, _⟩⟩
       ·rw [← HF.out] at k; exact absurd k h1
       ·rw [← HY.out] at k; exact absurd k h2
       ·exact k
       ·have k : 1 ≤ 0 := k; omega)
     clear h2
     refine tkO [0, 1, 2, 3, 4, 5, 6, 7, 8, 9, 10, 11, 12, 13, 14, 15, 16, 17, 18, 19, 20, 21, 22, 23, 24, 25, 26] ?_; (iterate 27 refine tkI ?_); refine tkX ?_
     refine dnH ?_
     try clear hY
     go_wp2_with fail
     go_ret
     exact ⟨⟨tl, GD.out, rfl⟩, BW.out⟩
  ·have d1 : (x == y) = false := by simpa using hxy
   have GD := hi_ (show ¬ ((0 : Int) ≤ 0 ∧ ClFit a h t (0 : Int).toNat) from by
    rintro ⟨_, ⟨_, k, _⟩ | ⟨k, _⟩⟩
    ·exact hxy (by rw [HX.out, HY.out]; exact k)
    ·have k : 1 ≤ 0 := k; omega)
   clear hxy
   refine tkO [0, 1, 2, 3, 4, 5, 6, 7, 8, 9, 10, 11, 12, 13, 14, 15, 16, 17, 18, 19, 20, 21, 22, 23, 24, 25, 26] ?_; (iterate 10 refine tkI ?_); (iterate 15 refine tkJ ?_); (iterate 2 refine tkI ?_); refine tkX ?_
   refine dnH ?_
   try clear hY
   go_wp2_with fail
   go_ret
   exact ⟨⟨false, ⟨fun h => Bool.noConfusion h, fun h => absurd h GD.out⟩, rfl⟩, BW.out⟩
 ·have ds : (s == 0) = false := by simpa using hs0
  by_cases hs1 : 1 ≤ s
  ·obtain ⟨u, rfl⟩ := Int.eq_ofNat_of_zero_le (show 0 ≤ s by omega)
   have e1 : decide (1 ≤ (u : Int)) = true := by simpa using hs1
   have e1' : decide ((u : Int) ≥ 1) = true := by simpa using hs1
   have hu1 : 1 ≤ u := by omega
   have e1n : decide (1 ≤ u) = true := by simpa using hu1
   by_cases hut : u < t
   ·have e2 : decide ((u : Int) < (t : Int)) = true := by simp; omega
    have e2' : decide (u < t) = true := by simpa using hut
    obtain ⟨z, hz⟩ : ∃ z : Nat, z = t - u := ⟨_, rfl⟩
    have ez1 : IntKind.i64.wrap ((t : Int) - (u : Int)) = (z : Int) := by rw [IntWalk.i64_in _ (by omega)]; omega
    have ez2 : (t : Int) - (u : Int) = (z : Int) := by omega
    have ez3 : IntKind.i64.wrap (z : Int) = (z : Int) := IntWalk.i64_in _ (by omega)
    have hzN : z < N := by omega
    have huN : u < N := by omega
    have hzi : (z : Int) < N := by omega
    have hui : (u : Int) < N := by omega
    have hz0 : 0 ≤ (z : Int) := by omega
    have HZ := hi_ hz
    obtain ⟨x1, hx1⟩ : ∃ x1, x1 = h.at u := ⟨_, rfl⟩
    obtain ⟨x2, hx2⟩ : ∃ x2, x2 = h.at z := ⟨_, rfl⟩
    have n1 := at_near HH.out (t := u) (by omega); have n2 := at_near HH.out (t := z) (by omega)
    rw [← hx1] at n1
    rw [← hx2] at n2
    have N1 := hi_ n1; have N2 := hi_ n2; have HX1 := hi_ hx1; have HX2 := hi_ hx2
    obtain ⟨pv, hpv⟩ : ∃ pv, pv = pl x1 x2 := ⟨_, rfl⟩
    have HP := hi_ hpv
    have FT := hi_ (show (0 ≤ (u : Int) ∧ ClFit a h t (u : Int).toNat) ↔ pv = y ∧ (t < F ∨ st ≤ z) from by
     rw [Int.toNat_natCast, hpv, hx1, hx2, HY.out, hz, HF.out, HST.out]
     constructor
     ·rintro ⟨_, ⟨k, _⟩ | ⟨_, _, k1, k2⟩⟩
      ·omega
      ·exact ⟨k1, k2⟩
     ·rintro ⟨k1, k2⟩
      exact ⟨by omega, .inr ⟨hu1, hut, k1, k2⟩⟩)
    have tu := T2.out.cell u (by rw [tab_length]; exact huN)
    have tz := T2.out.cell z (by rw [tab_length]; exact hzN)
    rw [tab_nth _ _ _ _ huN, Nat.zero_add, ← HX1.out] at tu
    rw [tab_nth _ _ _ _ hzN, Nat.zero_add, ← HX2.out] at tz
    have TU := hi_ tu; have TZ := hi_ tz
    clear tu tz hpv hx1 hx2 n1 n2 hz hs0 hs1 hut hu1
    go_enter Tryz.func112, Tryz.ntmps112
    go_upto_region 3 with fail
    generalize hwe : w.alloc (.cells #[.int .i64 l, .int .i64 F, .bool tl] 171) = we at *
    clear hwe
    have t1 := TX.out; have t2 := TY.out; have u1 := TU.out; have z1 := TZ.out
    obtain ⟨⟨f0, f1, f2⟩, _, hlt⟩ := FB.out.c3
    have hl1 := T1.out.lt; have hl2 := T2.out.lt
    clear FB
    have BW := hi_ (Below.drew BW.out)
    refine wp_region_held_drew (S := (fun w' => w'.cell? ⟨q1, t, none⟩ = some (.int .i64 x) ∧ w'.cell? ⟨q2, t, none⟩ = some (.int .i64 y) ∧ w'.cell? ⟨w.heap.size, 0, none⟩ = some (.int .i64 l) ∧ w'.cell? ⟨w.heap.size, 1, none⟩ = some (.int .i64 F) ∧ w'.cell? ⟨w.heap.size, 2, none⟩ = some (.bool tl) ∧ w'.cell? ⟨q2, u, none⟩ = some (.int .i64 x1) ∧ w'.cell? ⟨q2, z, none⟩ = some (.int .i64 x2))) (by kernel_rfl) ⟨t1, t2, f0, f1, f2, u1, z1⟩ (fun hY => ?_)
    replace t1 : we.drew.cell? ⟨q1, t, none⟩ = some (.int .i64 x) := t1
    replace t2 : we.drew.cell? ⟨q2, t, none⟩ = some (.int .i64 y) := t2
    replace f0 : we.drew.cell? ⟨w.heap.size, 0, none⟩ = some (.int .i64 l) := f0
    replace f1 : we.drew.cell? ⟨w.heap.size, 1, none⟩ = some (.int .i64 F) := f1
    replace f2 : we.drew.cell? ⟨w.heap.size, 2, none⟩ = some (.bool tl) := f2
    replace u1 : we.drew.cell? ⟨q2, u, none⟩ = some (.int .i64 x1) := u1
    replace z1 : we.drew.cell? ⟨q2, z, none⟩ = some (.int .i64 x2) := z1
    replace hlt : w.heap.size < we.drew.heap.size := hlt
    replace hl1 : q1 < we.drew.heap.size := hl1
    replace hl2 : q2 < we.drew.heap.size := hl2
    generalize hwd : we.drew = wd at *
    clear hwd
    refine tkO [0, 1, 2, 3, 4, 5, 6, 7, 8, 9, 10, 11, 12, 13, 14, 15, 16, 17, 19, 20, 21, 22] ?_; (iterate 22 refine tkI ?_); refine tkX ?_
    refine rdy2 18 (fun K hK => ?_)
    go_simp
    refine (plus_any x1 x2 wd (by exact N1.out.1) (by exact N1.out.2) (by exact N2.out.1) (by exact N2.out.2)).mono ?_
    rw [← HP.out]
    rintro e wa ⟨rfl, rfl⟩
    refine bkS hK (by exact ⟨t1, t2, f0, f1, f2, u1, z1⟩) (fun hY => ?_)
    by_cases hpy : pv = y
    ·have d1 : (pv == y) = true := by simpa using hpy
     by_cases h1 : t < F
     ·have d2 : decide ((t : Int) < (F : Int)) = true := by simp; omega
      have d3 : decide (t < F) = true := by simpa using h1
      have GD := hi_ (FT.out.2 ⟨hpy, .inl h1⟩)
      clear hpy
      refine tkO [23, 24, 25, 26, 27, 28, 29, 30, 31, 32, 33, 34, 35, 36, 37, 38] ?_; (iterate 8 refine tkI ?_); (iterate 5 refine tkJ ?_); (iterate 3 refine tkI ?_); refine tkX ?_
      refine dnH ?_
      try clear hY
      go_wp2_with fail
      go_ret
      exact ⟨⟨true, ⟨fun _ => GD.out, fun _ => rfl⟩, rfl⟩, BW.out⟩
     ·have d2 : decide ((t : Int) < (F : Int)) = false := by simp; omega
      have d3 : decide (t < F) = false := by simpa using h1
      by_cases h2 : st ≤ z
      ·have d4 : decide ((st : Int) ≤ (z : Int)) = true := by simp; omega
       have d5 : decide (st ≤ z) = true := by simpa using h2
       have d6 : decide ((z : Int) ≥ (st : Int)) = true := by simp; omega
       have GD := hi_ (FT.out.2 ⟨hpy, .inr h2⟩)
       clear hpy
       refine tkO [23, 24, 25, 26, 27, 28, 29, 30, 31, 32, 33, 34, 35, 36, 37, 38] ?_; (iterate 16 refine tkI ?_); refine tkX ?_
       refine dnH ?_
       try clear hY
       go_wp2_with fail
       go_ret
       exact ⟨⟨true, ⟨fun _ => GD.out, fun _ => rfl⟩, rfl⟩, BW.out⟩
      ·have d4 : decide ((st : Int) ≤ (z : Int)) = false := by simp; omega
       have d5 : decide (st ≤ z) = false := by simpa using h2
       have d6 : decide ((z : Int) ≥ (st : Int)) = false := by simp; omega
       have GD := hi_ (show ¬ (0 ≤ (u : Int) ∧ ClFit a h t (u : Int).toNat) from fun k => by
        have := (FT.out.1 k).2
        omega)
       clear hpy
       refine tkO [23, 24, 25, 26, 27, 28, 29, 30, 31, 32, 33, 34, 35, 36, 37, 38] ?_; (iterate 16 refine tkI ?_); refine tkX ?_
       refine dnH ?_
       try clear hY
       go_wp2_with fail
       go_ret
       exact ⟨⟨false, ⟨fun h => Bool.noConfusion h, fun h => absurd h GD.out⟩, rfl⟩, BW.out⟩
    ·have d1 : (pv == y) = false := by simpa using hpy
     have GD := hi_ (show ¬ (0 ≤ (u : Int) ∧ ClFit a h t (u : Int).toNat) from fun k => hpy (FT.out.1 k).1)
     clear hpy
     refine tkO [23, 24, 25, 26, 27, 28, 29, 30, 31, 32, 33, 34, 35, 36, 37, 38] ?_; (iterate 3 refine tkI ?_); (iterate 11 refine tkJ ?_); (iterate 2 refine tkI ?_); refine tkX ?_
     refine dnH ?_
     try clear hY
     go_wp2_with fail
     go_ret
     exact ⟨⟨false, ⟨fun h => Bool.noConfusion h, fun h => absurd h GD.out⟩, rfl⟩, BW.out⟩
   ·have e2 : decide ((u : Int) < (t : Int)) = false := by simp; omega
    have e2' : decide (u < t) = false := by simpa using hut
    have GD := hi_ (show ¬ (0 ≤ (u : Int) ∧ ClFit a h t (u : Int).toNat) from by
     rw [Int.toNat_natCast]
     rintro ⟨_, ⟨k, _⟩ | ⟨_, k, _⟩⟩
     ·omega
     ·exact hut k)
    clear hs0 hs1 hut hu1
    go_enter Tryz.func112, Tryz.ntmps112
    go_upto_region 3 with fail
    generalize hwe : w.alloc (.cells #[.int .i64 l, .int .i64 F, .bool tl] 171) = we at *
    clear hwe
    have t1 := TX.out; have t2 := TY.out
    obtain ⟨⟨f0, f1, f2⟩, _, hlt⟩ := FB.out.c3
    have hl1 := T1.out.lt; have hl2 := T2.out.lt
    clear FB
    have BW := hi_ (Below.drew BW.out)
    refine wp_region_held_drew (S := (fun w' => w'.cell? ⟨q1, t, none⟩ = some (.int .i64 x) ∧ w'.cell? ⟨q2, t, none⟩ = some (.int .i64 y) ∧ w'.cell? ⟨w.heap.size, 0, none⟩ = some (.int .i64 l) ∧ w'.cell? ⟨w.heap.size, 1, none⟩ = some (.int .i64 F) ∧ w'.cell? ⟨w.heap.size, 2, none⟩ = some (.bool tl))) (by kernel_rfl) ⟨t1, t2, f0, f1, f2⟩ (fun hY => ?_)
    replace t1 : we.drew.cell? ⟨q1, t, none⟩ = some (.int .i64 x) := t1
    replace t2 : we.drew.cell? ⟨q2, t, none⟩ = some (.int .i64 y) := t2
    replace f0 : we.drew.cell? ⟨w.heap.size, 0, none⟩ = some (.int .i64 l) := f0
    replace f1 : we.drew.cell? ⟨w.heap.size, 1, none⟩ = some (.int .i64 F) := f1
    replace f2 : we.drew.cell? ⟨w.heap.size, 2, none⟩ = some (.bool tl) := f2
    replace hlt : w.heap.size < we.drew.heap.size := hlt
    replace hl1 : q1 < we.drew.heap.size := hl1
    replace hl2 : q2 < we.drew.heap.size := hl2
    generalize hwd : we.drew = wd at *
    clear hwd
    refine tkO [0, 1, 2, 3, 4, 5, 6, 7, 8, 9, 10, 11, 12, 13, 14, 15, 16, 17, 18, 19, 20, 21, 22, 23, 24, 25, 26, 27, 28, 29, 30, 31, 32, 33, 34, 35, 36, 37, 38] ?_; (iterate 8 refine tkI ?_); (iterate 16 refine tkJ ?_); (iterate 2 refine tkI ?_); (iterate 11 refine tkJ ?_); (iterate 2 refine tkI ?_); refine tkX ?_
    refine dnH ?_
    try clear hY
    go_wp2_with fail
    go_ret
    exact ⟨⟨false, ⟨fun h => Bool.noConfusion h, fun h => absurd h GD.out⟩, rfl⟩, BW.out⟩
  ·have e1 : decide (1 ≤ s) = false := by simpa using hs1
   have e1' : decide (s ≥ 1) = false := by simpa using hs1
   have GD := hi_ (show ¬ (0 ≤ s ∧ ClFit a h t s.toNat) from fun k => by have := k.1; omega)
   clear hs0 hs1
   go_enter Tryz.func112, Tryz.ntmps112
   go_upto_region 3 with fail
   generalize hwe : w.alloc (.cells #[.int .i64 l, .int .i64 F, .bool tl] 171) = we at *
   clear hwe
   have t1 := TX.out; have t2 := TY.out
   obtain ⟨⟨f0, f1, f2⟩, _, hlt⟩ := FB.out.c3
   have hl1 := T1.out.lt; have hl2 := T2.out.lt
   clear FB
   have BW := hi_ (Below.drew BW.out)
   refine wp_region_held_drew (S := (fun w' => w'.cell? ⟨q1, t, none⟩ = some (.int .i64 x) ∧ w'.cell? ⟨q2, t, none⟩ = some (.int .i64 y) ∧ w'.cell? ⟨w.heap.size, 0, none⟩ = some (.int .i64 l) ∧ w'.cell? ⟨w.heap.size, 1, none⟩ = some (.int .i64 F) ∧ w'.cell? ⟨w.heap.size, 2, none⟩ = some (.bool tl))) (by kernel_rfl) ⟨t1, t2, f0, f1, f2⟩ (fun hY => ?_)
   replace t1 : we.drew.cell? ⟨q1, t, none⟩ = some (.int .i64 x) := t1
   replace t2 : we.drew.cell? ⟨q2, t, none⟩ = some (.int .i64 y) := t2
   replace f0 : we.drew.cell? ⟨w.heap.size, 0, none⟩ = some (.int .i64 l) := f0
   replace f1 : we.drew.cell? ⟨w.heap.size, 1, none⟩ = some (.int .i64 F) := f1
   replace f2 : we.drew.cell? ⟨w.heap.size, 2, none⟩ = some (.bool tl) := f2
   replace hlt : w.heap.size < we.drew.heap.size := hlt
   replace hl1 : q1 < we.drew.heap.size := hl1
   replace hl2 : q2 < we.drew.heap.size := hl2
   generalize hwd : we.drew = wd at *
   clear hwd
   refine tkO [0, 1, 2, 3, 4, 5, 6, 7, 8, 9, 10, 11, 12, 13, 14, 15, 16, 17, 18, 19, 20, 21, 22, 23, 24, 25, 26, 27, 28, 29, 30, 31, 32, 33, 34, 35, 36, 37, 38] ?_; (iterate 3 refine tkI ?_); (iterate 3 refine tkJ ?_); (iterate 2 refine tkI ?_); (iterate 16 refine tkJ ?_); (iterate 2 refine tkI ?_); (iterate 11 refine tkJ ?_); (iterate 2 refine tkI ?_); refine tkX ?_
   refine dnH ?_
   try clear hY
   go_wp2_with fail
   go_ret
   exact ⟨⟨false, ⟨fun h => Bool.noConfusion h, fun h => absurd h GD.out⟩, rfl⟩, BW.out⟩
end
section
def RetOl (a h : Cv) (w : World) (e : Ending) (w' : World) : Prop :=
 ∃ tl : Bool, (tl = true ↔ ClT a h) ∧ e = .returned (.tuple #[.agg #[.int .i64 (clL a h : Nat), .int .i64 (clF a h : Nat), .bool tl], .bool (decide (((clL a h : Nat) : Int) ≤ 120))]) ∧ Below w.heap.size w w'
structure OL (w wx : World) (A : Option Addr) (n c : Nat) (a : Cv) (B : Option Addr) (m d : Nat) (h : Cv) (x y z : Value) : Prop where
 pa : Blk wx w.heap.size 26 #[.slice A n c, .int .i64 a.per, .int .i64 a.inc]
 pb : Blk wx (w.heap.size + 1) 26 #[.slice B m d, .int .i64 h.per, .int .i64 h.inc]
 rb : Blk wx (w.heap.size + 2) 171 #[.int .i64 0, .int .i64 0, .bool false]
 xb : Blk wx (w.heap.size + 3) 171 #[x, y, z]
 ia : Ints wx w.heap.size A n a.vals
 ib : Ints wx w.heap.size B m h.vals
 bw : Below w.heap.size w wx
section
variable {w wx wy : World} {A B : Option Addr} {n c m d : Nat} {a h : Cv} {x y z : Value}
theorem OL.below (H : OL w wx A n c a B m d h x y z) (hb : Below wx.heap.size wx wy) : OL w wy A n c a B m d h x y z :=
 ⟨H.pa.below hb H.pa.lt, H.pb.below hb H.pb.lt, H.rb.below hb H.rb.lt, H.xb.below hb H.xb.lt, H.ia.below (hb.mono H.bw.size), H.ib.below (hb.mono H.bw.size), bthen H.bw hb⟩
theorem OL.drew (H : OL w wx A n c a B m d h x y z) : OL w wx.drew A n c a B m d h x y z := ⟨H.pa, H.pb, H.rb, H.xb, H.ia, H.ib, Below.drew H.bw⟩
theorem OL.ja (H : OL w wx A n c a B m d h x y z) : Ints wx wx.heap.size A n a.vals := H.ia.more H.bw.size
theorem OL.jb (H : OL w wx A n c a B m d h x y z) : Ints wx wx.heap.size B m h.vals := H.ib.more H.bw.size
theorem OL.sto (H : OL w wx A n c a B m d h x y z) {x' y' z' : Value} (s : Sto (w.heap.size + 3) wx wy) (hx : Blk wy (w.heap.size + 3) 171 #[x', y', z']) : OL w wy A n c a B m d h x' y' z' :=
 ⟨H.pa.sto s (by omega), H.pb.sto s (by omega), H.rb.sto s (by omega), hx, H.ia.keep (fun q hq => World.cell?_of_block (a := q) (s.block q.block (by omega))), H.ib.keep (fun q hq => World.cell?_of_block (a := q) (s.block q.block (by omega))), bsto H.bw s (by omega)⟩
theorem OL.set0 (H : OL w wx A n c a B m d h x y z) (v : Value) : OL w (wx.setCell ⟨w.heap.size + 3, 0, none⟩ v) A n c a B m d h v y z := H.sto ((Sto.refl _ _).set 0 v) (H.xb.set_ 0 v)
theorem OL.set1 (H : OL w wx A n c a B m d h x y z) (v : Value) : OL w (wx.setCell ⟨w.heap.size + 3, 1, none⟩ v) A n c a B m d h x v z := H.sto ((Sto.refl _ _).set 1 v) (H.xb.set_ 1 v)
theorem OL.set2 (H : OL w wx A n c a B m d h x y z) (v : Value) : OL w (wx.setCell ⟨w.heap.size + 3, 2, none⟩ v) A n c a B m d h x y v := H.sto ((Sto.refl _ _).set 2 v) (H.xb.set_ 2 v)
theorem OL.cells (H : OL w wx A n c a B m d h x y z) : (wx.cell? ⟨w.heap.size, 0, none⟩ = some (.slice A n c) ∧ wx.cell? ⟨w.heap.size, 1, none⟩ = some (.int .i64 a.per) ∧ wx.cell? ⟨w.heap.size, 2, none⟩ = some (.int .i64 a.inc)) ∧
 (wx.cell? ⟨w.heap.size + 1, 0, none⟩ = some (.slice B m d) ∧ wx.cell? ⟨w.heap.size + 1, 1, none⟩ = some (.int .i64 h.per) ∧ wx.cell? ⟨w.heap.size + 1, 2, none⟩ = some (.int .i64 h.inc)) ∧
 (wx.cell? ⟨w.heap.size + 3, 0, none⟩ = some x ∧ wx.cell? ⟨w.heap.size + 3, 1, none⟩ = some y ∧ wx.cell? ⟨w.heap.size + 3, 2, none⟩ = some z) ∧
 (wx.frozen? ⟨w.heap.size + 3, 0, none⟩ = false ∧ wx.frozen? ⟨w.heap.size + 3, 1, none⟩ = false ∧ wx.frozen? ⟨w.heap.size + 3, 2, none⟩ = false) ∧ w.heap.size + 3 < wx.heap.size :=
 ⟨H.pa.c3.1, H.pb.c3.1, H.xb.c3.1, H.xb.c3.2.1, H.xb.lt⟩
end
theorem gain_gnl {g : Cv} {l : Nat} : (((l : Int).toNat / g.per.toNat : Nat) : Int) * g.inc = gnl g l := by unfold gnl; rw [Int.toNat_natCast]
theorem outline_any (A B : Option Addr) (n m c d : Nat) (a h : Cv) (w : World) (hA : Ints w w.heap.size A n a.vals) (hB : Ints w w.heap.size B m h.vals) (ha : a.Ok) (hh : h.Ok) :
 Calls Tryz.prog 111 #[.agg #[.slice A n c, .int .i64 a.per, .int .i64 a.inc], .agg #[.slice B m d, .int .i64 h.per, .int .i64 h.inc]] w (RetOl a h w) := by
 have a1' := ha.n1; have a2' := ha.n2; have a3' := ha.p1; have a4' := ha.p2; have a5' := ha.pn; have a6' := ha.i1; have a7' := ha.i2
 have b1' := hh.n1; have b2' := hh.n2; have b3' := hh.p1; have b4' := hh.p2; have b5' := hh.pn; have b6' := hh.i1; have b7' := hh.i2
 have hln : a.vals.length = n := hA.1
 have hlm : h.vals.length = m := hB.1
 rw [hln] at a1' a2' a5'
 rw [hlm] at b1' b2' b5'
 have E := hi_ (show OL w ((((w.alloc (.cells #[.slice A n c, .int .i64 a.per, .int .i64 a.inc] 26)).alloc (.cells #[.slice B m d, .int .i64 h.per, .int .i64 h.inc] 26)).alloc (.cells #[.int .i64 0, .int .i64 0, .bool false] 171)).alloc (.cells #[.int .i64 1, .int .i64 0, .bool false] 171)) A n c a B m d h (.int .i64 1) (.int .i64 0) (.bool false) from by
  have p0 := (((Blk.new w 26 #[.slice A n c, .int .i64 a.per, .int .i64 a.inc]).alloc (.cells #[.slice B m d, .int .i64 h.per, .int .i64 h.inc] 26)).alloc (.cells #[.int .i64 0, .int .i64 0, .bool false] 171)).alloc (.cells #[.int .i64 1, .int .i64 0, .bool false] 171)
  have p1 := ((Blk.new (w.alloc (.cells #[.slice A n c, .int .i64 a.per, .int .i64 a.inc] 26)) 26 #[.slice B m d, .int .i64 h.per, .int .i64 h.inc]).alloc (.cells #[.int .i64 0, .int .i64 0, .bool false] 171)).alloc (.cells #[.int .i64 1, .int .i64 0, .bool false] 171)
  have p2 := (Blk.new ((w.alloc (.cells #[.slice A n c, .int .i64 a.per, .int .i64 a.inc] 26)).alloc (.cells #[.slice B m d, .int .i64 h.per, .int .i64 h.inc] 26)) 171 #[.int .i64 0, .int .i64 0, .bool false]).alloc (.cells #[.int .i64 1, .int .i64 0, .bool false] 171)
  have p3 := Blk.new (((w.alloc (.cells #[.slice A n c, .int .i64 a.per, .int .i64 a.inc] 26)).alloc (.cells #[.slice B m d, .int .i64 h.per, .int .i64 h.inc] 26)).alloc (.cells #[.int .i64 0, .int .i64 0, .bool false] 171)) 171 #[.int .i64 1, .int .i64 0, .bool false]
  simp only [World.size_alloc] at p1 p2 p3
  have bw := bthen (bthen (bthen (balloc w (.cells #[.slice A n c, .int .i64 a.per, .int .i64 a.inc] 26)) (balloc _ (.cells #[.slice B m d, .int .i64 h.per, .int .i64 h.inc] 26))) (balloc _ (.cells #[.int .i64 0, .int .i64 0, .bool false] 171))) (balloc _ (.cells #[.int .i64 1, .int .i64 0, .bool false] 171))
  exact ⟨p0, p1, p2, p3, hA.below bw, hB.below bw, bw⟩)
 obtain ⟨l, hl⟩ : ∃ l : Nat, l = clL a h := ⟨_, rfl⟩
 obtain ⟨F, hF⟩ : ∃ F : Nat, F = clF a h := ⟨_, rfl⟩
 have hl9 : l ≤ 14400 := by
  rw [hl]
  unfold clL
  split
  ·have := comm_facts (p := a.per.toNat) (q := h.per.toNat) (by omega) (by omega)
   have : a.per.toNat * h.per.toNat ≤ 120 * 120 := Nat.mul_le_mul (by omega) (by omega)
   omega
  ·omega
 have HA := hi_ ha; have HH := hi_ hh; have HL := hi_ hl; have HF := hi_ hF; have HLN := hi_ hln; have HLM := hi_ hlm
 have R := hi_ (show ∀ e w', (∃ tl : Bool, (tl = true ↔ ClT a h) ∧ e = .returned (.tuple #[.agg #[.int .i64 (l : Nat), .int .i64 (F : Nat), .bool tl], .bool (decide (((l : Nat) : Int) ≤ 120))]) ∧ Below w.heap.size w w') → RetOl a h w e w' from fun e w' k => by
  rw [hl, hF] at k; exact k)
 clear hA hB ha hh hl hF hln hlm
 obtain ⟨fh, hfh⟩ : ∃ z, z = (nth h.vals (m - 1) != inf) := ⟨_, rfl⟩
 have FH := hi_ (show fh = true ↔ h.Fin from by
  rw [hfh, bne_iff_ne, ← HLM.out]; exact ⟨fun k => ⟨HH.out, k⟩, fun k => k.2⟩)
 have HFH := hi_ hfh
 obtain ⟨fa, hfa⟩ : ∃ z, z = (nth a.vals (n - 1) != inf) := ⟨_, rfl⟩
 have FA := hi_ (show fa = true ↔ a.Fin from by
  rw [hfa, bne_iff_ne, ← HLN.out]; exact ⟨fun k => ⟨HA.out, k⟩, fun k => k.2⟩)
 have HFA := hi_ hfa
 clear hfh hfa
 go_enter Tryz.func111, Tryz.ntmps111
 go_upto_region 2 with fail
 generalize hwe : ((((w.alloc (.cells #[.slice A n c, .int .i64 a.per, .int .i64 a.inc] 26)).alloc (.cells #[.slice B m d, .int .i64 h.per, .int .i64 h.inc] 26)).alloc (.cells #[.int .i64 0, .int .i64 0, .bool false] 171)).alloc (.cells #[.int .i64 1, .int .i64 0, .bool false] 171)) = we at *
 clear hwe
 obtain ⟨⟨a0, a1, a2⟩, ⟨b0, b1, b2⟩, ⟨x0, x1, x2⟩, ⟨z0, z1, z2⟩, hlx⟩ := E.out.cells
 go_wp2_with fail
 refine (finite_any B m d h.per h.inc h.vals _ (by exact E.out.jb) (by omega) (by omega)).mono ?_
 rw [← HFH.out]
 rintro e w1 ⟨rfl, hb⟩
 replace E := hi_ (E.out.below hb)
 clear hb
 try clear hY
 clear a0 a1 a2 b0 b1 b2 x0 x1 x2 z0 z1 z2 hlx
 obtain ⟨⟨a0, a1, a2⟩, ⟨b0, b1, b2⟩, ⟨x0, x1, x2⟩, ⟨z0, z1, z2⟩, hlx⟩ := E.out.cells
 go_upto_if 9 with fail
 go_cut [] (fun wx => ∃ tl : Bool, (tl = true ↔ ClT a h) ∧ OL w wx A n c a B m d h (.int .i64 (l : Nat)) (.int .i64 0) (.bool tl))
 case first =>
  cases hfv : fh
  case false =>
   have nf : ¬ h.Fin := fun k => by have := FH.out.2 k; rw [hfv] at this; cases this
   have l1 : l = 1 := by rw [HL.out]; unfold clL; rw [if_neg nf]
   subst l1
   go_wp2_with fail
   go_meet
   exact ⟨false, ⟨fun k => Bool.noConfusion k, fun k => absurd k.2.1 nf⟩, E.out⟩
  case true =>
   have HFin := hi_ (FH.out.1 hfv)
   have HLC := hi_ (show l = comm a.per.toNat h.per.toNat from by rw [HL.out]; unfold clL; rw [if_pos HFin.out])
   go_wp2_with fail
   refine (common2_any a.per h.per _ (by omega) (by omega) (by omega) (by omega)).mono ?_
   rw [← HLC.out]
   rintro e w2 ⟨rfl, hb⟩
   replace E := hi_ (E.out.below hb)
   clear hb
   try clear hY
   clear a0 a1 a2 b0 b1 b2 x0 x1 x2 z0 z1 z2 hlx
   obtain ⟨⟨a0, a1, a2⟩, ⟨b0, b1, b2⟩, ⟨x0, x1, x2⟩, ⟨z0, z1, z2⟩, hlx⟩ := E.out.cells
   go_upto_region 4 with fail
   replace E := hi_ (E.out.set0 (.int .i64 (l : Int)))
   clear a0 a1 a2 b0 b1 b2 x0 x1 x2 z0 z1 z2 hlx
   generalize hws : w2.setCell ⟨w.heap.size + 3, 0, none⟩ (.int .i64 (l : Int)) = w3 at *
   clear hws
   replace E := hi_ (OL.drew E.out)
   obtain ⟨⟨a0, a1, a2⟩, ⟨b0, b1, b2⟩, ⟨x0, x1, x2⟩, ⟨z0, z1, z2⟩, hlx⟩ := E.out.cells
   refine wp_region_held_drew (S := (fun w' => w'.cell? ⟨w.heap.size, 0, none⟩ = some (.slice A n c) ∧ w'.cell? ⟨w.heap.size, 1, none⟩ = some (.int .i64 a.per) ∧ w'.cell? ⟨w.heap.size, 2, none⟩ = some (.int .i64 a.inc) ∧ w'.cell? ⟨w.heap.size + 1, 0, none⟩ = some (.slice B m d) ∧ w'.cell? ⟨w.heap.size + 1, 1, none⟩ = some (.int .i64 h.per) ∧ w'.cell? ⟨w.heap.size + 1, 2, none⟩ = some (.int .i64 h.inc) ∧ w'.cell? ⟨w.heap.size + 3, 0, none⟩ = some (.int .i64 (l : Int)))) (by kernel_rfl) (by exact ⟨a0, a1, a2, b0, b1, b2, x0⟩) (fun hY => ?_)
   generalize hwd : w3.drew = wd at *
   clear hwd
   obtain ⟨ga, hga⟩ : ∃ z, z = gnl a l := ⟨_, rfl⟩
   obtain ⟨gh, hgh⟩ : ∃ z, z = gnl h l := ⟨_, rfl⟩
   have HGA := hi_ hga; have HGH := hi_ hgh
   clear hga hgh
   refine tk1 0 ?_
   refine rdy2 1 (fun K hK => ?_)
   go_simp
   refine (finite_any A n c a.per a.inc a.vals _ (by exact E.out.ja) (by omega) (by omega)).mono ?_
   rw [← HFA.out]
   rintro e w4 ⟨rfl, hb⟩
   replace E := hi_ (E.out.below hb)
   clear hb
   try clear hY
   clear a0 a1 a2 b0 b1 b2 x0 x1 x2 z0 z1 z2 hlx
   obtain ⟨⟨a0, a1, a2⟩, ⟨b0, b1, b2⟩, ⟨x0, x1, x2⟩, ⟨z0, z1, z2⟩, hlx⟩ := E.out.cells
   refine bkS hK (by exact ⟨a0, a1, a2, b0, b1, b2, x0⟩) (fun hY => ?_)
   cases hav : fa
   case false =>
    have nf : ¬ a.Fin := fun k => by have := FA.out.2 k; rw [hav] at this; cases this
    have NF' := hi_ nf
    clear nf
    refine tkO [2, 3, 4, 5, 6, 7, 8, 9, 10, 11, 12, 13] ?_; refine tkI ?_; (iterate 9 refine tkJ ?_); (iterate 2 refine tkI ?_); refine tkX ?_
    refine rdy2 14 (fun K hK => ?_)
    go_simp
    replace E := hi_ (E.out.set2 (.bool false))
    clear a0 a1 a2 b0 b1 b2 x0 x1 x2 z0 z1 z2 hlx
    generalize hws : w4.setCell ⟨w.heap.size + 3, 2, none⟩ (.bool false) = w5 at *
    clear hws hY
    obtain ⟨⟨a0, a1, a2⟩, ⟨b0, b1, b2⟩, ⟨x0, x1, x2⟩, ⟨z0, z1, z2⟩, hlx⟩ := E.out.cells
    refine bkS hK (by exact ⟨a0, a1, a2, b0, b1, b2, x0⟩) (fun hY => ?_)
    refine dnH ?_
    go_wp2_with fail
    go_meet
    exact ⟨false, ⟨fun k => Bool.noConfusion k, fun k => absurd k.1 NF'.out⟩, E.out⟩
   case true =>
    have HAF := hi_ (FA.out.1 hav)
    refine tkO [2, 3, 4, 5, 7, 8, 9] ?_; (iterate 7 refine tkI ?_); refine tkX ?_
    refine rdy2 6 (fun K hK => ?_)
    go_simp
    refine (gain_any A n c a.per a.inc (l : Int) _ (by omega) (by omega) (by omega) (by omega) (by omega)).mono ?_
    rw [gain_gnl, ← HGA.out]
    rintro e w5 ⟨rfl, hb⟩
    replace E := hi_ (E.out.below hb)
    clear hb
    try clear hY
    clear a0 a1 a2 b0 b1 b2 x0 x1 x2 z0 z1 z2 hlx
    obtain ⟨⟨a0, a1, a2⟩, ⟨b0, b1, b2⟩, ⟨x0, x1, x2⟩, ⟨z0, z1, z2⟩, hlx⟩ := E.out.cells
    refine bkS hK (by exact ⟨a0, a1, a2, b0, b1, b2, x0⟩) (fun hY => ?_)
    refine rdy2 10 (fun K hK => ?_)
    go_simp
    refine (gain_any B m d h.per h.inc (l : Int) _ (by omega) (by omega) (by omega) (by omega) (by omega)).mono ?_
    rw [gain_gnl, ← HGH.out]
    rintro e w6 ⟨rfl, hb⟩
    replace E := hi_ (E.out.below hb)
    clear hb
    try clear hY
    clear a0 a1 a2 b0 b1 b2 x0 x1 x2 z0 z1 z2 hlx
    obtain ⟨⟨a0, a1, a2⟩, ⟨b0, b1, b2⟩, ⟨x0, x1, x2⟩, ⟨z0, z1, z2⟩, hlx⟩ := E.out.cells
    refine bkS hK (by exact ⟨a0, a1, a2, b0, b1, b2, x0⟩) (fun hY => ?_)
    obtain ⟨ge, hge⟩ : ∃ z : Bool, z = (ga == gh) := ⟨_, rfl⟩
    have GE := hi_ (show ge = true ↔ ClT a h from by
     rw [hge, beq_iff_eq, HGA.out, HGH.out, HL.out]
     exact ⟨fun k => ⟨HAF.out, HFin.out, k⟩, fun k => k.2.2⟩)
    have dg : (ga == gh) = ge := hge.symm
    clear hge
    refine tkO [11, 12, 13] ?_; (iterate 3 refine tkI ?_); refine tkX ?_
    clear dg
    refine rdy2 14 (fun K hK => ?_)
    go_simp
    replace E := hi_ (E.out.set2 (.bool ge))
    clear a0 a1 a2 b0 b1 b2 x0 x1 x2 z0 z1 z2 hlx
    generalize hws : w6.setCell ⟨w.heap.size + 3, 2, none⟩ (.bool ge) = w7 at *
    clear hws hY
    obtain ⟨⟨a0, a1, a2⟩, ⟨b0, b1, b2⟩, ⟨x0, x1, x2⟩, ⟨z0, z1, z2⟩, hlx⟩ := E.out.cells
    refine bkS hK (by exact ⟨a0, a1, a2, b0, b1, b2, x0⟩) (fun hY => ?_)
    refine dnH ?_
    go_wp2_with fail
    go_meet
    exact ⟨ge, GE.out, E.out⟩
 case rest =>
  clear E
  clear a0 a1 a2 b0 b1 b2 x0 x1 x2 z0 z1 z2 hlx
  obtain ⟨tl, htl, hE⟩ := hcut
  have E := hi_ hE; have TL := hi_ htl
  clear hE htl
  obtain ⟨T, hT⟩ : ∃ T : Nat, T = 2 * (m - h.per.toNat) := ⟨_, rfl⟩
  obtain ⟨M, hM⟩ : ∃ M : Nat, M = max (n - a.per.toNat) T := ⟨_, rfl⟩
  have hmx : (if (n : Int) - a.per < (T : Int) then (T : Int) else (n : Int) - a.per) = (M : Int) := by rw [hM]; split <;> omega
  have hT9 : T ≤ 800 := by omega
  have hM9 : M ≤ 800 := by omega
  have e1 : IntKind.i64.wrap (2 * ((m : Int) - h.per)) = (T : Int) := by rw [IntWalk.i64_in _ (by omega)]; omega
  have e1' : 2 * ((m : Int) - h.per) = (T : Int) := by omega
  have e1'' : IntKind.i64.wrap (T : Int) = (T : Int) := IntWalk.i64_in _ (by omega)
  obtain ⟨Q, hQ⟩ : ∃ Q : Nat, Q = M + l := ⟨_, rfl⟩
  have hFQ : F = Q + 1 := by
   rw [HF.out]
   unfold clF cst
   rw [HLN.out, HLM.out, ← HL.out, hQ, hM, hT]
  have e2 : IntKind.i64.wrap ((M : Int) + (l : Int)) = (Q : Int) := by rw [IntWalk.i64_in _ (by omega)]; omega
  have e2' : (M : Int) + (l : Int) = (Q : Int) := by omega
  have e2'' : IntKind.i64.wrap (Q : Int) = (Q : Int) := IntWalk.i64_in _ (by omega)
  have e3 : IntKind.i64.wrap ((Q : Int) + 1) = (F : Int) := by rw [IntWalk.i64_in _ (by omega)]; omega
  have e3' : (Q : Int) + 1 = (F : Int) := by omega
  have e3'' : IntKind.i64.wrap (F : Int) = (F : Int) := IntWalk.i64_in _ (by omega)
  clear hT hM hQ hFQ
  go_upto_region 5 with fail
  replace E := hi_ (OL.drew E.out)
  obtain ⟨⟨a0, a1, a2⟩, ⟨b0, b1, b2⟩, ⟨x0, x1, x2⟩, ⟨z0, z1, z2⟩, hlx⟩ := E.out.cells
  refine wp_region_held_drew (S := (fun w' => w'.cell? ⟨w.heap.size, 0, none⟩ = some (.slice A n c) ∧ w'.cell? ⟨w.heap.size, 1, none⟩ = some (.int .i64 a.per) ∧ w'.cell? ⟨w.heap.size, 2, none⟩ = some (.int .i64 a.inc) ∧ w'.cell? ⟨w.heap.size + 1, 0, none⟩ = some (.slice B m d) ∧ w'.cell? ⟨w.heap.size + 1, 1, none⟩ = some (.int .i64 h.per) ∧ w'.cell? ⟨w.heap.size + 1, 2, none⟩ = some (.int .i64 h.inc) ∧ w'.cell? ⟨w.heap.size + 3, 0, none⟩ = some (.int .i64 (l : Int)))) (by kernel_rfl) (by exact ⟨a0, a1, a2, b0, b1, b2, x0⟩) (fun hY => ?_)
  generalize hwd : wc.drew = wd at *
  clear hwd
  refine tkO [0, 2, 6, 7] ?_; (iterate 4 refine tkI ?_); refine tkX ?_
  refine rdy2 1 (fun K hK => ?_)
  go_simp
  refine (start_any A n c a.per a.inc _ (by omega) (by omega) (by omega)).mono ?_
  rintro e w2 ⟨rfl, hb⟩
  replace E := hi_ (E.out.below hb)
  clear hb
  try clear hY
  clear a0 a1 a2 b0 b1 b2 x0 x1 x2 z0 z1 z2 hlx
  obtain ⟨⟨a0, a1, a2⟩, ⟨b0, b1, b2⟩, ⟨x0, x1, x2⟩, ⟨z0, z1, z2⟩, hlx⟩ := E.out.cells
  refine bkS hK (by exact ⟨a0, a1, a2, b0, b1, b2, x0⟩) (fun hY => ?_)
  refine rdy2 3 (fun K hK => ?_)
  go_simp
  refine (start_any B m d h.per h.inc _ (by omega) (by omega) (by omega)).mono ?_
  rintro e w3 ⟨rfl, hb⟩
  replace E := hi_ (E.out.below hb)
  clear hb
  try clear hY
  clear a0 a1 a2 b0 b1 b2 x0 x1 x2 z0 z1 z2 hlx
  obtain ⟨⟨a0, a1, a2⟩, ⟨b0, b1, b2⟩, ⟨x0, x1, x2⟩, ⟨z0, z1, z2⟩, hlx⟩ := E.out.cells
  refine bkS hK (by exact ⟨a0, a1, a2, b0, b1, b2, x0⟩) (fun hY => ?_)
  refine tk1 4 ?_
  refine rdy2 5 (fun K hK => ?_)
  go_simp
  refine bkS hK (by exact ⟨a0, a1, a2, b0, b1, b2, x0⟩) (fun hY => ?_)
  refine tkO [8, 9, 10] ?_; (iterate 3 refine tkI ?_); refine tkX ?_
  clear e1 e1' e1'' e2 e2' e2'' e3 e3' hmx
  refine rdy2 11 (fun K hK => ?_)
  go_simp
  replace E := hi_ (E.out.set1 (.int .i64 (F : Int)))
  clear a0 a1 a2 b0 b1 b2 x0 x1 x2 z0 z1 z2 hlx
  generalize hws : w3.setCell ⟨w.heap.size + 3, 1, none⟩ (.int .i64 (F : Int)) = w4 at *
  clear hws hY
  obtain ⟨⟨a0, a1, a2⟩, ⟨b0, b1, b2⟩, ⟨x0, x1, x2⟩, ⟨z0, z1, z2⟩, hlx⟩ := E.out.cells
  refine bkS hK (by exact ⟨a0, a1, a2, b0, b1, b2, x0⟩) (fun hY => ?_)
  refine dnH ?_
  clear a0 a1 a2 b0 b1 b2 x0 x1 x2 z0 z1 z2 hlx
  go_upto_region 6 with fail
  replace E := hi_ (OL.drew E.out)
  obtain ⟨⟨a0, a1, a2⟩, ⟨b0, b1, b2⟩, ⟨x0, x1, x2⟩, ⟨z0, z1, z2⟩, hlx⟩ := E.out.cells
  obtain ⟨⟨r0, r1, r2⟩, ⟨y0, y1, y2⟩, hlr⟩ := E.out.rb.c3
  refine wp_region_held_drew (S := (fun w' => w'.cell? ⟨w.heap.size + 3, 0, none⟩ = some (.int .i64 (l : Int)) ∧ w'.cell? ⟨w.heap.size + 3, 1, none⟩ = some (.int .i64 (F : Int)) ∧ w'.cell? ⟨w.heap.size + 3, 2, none⟩ = some (.bool tl))) (by kernel_rfl) (by exact ⟨x0, x1, x2⟩) (fun hY => ?_)
  generalize hwd : w4.drew = wd at *
  clear hwd
  refine tkO [0, 1, 2, 3] ?_; (iterate 4 refine tkI ?_); refine tkX ?_
  refine rdy2 4 (fun K hK => ?_)
  go_simp
  have st := Sto.three (w.heap.size + 2) wd (.int .i64 (l : Int)) (.int .i64 (F : Int)) (.bool tl)
  have rb := E.out.rb.store3 (.int .i64 (l : Int)) (.int .i64 (F : Int)) (.bool tl)
  have BW := hi_ (bsto E.out.bw st (by omega))
  have XB := hi_ (E.out.xb.sto st (by omega))
  clear st hY
  clear a0 a1 a2 b0 b1 b2 x0 x1 x2 z0 z1 z2 hlx
  obtain ⟨⟨x0, x1, x2⟩, _, hlx⟩ := XB.out.c3
  refine bkS hK (by exact ⟨x0, x1, x2⟩) (fun hY => ?_)
  refine tk1 5 ?_
  refine dnH ?_
  have q0 := rb.cell 0; have q1 := rb.cell 1; have q2 := rb.cell 2
  simp at q0 q1 q2
  go_wp2_with fail
  refine bodyPost_ret (v := .tuple #[.agg #[.int .i64 (l : Int), .int .i64 (F : Int), .bool tl], .bool (decide ((l : Int) ≤ 120))]) (by simp [results, Tryz.results111, go_sem, rb.cell]) rfl ?_
  exact R.out _ _ ⟨tl, TL.out, rfl, BW.out⟩
end
section
theorem wait_listK (t : Nat) : (List.replicate (t + 2) (0 : Int)).set (t + 1) inf = List.replicate (t + 1) 0 ++ [inf] := by
 refine list_ext (by simp) (fun k hk => ?_)
 simp at hk
 rw [nth_set _ _ _ _ (by simp), nth_append, List.length_replicate]
 by_cases e : k = t + 1
 ·subst e; simp [nth]
 ·rw [if_neg e, if_pos (by omega), nth_replicate, nth_replicate]
theorem waitK_any (t : Nat) (ht : t ≤ 398) (w : World) : Calls Tryz.prog 130 #[.int .i64 t] w (RetK ⟨List.replicate (t + 1) 0 ++ [inf], 1, 0⟩ 0 w) := by
 obtain ⟨i0, hi0, hz0, hz1, hz2⟩ := info_parts info_int
 go_enter Tryz.func130, Tryz.ntmps130
 go_wp2_with (at_make; refine wpList_make_full _ rfl _ _ 22 rfl w.heap.size 3 i0 _ 1 Tryz.underlying22 hi0 hz0 hz1 .i64 .i64 _ _ (t + 2) rfl rfl rfl rfl (by rw [hz2]; omega) (by unfold maxLen; omega) (by simp) ?_; intro w1 own1 grow1; have bw1 : Below w.heap.size w w1 := ((Below.refl _ _).alloc (Nat.le_refl _) _).grown grow1 (by simp) (by simp); have ib1 := IBlk.made own1 (by omega); have rb1 : Blk w1 w.heap.size 26 #[.slice none 0 0, .int .i64 0, .int .i64 0] := (Blk.new w _ _).grown grow1 (by simp); rw [show (w.alloc (.cells #[.slice none 0 0, .int .i64 0, .int .i64 0] 26)).heap.size = w.heap.size + 1 by simp] at ib1; have hsz1 := ib1.lt; have c1 := ib1.cell (t + 1) (by simp); have f1 := ib1.frozen (t + 1); have ib2 := ib1.set_ (t + 1) inf; rw [wait_listK] at ib2; have r0 := rb1.cell 0; have r1 := rb1.cell 1; have r2 := rb1.cell 2; have z0 := rb1.frozen 0; have z1 := rb1.frozen 1; have z2 := rb1.frozen 2; simp at r0 r1 r2; have RB := hi_ rb1; have IB := hi_ ib2; have BW := hi_ bw1; clear own1 grow1 hi0 hz0 hz1 hz2 bw1 ib1 ib2 rb1)
 have rb2 := (RB.out.far (p := ⟨w.heap.size + 1, t + 1, none⟩) (by simp) (.int .i64 4611686018427387904)).store3 (.slice (some ⟨w.heap.size + 1, 0, none⟩) (t + 2) (t + 2)) (.int .i64 1) (.int .i64 0)
 have hI := IB.out.ints
 rw [show (List.replicate (t + 1) (0 : Int) ++ [inf]).length = t + 2 by simp] at hI
 exact bodyPost_ret (v := .tuple #[.agg #[.slice (some ⟨w.heap.size + 1, 0, none⟩) (t + 2) (t + 2), .int .i64 1, .int .i64 0], .int .i64 0]) (by simp [results, Tryz.results130, go_sem, rb2.cell]) rfl
  (retK_store3' (Nat.le_refl _) (B := w.heap.size + 1) (fun b off s h => by cases h; omega) (Nat.le_refl _) (by omega) (f := ⟨List.replicate (t + 1) 0 ++ [inf], 1, 0⟩) hI (BW.out.setCell (by simp) _))
theorem wait0_any (w : World) : Calls Tryz.prog 130 #[.int .i64 0] w (RetK ⟨[0, inf], 1, 0⟩ 0 w) := waitK_any 0 (by omega) w
end
section
theorem wpList_make_one {w : World} {ops : Array Oper} {rest : List Oper} {o : Oper} {a : Act} {Q : Exit → Act → World → Prop} (hg : o.guard = none) (l c : Operand) (t : TypeId) (hop : o.op = Op.makeSlice t l c) (base : Nat) (ht : Tryz.prog.underlying t = some (.slice 3))
 (n : Nat) (hl : a.eval l = .int .i64 1) (hc : a.eval c = .int .i64 n) (hn : 1 ≤ n) (hn2 : n ≤ 100000) (hb : base ≤ w.heap.size)
 (hK : ∀ w', Own w' base (.slice (some ⟨w.heap.size, 0, none⟩) 1 n) 1 [0] → w.grownBy w' none → wpList Tryz.prog ops Q rest (a.put o.dst (.slice (some ⟨w.heap.size, 0, none⟩) 1 n)) w') : wpList Tryz.prog ops Q (o :: rest) a w := by
 obtain ⟨i0, hi0, hz0, hz1, hz2⟩ := info_parts info_int
 refine wpList_plain hg fun K hK' => ?_
 have hr := run_make (P := Tryz.prog) w t 3 i0 _ ht hi0 hz0 .i64 .i64 1 n (by omega) (by omega) (by rw [hz2]; omega) (by omega)
 rw [hz1, Int.toNat_natCast, Nat.mul_one] at hr
 unfold Oper.wp
 simp [execOp, hop, hl, hc, hr, Result.andThen]
 refine hK' _ _ (hK _ ⟨rfl, .inr ⟨w.heap.size, n, _, rfl, hb, heap_alloc_new w _, hn, by unfold maxLen; omega, by rw [size_madeCells, Nat.mul_one], ?_⟩⟩ (World.grownBy_alloc w _ none))
 obtain ⟨m, rfl⟩ : ∃ m, n = m + 1 := ⟨n - 1, by omega⟩
 have e : (madeCells (Value.int .i64 0).cells (m + 1)).toList = (List.replicate (m + 1) 0).map (Value.int .i64) := by simp [madeCells, Value.cells, Nat.mod_one, List.eq_replicate_iff]
 rw [e]
 rfl
theorem tab_snoc' (h : Nat → Int) (k : Nat) : tab h 0 k ++ [h k] = tab h 0 (k + 1) := by
 refine list_ext (by simp [tab_length]) (fun q hq => ?_)
 simp [tab_length] at hq
 rw [nth_append, tab_length, tab_nth _ _ _ _ hq, Nat.zero_add]
 by_cases hqj : q < k
 ·rw [if_pos hqj, tab_nth _ _ _ _ hqj, Nat.zero_add]
 ·rw [if_neg hqj, show q = k by omega, Nat.sub_self]; rfl
structure CE (w wx : World) (A : Option Addr) (n c : Nat) (f : Cv) : Prop where
 fb : Blk wx w.heap.size 26 #[.slice A n c, .int .i64 f.per, .int .i64 f.inc]
 rb : Blk wx (w.heap.size + 1) 26 #[.slice none 0 0, .int .i64 0, .int .i64 0]
 ib : Ints wx w.heap.size A n f.vals
 bw : Below w.heap.size w wx
section
variable {w wx wy : World} {A : Option Addr} {n c : Nat} {f : Cv}
theorem CE.new (hA : Ints w w.heap.size A n f.vals) : CE w ((w.alloc (.cells #[.slice A n c, .int .i64 f.per, .int .i64 f.inc] 26)).alloc (.cells #[.slice none 0 0, .int .i64 0, .int .i64 0] 26)) A n c f :=
 ⟨(Blk.new w _ _).alloc _, by simpa using Blk.new (w.alloc (.cells #[.slice A n c, .int .i64 f.per, .int .i64 f.inc] 26)) 26 #[.slice none 0 0, .int .i64 0, .int .i64 0], (hA.alloc (Nat.le_refl _) _).alloc (by simp) _, bthen (balloc _ _) (balloc _ _)⟩
theorem CE.ja (h : CE w wx A n c f) : Ints wx wx.heap.size A n f.vals := h.ib.more h.bw.size
theorem CE.upto (h : CE w wx A n c f) {B : Nat} (hb : Below B wx wy) (hB : w.heap.size + 2 ≤ B) : CE w wy A n c f :=
 ⟨h.fb.below hb (by omega), h.rb.below hb (by omega), h.ib.below (hb.mono (by omega)), h.bw.trans (hb.mono (by omega))⟩
theorem CE.below (h : CE w wx A n c f) (hb : Below wx.heap.size wx wy) : CE w wy A n c f := h.upto hb h.rb.lt
theorem CE.alloc (h : CE w wx A n c f) (o : Obj) : CE w (wx.alloc o) A n c f := h.below (balloc wx o)
theorem CE.drew (h : CE w wx A n c f) : CE w wx.drew A n c f := ⟨h.fb, h.rb, h.ib, Below.drew h.bw⟩
theorem CE.sto (h : CE w wx A n c f) {g : Nat} (s : Sto g wx wy) (hg : w.heap.size + 2 ≤ g) : CE w wy A n c f :=
 ⟨h.fb.sto s (by omega), h.rb.sto s (by omega), h.ib.keep (fun q hq => World.cell?_of_block (a := q) (s.block q.block (by omega))), bsto h.bw s (by omega)⟩
end
theorem cand1_any (V n c t : Nat) (A : Option Addr) (zs : List Int) (w : World) (hV : Blk w V 22 #[.slice A n c]) (hI : Ints w w.heap.size A n zs) (ht : t < n) (hn : n ≤ 100000) :
 Calls Tryz.prog 131 (#[.int .i64 t] ++ #[.pointer (some ⟨V, 0, none⟩)]) w fun e w' => e = .returned (.int .i64 (nth zs t)) ∧ Below w.heap.size w w' := by
 show Calls _ _ #[.int .i64 t, .pointer (some ⟨V, 0, none⟩)] _ _
 obtain ⟨b, off, hAe, hbl, hcell⟩ := hI.2 (by omega)
 subst hAe
 have q0 := hV.cell 0
 have s0 := hcell t ht
 simp at q0
 have hlq := hV.lt
 have hti : (t : Int) < n := by omega
 clear hV hI hcell
 go_enter Tryz.func131, Tryz.ntmps131
 go_wp2_with fail
 go_ret
 exact ⟨rfl, Below.refl _ _⟩
theorem cand_any (A : Option Addr) (n c : Nat) (f : Cv) (w : World) (hA : Ints w w.heap.size A n f.vals) (hf : f.Ok) :
 Calls Tryz.prog 110 #[.agg #[.slice A n c, .int .i64 f.per, .int .i64 f.inc]] w (RetSK (CandS (clo f.at)) w) := by
 have a1 := hf.n1; have a2 := hf.n2; have a3 := hf.p1; have a4 := hf.p2; have a5 := hf.pn; have a6 := hf.i1; have a7 := hf.i2
 have hln : f.vals.length = n := hA.1
 rw [hln] at a1 a2 a5
 have E := hi_ (CE.new (c := c) hA)
 obtain ⟨vf, hvf⟩ : ∃ z, z = f.at 1 := ⟨_, rfl⟩
 have HV1 := hi_ hvf; have HF := hi_ hf; have HLN := hi_ hln
 clear hA hvf hf hln
 go_enter Tryz.func110, Tryz.ntmps110
 go_wp2_with fail
 go_step3
 go_upto_region 1 with fail
 generalize hwe : (w.alloc (.cells #[.slice A n c, .int .i64 f.per, .int .i64 f.inc] 26)).alloc (.cells #[.slice none 0 0, .int .i64 0, .int .i64 0] 26) = we at *
 clear hwe
 obtain ⟨⟨f0, f1, f2⟩, _, hlf⟩ := E.out.fb.c3
 go_wp2_with fail
 refine (at_any A n c f.per f.inc 1 f.vals _ (by exact E.out.ja) (by omega) (by omega) (by omega) (by omega) (by omega) HF.out.nn (by omega) (by omega)).mono ?_
 rw [show (1 : Int).toNat = 1 from rfl, ← HV1.out]
 rintro e w1 ⟨rfl, hb⟩
 replace E := hi_ (E.out.below hb)
 clear hb
 clear f0 f1 f2 hlf
 by_cases hvi : vf = inf
 ·have d1 : (vf == 4611686018427387904) = true := by unfold inf at hvi; simpa using hvi
  have F := hi_ (show CandS (clo f.at) ⟨[0, inf], 1, 0⟩ 0 from cand_wait fun t ht => (((nfa_at HF.out (by omega)).1 (by rw [← HV1.out]; exact hvi)).later HF.out ht).2)
  clear hvi
  go_wp2_with fail
  refine (wait0_any _).mono ?_
  rintro e w2 ⟨A5, n5, c5, hc5, rfl, hI5, hA5, hb⟩
  have hsz := E.out.rb.lt
  replace E := hi_ (E.out.below hb)
  have HI5 := hi_ hI5; have HA5 := hi_ hA5
  clear hI5 hA5 hb
  obtain ⟨⟨r0, r1, r2⟩, ⟨y0, y1, y2⟩, hlr⟩ := E.out.rb.c3
  go_wp2_with fail
  have rb := E.out.rb.store3 (.slice A5 n5 c5) (.int .i64 1) (.int .i64 0)
  try rw [Exit.noGoto_ret]
  refine bodyPost_ret (v := .tuple #[.agg #[.slice A5 n5 c5, .int .i64 1, .int .i64 0], .int .i64 0]) (by simp [results, Tryz.results110, go_sem, rb.cell]) rfl ?_
  exact ⟨⟨[0, inf], 1, 0⟩, 0, F.out, retK_store3' hc5 HA5.out (by omega) (by exact hsz) HI5.out E.out.bw⟩
 ·have d1 : (vf == 4611686018427387904) = false := by unfold inf at hvi; simpa using hvi
  have f1' : f.at 1 ≤ 2147483648 := by
   have hF : f.Fin ∨ nth f.vals (f.vals.length - 1) = inf := HF.out.fin_or
   rw [HV1.out] at hvi
   rcases hF with hF | hF
   ·have := hF.at_bd 1; omega
   ·by_cases k : 1 < f.vals.length
    ·have := (okv_iff _).1 (HF.out.v 1 k)
     rw [← Cv.at_lt k] at this
     have := this.resolve_left hvi
     omega
    ·exact absurd (HF.out.at_inf hF (by omega)) hvi
  have HN0 := hi_ (HF.out.up0.nn)
  have HF1 := hi_ f1'
  have CNE := hi_ (show ∀ t, t < 640 → clo f.at t ≠ inf from fun t ht => clo_ne HN0.out HF1.out (by omega))
  have CBD := hi_ (show ∀ t, t ≤ 640 → 0 ≤ clo f.at t ∧ clo f.at t ≤ 1374389534720 from fun t ht => ⟨clo_nn HN0.out t, by have := clo_bd HN0.out HF1.out t (by omega); omega⟩)
  have CUP := hi_ (show ∀ t, t + 1 < 640 → clo f.at t ≤ clo f.at (t + 1) from fun t ht => clo_mono HF.out.up0 HF1.out t (by omega))
  have CPL := hi_ (show ∀ s u, s ≤ 640 → u ≤ 640 → pl (clo f.at s) (clo f.at u) = clo f.at s + clo f.at u from fun s u hs hu => clo_pl HN0.out HF1.out (by omega) (by omega))
  have HCI := hi_ (show ∀ t, 1 ≤ t → CloI f.at (clo f.at) t t (clo f.at t) from fun t ht => clo_I f.at ht)
  have HC0 := hi_ (clo_zero f.at)
  have CB4 := hi_ (show clo f.at 400 ≤ 1000000000000 from by have := clo_bd HN0.out HF1.out 400 (by omega); omega)
  clear hvi f1'
  obtain ⟨C, hC⟩ : ∃ C, C = clo f.at := ⟨_, rfl⟩
  rw [← hC] at CNE CBD CUP CPL HCI HC0 CB4
  have HCC := hi_ hC
  clear hC
  have hP1 := E.out.rb.lt
  go_upto_region 4 with (refine wpList_make_one rfl _ _ 22 rfl (w.heap.size + 2) Tryz.underlying22 640 rfl rfl (by omega) (by omega) (by omega) ?_; intro w5 own1 grow1)
  have hb5 : Below w1.heap.size w1 w5 := (Below.refl _ _).grown grow1 (by simp) (by simp)
  obtain ⟨V, hV⟩ : ∃ V, V = w5.heap.size := ⟨_, rfl⟩
  have hV2 : w.heap.size + 2 ≤ V := by have := hb5.size; omega
  have VB := hi_ (Blk.new w5 22 #[.slice (some ⟨w1.heap.size, 0, none⟩) 1 640])
  have OWN := hi_ (own1.alloc (.cells #[.slice (some ⟨w1.heap.size, 0, none⟩) 1 640] 22))
  replace E := hi_ ((E.out.below hb5).alloc (.cells #[.slice (some ⟨w1.heap.size, 0, none⟩) 1 640] 22))
  clear own1 grow1 hb5
  rw [← hV] at VB ⊢
  generalize hwe : w5.alloc (.cells #[.slice (some ⟨w1.heap.size, 0, none⟩) 1 640] 22) = w6 at *
  clear hwe hV
  generalize (some (Addr.mk w1.heap.size 0 none)) = Am0 at *
  go_wp2_with fail
  go_loopg [5, 6, 7] 639 (fun gg s5 s6 s7 wx => ∃ (t : Nat) (Am : Option Addr) (cm : Nat), t + gg = 640 ∧ 1 ≤ t ∧ s5 = .int .i64 t ∧ Blk wx V 22 #[.slice Am t cm] ∧ Own wx (w.heap.size + 2) (.slice Am t cm) t (tab C 0 t) ∧ CE w wx A n c f)
  case atStart => exact ⟨1, Am0, 640, rfl, by omega, rfl, VB.out, by
   have : tab C 0 1 = [0] := by
    refine list_ext rfl fun k hk => ?_
    have hk' : k < 1 := hk
    rw [tab_nth _ _ _ _ hk', Nat.zero_add, show k = 0 by omega, HC0.out]
    rfl
   rw [this]
   exact OWN.out, E.out⟩
  case round =>
   clear VB OWN E
   obtain ⟨t, Am, cm, htg, ht1, rfl, hVB, hOWN, hE⟩ := hrel
   have VB := hi_ hVB; have OWN := hi_ hOWN; have E := hi_ hE
   clear hVB hOWN hE
   obtain ⟨go, hgo⟩ : ∃ go : Nat, go = gk := ⟨_, rfl⟩
   subst hgo
   by_cases ht : t < 640
   ·have hti : (t : Int) < 640 := by omega
    obtain ⟨⟨f0, f1, f2⟩, _, hlf⟩ := E.out.fb.c3
    obtain ⟨x, hx⟩ : ∃ x, x = f.at t := ⟨_, rfl⟩
    have HX := hi_ hx
    clear hx
    go_wp2_with fail
    refine (at_any A n c f.per f.inc (t : Int) f.vals _ (by exact E.out.ja) (by omega) (by omega) (by omega) (by omega) (by omega) HF.out.nn (by omega) (by omega)).mono ?_
    rw [Int.toNat_natCast, ← HX.out]
    rintro e w7 ⟨rfl, hb⟩
    have hvlt := VB.out.lt
    replace E := hi_ (E.out.below hb)
    replace VB := hi_ (VB.out.below hb VB.out.lt)
    replace OWN := hi_ (OWN.out.below hb (fun g hg => (OWN.out.blk_lt g hg).2))
    clear hb hvlt
    clear f0 f1 f2 hlf
    obtain ⟨H, hH⟩ : ∃ H : Nat, H = t / 2 := ⟨_, rfl⟩
    have e1 : (t : Int).tdiv 2 = (H : Int) := by rw [Int.tdiv_eq_ediv_of_nonneg (by omega)]; omega
    have e1' : (t : Int) / 2 = (H : Int) := by omega
    have hH9 : H ≤ 320 := by omega
    have HH := hi_ hH
    clear hH
    have hx0 := hi_ (HF.out.at_bd (n := t) (by omega))
    go_wp2_with fail
    go_loopg [6, 7] H (fun gg s6 s7 wx => ∃ (s : Nat) (v : Int), s + gg = H + 1 ∧ 1 ≤ s ∧ s6 = .int .i64 v ∧ s7 = .int .i64 s ∧ CloI f.at C t s v ∧ Blk wx V 22 #[.slice Am t cm] ∧ Own wx (w.heap.size + 2) (.slice Am t cm) t (tab C 0 t) ∧ CE w wx A n c f)
    case atStart => exact ⟨1, x, by omega, by omega, rfl, rfl, by rw [HX.out]; exact CloI.start, VB.out, OWN.out, E.out⟩
    case round =>
     clear VB OWN E
     obtain ⟨s, v, hsg, hs1, rfl, rfl, hI, hVB, hOWN, hE⟩ := hrel
     have VB := hi_ hVB; have OWN := hi_ hOWN; have E := hi_ hE; have HI := hi_ hI
     clear hVB hOWN hE hI
     by_cases hs : s ≤ H
     ·have hsi : (s : Int) ≤ (H : Int) := by omega
      obtain ⟨z, hz⟩ : ∃ z : Nat, z = t - s := ⟨_, rfl⟩
      have hst : s < t := by have := HH.out; omega
      have hzt : z < t := by omega
      have ez1 : IntKind.i64.wrap ((t : Int) - (s : Int)) = (z : Int) := by rw [IntWalk.i64_in _ (by omega)]; omega
      have ez2 : (t : Int) - (s : Int) = (z : Int) := by omega
      have ez3 : IntKind.i64.wrap (z : Int) = (z : Int) := IntWalk.i64_in _ (by omega)
      have hsti : (s : Int) < (t : Int) := by omega
      have hzti : (z : Int) < (t : Int) := by omega
      have hz0 : 0 ≤ (z : Int) := by omega
      obtain ⟨A9, c9, hsl, hc9, hI9, hf9⟩ := OWN.out.ints
      injection hsl with q1 q2 q3
      subst q1 q3
      obtain ⟨b, off, hAe, hbl, hcell⟩ := hI9.2 (by omega)
      subst hAe
      have cs := hcell s hst; have cz := hcell z hzt
      rw [tab_nth _ _ _ _ hst, Nat.zero_add] at cs
      rw [tab_nth _ _ _ _ hzt, Nat.zero_add] at cz
      obtain ⟨x1, hx1⟩ : ∃ x1, x1 = C s := ⟨_, rfl⟩
      obtain ⟨x2, hx2⟩ : ∃ x2, x2 = C z := ⟨_, rfl⟩
      rw [← hx1] at cs
      rw [← hx2] at cz
      have b1 := CBD.out s (by omega); have b2 := CBD.out z (by omega)
      rw [← hx1] at b1
      rw [← hx2] at b2
      obtain ⟨y, hy⟩ : ∃ y, y = x1 + x2 := ⟨_, rfl⟩
      have ey1 : IntKind.i64.wrap (x1 + x2) = y := by rw [← hy]; exact IntWalk.i64_in _ (by omega)
      have ey2 : x1 + x2 = y := hy.symm
      have ey3 : IntKind.i64.wrap y = y := IntWalk.i64_in _ (by omega)
      obtain ⟨m', hm'⟩ : ∃ m', m' = min v y := ⟨_, rfl⟩
      have hmn : (if y < v then y else v) = m' := by rw [hm']; split <;> omega
      have NI := hi_ (show CloI f.at C t (s + 1) m' from by
       have := HI.out.step hs1
       rw [CPL.out s (t - s) (by omega) (by omega), ← hz, ← hx1, ← hx2, ← hy, ← hm'] at this
       exact this)
      clear hx1 hx2 hy hm' hz hcell hI9 hf9 hc9 q2
      have CS := hi_ cs; have CZ := hi_ cz
      obtain ⟨v0, hlv⟩ : _ ∧ _ := ⟨VB.out.cell 0, VB.out.lt⟩
      simp at v0
      go_upto_region 11 with fail
      replace E := hi_ (CE.drew E.out); replace VB := hi_ (Blk.drew VB.out); replace OWN := hi_ (show Own wr.drew (w.heap.size + 2) (.slice (some ⟨b, off, none⟩) t cm) t (tab C 0 t) from World.ownsRow.drew OWN.out)
      refine wp_region_held_drew (S := (fun w' => w'.cell? ⟨V, 0, none⟩ = some (.slice (some ⟨b, off, none⟩) t cm) ∧ w'.cell? ⟨b, off + s, none⟩ = some (.int .i64 x1) ∧ w'.cell? ⟨b, off + z, none⟩ = some (.int .i64 x2))) (by kernel_rfl) (by exact ⟨v0, cs, cz⟩) (fun hY => ?_)
      clear v0 hlv
      clear cs cz
      have cs : wr.drew.cell? ⟨b, off + s, none⟩ = some (.int .i64 x1) := CS.out
      have cz : wr.drew.cell? ⟨b, off + z, none⟩ = some (.int .i64 x2) := CZ.out
      have hbl : b < wr.drew.heap.size := hbl
      clear CS CZ
      generalize hwd : wr.drew = wd at *
      clear hwd
      obtain ⟨v0, hlv⟩ : _ ∧ _ := ⟨VB.out.cell 0, VB.out.lt⟩
      simp at v0
      refine tkO [0, 1, 2, 3, 4, 5, 6, 7, 8, 9, 10, 11] ?_; (iterate 12 refine tkI ?_); refine tkX ?_
      clear ez1 ez2 ez3 ey1 ey2 ey3
      refine rdy2 12 (fun K hK => ?_)
      go_simp
      refine bkS hK (by exact ⟨v0, cs, cz⟩) (fun hY => ?_)
      refine tk1 13 ?_
      refine dnH ?_
      clear hY hmn
      clear v0 hlv
      go_wp2_with fail
      go_roundg (gk - 1)
      case measure => omega
      case rel => exact ⟨s + 1, m', by omega, by omega, rfl, by go_num, NI.out, VB.out, OWN.out, E.out⟩
     ·have hsi : ¬ (s : Int) ≤ (H : Int) := by omega
      have hsH : s = t / 2 + 1 := by have := HH.out; omega
      have HZ := hi_ (show v = C t from (HI.out.half ht1 hsH).unique (HCI.out t ht1))
      clear hsH HI
      have hvn : 0 ≤ v ∧ v ≤ 1374389534720 := by rw [HZ.out]; exact CBD.out t (by omega)
      have hP := VB.out.lt
      obtain ⟨v0, hlv⟩ : _ ∧ _ := ⟨VB.out.cell 0, VB.out.lt⟩
      simp at v0
      go_wp2_with (at_builtin; refine wpList_app rfl _ _ 22 rfl Tryz.underlying22 (w.heap.size + 2) (.slice Am t cm) t (tab C 0 t) rfl (OWN.out.alloc (.cells ([v].map (Value.int .i64)).toArray 3)) _ (some ⟨wr.heap.size, 0, none⟩) 1 1 [v] rfl (ints_litC wr [v]) (by omega) (by simp; omega) ?_; intro v2 w2 own2 grow2 at2; have hb2 : Below (w.heap.size + 2) wr w2 := ((balloc wr (.cells ([v].map (Value.int .i64)).toArray 3)).mono (by omega)).trans (Below.grown (Below.refl _ _) grow2 (by simp; omega) (fun g hg => (OWN.out.blk_lt g hg).1)); have vb2 := (VB.out.alloc (.cells ([v].map (Value.int .i64)).toArray 3)).grown grow2 (fun e => OWN.out.ne_blk VB.out (by decide) e.symm); obtain ⟨A9, c9, rfl, hc9, hI9, hf9⟩ := own2.ints; rw [HZ.out, tab_snoc'] at own2; have OWN := hi_ own2; replace E := hi_ (E.out.upto hb2 (by omega)); replace VB := hi_ vb2; clear own2 grow2 at2 hb2 hI9 hf9 hc9 vb2; clear v0 hlv; (obtain ⟨v0, hlv⟩ : _ ∧ _ := ⟨VB.out.cell 0, VB.out.lt⟩); simp at v0; have z0 := VB.out.frozen 0)
      go_roundg (go - 1)
      case measure => omega
      case rel => exact ⟨t + 1, A9, c9, by omega, by omega, by go_num, VB.out.set_ 0 _, OWN.out.far (p := ⟨V, 0, none⟩) (fun e => OWN.out.ne_blk VB.out (by decide) e) _, E.out.sto ((Sto.refl V _).set 0 _) hV2⟩
   ·have ht6 : t = 640 := by omega
    subst ht6
    clear ht htg ht1
    go_wp2_with fail
    go_step3
    go_wp2_with fail
    go_loopg [8, 9, 10, 11] 120 (fun gg s8 s9 s10 s11 wx => ∃ p : Nat, p + gg = 121 ∧ 1 ≤ p ∧ s8 = .int .i64 p ∧ Hid (∀ q, 1 ≤ q → q < p → ¬ PerW C (400 - q) q (C 400 - C (400 - q))) ∧ Blk wx V 22 #[.slice Am 640 cm] ∧ Own wx (w.heap.size + 2) (.slice Am 640 cm) 640 (tab C 0 640) ∧ CE w wx A n c f)
    case atStart => exact ⟨1, rfl, by omega, rfl, hi_ (fun q h1 h2 => by omega), VB.out, OWN.out, E.out⟩
    case round =>
     clear VB OWN E
     obtain ⟨p, hpg, hp1, rfl, hno, hVB, hOWN, hE⟩ := hrel
     have VB := hi_ hVB; have OWN := hi_ hOWN; have E := hi_ hE
     clear hVB hOWN hE
     obtain ⟨go, hgo⟩ : ∃ go : Nat, go = gk := ⟨_, rfl⟩
     subst hgo
     by_cases hp : p ≤ 120
     ·have hpi : (p : Int) ≤ 120 := by omega
      obtain ⟨fr, hfr⟩ : ∃ fr : Nat, fr = 400 - p := ⟨_, rfl⟩
      have ef1 : IntKind.i64.wrap (400 - (p : Int)) = (fr : Int) := by rw [IntWalk.i64_in _ (by omega)]; omega
      have ef2 : 400 - (p : Int) = (fr : Int) := by omega
      have hfr9 : 280 ≤ fr ∧ fr < 400 := by omega
      have hfri : (fr : Int) < 640 := by omega
      have hfr0 : 0 ≤ (fr : Int) := by omega
      have HFR := hi_ hfr
      clear hfr
      obtain ⟨A9, c9, hsl, hc9, hI9, hf9⟩ := OWN.out.ints
      injection hsl with q1 q2 q3
      subst q1 q3
      obtain ⟨b, off, hAe, hbl, hcell⟩ := hI9.2 (by omega)
      subst hAe
      have cs := hcell 400 (by omega); have cz := hcell fr (by omega)
      rw [tab_nth _ _ _ _ (show 400 < 640 by omega), Nat.zero_add] at cs
      rw [tab_nth _ _ _ _ (show fr < 640 by omega), Nat.zero_add] at cz
      obtain ⟨x1, hx1⟩ : ∃ x1, x1 = C 400 := ⟨_, rfl⟩
      obtain ⟨x2, hx2⟩ : ∃ x2, x2 = C fr := ⟨_, rfl⟩
      rw [← hx1] at cs
      rw [← hx2] at cz
      have b1 := CBD.out 400 (by omega); have b2 := CBD.out fr (by omega)
      have mono : ∀ u v, u ≤ v → v < 640 → C u ≤ C v := fun u v huv hv => by
       induction v with
       | zero => rw [show u = 0 by omega]; exact Int.le_refl _
       | succ v ih =>
         by_cases e : u = v + 1
         ·rw [e]; exact Int.le_refl _
         ·exact Int.le_trans (ih (by omega) (by omega)) (CUP.out v hv)
      have hle := mono fr 400 (by omega) (by omega)
      rw [← hx1] at b1 hle
      rw [← hx2] at b2 hle
      obtain ⟨i, hi⟩ : ∃ i, i = x1 - x2 := ⟨_, rfl⟩
      have hi0 : 0 ≤ i := by omega
      have h4 := CB4.out
      rw [← hx1] at h4
      have hi9 : i ≤ 1099511627776 := by omega
      clear h4
      have ei1 : IntKind.i64.wrap (x1 - x2) = i := by rw [← hi]; exact IntWalk.i64_in _ (by omega)
      have ei2 : x1 - x2 = i := hi.symm
      have ei3 : IntKind.i64.wrap i = i := IntWalk.i64_in _ (by omega)
      have HI := hi_ (show i = C 400 - C (400 - p) from by rw [hi, hx1, hx2, HFR.out])
      clear hx1 hx2 hi hle mono hI9 hf9 hc9 q2
      have CS := hi_ cs; have CZ := hi_ cz; have HCE := hi_ hcell
      clear hcell
      obtain ⟨v0, hlv⟩ : _ ∧ _ := ⟨VB.out.cell 0, VB.out.lt⟩
      simp at v0
      go_upto_region 17 with fail
      replace E := hi_ (CE.drew E.out); replace VB := hi_ (Blk.drew VB.out); replace OWN := hi_ (show Own wr.drew (w.heap.size + 2) (.slice (some ⟨b, off, none⟩) 640 cm) 640 (tab C 0 640) from World.ownsRow.drew OWN.out)
      refine wp_region_held_drew (S := (fun w' => w'.cell? ⟨V, 0, none⟩ = some (.slice (some ⟨b, off, none⟩) 640 cm) ∧ w'.cell? ⟨b, off + 400, none⟩ = some (.int .i64 x1) ∧ w'.cell? ⟨b, off + fr, none⟩ = some (.int .i64 x2))) (by kernel_rfl) (by exact ⟨v0, cs, cz⟩) (fun hY => ?_)
      clear v0 hlv
      clear cs cz
      have cs : wr.drew.cell? ⟨b, off + 400, none⟩ = some (.int .i64 x1) := CS.out
      have cz : wr.drew.cell? ⟨b, off + fr, none⟩ = some (.int .i64 x2) := CZ.out
      replace HCE : Hid (∀ j, j < 640 → wr.drew.cell? ⟨b, off + j, none⟩ = some (.int .i64 (nth (tab C 0 640) j))) := HCE
      have hbl : b < wr.drew.heap.size := hbl
      clear CS CZ
      generalize hwd : wr.drew = wd at *
      clear hwd
      obtain ⟨v0, hlv⟩ : _ ∧ _ := ⟨VB.out.cell 0, VB.out.lt⟩
      simp at v0
      refine tkO [0, 1, 2, 3, 4, 5, 6, 7, 8] ?_; (iterate 9 refine tkI ?_); refine tkX ?_
      refine dnH ?_
      clear hY ei1 ei2 ei3 ef1 ef2 cs cz
      clear v0 hlv
      clear b1 b2
      go_wp2_with fail
      clear HCE hbl
      go_loopg [11] 240 (fun gg s11 wx => ∃ t : Nat, t + gg = fr + 240 ∧ fr ≤ t ∧ s11 = .int .i64 t ∧ Hid (∀ u, fr ≤ u → u < t → C (u + p) = C u + i) ∧ Blk wx V 22 #[.slice (some ⟨b, off, none⟩) 640 cm] ∧ Own wx (w.heap.size + 2) (.slice (some ⟨b, off, none⟩) 640 cm) 640 (tab C 0 640) ∧ CE w wx A n c f)
      case atStart => exact ⟨fr, rfl, Nat.le_refl _, rfl, hi_ (fun u h1 h2 => by omega), VB.out, OWN.out, E.out⟩
      case round =>
       clear VB OWN E
       obtain ⟨t, htg, htf, rfl, hgood, hVB, hOWN, hE⟩ := hrel
       have VB := hi_ hVB; have OWN := hi_ hOWN; have E := hi_ hE
       clear hVB hOWN hE
       obtain ⟨y, hy⟩ : ∃ y : Nat, y = t + p := ⟨_, rfl⟩
       have hy9 : y ≤ 640 := by have := HFR.out; omega
       have ey1 : IntKind.i64.wrap ((t : Int) + (p : Int)) = (y : Int) := by rw [IntWalk.i64_in _ (by omega)]; omega
       have ey2 : (t : Int) + (p : Int) = (y : Int) := by omega
       have ey3 : IntKind.i64.wrap (y : Int) = (y : Int) := IntWalk.i64_in _ (by omega)
       by_cases hyt : y < 640
       ·have hyi : (y : Int) < 640 := by omega
        have hti : (t : Int) < 640 := by omega
        have hy0 : 0 ≤ (y : Int) := by omega
        have ht0 : 0 ≤ (t : Int) := by omega
        obtain ⟨A9, c9, hsl, hc9, hI9, hf9⟩ := OWN.out.ints
        obtain ⟨b', off', hAe, hbl, hcell⟩ := hI9.2 (by omega)
        injection hsl with q1 q2 q3
        rw [← q1] at hAe
        injection hAe with hAe
        injection hAe with q4 q5
        subst q4 q5
        have cs := hcell y hyt; have cz := hcell t (by omega)
        rw [tab_nth _ _ _ _ hyt, Nat.zero_add] at cs
        rw [tab_nth _ _ _ _ (show t < 640 by omega), Nat.zero_add] at cz
        obtain ⟨x1, hx1⟩ : ∃ x1, x1 = C y := ⟨_, rfl⟩
        obtain ⟨x2, hx2⟩ : ∃ x2, x2 = C t := ⟨_, rfl⟩
        rw [← hx1] at cs
        rw [← hx2] at cz
        have b1 := CBD.out y (by omega); have b2 := CBD.out t (by omega)
        rw [← hx1] at b1
        rw [← hx2] at b2
        obtain ⟨x3, hx3⟩ : ∃ x3, x3 = x2 + i := ⟨_, rfl⟩
        have ei1 : IntKind.i64.wrap (x2 + i) = x3 := by rw [← hx3]; exact IntWalk.i64_in _ (by omega)
        have ei2 : x2 + i = x3 := hx3.symm
        have ei3 : IntKind.i64.wrap x3 = x3 := IntWalk.i64_in _ (by omega)
        have FT := hi_ (show x1 = x3 ↔ C (t + p) = C t + i from by rw [hx1, hx3, hx2, hy])
        have hgp : t < fr + 240 := by have := HFR.out; omega
        have HTY := hi_ (show t + p < 640 from by omega)
        clear hx1 hx2 hx3 hcell hI9 hf9 hc9 q1 q2 q3 hy
        have CS := hi_ cs; have CZ := hi_ cz
        obtain ⟨v0, hlv⟩ : _ ∧ _ := ⟨VB.out.cell 0, VB.out.lt⟩
        simp at v0
        go_upto_region 21 with fail
        replace E := hi_ (CE.drew E.out); replace VB := hi_ (Blk.drew VB.out); replace OWN := hi_ (show Own wr.drew (w.heap.size + 2) (.slice (some ⟨b, off, none⟩) 640 cm) 640 (tab C 0 640) from World.ownsRow.drew OWN.out)
        refine wp_region_held_drew (S := (fun w' => w'.cell? ⟨V, 0, none⟩ = some (.slice (some ⟨b, off, none⟩) 640 cm) ∧ w'.cell? ⟨b, off + y, none⟩ = some (.int .i64 x1) ∧ w'.cell? ⟨b, off + t, none⟩ = some (.int .i64 x2))) (by kernel_rfl) (by exact ⟨v0, cs, cz⟩) (fun hY => ?_)
        clear v0 hlv
        clear cs cz
        have cs : wr.drew.cell? ⟨b, off + y, none⟩ = some (.int .i64 x1) := CS.out
        have cz : wr.drew.cell? ⟨b, off + t, none⟩ = some (.int .i64 x2) := CZ.out
        have hbl : b < wr.drew.heap.size := hbl
        clear CS CZ
        generalize hwd : wr.drew = wd at *
        clear hwd
        obtain ⟨v0, hlv⟩ : _ ∧ _ := ⟨VB.out.cell 0, VB.out.lt⟩
        simp at v0
        by_cases hxx : x1 = x3
        ·have d3 : (x1 != x3) = false := by simpa using hxx
         have GD := hi_ (FT.out.1 hxx)
         clear hxx
         refine tkO [0, 1, 2, 3, 4, 5, 6, 7, 8, 9, 10, 11, 12] ?_; (iterate 13 refine tkI ?_); refine tkX ?_
         refine dnH ?_
         clear hY
         clear v0 hlv
         clear ey1 ey2 ey3 ei1 ei2 ei3
         go_wp2_with fail
         go_roundg (gk - 1)
         case measure => omega
         case rel => exact ⟨t + 1, by omega, by omega, by go_num, hi_ (fun u h1 h2 => by
          by_cases e : u = t
          ·subst e; exact GD.out
          ·exact hgood.out u h1 (by omega)), VB.out, OWN.out, E.out⟩
        ·have d3 : (x1 != x3) = true := by simpa using hxx
         have BD := hi_ (show ¬ C (t + p) = C t + i from fun k => hxx (FT.out.2 k))
         clear hxx
         refine tkO [0, 1, 2, 3, 4, 5, 6, 7, 8, 9, 10, 11, 12] ?_; (iterate 13 refine tkI ?_); refine tkX ?_
         refine dnH ?_
         clear hY
         clear v0 hlv
         clear ey1 ey2 ey3 ei1 ei2 ei3
         go_wp2_with fail
         go_roundg (go - 1)
         case measure => omega
         case rel => exact ⟨p + 1, by omega, by omega, by go_num, hi_ (fun q h1 h2 => by
          by_cases e : q = p
          ·subst e
           intro k
           rw [← HI.out] at k
           exact BD.out (k t (by rw [← HFR.out]; exact htf) HTY.out)
          ·exact hno.out q h1 (by omega)), VB.out, OWN.out, E.out⟩
       ·have hyi : ¬ (y : Int) < 640 := by omega
        have W := hi_ (show PerW C (400 - p) p i from fun u h1 h2 => hgood.out u (by rw [HFR.out]; exact h1) (by have := HFR.out; omega))
        clear hgood hy
        obtain ⟨X, hX⟩ : ∃ X : Cv, X = ⟨tab C 0 400, p, i⟩ := ⟨_, rfl⟩
        have XA := hi_ (show ∀ u, u < 400 → X.at u = C u from fun u hu => by
         rw [hX, Cv.at_lt (by show u < (tab C 0 400).length; rw [tab_length]; exact hu)]
         show nth (tab C 0 400) u = _
         rw [tab_nth _ _ _ _ hu, Nat.zero_add])
        have HXX := hi_ hX
        clear hX
        obtain ⟨A9, c9, hsl, hc9, hI9, hf9⟩ := OWN.out.ints
        injection hsl with q1 q2 q3
        subst q1
        have IN := hi_ hI9
        clear hI9 hf9 hc9 q2 q3
        go_wp2_with fail
        refine (buildK_any 131 #[.pointer (some ⟨V, 0, none⟩)] (fr : Int) (p : Int) i X.at _ (by omega) (by omega) (by omega) (by omega) hi0 hi9 (fun k hk => by
         have h4 : k < 400 := by have := HFR.out; omega
         rw [XA.out k h4]
         have := CBD.out k (by omega)
         omega) (by exact hi_ (fun k w9 hk hb => by
         have h4 : k < 400 := by have := HFR.out; omega
         have := cand1_any V 640 cm k _ (tab C 0 640) w9 (VB.out.below hb VB.out.lt) (IN.out.ext hb) (by omega) (by omega)
         rw [tab_nth _ _ _ _ (show k < 640 by omega), Nat.zero_add, ← XA.out k h4] at this
         exact this)) (fun x w => by kernel_rfl)).mono ?_
        rintro e w7 ⟨r, er, hB, A5, n5, c5, hc5, rfl, hI5, hA5, hb⟩
        have F := hi_ (show CandS (clo f.at) r er from by
         rw [← HCC.out]
         rw [Int.toNat_natCast, Int.toNat_natCast, HFR.out, HXX.out] at hB
         exact cand_yes hp1 hp CNE.out (by rw [HC0.out]; exact Int.le_refl _) CUP.out W.out hB)
        have hsz := E.out.rb.lt
        replace E := hi_ (E.out.below hb)
        have HI5 := hi_ hI5; have HA5 := hi_ hA5
        clear hI5 hA5 hb hB ey1 ey2 ey3
        obtain ⟨⟨r0, r1, r2⟩, ⟨y0, y1, y2⟩, hlr⟩ := E.out.rb.c3
        go_wp2_with fail
        have rb := E.out.rb.store3 (.slice A5 n5 c5) (.int .i64 r.per) (.int .i64 r.inc)
        try rw [Exit.noGoto_ret]
        refine bodyPost_ret (v := .tuple #[.agg #[.slice A5 n5 c5, .int .i64 r.per, .int .i64 r.inc], .int .i64 er]) (by simp [results, Tryz.results110, go_sem, rb.cell]) rfl ?_
        exact ⟨r, er, F.out, retK_store3' hc5 HA5.out (by omega) (by exact hsz) HI5.out E.out.bw⟩
     ·have hpi : ¬ (p : Int) ≤ 120 := by omega
      have F := hi_ (show CandS (clo f.at) Cv.none 3 from by rw [← HCC.out]; exact cand_no CNE.out fun q h1 h2 => hno.out q h1 (by omega))
      clear hno
      obtain ⟨⟨r0, r1, r2⟩, ⟨y0, y1, y2⟩, hlr⟩ := E.out.rb.c3
      go_wp2_with fail
      have rb := E.out.rb.store3 (.slice none 0 0) (.int .i64 0) (.int .i64 0)
      try rw [Exit.noGoto_ret]
      refine bodyPost_ret (v := .tuple #[.agg #[.slice none 0 0, .int .i64 0, .int .i64 0], .int .i64 3]) (by simp [results, Tryz.results110, go_sem, rb.cell]) rfl ?_
      exact ⟨Cv.none, 3, F.out, none, 0, 0, Nat.le_refl _, rfl, ⟨rfl, fun h => by omega⟩, (fun b off s h => by cases h), bst3 E.out.bw (by omega) _ _ _⟩
end
end Go.Proofs.YtaejfleahamapaaGreat
