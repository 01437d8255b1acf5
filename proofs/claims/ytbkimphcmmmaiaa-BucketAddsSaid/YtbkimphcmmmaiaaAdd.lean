/- closure.Subadditive. -/
import Derived.Test.YtbkimphcmmmaiaaTab
import Derived.Test.YtbkimphcmmmaiaaWPlus
import Derived.Test.YtbkimphcmmmaiaaCurve2
import Derived.Test.YtbkimphcmmmaiaaPwKit
import Derived.Test.YtbkimphcmmmaiaaEnvL
import Derived.Deep.LoopGhost
import Derived.BigQuiet
namespace Go.Proofs.Ytbkimphcmmmaiaa
open Go.RowKit
set_option linter.unusedVariables false
set_option maxHeartbeats 1000000 in
theorem add_any (A : Option Addr) (n c : Nat) (f : Cv) (w : World) (hA : Ints w w.heap.size A n f.vals) (ok : f.Ok) (H : ∀ s u, s < 400 → u < 400 → f.at (s + u) ≤ pl (f.at s) (f.at u)) :
    Calls Try.prog 71 #[.agg #[.slice A n c, .int .i64 f.per, .int .i64 f.inc]] w fun e w' => e = .returned (.bool true) ∧ Below w.heap.size w w' := by
  have hlm : f.vals.length = n := hA.1
  have n1 := ok.n1; have n2 := ok.n2
  rw [hlm] at n1 n2
  obtain ⟨N, hN⟩ : ∃ N : Nat, N = 2 * n := ⟨_, rfl⟩
  have e1 : IntKind.i64.wrap (2 * (n : Int)) = (N : Int) := by rw [IntWalk.i64_in _ (by omega)]; omega
  have e2 : 2 * (n : Int) = (N : Int) := by omega
  have HN := Lib.hid hN
  have OK := Lib.hid ok; have HH := Lib.hid H
  have FB := Lib.hid (Blk.new w 31 #[.slice A n c, .int .i64 f.per, .int .i64 f.inc])
  have BW := Lib.hid (balloc w (.cells #[.slice A n c, .int .i64 f.per, .int .i64 f.inc] 31))
  have IA := Lib.hid (hA.alloc' (.cells #[.slice A n c, .int .i64 f.per, .int .i64 f.inc] 31))
  clear hA ok H hlm hN
  go_enter Try.func71, Try.ntmps71
  go_upto_region 1 with fail
  generalize hwe : w.alloc (.cells #[.slice A n c, .int .i64 f.per, .int .i64 f.inc] 31) = we at *
  clear hwe
  obtain ⟨⟨x0, x1, x2⟩, ⟨y0, y1, y2⟩, hlx⟩ := FB.out.c3
  go_wp2_with fail
  refine (table_any A n c f.per f.inc N f.vals _ (by exact IA.out) (by exact OK.out) (by omega)).mono ?_
  rintro e wv ⟨q, rfl, hT, hq, hb⟩
  have T := Lib.hid hT
  replace BW := Lib.hid (bthen BW.out hb)
  clear hT hq hb x0 x1 x2 y0 y1 y2 hlx FB IA e1 e2
  go_wp2_with fail
  go_loopg [5, 6, 15] n (fun gg s5 s6 s15 wx => ∃ s : Nat, s + gg = n ∧ s15 = .int .i64 s ∧ RowI wx q (tab f.at 0 N) ∧ Below w.heap.size w wx)
  case atStart => exact ⟨0, by omega, rfl, T.out, BW.out⟩
  case round =>
    clear T BW
    obtain ⟨s, hsg, rfl, hT, hbw⟩ := hrel
    have T := Lib.hid hT; have BW := Lib.hid hbw
    clear hT hbw
    obtain ⟨go, hgo⟩ : ∃ go : Nat, go = gk := ⟨_, rfl⟩
    subst hgo
    by_cases hx : s < n
    · have hxi : (s : Int) < n := by omega
      go_wp2_with fail
      go_loopg [6] (n - s) (fun gg s6 wx => ∃ u : Nat, u + gg = n ∧ s ≤ u ∧ s6 = .int .i64 u ∧ RowI wx q (tab f.at 0 N) ∧ Below w.heap.size w wx)
      case atStart => exact ⟨s, by omega, Nat.le_refl _, rfl, T.out, BW.out⟩
      case round =>
        clear T BW
        obtain ⟨u, hug, hsu, rfl, hT, hbw⟩ := hrel
        have T := Lib.hid hT; have BW := Lib.hid hbw
        clear hT hbw
        by_cases hu : u < n
        · have hui : (u : Int) < n := by omega
          obtain ⟨y, hy⟩ : ∃ y : Nat, y = s + u := ⟨_, rfl⟩
          have hyN : y < N := by have := HN.out; omega
          have hsN : s < N := by omega
          have huN : u < N := by omega
          have hyNi : (y : Int) < N := by omega
          have hsNi : (s : Int) < N := by omega
          have huNi : (u : Int) < N := by omega
          have ey1 : IntKind.i64.wrap ((s : Int) + (u : Int)) = (y : Int) := by rw [IntWalk.i64_in _ (by omega)]; omega
          have ey2 : (s : Int) + (u : Int) = (y : Int) := by omega
          have ey3 : IntKind.i64.wrap (y : Int) = (y : Int) := IntWalk.i64_in _ (by omega)
          have hy0 : 0 ≤ (y : Int) := by omega
          have hs0 : 0 ≤ (s : Int) := by omega
          have hu0 : 0 ≤ (u : Int) := by omega
          have t1 := T.out.cell y (by rw [tab_length]; exact hyN)
          have t2 := T.out.cell s (by rw [tab_length]; exact hsN)
          have t3 := T.out.cell u (by rw [tab_length]; exact huN)
          rw [tab_nth _ _ _ _ hyN, Nat.zero_add] at t1
          rw [tab_nth _ _ _ _ hsN, Nat.zero_add] at t2
          rw [tab_nth _ _ _ _ huN, Nat.zero_add] at t3
          have hle := HH.out s u (by omega) (by omega)
          rw [← hy] at hle
          have nx := at_near OK.out (t := s) (by omega)
          have ny := at_near OK.out (t := u) (by omega)
          obtain ⟨av, hav⟩ : ∃ av, av = f.at s := ⟨_, rfl⟩
          obtain ⟨bv, hbv⟩ : ∃ bv, bv = f.at u := ⟨_, rfl⟩
          obtain ⟨cv, hcv⟩ : ∃ cv, cv = f.at y := ⟨_, rfl⟩
          rw [← hav] at t2 nx hle
          rw [← hbv] at t3 ny hle
          rw [← hcv] at t1 hle
          obtain ⟨pv, hpv⟩ : ∃ pv, pv = pl av bv := ⟨_, rfl⟩
          rw [← hpv] at hle
          have HP := Lib.hid hpv; have NX := Lib.hid nx; have NY := Lib.hid ny
          have dt : decide (cv > pv) = false := by simpa using hle
          have dt2 : decide (pv < cv) = false := by simpa using hle
          have hlt := T.out.lt
          clear hpv hav hbv hcv nx ny hy
          go_upto_region 9 with fail
          have T := Lib.hid (RowI.drew T.out); have BW := Lib.hid (Below.drew BW.out)
          refine wp_region_held_drew (S := (fun w' => w'.cell? ⟨q, y, none⟩ = some (.int .i64 cv) ∧ w'.cell? ⟨q, s, none⟩ = some (.int .i64 av) ∧ w'.cell? ⟨q, u, none⟩ = some (.int .i64 bv))) (by kernel_rfl) ⟨t1, t2, t3⟩ (fun hHeld => ?_)
          have t1 : wr.drew.cell? ⟨q, y, none⟩ = some (.int .i64 cv) := t1
          have t2 : wr.drew.cell? ⟨q, s, none⟩ = some (.int .i64 av) := t2
          have t3 : wr.drew.cell? ⟨q, u, none⟩ = some (.int .i64 bv) := t3
          have hlt : q < wr.drew.heap.size := hlt
          generalize hwd : wr.drew = wd at *
          clear hwd
          refine wpAnyH_take (i := 0) (oi := _) (v := ?_) (by simp only [List.getElem?_toArray, List.getElem?_cons_zero]; rfl) (by kernel_rfl) (by kernel_rfl) (by kernel_rfl) (by exact fun _ _ _ h => h) (Or.inl ⟨by rfl, ?_⟩) (by assumption) ?_
          rotate_left 1
          · (intro w hSw; (try dsimp only at hSw); go_simp; try with_reducible rfl)
          all_goals try simp only [Act.put]
          all_goals try simp only [List.setIfInBounds_toArray]
          all_goals try simp only [List.set_cons_succ]
          all_goals try simp only [List.set_cons_zero]
          refine wpAnyH_take (i := 1) (oi := _) (v := ?_) (by simp only [List.getElem?_toArray, List.getElem?_cons_succ, List.getElem?_cons_zero]; rfl) (by kernel_rfl) (by kernel_rfl) (by kernel_rfl) (by exact fun _ _ _ h => h) (Or.inl ⟨by rfl, ?_⟩) (by assumption) ?_
          rotate_left 1
          · (intro w hSw; (try dsimp only at hSw); go_simp; try with_reducible rfl)
          all_goals try simp only [Act.put]
          all_goals try simp only [List.setIfInBounds_toArray]
          all_goals try simp only [List.set_cons_succ]
          all_goals try simp only [List.set_cons_zero]
          refine wpAnyH_take (i := 2) (oi := _) (v := ?_) (by simp only [List.getElem?_toArray, List.getElem?_cons_succ, List.getElem?_cons_zero]; rfl) (by kernel_rfl) (by kernel_rfl) (by kernel_rfl) (by exact fun _ _ _ h => h) (Or.inl ⟨by rfl, ?_⟩) (by assumption) ?_
          rotate_left 1
          · (intro w hSw; (try dsimp only at hSw); go_simp; try with_reducible rfl)
          all_goals try simp only [Act.put]
          all_goals try simp only [List.setIfInBounds_toArray]
          all_goals try simp only [List.set_cons_succ]
          all_goals try simp only [List.set_cons_zero]
          refine wpAnyH_take (i := 3) (oi := _) (v := ?_) (by simp only [List.getElem?_toArray, List.getElem?_cons_succ, List.getElem?_cons_zero]; rfl) (by kernel_rfl) (by kernel_rfl) (by kernel_rfl) (by exact fun _ _ _ h => h) (Or.inl ⟨by rfl, ?_⟩) (by assumption) ?_
          rotate_left 1
          · (intro w hSw; (try dsimp only at hSw); go_simp; try with_reducible rfl)
          all_goals try simp only [Act.put]
          all_goals try simp only [List.setIfInBounds_toArray]
          all_goals try simp only [List.set_cons_succ]
          all_goals try simp only [List.set_cons_zero]
          refine wpAnyH_take (i := 4) (oi := _) (v := ?_) (by simp only [List.getElem?_toArray, List.getElem?_cons_succ, List.getElem?_cons_zero]; rfl) (by kernel_rfl) (by kernel_rfl) (by kernel_rfl) (by exact fun _ _ _ h => h) (Or.inl ⟨by rfl, ?_⟩) (by assumption) ?_
          rotate_left 1
          · (intro w hSw; (try dsimp only at hSw); go_simp; try with_reducible rfl)
          all_goals try simp only [Act.put]
          all_goals try simp only [List.setIfInBounds_toArray]
          all_goals try simp only [List.set_cons_succ]
          all_goals try simp only [List.set_cons_zero]
          refine wpAnyH_take (i := 5) (oi := _) (v := ?_) (by simp only [List.getElem?_toArray, List.getElem?_cons_succ, List.getElem?_cons_zero]; rfl) (by kernel_rfl) (by kernel_rfl) (by kernel_rfl) (by exact fun _ _ _ h => h) (Or.inl ⟨by rfl, ?_⟩) (by assumption) ?_
          rotate_left 1
          · (intro w hSw; (try dsimp only at hSw); go_simp; try with_reducible rfl)
          all_goals try simp only [Act.put]
          all_goals try simp only [List.setIfInBounds_toArray]
          all_goals try simp only [List.set_cons_succ]
          all_goals try simp only [List.set_cons_zero]
          refine wpAnyH_take (i := 6) (oi := _) (v := ?_) (by simp only [List.getElem?_toArray, List.getElem?_cons_succ, List.getElem?_cons_zero]; rfl) (by kernel_rfl) (by kernel_rfl) (by kernel_rfl) (by exact fun _ _ _ h => h) (Or.inl ⟨by rfl, ?_⟩) (by assumption) ?_
          rotate_left 1
          · (intro w hSw; (try dsimp only at hSw); go_simp; try with_reducible rfl)
          all_goals try simp only [Act.put]
          all_goals try simp only [List.setIfInBounds_toArray]
          all_goals try simp only [List.set_cons_succ]
          all_goals try simp only [List.set_cons_zero]
          refine wpAnyH_take (i := 7) (oi := _) (v := ?_) (by simp only [List.getElem?_toArray, List.getElem?_cons_succ, List.getElem?_cons_zero]; rfl) (by kernel_rfl) (by kernel_rfl) (by kernel_rfl) (by exact fun _ _ _ h => h) (Or.inl ⟨by rfl, ?_⟩) (by assumption) ?_
          rotate_left 1
          · (intro w hSw; (try dsimp only at hSw); go_simp; try with_reducible rfl)
          all_goals try simp only [Act.put]
          all_goals try simp only [List.setIfInBounds_toArray]
          all_goals try simp only [List.set_cons_succ]
          all_goals try simp only [List.set_cons_zero]
          refine wpAnyH_take (i := 8) (oi := _) (v := ?_) (by simp only [List.getElem?_toArray, List.getElem?_cons_succ, List.getElem?_cons_zero]; rfl) (by kernel_rfl) (by kernel_rfl) (by kernel_rfl) (by exact fun _ _ _ h => h) (Or.inl ⟨by rfl, ?_⟩) (by assumption) ?_
          rotate_left 1
          · (intro w hSw; (try dsimp only at hSw); go_simp; try with_reducible rfl)
          all_goals try simp only [Act.put]
          all_goals try simp only [List.setIfInBounds_toArray]
          all_goals try simp only [List.set_cons_succ]
          all_goals try simp only [List.set_cons_zero]
          refine wpAnyH_take (i := 9) (oi := _) (v := ?_) (by simp only [List.getElem?_toArray, List.getElem?_cons_succ, List.getElem?_cons_zero]; rfl) (by kernel_rfl) (by kernel_rfl) (by kernel_rfl) (by exact fun _ _ _ h => h) (Or.inl ⟨by rfl, ?_⟩) (by assumption) ?_
          rotate_left 1
          · (intro w hSw; (try dsimp only at hSw); go_simp; try with_reducible rfl)
          all_goals try simp only [Act.put]
          all_goals try simp only [List.setIfInBounds_toArray]
          all_goals try simp only [List.set_cons_succ]
          all_goals try simp only [List.set_cons_zero]
          refine wpAnyH_take (i := 10) (oi := _) (v := ?_) (by simp only [List.getElem?_toArray, List.getElem?_cons_succ, List.getElem?_cons_zero]; rfl) (by kernel_rfl) (by kernel_rfl) (by kernel_rfl) (by exact fun _ _ _ h => h) (Or.inl ⟨by rfl, ?_⟩) (by assumption) ?_
          rotate_left 1
          · (intro w hSw; (try dsimp only at hSw); go_simp; try with_reducible rfl)
          all_goals try simp only [Act.put]
          all_goals try simp only [List.setIfInBounds_toArray]
          all_goals try simp only [List.set_cons_succ]
          all_goals try simp only [List.set_cons_zero]
          refine wpAnyH_take (i := 11) (oi := _) (v := ?_) (by simp only [List.getElem?_toArray, List.getElem?_cons_succ, List.getElem?_cons_zero]; rfl) (by kernel_rfl) (by kernel_rfl) (by kernel_rfl) (by exact fun _ _ _ h => h) (Or.inl ⟨by rfl, ?_⟩) (by assumption) ?_
          rotate_left 1
          · (intro w hSw; (try dsimp only at hSw); go_simp; try with_reducible rfl)
          all_goals try simp only [Act.put]
          all_goals try simp only [List.setIfInBounds_toArray]
          all_goals try simp only [List.set_cons_succ]
          all_goals try simp only [List.set_cons_zero]
          refine wpAnyH_take (i := 12) (oi := _) (v := ?_) (by simp only [List.getElem?_toArray, List.getElem?_cons_succ, List.getElem?_cons_zero]; rfl) (by kernel_rfl) (by kernel_rfl) (by kernel_rfl) (by exact fun _ _ _ h => h) (Or.inl ⟨by rfl, ?_⟩) (by assumption) ?_
          rotate_left 1
          · (intro w hSw; (try dsimp only at hSw); go_simp; try with_reducible rfl)
          all_goals try simp only [Act.put]
          all_goals try simp only [List.setIfInBounds_toArray]
          all_goals try simp only [List.set_cons_succ]
          all_goals try simp only [List.set_cons_zero]
          refine wpAnyH_take (i := 13) (oi := _) (v := ?_) (by simp only [List.getElem?_toArray, List.getElem?_cons_succ, List.getElem?_cons_zero]; rfl) (by kernel_rfl) (by kernel_rfl) (by kernel_rfl) (by exact fun _ _ _ h => h) (Or.inl ⟨by rfl, ?_⟩) (by assumption) ?_
          rotate_left 1
          · (intro w hSw; (try dsimp only at hSw); go_simp; try with_reducible rfl)
          all_goals try simp only [Act.put]
          all_goals try simp only [List.setIfInBounds_toArray]
          all_goals try simp only [List.set_cons_succ]
          all_goals try simp only [List.set_cons_zero]
          clear ey1 ey2 ey3
          refine wpAnyH_ready (rs := [14]) (by kernel_rfl) (by simp) ?_
          refine (AllReadyH.cons (by simp only [List.getElem?_toArray, List.getElem?_cons_succ, List.getElem?_cons_zero]; rfl) (fun K hK => ?_) AllReadyH.nil)
          rw [if_pos (by rfl)]
          go_simp
          refine (plus_any av bv wd (by exact NX.out.1) (by exact NX.out.2) (by exact NY.out.1) (by exact NY.out.2)).mono ?_
          rw [← HP.out]
          rintro e wa ⟨rfl, rfl⟩
          refine hK.out _ _ (by exact ⟨t1, t2, t3⟩) (fun hHeld => ?_)
          clear hK K
          try simp only [Act.put]
          try simp only [List.setIfInBounds_toArray]
          try simp only [List.set_cons_succ]
          try simp only [List.set_cons_zero]
          refine wpAnyH_take (i := 15) (oi := _) (v := ?_) (by simp only [List.getElem?_toArray, List.getElem?_cons_succ, List.getElem?_cons_zero]; rfl) (by kernel_rfl) (by kernel_rfl) (by kernel_rfl) (by exact fun _ _ _ h => h) (Or.inl ⟨by rfl, ?_⟩) (by assumption) ?_
          rotate_left 1
          · (intro w hSw; (try dsimp only at hSw); go_simp; try with_reducible rfl)
          all_goals try simp only [Act.put]
          all_goals try simp only [List.setIfInBounds_toArray]
          all_goals try simp only [List.set_cons_succ]
          all_goals try simp only [List.set_cons_zero]
          refine wpAnyH_done (by kernel_rfl) ?_ _
          clear hHeld
          go_wp2_with fail
          go_roundg (gk - 1)
          case measure => omega
          case rel => exact ⟨u + 1, by omega, by omega, by go_num, T.out, BW.out⟩
        · have hui : ¬ (u : Int) < n := by omega
          go_wp2_with fail
          go_roundg (go - 1)
          case measure => omega
          case rel => exact ⟨s + 1, by omega, by go_num, T.out, BW.out⟩
    · have hxi : ¬ (s : Int) < n := by omega
      go_wp2_with fail
      go_ret
      exact ⟨rfl, BW.out⟩
set_option maxHeartbeats 1000000 in
theorem subadd_any (A : Option Addr) (n c : Nat) (f : Cv) (w : World) (hA : Ints w w.heap.size A n f.vals) (ok : f.Ok) (H : ∀ s u, s < 400 → u < 400 → f.at (s + u) ≤ pl (f.at s) (f.at u)) :
    Calls Try.prog 21 #[.agg #[.slice A n c, .int .i64 f.per, .int .i64 f.inc]] w fun e w' => e = .returned (.tuple #[.bool true, .int .i64 0]) ∧ Below w.heap.size w w' := by
  have hlm : f.vals.length = n := hA.1
  have n2 := ok.n2
  rw [hlm] at n2
  have IA := Lib.hid hA; have OK := Lib.hid ok; have HH := Lib.hid H
  clear hA ok H hlm
  have IA2 := Lib.hid (IA.out.alloc' (.cells #[.slice A n c, .int .i64 f.per, .int .i64 f.inc] 31))
  have BW := Lib.hid (balloc w (.cells #[.slice A n c, .int .i64 f.per, .int .i64 f.inc] 31))
  have FB := Lib.hid (Blk.new w 31 #[.slice A n c, .int .i64 f.per, .int .i64 f.inc])
  go_enter Try.func21, Try.ntmps21
  go_upto_region 1 with fail
  generalize hwe : w.alloc (.cells #[.slice A n c, .int .i64 f.per, .int .i64 f.inc] 31) = we at *
  clear hwe IA
  obtain ⟨⟨x0, x1, x2⟩, ⟨y0, y1, y2⟩, hlx⟩ := FB.out.c3
  go_wp2_with fail
  refine (normal_any A n c f.per f.inc f.vals _ (by exact IA2.out) (by omega)).mono ?_
  rintro e w1 ⟨g, er, hN, A1, n1, c1, rfl, hI, hA, hb⟩
  obtain ⟨rfl, hnf, hgo, _, _⟩ := normal_ok OK.out hN
  have GO := Lib.hid hgo
  have GH := Lib.hid (show ∀ s u, s < 400 → u < 400 → g.at (s + u) ≤ pl (g.at s) (g.at u) from fun s u hs hu => by rw [hnf.at, hnf.at, hnf.at]; exact HH.out s u hs hu)
  have HI := Lib.hid (hI.alloc' (.cells #[.slice A1 n1 c1, .int .i64 g.per, .int .i64 g.inc] 31))
  have BW := Lib.hid (ball (bthen BW.out hb) (.cells #[.slice A1 n1 c1, .int .i64 g.per, .int .i64 g.inc] 31))
  have GB := Lib.hid (Blk.new w1 31 #[.slice A1 n1 c1, .int .i64 g.per, .int .i64 g.inc])
  clear hN hnf hgo hI hA hb x0 x1 x2 y0 y1 y2 hlx FB IA2
  go_upto_region 2 with fail
  generalize hwe : w1.alloc (.cells #[.slice A1 n1 c1, .int .i64 g.per, .int .i64 g.inc] 31) = wf at *
  clear hwe
  generalize w1.heap.size = ZG at *
  obtain ⟨⟨x0, x1, x2⟩, ⟨y0, y1, y2⟩, hlx⟩ := GB.out.c3
  go_wp2_with fail
  refine (add_any A1 n1 c1 g _ (by exact HI.out) GO.out GH.out).mono ?_
  rintro e wq ⟨rfl, hb⟩
  have BW := Lib.hid (bthen BW.out hb)
  clear hb x0 x1 x2 y0 y1 y2 hlx
  go_wp2_with fail
  refine bodyPost_ret (v := .tuple #[.bool true, .int .i64 0]) (by simp [results, Try.results21, go_sem]) rfl ⟨rfl, BW.out⟩
end Go.Proofs.Ytbkimphcmmmaiaa
