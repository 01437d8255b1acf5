/- closure.additive and closure.Subadditive, for all curves. -/
import Derived.Test.YthdibkmjoiipgaaClLaw
import Derived.Test.YthdibkmjoiipgaaCvSame
import Derived.Test.YthdibkmjoiipgaaTab
import Derived.Test.YthdibkmjoiipgaaWPlus
import Derived.Test.YthdibkmjoiipgaaCurve2
import Derived.Test.YthdibkmjoiipgaaPwKit
import Derived.Test.YthdibkmjoiipgaaEnvL
import Derived.Deep.LoopGhost
import Derived.BigQuiet
namespace Go.Proofs.Ythdibkmjoiipgaa
open Go.RowKit
set_option linter.unusedVariables false
/-- no sum of two ticks is too great so far -/
def AddI (f : Cv) (n s u : Nat) : Prop := (∀ x y, x < s → x ≤ y → y < n → f.at (x + y) ≤ pl (f.at x) (f.at y)) ∧ (∀ y, s ≤ y → y < u → f.at (s + y) ≤ pl (f.at s) (f.at y))
theorem AddI.zero (f : Cv) (n : Nat) : AddI f n 0 0 := ⟨fun x y h => by omega, fun y h h2 => by omega⟩
theorem AddI.more {f : Cv} {n s u : Nat} (h : AddI f n s u) (k : f.at (s + u) ≤ pl (f.at s) (f.at u)) : AddI f n s (u + 1) := ⟨h.1, fun y h1 h2 => by
  by_cases e : y = u
  · subst e; exact k
  · exact h.2 y h1 (by omega)⟩
theorem AddI.next {f : Cv} {n s : Nat} (h : AddI f n s n) : AddI f n (s + 1) (s + 1) := ⟨fun x y h1 h2 h3 => by
  by_cases e : x = s
  · subst e; exact h.2 y h2 h3
  · exact h.1 x y (by omega) h2 h3, fun y h1 h2 => by omega⟩
theorem AddI.done {f : Cv} {n u : Nat} (hn : f.vals.length = n) (h : AddI f n n u) : AddB f := fun x y hx hy => by
  rw [hn] at hx hy
  rcases Nat.le_total x y with e | e
  · exact h.1 x y hx e hy
  · rw [Nat.add_comm, pl_symm]; exact h.1 y x hy e hx
set_option maxHeartbeats 1000000 in
theorem addF_any (A : Option Addr) (n c : Nat) (f : Cv) (w : World) (hA : Ints w w.heap.size A n f.vals) (ok : f.Ok)  :
    Calls Try.prog 99 #[.agg #[.slice A n c, .int .i64 f.per, .int .i64 f.inc]] w (RetQ (AddB f) w) := by
  have hlm : f.vals.length = n := hA.1
  have n1 := ok.n1; have n2 := ok.n2
  rw [hlm] at n1 n2
  obtain ⟨N, hN⟩ : ∃ N : Nat, N = 2 * n := ⟨_, rfl⟩
  have e1 : IntKind.i64.wrap (2 * (n : Int)) = (N : Int) := by rw [IntWalk.i64_in _ (by omega)]; omega
  have e2 : 2 * (n : Int) = (N : Int) := by omega
  have HN := Lib.hid hN
  have OK := Lib.hid ok; have HLM := Lib.hid hlm
  have FB := Lib.hid (Blk.new w 46 #[.slice A n c, .int .i64 f.per, .int .i64 f.inc])
  have BW := Lib.hid (balloc w (.cells #[.slice A n c, .int .i64 f.per, .int .i64 f.inc] 46))
  have IA := Lib.hid (hA.alloc' (.cells #[.slice A n c, .int .i64 f.per, .int .i64 f.inc] 46))
  clear hA ok hlm hN
  go_enter Try.func99, Try.ntmps99
  go_upto_region 1 with fail
  generalize hwe : w.alloc (.cells #[.slice A n c, .int .i64 f.per, .int .i64 f.inc] 46) = we at *
  clear hwe
  obtain ⟨⟨x0, x1, x2⟩, ⟨y0, y1, y2⟩, hlx⟩ := FB.out.c3
  go_wp2_with fail
  refine (table_any A n c f.per f.inc N f.vals _ (by exact IA.out) (by exact OK.out) (by omega)).mono ?_
  rintro e wv ⟨q, rfl, hT, hq, hb⟩
  have T := Lib.hid hT
  replace BW := Lib.hid (bthen BW.out hb)
  clear hT hq hb x0 x1 x2 y0 y1 y2 hlx FB IA e1 e2
  go_wp2_with fail
  go_loopg [5, 6, 15] n (fun gg s5 s6 s15 wx => ∃ s : Nat, s + gg = n ∧ s15 = .int .i64 s ∧ RowI wx q (tab f.at 0 N) ∧ AddI f n s s ∧ Below w.heap.size w wx)
  case atStart => exact ⟨0, by omega, rfl, T.out, AddI.zero _ _, BW.out⟩
  case round =>
    clear T BW
    obtain ⟨s, hsg, rfl, hT, hai, hbw⟩ := hrel
    have T := Lib.hid hT; have BW := Lib.hid hbw; have AI := Lib.hid hai
    clear hT hbw hai
    obtain ⟨go, hgo⟩ : ∃ go : Nat, go = gk := ⟨_, rfl⟩
    subst hgo
    by_cases hx : s < n
    · have hxi : (s : Int) < n := by omega
      go_wp2_with fail
      go_loopg [6] (n - s) (fun gg s6 wx => ∃ u : Nat, u + gg = n ∧ s ≤ u ∧ s6 = .int .i64 u ∧ RowI wx q (tab f.at 0 N) ∧ AddI f n s u ∧ Below w.heap.size w wx)
      case atStart => exact ⟨s, by omega, Nat.le_refl _, rfl, T.out, AI.out, BW.out⟩
      case round =>
        clear T BW AI
        obtain ⟨u, hug, hsu, rfl, hT, hai, hbw⟩ := hrel
        have T := Lib.hid hT; have BW := Lib.hid hbw; have AI := Lib.hid hai
        clear hT hbw hai
        by_cases hu : u < n
        · have hui : (u : Int) < n := by omega
          obtain ⟨y, hy⟩ : ∃ y : Nat, y = s + u := ⟨_, rfl⟩
          have hyN : y < N := by have := HN.out; omega
          have hsN : s < N := by omega
          have huN : u < N := by omega
          have hyNi : (y : Int) < N := by omega
          have hsNi : (s : Int) < N := by omega
          have huNi : (u : Int) < N := by omega
          have ey1 : IntKind.i64.wrap ((s : Int) + (u : Int)) = (y : Int) := by rw [IntWalk.i64_in _ (by omega)]; omega
          have ey2 : (s : Int) + (u : Int) = (y : Int) := by omega
          have ey3 : IntKind.i64.wrap (y : Int) = (y : Int) := IntWalk.i64_in _ (by omega)
          have hy0 : 0 ≤ (y : Int) := by omega
          have hs0 : 0 ≤ (s : Int) := by omega
          have hu0 : 0 ≤ (u : Int) := by omega
          have t1 := T.out.cell y (by rw [tab_length]; exact hyN)
          have t2 := T.out.cell s (by rw [tab_length]; exact hsN)
          have t3 := T.out.cell u (by rw [tab_length]; exact huN)
          rw [tab_nth _ _ _ _ hyN, Nat.zero_add] at t1
          rw [tab_nth _ _ _ _ hsN, Nat.zero_add] at t2
          rw [tab_nth _ _ _ _ huN, Nat.zero_add] at t3
          have hlaw := Lib.hid (show f.at y ≤ pl (f.at s) (f.at u) → AddI f n s (u + 1) from fun k => AI.out.more (by rw [← hy]; exact k))
          have hbad := Lib.hid (show ¬ f.at y ≤ pl (f.at s) (f.at u) → ¬ AddB f from fun k h => k (by rw [hy]; exact h s u (by rw [HLM.out]; omega) (by rw [HLM.out]; omega)))
          have nx := at_near OK.out (t := s) (by omega)
          have ny := at_near OK.out (t := u) (by omega)
          obtain ⟨av, hav⟩ : ∃ av, av = f.at s := ⟨_, rfl⟩
          obtain ⟨bv, hbv⟩ : ∃ bv, bv = f.at u := ⟨_, rfl⟩
          obtain ⟨cv, hcv⟩ : ∃ cv, cv = f.at y := ⟨_, rfl⟩
          rw [← hav] at t2 nx hlaw hbad
          rw [← hbv] at t3 ny hlaw hbad
          rw [← hcv] at t1 hlaw hbad
          obtain ⟨pv, hpv⟩ : ∃ pv, pv = pl av bv := ⟨_, rfl⟩
          rw [← hpv] at hlaw hbad
          have HP := Lib.hid hpv; have NX := Lib.hid nx; have NY := Lib.hid ny
          by_cases hle : cv ≤ pv
          · have AI := Lib.hid (hlaw.out hle)
            have dt : decide (cv > pv) = false := by simpa using hle
            have dt2 : decide (pv < cv) = false := by simpa using hle
            clear hlaw hbad hle
            have hlt := T.out.lt
            clear hpv hav hbv hcv nx ny hy
            go_upto_region 9 with fail
            have T := Lib.hid (RowI.drew T.out); have BW := Lib.hid (Below.drew BW.out)
            refine wp_region_held_drew (S := (fun w' => w'.cell? ⟨q, y, none⟩ = some (.int .i64 cv) ∧ w'.cell? ⟨q, s, none⟩ = some (.int .i64 av) ∧ w'.cell? ⟨q, u, none⟩ = some (.int .i64 bv))) (by kernel_rfl) ⟨t1, t2, t3⟩ (fun hHeld => ?_)
            have t1 : wr.drew.cell? ⟨q, y, none⟩ = some (.int .i64 cv) := t1
            have t2 : wr.drew.cell? ⟨q, s, none⟩ = some (.int .i64 av) := t2
            have t3 : wr.drew.cell? ⟨q, u, none⟩ = some (.int .i64 bv) := t3
            have hlt : q < wr.drew.heap.size := hlt
            generalize hwd : wr.drew = wd at *
            clear hwd
            refine wpAnyH_take (i := 0) (oi := _) (v := ?_) (by simp only [List.getElem?_toArray, List.getElem?_cons_zero]; rfl) (by kernel_rfl) (by kernel_rfl) (by kernel_rfl) (by exact fun _ _ _ h => h) (Or.inl ⟨by rfl, ?_⟩) (by assumption) ?_
            rotate_left 1
            · (intro w hSw; (try dsimp only at hSw); go_simp; try with_reducible rfl)
            all_goals try simp only [Act.put]
            all_goals try simp only [List.setIfInBounds_toArray]
            all_goals try simp only [List.set_cons_succ]
            all_goals try simp only [List.set_cons_zero]
            refine wpAnyH_take (i := 1) (oi := _) (v := ?_) (by simp only [List.getElem?_toArray, List.getElem?_cons_succ, List.getElem?_cons_zero]; rfl) (by kernel_rfl) (by kernel_rfl) (by kernel_rfl) (by exact fun _ _ _ h => h) (Or.inl ⟨by rfl, ?_⟩) (by assumption) ?_
            rotate_left 1
            · (intro w hSw; (try dsimp only at hSw); go_simp; try with_reducible rfl)
            all_goals try simp only [Act.put]
            all_goals try simp only [List.setIfInBounds_toArray]
            all_goals try simp only [List.set_cons_succ]
            all_goals try simp only [List.set_cons_zero]
            refine wpAnyH_take (i := 2) (oi := _) (v := ?_) (by simp only [List.getElem?_toArray, List.getElem?_cons_succ, List.getElem?_cons_zero]; rfl) (by kernel_rfl) (by kernel_rfl) (by kernel_rfl) (by exact fun _ _ _ h => h) (Or.inl ⟨by rfl, ?_⟩) (by assumption) ?_
            rotate_left 1
            · (intro w hSw; (try dsimp only at hSw); go_simp; try with_reducible rfl)
            all_goals try simp only [Act.put]
            all_goals try simp only [List.setIfInBounds_toArray]
            all_goals try simp only [List.set_cons_succ]
            all_goals try simp only [List.set_cons_zero]
            refine wpAnyH_take (i := 3) (oi := _) (v := ?_) (by simp only [List.getElem?_toArray, List.getElem?_cons_succ, List.getElem?_cons_zero]; rfl) (by kernel_rfl) (by kernel_rfl) (by kernel_rfl) (by exact fun _ _ _ h => h) (Or.inl ⟨by rfl, ?_⟩) (by assumption) ?_
            rotate_left 1
            · (intro w hSw; (try dsimp only at hSw); go_simp; try with_reducible rfl)
            all_goals try simp only [Act.put]
            all_goals try simp only [List.setIfInBounds_toArray]
            all_goals try simp only [List.set_cons_succ]
            all_goals try simp only [List.set_cons_zero]
            refine wpAnyH_take (i := 4) (oi := _) (v := ?_) (by simp only [List.getElem?_toArray, List.getElem?_cons_succ, List.getElem?_cons_zero]; rfl) (by kernel_rfl) (by kernel_rfl) (by kernel_rfl) (by exact fun _ _ _ h => h) (Or.inl ⟨by rfl, ?_⟩) (by assumption) ?_
            rotate_left 1
            · (intro w hSw; (try dsimp only at hSw); go_simp; try with_reducible rfl)
            all_goals try simp only [Act.put]
            all_goals try simp only [List.setIfInBounds_toArray]
            all_goals try simp only [List.set_cons_succ]
            all_goals try simp only [List.set_cons_zero]
            refine wpAnyH_take (i := 5) (oi := _) (v := ?_) (by simp only [List.getElem?_toArray, List.getElem?_cons_succ, List.getElem?_cons_zero]; rfl) (by kernel_rfl) (by kernel_rfl) (by kernel_rfl) (by exact fun _ _ _ h => h) (Or.inl ⟨by rfl, ?_⟩) (by assumption) ?_
            rotate_left 1
            · (intro w hSw; (try dsimp only at hSw); go_simp; try with_reducible rfl)
            all_goals try simp only [Act.put]
            all_goals try simp only [List.setIfInBounds_toArray]
            all_goals try simp only [List.set_cons_succ]
            all_goals try simp only [List.set_cons_zero]
            refine wpAnyH_take (i := 6) (oi := _) (v := ?_) (by simp only [List.getElem?_toArray, List.getElem?_cons_succ, List.getElem?_cons_zero]; rfl) (by kernel_rfl) (by kernel_rfl) (by kernel_rfl) (by exact fun _ _ _ h => h) (Or.inl ⟨by rfl, ?_⟩) (by assumption) ?_
            rotate_left 1
            · (intro w hSw; (try dsimp only at hSw); go_simp; try with_reducible rfl)
            all_goals try simp only [Act.put]
            all_goals try simp only [List.setIfInBounds_toArray]
            all_goals try simp only [List.set_cons_succ]
            all_goals try simp only [List.set_cons_zero]
            refine wpAnyH_take (i := 7) (oi := _) (v := ?_) (by simp only [List.getElem?_toArray, List.getElem?_cons_succ, List.getElem?_cons_zero]; rfl) (by kernel_rfl) (by kernel_rfl) (by kernel_rfl) (by exact fun _ _ _ h => h) (Or.inl ⟨by rfl, ?_⟩) (by assumption) ?_
            rotate_left 1
            · (intro w hSw; (try dsimp only at hSw); go_simp; try with_reducible rfl)
            all_goals try simp only [Act.put]
            all_goals try simp only [List.setIfInBounds_toArray]
            all_goals try simp only [List.set_cons_succ]
            all_goals try simp only [List.set_cons_zero]
            refine wpAnyH_take (i := 8) (oi := _) (v := ?_) (by simp only [List.getElem?_toArray, List.getElem?_cons_succ, List.getElem?_cons_zero]; rfl) (by kernel_rfl) (by kernel_rfl) (by kernel_rfl) (by exact fun _ _ _ h => h) (Or.inl ⟨by rfl, ?_⟩) (by assumption) ?_
            rotate_left 1
            · (intro w hSw; (try dsimp only at hSw); go_simp; try with_reducible rfl)
            all_goals try simp only [Act.put]
            all_goals try simp only [List.setIfInBounds_toArray]
            all_goals try simp only [List.set_cons_succ]
            all_goals try simp only [List.set_cons_zero]
            refine wpAnyH_take (i := 9) (oi := _) (v := ?_) (by simp only [List.getElem?_toArray, List.getElem?_cons_succ, List.getElem?_cons_zero]; rfl) (by kernel_rfl) (by kernel_rfl) (by kernel_rfl) (by exact fun _ _ _ h => h) (Or.inl ⟨by rfl, ?_⟩) (by assumption) ?_
            rotate_left 1
            · (intro w hSw; (try dsimp only at hSw); go_simp; try with_reducible rfl)
            all_goals try simp only [Act.put]
            all_goals try simp only [List.setIfInBounds_toArray]
            all_goals try simp only [List.set_cons_succ]
            all_goals try simp only [List.set_cons_zero]
            refine wpAnyH_take (i := 10) (oi := _) (v := ?_) (by simp only [List.getElem?_toArray, List.getElem?_cons_succ, List.getElem?_cons_zero]; rfl) (by kernel_rfl) (by kernel_rfl) (by kernel_rfl) (by exact fun _ _ _ h => h) (Or.inl ⟨by rfl, ?_⟩) (by assumption) ?_
            rotate_left 1
            · (intro w hSw; (try dsimp only at hSw); go_simp; try with_reducible rfl)
            all_goals try simp only [Act.put]
            all_goals try simp only [List.setIfInBounds_toArray]
            all_goals try simp only [List.set_cons_succ]
            all_goals try simp only [List.set_cons_zero]
            refine wpAnyH_take (i := 11) (oi := _) (v := ?_) (by simp only [List.getElem?_toArray, List.getElem?_cons_succ, List.getElem?_cons_zero]; rfl) (by kernel_rfl) (by kernel_rfl) (by kernel_rfl) (by exact fun _ _ _ h => h) (Or.inl ⟨by rfl, ?_⟩) (by assumption) ?_
            rotate_left 1
            · (intro w hSw; (try dsimp only at hSw); go_simp; try with_reducible rfl)
            all_goals try simp only [Act.put]
            all_goals try simp only [List.setIfInBounds_toArray]
            all_goals try simp only [List.set_cons_succ]
            all_goals try simp only [List.set_cons_zero]
            refine wpAnyH_take (i := 12) (oi := _) (v := ?_) (by simp only [List.getElem?_toArray, List.getElem?_cons_succ, List.getElem?_cons_zero]; rfl) (by kernel_rfl) (by kernel_rfl) (by kernel_rfl) (by exact fun _ _ _ h => h) (Or.inl ⟨by rfl, ?_⟩) (by assumption) ?_
            rotate_left 1
            · (intro w hSw; (try dsimp only at hSw); go_simp; try with_reducible rfl)
            all_goals try simp only [Act.put]
            all_goals try simp only [List.setIfInBounds_toArray]
            all_goals try simp only [List.set_cons_succ]
            all_goals try simp only [List.set_cons_zero]
            refine wpAnyH_take (i := 13) (oi := _) (v := ?_) (by simp only [List.getElem?_toArray, List.getElem?_cons_succ, List.getElem?_cons_zero]; rfl) (by kernel_rfl) (by kernel_rfl) (by kernel_rfl) (by exact fun _ _ _ h => h) (Or.inl ⟨by rfl, ?_⟩) (by assumption) ?_
            rotate_left 1
            · (intro w hSw; (try dsimp only at hSw); go_simp; try with_reducible rfl)
            all_goals try simp only [Act.put]
            all_goals try simp only [List.setIfInBounds_toArray]
            all_goals try simp only [List.set_cons_succ]
            all_goals try simp only [List.set_cons_zero]
            clear ey1 ey2 ey3
            refine wpAnyH_ready (rs := [14]) (by kernel_rfl) (by simp) ?_
            refine (AllReadyH.cons (by simp only [List.getElem?_toArray, List.getElem?_cons_succ, List.getElem?_cons_zero]; rfl) (fun K hK => ?_) AllReadyH.nil)
            rw [if_pos (by rfl)]
            go_simp
            refine (plus_any av bv wd (by exact NX.out.1) (by exact NX.out.2) (by exact NY.out.1) (by exact NY.out.2)).mono ?_
            rw [← HP.out]
            rintro e wa ⟨rfl, rfl⟩
            refine hK.out _ _ (by exact ⟨t1, t2, t3⟩) (fun hHeld => ?_)
            clear hK K
            try simp only [Act.put]
            try simp only [List.setIfInBounds_toArray]
            try simp only [List.set_cons_succ]
            try simp only [List.set_cons_zero]
            refine wpAnyH_take (i := 15) (oi := _) (v := ?_) (by simp only [List.getElem?_toArray, List.getElem?_cons_succ, List.getElem?_cons_zero]; rfl) (by kernel_rfl) (by kernel_rfl) (by kernel_rfl) (by exact fun _ _ _ h => h) (Or.inl ⟨by rfl, ?_⟩) (by assumption) ?_
            rotate_left 1
            · (intro w hSw; (try dsimp only at hSw); go_simp; try with_reducible rfl)
            all_goals try simp only [Act.put]
            all_goals try simp only [List.setIfInBounds_toArray]
            all_goals try simp only [List.set_cons_succ]
            all_goals try simp only [List.set_cons_zero]
            refine wpAnyH_done (by kernel_rfl) ?_ _
            clear hHeld
            go_wp2_with fail
            go_roundg (gk - 1)
            case measure => omega
            case rel => exact ⟨u + 1, by omega, by omega, by go_num, T.out, AI.out, BW.out⟩
          · have NB := Lib.hid (hbad.out hle)
            have dt : decide (cv > pv) = true := by simpa using hle
            have dt2 : decide (pv < cv) = true := by simpa using hle
            clear hlaw hbad hle
            have hlt := T.out.lt
            clear hpv hav hbv hcv nx ny hy
            go_upto_region 9 with fail
            have T := Lib.hid (RowI.drew T.out); have BW := Lib.hid (Below.drew BW.out)
            refine wp_region_held_drew (S := (fun w' => w'.cell? ⟨q, y, none⟩ = some (.int .i64 cv) ∧ w'.cell? ⟨q, s, none⟩ = some (.int .i64 av) ∧ w'.cell? ⟨q, u, none⟩ = some (.int .i64 bv))) (by kernel_rfl) ⟨t1, t2, t3⟩ (fun hHeld => ?_)
            have t1 : wr.drew.cell? ⟨q, y, none⟩ = some (.int .i64 cv) := t1
            have t2 : wr.drew.cell? ⟨q, s, none⟩ = some (.int .i64 av) := t2
            have t3 : wr.drew.cell? ⟨q, u, none⟩ = some (.int .i64 bv) := t3
            have hlt : q < wr.drew.heap.size := hlt
            generalize hwd : wr.drew = wd at *
            clear hwd
            refine wpAnyH_take (i := 0) (oi := _) (v := ?_) (by simp only [List.getElem?_toArray, List.getElem?_cons_zero]; rfl) (by kernel_rfl) (by kernel_rfl) (by kernel_rfl) (by exact fun _ _ _ h => h) (Or.inl ⟨by rfl, ?_⟩) (by assumption) ?_
            rotate_left 1
            · (intro w hSw; (try dsimp only at hSw); go_simp; try with_reducible rfl)
            all_goals try simp only [Act.put]
            all_goals try simp only [List.setIfInBounds_toArray]
            all_goals try simp only [List.set_cons_succ]
            all_goals try simp only [List.set_cons_zero]
            refine wpAnyH_take (i := 1) (oi := _) (v := ?_) (by simp only [List.getElem?_toArray, List.getElem?_cons_succ, List.getElem?_cons_zero]; rfl) (by kernel_rfl) (by kernel_rfl) (by kernel_rfl) (by exact fun _ _ _ h => h) (Or.inl ⟨by rfl, ?_⟩) (by assumption) ?_
            rotate_left 1
            · (intro w hSw; (try dsimp only at hSw); go_simp; try with_reducible rfl)
            all_goals try simp only [Act.put]
            all_goals try simp only [List.setIfInBounds_toArray]
            all_goals try simp only [List.set_cons_succ]
            all_goals try simp only [List.set_cons_zero]
            refine wpAnyH_take (i := 2) (oi := _) (v := ?_) (by simp only [List.getElem?_toArray, List.getElem?_cons_succ, List.getElem?_cons_zero]; rfl) (by kernel_rfl) (by kernel_rfl) (by kernel_rfl) (by exact fun _ _ _ h => h) (Or.inl ⟨by rfl, ?_⟩) (by assumption) ?_
            rotate_left 1
            · (intro w hSw; (try dsimp only at hSw); go_simp; try with_reducible rfl)
            all_goals try simp only [Act.put]
            all_goals try simp only [List.setIfInBounds_toArray]
            all_goals try simp only [List.set_cons_succ]
            all_goals try simp only [List.set_cons_zero]
            refine wpAnyH_take (i := 3) (oi := _) (v := ?_) (by simp only [List.getElem?_toArray, List.getElem?_cons_succ, List.getElem?_cons_zero]; rfl) (by kernel_rfl) (by kernel_rfl) (by kernel_rfl) (by exact fun _ _ _ h => h) (Or.inl ⟨by rfl, ?_⟩) (by assumption) ?_
            rotate_left 1
            · (intro w hSw; (try dsimp only at hSw); go_simp; try with_reducible rfl)
            all_goals try simp only [Act.put]
            all_goals try simp only [List.setIfInBounds_toArray]
            all_goals try simp only [List.set_cons_succ]
            all_goals try simp only [List.set_cons_zero]
            refine wpAnyH_take (i := 4) (oi := _) (v := ?_) (by simp only [List.getElem?_toArray, List.getElem?_cons_succ, List.getElem?_cons_zero]; rfl) (by kernel_rfl) (by kernel_rfl) (by kernel_rfl) (by exact fun _ _ _ h => h) (Or.inl ⟨by rfl, ?_⟩) (by assumption) ?_
            rotate_left 1
            · (intro w hSw; (try dsimp only at hSw); go_simp; try with_reducible rfl)
            all_goals try simp only [Act.put]
            all_goals try simp only [List.setIfInBounds_toArray]
            all_goals try simp only [List.set_cons_succ]
            all_goals try simp only [List.set_cons_zero]
            refine wpAnyH_take (i := 5) (oi := _) (v := ?_) (by simp only [List.getElem?_toArray, List.getElem?_cons_succ, List.getElem?_cons_zero]; rfl) (by kernel_rfl) (by kernel_rfl) (by kernel_rfl) (by exact fun _ _ _ h => h) (Or.inl ⟨by rfl, ?_⟩) (by assumption) ?_
            rotate_left 1
            · (intro w hSw; (try dsimp only at hSw); go_simp; try with_reducible rfl)
            all_goals try simp only [Act.put]
            all_goals try simp only [List.setIfInBounds_toArray]
            all_goals try simp only [List.set_cons_succ]
            all_goals try simp only [List.set_cons_zero]
            refine wpAnyH_take (i := 6) (oi := _) (v := ?_) (by simp only [List.getElem?_toArray, List.getElem?_cons_succ, List.getElem?_cons_zero]; rfl) (by kernel_rfl) (by kernel_rfl) (by kernel_rfl) (by exact fun _ _ _ h => h) (Or.inl ⟨by rfl, ?_⟩) (by assumption) ?_
            rotate_left 1
            · (intro w hSw; (try dsimp only at hSw); go_simp; try with_reducible rfl)
            all_goals try simp only [Act.put]
            all_goals try simp only [List.setIfInBounds_toArray]
            all_goals try simp only [List.set_cons_succ]
            all_goals try simp only [List.set_cons_zero]
            refine wpAnyH_take (i := 7) (oi := _) (v := ?_) (by simp only [List.getElem?_toArray, List.getElem?_cons_succ, List.getElem?_cons_zero]; rfl) (by kernel_rfl) (by kernel_rfl) (by kernel_rfl) (by exact fun _ _ _ h => h) (Or.inl ⟨by rfl, ?_⟩) (by assumption) ?_
            rotate_left 1
            · (intro w hSw; (try dsimp only at hSw); go_simp; try with_reducible rfl)
            all_goals try simp only [Act.put]
            all_goals try simp only [List.setIfInBounds_toArray]
            all_goals try simp only [List.set_cons_succ]
            all_goals try simp only [List.set_cons_zero]
            refine wpAnyH_take (i := 8) (oi := _) (v := ?_) (by simp only [List.getElem?_toArray, List.getElem?_cons_succ, List.getElem?_cons_zero]; rfl) (by kernel_rfl) (by kernel_rfl) (by kernel_rfl) (by exact fun _ _ _ h => h) (Or.inl ⟨by rfl, ?_⟩) (by assumption) ?_
            rotate_left 1
            · (intro w hSw; (try dsimp only at hSw); go_simp; try with_reducible rfl)
            all_goals try simp only [Act.put]
            all_goals try simp only [List.setIfInBounds_toArray]
            all_goals try simp only [List.set_cons_succ]
            all_goals try simp only [List.set_cons_zero]
            refine wpAnyH_take (i := 9) (oi := _) (v := ?_) (by simp only [List.getElem?_toArray, List.getElem?_cons_succ, List.getElem?_cons_zero]; rfl) (by kernel_rfl) (by kernel_rfl) (by kernel_rfl) (by exact fun _ _ _ h => h) (Or.inl ⟨by rfl, ?_⟩) (by assumption) ?_
            rotate_left 1
            · (intro w hSw; (try dsimp only at hSw); go_simp; try with_reducible rfl)
            all_goals try simp only [Act.put]
            all_goals try simp only [List.setIfInBounds_toArray]
            all_goals try simp only [List.set_cons_succ]
            all_goals try simp only [List.set_cons_zero]
            refine wpAnyH_take (i := 10) (oi := _) (v := ?_) (by simp only [List.getElem?_toArray, List.getElem?_cons_succ, List.getElem?_cons_zero]; rfl) (by kernel_rfl) (by kernel_rfl) (by kernel_rfl) (by exact fun _ _ _ h => h) (Or.inl ⟨by rfl, ?_⟩) (by assumption) ?_
            rotate_left 1
            · (intro w hSw; (try dsimp only at hSw); go_simp; try with_reducible rfl)
            all_goals try simp only [Act.put]
            all_goals try simp only [List.setIfInBounds_toArray]
            all_goals try simp only [List.set_cons_succ]
            all_goals try simp only [List.set_cons_zero]
            refine wpAnyH_take (i := 11) (oi := _) (v := ?_) (by simp only [List.getElem?_toArray, List.getElem?_cons_succ, List.getElem?_cons_zero]; rfl) (by kernel_rfl) (by kernel_rfl) (by kernel_rfl) (by exact fun _ _ _ h => h) (Or.inl ⟨by rfl, ?_⟩) (by assumption) ?_
            rotate_left 1
            · (intro w hSw; (try dsimp only at hSw); go_simp; try with_reducible rfl)
            all_goals try simp only [Act.put]
            all_goals try simp only [List.setIfInBounds_toArray]
            all_goals try simp only [List.set_cons_succ]
            all_goals try simp only [List.set_cons_zero]
            refine wpAnyH_take (i := 12) (oi := _) (v := ?_) (by simp only [List.getElem?_toArray, List.getElem?_cons_succ, List.getElem?_cons_zero]; rfl) (by kernel_rfl) (by kernel_rfl) (by kernel_rfl) (by exact fun _ _ _ h => h) (Or.inl ⟨by rfl, ?_⟩) (by assumption) ?_
            rotate_left 1
            · (intro w hSw; (try dsimp only at hSw); go_simp; try with_reducible rfl)
            all_goals try simp only [Act.put]
            all_goals try simp only [List.setIfInBounds_toArray]
            all_goals try simp only [List.set_cons_succ]
            all_goals try simp only [List.set_cons_zero]
            refine wpAnyH_take (i := 13) (oi := _) (v := ?_) (by simp only [List.getElem?_toArray, List.getElem?_cons_succ, List.getElem?_cons_zero]; rfl) (by kernel_rfl) (by kernel_rfl) (by kernel_rfl) (by exact fun _ _ _ h => h) (Or.inl ⟨by rfl, ?_⟩) (by assumption) ?_
            rotate_left 1
            · (intro w hSw; (try dsimp only at hSw); go_simp; try with_reducible rfl)
            all_goals try simp only [Act.put]
            all_goals try simp only [List.setIfInBounds_toArray]
            all_goals try simp only [List.set_cons_succ]
            all_goals try simp only [List.set_cons_zero]
            clear ey1 ey2 ey3
            refine wpAnyH_ready (rs := [14]) (by kernel_rfl) (by simp) ?_
            refine (AllReadyH.cons (by simp only [List.getElem?_toArray, List.getElem?_cons_succ, List.getElem?_cons_zero]; rfl) (fun K hK => ?_) AllReadyH.nil)
            rw [if_pos (by rfl)]
            go_simp
            refine (plus_any av bv wd (by exact NX.out.1) (by exact NX.out.2) (by exact NY.out.1) (by exact NY.out.2)).mono ?_
            rw [← HP.out]
            rintro e wa ⟨rfl, rfl⟩
            refine hK.out _ _ (by exact ⟨t1, t2, t3⟩) (fun hHeld => ?_)
            clear hK K
            try simp only [Act.put]
            try simp only [List.setIfInBounds_toArray]
            try simp only [List.set_cons_succ]
            try simp only [List.set_cons_zero]
            refine wpAnyH_take (i := 15) (oi := _) (v := ?_) (by simp only [List.getElem?_toArray, List.getElem?_cons_succ, List.getElem?_cons_zero]; rfl) (by kernel_rfl) (by kernel_rfl) (by kernel_rfl) (by exact fun _ _ _ h => h) (Or.inl ⟨by rfl, ?_⟩) (by assumption) ?_
            rotate_left 1
            · (intro w hSw; (try dsimp only at hSw); go_simp; try with_reducible rfl)
            all_goals try simp only [Act.put]
            all_goals try simp only [List.setIfInBounds_toArray]
            all_goals try simp only [List.set_cons_succ]
            all_goals try simp only [List.set_cons_zero]
            refine wpAnyH_done (by kernel_rfl) ?_ _
            clear hHeld
            go_wp2_with fail
            go_ret
            exact ⟨⟨false, ⟨fun h => Bool.noConfusion h, fun h => absurd h NB.out⟩, rfl⟩, BW.out⟩
        · have hui : ¬ (u : Int) < n := by omega
          have AI := Lib.hid (show AddI f n (s + 1) (s + 1) from AddI.next (by have := AI.out; rwa [show u = n by omega] at this))
          go_wp2_with fail
          go_roundg (go - 1)
          case measure => omega
          case rel => exact ⟨s + 1, by omega, by go_num, T.out, AI.out, BW.out⟩
    · have hxi : ¬ (s : Int) < n := by omega
      have AI := Lib.hid (show AddB f from AddI.done HLM.out (by have := AI.out; rwa [show s = n by omega] at this))
      go_wp2_with fail
      go_ret
      exact ⟨⟨true, ⟨fun _ => AI.out, fun _ => rfl⟩, rfl⟩, BW.out⟩
/-- what Subadditive returns -/
def SaS (f : Cv) (b : Bool) (er : Int) : Prop := (¬ f.Ok ∧ b = false ∧ er = 1) ∨ (f.Ok ∧ (∃ a, NF f.at a ∧ (b = true ↔ AddB a)) ∧ er = 0)
theorem SaS.unique {f : Cv} {b b' : Bool} {e e' : Int} (h : SaS f b e) (k : SaS f b' e') : b = b' ∧ e = e' := by
  rcases h with ⟨h0, rfl, rfl⟩ | ⟨h0, ⟨a, ha, h⟩, rfl⟩ <;> rcases k with ⟨k0, rfl, rfl⟩ | ⟨k0, ⟨a', ka, k⟩, rfl⟩
  · exact ⟨rfl, rfl⟩
  · exact absurd k0 h0
  · exact absurd h0 k0
  · obtain rfl := ha.unique ka
    exact ⟨by rw [Bool.eq_iff_iff, h, k], rfl⟩
def RetSA (f : Cv) (w : World) (e : Ending) (w' : World) : Prop := ∃ (b : Bool) (er : Int), SaS f b er ∧ e = .returned (.tuple #[.bool b, .int .i64 er]) ∧ Below w.heap.size w w'
set_option maxHeartbeats 1000000 in
theorem subaddF_any (A : Option Addr) (n c : Nat) (p i : Int) (zs : List Int) (w : World) (hA : Ints w w.heap.size A n zs) (hn : (n : Int) ≤ 1000000) :
    Calls Try.prog 41 #[.agg #[.slice A n c, .int .i64 p, .int .i64 i]] w (RetSA ⟨zs, p, i⟩ w) := by
  have IA := Lib.hid hA
  clear hA
  have IA2 := Lib.hid (IA.out.alloc' (.cells #[.slice A n c, .int .i64 p, .int .i64 i] 46))
  have BW := Lib.hid (balloc w (.cells #[.slice A n c, .int .i64 p, .int .i64 i] 46))
  have FB := Lib.hid (Blk.new w 46 #[.slice A n c, .int .i64 p, .int .i64 i])
  go_enter Try.func41, Try.ntmps41
  go_upto_region 1 with fail
  generalize hwe : w.alloc (.cells #[.slice A n c, .int .i64 p, .int .i64 i] 46) = we at *
  clear hwe IA
  obtain ⟨⟨x0, x1, x2⟩, ⟨y0, y1, y2⟩, hlx⟩ := FB.out.c3
  go_wp2_with fail
  refine (normal_any A n c p i zs _ (by exact IA2.out) (by omega)).mono ?_
  rintro e w1 ⟨g, er, hN, A1, n1, c1, rfl, hI, hA, hb⟩
  have HI := Lib.hid (hI.alloc' (.cells #[.slice A1 n1 c1, .int .i64 g.per, .int .i64 g.inc] 46))
  have BW := Lib.hid (ball (bthen BW.out hb) (.cells #[.slice A1 n1 c1, .int .i64 g.per, .int .i64 g.inc] 46))
  have GB := Lib.hid (Blk.new w1 46 #[.slice A1 n1 c1, .int .i64 g.per, .int .i64 g.inc])
  have HN := Lib.hid (NormR.of hN)
  clear hN hI hA hb x0 x1 x2 y0 y1 y2 hlx FB IA2
  rcases HN.out with ⟨hfo, hnf, hgo, rfl⟩ | ⟨hfo, hgn, rfl⟩
  · have FO := Lib.hid hfo; have NG := Lib.hid hnf; have GO := Lib.hid hgo
    clear hfo hnf hgo HN
    go_upto_region 2 with fail
    generalize hwe : w1.alloc (.cells #[.slice A1 n1 c1, .int .i64 g.per, .int .i64 g.inc] 46) = wf at *
    clear hwe
    generalize w1.heap.size = ZG at *
    obtain ⟨⟨x0, x1, x2⟩, ⟨y0, y1, y2⟩, hlx⟩ := GB.out.c3
    go_wp2_with fail
    refine (addF_any A1 n1 c1 g _ (by exact HI.out) GO.out).mono ?_
    rintro e wq ⟨⟨b, hbb, rfl⟩, hb⟩
    have BW := Lib.hid (bthen BW.out hb)
    have S := Lib.hid (show SaS ⟨zs, p, i⟩ b 0 from .inr ⟨FO.out, ⟨g, NG.out, hbb⟩, rfl⟩)
    clear hb hbb x0 x1 x2 y0 y1 y2 hlx
    go_wp2_with fail
    refine bodyPost_ret (v := .tuple #[.bool b, .int .i64 0]) (by simp [results, Try.results41, go_sem]) rfl ⟨b, 0, S.out, rfl, BW.out⟩
  · have FO := Lib.hid hfo
    clear hfo hgn HN
    go_wp2_with fail
    refine bodyPost_ret (v := .tuple #[.bool false, .int .i64 1]) (by simp [results, Try.results41, go_sem]) rfl ⟨false, 1, .inl ⟨FO.out, rfl, rfl⟩, rfl, BW.out⟩
end Go.Proofs.Ythdibkmjoiipgaa
