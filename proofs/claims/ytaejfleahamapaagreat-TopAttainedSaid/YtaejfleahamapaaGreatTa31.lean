/- closure.additive and closure.Subadditive, for all curves. -/
import Derived.Deep.LoopGhost
import Derived.BigQuiet
import Derived.Test.YtaejfleahamapaaGreatTa30
import Derived.Test.YtaejfleahamapaaGreatTa8
import Derived.Test.YtaejfleahamapaaGreatTa14
import Derived.Test.YtaejfleahamapaaGreatTa6
import Derived.Test.YtaejfleahamapaaGreatTa18
import Derived.Test.YtaejfleahamapaaGreatTa3
import Derived.Test.YtaejfleahamapaaGreatTa1
namespace Go.Proofs.YtaejfleahamapaaGreat
set_option linter.unusedVariables false
set_option linter.unusedSimpArgs false
section
open Go.RowKit
def AddI (f : Cv) (n s u : Nat) : Prop := (∀ x y, x < s → x ≤ y → y < n → f.at (x + y) ≤ pl (f.at x) (f.at y)) ∧ (∀ y, s ≤ y → y < u → f.at (s + y) ≤ pl (f.at s) (f.at y))
theorem AddI.zero (f : Cv) (n : Nat) : AddI f n 0 0 := ⟨fun x y h => by omega, fun y h h2 => by omega⟩
theorem AddI.more {f : Cv} {n s u : Nat} (h : AddI f n s u) (k : f.at (s + u) ≤ pl (f.at s) (f.at u)) : AddI f n s (u + 1) := ⟨h.1, fun y h1 h2 => by
 by_cases e : y = u
 ·subst e; exact k
 ·exact h.2 y h1 (by omega)⟩
theorem AddI.next {f : Cv} {n s : Nat} (h : AddI f n s n) : AddI f n (s + 1) (s + 1) := ⟨fun x y h1 h2 h3 => by
 by_cases e : x = s
 ·subst e; exact h.2 y h2 h3
 ·exact h.1 x y (by omega) h2 h3, fun y h1 h2 => by omega⟩
theorem AddI.done {f : Cv} {n u : Nat} (hn : f.vals.length = n) (h : AddI f n n u) : AddB f := fun x y hx hy => by
 rw [hn] at hx hy
 rcases Nat.le_total x y with e | e
 ·exact h.1 x y hx e hy
 ·rw [Nat.add_comm, pl_symm]; exact h.1 y x hy e hx
set_option maxHeartbeats 1000000 in
theorem addF_any (A : Option Addr) (n c : Nat) (f : Cv) (w : World) (hA : Ints w w.heap.size A n f.vals) (ok : f.Ok)  :
 Calls Tryz.prog 133 #[.agg #[.slice A n c, .int .i64 f.per, .int .i64 f.inc]] w (RetQ (AddB f) w) := by
 have hlm : f.vals.length = n := hA.1
 have n1 := ok.n1; have n2 := ok.n2
 rw [hlm] at n1 n2
 obtain ⟨N, hN⟩ : ∃ N : Nat, N = 2 * n := ⟨_, rfl⟩
 have e1 : IntKind.i64.wrap (2 * (n : Int)) = (N : Int) := by rw [IntWalk.i64_in _ (by omega)]; omega
 have e2 : 2 * (n : Int) = (N : Int) := by omega
 have HN := hi_ hN
 have OK := hi_ ok; have HLM := hi_ hlm
 have FB := hi_ (Blk.new w 26 #[.slice A n c, .int .i64 f.per, .int .i64 f.inc])
 have BW := hi_ (balloc w (.cells #[.slice A n c, .int .i64 f.per, .int .i64 f.inc] 26))
 have IA := hi_ (hA.alloc' (.cells #[.slice A n c, .int .i64 f.per, .int .i64 f.inc] 26))
 clear hA ok hlm hN
 go_enter Tryz.func133, Tryz.ntmps133
 go_upto_region 1 with fail
 generalize hwe : w.alloc (.cells #[.slice A n c, .int .i64 f.per, .int .i64 f.inc] 26) = we at *
 clear hwe
 obtain ⟨⟨x0, x1, x2⟩, ⟨y0, y1, y2⟩, hlx⟩ := FB.out.c3
 go_wp2_with fail
 refine (table_any A n c f.per f.inc N f.vals _ (by exact IA.out) (by exact OK.out) (by omega)).mono ?_
 rintro e wv ⟨q, rfl, hT, hq, hb⟩
 have T := hi_ hT
 replace BW := hi_ (bthen BW.out hb)
 clear hT hq hb x0 x1 x2 y0 y1 y2 hlx FB IA e1 e2
 go_wp2_with fail
 go_loopg [5, 6, 15] n (fun gg s5 s6 s15 wx => ∃ s : Nat, s + gg = n ∧ s15 = .int .i64 s ∧ RowI wx q (tab f.at 0 N) ∧ AddI f n s s ∧ Below w.heap.size w wx)
 case atStart => exact ⟨0, by omega, rfl, T.out, AddI.zero _ _, BW.out⟩
 case round =>
  clear T BW
  obtain ⟨s, hsg, rfl, hT, hai, hbw⟩ := hrel
  have T := hi_ hT; have BW := hi_ hbw; have AI := hi_ hai
  clear hT hbw hai
  obtain ⟨go, hgo⟩ : ∃ go : Nat, go = gk := ⟨_, rfl⟩
  subst hgo
  by_cases hx : s < n
  ·have hxi : (s : Int) < n := by omega
   go_wp2_with fail
   go_loopg [6] (n - s) (fun gg s6 wx => ∃ u : Nat, u + gg = n ∧ s ≤ u ∧ s6 = .int .i64 u ∧ RowI wx q (tab f.at 0 N) ∧ AddI f n s u ∧ Below w.heap.size w wx)
   case atStart => exact ⟨s, by omega, Nat.le_refl _, rfl, T.out, AI.out, BW.out⟩
   case round =>
    clear T BW AI
    obtain ⟨u, hug, hsu, rfl, hT, hai, hbw⟩ := hrel
    have T := hi_ hT; have BW := hi_ hbw; have AI := hi_ hai
    clear hT hbw hai
    by_cases hu : u < n
    ·have hui : (u : Int) < n := by omega
     obtain ⟨y, hy⟩ : ∃ y : Nat, y = s + u := ⟨_, rfl⟩
     have hyN : y < N := by have := HN.out; omega
     have hsN : s < N := by omega
     have huN : u < N := by omega
     have hyNi : (y : Int) < N := by omega
     have hsNi : (s : Int) < N := by omega
     have huNi : (u : Int) < N := by omega
     have ey1 : IntKind.i64.wrap ((s : Int) + (u : Int)) = (y : Int) := by rw [IntWalk.i64_in _ (by omega)]; omega
     have ey2 : (s : Int) + (u : Int) = (y : Int) := by omega
     have ey3 : IntKind.i64.wrap (y : Int) = (y : Int) := IntWalk.i64_in _ (by omega)
     have hy0 : 0 ≤ (y : Int) := by omega
     have hs0 : 0 ≤ (s : Int) := by omega
     have hu0 : 0 ≤ (u : Int) := by omega
     have t1 := T.out.cell y (by rw [tab_length]; exact hyN)
     have t2 := T.out.cell s (by rw [tab_length]; exact hsN)
     have t3 := T.out.cell u (by rw [tab_length]; exact huN)
     rw [tab_nth _ _ _ _ hyN, Nat.zero_add] at t1
     rw [tab_nth _ _ _ _ hsN, Nat.zero_add] at t2
     rw [tab_nth _ _ _ _ huN, Nat.zero_add] at t3
     have hlaw := hi_ (show f.at y ≤ pl (f.at s) (f.at u) → AddI f n s (u + 1) from fun k => AI.out.more (by rw [← hy]; exact k))
     have hbad := hi_ (show ¬ f.at y ≤ pl (f.at s) (f.at u) → ¬ AddB f from fun k h => k (by rw [hy]; exact h s u (by rw [HLM.out]; omega) (by rw [HLM.out]; omega)))
     have nx := at_near OK.out (t := s) (by omega)
     have ny := at_near OK.out (t := u) (by omega)
     obtain ⟨av, hav⟩ : ∃ av, av = f.at s := ⟨_, rfl⟩
     obtain ⟨bv, hbv⟩ : ∃ bv, bv = f.at u := ⟨_, rfl⟩
     obtain ⟨cv, hcv⟩ : ∃ cv, cv = f.at y := ⟨_, rfl⟩
     rw [← hav] at t2 nx hlaw hbad
     rw [← hbv] at t3 ny hlaw hbad
     rw [← hcv] at t1 hlaw hbad
     obtain ⟨pv, hpv⟩ : ∃ pv, pv = pl av bv := ⟨_, rfl⟩
     rw [← hpv] at hlaw hbad
     have HP := hi_ hpv; have NX := hi_ nx; have NY := hi_ ny
     by_cases hle : cv ≤ pv
     ·have AI := hi_ (hlaw.out hle)
      have dt : decide (cv > pv) = false := by simpa using hle
      have dt2 : decide (pv < cv) = false := by simpa using hle
      clear hlaw hbad hle
      have hlt := T.out.lt
      clear hpv hav hbv hcv nx ny hy
      go_upto_region 9 with fail
      have T := hi_ (RowI.drew T.out); have BW := hi_ (Below.drew BW.out)
      refine wp_region_held_drew (S := (fun w' => w'.cell? ⟨q, y, none⟩ = some (.int .i64 cv) ∧ w'.cell? ⟨q, s, none⟩ = some (.int .i64 av) ∧ w'.cell? ⟨q, u, none⟩ = some (.int .i64 bv))) (by kernel_rfl) ⟨t1, t2, t3⟩ (fun hHeld => ?_)
      have t1 : wr.drew.cell? ⟨q, y, none⟩ = some (.int .i64 cv) := t1
      have t2 : wr.drew.cell? ⟨q, s, none⟩ = some (.int .i64 av) := t2
      have t3 : wr.drew.cell? ⟨q, u, none⟩ = some (.int .i64 bv) := t3
      have hlt : q < wr.drew.heap.size := hlt
      generalize hwd : wr.drew = wd at *
      clear hwd
      refine tkO [0, 1, 2, 3, 4, 5, 6, 7, 8, 9, 10, 11, 12, 13] ?_; (iterate 14 refine tkI ?_); refine tkX ?_
      clear ey1 ey2 ey3
      refine rdy2 14 (fun K hK => ?_)
      go_simp
      refine (plus_any av bv wd (by exact NX.out.1) (by exact NX.out.2) (by exact NY.out.1) (by exact NY.out.2)).mono ?_
      rw [← HP.out]
      rintro e wa ⟨rfl, rfl⟩
      refine bkS hK (by exact ⟨t1, t2, t3⟩) (fun hHeld => ?_); clear hK K
      refine tk1 15 ?_
      refine dnH ?_
      clear hHeld
      go_wp2_with fail
      go_roundg (gk - 1)
      case measure => omega
      case rel => exact ⟨u + 1, by omega, by omega, by go_num, T.out, AI.out, BW.out⟩
     ·have NB := hi_ (hbad.out hle)
      have dt : decide (cv > pv) = true := by simpa using hle
      have dt2 : decide (pv < cv) = true := by simpa using hle
      clear hlaw hbad hle
      have hlt := T.out.lt
      clear hpv hav hbv hcv nx ny hy
      go_upto_region 9 with fail
      have T := hi_ (RowI.drew T.out); have BW := hi_ (Below.drew BW.out)
      refine wp_region_held_drew (S := (fun w' => w'.cell? ⟨q, y, none⟩ = some (.int .i64 cv) ∧ w'.cell? ⟨q, s, none⟩ = some (.int .i64 av) ∧ w'.cell? ⟨q, u, none⟩ = some (.int .i64 bv))) (by kernel_rfl) ⟨t1, t2, t3⟩ (fun hHeld => ?_)
      have t1 : wr.drew.cell? ⟨q, y, none⟩ = some (.int .i64 cv) := t1
      have t2 : wr.drew.cell? ⟨q, s, none⟩ = some (.int .i64 av) := t2
      have t3 : wr.drew.cell? ⟨q, u, none⟩ = some (.int .i64 bv) := t3
      have hlt : q < wr.drew.heap.size := hlt
      generalize hwd : wr.drew = wd at *
      clear hwd
      refine tkO [0, 1, 2, 3, 4, 5, 6, 7, 8, 9, 10, 11, 12, 13] ?_; (iterate 14 refine tkI ?_); refine tkX ?_
      clear ey1 ey2 ey3
      refine rdy2 14 (fun K hK => ?_)
      go_simp
      refine (plus_any av bv wd (by exact NX.out.1) (by exact NX.out.2) (by exact NY.out.1) (by exact NY.out.2)).mono ?_
      rw [← HP.out]
      rintro e wa ⟨rfl, rfl⟩
      refine bkS hK (by exact ⟨t1, t2, t3⟩) (fun hHeld => ?_); clear hK K
      refine tk1 15 ?_
      refine dnH ?_
      clear hHeld
      go_wp2_with fail
      go_ret
      exact ⟨⟨false, ⟨fun h => Bool.noConfusion h, fun h => absurd h NB.out⟩, rfl⟩, BW.out⟩
    ·have hui : ¬ (u : Int) < n := by omega
     have AI := hi_ (show AddI f n (s + 1) (s + 1) from AddI.next (by have := AI.out; rwa [show u = n by omega] at this))
     go_wp2_with fail
     go_roundg (go - 1)
     case measure => omega
     case rel => exact ⟨s + 1, by omega, by go_num, T.out, AI.out, BW.out⟩
  ·have hxi : ¬ (s : Int) < n := by omega
   have AI := hi_ (show AddB f from AddI.done HLM.out (by have := AI.out; rwa [show s = n by omega] at this))
   go_wp2_with fail
   go_ret
   exact ⟨⟨true, ⟨fun _ => AI.out, fun _ => rfl⟩, rfl⟩, BW.out⟩
end
end Go.Proofs.YtaejfleahamapaaGreat
