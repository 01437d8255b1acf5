/- netcalculusref09: Adds, Subadditive, Values. -/
import Derived.Test.YthdibkmjoiipgaaRef9A
import Derived.Test.YthdibkmjoiipgaaRefMade
import Derived.Test.YthdibkmjoiipgaaRefValid
import Derived.Test.YthdibkmjoiipgaaClAdd
import Derived.Test.YthdibkmjoiipgaaRefSame
import Derived.Test.YthdibkmjoiipgaaLeast
namespace Go.Proofs.Ythdibkmjoiipgaa
open Go.RowKit
set_option linter.unusedVariables false

/-- one curve in the first block of a call -/
structure V9 (w wx : World) (A : Option Addr) (n c : Nat) (f : Cv) : Prop where
  fb : Blk wx w.heap.size 46 #[.slice A n c, .int .i64 f.per, .int .i64 f.inc]
  ib : Ints wx w.heap.size A n f.vals
  bw : Below w.heap.size w wx
section
variable {w wx wy : World} {A : Option Addr} {n c : Nat} {f : Cv}
theorem V9.new (hA : Ints w w.heap.size A n f.vals) : V9 w (w.alloc (.cells #[.slice A n c, .int .i64 f.per, .int .i64 f.inc] 46)) A n c f :=
  ⟨Blk.new w _ _, hA.alloc (Nat.le_refl _) _, balloc _ _⟩
theorem V9.ja (h : V9 w wx A n c f) : Ints wx wx.heap.size A n f.vals := h.ib.more h.bw.size
theorem V9.upto (h : V9 w wx A n c f) {B : Nat} (hb : Below B wx wy) (hB : w.heap.size + 1 ≤ B) : V9 w wy A n c f :=
  ⟨h.fb.below hb (by omega), h.ib.below (hb.mono (by omega)), h.bw.trans (hb.mono (by omega))⟩
theorem V9.below (h : V9 w wx A n c f) (hb : Below wx.heap.size wx wy) : V9 w wy A n c f := h.upto hb h.fb.lt
theorem V9.alloc (h : V9 w wx A n c f) (o : Obj) : V9 w (wx.alloc o) A n c f := h.below (balloc wx o)
theorem V9.drew (h : V9 w wx A n c f) : V9 w wx.drew A n c f := ⟨h.fb, h.ib, Below.drew h.bw⟩
end
set_option maxHeartbeats 4000000 in
set_option maxRecDepth 100000 in
theorem adds9_any (A : Option Addr) (n c : Nat) (f : Cv) (w : World) (hA : Ints w w.heap.size A n f.vals) (hf : f.Ok) :
    Calls Try.prog 100 #[.agg #[.slice A n c, .int .i64 f.per, .int .i64 f.inc]] w (RetQ (AddB f) w) := by
  have a1 := hf.n1; have a2 := hf.n2; have a3 := hf.p1; have a4 := hf.p2; have a5 := hf.pn; have a6 := hf.i1; have a7 := hf.i2
  have hln : f.vals.length = n := hA.1
  rw [hln] at a1 a2 a5
  obtain ⟨ad, oa, hAe, hbl, hcell⟩ := hA.2 (by omega)
  subst hAe
  have CELL := Lib.hid (show ∀ (wx : World) (k : Nat), k < n → V9 w wx (some ⟨ad, oa, none⟩) n c f → wx.cell? ⟨ad, oa + k, none⟩ = some (.int .i64 (f.at k)) from fun wx k hk E => by
    obtain ⟨b', off', e', _, h⟩ := E.ib.2 (by omega)
    cases e'
    rw [Cv.at_lt (by omega)]
    exact h k hk)
  have E := Lib.hid (V9.new (c := c) hA)
  have HF := Lib.hid hf; have HLN := Lib.hid hln
  clear hA hf hln hcell
  go_enter Try.func100, Try.ntmps100
  go_wp2_with fail
  generalize hwe : w.alloc (.cells #[.slice (some ⟨ad, oa, none⟩) n c, .int .i64 f.per, .int .i64 f.inc] 46) = we at *
  clear hwe
  go_loopg [3, 4] n (fun gg s3 s4 wx => ∃ s : Nat, s + gg = n ∧ s3 = .int .i64 s ∧ Hid (∀ s' u, s' < s → u < n → f.at (s' + u) ≤ pl (f.at s') (f.at u)) ∧ V9 w wx (some ⟨ad, oa, none⟩) n c f)
  case atStart => exact ⟨0, by omega, rfl, Lib.hid (fun s' u h => by omega), E.out⟩
  case round =>
    clear E
    obtain ⟨s, hsg, rfl, HG, hE⟩ := hrel
    have E := Lib.hid hE
    clear hE
    obtain ⟨go, hgo⟩ : ∃ go : Nat, go = gk := ⟨_, rfl⟩
    subst hgo
    by_cases hs : s < n
    case neg =>
      have hsi : ¬ (s : Int) < (n : Int) := by omega
      have FIN := Lib.hid (show AddB f from fun s' u h1 h2 => HG.out s' u (by have := HLN.out; omega) (by have := HLN.out; omega))
      obtain ⟨⟨f0, f1, f2⟩, _, hlf⟩ := E.out.fb.c3
      have bw := E.out.bw
      go_wp2_with fail
      go_ret
      exact RetQ.yes FIN.out bw
    case pos =>
      have hsi : (s : Int) < (n : Int) := by omega
      obtain ⟨x, hx⟩ : ∃ x, x = f.at s := ⟨_, rfl⟩
      have HX := Lib.hid hx
      have NX := Lib.hid (show 0 ≤ x ∧ (x = inf ∨ x ≤ 1152921504606846976) from by rw [hx]; exact at_near HF.out (by omega))
      clear hx
      obtain ⟨⟨f0, f1, f2⟩, _, hlf⟩ := E.out.fb.c3
      go_wp2_with fail
      clear f0 f1 f2 hlf
      go_loopg [4] n (fun gg s4 wx => ∃ u : Nat, u + gg = n ∧ s4 = .int .i64 u ∧ Hid (∀ u', u' < u → f.at (s + u') ≤ pl (f.at s) (f.at u')) ∧ V9 w wx (some ⟨ad, oa, none⟩) n c f)
      case atStart => exact ⟨0, by omega, rfl, Lib.hid (fun u' h => by omega), E.out⟩
      case round =>
        clear E
        obtain ⟨u, hug, rfl, HU, hE⟩ := hrel
        have E := Lib.hid hE
        clear hE
        by_cases hu : u < n
        case neg =>
          have hui : ¬ (u : Int) < (n : Int) := by omega
          have NG := Lib.hid (show ∀ s' u, s' < s + 1 → u < n → f.at (s' + u) ≤ pl (f.at s') (f.at u) from fun s' u' h1 h2 => by
            rcases Nat.lt_or_ge s' s with h3 | h3
            · exact HG.out s' u' h3 h2
            · obtain rfl : s' = s := by omega
              exact HU.out u' (by omega))
          obtain ⟨⟨f0, f1, f2⟩, _, hlf⟩ := E.out.fb.c3
          go_wp2_with fail
          go_roundg (go - 1)
          case measure => omega
          case rel => exact ⟨s + 1, by omega, by go_num, NG, E.out⟩
        case pos =>
          have hui : (u : Int) < (n : Int) := by omega
          obtain ⟨y, hy⟩ : ∃ y, y = f.at u := ⟨_, rfl⟩
          have HY := Lib.hid hy
          have NY := Lib.hid (show 0 ≤ y ∧ (y = inf ∨ y ≤ 1152921504606846976) from by rw [hy]; exact at_near HF.out (by omega))
          obtain ⟨t, ht⟩ : ∃ t : Nat, t = s + u := ⟨_, rfl⟩
          have ht9 : t ≤ 800 := by omega
          have e1 : IntKind.i64.wrap ((s : Int) + (u : Int)) = (t : Int) := by rw [IntWalk.i64_in _ (by omega)]; omega
          have e2 : (s : Int) + (u : Int) = (t : Int) := by omega
          have e3 : IntKind.i64.wrap (t : Int) = (t : Int) := IntWalk.i64_in _ (by omega)
          obtain ⟨z, hz⟩ : ∃ z, z = f.at t := ⟨_, rfl⟩
          obtain ⟨pv, hpv⟩ : ∃ pv, pv = pl x y := ⟨_, rfl⟩
          have HZ := Lib.hid hz; have HP := Lib.hid hpv
          have TEST := Lib.hid (show z ≤ pv ↔ f.at (s + u) ≤ pl (f.at s) (f.at u) from by rw [hz, hpv, HX.out, hy, ht])
          clear hy ht hz hpv
          obtain ⟨⟨f0, f1, f2⟩, _, hlf⟩ := E.out.fb.c3
          go_upto_region 7 with fail
          clear f0 f1 f2 hlf
          have E := Lib.hid (V9.drew E.out)
          rename World => wq
          have cs := CELL.out _ s hs E.out; have cz := CELL.out _ u hu E.out
          rw [← HX.out] at cs
          rw [← HY.out] at cz
          obtain ⟨⟨f0, f1, f2⟩, _, hlf⟩ := E.out.fb.c3
          have hbl2 : ad < wq.drew.heap.size := by have := E.out.bw.size; omega
          refine wp_region_held_drew (S := (fun w' => w'.cell? ⟨w.heap.size, 0, none⟩ = some (.slice (some ⟨ad, oa, none⟩) n c) ∧ w'.cell? ⟨w.heap.size, 1, none⟩ = some (.int .i64 f.per) ∧ w'.cell? ⟨w.heap.size, 2, none⟩ = some (.int .i64 f.inc) ∧ w'.cell? ⟨ad, oa + s, none⟩ = some (.int .i64 x) ∧ w'.cell? ⟨ad, oa + u, none⟩ = some (.int .i64 y))) (by kernel_rfl) (by exact ⟨f0, f1, f2, cs, cz⟩) (fun hHeld => ?_)
          generalize hwd : wq.drew = wd at *
          clear hwd
          refine wpAnyH_take (i := 0) (oi := _) (v := ?_) (by simp only [g8a, g8z]; rfl) (by kernel_rfl) (by kernel_rfl) (by kernel_rfl) (by exact fun _ _ _ h => h) (Or.inl ⟨by rfl, ?_⟩) (by assumption) ?_
          rotate_left 1
          · (intro w hSw; (try dsimp only at hSw); go_simp; try with_reducible rfl)
          all_goals ((try simp only [Act.put]); try simp only [g8b, g8c, g8d])
          refine wpAnyH_take (i := 1) (oi := _) (v := ?_) (by simp only [g8a, g8s, g8z]; rfl) (by kernel_rfl) (by kernel_rfl) (by kernel_rfl) (by exact fun _ _ _ h => h) (Or.inl ⟨by rfl, ?_⟩) (by assumption) ?_
          rotate_left 1
          · (intro w hSw; (try dsimp only at hSw); go_simp; try with_reducible rfl)
          all_goals ((try simp only [Act.put]); try simp only [g8b, g8c, g8d])
          refine wpAnyH_take (i := 2) (oi := _) (v := ?_) (by simp only [g8a, g8s, g8z]; rfl) (by kernel_rfl) (by kernel_rfl) (by kernel_rfl) (by exact fun _ _ _ h => h) (Or.inl ⟨by rfl, ?_⟩) (by assumption) ?_
          rotate_left 1
          · (intro w hSw; (try dsimp only at hSw); go_simp; try with_reducible rfl)
          all_goals ((try simp only [Act.put]); try simp only [g8b, g8c, g8d])
          refine wpAnyH_take (i := 3) (oi := _) (v := ?_) (by simp only [g8a, g8s, g8z]; rfl) (by kernel_rfl) (by kernel_rfl) (by kernel_rfl) (by exact fun _ _ _ h => h) (Or.inl ⟨by rfl, ?_⟩) (by assumption) ?_
          rotate_left 1
          · (intro w hSw; (try dsimp only at hSw); go_simp; try with_reducible rfl)
          all_goals ((try simp only [Act.put]); try simp only [g8b, g8c, g8d])
          refine wpAnyH_take (i := 5) (oi := _) (v := ?_) (by simp only [g8a, g8s, g8z]; rfl) (by kernel_rfl) (by kernel_rfl) (by kernel_rfl) (by exact fun _ _ _ h => h) (Or.inl ⟨by rfl, ?_⟩) (by assumption) ?_
          rotate_left 1
          · (intro w hSw; (try dsimp only at hSw); go_simp; try with_reducible rfl)
          all_goals ((try simp only [Act.put]); try simp only [g8b, g8c, g8d])
          refine wpAnyH_take (i := 6) (oi := _) (v := ?_) (by simp only [g8a, g8s, g8z]; rfl) (by kernel_rfl) (by kernel_rfl) (by kernel_rfl) (by exact fun _ _ _ h => h) (Or.inl ⟨by rfl, ?_⟩) (by assumption) ?_
          rotate_left 1
          · (intro w hSw; (try dsimp only at hSw); go_simp; try with_reducible rfl)
          all_goals ((try simp only [Act.put]); try simp only [g8b, g8c, g8d])
          refine wpAnyH_take (i := 7) (oi := _) (v := ?_) (by simp only [g8a, g8s, g8z]; rfl) (by kernel_rfl) (by kernel_rfl) (by kernel_rfl) (by exact fun _ _ _ h => h) (Or.inl ⟨by rfl, ?_⟩) (by assumption) ?_
          rotate_left 1
          · (intro w hSw; (try dsimp only at hSw); go_simp; try with_reducible rfl)
          all_goals ((try simp only [Act.put]); try simp only [g8b, g8c, g8d])
          refine wpAnyH_take (i := 8) (oi := _) (v := ?_) (by simp only [g8a, g8s, g8z]; rfl) (by kernel_rfl) (by kernel_rfl) (by kernel_rfl) (by exact fun _ _ _ h => h) (Or.inl ⟨by rfl, ?_⟩) (by assumption) ?_
          rotate_left 1
          · (intro w hSw; (try dsimp only at hSw); go_simp; try with_reducible rfl)
          all_goals ((try simp only [Act.put]); try simp only [g8b, g8c, g8d])
          refine wpAnyH_take (i := 9) (oi := _) (v := ?_) (by simp only [g8a, g8s, g8z]; rfl) (by kernel_rfl) (by kernel_rfl) (by kernel_rfl) (by exact fun _ _ _ h => h) (Or.inl ⟨by rfl, ?_⟩) (by assumption) ?_
          rotate_left 1
          · (intro w hSw; (try dsimp only at hSw); go_simp; try with_reducible rfl)
          all_goals ((try simp only [Act.put]); try simp only [g8b, g8c, g8d])
          refine wpAnyH_take (i := 10) (oi := _) (v := ?_) (by simp only [g8a, g8s, g8z]; rfl) (by kernel_rfl) (by kernel_rfl) (by kernel_rfl) (by exact fun _ _ _ h => h) (Or.inl ⟨by rfl, ?_⟩) (by assumption) ?_
          rotate_left 1
          · (intro w hSw; (try dsimp only at hSw); go_simp; try with_reducible rfl)
          all_goals ((try simp only [Act.put]); try simp only [g8b, g8c, g8d])
          refine wpAnyH_take (i := 11) (oi := _) (v := ?_) (by simp only [g8a, g8s, g8z]; rfl) (by kernel_rfl) (by kernel_rfl) (by kernel_rfl) (by exact fun _ _ _ h => h) (Or.inl ⟨by rfl, ?_⟩) (by assumption) ?_
          rotate_left 1
          · (intro w hSw; (try dsimp only at hSw); go_simp; try with_reducible rfl)
          all_goals ((try simp only [Act.put]); try simp only [g8b, g8c, g8d])
          refine wpAnyH_take (i := 12) (oi := _) (v := ?_) (by simp only [g8a, g8s, g8z]; rfl) (by kernel_rfl) (by kernel_rfl) (by kernel_rfl) (by exact fun _ _ _ h => h) (Or.inl ⟨by rfl, ?_⟩) (by assumption) ?_
          rotate_left 1
          · (intro w hSw; (try dsimp only at hSw); go_simp; try with_reducible rfl)
          all_goals ((try simp only [Act.put]); try simp only [g8b, g8c, g8d])
          refine wpAnyH_take (i := 13) (oi := _) (v := ?_) (by simp only [g8a, g8s, g8z]; rfl) (by kernel_rfl) (by kernel_rfl) (by kernel_rfl) (by exact fun _ _ _ h => h) (Or.inl ⟨by rfl, ?_⟩) (by assumption) ?_
          rotate_left 1
          · (intro w hSw; (try dsimp only at hSw); go_simp; try with_reducible rfl)
          all_goals ((try simp only [Act.put]); try simp only [g8b, g8c, g8d])
          refine wpAnyH_take (i := 14) (oi := _) (v := ?_) (by simp only [g8a, g8s, g8z]; rfl) (by kernel_rfl) (by kernel_rfl) (by kernel_rfl) (by exact fun _ _ _ h => h) (Or.inl ⟨by rfl, ?_⟩) (by assumption) ?_
          rotate_left 1
          · (intro w hSw; (try dsimp only at hSw); go_simp; try with_reducible rfl)
          all_goals ((try simp only [Act.put]); try simp only [g8b, g8c, g8d])
          clear e1 e2 e3
          refine wpAnyH_ready (rs := [4]) (by kernel_rfl) (by simp) ?_
          refine (AllReadyH.cons (by simp only [g8a, g8s, g8z]; rfl) (fun K hK => ?_) AllReadyH.nil)
          rw [if_pos (by rfl)]
          go_simp
          refine (refAt_any _ n c f.per f.inc (t : Int) f.vals _ (by exact E.out.ja) (by omega) (by omega) (by omega) (by omega) (by omega) HF.out.nn (by omega) (by omega)).mono ?_
          rw [Int.toNat_natCast, ← HZ.out]
          rintro e wa ⟨rfl, hb⟩
          replace E := Lib.hid (E.out.below hb)
          clear hb
          try clear hHeld
          clear f0 f1 f2 hlf
          obtain ⟨⟨f0, f1, f2⟩, _, hlf⟩ := E.out.fb.c3
          have cs := CELL.out _ s hs E.out; have cz := CELL.out _ u hu E.out
          rw [← HX.out] at cs
          rw [← HY.out] at cz
          refine hK.out _ _ (by exact ⟨f0, f1, f2, cs, cz⟩) (fun hHeld => ?_)
          clear hK K
          (try simp only [Act.put]); try simp only [g8b, g8c, g8d]
          refine wpAnyH_ready (rs := [15]) (by kernel_rfl) (by simp) ?_
          refine (AllReadyH.cons (by simp only [g8a, g8s, g8z]; rfl) (fun K hK => ?_) AllReadyH.nil)
          rw [if_pos (by rfl)]
          go_simp
          refine (plus9_any x y _ (by exact NX.out.1) (by exact NX.out.2) (by exact NY.out.1) (by exact NY.out.2)).mono ?_
          rw [← HP.out]
          rintro e wc ⟨rfl, rfl⟩
          refine hK.out _ _ (by exact ⟨f0, f1, f2, cs, cz⟩) (fun hHeld => ?_)
          clear hK K
          (try simp only [Act.put]); try simp only [g8b, g8c, g8d]
          by_cases hgt : z ≤ pv
          case neg =>
            have d1 : decide (pv < z) = true := by simp; omega
            have d2 : decide (z > pv) = true := by simp; omega
            have FIN := Lib.hid (show ¬ AddB f from fun h => hgt (TEST.out.2 (h s u (by have := HLN.out; omega) (by have := HLN.out; omega))))
            clear hgt
            refine wpAnyH_take (i := 16) (oi := _) (v := ?_) (by simp only [g8a, g8s, g8z]; rfl) (by kernel_rfl) (by kernel_rfl) (by kernel_rfl) (by exact fun _ _ _ h => h) (Or.inl ⟨by rfl, ?_⟩) (by assumption) ?_
            rotate_left 1
            · (intro w hSw; (try dsimp only at hSw); go_simp; try with_reducible rfl)
            all_goals ((try simp only [Act.put]); try simp only [g8b, g8c, g8d])
            refine wpAnyH_done (by kernel_rfl) ?_ _
            clear hHeld cs cz
            clear f0 f1 f2 hlf
            have bw := E.out.bw
            go_wp2_with fail
            go_ret
            exact RetQ.no FIN.out bw
          case pos =>
            have d1 : decide (pv < z) = false := by simp; omega
            have d2 : decide (z > pv) = false := by simp; omega
            have NU := Lib.hid (show ∀ u', u' < u + 1 → f.at (s + u') ≤ pl (f.at s) (f.at u') from fun u' h1 => by
              rcases Nat.lt_or_ge u' u with h3 | h3
              · exact HU.out u' h3
              · obtain rfl : u' = u := by omega
                exact TEST.out.1 hgt)
            clear hgt
            refine wpAnyH_take (i := 16) (oi := _) (v := ?_) (by simp only [g8a, g8s, g8z]; rfl) (by kernel_rfl) (by kernel_rfl) (by kernel_rfl) (by exact fun _ _ _ h => h) (Or.inl ⟨by rfl, ?_⟩) (by assumption) ?_
            rotate_left 1
            · (intro w hSw; (try dsimp only at hSw); go_simp; try with_reducible rfl)
            all_goals ((try simp only [Act.put]); try simp only [g8b, g8c, g8d])
            refine wpAnyH_done (by kernel_rfl) ?_ _
            clear hHeld cs cz
            clear f0 f1 f2 hlf
            go_wp2_with fail
            go_roundg (gk - 1)
            case measure => omega
            case rel => exact ⟨u + 1, by omega, by go_num, NU, E.out⟩
set_option maxHeartbeats 2000000 in
theorem subadd9_any (A : Option Addr) (n c : Nat) (f : Cv) (w : World) (hA : Ints w w.heap.size A n f.vals) (hn : (n : Int) ≤ 1000000) (hnc : n ≤ c) :
    Calls Try.prog 42 #[.agg #[.slice A n c, .int .i64 f.per, .int .i64 f.inc]] w (RetSA f w) := by
  have E := Lib.hid (V9.new (c := c) hA)
  have HL := Lib.hid hA.1
  clear hA
  go_enter Try.func42, Try.ntmps42
  go_upto_region 1 with fail
  generalize hwe : w.alloc (.cells #[.slice A n c, .int .i64 f.per, .int .i64 f.inc] 46) = we at *
  clear hwe
  obtain ⟨⟨f0, f1, f2⟩, _, hlf⟩ := E.out.fb.c3
  go_wp2_with fail
  refine (refValid_any A n c f.per f.inc f.vals _ (by exact E.out.ja) (by omega)).mono ?_
  rintro e w1 ⟨rfl, hb⟩
  replace E := Lib.hid (E.out.below hb)
  clear hb
  try clear hHeld
  clear f0 f1 f2 hlf
  obtain ⟨⟨f0, f1, f2⟩, _, hlf⟩ := E.out.fb.c3
  by_cases ok : f.Ok
  case neg =>
    have d1 : Cv.okB ⟨f.vals, f.per, f.inc⟩ = false := by
      cases h : Cv.okB ⟨f.vals, f.per, f.inc⟩
      · rfl
      · exact absurd (Cv.okB_iff.1 h) ok
    have FIN := Lib.hid (show SaS f false 1 from .inl ⟨ok, rfl, rfl⟩)
    clear ok
    rw [d1]
    have bw := E.out.bw
    go_wp2_with fail
    first | go_ret2 | go_ret
    exact ⟨false, 1, FIN.out, rfl, bw⟩
  case pos =>
    have d1 : Cv.okB ⟨f.vals, f.per, f.inc⟩ = true := Cv.okB_iff.2 ok
    have OK := Lib.hid ok
    clear ok
    rw [d1]
    go_wp2_with fail
    refine (refLeast_any A n c f.per f.inc f.vals _ (by exact E.out.ja) hnc (by exact OK.out.pre)).mono ?_
    rintro e w2 ⟨r, A9, n9, c9, hS, hc9, rfl, hI9, hA9, hb⟩
    obtain ⟨hnf, ro, _⟩ := LeastS.ok OK.out (show LeastS f r from hS)
    have RO := Lib.hid ro; have NF9 := Lib.hid hnf
    have I9 := Lib.hid hI9
    clear hS hc9 hI9 hA9 ro hnf
    replace E := Lib.hid (E.out.below hb)
    clear hb
    try clear hHeld
    clear f0 f1 f2 hlf
    obtain ⟨⟨f0, f1, f2⟩, _, hlf⟩ := E.out.fb.c3
    go_wp2_with fail
    refine (adds9_any A9 n9 c9 r _ (by exact I9.out) RO.out).mono ?_
    rintro e w3 ⟨⟨z, hz, rfl⟩, hb⟩
    have FIN := Lib.hid (show SaS f z 0 from .inr ⟨OK.out, ⟨r, NF9.out, hz⟩, rfl⟩)
    clear hz
    replace E := Lib.hid (E.out.below hb)
    clear hb
    try clear hHeld
    clear f0 f1 f2 hlf
    obtain ⟨⟨f0, f1, f2⟩, _, hlf⟩ := E.out.fb.c3
    have bw := E.out.bw
    go_wp2_with fail
    first | go_ret2 | go_ret
    exact ⟨z, 0, FIN.out, rfl, bw⟩
/-- a list of values -/
def RetVs (g : Nat → Int) (N : Nat) (w : World) (e : Ending) (w' : World) : Prop :=
  ∃ A c, e = .returned (.slice A N c) ∧ N ≤ c ∧ Ints w' w'.heap.size A N (tab g 0 N) ∧ (∀ b off s, A = some ⟨b, off, s⟩ → w.heap.size ≤ b) ∧ Below w.heap.size w w'
/-- the values of a closure -/
theorem clo_near {f : Cv} (hf : f.Ok) {t : Nat} (ht : t ≤ 4000) : 0 ≤ clo f.at t ∧ (clo f.at t = inf ∨ clo f.at t ≤ 1152921504606846976) := by
  refine ⟨clo_nn hf.up0.nn t, ?_⟩
  by_cases hi : f.at 1 = inf
  · rcases Nat.eq_zero_or_pos t with e | e
    · subst e; right; rw [clo_zero]; omega
    · left; exact clo_inf (fun t ht => (((nfa_at hf (by omega)).1 hi).later hf ht).2) e
  · right
    have h1 : f.at 1 ≤ 2147483648 := by
      rcases hf.fin_or with hF | hF
      · have hF' : f.Fin := hF
        have := hF'.at_bd 1; omega
      · by_cases k : 1 < f.vals.length
        · have := (okv_iff _).1 (hf.v 1 k)
          rw [← Cv.at_lt k] at this
          have := this.resolve_left hi
          omega
        · exact absurd (hf.at_inf hF (by omega)) hi
    have := clo_bd hf.up0.nn h1 t (by omega)
    omega
theorem tab_snoc9 (h : Nat → Int) (k : Nat) : tab h 0 k ++ [h k] = tab h 0 (k + 1) := by
  refine list_ext (by simp [tab_length]) (fun q hq => ?_)
  simp [tab_length] at hq
  rw [nth_append, tab_length, tab_nth _ _ _ _ hq, Nat.zero_add]
  by_cases hqj : q < k
  · rw [if_pos hqj, tab_nth _ _ _ _ hqj, Nat.zero_add]
  · rw [if_neg hqj, show q = k by omega, Nat.sub_self]; rfl
end Go.Proofs.Ythdibkmjoiipgaa
