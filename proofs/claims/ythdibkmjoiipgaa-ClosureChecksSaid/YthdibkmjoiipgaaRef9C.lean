/- netcalculusref09: Values. -/
import Derived.Test.YthdibkmjoiipgaaRef9B
namespace Go.Proofs.Ythdibkmjoiipgaa
open Go.RowKit
set_option linter.unusedVariables false

set_option maxHeartbeats 4000000 in
set_option maxRecDepth 100000 in
theorem values9_any (A : Option Addr) (n c : Nat) (f : Cv) (N : Nat) (w : World) (hA : Ints w w.heap.size A n f.vals) (hf : f.Ok) (hN1 : 1 ≤ N) (hN : N ≤ 2000) :
    Calls Try.prog 44 #[.agg #[.slice A n c, .int .i64 f.per, .int .i64 f.inc], .int .i64 N] w (RetVs (clo f.at) N w) := by
  have a1 := hf.n1; have a2 := hf.n2; have a3 := hf.p1; have a4 := hf.p2; have a5 := hf.pn; have a6 := hf.i1; have a7 := hf.i2
  have hln : f.vals.length = n := hA.1
  rw [hln] at a1 a2 a5
  have E := Lib.hid (V9.new (c := c) hA)
  have HF := Lib.hid hf
  obtain ⟨C, hC⟩ : ∃ C, C = clo f.at := ⟨_, rfl⟩
  have NEAR := Lib.hid (show ∀ t, t ≤ 2000 → 0 ≤ C t ∧ (C t = inf ∨ C t ≤ 1152921504606846976) from fun t ht => by rw [hC]; exact clo_near hf (by omega))
  have HCI := Lib.hid (show ∀ t, 1 ≤ t → CloI f.at C t t (C t) from fun t ht => by rw [hC]; exact clo_I f.at ht)
  have HC0 := Lib.hid (show C 0 = 0 from by rw [hC]; exact clo_zero f.at)
  rw [← hC]
  clear hA hf hln hC
  go_enter Try.func44, Try.ntmps44
  go_upto_region 1 with fail
  generalize hwe : w.alloc (.cells #[.slice A n c, .int .i64 f.per, .int .i64 f.inc] 46) = we at *
  clear hwe
  have hsz := E.out.fb.lt
  have OWN := Lib.hid (Own.one_ we 0 (base := w.heap.size + 1) (by omega))
  have E := Lib.hid (E.out.alloc (.cells #[.int .i64 0] 3))
  go_upto_region 2 with fail
  generalize hwe : we.alloc (.cells #[.int .i64 0] 3) = w1 at *
  clear hwe
  generalize (some (Addr.mk we.heap.size 0 none)) = Am0 at *
  go_wp2_with fail
  go_loopg [5, 6, 7, 8] (N - 1) (fun gg s5 s6 s7 s8 wx => ∃ (t : Nat) (Am : Option Addr) (cm : Nat), t + gg = N ∧ 1 ≤ t ∧ s5 = .slice Am t cm ∧ s6 = .int .i64 t ∧ Own wx (w.heap.size + 1) (.slice Am t cm) t (tab C 0 t) ∧ V9 w wx A n c f)
  case atStart => exact ⟨1, Am0, 1, by omega, by omega, rfl, rfl, by
    have : tab C 0 1 = [0] := by
      refine list_ext rfl fun k hk => ?_
      have hk' : k < 1 := hk
      rw [tab_nth _ _ _ _ hk', Nat.zero_add, show k = 0 by omega, HC0.out]
      rfl
    rw [this]
    exact OWN.out, E.out⟩
  case round =>
    clear OWN E
    obtain ⟨t, Am, cm, htg, ht1, rfl, rfl, hOWN, hE⟩ := hrel
    have OWN := Lib.hid hOWN; have E := Lib.hid hE
    clear hOWN hE
    obtain ⟨go, hgo⟩ : ∃ go : Nat, go = gk := ⟨_, rfl⟩
    subst hgo
    by_cases ht : t < N
    case neg =>
      obtain rfl : t = N := by omega
      have hti : ¬ (t : Int) < (t : Int) := by omega
      obtain ⟨A9, c9, hsl, hc9, hI9, hf9⟩ := OWN.out.ints
      injection hsl with q1 q2 q3
      subst q1 q3
      have I9 := Lib.hid hI9; have F9 := Lib.hid hf9; have C9 := Lib.hid hc9
      clear hI9 hf9 hc9 q2
      have bw := E.out.bw
      go_wp2_with fail
      go_ret
      exact ⟨Am, cm, rfl, C9.out, I9.out, (fun b off s h => by have := F9.out b off s h; omega), bw⟩
    case pos =>
      have hti : (t : Int) < (N : Int) := by omega
      obtain ⟨⟨f0, f1, f2⟩, _, hlf⟩ := E.out.fb.c3
      obtain ⟨x, hx⟩ : ∃ x, x = f.at t := ⟨_, rfl⟩
      have HX := Lib.hid hx
      clear hx
      go_wp2_with fail
      refine (refAt_any A n c f.per f.inc (t : Int) f.vals _ (by exact E.out.ja) (by omega) (by omega) (by omega) (by omega) (by omega) HF.out.nn (by omega) (by omega)).mono ?_
      rw [Int.toNat_natCast, ← HX.out]
      rintro e w7 ⟨rfl, hb⟩
      replace E := Lib.hid (E.out.below hb)
      replace OWN := Lib.hid (OWN.out.below hb (fun g hg => (OWN.out.blk_lt g hg).2))
      clear hb
      clear f0 f1 f2 hlf
      go_wp2_with fail
      go_loopg [7, 8] (t - 1) (fun gg s7 s8 wx => ∃ (s : Nat) (v : Int), s + gg = t ∧ 1 ≤ s ∧ s7 = .int .i64 v ∧ s8 = .int .i64 s ∧ CloI f.at C t s v ∧ Own wx (w.heap.size + 1) (.slice Am t cm) t (tab C 0 t) ∧ V9 w wx A n c f)
      case atStart => exact ⟨1, x, by omega, by omega, rfl, rfl, by rw [HX.out]; exact CloI.start, OWN.out, E.out⟩
      case round =>
        clear OWN E
        obtain ⟨s, v, hsg, hs1, rfl, rfl, hI, hOWN, hE⟩ := hrel
        have OWN := Lib.hid hOWN; have E := Lib.hid hE; have HI := Lib.hid hI
        clear hOWN hE hI
        by_cases hs : s < t
        case pos =>
          have hsi : (s : Int) < (t : Int) := by omega
          obtain ⟨u, hz⟩ : ∃ u : Nat, u = t - s := ⟨_, rfl⟩
          have hzt : u < t := by omega
          have ez1 : IntKind.i64.wrap ((t : Int) - (s : Int)) = (u : Int) := by rw [IntWalk.i64_in _ (by omega)]; omega
          have ez2 : (t : Int) - (s : Int) = (u : Int) := by omega
          have ez3 : IntKind.i64.wrap (u : Int) = (u : Int) := IntWalk.i64_in _ (by omega)
          have hzti : (u : Int) < (t : Int) := by omega
          have hz0 : 0 ≤ (u : Int) := by omega
          obtain ⟨A9, c9, hsl, hc9, hI9, hf9⟩ := OWN.out.ints
          injection hsl with q1 q2 q3
          subst q1 q3
          obtain ⟨b, off, hAe, hbl, hcell⟩ := hI9.2 (by omega)
          subst hAe
          have cs := hcell s hs; have cz := hcell u hzt
          rw [tab_nth _ _ _ _ hs, Nat.zero_add] at cs
          rw [tab_nth _ _ _ _ hzt, Nat.zero_add] at cz
          obtain ⟨x1, hx1⟩ : ∃ x1, x1 = C s := ⟨_, rfl⟩
          obtain ⟨x2, hx2⟩ : ∃ x2, x2 = C u := ⟨_, rfl⟩
          rw [← hx1] at cs
          rw [← hx2] at cz
          have N1 := Lib.hid (NEAR.out s (by omega)); have N2 := Lib.hid (NEAR.out u (by omega))
          rw [← hx1] at N1
          rw [← hx2] at N2
          obtain ⟨y, hy⟩ : ∃ y, y = pl x1 x2 := ⟨_, rfl⟩
          obtain ⟨m', hm'⟩ : ∃ m', m' = min v y := ⟨_, rfl⟩
          have hmn : (if y < v then y else v) = m' := by rw [hm']; split <;> omega
          have NI := Lib.hid (show CloI f.at C t (s + 1) m' from by
            have := HI.out.step hs1
            rw [← hz, ← hx1, ← hx2, ← hy, ← hm'] at this
            exact this)
          have HY := Lib.hid hy
          clear hx1 hx2 hy hm' hz hcell hI9 hf9 hc9 q2
          have CS := Lib.hid cs; have CZ := Lib.hid cz
          go_upto_region 9 with fail
          replace E := Lib.hid (V9.drew E.out); replace OWN := Lib.hid (show Own wr.drew (w.heap.size + 1) (.slice (some ⟨b, off, none⟩) t cm) t (tab C 0 t) from World.ownsRow.drew OWN.out)
          refine wp_region_held_drew (S := (fun w' => w'.cell? ⟨b, off + s, none⟩ = some (.int .i64 x1) ∧ w'.cell? ⟨b, off + u, none⟩ = some (.int .i64 x2))) (by kernel_rfl) (by exact ⟨cs, cz⟩) (fun hHeld => ?_)
          clear cs cz
          have cs : wr.drew.cell? ⟨b, off + s, none⟩ = some (.int .i64 x1) := CS.out
          have cz : wr.drew.cell? ⟨b, off + u, none⟩ = some (.int .i64 x2) := CZ.out
          have hbl : b < wr.drew.heap.size := hbl
          clear CS CZ
          generalize hwd : wr.drew = wd at *
          clear hwd
          refine wpAnyH_take (i := 0) (oi := _) (v := ?_) (by simp only [g8a, g8z]; rfl) (by kernel_rfl) (by kernel_rfl) (by kernel_rfl) (by exact fun _ _ _ h => h) (Or.inl ⟨by rfl, ?_⟩) (by assumption) ?_
          rotate_left 1
          · (intro w hSw; (try dsimp only at hSw); go_simp; try with_reducible rfl)
          all_goals ((try simp only [Act.put]); try simp only [g8b, g8c, g8d])
          refine wpAnyH_take (i := 1) (oi := _) (v := ?_) (by simp only [g8a, g8s, g8z]; rfl) (by kernel_rfl) (by kernel_rfl) (by kernel_rfl) (by exact fun _ _ _ h => h) (Or.inl ⟨by rfl, ?_⟩) (by assumption) ?_
          rotate_left 1
          · (intro w hSw; (try dsimp only at hSw); go_simp; try with_reducible rfl)
          all_goals ((try simp only [Act.put]); try simp only [g8b, g8c, g8d])
          refine wpAnyH_take (i := 2) (oi := _) (v := ?_) (by simp only [g8a, g8s, g8z]; rfl) (by kernel_rfl) (by kernel_rfl) (by kernel_rfl) (by exact fun _ _ _ h => h) (Or.inl ⟨by rfl, ?_⟩) (by assumption) ?_
          rotate_left 1
          · (intro w hSw; (try dsimp only at hSw); go_simp; try with_reducible rfl)
          all_goals ((try simp only [Act.put]); try simp only [g8b, g8c, g8d])
          refine wpAnyH_take (i := 3) (oi := _) (v := ?_) (by simp only [g8a, g8s, g8z]; rfl) (by kernel_rfl) (by kernel_rfl) (by kernel_rfl) (by exact fun _ _ _ h => h) (Or.inl ⟨by rfl, ?_⟩) (by assumption) ?_
          rotate_left 1
          · (intro w hSw; (try dsimp only at hSw); go_simp; try with_reducible rfl)
          all_goals ((try simp only [Act.put]); try simp only [g8b, g8c, g8d])
          refine wpAnyH_take (i := 4) (oi := _) (v := ?_) (by simp only [g8a, g8s, g8z]; rfl) (by kernel_rfl) (by kernel_rfl) (by kernel_rfl) (by exact fun _ _ _ h => h) (Or.inl ⟨by rfl, ?_⟩) (by assumption) ?_
          rotate_left 1
          · (intro w hSw; (try dsimp only at hSw); go_simp; try with_reducible rfl)
          all_goals ((try simp only [Act.put]); try simp only [g8b, g8c, g8d])
          refine wpAnyH_take (i := 5) (oi := _) (v := ?_) (by simp only [g8a, g8s, g8z]; rfl) (by kernel_rfl) (by kernel_rfl) (by kernel_rfl) (by exact fun _ _ _ h => h) (Or.inl ⟨by rfl, ?_⟩) (by assumption) ?_
          rotate_left 1
          · (intro w hSw; (try dsimp only at hSw); go_simp; try with_reducible rfl)
          all_goals ((try simp only [Act.put]); try simp only [g8b, g8c, g8d])
          refine wpAnyH_take (i := 6) (oi := _) (v := ?_) (by simp only [g8a, g8s, g8z]; rfl) (by kernel_rfl) (by kernel_rfl) (by kernel_rfl) (by exact fun _ _ _ h => h) (Or.inl ⟨by rfl, ?_⟩) (by assumption) ?_
          rotate_left 1
          · (intro w hSw; (try dsimp only at hSw); go_simp; try with_reducible rfl)
          all_goals ((try simp only [Act.put]); try simp only [g8b, g8c, g8d])
          refine wpAnyH_take (i := 7) (oi := _) (v := ?_) (by simp only [g8a, g8s, g8z]; rfl) (by kernel_rfl) (by kernel_rfl) (by kernel_rfl) (by exact fun _ _ _ h => h) (Or.inl ⟨by rfl, ?_⟩) (by assumption) ?_
          rotate_left 1
          · (intro w hSw; (try dsimp only at hSw); go_simp; try with_reducible rfl)
          all_goals ((try simp only [Act.put]); try simp only [g8b, g8c, g8d])
          refine wpAnyH_take (i := 8) (oi := _) (v := ?_) (by simp only [g8a, g8s, g8z]; rfl) (by kernel_rfl) (by kernel_rfl) (by kernel_rfl) (by exact fun _ _ _ h => h) (Or.inl ⟨by rfl, ?_⟩) (by assumption) ?_
          rotate_left 1
          · (intro w hSw; (try dsimp only at hSw); go_simp; try with_reducible rfl)
          all_goals ((try simp only [Act.put]); try simp only [g8b, g8c, g8d])
          refine wpAnyH_take (i := 9) (oi := _) (v := ?_) (by simp only [g8a, g8s, g8z]; rfl) (by kernel_rfl) (by kernel_rfl) (by kernel_rfl) (by exact fun _ _ _ h => h) (Or.inl ⟨by rfl, ?_⟩) (by assumption) ?_
          rotate_left 1
          · (intro w hSw; (try dsimp only at hSw); go_simp; try with_reducible rfl)
          all_goals ((try simp only [Act.put]); try simp only [g8b, g8c, g8d])
          refine wpAnyH_take (i := 10) (oi := _) (v := ?_) (by simp only [g8a, g8s, g8z]; rfl) (by kernel_rfl) (by kernel_rfl) (by kernel_rfl) (by exact fun _ _ _ h => h) (Or.inl ⟨by rfl, ?_⟩) (by assumption) ?_
          rotate_left 1
          · (intro w hSw; (try dsimp only at hSw); go_simp; try with_reducible rfl)
          all_goals ((try simp only [Act.put]); try simp only [g8b, g8c, g8d])
          clear ez1 ez2 ez3
          refine wpAnyH_ready (rs := [11]) (by kernel_rfl) (by simp) ?_
          refine (AllReadyH.cons (by simp only [g8a, g8s, g8z]; rfl) (fun K hK => ?_) AllReadyH.nil)
          rw [if_pos (by rfl)]
          go_simp
          refine (plus9_any x1 x2 _ (by exact N1.out.1) (by exact N1.out.2) (by exact N2.out.1) (by exact N2.out.2)).mono ?_
          rw [← HY.out]
          rintro e wc ⟨rfl, rfl⟩
          refine hK.out _ _ (by exact ⟨cs, cz⟩) (fun hHeld => ?_)
          clear hK K
          (try simp only [Act.put]); try simp only [g8b, g8c, g8d]
          refine wpAnyH_ready (rs := [12]) (by kernel_rfl) (by simp) ?_
          refine (AllReadyH.cons (by simp only [g8a, g8s, g8z]; rfl) (fun K hK => ?_) AllReadyH.nil)
          rw [if_pos (by rfl)]
          go_simp
          refine hK.out _ _ (by exact ⟨cs, cz⟩) (fun hHeld => ?_)
          clear hK K
          (try simp only [Act.put]); try simp only [g8b, g8c, g8d]
          refine wpAnyH_take (i := 13) (oi := _) (v := ?_) (by simp only [g8a, g8s, g8z]; rfl) (by kernel_rfl) (by kernel_rfl) (by kernel_rfl) (by exact fun _ _ _ h => h) (Or.inl ⟨by rfl, ?_⟩) (by assumption) ?_
          rotate_left 1
          · (intro w hSw; (try dsimp only at hSw); go_simp; try with_reducible rfl)
          all_goals ((try simp only [Act.put]); try simp only [g8b, g8c, g8d])
          refine wpAnyH_done (by kernel_rfl) ?_ _
          clear hHeld hmn
          clear cs cz
          go_wp2_with fail
          go_roundg (gk - 1)
          case measure => omega
          case rel => exact ⟨s + 1, m', by omega, by omega, rfl, by go_num, NI.out, OWN.out, E.out⟩
        case neg =>
          have hsi : ¬ (s : Int) < (t : Int) := by omega
          obtain rfl : s = t := by omega
          have HZ := Lib.hid (show v = C s from HI.out.unique (HCI.out s ht1))
          clear HI
          have OWNx := Lib.hid (OWN.out.alloc (.cells ([v].map (Value.int .i64)).toArray 3))
          have IAy := ints_litC wr [v]
          rw [World.size_alloc] at IAy
          have hPb : w.heap.size + 1 ≤ wr.heap.size := E.out.fb.lt
          go_upto_region 10 with fail
          go_wp2_with (at_builtin; refine wpList_app rfl _ _ 29 rfl Try.underlying29 (w.heap.size + 1) (.slice Am s cm) s (tab C 0 s) rfl OWNx.out (wr.heap.size + 1) (some ⟨wr.heap.size, 0, none⟩) 1 1 [v] rfl IAy (by omega) (by simp; omega) ?_)
          intro v2 wn own2 grow2 at2
          have hb5 : Below (w.heap.size + 1) wr wn := ((Below.refl (w.heap.size + 1) wr).alloc hPb _).grown grow2 (by simp; omega) (fun g hg => (OWN.out.blk_lt g hg).1)
          obtain ⟨A9, c9, rfl, hc9, hI9, hf9⟩ := own2.ints
          rw [HZ.out, tab_snoc9] at own2
          have OWN := Lib.hid own2
          have E := Lib.hid (E.out.upto hb5 (Nat.le_refl _))
          clear own2 grow2 at2 hI9 hf9 hc9 hb5 OWNx IAy hPb
          go_wp2_with fail
          go_roundg (go - 1)
          case measure => omega
          case rel => exact ⟨s + 1, A9, c9, by omega, by omega, rfl, by go_num, OWN.out, E.out⟩
end Go.Proofs.Ythdibkmjoiipgaa
