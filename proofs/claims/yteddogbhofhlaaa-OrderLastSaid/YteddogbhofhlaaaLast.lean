/- The statement OrderLast: the walk. -/
import Derived.Test.YteddogbhofhlaaaEnv2
import Derived.Test.YteddogbhofhlaaaValue4
import Derived.Test.YteddogbhofhlaaaLastLaw
namespace Go.Proofs.Yteddogbhofhlaaa
open Go.RowKit
set_option linter.unusedVariables false

/-- f is not above g at the ticks from s to N -/
def NoUpIn (f g : Cv) (s N : Nat) : Prop := ∀ j, s ≤ j → j < N → ¬ Up f g j
theorem NoUpIn.zero (f g : Cv) (s : Nat) : NoUpIn f g s s := fun j h1 h2 => by omega
theorem NoUpIn.succ {f g : Cv} {s N : Nat} (h : NoUpIn f g s N) (h1 : ¬ Up f g N) : NoUpIn f g s (N + 1) := fun j a b => by
  by_cases e : j = N
  · rw [e]; exact h1
  · exact h j a (by omega)

set_option maxHeartbeats 8000000 in
set_option maxRecDepth 100000 in
theorem lastLaw_any (A0 : Option Addr) (n0 c0 : Nat) (L : List Int) (w : World) (hL : Ints w w.heap.size A0 n0 L) (hc0 : n0 ≤ c0) (hn0 : (n0 : Int) ≤ 9223372036854775807) :
    Calls Try.prog 9 #[.slice A0 n0 c0] w fun e w' => e = .returned (.bool true) ∧ Below w.heap.size w w' := by
  go_enter Try.func9, Try.ntmps9
  go_wp2_with fail
  refine (new_any A0 n0 c0 L w hL hc0 hn0).mono ?_
  rintro e w1 ⟨rfl, hS1, hb1⟩
  have hpl := hS1.lt
  clear hL
  go_wp2_with fail
  refine (srcCurve_any w.heap.size 7 w1 hS1 (by omega) (by omega)).mono ?_
  rintro e w2 ⟨f, A, n, c, hD, rfl, hI, hA, hS2, hk2⟩
  go_wp2_with fail
  refine (srcCurve_any w.heap.size 7 w2 hS2 (by omega) (by omega)).mono ?_
  rintro e w3 ⟨g, B, m, d, hD2, rfl, hI2, hB, hS3, hk3⟩
  have E := Lib.hid (Env2.drawn (c := c) (d := d) (kstep (Kept.of hb1) hk2) hI hA hpl hI2 hB hS2.lt hS3 hk3)
  have hn : n ≤ 15 := by have h1 := hD.len; have h2 : f.vals.length = n := hI.1; have : (7 : Int).toNat = 7 := rfl; omega
  have hm : m ≤ 15 := by have h1 := hD2.len; have h2 : g.vals.length = m := hI2.1; have : (7 : Int).toNat = 7 := rfl; omega
  have HD := Lib.hid (show DrawC 7 f from hD); have HD2 := Lib.hid (show DrawC 7 g from hD2)
  clear hD hI hA hS1 hS2 hk2 hb1 hpl hD2 hI2 hB hS3 hk3
  as_aux_lemma =>
  obtain ⟨f0, f1, f2, g0, g1, g2, hlf, hlg, hlp⟩ := E.out.cells
  go_wp2_with fail
  refine (settles_any A B n m c d f.per f.inc g.per g.inc f.vals g.vals _ E.out.lf.ints E.out.lg.ints (by omega) (by omega)).mono ?_
  intro e w4 hr
  obtain ⟨t, ok, h1, rfl, hb⟩ := RetE.ok HD.out.ok HD2.out.ok hr
  as_aux_lemma =>
  have E := Lib.hid (E.out.below hb)
  clear hr hb
  clear f0 f1 f2 g0 g1 g2 hlf hlg hlp
  obtain ⟨f0, f1, f2, g0, g1, g2, hlf, hlg, hlp⟩ := E.out.cells
  rcases h1 with ⟨rfl, tn, rfl, h1, h2⟩ | ⟨rfl, rfl, h1⟩
  · have hAM := Lib.hid (show AtM f g ((tn : Int) == 0) from .inl ⟨HD.out.ok, HD2.out.ok, by
      rw [beq_iff_eq]
      constructor
      · intro h0 k; exact h1 k (by omega)
      · intro hk
        rcases tn with _ | u
        · rfl
        · exact absurd (h2 u rfl) (hk u)⟩)
    obtain ⟨b, hb⟩ : ∃ b, ((tn : Int) == 0) = b := ⟨_, rfl⟩
    rw [hb] at hAM
    have d0 : decide ((tn : Int) < 0) = false := by simp
    have H1 := Lib.hid h1; have H2 := Lib.hid h2
    clear h1 h2
    go_wp2_with fail
    refine (atMost_any A B n m c d f.per f.inc g.per g.inc f.vals g.vals _ E.out.lf.ints E.out.lg.ints (by omega) (by omega)).mono ?_
    intro q w5 hr
    obtain ⟨rfl, hbq⟩ := RetM.of hAM.out hr
    as_aux_lemma =>
    have E := Lib.hid (E.out.below hbq)
    have HB := Lib.hid hb
    clear hr hbq hAM d0
    clear f0 f1 f2 g0 g1 g2 hlf hlg hlp
    obtain ⟨f0, f1, f2, g0, g1, g2, hlf, hlg, hlp⟩ := E.out.cells
    by_cases ht : (100000 : Int) < (tn : Int)
    · go_wp2_with fail
      refine (awake4_any _).mono ?_
      rintro q wq ⟨rfl, hbq⟩
      have bw := (E.out.below hbq).fin
      go_wp2_with fail
      go_ret
      exact ⟨rfl, bw⟩
    · have ht' : (tn : Int) ≤ 100000 := by omega
      have dt : decide ((100000 : Int) < (tn : Int)) = false := by simp; omega
      clear ht
      go_wp2_with fail
      clear hb dt
      clear f0 f1 f2 g0 g1 g2 hlf hlg hlp
      go_loopg [11] 60 (fun gg s11 wx => ∃ k : Nat, k + gg = 60 ∧ s11 = .int .i64 k ∧ Env2 w.heap.size w wx w3.heap.size A n c f (w3.heap.size + 1) B m d g)
      case atStart => exact ⟨0, rfl, rfl, E.out⟩
      case round =>
        as_aux_lemma =>
        obtain ⟨k, hkg, rfl, hE⟩ := hrel
        clear E
        have E := Lib.hid hE
        clear hE
        obtain ⟨f0, f1, f2, g0, g1, g2, hlf, hlg, hlp⟩ := E.out.cells
        by_cases hk : k < 60
        · have hki : (k : Int) < 60 := by omega
          go_wp2_with fail
          refine (n_any w.heap.size 500 _ E.out.s (by omega) (by omega)).mono ?_
          rintro q w6 ⟨z, hz0, hz1, rfl, hS, hkk⟩
          obtain ⟨z, rfl⟩ := Int.eq_ofNat_of_zero_le hz0
          have E := Lib.hid (E.out.kept hS hkk)
          clear hS hkk
          clear f0 f1 f2 g0 g1 g2 hlf hlg hlp
          obtain ⟨f0, f1, f2, g0, g1, g2, hlf, hlg, hlp⟩ := E.out.cells
          obtain ⟨x, hx⟩ : ∃ x, x = f.at (tn + z) := ⟨_, rfl⟩
          obtain ⟨y, hy⟩ : ∃ y, y = g.at (tn + z) := ⟨_, rfl⟩
          have HX := Lib.hid hx; have HY := Lib.hid hy
          clear hx hy
          have TN := Lib.hid (show ((tn : Int) + (z : Int)).toNat = tn + z by omega)
          have hxy : decide (y < x) = false := by
            have h := H1.out (tn + z) (by omega)
            rw [up_iff HD.out.ok HD2.out.ok (by omega), ← HX.out, ← HY.out] at h
            simpa using h
          have HXY := Lib.hid hxy
          clear hxy
          go_upto_region 20 with fail
          go_cut [80] (fun s80 wz => s80 = .bool false ∧ Below w6.heap.size w6 wz)
          case first =>
            have BZ := Lib.hid (Below.refl w6.heap.size w6)
            go_region_held3 (fun w' => w'.cell? ⟨w3.heap.size, 0, none⟩ = some (.slice A n c) ∧ w'.cell? ⟨w3.heap.size, 1, none⟩ = some (.int .i64 f.per) ∧ w'.cell? ⟨w3.heap.size, 2, none⟩ = some (.int .i64 f.inc) ∧
                w'.cell? ⟨w3.heap.size + 1, 0, none⟩ = some (.slice B m d) ∧ w'.cell? ⟨w3.heap.size + 1, 1, none⟩ = some (.int .i64 g.per) ∧ w'.cell? ⟨w3.heap.size + 1, 2, none⟩ = some (.int .i64 g.inc)) (first | go_keep)
              (first
                | (go_at_call_of 38 (Value.agg #[.slice A n c, .int .i64 f.per, .int .i64 f.inc])
                   refine (value4_any A n c f.per f.inc _ f.vals _ (by exact E.out.lf.ints) HD.out.ok (by omega) (by omega)).mono ?_
                   rw [TN.out, ← HX.out]
                   rintro q wq ⟨rfl, hbq⟩
                   have E := Lib.hid (E.out.below (by first | exact hbq | exact bofdrew hbq))
                   have BZ := Lib.hid (bthen BZ.out (by first | exact hbq | exact bofdrew hbq))
                   clear hbq
                   clear f0 f1 f2 g0 g1 g2 hlf hlg hlp
                   obtain ⟨f0, f1, f2, g0, g1, g2, hlf, hlg, hlp⟩ := E.out.cells)
                | (go_at_call_of 38 (Value.agg #[.slice B m d, .int .i64 g.per, .int .i64 g.inc])
                   refine (value4_any B m d g.per g.inc _ g.vals _ (by exact E.out.lg.ints) HD2.out.ok (by omega) (by omega)).mono ?_
                   rw [TN.out, ← HY.out]
                   rintro q wq ⟨rfl, hbq⟩
                   have E := Lib.hid (E.out.below (by first | exact hbq | exact bofdrew hbq))
                   have BZ := Lib.hid (bthen BZ.out (by first | exact hbq | exact bofdrew hbq))
                   clear hbq
                   clear f0 f1 f2 g0 g1 g2 hlf hlg hlp
                   obtain ⟨f0, f1, f2, g0, g1, g2, hlf, hlg, hlp⟩ := E.out.cells))
            all_goals
              go_wp2_with fail
              go_meet
              exact ⟨by rw [← HXY.out], BZ.out⟩
          case rest =>
            as_aux_lemma =>
            obtain ⟨rfl, bz⟩ := hcut
            have E := Lib.hid (E.out.below bz)
            clear bz
            clear f0 f1 f2 g0 g1 g2 hlf hlg hlp
            obtain ⟨f0, f1, f2, g0, g1, g2, hlf, hlg, hlp⟩ := E.out.cells
            go_wp2_with fail
            go_roundg (gk - 1)
            case measure => omega
            case rel => exact ⟨k + 1, by omega, by go_num, E.out⟩
        · have hk60 : k = 60 := by omega
          subst hk60
          clear hk hkg
          cases b
          case true =>
            have htn : tn = 0 := by have := HB.out; simpa using this
            subst htn
            go_wp2_with fail
            refine wp_region_held_drew (S := fun _ => True) (by kernel_rfl) trivial (fun hHeld => ?_)
            refine wpAnyH_take (i := 0) (oi := _) (v := ?v0) (by simp only [List.getElem?_toArray, List.getElem?_cons_zero]; rfl) (by kernel_rfl) (by kernel_rfl) (by kernel_rfl) (by exact fun _ _ _ h => h) (Or.inl ⟨by rfl, ?y0⟩) trivial ?r0
            case y0 => (intro w _; go_simp; try with_reducible rfl)
            all_goals try simp only [Act.put, List.setIfInBounds_toArray, List.set_cons_zero, List.set_cons_succ]
            refine wpAnyH_take (i := 1) (oi := _) (v := ?v1) (by simp only [List.getElem?_toArray, List.getElem?_cons_succ, List.getElem?_cons_zero]; rfl) (by kernel_rfl) (by kernel_rfl) (by kernel_rfl) (by exact fun _ _ _ h => h) (Or.inl ⟨by rfl, ?y1⟩) trivial ?r1
            case y1 => (intro w _; go_simp; try with_reducible rfl)
            all_goals try simp only [Act.put, List.setIfInBounds_toArray, List.set_cons_zero, List.set_cons_succ]
            refine wpAnyH_take (i := 2) (oi := _) (v := ?v2) (by simp only [List.getElem?_toArray, List.getElem?_cons_succ, List.getElem?_cons_zero]; rfl) (by kernel_rfl) (by kernel_rfl) (by kernel_rfl) (by exact fun _ _ _ h => h) (Or.inl ⟨by rfl, ?y2⟩) trivial ?r2
            case y2 => (intro w _; go_simp; try with_reducible rfl)
            all_goals try simp only [Act.put, List.setIfInBounds_toArray, List.set_cons_zero, List.set_cons_succ]
            refine wpAnyH_take (i := 3) (oi := _) (v := undef) (by simp only [List.getElem?_toArray, List.getElem?_cons_succ, List.getElem?_cons_zero]; rfl) (by kernel_rfl) (by kernel_rfl) (by kernel_rfl) (by exact fun _ _ _ h => h) (Or.inr ⟨by rfl, rfl⟩) trivial ?_
            try simp only [Act.put, List.setIfInBounds_toArray, List.set_cons_zero, List.set_cons_succ]
            refine wpAnyH_take (i := 4) (oi := _) (v := undef) (by simp only [List.getElem?_toArray, List.getElem?_cons_succ, List.getElem?_cons_zero]; rfl) (by kernel_rfl) (by kernel_rfl) (by kernel_rfl) (by exact fun _ _ _ h => h) (Or.inr ⟨by rfl, rfl⟩) trivial ?_
            try simp only [Act.put, List.setIfInBounds_toArray, List.set_cons_zero, List.set_cons_succ]
            refine wpAnyH_take (i := 5) (oi := _) (v := undef) (by simp only [List.getElem?_toArray, List.getElem?_cons_succ, List.getElem?_cons_zero]; rfl) (by kernel_rfl) (by kernel_rfl) (by kernel_rfl) (by exact fun _ _ _ h => h) (Or.inr ⟨by rfl, rfl⟩) trivial ?_
            try simp only [Act.put, List.setIfInBounds_toArray, List.set_cons_zero, List.set_cons_succ]
            refine wpAnyH_take (i := 6) (oi := _) (v := undef) (by simp only [List.getElem?_toArray, List.getElem?_cons_succ, List.getElem?_cons_zero]; rfl) (by kernel_rfl) (by kernel_rfl) (by kernel_rfl) (by exact fun _ _ _ h => h) (Or.inr ⟨by rfl, rfl⟩) trivial ?_
            try simp only [Act.put, List.setIfInBounds_toArray, List.set_cons_zero, List.set_cons_succ]
            refine wpAnyH_take (i := 7) (oi := _) (v := undef) (by simp only [List.getElem?_toArray, List.getElem?_cons_succ, List.getElem?_cons_zero]; rfl) (by kernel_rfl) (by kernel_rfl) (by kernel_rfl) (by exact fun _ _ _ h => h) (Or.inr ⟨by rfl, rfl⟩) trivial ?_
            try simp only [Act.put, List.setIfInBounds_toArray, List.set_cons_zero, List.set_cons_succ]
            refine wpAnyH_take (i := 8) (oi := _) (v := undef) (by simp only [List.getElem?_toArray, List.getElem?_cons_succ, List.getElem?_cons_zero]; rfl) (by kernel_rfl) (by kernel_rfl) (by kernel_rfl) (by exact fun _ _ _ h => h) (Or.inr ⟨by rfl, rfl⟩) trivial ?_
            try simp only [Act.put, List.setIfInBounds_toArray, List.set_cons_zero, List.set_cons_succ]
            refine wpAnyH_take (i := 9) (oi := _) (v := undef) (by simp only [List.getElem?_toArray, List.getElem?_cons_succ, List.getElem?_cons_zero]; rfl) (by kernel_rfl) (by kernel_rfl) (by kernel_rfl) (by exact fun _ _ _ h => h) (Or.inr ⟨by rfl, rfl⟩) trivial ?_
            try simp only [Act.put, List.setIfInBounds_toArray, List.set_cons_zero, List.set_cons_succ]
            refine wpAnyH_take (i := 10) (oi := _) (v := undef) (by simp only [List.getElem?_toArray, List.getElem?_cons_succ, List.getElem?_cons_zero]; rfl) (by kernel_rfl) (by kernel_rfl) (by kernel_rfl) (by exact fun _ _ _ h => h) (Or.inr ⟨by rfl, rfl⟩) trivial ?_
            try simp only [Act.put, List.setIfInBounds_toArray, List.set_cons_zero, List.set_cons_succ]
            refine wpAnyH_take (i := 11) (oi := _) (v := undef) (by simp only [List.getElem?_toArray, List.getElem?_cons_succ, List.getElem?_cons_zero]; rfl) (by kernel_rfl) (by kernel_rfl) (by kernel_rfl) (by exact fun _ _ _ h => h) (Or.inr ⟨by rfl, rfl⟩) trivial ?_
            try simp only [Act.put, List.setIfInBounds_toArray, List.set_cons_zero, List.set_cons_succ]
            refine wpAnyH_take (i := 12) (oi := _) (v := ?v12) (by simp only [List.getElem?_toArray, List.getElem?_cons_succ, List.getElem?_cons_zero]; rfl) (by kernel_rfl) (by kernel_rfl) (by kernel_rfl) (by exact fun _ _ _ h => h) (Or.inl ⟨by rfl, ?y12⟩) trivial ?r12
            case y12 => (intro w _; go_simp; try with_reducible rfl)
            all_goals try simp only [Act.put, List.setIfInBounds_toArray, List.set_cons_zero, List.set_cons_succ]
            refine wpAnyH_take (i := 13) (oi := _) (v := ?v13) (by simp only [List.getElem?_toArray, List.getElem?_cons_succ, List.getElem?_cons_zero]; rfl) (by kernel_rfl) (by kernel_rfl) (by kernel_rfl) (by exact fun _ _ _ h => h) (Or.inl ⟨by rfl, ?y13⟩) trivial ?r13
            case y13 => (intro w _; go_simp; try with_reducible rfl)
            all_goals try simp only [Act.put, List.setIfInBounds_toArray, List.set_cons_zero, List.set_cons_succ]
            refine wpAnyH_ready (rs := [14]) (by kernel_rfl) (by simp) ?_
            refine AllReadyH.cons (by simp only [List.getElem?_toArray, List.getElem?_cons_succ, List.getElem?_cons_zero]; rfl) (fun K hK => ?_) AllReadyH.nil
            rw [if_pos (by rfl)]
            go_simp
            refine (awake4_any _).mono ?_
            rintro q wq ⟨rfl, hbq⟩
            have bw := (E.out.below (bofdrew hbq)).fin
            refine hK.out _ _ trivial (fun hHeld => ?_)
            clear hK K
            try simp only [Act.put, List.setIfInBounds_toArray, List.set_cons_zero, List.set_cons_succ]
            refine wpAnyH_take (i := 15) (oi := _) (v := ?v15) (by simp only [List.getElem?_toArray, List.getElem?_cons_succ, List.getElem?_cons_zero]; rfl) (by kernel_rfl) (by kernel_rfl) (by kernel_rfl) (by exact fun _ _ _ h => h) (Or.inl ⟨by rfl, ?y15⟩) trivial ?r15
            case y15 => (intro w _; go_simp; try with_reducible rfl)
            all_goals try simp only [Act.put, List.setIfInBounds_toArray, List.set_cons_zero, List.set_cons_succ]
            refine wpAnyH_take (i := 16) (oi := _) (v := ?v16) (by simp only [List.getElem?_toArray, List.getElem?_cons_succ, List.getElem?_cons_zero]; rfl) (by kernel_rfl) (by kernel_rfl) (by kernel_rfl) (by exact fun _ _ _ h => h) (Or.inl ⟨by rfl, ?y16⟩) trivial ?r16
            case y16 => (intro w _; go_simp; try with_reducible rfl)
            all_goals try simp only [Act.put, List.setIfInBounds_toArray, List.set_cons_zero, List.set_cons_succ]
            refine wpAnyH_done (by kernel_rfl) ?_ _
            go_wp2_with fail
            go_ret
            exact ⟨rfl, bw⟩
          case false =>
            obtain ⟨u, hu⟩ : ∃ u, tn = u + 1 := ⟨tn - 1, by have h := HB.out; simp at h; omega⟩
            have hb := HB.out
            have hb2 : (tn == 0) = false := by simpa using hb
            have e1 : IntKind.i64.wrap ((tn : Int) - 1) = (u : Int) := by rw [IntWalk.i64_in _ (by omega)]; omega
            have e2 : (tn : Int) - 1 = (u : Int) := by omega
            have e3 : IntKind.i64.wrap (u : Int) = (u : Int) := IntWalk.i64_in _ (by omega)
            have hub : (u : Int) ≤ 100000 := by omega
            have HU := Lib.hid hu
            clear hu
            obtain ⟨x, hx⟩ : ∃ x, x = f.at (u) := ⟨_, rfl⟩
            obtain ⟨y, hy⟩ : ∃ y, y = g.at (u) := ⟨_, rfl⟩
            have HX := Lib.hid hx; have HY := Lib.hid hy
            clear hx hy
            have hxy : y < x := by
              have h := H2.out u HU.out
              rw [up_iff HD.out.ok HD2.out.ok (by omega), ← HX.out, ← HY.out] at h
              exact h
            have dxy : decide (y < x) = true := by simpa using hxy
            have TN := Lib.hid (show ((u : Int)).toNat = u by omega)
            have BZ := Lib.hid (Below.refl wr.heap.size wr)
            clear hxy
            go_wp2_with fail
            go_region_held3 (fun w' => w'.cell? ⟨w3.heap.size, 0, none⟩ = some (.slice A n c) ∧ w'.cell? ⟨w3.heap.size, 1, none⟩ = some (.int .i64 f.per) ∧ w'.cell? ⟨w3.heap.size, 2, none⟩ = some (.int .i64 f.inc) ∧
                w'.cell? ⟨w3.heap.size + 1, 0, none⟩ = some (.slice B m d) ∧ w'.cell? ⟨w3.heap.size + 1, 1, none⟩ = some (.int .i64 g.per) ∧ w'.cell? ⟨w3.heap.size + 1, 2, none⟩ = some (.int .i64 g.inc)) (first | go_keep)
              (first
                | (go_at_call_of 38 (Value.agg #[.slice A n c, .int .i64 f.per, .int .i64 f.inc])
                   refine (value4_any A n c f.per f.inc _ f.vals _ (by exact E.out.lf.ints) HD.out.ok (by omega) (by omega)).mono ?_
                   rw [TN.out, ← HX.out]
                   rintro q wq ⟨rfl, hbq⟩
                   have E := Lib.hid (E.out.below (by first | exact hbq | exact bofdrew hbq))
                   have BZ := Lib.hid (bthen BZ.out (by first | exact hbq | exact bofdrew hbq))
                   clear hbq
                   clear f0 f1 f2 g0 g1 g2 hlf hlg hlp
                   obtain ⟨f0, f1, f2, g0, g1, g2, hlf, hlg, hlp⟩ := E.out.cells)
                | (go_at_call_of 38 (Value.agg #[.slice B m d, .int .i64 g.per, .int .i64 g.inc])
                   refine (value4_any B m d g.per g.inc _ g.vals _ (by exact E.out.lg.ints) HD2.out.ok (by omega) (by omega)).mono ?_
                   rw [TN.out, ← HY.out]
                   rintro q wq ⟨rfl, hbq⟩
                   have E := Lib.hid (E.out.below (by first | exact hbq | exact bofdrew hbq))
                   have BZ := Lib.hid (bthen BZ.out (by first | exact hbq | exact bofdrew hbq))
                   clear hbq
                   clear f0 f1 f2 g0 g1 g2 hlf hlg hlp
                   obtain ⟨f0, f1, f2, g0, g1, g2, hlf, hlg, hlp⟩ := E.out.cells)
                | (go_at_call 25
                   refine (awake4_any _).mono ?_
                   rintro q wq ⟨rfl, hbq⟩
                   have E := Lib.hid (E.out.below (by first | exact hbq | exact bofdrew hbq))
                   clear hbq
                   clear f0 f1 f2 g0 g1 g2 hlf hlg hlp
                   obtain ⟨f0, f1, f2, g0, g1, g2, hlf, hlg, hlp⟩ := E.out.cells))
            go_wp2_with fail
            have bw := E.out.fin
            go_ret
            exact ⟨rfl, bw⟩
  · have hAM := Lib.hid (show AtM f g false from .inl ⟨HD.out.ok, HD2.out.ok, by
      simp only [Bool.false_eq_true, false_iff]
      intro hk
      obtain ⟨k, _, hu⟩ := h1 0
      exact hk k hu⟩)
    have H1 := Lib.hid h1
    clear h1
    go_wp2_with fail
    refine (atMost_any A B n m c d f.per f.inc g.per g.inc f.vals g.vals _ E.out.lf.ints E.out.lg.ints (by omega) (by omega)).mono ?_
    intro q w5 hr
    obtain ⟨rfl, hbq⟩ := RetM.of hAM.out hr
    as_aux_lemma =>
    have E := Lib.hid (E.out.below hbq)
    clear hr hbq hAM
    clear f0 f1 f2 g0 g1 g2 hlf hlg hlp
    obtain ⟨f0, f1, f2, g0, g1, g2, hlf, hlg, hlp⟩ := E.out.cells
    go_wp2_with fail
    refine (n_any w.heap.size 1000 _ E.out.s (by omega) (by omega)).mono ?_
    rintro q w6 ⟨z, hz0, hz1, rfl, hS, hkk⟩
    as_aux_lemma =>
    obtain ⟨z, rfl⟩ := Int.eq_ofNat_of_zero_le hz0
    have E := Lib.hid (E.out.kept hS hkk)
    clear hS hkk
    clear f0 f1 f2 g0 g1 g2 hlf hlg hlp
    obtain ⟨s, hs⟩ : ∃ s : Nat, s = 100 + z := ⟨_, rfl⟩
    have hsI : (100 : Int) + (z : Int) = (s : Int) := by omega
    have hsb : s ≤ 1100 ∧ 100 ≤ s := by omega
    have LP := Lib.hid (last_plain HD.out HD2.out H1.out hsb.2)
    clear hs
    go_wp2_with fail
    clear hsI
    obtain ⟨W, hW⟩ : ∃ W : Nat, W = 40000 := ⟨_, rfl⟩
    have HW := Lib.hid hW
    clear hW
    go_loopg [10] W (fun gg s10 wx => ∃ N : Nat, N + gg = s + W ∧ s ≤ N ∧ s10 = .int .i64 N ∧ NoUpIn f g s N ∧ Below w6.heap.size w6 wx)
    case atStart => exact ⟨s, rfl, Nat.le_refl _, rfl, NoUpIn.zero _ _ _, Below.refl _ _⟩
    case round =>
      as_aux_lemma =>
      obtain ⟨N, hNg, hsN, rfl, hno, bx⟩ := hrel
      have E := Lib.hid (E.out.below bx); have BX := Lib.hid bx; have HNO := Lib.hid hno
      clear bx hno
      obtain ⟨f0, f1, f2, g0, g1, g2, hlf, hlg, hlp⟩ := E.out.cells
      by_cases hN : N < s + 40000
      · have hNi : (N : Int) < (s : Int) + 40000 := by omega
        have hNW : N < s + W := by rw [HW.out]; exact hN
        obtain ⟨x, hx⟩ : ∃ x, x = f.at (N) := ⟨_, rfl⟩
        obtain ⟨y, hy⟩ : ∃ y, y = g.at (N) := ⟨_, rfl⟩
        have HX := Lib.hid hx; have HY := Lib.hid hy
        clear hx hy
        have TN := Lib.hid (show ((N : Int)).toNat = N by omega)
        go_upto_region 11 with fail
        go_cut [61] (fun s61 wz => ∃ bb, s61 = .bool bb ∧ Hid (bb = decide (y < x)) ∧ Below wr.heap.size wr wz)
        case first =>
          have BZ := Lib.hid (Below.refl wr.heap.size wr)
          go_region_held3 (fun w' => w'.cell? ⟨w3.heap.size, 0, none⟩ = some (.slice A n c) ∧ w'.cell? ⟨w3.heap.size, 1, none⟩ = some (.int .i64 f.per) ∧ w'.cell? ⟨w3.heap.size, 2, none⟩ = some (.int .i64 f.inc) ∧
              w'.cell? ⟨w3.heap.size + 1, 0, none⟩ = some (.slice B m d) ∧ w'.cell? ⟨w3.heap.size + 1, 1, none⟩ = some (.int .i64 g.per) ∧ w'.cell? ⟨w3.heap.size + 1, 2, none⟩ = some (.int .i64 g.inc)) (first | go_keep)
            (first
              | (go_at_call_of 38 (Value.agg #[.slice A n c, .int .i64 f.per, .int .i64 f.inc])
                 refine (value4_any A n c f.per f.inc _ f.vals _ (by exact E.out.lf.ints) HD.out.ok (by omega) (by omega)).mono ?_
                 rw [TN.out, ← HX.out]
                 rintro q wq ⟨rfl, hbq⟩
                 have E := Lib.hid (E.out.below (by first | exact hbq | exact bofdrew hbq))
                 have BZ := Lib.hid (bthen BZ.out (by first | exact hbq | exact bofdrew hbq))
                 clear hbq
                 clear f0 f1 f2 g0 g1 g2 hlf hlg hlp
                 obtain ⟨f0, f1, f2, g0, g1, g2, hlf, hlg, hlp⟩ := E.out.cells)
              | (go_at_call_of 38 (Value.agg #[.slice B m d, .int .i64 g.per, .int .i64 g.inc])
                 refine (value4_any B m d g.per g.inc _ g.vals _ (by exact E.out.lg.ints) HD2.out.ok (by omega) (by omega)).mono ?_
                 rw [TN.out, ← HY.out]
                 rintro q wq ⟨rfl, hbq⟩
                 have E := Lib.hid (E.out.below (by first | exact hbq | exact bofdrew hbq))
                 have BZ := Lib.hid (bthen BZ.out (by first | exact hbq | exact bofdrew hbq))
                 clear hbq
                 clear f0 f1 f2 g0 g1 g2 hlf hlg hlp
                 obtain ⟨f0, f1, f2, g0, g1, g2, hlf, hlg, hlp⟩ := E.out.cells))
          all_goals
            go_wp2_with fail
            go_meet
            exact ⟨_, rfl, rfl, BZ.out⟩
        case rest =>
          as_aux_lemma =>
          obtain ⟨bb, rfl, hbb, bz⟩ := hcut
          have E := Lib.hid (E.out.below bz); have BX := Lib.hid (bthen BX.out bz)
          clear bz
          clear f0 f1 f2 g0 g1 g2 hlf hlg hlp
          obtain ⟨f0, f1, f2, g0, g1, g2, hlf, hlg, hlp⟩ := E.out.cells
          by_cases hxy : y < x
          · have hbt : bb = true := by have h := hbb.out; rw [h]; simpa using hxy
            subst hbt
            clear hxy hbb
            go_wp2_with fail
            refine (awake4_any _).mono ?_
            rintro q wq ⟨rfl, hbq⟩
            have bw := (E.out.below hbq).fin
            go_wp2_with fail
            go_ret
            exact ⟨rfl, bw⟩
          · have hbt : bb = false := by have h := hbb.out; rw [h]; simpa using hxy
            subst hbt
            have F := Lib.hid (HNO.out.succ (by rw [up_iff HD.out.ok HD2.out.ok (by omega), ← HX.out, ← HY.out]; exact hxy))
            clear hxy hbb
            go_wp2_with fail
            go_roundg (gk - 1)
            case measure => omega
            case rel => exact ⟨N + 1, by omega, by omega, by go_num, F.out, BX.out⟩
      · exfalso
        obtain ⟨k, h1, h2, h3⟩ := LP.out
        exact HNO.out k h1 (by have := HW.out; omega) h3
end Go.Proofs.Yteddogbhofhlaaa
