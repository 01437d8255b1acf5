/- netcalculusref11.Token and Steps: what they return. -/
import Derived.Test.YthdibkmjoiipgaaRefGd
import Derived.Test.YthdibkmjoiipgaaRefMade
import Derived.Test.YthdibkmjoiipgaaRefSame
import Derived.Test.YthdibkmjoiipgaaTok
import Derived.Test.YthdibkmjoiipgaaBk
import Derived.StillTailTactics
import Derived.Deep.QuietTactic
import Derived.BigQuiet
import Derived.BigRegion
import Derived.Outline
import Derived.Deep.DeepCutAuto
namespace Go.Proofs.Ythdibkmjoiipgaa
open Go.RowKit
set_option linter.unusedVariables false
attribute [local go_sem ↓] app_fold

theorem tok_all {B b R r : Int} (hB : GOk B b) (hR : GOk R r) (hr : r ≤ 120) : Pre ⟨tab (tokV B b R r) 0 (r.toNat + 1), r, R⟩ ∧ Up0 (Cv.at ⟨tab (tokV B b R r) 0 (r.toNat + 1), r, R⟩) ∧
    (∀ m t, m < (tab (tokV B b R r) 0 (r.toNat + 1)).length → nth (tab (tokV B b R r) 0 (r.toNat + 1)) m = inf → m ≤ t → Cv.at ⟨tab (tokV B b R r) 0 (r.toNat + 1), r, R⟩ t = inf) ∧ Cv.at ⟨tab (tokV B b R r) 0 (r.toNat + 1), r, R⟩ = tokV B b R r := by
  have hr0 := hR.1.1; have hR1 := hR.1.2.2.2.1; have hR0 := hR.2
  have TAB : ∀ t, Cv.at ⟨tab (tokV B b R r) 0 (r.toNat + 1), r, R⟩ t = tokV B b R r t := fun t => by
    have e : r = ((r.toNat : Nat) : Int) := by omega
    have := tab_at (h := tokV B b R r) (N := r.toNat + 1) (p := r.toNat) (i := R) (by omega) (by omega) (fun m t hm h _ => absurd h (small_ne (by have := tok_bd hB hR (k := m) (by omega); omega)))
      (fun m hm h => absurd h (small_ne (by have := tok_bd hB hR (k := m) (by omega); omega))) (fun _ => (tok_per hB.1.1 hr0).mono (by omega)) t
    rwa [← e] at this
  obtain ⟨h1, h2, h3⟩ := tab_pre (tok_up hB.2 hB.1.1 hR0 hr0) hr0 (by omega) hR0 (by omega) (by omega) (fun k hk => by have := tok_bd hB hR (k := k) (by omega); omega)
    (fun m t hm h _ => absurd h (small_ne (by have := tok_bd hB hR (k := m) (by omega); omega))) TAB
  exact ⟨h1, h2, h3, funext TAB⟩
theorem tab_snoc11 (h : Nat → Int) (k : Nat) : tab h 0 k ++ [h k] = tab h 0 (k + 1) := by simp [tab, List.range_succ]
theorem tok_at {B b R r : Int} (hb : 1 ≤ b) (hr : 1 ≤ r) {k : Nat} (hk : 1 ≤ k) : tokV B b R r k = B / b + R * ((k : Int) - 1) / r + (B % b * r + R * ((k : Int) - 1) % r * b) / (b * r) := by
  rw [tok_pos _ _ _ _ hk]; exact tok_parts hb hr
set_option maxHeartbeats 4000000 in
set_option maxRecDepth 100000 in
theorem refToken_any (B b R r : Int) (w : World) :
    Calls Try.prog 24 #[.agg #[.int .i64 B, .int .i64 b, .int .i64 R, .int .i64 r]] w (RetS2 (TokS B b R r) w) := by
  have PB := Lib.hid ((Blk.new w 27 #[.int .i64 B, .int .i64 b, .int .i64 R, .int .i64 r]).alloc (.cells #[.slice none 0 0, .int .i64 0, .int .i64 0] 46))
  have rb := Blk.new (w.alloc (.cells #[.int .i64 B, .int .i64 b, .int .i64 R, .int .i64 r] 27)) 46 #[.slice none 0 0, .int .i64 0, .int .i64 0]
  rw [World.size_alloc] at rb
  have RB := Lib.hid rb
  have BW := Lib.hid (bthen (balloc w (.cells #[.int .i64 B, .int .i64 b, .int .i64 R, .int .i64 r] 27)) (balloc _ (.cells #[.slice none 0 0, .int .i64 0, .int .i64 0] 46)))
  clear rb
  go_enter Try.func24, Try.ntmps24
  go_upto_region 1 with fail
  generalize hwe : (w.alloc (.cells #[.int .i64 B, .int .i64 b, .int .i64 R, .int .i64 r] 27)).alloc (.cells #[.slice none 0 0, .int .i64 0, .int .i64 0] 46) = w1 at *
  clear hwe
  obtain ⟨f0, f1, f2, f3⟩ : _ ∧ _ ∧ _ ∧ _ := ⟨PB.out.cell 0, PB.out.cell 1, PB.out.cell 2, PB.out.cell 3⟩
  simp at f0 f1 f2 f3
  have hlf := PB.out.lt
  go_wp2_with fail
  refine (rgood_any B b _).mono ?_
  by_cases hB : GOk B b
  · rw [gokB_t hB]
    rintro e w2 ⟨rfl, hb⟩
    replace PB := Lib.hid (PB.out.below hb PB.out.lt); replace RB := Lib.hid (RB.out.below hb RB.out.lt); replace BW := Lib.hid (bthen BW.out hb)
    have HB := Lib.hid hB
    clear hb hB
    clear f0 f1 f2 f3 hlf
    obtain ⟨f0, f1, f2, f3⟩ : _ ∧ _ ∧ _ ∧ _ := ⟨PB.out.cell 0, PB.out.cell 1, PB.out.cell 2, PB.out.cell 3⟩
    simp at f0 f1 f2 f3
    have hlf := PB.out.lt
    go_wp2_with fail
    refine (rgood_any R r _).mono ?_
    by_cases hR : GOk R r
    · rw [gokB_t hR]
      rintro e w3 ⟨rfl, hb⟩
      replace PB := Lib.hid (PB.out.below hb PB.out.lt); replace RB := Lib.hid (RB.out.below hb RB.out.lt); replace BW := Lib.hid (bthen BW.out hb)
      have HR := Lib.hid hR
      clear hb hR
      clear f0 f1 f2 f3 hlf
      obtain ⟨f0, f1, f2, f3⟩ : _ ∧ _ ∧ _ ∧ _ := ⟨PB.out.cell 0, PB.out.cell 1, PB.out.cell 2, PB.out.cell 3⟩
      simp at f0 f1 f2 f3
      have hlf := PB.out.lt
      have hb0 := HB.out.1.1; have hb1 := HB.out.1.2.1; have hB0 := HB.out.2; have hB1 := HB.out.1.2.2.2.1
      have hr0 := HR.out.1.1; have hr1 := HR.out.1.2.1; have hR0 := HR.out.2; have hR1 := HR.out.1.2.2.2.1
      by_cases hr : 120 < r
      · have F := Lib.hid (show TokS B b R r Cv.none 3 from .inr (.inl ⟨HB.out, HR.out, hr, rfl, rfl⟩))
        -- 3 the error
        obtain ⟨⟨r0, r1, r2⟩, ⟨y0, y1, y2⟩, hlr⟩ := RB.out.c3
        go_wp2_with fail
        have rb := RB.out.store3 (.slice none 0 0) (.int .i64 0) (.int .i64 0)
        exact bodyPost_ret (v := .tuple #[.agg #[.slice none 0 0, .int .i64 0, .int .i64 0], .int .i64 3]) (by simp [results, Try.results24, go_sem, rb.cell]) rfl (retS2_store0 F.out (by omega) BW.out)
      · have dr : decide ((120 : Int) < r) = false := by simp; omega
        have dR : decide ((1073741824 : Int) < R) = false := by simp; omega
        have hbn : b ≠ 0 := by omega
        have hrn : r ≠ 0 := by omega
        obtain ⟨Q, hQ⟩ : ∃ Q, Q = B / b := ⟨_, rfl⟩
        have hQ0 : 0 ≤ Q := by rw [hQ]; exact Int.ediv_nonneg hB0 (by omega)
        have hQ1 : Q ≤ B := by rw [hQ]; exact Int.ediv_le_self _ hB0
        have eQ : B / b = Q := hQ.symm
        have dQ : decide ((1073741824 : Int) < Q) = false := by simp; omega
        have e4 : B.tdiv b = Q := by rw [Int.tdiv_eq_ediv_of_nonneg hB0]; exact eQ
        have EQ := Lib.hid eQ
        clear eQ hQ
        have hr120 : r ≤ 120 := by omega
        clear hr
        have OWN := Lib.hid ((Own.one_ w3 0 (Nat.le_refl _)).alloc (.cells #[.slice (some ⟨w3.heap.size, 0, none⟩) 1 1, .int .i64 r, .int .i64 R] 46))
        have ob := Blk.new (w3.alloc (.cells #[.int .i64 0] 3)) 46 #[.slice (some ⟨w3.heap.size, 0, none⟩) 1 1, .int .i64 r, .int .i64 R]
        simp only [World.size_alloc] at ob
        have OB := Lib.hid ob
        have hPw := PB.out.lt; have hRw := RB.out.lt
        replace PB := Lib.hid ((PB.out.alloc (.cells #[.int .i64 0] 3)).alloc (.cells #[.slice (some ⟨w3.heap.size, 0, none⟩) 1 1, .int .i64 r, .int .i64 R] 46)); replace RB := Lib.hid ((RB.out.alloc (.cells #[.int .i64 0] 3)).alloc (.cells #[.slice (some ⟨w3.heap.size, 0, none⟩) 1 1, .int .i64 r, .int .i64 R] 46)); replace BW := Lib.hid (bthen (bthen BW.out (balloc w3 (.cells #[.int .i64 0] 3))) (balloc _ (.cells #[.slice (some ⟨w3.heap.size, 0, none⟩) 1 1, .int .i64 r, .int .i64 R] 46)))
        clear ob
        go_upto_region 6 with fail
        generalize hwo : (w3.alloc (.cells #[.int .i64 0] 3)).alloc (.cells #[.slice (some ⟨w3.heap.size, 0, none⟩) 1 1, .int .i64 r, .int .i64 R] 46) = wo at OWN OB PB RB BW ⊢
        clear hwo dr dR dQ
        clear f0 f1 f2 f3 hlf
        generalize w3.heap.size = L0 at OWN OB hPw hRw ⊢
        obtain ⟨P, hPL⟩ : ∃ P, P = L0 + 1 := ⟨_, rfl⟩
        rw [← hPL] at OB
        try rw [← hPL]
        have hLP : L0 < P := by omega
        obtain ⟨rn, rfl⟩ := Int.eq_ofNat_of_zero_le (show 0 ≤ r by omega)
        rw [tab_one (tokV B b R rn) (tok_zero _ _ _ _)] at OWN
        clear hPL
        go_wp2_with fail
        go_loopg [5] rn (fun gg s5 wx => ∃ (k : Nat) (Am : Option Addr) (cm : Nat), 1 ≤ k ∧ k + gg = rn + 1 ∧ s5 = .int .i64 k ∧ Blk wx P 46 #[.slice Am k cm, .int .i64 rn, .int .i64 R] ∧ Own wx L0 (.slice Am k cm) k (tab (tokV B b R rn) 0 k) ∧ Blk wx w.heap.size 27 #[.int .i64 B, .int .i64 b, .int .i64 R, .int .i64 rn] ∧ Blk wx (w.heap.size + 1) 46 #[.slice none 0 0, .int .i64 0, .int .i64 0] ∧ Below w.heap.size w wx)
        case atStart => exact ⟨1, _, 1, by omega, by omega, rfl, OB.out, OWN.out, PB.out, RB.out, BW.out⟩
        case round =>
          clear OB PB RB BW OWN
          obtain ⟨k, Am, cm, hk1, hkg, rfl, ob, own, pb, rb, bw⟩ := hrel
          have OB := Lib.hid ob; have OWN := Lib.hid own; have PB := Lib.hid pb; have RB := Lib.hid rb; have BW := Lib.hid bw
          clear ob own pb rb bw
          obtain ⟨f0, f1, f2, f3⟩ : _ ∧ _ ∧ _ ∧ _ := ⟨PB.out.cell 0, PB.out.cell 1, PB.out.cell 2, PB.out.cell 3⟩
          simp at f0 f1 f2 f3
          have hlf := PB.out.lt
          obtain ⟨⟨o0, o1, o2⟩, ⟨z0, z1, z2⟩, hlo⟩ := OB.out.c3
          by_cases hk : k ≤ rn
          · have hki : (k : Int) ≤ rn := by omega
            go_upto_block 1 with fail
            go_cut [] (fun wx => ∃ (A' : Option Addr) (c' : Nat), Blk wx P 46 #[.slice A' (k + 1) c', .int .i64 rn, .int .i64 R] ∧ Own wx L0 (.slice A' (k + 1) c') (k + 1) (tab (tokV B b R rn) 0 (k + 1)) ∧ Blk wx w.heap.size 27 #[.int .i64 B, .int .i64 b, .int .i64 R, .int .i64 rn] ∧ Blk wx (w.heap.size + 1) 46 #[.slice none 0 0, .int .i64 0, .int .i64 0] ∧ Below w.heap.size w wx)
            case first =>
              obtain ⟨m, hm⟩ : ∃ m : Nat, m = k - 1 := ⟨_, rfl⟩
              have e1 : IntKind.i64.wrap ((k : Int) - 1) = (m : Int) := by rw [IntWalk.i64_in _ (by omega)]; omega
              have hm0 : (m : Int) = (k : Int) - 1 := by omega
              obtain ⟨X, hX⟩ : ∃ X, X = R * (m : Int) := ⟨_, rfl⟩
              have hX0 : 0 ≤ X := by rw [hX]; exact Int.mul_nonneg hR0 (by omega)
              have hX1 : X ≤ 1073741824 * 120 := by rw [hX]; exact Int.mul_le_mul hR1 (by omega) (by omega) (by omega)
              have e2 : IntKind.i64.wrap (R * (m : Int)) = X := by rw [← hX]; exact IntWalk.i64_in _ (by omega)
              obtain ⟨Y, hY⟩ : ∃ Y, Y = X / (rn : Int) := ⟨_, rfl⟩
              have hY0 : 0 ≤ Y := by rw [hY]; exact Int.ediv_nonneg hX0 (by omega)
              have hY1 : Y ≤ X := by rw [hY]; exact Int.ediv_le_self _ hX0
              have e3 : X.tdiv (rn : Int) = Y := by rw [Int.tdiv_eq_ediv_of_nonneg hX0]; exact hY.symm
              obtain ⟨W, hW⟩ : ∃ W, W = Q + Y := ⟨_, rfl⟩
              have e5 : IntKind.i64.wrap (Q + Y) = W := by rw [hW]; exact IntWalk.i64_in _ (by omega)
              obtain ⟨q1, hq1⟩ : ∃ q1, q1 = B % b := ⟨_, rfl⟩
              have hq10 : 0 ≤ q1 := by rw [hq1]; exact Int.emod_nonneg _ (by omega)
              have hq11 : q1 < b := by rw [hq1]; exact Int.emod_lt_of_pos _ (by omega)
              have e6 : B.tmod b = q1 := by rw [Int.tmod_eq_emod_of_nonneg hB0]; exact hq1.symm
              obtain ⟨x1, hx1⟩ : ∃ x1, x1 = X % (rn : Int) := ⟨_, rfl⟩
              have hx10 : 0 ≤ x1 := by rw [hx1]; exact Int.emod_nonneg _ (by omega)
              have hx11 : x1 < rn := by rw [hx1]; exact Int.emod_lt_of_pos _ (by omega)
              have e7 : X.tmod (rn : Int) = x1 := by rw [Int.tmod_eq_emod_of_nonneg hX0]; exact hx1.symm
              obtain ⟨U, hU⟩ : ∃ U, U = q1 * (rn : Int) := ⟨_, rfl⟩
              have hU0 : 0 ≤ U := by rw [hU]; exact Int.mul_nonneg hq10 (by omega)
              have hU1 : U ≤ 1073741824 * 120 := by rw [hU]; exact Int.mul_le_mul (by omega) (by omega) (by omega) (by omega)
              have e8 : IntKind.i64.wrap (q1 * (rn : Int)) = U := by rw [← hU]; exact IntWalk.i64_in _ (by omega)
              obtain ⟨V, hV⟩ : ∃ V, V = x1 * b := ⟨_, rfl⟩
              have hV0 : 0 ≤ V := by rw [hV]; exact Int.mul_nonneg hx10 (by omega)
              have hV1 : V ≤ 120 * 1073741824 := by rw [hV]; exact Int.mul_le_mul (by omega) hb1 (by omega) (by omega)
              have e9 : IntKind.i64.wrap (x1 * b) = V := by rw [← hV]; exact IntWalk.i64_in _ (by omega)
              obtain ⟨Z, hZ⟩ : ∃ Z, Z = U + V := ⟨_, rfl⟩
              have e10 : IntKind.i64.wrap (U + V) = Z := by rw [hZ]; exact IntWalk.i64_in _ (by omega)
              obtain ⟨D, hD⟩ : ∃ D, D = b * (rn : Int) := ⟨_, rfl⟩
              have hD0 : 1 * 1 ≤ D := by rw [hD]; exact Int.mul_le_mul hb0 hr0 (by omega) (by omega)
              have hD1 : D ≤ 1073741824 * 120 := by rw [hD]; exact Int.mul_le_mul hb1 (by omega) (by omega) (by omega)
              have e11 : IntKind.i64.wrap (b * (rn : Int)) = D := by rw [← hD]; exact IntWalk.i64_in _ (by omega)
              obtain ⟨G, hG⟩ : ∃ G, G = Z / D := ⟨_, rfl⟩
              have hG0 : 0 ≤ G := by rw [hG]; exact Int.ediv_nonneg (by omega) (by omega)
              have hG1 : G ≤ Z := by rw [hG]; exact Int.ediv_le_self _ (by omega)
              have e12 : Z.tdiv D = G := by rw [Int.tdiv_eq_ediv_of_nonneg (by omega)]; exact hG.symm
              obtain ⟨T, hT⟩ : ∃ T, T = W + G := ⟨_, rfl⟩
              have e13 : IntKind.i64.wrap (W + G) = T := by rw [hT]; exact IntWalk.i64_in _ (by omega)
              have e14 : IntKind.i64.wrap G = G := IntWalk.i64_in _ (by omega)
              have hDn : D ≠ 0 := by omega
              have hrnn : (rn : Int) ≠ 0 := by omega
              have HT := Lib.hid (show T = tokV B b R rn k from by
                rw [tok_at hb0 hr0 hk1, hT, hW, hG, hZ, hU, hV, hx1, hq1, hD, hY, ← EQ.out, hX, hm0])
              clear hX hY hW hq1 hx1 hU hV hZ hD hG hT hm hm0
              go_wp2_with fail
              go_quiet (fail)
              have hdq := wr.drewN nq
              replace PB := Lib.hid (PB.out.drewN nq); replace RB := Lib.hid (RB.out.drewN nq); replace OB := Lib.hid (OB.out.drewN nq); replace OWN := Lib.hid (show Own (wr.drewN nq) _ _ _ _ from OWN.out); replace BW := Lib.hid (show Below _ _ (wr.drewN nq) from bdrewN BW.out)
              clear hdq
              clear f0 f1 f2 f3 hlf
              try clear o0 o1 o2 z0 z1 z2 hlo
              generalize wr.drewN nq = w9 at *
              obtain ⟨f0, f1, f2, f3⟩ : _ ∧ _ ∧ _ ∧ _ := ⟨PB.out.cell 0, PB.out.cell 1, PB.out.cell 2, PB.out.cell 3⟩
              simp at f0 f1 f2 f3
              have hlf := PB.out.lt
              go_wp2_with fail
              go_quiet (fail)
              have hdq := w9.drewN nq
              replace PB := Lib.hid (PB.out.drewN nq); replace RB := Lib.hid (RB.out.drewN nq); replace OB := Lib.hid (OB.out.drewN nq); replace OWN := Lib.hid (show Own (w9.drewN nq) _ _ _ _ from OWN.out); replace BW := Lib.hid (show Below _ _ (w9.drewN nq) from bdrewN BW.out)
              clear hdq
              clear f0 f1 f2 f3 hlf
              try clear o0 o1 o2 z0 z1 z2 hlo
              generalize w9.drewN nq = w10 at *
              obtain ⟨f0, f1, f2, f3⟩ : _ ∧ _ ∧ _ ∧ _ := ⟨PB.out.cell 0, PB.out.cell 1, PB.out.cell 2, PB.out.cell 3⟩
              simp at f0 f1 f2 f3
              have hlf := PB.out.lt
              obtain ⟨⟨o0, o1, o2⟩, ⟨z0, z1, z2⟩, hlo⟩ := OB.out.c3
              have HOB := Lib.hid (fun g hg => (OWN.out.blk_lt g hg).1); have NBO := Lib.hid (OWN.out.ne_blk OB.out (by decide)); have NBP := Lib.hid (OWN.out.ne_blk PB.out (by decide)); have NBR := Lib.hid (OWN.out.ne_blk RB.out (by decide))
              have hL10 : L0 ≤ w10.heap.size := by omega
              have hlit := ints_litC w10 [T]
              obtain ⟨v2, w2, hrun, own2, grow2, at2⟩ := run_appSem (w := (w10.alloc (.cells #[.int .i64 T] 3)).drew) (base := L0) (OWN.out.alloc _).drew 1 (A := some ⟨w10.heap.size, 0, none⟩) (m := 1) (zs := [T]) hlit (by omega) (by simp; omega)
              have b2 : Below w.heap.size w w2 := Below.grown (BW.out.alloc BW.out.size _).drew grow2 (by simp; have := BW.out.size; omega) (fun g hg => by have := HOB.out g hg; omega)
              have ob2 := Blk.grown (Blk.drew (OB.out.alloc _)) grow2 (fun e => NBO.out e.symm)
              have pb2 := Blk.grown (Blk.drew (PB.out.alloc _)) grow2 (fun e => NBP.out e.symm)
              have rb2 := Blk.grown (Blk.drew (RB.out.alloc _)) grow2 (fun e => NBR.out e.symm)
              have o20 := ob2.cell 0; have y20 := ob2.frozen 0
              simp at o20
              have hlo2 := ob2.lt
              obtain ⟨A2, c2, rfl, hc2, hI2, hf2⟩ := own2.ints
              rw [HT.out, tab_snoc11] at own2
              have OB2 := Lib.hid ob2; have OWN2 := Lib.hid own2; have B2 := Lib.hid b2; have PB2 := Lib.hid pb2; have RB2 := Lib.hid rb2
              clear at2 own2 b2 ob2 pb2 rb2 hI2 hf2 grow2 hlit
              go_wp2_with fail
              go_region
              all_goals
                go_wp2_with fail
                go_meet
                exact ⟨A2, c2, OB2.out.set_ 0 _, OWN2.out.far (OWN2.out.ne_blk OB2.out (by decide)) _, PB2.out.far (by show w.heap.size ≠ P; omega) _, RB2.out.far (by show w.heap.size + 1 ≠ P; omega) _, B2.out.setCell (by show w.heap.size ≤ P; omega) _⟩
            case rest =>
              clear OB OWN PB RB BW
              clear f0 f1 f2 f3 hlf
              clear o0 o1 o2 z0 z1 z2 hlo
              obtain ⟨A', c', ob, own, pb, rb, bw⟩ := hcut
              go_wp2_with fail
              go_roundg (gk - 1)
              case measure => omega
              case rel => exact ⟨k + 1, A', c', by omega, by omega, by go_num, ob, own, pb, rb, bw⟩
          · have hkn : k = rn + 1 := by omega
            have hki : ¬ (k : Int) ≤ rn := by omega
            subst hkn
            obtain ⟨p1, p2, p3, p4⟩ := tok_all HB.out HR.out hr120
            rw [Int.toNat_natCast] at p1 p2 p3 p4
            have P1 := Lib.hid p1; have P2 := Lib.hid p2; have P3 := Lib.hid p3; have P4 := Lib.hid p4
            clear p1 p2 p3 p4
            obtain ⟨A9, c9, e9, hc9, hI9, hf9⟩ := OWN.out.ints
            injection e9 with e91 e92 e93
            subst e91 e93
            have HI9 := Lib.hid hI9; have HC9 := Lib.hid hc9
            clear hI9 hf9 hc9 hk e92
            go_wp2_with fail
            refine (refMade_any Am (rn + 1) cm rn R (tab (tokV B b R rn) 0 (rn + 1)) _ HI9.out HC9.out P1.out P2.out P3.out).mono ?_
            rintro e wq ⟨f, er, A5, n5, c5, hS, hc5, rfl, hI5, hA5, hbq⟩
            have F := Lib.hid (show TokS B b R rn f er from .inr (.inr ⟨HB.out, HR.out, hr120, by rw [P4.out] at hS; exact hS⟩))
            have hrw := RB.out.lt
            replace RB := Lib.hid (RB.out.below hbq RB.out.lt); replace BW := Lib.hid (bthen BW.out hbq)
            have HI5 := Lib.hid hI5; have HA5 := Lib.hid hA5
            clear hS hI5 hA5 hbq
            clear f0 f1 f2 f3 hlf
            clear o0 o1 o2 z0 z1 z2 hlo
            obtain ⟨⟨r0, r1, r2⟩, ⟨y0, y1, y2⟩, hlr⟩ := RB.out.c3
            go_wp2_with fail
            have rb := RB.out.store3 (.slice A5 n5 c5) (.int .i64 f.per) (.int .i64 f.inc)
            exact bodyPost_ret (v := .tuple #[.agg #[.slice A5 n5 c5, .int .i64 f.per, .int .i64 f.inc], .int .i64 er]) (by simp [results, Try.results24, go_sem, rb.cell]) rfl (retS2_store F.out hc5 HA5.out (by omega) (by omega) HI5.out BW.out)
    · rw [gokB_f hR]
      rintro e w3 ⟨rfl, hb⟩
      replace PB := Lib.hid (PB.out.below hb PB.out.lt); replace RB := Lib.hid (RB.out.below hb RB.out.lt); replace BW := Lib.hid (bthen BW.out hb)
      have F := Lib.hid (show TokS B b R r Cv.none 2 from .inl ⟨fun h => hR h.2, rfl, rfl⟩)
      clear hb hR
      clear f0 f1 f2 f3 hlf
      obtain ⟨f0, f1, f2, f3⟩ : _ ∧ _ ∧ _ ∧ _ := ⟨PB.out.cell 0, PB.out.cell 1, PB.out.cell 2, PB.out.cell 3⟩
      simp at f0 f1 f2 f3
      have hlf := PB.out.lt
      -- 2 the error
      obtain ⟨⟨r0, r1, r2⟩, ⟨y0, y1, y2⟩, hlr⟩ := RB.out.c3
      go_wp2_with fail
      have rb := RB.out.store3 (.slice none 0 0) (.int .i64 0) (.int .i64 0)
      exact bodyPost_ret (v := .tuple #[.agg #[.slice none 0 0, .int .i64 0, .int .i64 0], .int .i64 2]) (by simp [results, Try.results24, go_sem, rb.cell]) rfl (retS2_store0 F.out (by omega) BW.out)
  · rw [gokB_f hB]
    rintro e w3 ⟨rfl, hb⟩
    replace PB := Lib.hid (PB.out.below hb PB.out.lt); replace RB := Lib.hid (RB.out.below hb RB.out.lt); replace BW := Lib.hid (bthen BW.out hb)
    have F := Lib.hid (show TokS B b R r Cv.none 2 from .inl ⟨fun h => hB h.1, rfl, rfl⟩)
    clear hb hB
    clear f0 f1 f2 f3 hlf
    obtain ⟨f0, f1, f2, f3⟩ : _ ∧ _ ∧ _ ∧ _ := ⟨PB.out.cell 0, PB.out.cell 1, PB.out.cell 2, PB.out.cell 3⟩
    simp at f0 f1 f2 f3
    have hlf := PB.out.lt
    -- 2 the error
    obtain ⟨⟨r0, r1, r2⟩, ⟨y0, y1, y2⟩, hlr⟩ := RB.out.c3
    go_wp2_with fail
    have rb := RB.out.store3 (.slice none 0 0) (.int .i64 0) (.int .i64 0)
    exact bodyPost_ret (v := .tuple #[.agg #[.slice none 0 0, .int .i64 0, .int .i64 0], .int .i64 2]) (by simp [results, Try.results24, go_sem, rb.cell]) rfl (retS2_store0 F.out (by omega) BW.out)
theorem st_all {S E A : Int} (h : StOk S E A) : Pre ⟨tab (stV S E A) 0 (E.toNat + 1), E, S⟩ ∧ Up0 (Cv.at ⟨tab (stV S E A) 0 (E.toNat + 1), E, S⟩) ∧
    (∀ m t, m < (tab (stV S E A) 0 (E.toNat + 1)).length → nth (tab (stV S E A) 0 (E.toNat + 1)) m = inf → m ≤ t → Cv.at ⟨tab (stV S E A) 0 (E.toNat + 1), E, S⟩ t = inf) ∧ Cv.at ⟨tab (stV S E A) 0 (E.toNat + 1), E, S⟩ = stV S E A := by
  have hh := h
  unfold StOk at hh
  have TAB : ∀ t, Cv.at ⟨tab (stV S E A) 0 (E.toNat + 1), E, S⟩ t = stV S E A t := fun t => by
    have e : E = ((E.toNat : Nat) : Int) := by omega
    have := tab_at (h := stV S E A) (N := E.toNat + 1) (p := E.toNat) (i := S) (by omega) (by omega) (fun m t hm h' _ => absurd h' (small_ne (by have := st_bd h (k := m) (by omega); omega)))
      (fun m hm h' => absurd h' (small_ne (by have := st_bd h (k := m) (by omega); omega))) (fun _ => (st_per (by omega)).mono (by omega)) t
    rwa [← e] at this
  obtain ⟨h1, h2, h3⟩ := tab_pre (st_up (S := S) (E := E) (A := A) (by omega) (by omega) (by omega)) (P := E) (I := S) (by omega) (by omega) (by omega) (by omega) (by omega) (fun k hk => by have := st_bd h (k := k) (by omega); omega)
    (fun m t hm h' _ => absurd h' (small_ne (by have := st_bd h (k := m) (by omega); omega))) TAB
  exact ⟨h1, h2, h3, funext TAB⟩
set_option maxHeartbeats 4000000 in
set_option maxRecDepth 100000 in
theorem refSteps_any (S E A : Int) (w : World) :
    Calls Try.prog 29 #[.agg #[.int .i64 S, .int .i64 E, .int .i64 A]] w (RetS2 (StS S E A) w) := by
  have PB := Lib.hid ((Blk.new w 44 #[.int .i64 S, .int .i64 E, .int .i64 A]).alloc (.cells #[.slice none 0 0, .int .i64 0, .int .i64 0] 46))
  have rb := Blk.new (w.alloc (.cells #[.int .i64 S, .int .i64 E, .int .i64 A] 44)) 46 #[.slice none 0 0, .int .i64 0, .int .i64 0]
  rw [World.size_alloc] at rb
  have RB := Lib.hid rb
  have BW := Lib.hid (bthen (balloc w (.cells #[.int .i64 S, .int .i64 E, .int .i64 A] 44)) (balloc _ (.cells #[.slice none 0 0, .int .i64 0, .int .i64 0] 46)))
  clear rb
  go_enter Try.func29, Try.ntmps29
  go_upto_region 1 with fail
  generalize hwe : (w.alloc (.cells #[.int .i64 S, .int .i64 E, .int .i64 A] 44)).alloc (.cells #[.slice none 0 0, .int .i64 0, .int .i64 0] 46) = w1 at *
  clear hwe
  obtain ⟨⟨f0, f1, f2⟩, _, hlf⟩ := PB.out.c3
  by_cases h1 : S < 0
  · have F := Lib.hid (show StS S E A Cv.none 2 from .inl ⟨fun h => by unfold StOk at h; omega, rfl, rfl⟩)
    obtain ⟨⟨r0, r1, r2⟩, ⟨y0, y1, y2⟩, hlr⟩ := RB.out.c3
    go_wp2_with fail
    have rb := RB.out.store3 (.slice none 0 0) (.int .i64 0) (.int .i64 0)
    exact bodyPost_ret (v := .tuple #[.agg #[.slice none 0 0, .int .i64 0, .int .i64 0], .int .i64 2]) (by simp [results, Try.results29, go_sem, rb.cell]) rfl (retS2_store0 F.out (by omega) BW.out)
  · by_cases h2 : 1073741824 < S
    · have F := Lib.hid (show StS S E A Cv.none 2 from .inl ⟨fun h => by unfold StOk at h; omega, rfl, rfl⟩)
      obtain ⟨⟨r0, r1, r2⟩, ⟨y0, y1, y2⟩, hlr⟩ := RB.out.c3
      go_wp2_with fail
      have rb := RB.out.store3 (.slice none 0 0) (.int .i64 0) (.int .i64 0)
      exact bodyPost_ret (v := .tuple #[.agg #[.slice none 0 0, .int .i64 0, .int .i64 0], .int .i64 2]) (by simp [results, Try.results29, go_sem, rb.cell]) rfl (retS2_store0 F.out (by omega) BW.out)
    · by_cases h3 : E < 1
      · have F := Lib.hid (show StS S E A Cv.none 2 from .inl ⟨fun h => by unfold StOk at h; omega, rfl, rfl⟩)
        obtain ⟨⟨r0, r1, r2⟩, ⟨y0, y1, y2⟩, hlr⟩ := RB.out.c3
        go_wp2_with fail
        have rb := RB.out.store3 (.slice none 0 0) (.int .i64 0) (.int .i64 0)
        exact bodyPost_ret (v := .tuple #[.agg #[.slice none 0 0, .int .i64 0, .int .i64 0], .int .i64 2]) (by simp [results, Try.results29, go_sem, rb.cell]) rfl (retS2_store0 F.out (by omega) BW.out)
      · by_cases h4 : 120 < E
        · have F := Lib.hid (show StS S E A Cv.none 2 from .inl ⟨fun h => by unfold StOk at h; omega, rfl, rfl⟩)
          obtain ⟨⟨r0, r1, r2⟩, ⟨y0, y1, y2⟩, hlr⟩ := RB.out.c3
          go_wp2_with fail
          have rb := RB.out.store3 (.slice none 0 0) (.int .i64 0) (.int .i64 0)
          exact bodyPost_ret (v := .tuple #[.agg #[.slice none 0 0, .int .i64 0, .int .i64 0], .int .i64 2]) (by simp [results, Try.results29, go_sem, rb.cell]) rfl (retS2_store0 F.out (by omega) BW.out)
        · by_cases h5 : A < 0
          · have F := Lib.hid (show StS S E A Cv.none 2 from .inl ⟨fun h => by unfold StOk at h; omega, rfl, rfl⟩)
            obtain ⟨⟨r0, r1, r2⟩, ⟨y0, y1, y2⟩, hlr⟩ := RB.out.c3
            go_wp2_with fail
            have rb := RB.out.store3 (.slice none 0 0) (.int .i64 0) (.int .i64 0)
            exact bodyPost_ret (v := .tuple #[.agg #[.slice none 0 0, .int .i64 0, .int .i64 0], .int .i64 2]) (by simp [results, Try.results29, go_sem, rb.cell]) rfl (retS2_store0 F.out (by omega) BW.out)
          · by_cases h6 : 1048576 < A
            · have F := Lib.hid (show StS S E A Cv.none 2 from .inl ⟨fun h => by unfold StOk at h; omega, rfl, rfl⟩)
              obtain ⟨⟨r0, r1, r2⟩, ⟨y0, y1, y2⟩, hlr⟩ := RB.out.c3
              go_wp2_with fail
              have rb := RB.out.store3 (.slice none 0 0) (.int .i64 0) (.int .i64 0)
              exact bodyPost_ret (v := .tuple #[.agg #[.slice none 0 0, .int .i64 0, .int .i64 0], .int .i64 2]) (by simp [results, Try.results29, go_sem, rb.cell]) rfl (retS2_store0 F.out (by omega) BW.out)
            · have OK := Lib.hid (show StOk S E A from by unfold StOk; omega)
              have d1 : decide (S < 0) = false := by simp; omega
              have d2 : decide ((1073741824 : Int) < S) = false := by simp; omega
              have d3 : decide (E < 1) = false := by simp; omega
              have d4 : decide ((120 : Int) < E) = false := by simp; omega
              have d5 : decide (A < 0) = false := by simp; omega
              have d6 : decide ((1048576 : Int) < A) = false := by simp; omega
              have s0 : 0 ≤ S := by omega
              have s1 : S ≤ 1073741824 := by omega
              have n0 : 1 ≤ E := by omega
              have n1 : E ≤ 120 := by omega
              have l0 : 0 ≤ A := by omega
              have l1 : A ≤ 1048576 := by omega
              have hEn : E ≠ 0 := by omega
              clear h1 h2 h3 h4 h5 h6
              go_upto_region 3 with fail
              have OWN := Lib.hid ((Own.one_ w1 0 (Nat.le_refl _)).alloc (.cells #[.slice (some ⟨w1.heap.size, 0, none⟩) 1 1, .int .i64 E, .int .i64 S] 46))
              have ob := Blk.new (w1.alloc (.cells #[.int .i64 0] 3)) 46 #[.slice (some ⟨w1.heap.size, 0, none⟩) 1 1, .int .i64 E, .int .i64 S]
              simp only [World.size_alloc] at ob
              have OB := Lib.hid ob
              have hPw := PB.out.lt; have hRw := RB.out.lt
              replace PB := Lib.hid ((PB.out.alloc (.cells #[.int .i64 0] 3)).alloc (.cells #[.slice (some ⟨w1.heap.size, 0, none⟩) 1 1, .int .i64 E, .int .i64 S] 46)); replace RB := Lib.hid ((RB.out.alloc (.cells #[.int .i64 0] 3)).alloc (.cells #[.slice (some ⟨w1.heap.size, 0, none⟩) 1 1, .int .i64 E, .int .i64 S] 46)); replace BW := Lib.hid (bthen (bthen BW.out (balloc w1 (.cells #[.int .i64 0] 3))) (balloc _ (.cells #[.slice (some ⟨w1.heap.size, 0, none⟩) 1 1, .int .i64 E, .int .i64 S] 46)))
              clear ob d1 d2 d3 d4 d5 d6
              go_upto_region 4 with fail
              generalize hwo : (w1.alloc (.cells #[.int .i64 0] 3)).alloc (.cells #[.slice (some ⟨w1.heap.size, 0, none⟩) 1 1, .int .i64 E, .int .i64 S] 46) = wo at OWN OB PB RB BW ⊢
              clear hwo
              clear f0 f1 f2 hlf
              generalize w1.heap.size = L0 at OWN OB hPw hRw ⊢
              obtain ⟨P, hPL⟩ : ∃ P, P = L0 + 1 := ⟨_, rfl⟩
              rw [← hPL] at OB
              try rw [← hPL]
              have hLP : L0 < P := by omega
              obtain ⟨en, rfl⟩ := Int.eq_ofNat_of_zero_le (show 0 ≤ E by omega)
              rw [tab_one (stV S en A) (st_zero _ _ _)] at OWN
              clear hPL
              go_wp2_with fail
              go_loopg [5] en (fun gg s5 wx => ∃ (k : Nat) (Am : Option Addr) (cm : Nat), 1 ≤ k ∧ k + gg = en + 1 ∧ s5 = .int .i64 k ∧ Blk wx P 46 #[.slice Am k cm, .int .i64 en, .int .i64 S] ∧ Own wx L0 (.slice Am k cm) k (tab (stV S en A) 0 k) ∧ Blk wx w.heap.size 44 #[.int .i64 S, .int .i64 en, .int .i64 A] ∧ Blk wx (w.heap.size + 1) 46 #[.slice none 0 0, .int .i64 0, .int .i64 0] ∧ Below w.heap.size w wx)
              case atStart => exact ⟨1, _, 1, by omega, by omega, rfl, OB.out, OWN.out, PB.out, RB.out, BW.out⟩
              case round =>
                clear OB PB RB BW OWN
                obtain ⟨k, Am, cm, hk1, hkg, rfl, ob, own, pb, rb, bw⟩ := hrel
                have OB := Lib.hid ob; have OWN := Lib.hid own; have PB := Lib.hid pb; have RB := Lib.hid rb; have BW := Lib.hid bw
                clear ob own pb rb bw
                obtain ⟨⟨f0, f1, f2⟩, _, hlf⟩ := PB.out.c3
                obtain ⟨⟨o0, o1, o2⟩, ⟨z0, z1, z2⟩, hlo⟩ := OB.out.c3
                by_cases hk : k ≤ en
                · have hki : (k : Int) ≤ en := by omega
                  go_upto_block 1 with fail
                  go_cut [] (fun wx => ∃ (A' : Option Addr) (c' : Nat), Blk wx P 46 #[.slice A' (k + 1) c', .int .i64 en, .int .i64 S] ∧ Own wx L0 (.slice A' (k + 1) c') (k + 1) (tab (stV S en A) 0 (k + 1)) ∧ Blk wx w.heap.size 44 #[.int .i64 S, .int .i64 en, .int .i64 A] ∧ Blk wx (w.heap.size + 1) 46 #[.slice none 0 0, .int .i64 0, .int .i64 0] ∧ Below w.heap.size w wx)
                  case first =>
                    obtain ⟨X, hX⟩ : ∃ X, X = (k : Int) + A := ⟨_, rfl⟩
                    have hX0 : 0 ≤ X := by omega
                    have hX1 : X ≤ 1048696 := by omega
                    have e1 : IntKind.i64.wrap ((k : Int) + A) = X := by rw [← hX]; exact IntWalk.i64_in _ (by omega)
                    obtain ⟨Y, hY⟩ : ∃ Y, Y = X + (en : Int) := ⟨_, rfl⟩
                    have hY0 : 1 ≤ Y := by omega
                    have hY1 : Y ≤ 1048816 := by omega
                    have e2 : IntKind.i64.wrap (X + (en : Int)) = Y := by rw [← hY]; exact IntWalk.i64_in _ (by omega)
                    obtain ⟨Z, hZ⟩ : ∃ Z, Z = Y - 1 := ⟨_, rfl⟩
                    have hZ0 : 0 ≤ Z := by omega
                    have hZ1 : Z ≤ 1048816 := by omega
                    have e3 : IntKind.i64.wrap (Y - 1) = Z := by rw [← hZ]; exact IntWalk.i64_in _ (by omega)
                    obtain ⟨G, hG⟩ : ∃ G, G = Z / (en : Int) := ⟨_, rfl⟩
                    have hG0 : 0 ≤ G := by rw [hG]; exact Int.ediv_nonneg hZ0 (by omega)
                    have hG1 : G ≤ Z := by rw [hG]; exact Int.ediv_le_self _ hZ0
                    have e4 : Z.tdiv (en : Int) = G := by rw [Int.tdiv_eq_ediv_of_nonneg hZ0]; exact hG.symm
                    have e5 : IntKind.i64.wrap G = G := IntWalk.i64_in _ (by omega)
                    obtain ⟨T, hT⟩ : ∃ T, T = S * G := ⟨_, rfl⟩
                    have hT0 : 0 ≤ T := by rw [hT]; exact Int.mul_nonneg s0 hG0
                    have hT1 : T ≤ 1073741824 * 1048816 := by rw [hT]; exact Int.mul_le_mul s1 (by omega) (by omega) (by omega)
                    have e6 : IntKind.i64.wrap (S * G) = T := by rw [← hT]; exact IntWalk.i64_in _ (by omega)
                    have HT := Lib.hid (show T = stV S en A k from by rw [st_pos _ _ _ hk1, hT, hG, hZ, hY, hX])
                    clear hX hY hZ hG hT
                    have HOB := Lib.hid (fun g hg => (OWN.out.blk_lt g hg).1); have NBO := Lib.hid (OWN.out.ne_blk OB.out (by decide)); have NBP := Lib.hid (OWN.out.ne_blk PB.out (by decide)); have NBR := Lib.hid (OWN.out.ne_blk RB.out (by decide))
                    have hL10 : L0 ≤ wr.heap.size := by omega
                    have hlit := ints_litC wr [T]
                    obtain ⟨v2, w2, hrun, own2, grow2, at2⟩ := run_appSem (w := (wr.alloc (.cells #[.int .i64 T] 3)).drew) (base := L0) (OWN.out.alloc _).drew 1 (A := some ⟨wr.heap.size, 0, none⟩) (m := 1) (zs := [T]) hlit (by omega) (by simp; omega)
                    have b2 : Below w.heap.size w w2 := Below.grown (BW.out.alloc BW.out.size _).drew grow2 (by simp; have := BW.out.size; omega) (fun g hg => by have := HOB.out g hg; omega)
                    have ob2 := Blk.grown (Blk.drew (OB.out.alloc _)) grow2 (fun e => NBO.out e.symm)
                    have pb2 := Blk.grown (Blk.drew (PB.out.alloc _)) grow2 (fun e => NBP.out e.symm)
                    have rb2 := Blk.grown (Blk.drew (RB.out.alloc _)) grow2 (fun e => NBR.out e.symm)
                    have o20 := ob2.cell 0; have y20 := ob2.frozen 0
                    simp at o20
                    have hlo2 := ob2.lt
                    obtain ⟨A2, c2, rfl, hc2, hI2, hf2⟩ := own2.ints
                    rw [HT.out, tab_snoc11] at own2
                    have OB2 := Lib.hid ob2; have OWN2 := Lib.hid own2; have B2 := Lib.hid b2; have PB2 := Lib.hid pb2; have RB2 := Lib.hid rb2
                    clear at2 own2 b2 ob2 pb2 rb2 hI2 hf2 grow2 hlit
                    go_wp2_with fail
                    go_region
                    all_goals
                      go_wp2_with fail
                      go_meet
                      exact ⟨A2, c2, OB2.out.set_ 0 _, OWN2.out.far (OWN2.out.ne_blk OB2.out (by decide)) _, PB2.out.far (by show w.heap.size ≠ P; omega) _, RB2.out.far (by show w.heap.size + 1 ≠ P; omega) _, B2.out.setCell (by show w.heap.size ≤ P; omega) _⟩
                  case rest =>
                    clear OB OWN PB RB BW
                    clear f0 f1 f2 hlf
                    clear o0 o1 o2 z0 z1 z2 hlo
                    obtain ⟨A', c', ob, own, pb, rb, bw⟩ := hcut
                    go_wp2_with fail
                    go_roundg (gk - 1)
                    case measure => omega
                    case rel => exact ⟨k + 1, A', c', by omega, by omega, by go_num, ob, own, pb, rb, bw⟩
                · have hkn : k = en + 1 := by omega
                  have hki : ¬ (k : Int) ≤ en := by omega
                  subst hkn
                  obtain ⟨p1, p2, p3, p4⟩ := st_all OK.out
                  rw [Int.toNat_natCast] at p1 p2 p3 p4
                  have P1 := Lib.hid p1; have P2 := Lib.hid p2; have P3 := Lib.hid p3; have P4 := Lib.hid p4
                  clear p1 p2 p3 p4
                  obtain ⟨A9, c9, e9, hc9, hI9, hf9⟩ := OWN.out.ints
                  injection e9 with e91 e92 e93
                  subst e91 e93
                  have HI9 := Lib.hid hI9; have HC9 := Lib.hid hc9
                  clear hI9 hf9 hc9 hk e92
                  go_wp2_with fail
                  refine (refMade_any Am (en + 1) cm en S (tab (stV S en A) 0 (en + 1)) _ HI9.out HC9.out P1.out P2.out P3.out).mono ?_
                  rintro e wq ⟨f, er, A5, n5, c5, hS, hc5, rfl, hI5, hA5, hbq⟩
                  have F := Lib.hid (show StS S en A f er from .inr ⟨OK.out, by rw [P4.out] at hS; exact hS⟩)
                  have hrw := RB.out.lt
                  replace RB := Lib.hid (RB.out.below hbq RB.out.lt); replace BW := Lib.hid (bthen BW.out hbq)
                  have HI5 := Lib.hid hI5; have HA5 := Lib.hid hA5
                  clear hS hI5 hA5 hbq
                  clear f0 f1 f2 hlf
                  clear o0 o1 o2 z0 z1 z2 hlo
                  obtain ⟨⟨r0, r1, r2⟩, ⟨y0, y1, y2⟩, hlr⟩ := RB.out.c3
                  go_wp2_with fail
                  have rb := RB.out.store3 (.slice A5 n5 c5) (.int .i64 f.per) (.int .i64 f.inc)
                  exact bodyPost_ret (v := .tuple #[.agg #[.slice A5 n5 c5, .int .i64 f.per, .int .i64 f.inc], .int .i64 er]) (by simp [results, Try.results29, go_sem, rb.cell]) rfl (retS2_store F.out hc5 HA5.out (by omega) (by omega) HI5.out BW.out)
end Go.Proofs.Ythdibkmjoiipgaa
