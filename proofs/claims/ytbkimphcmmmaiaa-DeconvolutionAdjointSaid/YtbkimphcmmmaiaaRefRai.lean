/- netcalculusref05.Raise: what it returns (as in XRefOne; never import both). -/
import Derived.Test.YtbkimphcmmmaiaaRefSw
import Derived.BigQuiet
import Derived.Deep.QuietTactic
import Derived.Deep.LoopGhost
import Derived.Deep.DeepCutAuto
import Derived.Test.YtbkimphcmmmaiaaPwLaw2
namespace Go.Proofs.Ytbkimphcmmmaiaa
open Go.RowKit
set_option linter.unusedVariables false


set_option maxHeartbeats 4000000 in
set_option maxRecDepth 100000 in
theorem refRaise_any (A : Option Addr) (n c : Nat) (p i d : Int) (xs : List Int) (w : World) (hA : Ints w w.heap.size A n xs) (hn : (n : Int) ≤ 1000000) (hnc : n ≤ c) :
    Calls Try.prog 47 #[.agg #[.slice A n c, .int .i64 p, .int .i64 i], .int .i64 d] w (RetS2 (RaiseS ⟨xs, p, i⟩ d) w) := by
-- netcalculus/netcalculusref05.Raise the function, {1} the relation, {2} the greatest number
  have E := Lib.hid (LB.new (p := p) (i := i) (c := c) hA)
  have HNC := Lib.hid hnc
  clear hA hnc
  go_enter Try.func47, Try.ntmps47
  go_wp2_with fail
  refine (refNormal_any A n c p i xs _ E.out.ints HNC.out hn).mono ?_
  rintro e w1 ⟨a, er, hN, A1, n1, c1, rfl, hI1, hA1, hb⟩
  simp only [World.size_alloc] at hA1
  have HN := Lib.hid hN
  have E1 := Lib.hid (E.out.below hb)
  have hs1 : w.heap.size + 1 < w1.heap.size := E1.out.rb.lt
  have FA := Lib.hid (By.new (L := w.heap.size + 1 + 1) (c := c1) hI1 hA1 (Nat.le_refl _) (by omega))
  have RB := Lib.hid (E1.out.rb.alloc (.cells #[.slice A1 n1 c1, .int .i64 a.per, .int .i64 a.inc] 31))
  have BW := Lib.hid (bthen E1.out.bw (balloc _ (.cells #[.slice A1 n1 c1, .int .i64 a.per, .int .i64 a.inc] 31)))
  clear hN hI1 hA1 hb E E1
  go_upto_region 2 with fail
  generalize hwz : w1.alloc (.cells #[.slice A1 n1 c1, .int .i64 a.per, .int .i64 a.inc] 31) = wz at *
  clear hwz
  obtain ⟨r0, r1, r2⟩ : _ ∧ _ ∧ _ := ⟨RB.out.cell 0, RB.out.cell 1, RB.out.cell 2⟩
  simp at r0 r1 r2
  have y0 := RB.out.frozen 0; have y1 := RB.out.frozen 1; have y2 := RB.out.frozen 2
  have hlr := RB.out.lt
  rcases HN.out with ⟨hfo, hnf, hao, rfl⟩ | ⟨hno, rfl, rfl⟩
  · by_cases hr : d < 0 ∨ 1073741824 < d
    · have F := Lib.hid (show RaiseS ⟨xs, p, i⟩ d Cv.none 2 from .inr (.inl ⟨hfo, hr, rfl, rfl⟩))
      clear HN hfo hnf hao
      rcases hr with hr | hr
      all_goals
        go_wp2_with fail
        -- an error is returned: 2 its number, netcalculus/netcalculusref05.Raise the function
        have rb := RB.out.store3 (.slice none 0 0) (.int .i64 0) (.int .i64 0)
        exact bodyPost_ret (v := .tuple #[.agg #[.slice none 0 0, .int .i64 0, .int .i64 0], .int .i64 2]) (by simp [results, Try.results47, go_sem, rb.cell]) rfl (retS2_store0 F.out (by omega) BW.out)
    · clear r0 r1 r2 y0 y1 y2 hlr
      have hd0 : 0 ≤ d := by omega
      have hd1 : d ≤ 1073741824 := by omega
      have g1 : decide (d < 0) = false := by simp; omega
      have g2 : decide ((1073741824 : Int) < d) = false := by simp; omega
      have ha1 := hao.n1; have ha2 := hao.n2; have hap := hao.p1; have hap2 := hao.p2; have hai := hao.i1; have hai2 := hao.i2; have hapn := hao.pn
      have hl1 : a.vals.length = n1 := FA.out.ints.1
      rw [hl1] at ha1 ha2 hapn
      have HFO := Lib.hid hfo; have HNF := Lib.hid hnf; have HAO := Lib.hid hao; have HL1 := Lib.hid hl1
      clear hr HN hfo hnf hao hl1
      obtain ⟨a0, a1, a2, hla⟩ := FA.out.cells
      go_upto_region 7 with fail
      have OWN := Lib.hid ((Own.one_ wz 0 (Nat.le_refl _)).alloc (.cells #[.slice (some ⟨wz.heap.size, 0, none⟩) 1 1, .int .i64 a.per, .int .i64 a.inc] 31))
      have ob := Blk.new (wz.alloc (.cells #[.int .i64 0] 3)) 31 #[.slice (some ⟨wz.heap.size, 0, none⟩) 1 1, .int .i64 a.per, .int .i64 a.inc]
      simp only [World.size_alloc] at ob
      have OB := Lib.hid ob
      have FA := Lib.hid ((FA.out.alloc (.cells #[.int .i64 0] 3)).alloc (.cells #[.slice (some ⟨wz.heap.size, 0, none⟩) 1 1, .int .i64 a.per, .int .i64 a.inc] 31))
      have RB := Lib.hid ((RB.out.alloc (.cells #[.int .i64 0] 3)).alloc (.cells #[.slice (some ⟨wz.heap.size, 0, none⟩) 1 1, .int .i64 a.per, .int .i64 a.inc] 31))
      have BW := Lib.hid (bthen (bthen BW.out (balloc wz (.cells #[.int .i64 0] 3))) (balloc _ (.cells #[.slice (some ⟨wz.heap.size, 0, none⟩) 1 1, .int .i64 a.per, .int .i64 a.inc] 31)))
      have hP : w1.heap.size < wz.heap.size := hla
      clear a0 a1 a2 hla ob
      generalize hwo : (wz.alloc (.cells #[.int .i64 0] 3)).alloc (.cells #[.slice (some ⟨wz.heap.size, 0, none⟩) 1 1, .int .i64 a.per, .int .i64 a.inc] 31) = wo at OWN OB FA RB BW ⊢
      clear hwo g1 g2
      generalize wz.heap.size = L0 at OWN OB hP ⊢
      obtain ⟨P, hPL⟩ : ∃ P, P = L0 + 1 := ⟨_, rfl⟩
      rw [← hPL] at OB
      try rw [← hPL]
      obtain ⟨pn, hpn⟩ := Int.eq_ofNat_of_zero_le (show 0 ≤ a.per by omega)
      obtain ⟨N, hN⟩ : ∃ N, N = n1 + pn + 1 := ⟨_, rfl⟩
      have hN1 : N ≤ 521 := by omega
      have hNp : a.per ≤ N := by omega
      have hNs : (n1 : Int) + a.per + 1 = (N : Int) := by omega
      have HN := Lib.hid (show a.vals.length + a.per.toNat + 1 = N from by rw [HL1.out]; omega)
      have hP1 : L0 < P := by omega
      clear hPL hN hpn
-- raiseV a d the values
      rw [tab_one (raiseV a d) raiseV_zero] at OWN
      go_wp2_with fail
      go_loopg [9] (N - 1) (fun gg s9 wx => ∃ (k : Nat) (Am : Option Addr) (cm : Nat), 1 ≤ k ∧ k + gg = N ∧ s9 = .int .i64 k ∧ Blk wx P 31 #[.slice Am k cm, .int .i64 a.per, .int .i64 a.inc] ∧ Own wx L0 (.slice Am k cm) k (tab (raiseV a d) 0 k) ∧
        By (w.heap.size + 1 + 1) wx w1.heap.size A1 n1 c1 a ∧ Blk wx (w.heap.size + 1) 31 #[.slice none 0 0, .int .i64 0, .int .i64 0] ∧ Below w.heap.size w wx)
      case atStart => exact ⟨1, _, 1, by omega, by omega, rfl, OB.out, OWN.out, FA.out, RB.out, BW.out⟩
      case round =>
        clear OB FA RB BW OWN
        obtain ⟨k, Am, cm, hk1, hkg, rfl, ob, own, fa, rb, bw⟩ := hrel
        have OB := Lib.hid ob; have OWN := Lib.hid own; have FA := Lib.hid fa; have RB := Lib.hid rb; have BW := Lib.hid bw
        clear ob own fa rb bw
        obtain ⟨a0, a1, a2, hla⟩ := FA.out.cells
        obtain ⟨o0, o1, o2⟩ : _ ∧ _ ∧ _ := ⟨OB.out.cell 0, OB.out.cell 1, OB.out.cell 2⟩
        simp at o0 o1 o2
        have z0 := OB.out.frozen 0
        have hlo := OB.out.lt
        by_cases hk : k < N
        · have hki : (k : Int) < N := by omega
          obtain ⟨x, hx⟩ : ∃ x, x = a.at k := ⟨_, rfl⟩
          have HX := Lib.hid hx
          have HMA := Lib.hid (at_mid HAO.out (t := k) (by omega))
          have HZ := Lib.hid (show pl x d = raiseV a d k from by rw [hx]; exact (raise_pl HAO.out hd1 (by omega) (by omega)).symm)
          clear hx hk
          go_wp2_with fail
          have FA := Lib.hid FA.out.drew; have RB := Lib.hid (Blk.drew RB.out); have BW := Lib.hid (Below.drew BW.out); have OB := Lib.hid (Blk.drew OB.out); have OWN := Lib.hid OWN.out.drew
          clear a0 a1 a2 hla
          clear o0 o1 o2 z0 hlo
          obtain ⟨a0, a1, a2, hla⟩ := FA.out.cells
          obtain ⟨o0, o1, o2⟩ : _ ∧ _ ∧ _ := ⟨OB.out.cell 0, OB.out.cell 1, OB.out.cell 2⟩
          simp at o0 o1 o2
          have z0 := OB.out.frozen 0
          have hlo := OB.out.lt
          have hF := And.intro a0 (And.intro a1 a2)
          have hG := o0
          refine wp_region_T (fun w' => w'.cell? ⟨w1.heap.size, 0, none⟩ = some (.slice A1 n1 c1) ∧ w'.cell? ⟨w1.heap.size, 1, none⟩ = some (.int .i64 a.per) ∧ w'.cell? ⟨w1.heap.size, 2, none⟩ = some (.int .i64 a.inc)) (fun w' => w'.cell? ⟨P, 0, none⟩ = some (.slice Am k cm)) 8 (by kernel_rfl) (by exact hF) (by exact hG) (fun _ => ?_)
          generalize hwd : wr.drew = wd at *
          clear hwd hF hG
          clear a0 a1 a2 hla
          clear o0 o1 o2 z0 hlo
          obtain ⟨a0, a1, a2, hla⟩ := FA.out.cells
          obtain ⟨o0, o1, o2⟩ : _ ∧ _ ∧ _ := ⟨OB.out.cell 0, OB.out.cell 1, OB.out.cell 2⟩
          simp at o0 o1 o2
          have z0 := OB.out.frozen 0
          have hlo := OB.out.lt
          have hF := And.intro a0 (And.intro a1 a2)
          have hG := o0
          refine wpAnyT_take (i := 0) (oi := _) (v := ?_) (by simp only [List.getElem?_toArray, List.getElem?_cons_zero]; rfl) (by kernel_rfl) (by kernel_rfl) (by kernel_rfl) (by rfl) (by exact fun _ _ _ h => h) (Or.inl ⟨by rfl, ?_⟩) ⟨(by exact hF), fun _ => (by exact hG)⟩ (fun _ => ?_)
          rotate_left 1
          · (intro w hSw; (try dsimp only at hSw); go_simp; try with_reducible rfl)
          all_goals try simp only [Act.put]
          all_goals try simp only [List.setIfInBounds_toArray]
          all_goals try simp only [List.set_cons_succ]
          all_goals try simp only [List.set_cons_zero]
          refine wpAnyT_takeG (i := 1) (oi := _) (v := ?_) (by simp only [List.getElem?_toArray, List.getElem?_cons_succ, List.getElem?_cons_zero]; rfl) (by kernel_rfl) (by kernel_rfl) (by kernel_rfl) (by rfl) (by kernel_rfl) (by kernel_rfl) (by exact fun _ _ _ h => h) (Or.inl ⟨by rfl, ?_⟩) ⟨(by exact hF), fun _ => (by exact hG)⟩ (fun _ => ?_)
          rotate_left 1
          · (intro w hSw; (try dsimp only at hSw); go_simp; try with_reducible rfl)
          all_goals try simp only [Act.put]
          all_goals try simp only [List.setIfInBounds_toArray]
          all_goals try simp only [List.set_cons_succ]
          all_goals try simp only [List.set_cons_zero]
          refine wpAnyT_take (i := 2) (oi := _) (v := ?_) (by simp only [List.getElem?_toArray, List.getElem?_cons_succ, List.getElem?_cons_zero]; rfl) (by kernel_rfl) (by kernel_rfl) (by kernel_rfl) (by rfl) (by exact fun _ _ _ h => h) (Or.inl ⟨by rfl, ?_⟩) ⟨(by exact hF), fun _ => (by exact hG)⟩ (fun _ => ?_)
          rotate_left 1
          · (intro w hSw; (try dsimp only at hSw); go_simp; try with_reducible rfl)
          all_goals try simp only [Act.put]
          all_goals try simp only [List.setIfInBounds_toArray]
          all_goals try simp only [List.set_cons_succ]
          all_goals try simp only [List.set_cons_zero]
          refine wpAnyT_take (i := 3) (oi := _) (v := ?_) (by simp only [List.getElem?_toArray, List.getElem?_cons_succ, List.getElem?_cons_zero]; rfl) (by kernel_rfl) (by kernel_rfl) (by kernel_rfl) (by rfl) (by exact fun _ _ _ h => h) (Or.inl ⟨by rfl, ?_⟩) ⟨(by exact hF), fun _ => (by exact hG)⟩ (fun _ => ?_)
          rotate_left 1
          · (intro w hSw; (try dsimp only at hSw); go_simp; try with_reducible rfl)
          all_goals try simp only [Act.put]
          all_goals try simp only [List.setIfInBounds_toArray]
          all_goals try simp only [List.set_cons_succ]
          all_goals try simp only [List.set_cons_zero]
          refine wpAnyT_take (i := 5) (oi := _) (v := ?_) (by simp only [List.getElem?_toArray, List.getElem?_cons_succ, List.getElem?_cons_zero]; rfl) (by kernel_rfl) (by kernel_rfl) (by kernel_rfl) (by rfl) (by exact fun _ _ _ h => h) (Or.inl ⟨by rfl, ?_⟩) ⟨(by exact hF), fun _ => (by exact hG)⟩ (fun _ => ?_)
          rotate_left 1
          · (intro w hSw; (try dsimp only at hSw); go_simp; try with_reducible rfl)
          all_goals try simp only [Act.put]
          all_goals try simp only [List.setIfInBounds_toArray]
          all_goals try simp only [List.set_cons_succ]
          all_goals try simp only [List.set_cons_zero]
          refine wpAnyT_ready (rs := [4]) (by kernel_rfl) (by simp) ?_
          refine (AllReadyT.cons (by simp only [List.getElem?_toArray, List.getElem?_cons_succ, List.getElem?_cons_zero]; rfl) (fun K hK => ?_) AllReadyT.nil)
          rw [if_pos (by rfl)]
          go_simp
          refine (refAt_any A1 n1 c1 a.per a.inc (k : Int) a.vals _ (by exact FA.out.ints) (by omega) (by omega) (by omega) (by omega) (by omega) HAO.out.nn (by omega) (by omega)).mono ?_
          rw [Int.toNat_natCast, show Cv.at ⟨a.vals, a.per, a.inc⟩ k = x from HX.out.symm]
          rintro e wq ⟨rfl, hbq⟩
          have FA := Lib.hid (FA.out.below hbq); have RB := Lib.hid (RB.out.below hbq RB.out.lt); have BW := Lib.hid (bthen BW.out hbq); have OB := Lib.hid (OB.out.below hbq OB.out.lt); have OWN := Lib.hid (OWN.out.below hbq (fun g hg => (OWN.out.blk_lt g hg).2))
          clear hbq hF hG
          clear a0 a1 a2 hla
          clear o0 o1 o2 z0 hlo
          obtain ⟨a0, a1, a2, hla⟩ := FA.out.cells
          obtain ⟨o0, o1, o2⟩ : _ ∧ _ ∧ _ := ⟨OB.out.cell 0, OB.out.cell 1, OB.out.cell 2⟩
          simp at o0 o1 o2
          have z0 := OB.out.frozen 0
          have hlo := OB.out.lt
          have hF := And.intro a0 (And.intro a1 a2)
          have hG := o0
          refine hK.out _ _ ⟨(by exact hF), fun _ => (by exact hG)⟩ (fun _ => ?_)
          clear hK K
          try simp only [Act.put]
          try simp only [List.setIfInBounds_toArray]
          try simp only [List.set_cons_succ]
          try simp only [List.set_cons_zero]
          refine wpAnyT_ready (rs := [6]) (by kernel_rfl) (by simp) ?_
          refine (AllReadyT.cons (by simp only [List.getElem?_toArray, List.getElem?_cons_succ, List.getElem?_cons_zero]; rfl) (fun K hK => ?_) AllReadyT.nil)
          rw [if_pos (by rfl)]
          go_simp
          refine (rplus_any x d _ (by rw [HX.out]; exact HMA.out.1) (by rw [HX.out]; exact HMA.out.2) hd0 (.inr (by omega))).mono ?_
          rw [HZ.out]
          obtain ⟨z, hz⟩ : ∃ z, z = raiseV a d k := ⟨_, rfl⟩
          rw [← hz]
          have HZZ := Lib.hid hz
          clear hz
          rintro e wq2 ⟨rfl, rfl⟩
          refine hK.out _ _ ⟨(by exact hF), fun _ => (by exact hG)⟩ (fun _ => ?_)
          clear hK K
          try simp only [Act.put]
          try simp only [List.setIfInBounds_toArray]
          try simp only [List.set_cons_succ]
          try simp only [List.set_cons_zero]
          refine wpAnyT_ready (rs := [7]) (by kernel_rfl) (by simp) ?_
          refine (AllReadyT.cons (by simp only [List.getElem?_toArray, List.getElem?_cons_succ, List.getElem?_cons_zero]; rfl) (fun K hK => ?_) AllReadyT.nil)
          rw [if_pos (by rfl)]
          go_simp
          have hlit := ints_litC wq [z]
          have hbq := balloc wq (.cells ([z].map (Value.int .i64)).toArray 3)
          simp only [List.map_cons, List.map_nil] at hlit hbq
          generalize hwl : wq.alloc (.cells [Value.int .i64 z].toArray 3) = wl at *
          clear hwl
          have FA := Lib.hid (FA.out.below hbq); have RB := Lib.hid (RB.out.below hbq RB.out.lt); have BW := Lib.hid (bthen BW.out hbq); have OB := Lib.hid (OB.out.below hbq OB.out.lt); have OWN := Lib.hid (OWN.out.below hbq (fun g hg => (OWN.out.blk_lt g hg).2))
          clear hbq hF hG
          clear a0 a1 a2 hla
          clear o0 o1 o2 z0 hlo
          obtain ⟨a0, a1, a2, hla⟩ := FA.out.cells
          obtain ⟨o0, o1, o2⟩ : _ ∧ _ ∧ _ := ⟨OB.out.cell 0, OB.out.cell 1, OB.out.cell 2⟩
          simp at o0 o1 o2
          have z0 := OB.out.frozen 0
          have hlo := OB.out.lt
          have hF := And.intro a0 (And.intro a1 a2)
          have hG := o0
          refine hK.out _ _ ⟨(by exact hF), fun _ => (by exact hG)⟩ (fun _ => ?_)
          clear hK K
          try simp only [Act.put]
          try simp only [List.setIfInBounds_toArray]
          try simp only [List.set_cons_succ]
          try simp only [List.set_cons_zero]
          refine wpAnyT_ready (rs := [8]) (by kernel_rfl) (by simp) ?_
          refine (AllReadyT.cons (by simp only [List.getElem?_toArray, List.getElem?_cons_succ, List.getElem?_cons_zero]; rfl) (fun K hK => ?_) AllReadyT.nil)
          refine step_app (by rfl) _ _ 22 (by rfl) Try.underlying22 L0 (.slice Am k cm) k (tab (raiseV a d) 0 k) (by rfl) OWN.out wl.heap.size (some ⟨wq.heap.size, 0, none⟩) 1 1 [z] (by rfl) hlit (by omega) (by omega) ?_
          intro v2 w2 own2 grow2 at2
          have hb2 : Below L0 wl w2 := Below.grown (Below.refl _ _) grow2 (by omega) (fun g hg => (OWN.out.blk_lt g hg).1)
          have OB := Lib.hid (Blk.grown OB.out grow2 (fun e => OWN.out.ne_blk OB.out (by decide) e.symm))
          have FA := Lib.hid (FA.out.upto hb2 (by omega)); have RB := Lib.hid (RB.out.below hb2 (by omega)); have BW := Lib.hid (BW.out.trans (hb2.mono (by omega)))
          clear hF hG at2 grow2 hlit
          clear a0 a1 a2 hla
          clear o0 o1 o2 z0 hlo
          obtain ⟨A9, c9, rfl, hc9, hI9, hf9⟩ := own2.ints
          rw [HZZ.out, tab_snoc] at own2
          have OWN := Lib.hid own2
          clear own2 hb2 hI9 hf9 hc9
          obtain ⟨a0, a1, a2, hla⟩ := FA.out.cells
          obtain ⟨o0, o1, o2⟩ : _ ∧ _ ∧ _ := ⟨OB.out.cell 0, OB.out.cell 1, OB.out.cell 2⟩
          simp at o0 o1 o2
          have z0 := OB.out.frozen 0
          have hlo := OB.out.lt
          have hF := And.intro a0 (And.intro a1 a2)
          refine hK.out _ _ ⟨(by exact hF), fun h => Bool.noConfusion (show true = false from h)⟩ (fun _ => ?_)
          clear hK K
          try simp only [Act.put]
          try simp only [List.setIfInBounds_toArray]
          try simp only [List.set_cons_succ]
          try simp only [List.set_cons_zero]
          refine wpAnyT_take (i := 9) (oi := _) (v := ?_) (by simp only [List.getElem?_toArray, List.getElem?_cons_succ, List.getElem?_cons_zero]; rfl) (by kernel_rfl) (by kernel_rfl) (by kernel_rfl) (by rfl) (by exact fun _ _ _ h => h) (Or.inl ⟨by rfl, ?_⟩) ⟨(by exact hF), fun h => Bool.noConfusion (show true = false from h)⟩ (fun _ => ?_)
          rotate_left 1
          · (intro w hSw; (try dsimp only at hSw); go_simp; try with_reducible rfl)
          all_goals try simp only [Act.put]
          all_goals try simp only [List.setIfInBounds_toArray]
          all_goals try simp only [List.set_cons_succ]
          all_goals try simp only [List.set_cons_zero]
          refine wpAnyT_ready (rs := [10]) (by kernel_rfl) (by simp) ?_
          refine (AllReadyT.cons (by simp only [List.getElem?_toArray, List.getElem?_cons_succ, List.getElem?_cons_zero]; rfl) (fun K hK => ?_) AllReadyT.nil)
          rw [if_pos (by rfl)]
          go_simp
          have own3 := OWN.out.far (p := ⟨P, 0, none⟩) (OWN.out.ne_blk OB.out (by decide)) (.slice A9 (k + 1) c9)
          have OWN := Lib.hid own3
          clear own3 hF
          clear a0 a1 a2 hla
          clear o0 o1 o2 z0 hlo
          have FA := Lib.hid (FA.out.set1 (g := P) (.inl (by omega)) 0 (Value.slice A9 (k + 1) c9)); have RB := Lib.hid (RB.out.far (p := ⟨P, 0, none⟩) (by simp; omega) (Value.slice A9 (k + 1) c9)); have BW := Lib.hid (BW.out.setCell (p := ⟨P, 0, none⟩) (by simp; omega) (Value.slice A9 (k + 1) c9)); have OB := Lib.hid (OB.out.set_ 0 (Value.slice A9 (k + 1) c9))
          generalize hws : w2.setCell ⟨P, 0, none⟩ (.slice A9 (k + 1) c9) = ws at *
          clear hws
          simp only [List.setIfInBounds_toArray, List.set_cons_zero] at OB
          obtain ⟨a0, a1, a2, hla⟩ := FA.out.cells
          have hF := And.intro a0 (And.intro a1 a2)
          refine hK.out _ _ ⟨(by exact hF), fun h => Bool.noConfusion (show true = false from h)⟩ (fun _ => ?_)
          clear hK K
          try simp only [Act.put]
          try simp only [List.setIfInBounds_toArray]
          try simp only [List.set_cons_succ]
          try simp only [List.set_cons_zero]
          refine wpAnyT_done (by kernel_rfl) ?_ _
          clear a0 a1 a2 hla
          go_wp2_with fail
          go_roundg (gk - 1)
          case measure => omega
          case rel => exact ⟨k + 1, A9, c9, by omega, by omega, by go_num, OB.out, OWN.out, FA.out, RB.out, BW.out⟩
        · have TAB := Lib.hid (fun t => raise_tab HAO.out hd0 hd1 (N := N) (by rw [← HN.out]; exact Nat.le_refl _) (by omega) t)
          have hkN : k = N := by omega
          subst hkN
          clear hk hkg
          obtain ⟨hpre, hup, hinf⟩ := tab_pre (raise_up HAO.out hd0 hd1) hap hNp hai (by omega) (by omega) (fun r hr => raise_small HAO.out hd0 hd1 (by omega)) (fun m t hm h hmt => (raise_inf HAO.out hd0 hd1 (by omega) h hmt).2) TAB.out
          have PRE := Lib.hid hpre; have UP := Lib.hid hup; have HINF := Lib.hid hinf
          clear hpre hup hinf
          obtain ⟨A9, c9, e', hc9, hI9, hf9⟩ := OWN.out.ints
          injection e' with e1 e2 e3
          subst e1 e3
          -- netcalculus/netcalculusref05.Raise the function, RaiseS the relation, raiseV a d h, (hS.congr TAB.out).toL what F is by, k length
          have HI9 := Lib.hid hI9; have HC9 := Lib.hid hc9
          clear hI9 hc9 hf9
          go_wp2_with fail
          refine (refMade_any Am k cm a.per a.inc (tab (raiseV a d) 0 k) _ HI9.out HC9.out PRE.out UP.out HINF.out).mono ?_
          rintro e wq ⟨r, er, A5, n5, c5, hS, hc5, rfl, hI5, hA5, hbq⟩
          have F := Lib.hid (show RaiseS ⟨xs, p, i⟩ d r er from .inr (.inr ⟨HFO.out, hd0, hd1, a, HNF.out, (hS.congr TAB.out).toL⟩))
          have RB := Lib.hid (RB.out.below hbq RB.out.lt); have BW := Lib.hid (bthen BW.out hbq)
          have HI5 := Lib.hid hI5; have HA5 := Lib.hid hA5
          have hlw := hlo
          clear hS hI5 hA5 hbq
          clear o0 o1 o2 z0 hlo
          clear a0 a1 a2 hla
          obtain ⟨r0, r1, r2⟩ : _ ∧ _ ∧ _ := ⟨RB.out.cell 0, RB.out.cell 1, RB.out.cell 2⟩
          simp at r0 r1 r2
          have y0 := RB.out.frozen 0; have y1 := RB.out.frozen 1; have y2 := RB.out.frozen 2
          have hlr := RB.out.lt
          go_wp2_with fail
          have rb := RB.out.store3 (.slice A5 n5 c5) (.int .i64 r.per) (.int .i64 r.inc)
          exact bodyPost_ret (v := .tuple #[.agg #[.slice A5 n5 c5, .int .i64 r.per, .int .i64 r.inc], .int .i64 er]) (by simp [results, Try.results47, go_sem, rb.cell]) rfl (retS2_store F.out hc5 HA5.out (by omega) (by omega) HI5.out BW.out)
  · have F := Lib.hid (show RaiseS ⟨xs, p, i⟩ d Cv.none 1 from .inl ⟨hno, rfl, rfl⟩)
    clear HN hno
    go_wp2_with fail
    -- an error is returned: 1 its number, netcalculus/netcalculusref05.Raise the function
    have rb := RB.out.store3 (.slice none 0 0) (.int .i64 0) (.int .i64 0)
    exact bodyPost_ret (v := .tuple #[.agg #[.slice none 0 0, .int .i64 0, .int .i64 0], .int .i64 1]) (by simp [results, Try.results47, go_sem, rb.cell]) rfl (retS2_store0 F.out (by omega) BW.out)
end Go.Proofs.Ytbkimphcmmmaiaa
