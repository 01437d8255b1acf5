/- netcalculusref05.Later: what it returns. -/
import Derived.Test.YtbkimphcmmmaiaaBy
import Derived.Test.YtbkimphcmmmaiaaRefMade
import Derived.Test.YtbkimphcmmmaiaaPwLaw
import Derived.Deep.DeepCutAuto
namespace Go.Proofs.Ytbkimphcmmmaiaa
open Go.RowKit
set_option linter.unusedVariables false

theorem Up0.congr2 {h h' : Nat → Int} (H : Up0 h) (e : ∀ t, h' t = h t) : Up0 h' := by
  obtain rfl : h' = h := funext e
  exact H
theorem later_list {a : Cv} (ha : a.Ok) (D : Nat) : List.replicate D 0 ++ a.vals = tab (laterV a D) 0 (D + a.vals.length) := by
  refine list_ext (by simp [tab_length]) (fun k hk => ?_)
  simp at hk
  rw [tab_nth _ _ _ _ hk, Nat.zero_add, nth_append, List.length_replicate]
  by_cases h : k < D
  · rw [if_pos h, nth_replicate, laterV_lt h]
  · rw [if_neg h, laterV_ge (by omega), Cv.at_lt (by omega)]

/-- a list of the call's own, with its bounds -/
def LJ (w : World) (A : Option Addr) (n c : Nat) (zs : List Int) (L : Nat) : Prop := n ≤ c ∧ Ints w w.heap.size A n zs ∧ ∀ b off s, A = some ⟨b, off, s⟩ → L ≤ b
theorem Own.lj {w : World} {base n c L : Nat} {A : Option Addr} {zs : List Int} (h : Own w base (.slice A n c) n zs) (hL : L ≤ base) : LJ w A n c zs L := by
  obtain ⟨A', c', e, h1, h2, h3⟩ := h.ints
  injection e with e1 e2 e3
  subst e1 e3
  exact ⟨h1, h2, fun b off s e => by have := h3 b off s e; omega⟩

set_option maxHeartbeats 4000000 in
set_option maxRecDepth 100000 in
theorem refLater_any (A : Option Addr) (n c : Nat) (p i d : Int) (xs : List Int) (w : World) (hA : Ints w w.heap.size A n xs) (hn : (n : Int) ≤ 1000000) (hnc : n ≤ c) :
    Calls Try.prog 37 #[.agg #[.slice A n c, .int .i64 p, .int .i64 i], .int .i64 d] w (RetS2 (LaterS ⟨xs, p, i⟩ d) w) := by
  have E := Lib.hid (LB.new (p := p) (i := i) (c := c) hA)
  have HNC := Lib.hid hnc
  clear hA hnc
  go_enter Try.func37, Try.ntmps37
  go_wp2_with fail
  refine (refNormal_any A n c p i xs _ E.out.ints HNC.out hn).mono ?_
  rintro e w1 ⟨a, er, hN, A1, n1, c1, rfl, hI1, hA1, hb⟩
  simp only [World.size_alloc] at hA1
  have HN := Lib.hid hN
  have E1 := Lib.hid (E.out.below hb)
  have hs1 : w.heap.size + 1 < w1.heap.size := E1.out.rb.lt
  have FA := Lib.hid (By.new (L := w.heap.size + 1 + 1) (c := c1) hI1 hA1 (Nat.le_refl _) (by omega))
  have RB := Lib.hid (E1.out.rb.alloc (.cells #[.slice A1 n1 c1, .int .i64 a.per, .int .i64 a.inc] 31))
  have BW := Lib.hid (bthen E1.out.bw (balloc _ (.cells #[.slice A1 n1 c1, .int .i64 a.per, .int .i64 a.inc] 31)))
  clear hN hI1 hA1 hb E E1
  go_upto_region 2 with fail
  generalize hwz : w1.alloc (.cells #[.slice A1 n1 c1, .int .i64 a.per, .int .i64 a.inc] 31) = wz at *
  clear hwz
  obtain ⟨r0, r1, r2⟩ : _ ∧ _ ∧ _ := ⟨RB.out.cell 0, RB.out.cell 1, RB.out.cell 2⟩
  simp at r0 r1 r2
  have y0 := RB.out.frozen 0; have y1 := RB.out.frozen 1; have y2 := RB.out.frozen 2
  have hlr := RB.out.lt
  rcases HN.out with ⟨hfo, hnf, hao, rfl⟩ | ⟨hno, rfl, rfl⟩
  · by_cases hr : d < 0 ∨ 1048576 < d
    · have F := Lib.hid (show LaterS ⟨xs, p, i⟩ d Cv.none 2 from .inr (.inl ⟨hfo, hr, rfl, rfl⟩))
      clear HN hfo hnf hao
      rcases hr with hr | hr
      all_goals
        go_wp2_with fail
        have rb := RB.out.store3 (.slice none 0 0) (.int .i64 0) (.int .i64 0)
        exact bodyPost_ret (v := .tuple #[.agg #[.slice none 0 0, .int .i64 0, .int .i64 0], .int .i64 2]) (by simp [results, Try.results37, go_sem, rb.cell]) rfl (retS2_store0 F.out (by omega) BW.out)
    · clear r0 r1 r2 y0 y1 y2 hlr
      have hd0 : 0 ≤ d := by omega
      have hd1 : d ≤ 1048576 := by omega
      have g1 : decide (d < 0) = false := by simp; omega
      have g2 : decide ((1048576 : Int) < d) = false := by simp; omega
      obtain ⟨D, hD⟩ : ∃ D, D = min d.toNat 800 := ⟨_, rfl⟩
      have hmn : (if 800 < d then 800 else d) = (D : Int) := by rw [hD]; split <;> omega
      have hDb : D ≤ 800 := by omega
      have ha1 := hao.n1; have ha2 := hao.n2; have hap := hao.p1; have hap2 := hao.p2; have hai := hao.i1; have hai2 := hao.i2; have hapn := hao.pn
      have hl1 : a.vals.length = n1 := FA.out.ints.1
      rw [hl1] at ha1 ha2 hapn
      have LST := Lib.hid (show List.replicate D 0 ++ a.vals = tab (laterV a D) 0 (D + n1) from by rw [later_list hao, hl1])
      have HFO := Lib.hid hfo; have HNF := Lib.hid hnf; have HAO := Lib.hid hao; have HL1 := Lib.hid hl1; have HD := Lib.hid hD
      clear hr HN hfo hnf hao hl1 hD
      go_upto_region 6 with fail
      clear g1 g2
      go_cut [8] (fun s8 wx => ∃ (Z : Nat) (A9 : Option Addr) (c9 : Nat), s8 = .pointer (some ⟨Z, 0, none⟩) ∧ Blk wx Z 31 #[.slice A9 (D + n1) c9, .int .i64 a.per, .int .i64 a.inc] ∧ LJ wx A9 (D + n1) c9 (tab (laterV a D) 0 (D + n1)) (w.heap.size + 1 + 1) ∧ Blk wx (w.heap.size + 1) 31 #[.slice none 0 0, .int .i64 0, .int .i64 0] ∧ Below w.heap.size w wx)
      case first =>
        have FA := Lib.hid FA.out.drew; have RB := Lib.hid (Blk.drew RB.out); have BW := Lib.hid (Below.drew BW.out)
        obtain ⟨a0, a1, a2, hla⟩ := FA.out.cells
        refine wp_region_held_drew (S := fun w' => w'.cell? ⟨w1.heap.size, 0, none⟩ = some (.slice A1 n1 c1) ∧ w'.cell? ⟨w1.heap.size, 1, none⟩ = some (.int .i64 a.per) ∧ w'.cell? ⟨w1.heap.size, 2, none⟩ = some (.int .i64 a.inc)) (by kernel_rfl) ⟨a0, a1, a2⟩ (fun hHeld => ?_)
        generalize hwd : wz.drew = wd at *
        clear hwd
        refine wpAnyH_take (i := 0) (oi := _) (v := ?_) (by simp only [List.getElem?_toArray, List.getElem?_cons_zero]; rfl) (by kernel_rfl) (by kernel_rfl) (by kernel_rfl) (by exact fun _ _ _ h => h) (Or.inl ⟨by rfl, ?_⟩) (by assumption) ?_
        rotate_left 1
        · (intro w hSw; (try dsimp only at hSw); go_simp; try with_reducible rfl)
        all_goals try simp only [Act.put]
        all_goals try simp only [List.setIfInBounds_toArray]
        all_goals try simp only [List.set_cons_succ]
        all_goals try simp only [List.set_cons_zero]
        refine wpAnyH_take (i := 1) (oi := _) (v := ?_) (by simp only [List.getElem?_toArray, List.getElem?_cons_succ, List.getElem?_cons_zero]; rfl) (by kernel_rfl) (by kernel_rfl) (by kernel_rfl) (by exact fun _ _ _ h => h) (Or.inl ⟨by rfl, ?_⟩) (by assumption) ?_
        rotate_left 1
        · (intro w hSw; (try dsimp only at hSw); go_simp; try with_reducible rfl)
        all_goals try simp only [Act.put]
        all_goals try simp only [List.setIfInBounds_toArray]
        all_goals try simp only [List.set_cons_succ]
        all_goals try simp only [List.set_cons_zero]
        refine wpAnyH_take (i := 2) (oi := _) (v := ?_) (by simp only [List.getElem?_toArray, List.getElem?_cons_succ, List.getElem?_cons_zero]; rfl) (by kernel_rfl) (by kernel_rfl) (by kernel_rfl) (by exact fun _ _ _ h => h) (Or.inl ⟨by rfl, ?_⟩) (by assumption) ?_
        rotate_left 1
        · (intro w hSw; (try dsimp only at hSw); go_simp; try with_reducible rfl)
        all_goals try simp only [Act.put]
        all_goals try simp only [List.setIfInBounds_toArray]
        all_goals try simp only [List.set_cons_succ]
        all_goals try simp only [List.set_cons_zero]
        refine wpAnyH_take (i := 3) (oi := _) (v := ?_) (by simp only [List.getElem?_toArray, List.getElem?_cons_succ, List.getElem?_cons_zero]; rfl) (by kernel_rfl) (by kernel_rfl) (by kernel_rfl) (by exact fun _ _ _ h => h) (Or.inl ⟨by rfl, ?_⟩) (by assumption) ?_
        rotate_left 1
        · (intro w hSw; (try dsimp only at hSw); go_simp; try with_reducible rfl)
        all_goals try simp only [Act.put]
        all_goals try simp only [List.setIfInBounds_toArray]
        all_goals try simp only [List.set_cons_succ]
        all_goals try simp only [List.set_cons_zero]
        refine wpAnyH_take (i := 4) (oi := _) (v := ?_) (by simp only [List.getElem?_toArray, List.getElem?_cons_succ, List.getElem?_cons_zero]; rfl) (by kernel_rfl) (by kernel_rfl) (by kernel_rfl) (by exact fun _ _ _ h => h) (Or.inl ⟨by rfl, ?_⟩) (by assumption) ?_
        rotate_left 1
        · (intro w hSw; (try dsimp only at hSw); go_simp; try with_reducible rfl)
        all_goals try simp only [Act.put]
        all_goals try simp only [List.setIfInBounds_toArray]
        all_goals try simp only [List.set_cons_succ]
        all_goals try simp only [List.set_cons_zero]
        refine wpAnyH_take (i := 7) (oi := _) (v := ?_) (by simp only [List.getElem?_toArray, List.getElem?_cons_succ, List.getElem?_cons_zero]; rfl) (by kernel_rfl) (by kernel_rfl) (by kernel_rfl) (by exact fun _ _ _ h => h) (Or.inl ⟨by rfl, ?_⟩) (by assumption) ?_
        rotate_left 1
        · (intro w hSw; (try dsimp only at hSw); go_simp; try with_reducible rfl)
        all_goals try simp only [Act.put]
        all_goals try simp only [List.setIfInBounds_toArray]
        all_goals try simp only [List.set_cons_succ]
        all_goals try simp only [List.set_cons_zero]
        refine wpAnyH_take (i := 8) (oi := _) (v := ?_) (by simp only [List.getElem?_toArray, List.getElem?_cons_succ, List.getElem?_cons_zero]; rfl) (by kernel_rfl) (by kernel_rfl) (by kernel_rfl) (by exact fun _ _ _ h => h) (Or.inl ⟨by rfl, ?_⟩) (by assumption) ?_
        rotate_left 1
        · (intro w hSw; (try dsimp only at hSw); go_simp; try with_reducible rfl)
        all_goals try simp only [Act.put]
        all_goals try simp only [List.setIfInBounds_toArray]
        all_goals try simp only [List.set_cons_succ]
        all_goals try simp only [List.set_cons_zero]
        refine wpAnyH_ready (rs := [5, 11]) (by kernel_rfl) (by simp) ?_
        refine (AllReadyH.cons (by simp only [List.getElem?_toArray, List.getElem?_cons_succ, List.getElem?_cons_zero]; rfl) (fun K hK => ?_) (AllReadyH.cons (by simp only [List.getElem?_toArray, List.getElem?_cons_succ, List.getElem?_cons_zero]; rfl) (fun K hK => ?_) AllReadyH.nil))
        · rw [if_pos (by rfl)]
          go_simp
          refine hK.out _ _ (by exact ⟨a0, a1, a2⟩) (fun hHeld => ?_)
          clear hK K
          try simp only [Act.put]
          try simp only [List.setIfInBounds_toArray]
          try simp only [List.set_cons_succ]
          try simp only [List.set_cons_zero]
          refine wpAnyH_ready (rs := [6, 11]) (by kernel_rfl) (by simp) ?_
          refine (AllReadyH.cons (by simp only [List.getElem?_toArray, List.getElem?_cons_succ, List.getElem?_cons_zero]; rfl) (fun K hK => ?_) (AllReadyH.cons (by simp only [List.getElem?_toArray, List.getElem?_cons_succ, List.getElem?_cons_zero]; rfl) (fun K hK => ?_) AllReadyH.nil))
          · refine step_make (by rfl) _ _ 22 (by rfl) Try.underlying22 .i64 .i64 _ _ D (by rfl) (by rfl) (by first | rfl | exact hmn) (by first | rfl | exact hmn) (by omega) ?_
            intro wa own1 grow1
            have hbq : Below wd.heap.size wd wa := (Below.refl _ _).grown grow1 (by simp) (by simp)
            have OWN := Lib.hid own1
            have hbase : w1.heap.size < wd.heap.size := FA.out.lt
            have hbase2 : wd.heap.size ≤ wa.heap.size := hbq.size
            try (have ZB := Lib.hid (ZB.out.below hbq ZB.out.lt))
            have FA := Lib.hid (FA.out.below hbq); have RB := Lib.hid (RB.out.below hbq RB.out.lt); have BW := Lib.hid (bthen BW.out hbq)
            clear hHeld
            clear a0 a1 a2 hla
            obtain ⟨a0, a1, a2, hla⟩ := FA.out.cells
            clear hbq own1 grow1
            refine hK.out _ _ (by exact ⟨a0, a1, a2⟩) (fun hHeld => ?_)
            clear hK K
            try simp only [Act.put]
            try simp only [List.setIfInBounds_toArray]
            try simp only [List.set_cons_succ]
            try simp only [List.set_cons_zero]
            refine wpAnyH_ready (rs := [9, 11]) (by kernel_rfl) (by simp) ?_
            refine (AllReadyH.cons (by simp only [List.getElem?_toArray, List.getElem?_cons_succ, List.getElem?_cons_zero]; rfl) (fun K hK => ?_) (AllReadyH.cons (by simp only [List.getElem?_toArray, List.getElem?_cons_succ, List.getElem?_cons_zero]; rfl) (fun K hK => ?_) AllReadyH.nil))
            · refine step_app (by rfl) _ _ 22 (by rfl) Try.underlying22 wd.heap.size _ D (List.replicate D 0) (by rfl) OWN.out wa.heap.size A1 n1 c1 a.vals (by rfl) FA.out.ints (by omega) (by omega) ?_
              intro v2 wb own2 grow2 at2
              have hb2 : Below wd.heap.size wa wb := Below.grown (Below.refl _ _) grow2 (by omega) (fun g hg => (OWN.out.blk_lt g hg).1)
              try (have zb := Blk.grown ZB.out grow2 (fun e => OWN.out.ne_blk ZB.out (by decide) e.symm); have ZB := Lib.hid zb; clear zb)
              have FA := Lib.hid (FA.out.upto hb2 (by omega)); have RB := Lib.hid (RB.out.below hb2 (by omega)); have BW := Lib.hid (BW.out.trans (hb2.mono (by omega)))
              obtain ⟨A9, c9, rfl, hc9, hI9, hf9⟩ := own2.ints
              rw [LST.out] at own2
              have OWN := Lib.hid own2
              have hsz := grow2.size
              clear own2 hb2 hI9 hf9 grow2 at2 hHeld
              clear a0 a1 a2 hla
              obtain ⟨a0, a1, a2, hla⟩ := FA.out.cells
              refine hK.out _ _ (by exact ⟨a0, a1, a2⟩) (fun hHeld => ?_)
              clear hK K
              try simp only [Act.put]
              try simp only [List.setIfInBounds_toArray]
              try simp only [List.set_cons_succ]
              try simp only [List.set_cons_zero]
              refine wpAnyH_take (i := 10) (oi := _) (v := ?_) (by simp only [List.getElem?_toArray, List.getElem?_cons_succ, List.getElem?_cons_zero]; rfl) (by kernel_rfl) (by kernel_rfl) (by kernel_rfl) (by exact fun _ _ _ h => h) (Or.inl ⟨by rfl, ?_⟩) (by assumption) ?_
              rotate_left 1
              · (intro w hSw; (try dsimp only at hSw); go_simp; try with_reducible rfl)
              all_goals try simp only [Act.put]
              all_goals try simp only [List.setIfInBounds_toArray]
              all_goals try simp only [List.set_cons_succ]
              all_goals try simp only [List.set_cons_zero]
              refine wpAnyH_ready (rs := [11]) (by kernel_rfl) (by simp) ?_
              refine (AllReadyH.cons (by simp only [List.getElem?_toArray, List.getElem?_cons_succ, List.getElem?_cons_zero]; rfl) (fun K hK => ?_) AllReadyH.nil)
              rw [if_pos (by rfl)]
              go_simp
              have hbq := balloc wb (.cells #[.slice none 0 0, .int .i64 0, .int .i64 0] 31)
              have ZB := Lib.hid (Blk.new wb 31 #[.slice none 0 0, .int .i64 0, .int .i64 0])
              have hZ := FA.out.lt
              try (have OWN := Lib.hid (OWN.out.alloc (.cells #[.slice none 0 0, .int .i64 0, .int .i64 0] 31)))
              generalize hwa : wb.alloc (.cells #[.slice none 0 0, .int .i64 0, .int .i64 0] 31) = wc at *
              clear hwa
              have FA := Lib.hid (FA.out.below hbq); have RB := Lib.hid (RB.out.below hbq RB.out.lt); have BW := Lib.hid (bthen BW.out hbq)
              clear hHeld
              clear a0 a1 a2 hla
              obtain ⟨a0, a1, a2, hla⟩ := FA.out.cells
              try (have hwb := hbq.size)
              clear hbq
              refine hK.out _ _ (by exact ⟨a0, a1, a2⟩) (fun hHeld => ?_)
              clear hK K
              try simp only [Act.put]
              try simp only [List.setIfInBounds_toArray]
              try simp only [List.set_cons_succ]
              try simp only [List.set_cons_zero]
              refine wpAnyH_ready (rs := [12]) (by kernel_rfl) (by simp) ?_
              refine (AllReadyH.cons (by simp only [List.getElem?_toArray, List.getElem?_cons_succ, List.getElem?_cons_zero]; rfl) (fun K hK => ?_) AllReadyH.nil)
              obtain ⟨k0, k1, k2⟩ : _ ∧ _ ∧ _ := ⟨ZB.out.cell 0, ZB.out.cell 1, ZB.out.cell 2⟩
              simp at k0 k1 k2
              have l0 := ZB.out.frozen 0; have l1 := ZB.out.frozen 1; have l2 := ZB.out.frozen 2
              rw [if_pos (by rfl)]
              go_simp
              clear k0 k1 k2 l0 l1 l2
              have nb := OWN.out.ne_blk ZB.out (by decide)
              have own3 := ((OWN.out.far (p := ⟨wb.heap.size, 0, none⟩) nb (.slice A9 (D + n1) c9)).far (p := ⟨wb.heap.size, 1, none⟩) nb (.int .i64 a.per)).far (p := ⟨wb.heap.size, 2, none⟩) nb (.int .i64 a.inc)
              have OWN := Lib.hid own3
              have ZB := Lib.hid (ZB.out.store3 (.slice A9 (D + n1) c9) (.int .i64 a.per) (.int .i64 a.inc))
              have FA := Lib.hid (FA.out.set3 (g := wb.heap.size) (.inl (by omega)) (.slice A9 (D + n1) c9) (.int .i64 a.per) (.int .i64 a.inc))
              have RB := Lib.hid (((RB.out.far (p := ⟨wb.heap.size, 0, none⟩) (by simp; omega) (.slice A9 (D + n1) c9)).far (p := ⟨wb.heap.size, 1, none⟩) (by simp; omega) (.int .i64 a.per)).far (p := ⟨wb.heap.size, 2, none⟩) (by simp; omega) (.int .i64 a.inc))
              have BW := Lib.hid (((BW.out.setCell (p := ⟨wb.heap.size, 0, none⟩) (by simp; omega) (.slice A9 (D + n1) c9)).setCell (p := ⟨wb.heap.size, 1, none⟩) (by simp; omega) (.int .i64 a.per)).setCell (p := ⟨wb.heap.size, 2, none⟩) (by simp; omega) (.int .i64 a.inc))
              clear own3 nb
              clear a0 a1 a2 hla
              generalize hws : ((wc.setCell ⟨wb.heap.size, 0, none⟩ (.slice A9 (D + n1) c9)).setCell ⟨wb.heap.size, 1, none⟩ (.int .i64 a.per)).setCell ⟨wb.heap.size, 2, none⟩ (.int .i64 a.inc) = ws at *
              clear hws
              obtain ⟨a0, a1, a2, hla⟩ := FA.out.cells
              refine hK.out _ _ (by exact ⟨a0, a1, a2⟩) (fun hHeld => ?_)
              clear hK K
              try simp only [Act.put]
              try simp only [List.setIfInBounds_toArray]
              try simp only [List.set_cons_succ]
              try simp only [List.set_cons_zero]
              refine wpAnyH_done (by kernel_rfl) ?_ _
              go_wp2_with fail
              go_meet
              exact ⟨_, A9, c9, rfl, ZB.out, OWN.out.lj (by omega), RB.out, BW.out⟩
            · rw [if_pos (by rfl)]
              go_simp
              have hbq := balloc wa (.cells #[.slice none 0 0, .int .i64 0, .int .i64 0] 31)
              have ZB := Lib.hid (Blk.new wa 31 #[.slice none 0 0, .int .i64 0, .int .i64 0])
              have hZ := FA.out.lt
              try (have OWN := Lib.hid (OWN.out.alloc (.cells #[.slice none 0 0, .int .i64 0, .int .i64 0] 31)))
              generalize hwa : wa.alloc (.cells #[.slice none 0 0, .int .i64 0, .int .i64 0] 31) = wb at *
              clear hwa
              have FA := Lib.hid (FA.out.below hbq); have RB := Lib.hid (RB.out.below hbq RB.out.lt); have BW := Lib.hid (bthen BW.out hbq)
              clear hHeld
              clear a0 a1 a2 hla
              obtain ⟨a0, a1, a2, hla⟩ := FA.out.cells
              try (have hwb := hbq.size)
              clear hbq
              refine hK.out _ _ (by exact ⟨a0, a1, a2⟩) (fun hHeld => ?_)
              clear hK K
              try simp only [Act.put]
              try simp only [List.setIfInBounds_toArray]
              try simp only [List.set_cons_succ]
              try simp only [List.set_cons_zero]
              refine wpAnyH_ready (rs := [9]) (by kernel_rfl) (by simp) ?_
              refine (AllReadyH.cons (by simp only [List.getElem?_toArray, List.getElem?_cons_succ, List.getElem?_cons_zero]; rfl) (fun K hK => ?_) AllReadyH.nil)
              refine step_app (by rfl) _ _ 22 (by rfl) Try.underlying22 wd.heap.size _ D (List.replicate D 0) (by rfl) OWN.out wb.heap.size A1 n1 c1 a.vals (by rfl) FA.out.ints (by omega) (by omega) ?_
              intro v2 wc own2 grow2 at2
              have hb2 : Below wd.heap.size wb wc := Below.grown (Below.refl _ _) grow2 (by omega) (fun g hg => (OWN.out.blk_lt g hg).1)
              try (have zb := Blk.grown ZB.out grow2 (fun e => OWN.out.ne_blk ZB.out (by decide) e.symm); have ZB := Lib.hid zb; clear zb)
              have FA := Lib.hid (FA.out.upto hb2 (by omega)); have RB := Lib.hid (RB.out.below hb2 (by omega)); have BW := Lib.hid (BW.out.trans (hb2.mono (by omega)))
              obtain ⟨A9, c9, rfl, hc9, hI9, hf9⟩ := own2.ints
              rw [LST.out] at own2
              have OWN := Lib.hid own2
              have hsz := grow2.size
              clear own2 hb2 hI9 hf9 grow2 at2 hHeld
              clear a0 a1 a2 hla
              obtain ⟨a0, a1, a2, hla⟩ := FA.out.cells
              refine hK.out _ _ (by exact ⟨a0, a1, a2⟩) (fun hHeld => ?_)
              clear hK K
              try simp only [Act.put]
              try simp only [List.setIfInBounds_toArray]
              try simp only [List.set_cons_succ]
              try simp only [List.set_cons_zero]
              refine wpAnyH_take (i := 10) (oi := _) (v := ?_) (by simp only [List.getElem?_toArray, List.getElem?_cons_succ, List.getElem?_cons_zero]; rfl) (by kernel_rfl) (by kernel_rfl) (by kernel_rfl) (by exact fun _ _ _ h => h) (Or.inl ⟨by rfl, ?_⟩) (by assumption) ?_
              rotate_left 1
              · (intro w hSw; (try dsimp only at hSw); go_simp; try with_reducible rfl)
              all_goals try simp only [Act.put]
              all_goals try simp only [List.setIfInBounds_toArray]
              all_goals try simp only [List.set_cons_succ]
              all_goals try simp only [List.set_cons_zero]
              refine wpAnyH_ready (rs := [12]) (by kernel_rfl) (by simp) ?_
              refine (AllReadyH.cons (by simp only [List.getElem?_toArray, List.getElem?_cons_succ, List.getElem?_cons_zero]; rfl) (fun K hK => ?_) AllReadyH.nil)
              obtain ⟨k0, k1, k2⟩ : _ ∧ _ ∧ _ := ⟨ZB.out.cell 0, ZB.out.cell 1, ZB.out.cell 2⟩
              simp at k0 k1 k2
              have l0 := ZB.out.frozen 0; have l1 := ZB.out.frozen 1; have l2 := ZB.out.frozen 2
              rw [if_pos (by rfl)]
              go_simp
              clear k0 k1 k2 l0 l1 l2
              have nb := OWN.out.ne_blk ZB.out (by decide)
              have own3 := ((OWN.out.far (p := ⟨wa.heap.size, 0, none⟩) nb (.slice A9 (D + n1) c9)).far (p := ⟨wa.heap.size, 1, none⟩) nb (.int .i64 a.per)).far (p := ⟨wa.heap.size, 2, none⟩) nb (.int .i64 a.inc)
              have OWN := Lib.hid own3
              have ZB := Lib.hid (ZB.out.store3 (.slice A9 (D + n1) c9) (.int .i64 a.per) (.int .i64 a.inc))
              have FA := Lib.hid (FA.out.set3 (g := wa.heap.size) (.inl (by omega)) (.slice A9 (D + n1) c9) (.int .i64 a.per) (.int .i64 a.inc))
              have RB := Lib.hid (((RB.out.far (p := ⟨wa.heap.size, 0, none⟩) (by simp; omega) (.slice A9 (D + n1) c9)).far (p := ⟨wa.heap.size, 1, none⟩) (by simp; omega) (.int .i64 a.per)).far (p := ⟨wa.heap.size, 2, none⟩) (by simp; omega) (.int .i64 a.inc))
              have BW := Lib.hid (((BW.out.setCell (p := ⟨wa.heap.size, 0, none⟩) (by simp; omega) (.slice A9 (D + n1) c9)).setCell (p := ⟨wa.heap.size, 1, none⟩) (by simp; omega) (.int .i64 a.per)).setCell (p := ⟨wa.heap.size, 2, none⟩) (by simp; omega) (.int .i64 a.inc))
              clear own3 nb
              clear a0 a1 a2 hla
              generalize hws : ((wc.setCell ⟨wa.heap.size, 0, none⟩ (.slice A9 (D + n1) c9)).setCell ⟨wa.heap.size, 1, none⟩ (.int .i64 a.per)).setCell ⟨wa.heap.size, 2, none⟩ (.int .i64 a.inc) = ws at *
              clear hws
              obtain ⟨a0, a1, a2, hla⟩ := FA.out.cells
              refine hK.out _ _ (by exact ⟨a0, a1, a2⟩) (fun hHeld => ?_)
              clear hK K
              try simp only [Act.put]
              try simp only [List.setIfInBounds_toArray]
              try simp only [List.set_cons_succ]
              try simp only [List.set_cons_zero]
              refine wpAnyH_done (by kernel_rfl) ?_ _
              go_wp2_with fail
              go_meet
              exact ⟨_, A9, c9, rfl, ZB.out, OWN.out.lj (by omega), RB.out, BW.out⟩
          · rw [if_pos (by rfl)]
            go_simp
            have hbq := balloc wd (.cells #[.slice none 0 0, .int .i64 0, .int .i64 0] 31)
            have ZB := Lib.hid (Blk.new wd 31 #[.slice none 0 0, .int .i64 0, .int .i64 0])
            have hZ := FA.out.lt
            try (have OWN := Lib.hid (OWN.out.alloc (.cells #[.slice none 0 0, .int .i64 0, .int .i64 0] 31)))
            generalize hwa : wd.alloc (.cells #[.slice none 0 0, .int .i64 0, .int .i64 0] 31) = wa at *
            clear hwa
            have FA := Lib.hid (FA.out.below hbq); have RB := Lib.hid (RB.out.below hbq RB.out.lt); have BW := Lib.hid (bthen BW.out hbq)
            clear hHeld
            clear a0 a1 a2 hla
            obtain ⟨a0, a1, a2, hla⟩ := FA.out.cells
            try (have hwb := hbq.size)
            clear hbq
            refine hK.out _ _ (by exact ⟨a0, a1, a2⟩) (fun hHeld => ?_)
            clear hK K
            try simp only [Act.put]
            try simp only [List.setIfInBounds_toArray]
            try simp only [List.set_cons_succ]
            try simp only [List.set_cons_zero]
            refine wpAnyH_ready (rs := [6]) (by kernel_rfl) (by simp) ?_
            refine (AllReadyH.cons (by simp only [List.getElem?_toArray, List.getElem?_cons_succ, List.getElem?_cons_zero]; rfl) (fun K hK => ?_) AllReadyH.nil)
            refine step_make (by rfl) _ _ 22 (by rfl) Try.underlying22 .i64 .i64 _ _ D (by rfl) (by rfl) (by first | rfl | exact hmn) (by first | rfl | exact hmn) (by omega) ?_
            intro wb own1 grow1
            have hbq : Below wa.heap.size wa wb := (Below.refl _ _).grown grow1 (by simp) (by simp)
            have OWN := Lib.hid own1
            have hbase : w1.heap.size < wa.heap.size := FA.out.lt
            have hbase2 : wa.heap.size ≤ wb.heap.size := hbq.size
            try (have ZB := Lib.hid (ZB.out.below hbq ZB.out.lt))
            have FA := Lib.hid (FA.out.below hbq); have RB := Lib.hid (RB.out.below hbq RB.out.lt); have BW := Lib.hid (bthen BW.out hbq)
            clear hHeld
            clear a0 a1 a2 hla
            obtain ⟨a0, a1, a2, hla⟩ := FA.out.cells
            clear hbq own1 grow1
            refine hK.out _ _ (by exact ⟨a0, a1, a2⟩) (fun hHeld => ?_)
            clear hK K
            try simp only [Act.put]
            try simp only [List.setIfInBounds_toArray]
            try simp only [List.set_cons_succ]
            try simp only [List.set_cons_zero]
            refine wpAnyH_ready (rs := [9]) (by kernel_rfl) (by simp) ?_
            refine (AllReadyH.cons (by simp only [List.getElem?_toArray, List.getElem?_cons_succ, List.getElem?_cons_zero]; rfl) (fun K hK => ?_) AllReadyH.nil)
            refine step_app (by rfl) _ _ 22 (by rfl) Try.underlying22 wa.heap.size _ D (List.replicate D 0) (by rfl) OWN.out wb.heap.size A1 n1 c1 a.vals (by rfl) FA.out.ints (by omega) (by omega) ?_
            intro v2 wc own2 grow2 at2
            have hb2 : Below wa.heap.size wb wc := Below.grown (Below.refl _ _) grow2 (by omega) (fun g hg => (OWN.out.blk_lt g hg).1)
            try (have zb := Blk.grown ZB.out grow2 (fun e => OWN.out.ne_blk ZB.out (by decide) e.symm); have ZB := Lib.hid zb; clear zb)
            have FA := Lib.hid (FA.out.upto hb2 (by omega)); have RB := Lib.hid (RB.out.below hb2 (by omega)); have BW := Lib.hid (BW.out.trans (hb2.mono (by omega)))
            obtain ⟨A9, c9, rfl, hc9, hI9, hf9⟩ := own2.ints
            rw [LST.out] at own2
            have OWN := Lib.hid own2
            have hsz := grow2.size
            clear own2 hb2 hI9 hf9 grow2 at2 hHeld
            clear a0 a1 a2 hla
            obtain ⟨a0, a1, a2, hla⟩ := FA.out.cells
            refine hK.out _ _ (by exact ⟨a0, a1, a2⟩) (fun hHeld => ?_)
            clear hK K
            try simp only [Act.put]
            try simp only [List.setIfInBounds_toArray]
            try simp only [List.set_cons_succ]
            try simp only [List.set_cons_zero]
            refine wpAnyH_take (i := 10) (oi := _) (v := ?_) (by simp only [List.getElem?_toArray, List.getElem?_cons_succ, List.getElem?_cons_zero]; rfl) (by kernel_rfl) (by kernel_rfl) (by kernel_rfl) (by exact fun _ _ _ h => h) (Or.inl ⟨by rfl, ?_⟩) (by assumption) ?_
            rotate_left 1
            · (intro w hSw; (try dsimp only at hSw); go_simp; try with_reducible rfl)
            all_goals try simp only [Act.put]
            all_goals try simp only [List.setIfInBounds_toArray]
            all_goals try simp only [List.set_cons_succ]
            all_goals try simp only [List.set_cons_zero]
            refine wpAnyH_ready (rs := [12]) (by kernel_rfl) (by simp) ?_
            refine (AllReadyH.cons (by simp only [List.getElem?_toArray, List.getElem?_cons_succ, List.getElem?_cons_zero]; rfl) (fun K hK => ?_) AllReadyH.nil)
            obtain ⟨k0, k1, k2⟩ : _ ∧ _ ∧ _ := ⟨ZB.out.cell 0, ZB.out.cell 1, ZB.out.cell 2⟩
            simp at k0 k1 k2
            have l0 := ZB.out.frozen 0; have l1 := ZB.out.frozen 1; have l2 := ZB.out.frozen 2
            rw [if_pos (by rfl)]
            go_simp
            clear k0 k1 k2 l0 l1 l2
            have nb := OWN.out.ne_blk ZB.out (by decide)
            have own3 := ((OWN.out.far (p := ⟨wd.heap.size, 0, none⟩) nb (.slice A9 (D + n1) c9)).far (p := ⟨wd.heap.size, 1, none⟩) nb (.int .i64 a.per)).far (p := ⟨wd.heap.size, 2, none⟩) nb (.int .i64 a.inc)
            have OWN := Lib.hid own3
            have ZB := Lib.hid (ZB.out.store3 (.slice A9 (D + n1) c9) (.int .i64 a.per) (.int .i64 a.inc))
            have FA := Lib.hid (FA.out.set3 (g := wd.heap.size) (.inl (by omega)) (.slice A9 (D + n1) c9) (.int .i64 a.per) (.int .i64 a.inc))
            have RB := Lib.hid (((RB.out.far (p := ⟨wd.heap.size, 0, none⟩) (by simp; omega) (.slice A9 (D + n1) c9)).far (p := ⟨wd.heap.size, 1, none⟩) (by simp; omega) (.int .i64 a.per)).far (p := ⟨wd.heap.size, 2, none⟩) (by simp; omega) (.int .i64 a.inc))
            have BW := Lib.hid (((BW.out.setCell (p := ⟨wd.heap.size, 0, none⟩) (by simp; omega) (.slice A9 (D + n1) c9)).setCell (p := ⟨wd.heap.size, 1, none⟩) (by simp; omega) (.int .i64 a.per)).setCell (p := ⟨wd.heap.size, 2, none⟩) (by simp; omega) (.int .i64 a.inc))
            clear own3 nb
            clear a0 a1 a2 hla
            generalize hws : ((wc.setCell ⟨wd.heap.size, 0, none⟩ (.slice A9 (D + n1) c9)).setCell ⟨wd.heap.size, 1, none⟩ (.int .i64 a.per)).setCell ⟨wd.heap.size, 2, none⟩ (.int .i64 a.inc) = ws at *
            clear hws
            obtain ⟨a0, a1, a2, hla⟩ := FA.out.cells
            refine hK.out _ _ (by exact ⟨a0, a1, a2⟩) (fun hHeld => ?_)
            clear hK K
            try simp only [Act.put]
            try simp only [List.setIfInBounds_toArray]
            try simp only [List.set_cons_succ]
            try simp only [List.set_cons_zero]
            refine wpAnyH_done (by kernel_rfl) ?_ _
            go_wp2_with fail
            go_meet
            exact ⟨_, A9, c9, rfl, ZB.out, OWN.out.lj (by omega), RB.out, BW.out⟩
        · rw [if_pos (by rfl)]
          go_simp
          have hbq := balloc wd (.cells #[.slice none 0 0, .int .i64 0, .int .i64 0] 31)
          have ZB := Lib.hid (Blk.new wd 31 #[.slice none 0 0, .int .i64 0, .int .i64 0])
          have hZ := FA.out.lt
          try (have OWN := Lib.hid (OWN.out.alloc (.cells #[.slice none 0 0, .int .i64 0, .int .i64 0] 31)))
          generalize hwa : wd.alloc (.cells #[.slice none 0 0, .int .i64 0, .int .i64 0] 31) = wa at *
          clear hwa
          have FA := Lib.hid (FA.out.below hbq); have RB := Lib.hid (RB.out.below hbq RB.out.lt); have BW := Lib.hid (bthen BW.out hbq)
          clear hHeld
          clear a0 a1 a2 hla
          obtain ⟨a0, a1, a2, hla⟩ := FA.out.cells
          try (have hwb := hbq.size)
          clear hbq
          refine hK.out _ _ (by exact ⟨a0, a1, a2⟩) (fun hHeld => ?_)
          clear hK K
          try simp only [Act.put]
          try simp only [List.setIfInBounds_toArray]
          try simp only [List.set_cons_succ]
          try simp only [List.set_cons_zero]
          refine wpAnyH_ready (rs := [5]) (by kernel_rfl) (by simp) ?_
          refine (AllReadyH.cons (by simp only [List.getElem?_toArray, List.getElem?_cons_succ, List.getElem?_cons_zero]; rfl) (fun K hK => ?_) AllReadyH.nil)
          rw [if_pos (by rfl)]
          go_simp
          refine hK.out _ _ (by exact ⟨a0, a1, a2⟩) (fun hHeld => ?_)
          clear hK K
          try simp only [Act.put]
          try simp only [List.setIfInBounds_toArray]
          try simp only [List.set_cons_succ]
          try simp only [List.set_cons_zero]
          refine wpAnyH_ready (rs := [6]) (by kernel_rfl) (by simp) ?_
          refine (AllReadyH.cons (by simp only [List.getElem?_toArray, List.getElem?_cons_succ, List.getElem?_cons_zero]; rfl) (fun K hK => ?_) AllReadyH.nil)
          refine step_make (by rfl) _ _ 22 (by rfl) Try.underlying22 .i64 .i64 _ _ D (by rfl) (by rfl) (by first | rfl | exact hmn) (by first | rfl | exact hmn) (by omega) ?_
          intro wb own1 grow1
          have hbq : Below wa.heap.size wa wb := (Below.refl _ _).grown grow1 (by simp) (by simp)
          have OWN := Lib.hid own1
          have hbase : w1.heap.size < wa.heap.size := FA.out.lt
          have hbase2 : wa.heap.size ≤ wb.heap.size := hbq.size
          try (have ZB := Lib.hid (ZB.out.below hbq ZB.out.lt))
          have FA := Lib.hid (FA.out.below hbq); have RB := Lib.hid (RB.out.below hbq RB.out.lt); have BW := Lib.hid (bthen BW.out hbq)
          clear hHeld
          clear a0 a1 a2 hla
          obtain ⟨a0, a1, a2, hla⟩ := FA.out.cells
          clear hbq own1 grow1
          refine hK.out _ _ (by exact ⟨a0, a1, a2⟩) (fun hHeld => ?_)
          clear hK K
          try simp only [Act.put]
          try simp only [List.setIfInBounds_toArray]
          try simp only [List.set_cons_succ]
          try simp only [List.set_cons_zero]
          refine wpAnyH_ready (rs := [9]) (by kernel_rfl) (by simp) ?_
          refine (AllReadyH.cons (by simp only [List.getElem?_toArray, List.getElem?_cons_succ, List.getElem?_cons_zero]; rfl) (fun K hK => ?_) AllReadyH.nil)
          refine step_app (by rfl) _ _ 22 (by rfl) Try.underlying22 wa.heap.size _ D (List.replicate D 0) (by rfl) OWN.out wb.heap.size A1 n1 c1 a.vals (by rfl) FA.out.ints (by omega) (by omega) ?_
          intro v2 wc own2 grow2 at2
          have hb2 : Below wa.heap.size wb wc := Below.grown (Below.refl _ _) grow2 (by omega) (fun g hg => (OWN.out.blk_lt g hg).1)
          try (have zb := Blk.grown ZB.out grow2 (fun e => OWN.out.ne_blk ZB.out (by decide) e.symm); have ZB := Lib.hid zb; clear zb)
          have FA := Lib.hid (FA.out.upto hb2 (by omega)); have RB := Lib.hid (RB.out.below hb2 (by omega)); have BW := Lib.hid (BW.out.trans (hb2.mono (by omega)))
          obtain ⟨A9, c9, rfl, hc9, hI9, hf9⟩ := own2.ints
          rw [LST.out] at own2
          have OWN := Lib.hid own2
          have hsz := grow2.size
          clear own2 hb2 hI9 hf9 grow2 at2 hHeld
          clear a0 a1 a2 hla
          obtain ⟨a0, a1, a2, hla⟩ := FA.out.cells
          refine hK.out _ _ (by exact ⟨a0, a1, a2⟩) (fun hHeld => ?_)
          clear hK K
          try simp only [Act.put]
          try simp only [List.setIfInBounds_toArray]
          try simp only [List.set_cons_succ]
          try simp only [List.set_cons_zero]
          refine wpAnyH_take (i := 10) (oi := _) (v := ?_) (by simp only [List.getElem?_toArray, List.getElem?_cons_succ, List.getElem?_cons_zero]; rfl) (by kernel_rfl) (by kernel_rfl) (by kernel_rfl) (by exact fun _ _ _ h => h) (Or.inl ⟨by rfl, ?_⟩) (by assumption) ?_
          rotate_left 1
          · (intro w hSw; (try dsimp only at hSw); go_simp; try with_reducible rfl)
          all_goals try simp only [Act.put]
          all_goals try simp only [List.setIfInBounds_toArray]
          all_goals try simp only [List.set_cons_succ]
          all_goals try simp only [List.set_cons_zero]
          refine wpAnyH_ready (rs := [12]) (by kernel_rfl) (by simp) ?_
          refine (AllReadyH.cons (by simp only [List.getElem?_toArray, List.getElem?_cons_succ, List.getElem?_cons_zero]; rfl) (fun K hK => ?_) AllReadyH.nil)
          obtain ⟨k0, k1, k2⟩ : _ ∧ _ ∧ _ := ⟨ZB.out.cell 0, ZB.out.cell 1, ZB.out.cell 2⟩
          simp at k0 k1 k2
          have l0 := ZB.out.frozen 0; have l1 := ZB.out.frozen 1; have l2 := ZB.out.frozen 2
          rw [if_pos (by rfl)]
          go_simp
          clear k0 k1 k2 l0 l1 l2
          have nb := OWN.out.ne_blk ZB.out (by decide)
          have own3 := ((OWN.out.far (p := ⟨wd.heap.size, 0, none⟩) nb (.slice A9 (D + n1) c9)).far (p := ⟨wd.heap.size, 1, none⟩) nb (.int .i64 a.per)).far (p := ⟨wd.heap.size, 2, none⟩) nb (.int .i64 a.inc)
          have OWN := Lib.hid own3
          have ZB := Lib.hid (ZB.out.store3 (.slice A9 (D + n1) c9) (.int .i64 a.per) (.int .i64 a.inc))
          have FA := Lib.hid (FA.out.set3 (g := wd.heap.size) (.inl (by omega)) (.slice A9 (D + n1) c9) (.int .i64 a.per) (.int .i64 a.inc))
          have RB := Lib.hid (((RB.out.far (p := ⟨wd.heap.size, 0, none⟩) (by simp; omega) (.slice A9 (D + n1) c9)).far (p := ⟨wd.heap.size, 1, none⟩) (by simp; omega) (.int .i64 a.per)).far (p := ⟨wd.heap.size, 2, none⟩) (by simp; omega) (.int .i64 a.inc))
          have BW := Lib.hid (((BW.out.setCell (p := ⟨wd.heap.size, 0, none⟩) (by simp; omega) (.slice A9 (D + n1) c9)).setCell (p := ⟨wd.heap.size, 1, none⟩) (by simp; omega) (.int .i64 a.per)).setCell (p := ⟨wd.heap.size, 2, none⟩) (by simp; omega) (.int .i64 a.inc))
          clear own3 nb
          clear a0 a1 a2 hla
          generalize hws : ((wc.setCell ⟨wd.heap.size, 0, none⟩ (.slice A9 (D + n1) c9)).setCell ⟨wd.heap.size, 1, none⟩ (.int .i64 a.per)).setCell ⟨wd.heap.size, 2, none⟩ (.int .i64 a.inc) = ws at *
          clear hws
          obtain ⟨a0, a1, a2, hla⟩ := FA.out.cells
          refine hK.out _ _ (by exact ⟨a0, a1, a2⟩) (fun hHeld => ?_)
          clear hK K
          try simp only [Act.put]
          try simp only [List.setIfInBounds_toArray]
          try simp only [List.set_cons_succ]
          try simp only [List.set_cons_zero]
          refine wpAnyH_done (by kernel_rfl) ?_ _
          go_wp2_with fail
          go_meet
          exact ⟨_, A9, c9, rfl, ZB.out, OWN.out.lj (by omega), RB.out, BW.out⟩
      case rest =>
        as_aux_lemma =>
        clear FA RB BW hmn
        obtain ⟨Z, A9, c9, rfl, zb, ⟨hc9, hI9, hf9⟩, rb, bw⟩ := hcut
        have ZB := Lib.hid zb; have RB := Lib.hid rb; have BW := Lib.hid bw; have HI9 := Lib.hid hI9; have HC9 := Lib.hid hc9
        clear zb rb bw hI9 hf9 hc9
        have hlk : (tab (laterV a D) 0 (D + n1)).length = D + n1 := tab_length _ _ _
        have TAB := Lib.hid (show ∀ t, Cv.at ⟨tab (laterV a D) 0 (D + n1), a.per, a.inc⟩ t = laterV a D t from fun t => by
          have := later_tab HAO.out D t
          rw [HL1.out] at this
          exact this)
        have PRE := Lib.hid (show Pre ⟨tab (laterV a D) 0 (D + n1), a.per, a.inc⟩ from ⟨hap, by show a.per ≤ ((tab (laterV a D) 0 (D + n1)).length : Nat); rw [hlk]; omega, hai, by show a.inc ≤ _; omega, by show (tab (laterV a D) 0 (D + n1)).length ≤ 100000; rw [hlk]; omega, fun r => by
          show 0 ≤ nth (tab (laterV a D) 0 (D + n1)) r ∧ nth (tab (laterV a D) 0 (D + n1)) r ≤ 4611686018427387904
          by_cases hr : r < D + n1
          · rw [tab_nth _ _ _ _ hr, Nat.zero_add]
            by_cases h : r < D
            · rw [laterV_lt h]; omega
            · rw [laterV_ge (by omega)]
              have := HAO.out.at_bd (n := r - D) (by omega)
              unfold inf at this; omega
          · rw [nth_out _ _ (by rw [hlk]; omega)]; omega⟩)
        have UP := Lib.hid (Up0.congr2 (later_up HAO.out D) TAB.out)
        have HINF := Lib.hid (show ∀ m t, m < (tab (laterV a D) 0 (D + n1)).length → nth (tab (laterV a D) 0 (D + n1)) m = inf → m ≤ t → Cv.at ⟨tab (laterV a D) 0 (D + n1), a.per, a.inc⟩ t = inf from fun m t hm h hmt => by
          rw [hlk] at hm
          rw [tab_nth _ _ _ _ hm, Nat.zero_add] at h
          rw [TAB.out t]
          exact (later_inf HAO.out (by rw [HL1.out]; exact hm) h hmt).2)
        clear hlk
        obtain ⟨k0, k1, k2⟩ : _ ∧ _ ∧ _ := ⟨ZB.out.cell 0, ZB.out.cell 1, ZB.out.cell 2⟩
        simp at k0 k1 k2
        have hlz := ZB.out.lt
        go_wp2_with fail
        refine (refMade_any A9 (D + n1) c9 a.per a.inc (tab (laterV a D) 0 (D + n1)) _ HI9.out HC9.out PRE.out UP.out HINF.out).mono ?_
        rintro e wq ⟨r, er, A5, n5, c5, hS, hc5, rfl, hI5, hA5, hbq⟩
        have F := Lib.hid (show LaterS ⟨xs, p, i⟩ d r er from .inr (.inr ⟨HFO.out, hd0, hd1, a, HNF.out, by
          have hS2 : MadeS (laterV a D) r er := hS.congr TAB.out
          by_cases h8 : d.toNat ≤ 800
          · rw [show d.toNat = D by rw [HD.out]; omega]; exact hS2
          · have hD8 : D = 800 := by rw [HD.out]; omega
            by_cases hz : ∃ t, a.at t ≠ 0
            · exact later_cut HFO.out HNF.out (e := D) (by omega) (by omega) hS2 hz
            · have hz2 : ∀ t, a.at t = 0 := fun t => Classical.byContradiction fun h => hz ⟨t, h⟩
              have ha0 := nf_zero HNF.out hz2
              rw [ha0] at hS2 ⊢
              obtain ⟨rfl, rfl⟩ := hS2.unique (later_zero D)
              exact later_zero _⟩))
        have hw8 := RB.out.lt
        have RB := Lib.hid (RB.out.below hbq RB.out.lt)
        have BW := Lib.hid (bthen BW.out hbq)
        have HI5 := Lib.hid hI5; have HA5 := Lib.hid hA5
        clear hS hI5 hA5 hbq k0 k1 k2 hlz
        obtain ⟨r0, r1, r2⟩ : _ ∧ _ ∧ _ := ⟨RB.out.cell 0, RB.out.cell 1, RB.out.cell 2⟩
        simp at r0 r1 r2
        have y0 := RB.out.frozen 0; have y1 := RB.out.frozen 1; have y2 := RB.out.frozen 2
        have hlr := RB.out.lt
        go_wp2_with fail
        have rb := RB.out.store3 (.slice A5 n5 c5) (.int .i64 r.per) (.int .i64 r.inc)
        exact bodyPost_ret (v := .tuple #[.agg #[.slice A5 n5 c5, .int .i64 r.per, .int .i64 r.inc], .int .i64 er]) (by simp [results, Try.results37, go_sem, rb.cell]) rfl (retS2_store F.out hc5 HA5.out (by omega) (by omega) HI5.out BW.out)
  · have F := Lib.hid (show LaterS ⟨xs, p, i⟩ d Cv.none 1 from .inl ⟨hno, rfl, rfl⟩)
    clear HN hno
    go_wp2_with fail
    have rb := RB.out.store3 (.slice none 0 0) (.int .i64 0) (.int .i64 0)
    exact bodyPost_ret (v := .tuple #[.agg #[.slice none 0 0, .int .i64 0, .int .i64 0], .int .i64 1]) (by simp [results, Try.results37, go_sem, rb.cell]) rfl (retS2_store0 F.out (by omega) BW.out)
end Go.Proofs.Ytbkimphcmmmaiaa
