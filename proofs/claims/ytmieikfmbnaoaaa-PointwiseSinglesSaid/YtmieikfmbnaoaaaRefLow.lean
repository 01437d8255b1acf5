/- netcalculusref05.Lower: what it returns. -/
import Derived.Test.YtmieikfmbnaoaaaRefOne
import Derived.Test.YtmieikfmbnaoaaaExtLaw
namespace Go.Proofs.Ytmieikfmbnaoaaa
open Go.RowKit
set_option linter.unusedVariables false

set_option maxHeartbeats 4000000 in
set_option maxRecDepth 100000 in
theorem refLower_any (A : Option Addr) (n c : Nat) (p i d : Int) (xs : List Int) (w : World) (hA : Ints w w.heap.size A n xs) (hn : (n : Int) ≤ 1000000) (hnc : n ≤ c) :
    Calls Try.prog 69 #[.agg #[.slice A n c, .int .i64 p, .int .i64 i], .int .i64 d] w (RetS2 (LowerS ⟨xs, p, i⟩ d) w) := by
-- netcalculus/netcalculusref05.Lower the function, {1} the relation, {2} the greatest number
  have E := Lib.hid (LB.new (p := p) (i := i) (c := c) hA)
  have HNC := Lib.hid hnc
  clear hA hnc
  go_enter Try.func69, Try.ntmps69
  go_wp2_with fail
  refine (refNormal_any A n c p i xs _ E.out.ints HNC.out hn).mono ?_
  rintro e w1 ⟨a, er, hN, A1, n1, c1, rfl, hI1, hA1, hb⟩
  simp only [World.size_alloc] at hA1
  have HN := Lib.hid hN
  have E1 := Lib.hid (E.out.below hb)
  have hs1 : w.heap.size + 1 < w1.heap.size := E1.out.rb.lt
  have FA := Lib.hid (By.new (L := w.heap.size + 1 + 1) (c := c1) hI1 hA1 (Nat.le_refl _) (by omega))
  have RB := Lib.hid (E1.out.rb.alloc (.cells #[.slice A1 n1 c1, .int .i64 a.per, .int .i64 a.inc] 41))
  have BW := Lib.hid (bthen E1.out.bw (balloc _ (.cells #[.slice A1 n1 c1, .int .i64 a.per, .int .i64 a.inc] 41)))
  clear hN hI1 hA1 hb E E1
  go_upto_region 2 with fail
  generalize hwz : w1.alloc (.cells #[.slice A1 n1 c1, .int .i64 a.per, .int .i64 a.inc] 41) = wz at *
  clear hwz
  obtain ⟨r0, r1, r2⟩ : _ ∧ _ ∧ _ := ⟨RB.out.cell 0, RB.out.cell 1, RB.out.cell 2⟩
  simp at r0 r1 r2
  have y0 := RB.out.frozen 0; have y1 := RB.out.frozen 1; have y2 := RB.out.frozen 2
  have hlr := RB.out.lt
  rcases HN.out with ⟨hfo, hnf, hao, rfl⟩ | ⟨hno, rfl, rfl⟩
  · by_cases hr : d < 0 ∨ 1073741824 < d
    · have F := Lib.hid (show LowerS ⟨xs, p, i⟩ d Cv.none 2 from .inr (.inl ⟨hfo, hr, rfl, rfl⟩))
      clear HN hfo hnf hao
      rcases hr with hr | hr
      all_goals
        go_wp2_with fail
        -- an error is returned: 2 its number, netcalculus/netcalculusref05.Lower the function
        have rb := RB.out.store3 (.slice none 0 0) (.int .i64 0) (.int .i64 0)
        exact bodyPost_ret (v := .tuple #[.agg #[.slice none 0 0, .int .i64 0, .int .i64 0], .int .i64 2]) (by simp [results, Try.results69, go_sem, rb.cell]) rfl (retS2_store0 F.out (by omega) BW.out)
    · clear r0 r1 r2 y0 y1 y2 hlr
      have hd0 : 0 ≤ d := by omega
      have hd1 : d ≤ 1073741824 := by omega
      have g1 : decide (d < 0) = false := by simp; omega
      have g2 : decide ((1073741824 : Int) < d) = false := by simp; omega
      have ha1 := hao.n1; have ha2 := hao.n2; have hap := hao.p1; have hap2 := hao.p2; have hai := hao.i1; have hai2 := hao.i2; have hapn := hao.pn
      have hl1 : a.vals.length = n1 := FA.out.ints.1
      rw [hl1] at ha1 ha2 hapn
      have HFO := Lib.hid hfo; have HNF := Lib.hid hnf; have HAO := Lib.hid hao; have HL1 := Lib.hid hl1
      clear hr HN hfo hnf hao hl1
      obtain ⟨a0, a1, a2, hla⟩ := FA.out.cells
      go_upto_region 6 with fail
      clear g1 g2
      go_wp2_with fail
      refine (refFinite_any A1 n1 c1 a.per a.inc a.vals _ (by exact FA.out.ints) (by omega)).mono ?_
      by_cases hfa : a.Fin
      · rw [show Cv.finB ⟨a.vals, a.per, a.inc⟩ = true from finB_t hfa]
        rintro e wf ⟨rfl, hbq⟩
        have FA := Lib.hid (FA.out.below hbq); have RB := Lib.hid (RB.out.below hbq RB.out.lt); have BW := Lib.hid (bthen BW.out hbq)
        clear hbq
        clear a0 a1 a2 hla
        obtain ⟨a0, a1, a2, hla⟩ := FA.out.cells
        by_cases hi0 : 0 < a.inc
        · obtain ⟨x, hx⟩ : ∃ x, x = a.at 400 := ⟨_, rfl⟩
          go_wp2_with fail
          refine (refAt_any A1 n1 c1 a.per a.inc 400 a.vals _ (by exact FA.out.ints) (by omega) (by omega) (by omega) (by omega) (by omega) HAO.out.nn (by omega) (by omega)).mono ?_
          rw [show Cv.at ⟨a.vals, a.per, a.inc⟩ (400 : Int).toNat = x from hx.symm]
          rintro e wh ⟨rfl, hbq⟩
          have FA := Lib.hid (FA.out.below hbq); have RB := Lib.hid (RB.out.below hbq RB.out.lt); have BW := Lib.hid (bthen BW.out hbq)
          clear hbq
          clear a0 a1 a2 hla
          obtain ⟨a0, a1, a2, hla⟩ := FA.out.cells
          by_cases hxd : x < d
          · rw [hx] at hxd
            have hxd2 : x < d := by omega
            have F := Lib.hid (show LowerS ⟨xs, p, i⟩ d Cv.none 3 from .inr (.inr ⟨HFO.out, hd0, hd1, a, HNF.out, MadeL.none_ (lower_no HAO.out (by omega) (by omega))⟩))
            clear a0 a1 a2 hla
            obtain ⟨r0, r1, r2⟩ : _ ∧ _ ∧ _ := ⟨RB.out.cell 0, RB.out.cell 1, RB.out.cell 2⟩
            simp at r0 r1 r2
            have y0 := RB.out.frozen 0; have y1 := RB.out.frozen 1; have y2 := RB.out.frozen 2
            have hlr := RB.out.lt
            go_wp2_with fail
            -- an error is returned: 3 its number, netcalculus/netcalculusref05.Lower the function
            have rb := RB.out.store3 (.slice none 0 0) (.int .i64 0) (.int .i64 0)
            exact bodyPost_ret (v := .tuple #[.agg #[.slice none 0 0, .int .i64 0, .int .i64 0], .int .i64 3]) (by simp [results, Try.results69, go_sem, rb.cell]) rfl (retS2_store0 F.out (by omega) BW.out)
          · have H4 := Lib.hid (show a.inc = 0 ∨ d ≤ a.at 400 from .inr (by omega))
            clear hx
            -- the list is made; H4 stands
            clear a0 a1 a2 hla
            obtain ⟨a0, a1, a2, hla⟩ := FA.out.cells
            go_upto_region 9 with fail
            have OB := Lib.hid (Blk.new wh 41 #[.slice none 0 0, .int .i64 a.per, .int .i64 a.inc])
            have FA := Lib.hid (FA.out.alloc (.cells #[.slice none 0 0, .int .i64 a.per, .int .i64 a.inc] 41))
            have RB := Lib.hid (RB.out.alloc (.cells #[.slice none 0 0, .int .i64 a.per, .int .i64 a.inc] 41))
            have BW := Lib.hid (bthen BW.out (balloc wh (.cells #[.slice none 0 0, .int .i64 a.per, .int .i64 a.inc] 41)))
            have hP : w1.heap.size < wh.heap.size := hla
            clear a0 a1 a2 hla
            generalize hwo : wh.alloc (.cells #[.slice none 0 0, .int .i64 a.per, .int .i64 a.inc] 41) = wo at OB FA RB BW ⊢
            clear hwo
            generalize wh.heap.size = P at OB hP ⊢
            obtain ⟨pn, hpn⟩ := Int.eq_ofNat_of_zero_le (show 0 ≤ a.per by omega)
            obtain ⟨N, hN⟩ : ∃ N, N = 400 + pn := ⟨_, rfl⟩
            have hN1 : N ≤ 520 := by omega
            have hNp : a.per ≤ N := by omega
            have hNs : 400 + a.per = (N : Int) := by omega
            have HN := Lib.hid (show 400 + a.per.toNat = N from by omega)
            clear hN hpn
            go_wp2_with fail
            go_loopg [9, 10] N (fun gg s9 s10 wx => ∃ (k : Nat) (Am : Option Addr) (cm : Nat), k + gg = N ∧ s9 = .int .i64 k ∧ Blk wx P 41 #[.slice Am k cm, .int .i64 a.per, .int .i64 a.inc] ∧ Own wx (P + 1) (.slice Am k cm) k (tab (lowerV a d) 0 k) ∧
              By (w.heap.size + 1 + 1) wx w1.heap.size A1 n1 c1 a ∧ Blk wx (w.heap.size + 1) 41 #[.slice none 0 0, .int .i64 0, .int .i64 0] ∧ Below w.heap.size w wx)
            case atStart => exact ⟨0, none, 0, by omega, rfl, OB.out, Own.nil_ _ _, FA.out, RB.out, BW.out⟩
            case round =>
              clear OB FA RB BW
              obtain ⟨k, Am, cm, hkg, rfl, ob, own, fa, rb, bw⟩ := hrel
              have OB := Lib.hid ob; have OWN := Lib.hid own; have FA := Lib.hid fa; have RB := Lib.hid rb; have BW := Lib.hid bw
              clear ob own fa rb bw
              obtain ⟨a0, a1, a2, hla⟩ := FA.out.cells
              by_cases hk : k < N
              · have hki : (k : Int) < N := by omega
                obtain ⟨x, hx⟩ : ∃ x, x = a.at k := ⟨_, rfl⟩
                have HX := Lib.hid hx
                have hxb := at_mid HAO.out (t := k) (by omega)
                rw [← hx] at hxb
                have hlw := lower_at HAO.out (c := d) (t := k) (by omega)
                rw [← hx] at hlw
                have HLW := Lib.hid hlw
                clear hx hk hlw
                go_wp2_with fail
                refine (refAt_any A1 n1 c1 a.per a.inc (k : Int) a.vals _ (by exact FA.out.ints) (by omega) (by omega) (by omega) (by omega) (by omega) HAO.out.nn (by omega) (by omega)).mono ?_
                rw [Int.toNat_natCast, show Cv.at ⟨a.vals, a.per, a.inc⟩ k = x from HX.out.symm]
                rintro e wq ⟨rfl, hbq⟩
                have OB := Lib.hid (OB.out.below hbq OB.out.lt); have OWN := Lib.hid (OWN.out.below hbq (fun g hg => (OWN.out.blk_lt g hg).2))
                have FA := Lib.hid (FA.out.below hbq); have RB := Lib.hid (RB.out.below hbq RB.out.lt); have BW := Lib.hid (bthen BW.out hbq)
                clear hbq
                clear a0 a1 a2 hla
                obtain ⟨a0, a1, a2, hla⟩ := FA.out.cells
                obtain ⟨o0, o1, o2⟩ : _ ∧ _ ∧ _ := ⟨OB.out.cell 0, OB.out.cell 1, OB.out.cell 2⟩
                simp at o0 o1 o2
                have z0 := OB.out.frozen 0
                have hlo := OB.out.lt
                by_cases hxi : x = 4611686018427387904
                · have HZ := Lib.hid (show x = lowerV a d k from by rw [HLW.out, if_pos (by exact hxi), hxi]; rfl)
                  have b1 : (x != 4611686018427387904) = false := by simpa using hxi
                  clear hxi hxb
                  go_upto_region 15 with fail
                  clear a0 a1 a2 hla
                  go_wp2_with (at_builtin; refine wpList_app rfl _ _ 26 rfl Try.underlying26 (P + 1) (.slice Am k cm) k (tab (lowerV a d) 0 k) rfl (OWN.out.alloc (.cells ([x].map (Value.int .i64)).toArray 3)) _ (some ⟨wq.heap.size, 0, none⟩) 1 1 [x] rfl (ints_litC wq [x]) (by omega) (by simp; omega) ?_; intro v2 w2 own2 grow2 at2; have hb2 : Below (P + 1) wq w2 := ((balloc wq (.cells ([x].map (Value.int .i64)).toArray 3)).mono (by omega)).trans (Below.grown (Below.refl _ _) grow2 (by simp; omega) (fun g hg => (OWN.out.blk_lt g hg).1)); obtain ⟨A9, c9, rfl, hc9, hI9, hf9⟩ := own2.ints; rw [HZ.out, tab_snoc] at own2; have OWN := Lib.hid own2; have FA := Lib.hid (FA.out.upto hb2 (by omega)); have RB := Lib.hid (RB.out.below hb2 (by omega)); have BW := Lib.hid (BW.out.trans (hb2.mono (by omega))); have OB := Lib.hid (OB.out.below hb2 (by omega)); clear own2 grow2 at2 hb2 hI9 hf9 hc9; (clear o0 o1 o2 z0 hlo); (obtain ⟨o0, o1, o2⟩ : _ ∧ _ ∧ _ := ⟨OB.out.cell 0, OB.out.cell 1, OB.out.cell 2⟩); simp at o0 o1 o2; have z0 := OB.out.frozen 0; have hlo := OB.out.lt)
                  go_roundg (gk - 1)
                  case measure => omega
                  case rel => exact ⟨k + 1, A9, c9, by omega, by go_num, OB.out.set_ 0 _, OWN.out.far (p := ⟨P, 0, none⟩) (fun e => by have := (OWN.out.blk_lt _ e).1; simp at this; omega) _, FA.out.set1 (g := P) (.inl (by omega)) 0 _, RB.out.far (p := ⟨P, 0, none⟩) (by simp; omega) _, BW.out.setCell (p := ⟨P, 0, none⟩) (by simp; omega) _⟩
                · have b1 : (x != 4611686018427387904) = true := by simpa using hxi
                  have hx2 := hxb.2.resolve_left hxi
                  obtain ⟨y, hy⟩ : ∃ y, y = x - d := ⟨_, rfl⟩
                  have e0 : IntKind.i64.wrap (x - d) = y := by rw [hy]; exact IntWalk.i64_in _ (by omega)
                  have HY := Lib.hid (show lowerV a d k = max 0 y from by rw [HLW.out, if_neg (by exact hxi), hy])
                  clear hy hxi hxb hx2
                  by_cases hy0 : 0 < y
                  · have HZ := Lib.hid (show y = lowerV a d k from by rw [HY.out]; omega)
                    go_upto_region 15 with fail
                    clear a0 a1 a2 hla
                    go_wp2_with (at_builtin; refine wpList_app rfl _ _ 26 rfl Try.underlying26 (P + 1) (.slice Am k cm) k (tab (lowerV a d) 0 k) rfl (OWN.out.alloc (.cells ([y].map (Value.int .i64)).toArray 3)) _ (some ⟨wq.heap.size, 0, none⟩) 1 1 [y] rfl (ints_litC wq [y]) (by omega) (by simp; omega) ?_; intro v2 w2 own2 grow2 at2; have hb2 : Below (P + 1) wq w2 := ((balloc wq (.cells ([y].map (Value.int .i64)).toArray 3)).mono (by omega)).trans (Below.grown (Below.refl _ _) grow2 (by simp; omega) (fun g hg => (OWN.out.blk_lt g hg).1)); obtain ⟨A9, c9, rfl, hc9, hI9, hf9⟩ := own2.ints; rw [HZ.out, tab_snoc] at own2; have OWN := Lib.hid own2; have FA := Lib.hid (FA.out.upto hb2 (by omega)); have RB := Lib.hid (RB.out.below hb2 (by omega)); have BW := Lib.hid (BW.out.trans (hb2.mono (by omega))); have OB := Lib.hid (OB.out.below hb2 (by omega)); clear own2 grow2 at2 hb2 hI9 hf9 hc9; (clear o0 o1 o2 z0 hlo); (obtain ⟨o0, o1, o2⟩ : _ ∧ _ ∧ _ := ⟨OB.out.cell 0, OB.out.cell 1, OB.out.cell 2⟩); simp at o0 o1 o2; have z0 := OB.out.frozen 0; have hlo := OB.out.lt)
                    go_roundg (gk - 1)
                    case measure => omega
                    case rel => exact ⟨k + 1, A9, c9, by omega, by go_num, OB.out.set_ 0 _, OWN.out.far (p := ⟨P, 0, none⟩) (fun e => by have := (OWN.out.blk_lt _ e).1; simp at this; omega) _, FA.out.set1 (g := P) (.inl (by omega)) 0 _, RB.out.far (p := ⟨P, 0, none⟩) (by simp; omega) _, BW.out.setCell (p := ⟨P, 0, none⟩) (by simp; omega) _⟩
                  · have HZ := Lib.hid (show 0 = lowerV a d k from by rw [HY.out]; omega)
                    go_upto_region 15 with fail
                    clear a0 a1 a2 hla
                    go_wp2_with (at_builtin; refine wpList_app rfl _ _ 26 rfl Try.underlying26 (P + 1) (.slice Am k cm) k (tab (lowerV a d) 0 k) rfl (OWN.out.alloc (.cells ([0].map (Value.int .i64)).toArray 3)) _ (some ⟨wq.heap.size, 0, none⟩) 1 1 [0] rfl (ints_litC wq [0]) (by omega) (by simp; omega) ?_; intro v2 w2 own2 grow2 at2; have hb2 : Below (P + 1) wq w2 := ((balloc wq (.cells ([0].map (Value.int .i64)).toArray 3)).mono (by omega)).trans (Below.grown (Below.refl _ _) grow2 (by simp; omega) (fun g hg => (OWN.out.blk_lt g hg).1)); obtain ⟨A9, c9, rfl, hc9, hI9, hf9⟩ := own2.ints; rw [HZ.out, tab_snoc] at own2; have OWN := Lib.hid own2; have FA := Lib.hid (FA.out.upto hb2 (by omega)); have RB := Lib.hid (RB.out.below hb2 (by omega)); have BW := Lib.hid (BW.out.trans (hb2.mono (by omega))); have OB := Lib.hid (OB.out.below hb2 (by omega)); clear own2 grow2 at2 hb2 hI9 hf9 hc9; (clear o0 o1 o2 z0 hlo); (obtain ⟨o0, o1, o2⟩ : _ ∧ _ ∧ _ := ⟨OB.out.cell 0, OB.out.cell 1, OB.out.cell 2⟩); simp at o0 o1 o2; have z0 := OB.out.frozen 0; have hlo := OB.out.lt)
                    go_roundg (gk - 1)
                    case measure => omega
                    case rel => exact ⟨k + 1, A9, c9, by omega, by go_num, OB.out.set_ 0 _, OWN.out.far (p := ⟨P, 0, none⟩) (fun e => by have := (OWN.out.blk_lt _ e).1; simp at this; omega) _, FA.out.set1 (g := P) (.inl (by omega)) 0 _, RB.out.far (p := ⟨P, 0, none⟩) (by simp; omega) _, BW.out.setCell (p := ⟨P, 0, none⟩) (by simp; omega) _⟩
              · obtain ⟨o0, o1, o2⟩ : _ ∧ _ ∧ _ := ⟨OB.out.cell 0, OB.out.cell 1, OB.out.cell 2⟩
                simp at o0 o1 o2
                have z0 := OB.out.frozen 0
                have hlo := OB.out.lt
                have TAB := Lib.hid (show ∀ t, Cv.at ⟨tab (lowerV a d) 0 N, a.per, a.inc⟩ t = lowerV a d t from fun t => by rw [← HN.out]; exact lower_tab HAO.out hd0 H4.out t)
                have hkN : k = N := by omega
                subst hkN
                clear hk hkg
                obtain ⟨hpre, hup, hinf⟩ := tab_pre (lower_up HAO.out hd0) hap hNp hai (by omega) (by omega) (fun r hr => lower_small HAO.out hd0 (by omega)) (fun m t hm h hmt => (lower_inf HAO.out hd0 (by omega) h hmt).2) TAB.out
                have PRE := Lib.hid hpre; have UP := Lib.hid hup; have HINF := Lib.hid hinf
                clear hpre hup hinf
                obtain ⟨A9, c9, e', hc9, hI9, hf9⟩ := OWN.out.ints
                injection e' with e1 e2 e3
                subst e1 e3
                -- netcalculus/netcalculusref05.Lower the function, LowerS the relation, lowerV a d h, (hS.congr TAB.out).toL what F is by, k length
                have HI9 := Lib.hid hI9; have HC9 := Lib.hid hc9
                clear hI9 hc9 hf9
                go_wp2_with fail
                refine (refMade_any Am k cm a.per a.inc (tab (lowerV a d) 0 k) _ HI9.out HC9.out PRE.out UP.out HINF.out).mono ?_
                rintro e wq ⟨r, er, A5, n5, c5, hS, hc5, rfl, hI5, hA5, hbq⟩
                have F := Lib.hid (show LowerS ⟨xs, p, i⟩ d r er from .inr (.inr ⟨HFO.out, hd0, hd1, a, HNF.out, (hS.congr TAB.out).toL⟩))
                have RB := Lib.hid (RB.out.below hbq RB.out.lt); have BW := Lib.hid (bthen BW.out hbq)
                have HI5 := Lib.hid hI5; have HA5 := Lib.hid hA5
                have hlw := hlo
                clear hS hI5 hA5 hbq
                clear o0 o1 o2 z0 hlo
                clear a0 a1 a2 hla
                obtain ⟨r0, r1, r2⟩ : _ ∧ _ ∧ _ := ⟨RB.out.cell 0, RB.out.cell 1, RB.out.cell 2⟩
                simp at r0 r1 r2
                have y0 := RB.out.frozen 0; have y1 := RB.out.frozen 1; have y2 := RB.out.frozen 2
                have hlr := RB.out.lt
                go_wp2_with fail
                have rb := RB.out.store3 (.slice A5 n5 c5) (.int .i64 r.per) (.int .i64 r.inc)
                exact bodyPost_ret (v := .tuple #[.agg #[.slice A5 n5 c5, .int .i64 r.per, .int .i64 r.inc], .int .i64 er]) (by simp [results, Try.results69, go_sem, rb.cell]) rfl (retS2_store F.out hc5 HA5.out (by omega) (by omega) HI5.out BW.out)
        · have H4 := Lib.hid (show a.inc = 0 ∨ d ≤ a.at 400 from .inl (by omega))
          -- the list is made; H4 stands
          clear a0 a1 a2 hla
          obtain ⟨a0, a1, a2, hla⟩ := FA.out.cells
          go_upto_region 9 with fail
          have OB := Lib.hid (Blk.new wf 41 #[.slice none 0 0, .int .i64 a.per, .int .i64 a.inc])
          have FA := Lib.hid (FA.out.alloc (.cells #[.slice none 0 0, .int .i64 a.per, .int .i64 a.inc] 41))
          have RB := Lib.hid (RB.out.alloc (.cells #[.slice none 0 0, .int .i64 a.per, .int .i64 a.inc] 41))
          have BW := Lib.hid (bthen BW.out (balloc wf (.cells #[.slice none 0 0, .int .i64 a.per, .int .i64 a.inc] 41)))
          have hP : w1.heap.size < wf.heap.size := hla
          clear a0 a1 a2 hla
          generalize hwo : wf.alloc (.cells #[.slice none 0 0, .int .i64 a.per, .int .i64 a.inc] 41) = wo at OB FA RB BW ⊢
          clear hwo
          generalize wf.heap.size = P at OB hP ⊢
          obtain ⟨pn, hpn⟩ := Int.eq_ofNat_of_zero_le (show 0 ≤ a.per by omega)
          obtain ⟨N, hN⟩ : ∃ N, N = 400 + pn := ⟨_, rfl⟩
          have hN1 : N ≤ 520 := by omega
          have hNp : a.per ≤ N := by omega
          have hNs : 400 + a.per = (N : Int) := by omega
          have HN := Lib.hid (show 400 + a.per.toNat = N from by omega)
          clear hN hpn
          go_wp2_with fail
          go_loopg [9, 10] N (fun gg s9 s10 wx => ∃ (k : Nat) (Am : Option Addr) (cm : Nat), k + gg = N ∧ s9 = .int .i64 k ∧ Blk wx P 41 #[.slice Am k cm, .int .i64 a.per, .int .i64 a.inc] ∧ Own wx (P + 1) (.slice Am k cm) k (tab (lowerV a d) 0 k) ∧
            By (w.heap.size + 1 + 1) wx w1.heap.size A1 n1 c1 a ∧ Blk wx (w.heap.size + 1) 41 #[.slice none 0 0, .int .i64 0, .int .i64 0] ∧ Below w.heap.size w wx)
          case atStart => exact ⟨0, none, 0, by omega, rfl, OB.out, Own.nil_ _ _, FA.out, RB.out, BW.out⟩
          case round =>
            clear OB FA RB BW
            obtain ⟨k, Am, cm, hkg, rfl, ob, own, fa, rb, bw⟩ := hrel
            have OB := Lib.hid ob; have OWN := Lib.hid own; have FA := Lib.hid fa; have RB := Lib.hid rb; have BW := Lib.hid bw
            clear ob own fa rb bw
            obtain ⟨a0, a1, a2, hla⟩ := FA.out.cells
            by_cases hk : k < N
            · have hki : (k : Int) < N := by omega
              obtain ⟨x, hx⟩ : ∃ x, x = a.at k := ⟨_, rfl⟩
              have HX := Lib.hid hx
              have hxb := at_mid HAO.out (t := k) (by omega)
              rw [← hx] at hxb
              have hlw := lower_at HAO.out (c := d) (t := k) (by omega)
              rw [← hx] at hlw
              have HLW := Lib.hid hlw
              clear hx hk hlw
              go_wp2_with fail
              refine (refAt_any A1 n1 c1 a.per a.inc (k : Int) a.vals _ (by exact FA.out.ints) (by omega) (by omega) (by omega) (by omega) (by omega) HAO.out.nn (by omega) (by omega)).mono ?_
              rw [Int.toNat_natCast, show Cv.at ⟨a.vals, a.per, a.inc⟩ k = x from HX.out.symm]
              rintro e wq ⟨rfl, hbq⟩
              have OB := Lib.hid (OB.out.below hbq OB.out.lt); have OWN := Lib.hid (OWN.out.below hbq (fun g hg => (OWN.out.blk_lt g hg).2))
              have FA := Lib.hid (FA.out.below hbq); have RB := Lib.hid (RB.out.below hbq RB.out.lt); have BW := Lib.hid (bthen BW.out hbq)
              clear hbq
              clear a0 a1 a2 hla
              obtain ⟨a0, a1, a2, hla⟩ := FA.out.cells
              obtain ⟨o0, o1, o2⟩ : _ ∧ _ ∧ _ := ⟨OB.out.cell 0, OB.out.cell 1, OB.out.cell 2⟩
              simp at o0 o1 o2
              have z0 := OB.out.frozen 0
              have hlo := OB.out.lt
              by_cases hxi : x = 4611686018427387904
              · have HZ := Lib.hid (show x = lowerV a d k from by rw [HLW.out, if_pos (by exact hxi), hxi]; rfl)
                have b1 : (x != 4611686018427387904) = false := by simpa using hxi
                clear hxi hxb
                go_upto_region 15 with fail
                clear a0 a1 a2 hla
                go_wp2_with (at_builtin; refine wpList_app rfl _ _ 26 rfl Try.underlying26 (P + 1) (.slice Am k cm) k (tab (lowerV a d) 0 k) rfl (OWN.out.alloc (.cells ([x].map (Value.int .i64)).toArray 3)) _ (some ⟨wq.heap.size, 0, none⟩) 1 1 [x] rfl (ints_litC wq [x]) (by omega) (by simp; omega) ?_; intro v2 w2 own2 grow2 at2; have hb2 : Below (P + 1) wq w2 := ((balloc wq (.cells ([x].map (Value.int .i64)).toArray 3)).mono (by omega)).trans (Below.grown (Below.refl _ _) grow2 (by simp; omega) (fun g hg => (OWN.out.blk_lt g hg).1)); obtain ⟨A9, c9, rfl, hc9, hI9, hf9⟩ := own2.ints; rw [HZ.out, tab_snoc] at own2; have OWN := Lib.hid own2; have FA := Lib.hid (FA.out.upto hb2 (by omega)); have RB := Lib.hid (RB.out.below hb2 (by omega)); have BW := Lib.hid (BW.out.trans (hb2.mono (by omega))); have OB := Lib.hid (OB.out.below hb2 (by omega)); clear own2 grow2 at2 hb2 hI9 hf9 hc9; (clear o0 o1 o2 z0 hlo); (obtain ⟨o0, o1, o2⟩ : _ ∧ _ ∧ _ := ⟨OB.out.cell 0, OB.out.cell 1, OB.out.cell 2⟩); simp at o0 o1 o2; have z0 := OB.out.frozen 0; have hlo := OB.out.lt)
                go_roundg (gk - 1)
                case measure => omega
                case rel => exact ⟨k + 1, A9, c9, by omega, by go_num, OB.out.set_ 0 _, OWN.out.far (p := ⟨P, 0, none⟩) (fun e => by have := (OWN.out.blk_lt _ e).1; simp at this; omega) _, FA.out.set1 (g := P) (.inl (by omega)) 0 _, RB.out.far (p := ⟨P, 0, none⟩) (by simp; omega) _, BW.out.setCell (p := ⟨P, 0, none⟩) (by simp; omega) _⟩
              · have b1 : (x != 4611686018427387904) = true := by simpa using hxi
                have hx2 := hxb.2.resolve_left hxi
                obtain ⟨y, hy⟩ : ∃ y, y = x - d := ⟨_, rfl⟩
                have e0 : IntKind.i64.wrap (x - d) = y := by rw [hy]; exact IntWalk.i64_in _ (by omega)
                have HY := Lib.hid (show lowerV a d k = max 0 y from by rw [HLW.out, if_neg (by exact hxi), hy])
                clear hy hxi hxb hx2
                by_cases hy0 : 0 < y
                · have HZ := Lib.hid (show y = lowerV a d k from by rw [HY.out]; omega)
                  go_upto_region 15 with fail
                  clear a0 a1 a2 hla
                  go_wp2_with (at_builtin; refine wpList_app rfl _ _ 26 rfl Try.underlying26 (P + 1) (.slice Am k cm) k (tab (lowerV a d) 0 k) rfl (OWN.out.alloc (.cells ([y].map (Value.int .i64)).toArray 3)) _ (some ⟨wq.heap.size, 0, none⟩) 1 1 [y] rfl (ints_litC wq [y]) (by omega) (by simp; omega) ?_; intro v2 w2 own2 grow2 at2; have hb2 : Below (P + 1) wq w2 := ((balloc wq (.cells ([y].map (Value.int .i64)).toArray 3)).mono (by omega)).trans (Below.grown (Below.refl _ _) grow2 (by simp; omega) (fun g hg => (OWN.out.blk_lt g hg).1)); obtain ⟨A9, c9, rfl, hc9, hI9, hf9⟩ := own2.ints; rw [HZ.out, tab_snoc] at own2; have OWN := Lib.hid own2; have FA := Lib.hid (FA.out.upto hb2 (by omega)); have RB := Lib.hid (RB.out.below hb2 (by omega)); have BW := Lib.hid (BW.out.trans (hb2.mono (by omega))); have OB := Lib.hid (OB.out.below hb2 (by omega)); clear own2 grow2 at2 hb2 hI9 hf9 hc9; (clear o0 o1 o2 z0 hlo); (obtain ⟨o0, o1, o2⟩ : _ ∧ _ ∧ _ := ⟨OB.out.cell 0, OB.out.cell 1, OB.out.cell 2⟩); simp at o0 o1 o2; have z0 := OB.out.frozen 0; have hlo := OB.out.lt)
                  go_roundg (gk - 1)
                  case measure => omega
                  case rel => exact ⟨k + 1, A9, c9, by omega, by go_num, OB.out.set_ 0 _, OWN.out.far (p := ⟨P, 0, none⟩) (fun e => by have := (OWN.out.blk_lt _ e).1; simp at this; omega) _, FA.out.set1 (g := P) (.inl (by omega)) 0 _, RB.out.far (p := ⟨P, 0, none⟩) (by simp; omega) _, BW.out.setCell (p := ⟨P, 0, none⟩) (by simp; omega) _⟩
                · have HZ := Lib.hid (show 0 = lowerV a d k from by rw [HY.out]; omega)
                  go_upto_region 15 with fail
                  clear a0 a1 a2 hla
                  go_wp2_with (at_builtin; refine wpList_app rfl _ _ 26 rfl Try.underlying26 (P + 1) (.slice Am k cm) k (tab (lowerV a d) 0 k) rfl (OWN.out.alloc (.cells ([0].map (Value.int .i64)).toArray 3)) _ (some ⟨wq.heap.size, 0, none⟩) 1 1 [0] rfl (ints_litC wq [0]) (by omega) (by simp; omega) ?_; intro v2 w2 own2 grow2 at2; have hb2 : Below (P + 1) wq w2 := ((balloc wq (.cells ([0].map (Value.int .i64)).toArray 3)).mono (by omega)).trans (Below.grown (Below.refl _ _) grow2 (by simp; omega) (fun g hg => (OWN.out.blk_lt g hg).1)); obtain ⟨A9, c9, rfl, hc9, hI9, hf9⟩ := own2.ints; rw [HZ.out, tab_snoc] at own2; have OWN := Lib.hid own2; have FA := Lib.hid (FA.out.upto hb2 (by omega)); have RB := Lib.hid (RB.out.below hb2 (by omega)); have BW := Lib.hid (BW.out.trans (hb2.mono (by omega))); have OB := Lib.hid (OB.out.below hb2 (by omega)); clear own2 grow2 at2 hb2 hI9 hf9 hc9; (clear o0 o1 o2 z0 hlo); (obtain ⟨o0, o1, o2⟩ : _ ∧ _ ∧ _ := ⟨OB.out.cell 0, OB.out.cell 1, OB.out.cell 2⟩); simp at o0 o1 o2; have z0 := OB.out.frozen 0; have hlo := OB.out.lt)
                  go_roundg (gk - 1)
                  case measure => omega
                  case rel => exact ⟨k + 1, A9, c9, by omega, by go_num, OB.out.set_ 0 _, OWN.out.far (p := ⟨P, 0, none⟩) (fun e => by have := (OWN.out.blk_lt _ e).1; simp at this; omega) _, FA.out.set1 (g := P) (.inl (by omega)) 0 _, RB.out.far (p := ⟨P, 0, none⟩) (by simp; omega) _, BW.out.setCell (p := ⟨P, 0, none⟩) (by simp; omega) _⟩
            · obtain ⟨o0, o1, o2⟩ : _ ∧ _ ∧ _ := ⟨OB.out.cell 0, OB.out.cell 1, OB.out.cell 2⟩
              simp at o0 o1 o2
              have z0 := OB.out.frozen 0
              have hlo := OB.out.lt
              have TAB := Lib.hid (show ∀ t, Cv.at ⟨tab (lowerV a d) 0 N, a.per, a.inc⟩ t = lowerV a d t from fun t => by rw [← HN.out]; exact lower_tab HAO.out hd0 H4.out t)
              have hkN : k = N := by omega
              subst hkN
              clear hk hkg
              obtain ⟨hpre, hup, hinf⟩ := tab_pre (lower_up HAO.out hd0) hap hNp hai (by omega) (by omega) (fun r hr => lower_small HAO.out hd0 (by omega)) (fun m t hm h hmt => (lower_inf HAO.out hd0 (by omega) h hmt).2) TAB.out
              have PRE := Lib.hid hpre; have UP := Lib.hid hup; have HINF := Lib.hid hinf
              clear hpre hup hinf
              obtain ⟨A9, c9, e', hc9, hI9, hf9⟩ := OWN.out.ints
              injection e' with e1 e2 e3
              subst e1 e3
              -- netcalculus/netcalculusref05.Lower the function, LowerS the relation, lowerV a d h, (hS.congr TAB.out).toL what F is by, k length
              have HI9 := Lib.hid hI9; have HC9 := Lib.hid hc9
              clear hI9 hc9 hf9
              go_wp2_with fail
              refine (refMade_any Am k cm a.per a.inc (tab (lowerV a d) 0 k) _ HI9.out HC9.out PRE.out UP.out HINF.out).mono ?_
              rintro e wq ⟨r, er, A5, n5, c5, hS, hc5, rfl, hI5, hA5, hbq⟩
              have F := Lib.hid (show LowerS ⟨xs, p, i⟩ d r er from .inr (.inr ⟨HFO.out, hd0, hd1, a, HNF.out, (hS.congr TAB.out).toL⟩))
              have RB := Lib.hid (RB.out.below hbq RB.out.lt); have BW := Lib.hid (bthen BW.out hbq)
              have HI5 := Lib.hid hI5; have HA5 := Lib.hid hA5
              have hlw := hlo
              clear hS hI5 hA5 hbq
              clear o0 o1 o2 z0 hlo
              clear a0 a1 a2 hla
              obtain ⟨r0, r1, r2⟩ : _ ∧ _ ∧ _ := ⟨RB.out.cell 0, RB.out.cell 1, RB.out.cell 2⟩
              simp at r0 r1 r2
              have y0 := RB.out.frozen 0; have y1 := RB.out.frozen 1; have y2 := RB.out.frozen 2
              have hlr := RB.out.lt
              go_wp2_with fail
              have rb := RB.out.store3 (.slice A5 n5 c5) (.int .i64 r.per) (.int .i64 r.inc)
              exact bodyPost_ret (v := .tuple #[.agg #[.slice A5 n5 c5, .int .i64 r.per, .int .i64 r.inc], .int .i64 er]) (by simp [results, Try.results69, go_sem, rb.cell]) rfl (retS2_store F.out hc5 HA5.out (by omega) (by omega) HI5.out BW.out)
      · rw [show Cv.finB ⟨a.vals, a.per, a.inc⟩ = false from finB_f HAO.out hfa]
        rintro e wf ⟨rfl, hbq⟩
        have FA := Lib.hid (FA.out.below hbq); have RB := Lib.hid (RB.out.below hbq RB.out.lt); have BW := Lib.hid (bthen BW.out hbq)
        clear hbq
        clear a0 a1 a2 hla
        obtain ⟨a0, a1, a2, hla⟩ := FA.out.cells
        have H4 := Lib.hid (show a.inc = 0 ∨ d ≤ a.at 400 from .inl (HAO.out.last (HAO.out.fin_or.resolve_left hfa)).2)
        -- the list is made; H4 stands
        clear a0 a1 a2 hla
        obtain ⟨a0, a1, a2, hla⟩ := FA.out.cells
        go_upto_region 9 with fail
        have OB := Lib.hid (Blk.new wf 41 #[.slice none 0 0, .int .i64 a.per, .int .i64 a.inc])
        have FA := Lib.hid (FA.out.alloc (.cells #[.slice none 0 0, .int .i64 a.per, .int .i64 a.inc] 41))
        have RB := Lib.hid (RB.out.alloc (.cells #[.slice none 0 0, .int .i64 a.per, .int .i64 a.inc] 41))
        have BW := Lib.hid (bthen BW.out (balloc wf (.cells #[.slice none 0 0, .int .i64 a.per, .int .i64 a.inc] 41)))
        have hP : w1.heap.size < wf.heap.size := hla
        clear a0 a1 a2 hla
        generalize hwo : wf.alloc (.cells #[.slice none 0 0, .int .i64 a.per, .int .i64 a.inc] 41) = wo at OB FA RB BW ⊢
        clear hwo
        generalize wf.heap.size = P at OB hP ⊢
        obtain ⟨pn, hpn⟩ := Int.eq_ofNat_of_zero_le (show 0 ≤ a.per by omega)
        obtain ⟨N, hN⟩ : ∃ N, N = 400 + pn := ⟨_, rfl⟩
        have hN1 : N ≤ 520 := by omega
        have hNp : a.per ≤ N := by omega
        have hNs : 400 + a.per = (N : Int) := by omega
        have HN := Lib.hid (show 400 + a.per.toNat = N from by omega)
        clear hN hpn
        go_wp2_with fail
        go_loopg [9, 10] N (fun gg s9 s10 wx => ∃ (k : Nat) (Am : Option Addr) (cm : Nat), k + gg = N ∧ s9 = .int .i64 k ∧ Blk wx P 41 #[.slice Am k cm, .int .i64 a.per, .int .i64 a.inc] ∧ Own wx (P + 1) (.slice Am k cm) k (tab (lowerV a d) 0 k) ∧
          By (w.heap.size + 1 + 1) wx w1.heap.size A1 n1 c1 a ∧ Blk wx (w.heap.size + 1) 41 #[.slice none 0 0, .int .i64 0, .int .i64 0] ∧ Below w.heap.size w wx)
        case atStart => exact ⟨0, none, 0, by omega, rfl, OB.out, Own.nil_ _ _, FA.out, RB.out, BW.out⟩
        case round =>
          clear OB FA RB BW
          obtain ⟨k, Am, cm, hkg, rfl, ob, own, fa, rb, bw⟩ := hrel
          have OB := Lib.hid ob; have OWN := Lib.hid own; have FA := Lib.hid fa; have RB := Lib.hid rb; have BW := Lib.hid bw
          clear ob own fa rb bw
          obtain ⟨a0, a1, a2, hla⟩ := FA.out.cells
          by_cases hk : k < N
          · have hki : (k : Int) < N := by omega
            obtain ⟨x, hx⟩ : ∃ x, x = a.at k := ⟨_, rfl⟩
            have HX := Lib.hid hx
            have hxb := at_mid HAO.out (t := k) (by omega)
            rw [← hx] at hxb
            have hlw := lower_at HAO.out (c := d) (t := k) (by omega)
            rw [← hx] at hlw
            have HLW := Lib.hid hlw
            clear hx hk hlw
            go_wp2_with fail
            refine (refAt_any A1 n1 c1 a.per a.inc (k : Int) a.vals _ (by exact FA.out.ints) (by omega) (by omega) (by omega) (by omega) (by omega) HAO.out.nn (by omega) (by omega)).mono ?_
            rw [Int.toNat_natCast, show Cv.at ⟨a.vals, a.per, a.inc⟩ k = x from HX.out.symm]
            rintro e wq ⟨rfl, hbq⟩
            have OB := Lib.hid (OB.out.below hbq OB.out.lt); have OWN := Lib.hid (OWN.out.below hbq (fun g hg => (OWN.out.blk_lt g hg).2))
            have FA := Lib.hid (FA.out.below hbq); have RB := Lib.hid (RB.out.below hbq RB.out.lt); have BW := Lib.hid (bthen BW.out hbq)
            clear hbq
            clear a0 a1 a2 hla
            obtain ⟨a0, a1, a2, hla⟩ := FA.out.cells
            obtain ⟨o0, o1, o2⟩ : _ ∧ _ ∧ _ := ⟨OB.out.cell 0, OB.out.cell 1, OB.out.cell 2⟩
            simp at o0 o1 o2
            have z0 := OB.out.frozen 0
            have hlo := OB.out.lt
            by_cases hxi : x = 4611686018427387904
            · have HZ := Lib.hid (show x = lowerV a d k from by rw [HLW.out, if_pos (by exact hxi), hxi]; rfl)
              have b1 : (x != 4611686018427387904) = false := by simpa using hxi
              clear hxi hxb
              go_upto_region 15 with fail
              clear a0 a1 a2 hla
              go_wp2_with (at_builtin; refine wpList_app rfl _ _ 26 rfl Try.underlying26 (P + 1) (.slice Am k cm) k (tab (lowerV a d) 0 k) rfl (OWN.out.alloc (.cells ([x].map (Value.int .i64)).toArray 3)) _ (some ⟨wq.heap.size, 0, none⟩) 1 1 [x] rfl (ints_litC wq [x]) (by omega) (by simp; omega) ?_; intro v2 w2 own2 grow2 at2; have hb2 : Below (P + 1) wq w2 := ((balloc wq (.cells ([x].map (Value.int .i64)).toArray 3)).mono (by omega)).trans (Below.grown (Below.refl _ _) grow2 (by simp; omega) (fun g hg => (OWN.out.blk_lt g hg).1)); obtain ⟨A9, c9, rfl, hc9, hI9, hf9⟩ := own2.ints; rw [HZ.out, tab_snoc] at own2; have OWN := Lib.hid own2; have FA := Lib.hid (FA.out.upto hb2 (by omega)); have RB := Lib.hid (RB.out.below hb2 (by omega)); have BW := Lib.hid (BW.out.trans (hb2.mono (by omega))); have OB := Lib.hid (OB.out.below hb2 (by omega)); clear own2 grow2 at2 hb2 hI9 hf9 hc9; (clear o0 o1 o2 z0 hlo); (obtain ⟨o0, o1, o2⟩ : _ ∧ _ ∧ _ := ⟨OB.out.cell 0, OB.out.cell 1, OB.out.cell 2⟩); simp at o0 o1 o2; have z0 := OB.out.frozen 0; have hlo := OB.out.lt)
              go_roundg (gk - 1)
              case measure => omega
              case rel => exact ⟨k + 1, A9, c9, by omega, by go_num, OB.out.set_ 0 _, OWN.out.far (p := ⟨P, 0, none⟩) (fun e => by have := (OWN.out.blk_lt _ e).1; simp at this; omega) _, FA.out.set1 (g := P) (.inl (by omega)) 0 _, RB.out.far (p := ⟨P, 0, none⟩) (by simp; omega) _, BW.out.setCell (p := ⟨P, 0, none⟩) (by simp; omega) _⟩
            · have b1 : (x != 4611686018427387904) = true := by simpa using hxi
              have hx2 := hxb.2.resolve_left hxi
              obtain ⟨y, hy⟩ : ∃ y, y = x - d := ⟨_, rfl⟩
              have e0 : IntKind.i64.wrap (x - d) = y := by rw [hy]; exact IntWalk.i64_in _ (by omega)
              have HY := Lib.hid (show lowerV a d k = max 0 y from by rw [HLW.out, if_neg (by exact hxi), hy])
              clear hy hxi hxb hx2
              by_cases hy0 : 0 < y
              · have HZ := Lib.hid (show y = lowerV a d k from by rw [HY.out]; omega)
                go_upto_region 15 with fail
                clear a0 a1 a2 hla
                go_wp2_with (at_builtin; refine wpList_app rfl _ _ 26 rfl Try.underlying26 (P + 1) (.slice Am k cm) k (tab (lowerV a d) 0 k) rfl (OWN.out.alloc (.cells ([y].map (Value.int .i64)).toArray 3)) _ (some ⟨wq.heap.size, 0, none⟩) 1 1 [y] rfl (ints_litC wq [y]) (by omega) (by simp; omega) ?_; intro v2 w2 own2 grow2 at2; have hb2 : Below (P + 1) wq w2 := ((balloc wq (.cells ([y].map (Value.int .i64)).toArray 3)).mono (by omega)).trans (Below.grown (Below.refl _ _) grow2 (by simp; omega) (fun g hg => (OWN.out.blk_lt g hg).1)); obtain ⟨A9, c9, rfl, hc9, hI9, hf9⟩ := own2.ints; rw [HZ.out, tab_snoc] at own2; have OWN := Lib.hid own2; have FA := Lib.hid (FA.out.upto hb2 (by omega)); have RB := Lib.hid (RB.out.below hb2 (by omega)); have BW := Lib.hid (BW.out.trans (hb2.mono (by omega))); have OB := Lib.hid (OB.out.below hb2 (by omega)); clear own2 grow2 at2 hb2 hI9 hf9 hc9; (clear o0 o1 o2 z0 hlo); (obtain ⟨o0, o1, o2⟩ : _ ∧ _ ∧ _ := ⟨OB.out.cell 0, OB.out.cell 1, OB.out.cell 2⟩); simp at o0 o1 o2; have z0 := OB.out.frozen 0; have hlo := OB.out.lt)
                go_roundg (gk - 1)
                case measure => omega
                case rel => exact ⟨k + 1, A9, c9, by omega, by go_num, OB.out.set_ 0 _, OWN.out.far (p := ⟨P, 0, none⟩) (fun e => by have := (OWN.out.blk_lt _ e).1; simp at this; omega) _, FA.out.set1 (g := P) (.inl (by omega)) 0 _, RB.out.far (p := ⟨P, 0, none⟩) (by simp; omega) _, BW.out.setCell (p := ⟨P, 0, none⟩) (by simp; omega) _⟩
              · have HZ := Lib.hid (show 0 = lowerV a d k from by rw [HY.out]; omega)
                go_upto_region 15 with fail
                clear a0 a1 a2 hla
                go_wp2_with (at_builtin; refine wpList_app rfl _ _ 26 rfl Try.underlying26 (P + 1) (.slice Am k cm) k (tab (lowerV a d) 0 k) rfl (OWN.out.alloc (.cells ([0].map (Value.int .i64)).toArray 3)) _ (some ⟨wq.heap.size, 0, none⟩) 1 1 [0] rfl (ints_litC wq [0]) (by omega) (by simp; omega) ?_; intro v2 w2 own2 grow2 at2; have hb2 : Below (P + 1) wq w2 := ((balloc wq (.cells ([0].map (Value.int .i64)).toArray 3)).mono (by omega)).trans (Below.grown (Below.refl _ _) grow2 (by simp; omega) (fun g hg => (OWN.out.blk_lt g hg).1)); obtain ⟨A9, c9, rfl, hc9, hI9, hf9⟩ := own2.ints; rw [HZ.out, tab_snoc] at own2; have OWN := Lib.hid own2; have FA := Lib.hid (FA.out.upto hb2 (by omega)); have RB := Lib.hid (RB.out.below hb2 (by omega)); have BW := Lib.hid (BW.out.trans (hb2.mono (by omega))); have OB := Lib.hid (OB.out.below hb2 (by omega)); clear own2 grow2 at2 hb2 hI9 hf9 hc9; (clear o0 o1 o2 z0 hlo); (obtain ⟨o0, o1, o2⟩ : _ ∧ _ ∧ _ := ⟨OB.out.cell 0, OB.out.cell 1, OB.out.cell 2⟩); simp at o0 o1 o2; have z0 := OB.out.frozen 0; have hlo := OB.out.lt)
                go_roundg (gk - 1)
                case measure => omega
                case rel => exact ⟨k + 1, A9, c9, by omega, by go_num, OB.out.set_ 0 _, OWN.out.far (p := ⟨P, 0, none⟩) (fun e => by have := (OWN.out.blk_lt _ e).1; simp at this; omega) _, FA.out.set1 (g := P) (.inl (by omega)) 0 _, RB.out.far (p := ⟨P, 0, none⟩) (by simp; omega) _, BW.out.setCell (p := ⟨P, 0, none⟩) (by simp; omega) _⟩
          · obtain ⟨o0, o1, o2⟩ : _ ∧ _ ∧ _ := ⟨OB.out.cell 0, OB.out.cell 1, OB.out.cell 2⟩
            simp at o0 o1 o2
            have z0 := OB.out.frozen 0
            have hlo := OB.out.lt
            have TAB := Lib.hid (show ∀ t, Cv.at ⟨tab (lowerV a d) 0 N, a.per, a.inc⟩ t = lowerV a d t from fun t => by rw [← HN.out]; exact lower_tab HAO.out hd0 H4.out t)
            have hkN : k = N := by omega
            subst hkN
            clear hk hkg
            obtain ⟨hpre, hup, hinf⟩ := tab_pre (lower_up HAO.out hd0) hap hNp hai (by omega) (by omega) (fun r hr => lower_small HAO.out hd0 (by omega)) (fun m t hm h hmt => (lower_inf HAO.out hd0 (by omega) h hmt).2) TAB.out
            have PRE := Lib.hid hpre; have UP := Lib.hid hup; have HINF := Lib.hid hinf
            clear hpre hup hinf
            obtain ⟨A9, c9, e', hc9, hI9, hf9⟩ := OWN.out.ints
            injection e' with e1 e2 e3
            subst e1 e3
            -- netcalculus/netcalculusref05.Lower the function, LowerS the relation, lowerV a d h, (hS.congr TAB.out).toL what F is by, k length
            have HI9 := Lib.hid hI9; have HC9 := Lib.hid hc9
            clear hI9 hc9 hf9
            go_wp2_with fail
            refine (refMade_any Am k cm a.per a.inc (tab (lowerV a d) 0 k) _ HI9.out HC9.out PRE.out UP.out HINF.out).mono ?_
            rintro e wq ⟨r, er, A5, n5, c5, hS, hc5, rfl, hI5, hA5, hbq⟩
            have F := Lib.hid (show LowerS ⟨xs, p, i⟩ d r er from .inr (.inr ⟨HFO.out, hd0, hd1, a, HNF.out, (hS.congr TAB.out).toL⟩))
            have RB := Lib.hid (RB.out.below hbq RB.out.lt); have BW := Lib.hid (bthen BW.out hbq)
            have HI5 := Lib.hid hI5; have HA5 := Lib.hid hA5
            have hlw := hlo
            clear hS hI5 hA5 hbq
            clear o0 o1 o2 z0 hlo
            clear a0 a1 a2 hla
            obtain ⟨r0, r1, r2⟩ : _ ∧ _ ∧ _ := ⟨RB.out.cell 0, RB.out.cell 1, RB.out.cell 2⟩
            simp at r0 r1 r2
            have y0 := RB.out.frozen 0; have y1 := RB.out.frozen 1; have y2 := RB.out.frozen 2
            have hlr := RB.out.lt
            go_wp2_with fail
            have rb := RB.out.store3 (.slice A5 n5 c5) (.int .i64 r.per) (.int .i64 r.inc)
            exact bodyPost_ret (v := .tuple #[.agg #[.slice A5 n5 c5, .int .i64 r.per, .int .i64 r.inc], .int .i64 er]) (by simp [results, Try.results69, go_sem, rb.cell]) rfl (retS2_store F.out hc5 HA5.out (by omega) (by omega) HI5.out BW.out)
  · have F := Lib.hid (show LowerS ⟨xs, p, i⟩ d Cv.none 1 from .inl ⟨hno, rfl, rfl⟩)
    clear HN hno
    go_wp2_with fail
    -- an error is returned: 1 its number, netcalculus/netcalculusref05.Lower the function
    have rb := RB.out.store3 (.slice none 0 0) (.int .i64 0) (.int .i64 0)
    exact bodyPost_ret (v := .tuple #[.agg #[.slice none 0 0, .int .i64 0, .int .i64 0], .int .i64 1]) (by simp [results, Try.results69, go_sem, rb.cell]) rfl (retS2_store0 F.out (by omega) BW.out)
end Go.Proofs.Ytmieikfmbnaoaaa
