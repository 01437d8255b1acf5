/- netcalculusref05.Scale: what it returns. -/
import Derived.Test.YthdibkmjoiipgaaBy
import Derived.Test.YthdibkmjoiipgaaRefMade
import Derived.Test.YthdibkmjoiipgaaRefSg
import Derived.Test.YthdibkmjoiipgaaRefPair
import Derived.Test.YthdibkmjoiipgaaHeldT
import Derived.Test.YthdibkmjoiipgaaRefValid
import Derived.Test.YthdibkmjoiipgaaPwLaw
import Derived.Deep.LoopGhost
import Derived.BigQuiet
import Derived.Deep.QuietTactic
import Derived.Deep.DeepCutAuto
namespace Go.Proofs.Ythdibkmjoiipgaa
open Go.RowKit
set_option linter.unusedVariables false


set_option maxHeartbeats 4000000 in
set_option maxRecDepth 100000 in
theorem refScale_any (A : Option Addr) (n c : Nat) (p i d : Int) (xs : List Int) (w : World) (hA : Ints w w.heap.size A n xs) (hn : (n : Int) ≤ 1000000) (hnc : n ≤ c) :
    Calls Try.prog 53 #[.agg #[.slice A n c, .int .i64 p, .int .i64 i], .int .i64 d] w (RetS2 (ScaleS ⟨xs, p, i⟩ d) w) := by
  have E := Lib.hid (LB.new (p := p) (i := i) (c := c) hA)
  have HNC := Lib.hid hnc
  clear hA hnc
  go_enter Try.func53, Try.ntmps53
  go_wp2_with fail
  refine (refNormal_any A n c p i xs _ E.out.ints HNC.out hn).mono ?_
  rintro e w1 ⟨a, er, hN, A1, n1, c1, rfl, hI1, hA1, hb⟩
  simp only [World.size_alloc] at hA1
  have HN := Lib.hid hN
  have E1 := Lib.hid (E.out.below hb)
  have hs1 : w.heap.size + 1 < w1.heap.size := E1.out.rb.lt
  have FA := Lib.hid (By.new (L := w.heap.size + 1 + 1) (c := c1) hI1 hA1 (Nat.le_refl _) (by omega))
  have RB := Lib.hid (E1.out.rb.alloc (.cells #[.slice A1 n1 c1, .int .i64 a.per, .int .i64 a.inc] 46))
  have BW := Lib.hid (bthen E1.out.bw (balloc _ (.cells #[.slice A1 n1 c1, .int .i64 a.per, .int .i64 a.inc] 46)))
  clear hN hI1 hA1 hb E E1
  go_upto_region 2 with fail
  generalize hwz : w1.alloc (.cells #[.slice A1 n1 c1, .int .i64 a.per, .int .i64 a.inc] 46) = wz at *
  clear hwz
  obtain ⟨r0, r1, r2⟩ : _ ∧ _ ∧ _ := ⟨RB.out.cell 0, RB.out.cell 1, RB.out.cell 2⟩
  simp at r0 r1 r2
  have y0 := RB.out.frozen 0; have y1 := RB.out.frozen 1; have y2 := RB.out.frozen 2
  have hlr := RB.out.lt
  rcases HN.out with ⟨hfo, hnf, hao, rfl⟩ | ⟨hno, rfl, rfl⟩
  · by_cases hr : d < 1 ∨ 1073741824 < d
    · have F := Lib.hid (show ScaleS ⟨xs, p, i⟩ d Cv.none 2 from .inr (.inl ⟨hfo, hr, rfl, rfl⟩))
      clear HN hfo hnf hao
      rcases hr with hr | hr
      all_goals
        go_wp2_with fail
        have rb := RB.out.store3 (.slice none 0 0) (.int .i64 0) (.int .i64 0)
        exact bodyPost_ret (v := .tuple #[.agg #[.slice none 0 0, .int .i64 0, .int .i64 0], .int .i64 2]) (by simp [results, Try.results53, go_sem, rb.cell]) rfl (retS2_store0 F.out (by omega) BW.out)
    · clear r0 r1 r2 y0 y1 y2 hlr
      have hd0 : 1 ≤ d := by omega
      have hd1 : d ≤ 1073741824 := by omega
      have g1 : decide (d < 1) = false := by simp; omega
      have g2 : decide ((1073741824 : Int) < d) = false := by simp; omega
      have ha1 := hao.n1; have ha2 := hao.n2; have hap := hao.p1; have hap2 := hao.p2; have hai := hao.i1; have hai2 := hao.i2; have hapn := hao.pn
      have hl1 : a.vals.length = n1 := FA.out.ints.1
      rw [hl1] at ha1 ha2 hapn
      have hm := small_mul hai hai2 hd0 hd1
      obtain ⟨I, hI⟩ : ∃ I, I = a.inc * d := ⟨_, rfl⟩
      rw [← hI] at hm
      have e5 : IntKind.i64.wrap (a.inc * d) = I := by rw [← hI]; exact IntWalk.i64_in _ (by omega)
      have HFO := Lib.hid hfo; have HNF := Lib.hid hnf; have HAO := Lib.hid hao; have HL1 := Lib.hid hl1; have HI := Lib.hid hI
      clear hr HN hfo hnf hao hl1 hI
      obtain ⟨a0, a1, a2, hla⟩ := FA.out.cells
      go_upto_region 7 with fail
      have OB := Lib.hid (Blk.new wz 46 #[.slice none 0 0, .int .i64 a.per, .int .i64 I])
      have FA := Lib.hid (FA.out.alloc (.cells #[.slice none 0 0, .int .i64 a.per, .int .i64 I] 46))
      have RB := Lib.hid (RB.out.alloc (.cells #[.slice none 0 0, .int .i64 a.per, .int .i64 I] 46))
      have BW := Lib.hid (bthen BW.out (balloc wz (.cells #[.slice none 0 0, .int .i64 a.per, .int .i64 I] 46)))
      have hP : w1.heap.size < wz.heap.size := hla
      clear a0 a1 a2 hla
      generalize hwo : wz.alloc (.cells #[.slice none 0 0, .int .i64 a.per, .int .i64 I] 46) = wo at *
      clear hwo g1 g2 e5
      generalize wz.heap.size = P at *
      go_wp2_with fail
      go_loopg [9, 10] n1 (fun gg s9 s10 wx => ∃ (k : Nat) (Am : Option Addr) (cm : Nat), k + gg = n1 ∧ s9 = .int .i64 k ∧ Blk wx P 46 #[.slice Am k cm, .int .i64 a.per, .int .i64 I] ∧ Own wx (P + 1) (.slice Am k cm) k (tab (scaleV a d) 0 k) ∧
        By (w.heap.size + 1 + 1) wx w1.heap.size A1 n1 c1 a ∧ Blk wx (w.heap.size + 1) 46 #[.slice none 0 0, .int .i64 0, .int .i64 0] ∧ Below w.heap.size w wx)
      case atStart => exact ⟨0, none, 0, by omega, rfl, OB.out, Own.nil_ _ _, FA.out, RB.out, BW.out⟩
      case round =>
        clear OB FA RB BW
        obtain ⟨k, Am, cm, hkg, rfl, ob, own, fa, rb, bw⟩ := hrel
        have OB := Lib.hid ob; have OWN := Lib.hid own; have FA := Lib.hid fa; have RB := Lib.hid rb; have BW := Lib.hid bw
        clear ob own fa rb bw
        obtain ⟨a0, a1, a2, hla⟩ := FA.out.cells
        obtain ⟨o0, o1, o2⟩ : _ ∧ _ ∧ _ := ⟨OB.out.cell 0, OB.out.cell 1, OB.out.cell 2⟩
        simp at o0 o1 o2
        have z0 := OB.out.frozen 0
        have hlo := OB.out.lt
        by_cases hk : k < n1
        · have hki : (k : Int) < n1 := by omega
          obtain ⟨b, off, hAe, hbl, hcell⟩ := FA.out.ints.2 (by omega)
          subst hAe
          have hck := hcell k hk
          have hv := HAO.out.v k (by rw [HL1.out]; exact hk)
          have hnn := HAO.out.nn k
          have hat : a.at k = nth a.vals k := Cv.at_lt (by rw [HL1.out]; exact hk)
          have hbd := HAO.out.at_bd (n := k) (by omega)
          obtain ⟨x, hx⟩ : ∃ x, x = nth a.vals k := ⟨_, rfl⟩
          rw [← hx] at hck hv hnn hat
          by_cases hxi : x = 4611686018427387904
          · have HZ := Lib.hid (show x = scaleV a d k from by rw [scaleV_inf (hbd.2.2 (by rw [hat, hxi]; rfl)), hxi]; rfl)
            have b1 : (x == 4611686018427387904) = true := by simpa using hxi
            clear hcell hv hx hat hbd hxi hk
            go_upto_region 13 with fail
            clear a0 a1 a2 hla
            go_wp2_with (at_builtin; refine wpList_app rfl _ _ 29 rfl Try.underlying29 (P + 1) (.slice Am k cm) k (tab (scaleV a d) 0 k) rfl (OWN.out.alloc (.cells ([x].map (Value.int .i64)).toArray 3)) _ (some ⟨wr.heap.size, 0, none⟩) 1 1 [x] rfl (ints_litC wr [x]) (by omega) (by simp; omega) ?_; intro v2 w2 own2 grow2 at2; have hb2 : Below (P + 1) wr w2 := ((balloc wr (.cells ([x].map (Value.int .i64)).toArray 3)).mono (by omega)).trans (Below.grown (Below.refl _ _) grow2 (by simp; omega) (fun g hg => (OWN.out.blk_lt g hg).1)); obtain ⟨A9, c9, rfl, hc9, hI9, hf9⟩ := own2.ints; rw [HZ.out, tab_snoc] at own2; have OWN := Lib.hid own2; have FA := Lib.hid (FA.out.upto hb2 (by omega)); have RB := Lib.hid (RB.out.below hb2 (by omega)); have BW := Lib.hid (BW.out.trans (hb2.mono (by omega))); have OB := Lib.hid (OB.out.below hb2 (by omega)); clear own2 grow2 at2 hb2 hI9 hf9 hc9; (clear o0 o1 o2 z0 hlo); (obtain ⟨o0, o1, o2⟩ : _ ∧ _ ∧ _ := ⟨OB.out.cell 0, OB.out.cell 1, OB.out.cell 2⟩); simp at o0 o1 o2; have z0 := OB.out.frozen 0; have hlo := OB.out.lt)
            go_roundg (gk - 1)
            case measure => omega
            case rel => exact ⟨k + 1, A9, c9, by omega, by go_num, OB.out.set_ 0 _, OWN.out.far (p := ⟨P, 0, none⟩) (fun e => by have := (OWN.out.blk_lt _ e).1; simp at this; omega) _, FA.out.set1 (g := P) (.inl (by omega)) 0 _, RB.out.far (p := ⟨P, 0, none⟩) (by simp; omega) _, BW.out.setCell (p := ⟨P, 0, none⟩) (by simp; omega) _⟩
          · have hm2 := small_mul hnn.1 (((okv_iff _).1 hv).resolve_left hxi) hd0 hd1
            obtain ⟨z, hz⟩ : ∃ z, z = x * d := ⟨_, rfl⟩
            rw [← hz] at hm2
            have e6 : IntKind.i64.wrap (x * d) = z := by rw [← hz]; exact IntWalk.i64_in _ (by omega)
            have HZ := Lib.hid (show z = scaleV a d k from by rw [scaleV_not (fun h => hxi (by rw [← hat]; exact h.2)), hz, hat])
            have b1 : (x == 4611686018427387904) = false := by simpa using hxi
            clear hcell hv hx hat hbd hxi hk hz
            go_upto_region 13 with fail
            clear a0 a1 a2 hla
            go_wp2_with (at_builtin; refine wpList_app rfl _ _ 29 rfl Try.underlying29 (P + 1) (.slice Am k cm) k (tab (scaleV a d) 0 k) rfl (OWN.out.alloc (.cells ([z].map (Value.int .i64)).toArray 3)) _ (some ⟨wr.heap.size, 0, none⟩) 1 1 [z] rfl (ints_litC wr [z]) (by omega) (by simp; omega) ?_; intro v2 w2 own2 grow2 at2; have hb2 : Below (P + 1) wr w2 := ((balloc wr (.cells ([z].map (Value.int .i64)).toArray 3)).mono (by omega)).trans (Below.grown (Below.refl _ _) grow2 (by simp; omega) (fun g hg => (OWN.out.blk_lt g hg).1)); obtain ⟨A9, c9, rfl, hc9, hI9, hf9⟩ := own2.ints; rw [HZ.out, tab_snoc] at own2; have OWN := Lib.hid own2; have FA := Lib.hid (FA.out.upto hb2 (by omega)); have RB := Lib.hid (RB.out.below hb2 (by omega)); have BW := Lib.hid (BW.out.trans (hb2.mono (by omega))); have OB := Lib.hid (OB.out.below hb2 (by omega)); clear own2 grow2 at2 hb2 hI9 hf9 hc9; (clear o0 o1 o2 z0 hlo); (obtain ⟨o0, o1, o2⟩ : _ ∧ _ ∧ _ := ⟨OB.out.cell 0, OB.out.cell 1, OB.out.cell 2⟩); simp at o0 o1 o2; have z0 := OB.out.frozen 0; have hlo := OB.out.lt)
            go_roundg (gk - 1)
            case measure => omega
            case rel => exact ⟨k + 1, A9, c9, by omega, by go_num, OB.out.set_ 0 _, OWN.out.far (p := ⟨P, 0, none⟩) (fun e => by have := (OWN.out.blk_lt _ e).1; simp at this; omega) _, FA.out.set1 (g := P) (.inl (by omega)) 0 _, RB.out.far (p := ⟨P, 0, none⟩) (by simp; omega) _, BW.out.setCell (p := ⟨P, 0, none⟩) (by simp; omega) _⟩
        · have hkN : k = n1 := by omega
          subst hkN
          clear hk hkg
          have hsl : (⟨tab (scaleV a d) 0 k, a.per, I⟩ : Cv) = scaleL a d := by unfold scaleL; rw [HL1.out, HI.out]
          obtain ⟨A9, c9, e', hc9, hI9, hf9⟩ := OWN.out.ints
          injection e' with e1 e2 e3
          subst e1 e3
          have HI9 := Lib.hid hI9; have HC9 := Lib.hid hc9; have HF9 := Lib.hid hf9
          have HSL := Lib.hid hsl
          clear hI9 hc9 hf9 hsl
          go_wp2_with fail
          refine (refValid_any Am k cm a.per I (tab (scaleV a d) 0 k) _ HI9.out (by omega)).mono ?_
          rintro e wq ⟨rfl, hbq⟩
          rw [HSL.out]
          have hnf2 := scale_is HFO.out HNF.out hd0 hd1
          have hup := scale_up HAO.out hd0 hd1
          by_cases hok : (scaleL a d).Ok
          · rw [Cv.okB_true hok]
            have F := Lib.hid (show ScaleS ⟨xs, p, i⟩ d (scaleL a d) 0 from .inr (.inr ⟨HFO.out, hd0, hd1, a, HNF.out, MadeS.of_nf hnf2 hup (.inl ⟨hok, rfl, rfl⟩)⟩))
            have hw8 := RB.out.lt
            have RB := Lib.hid (RB.out.below hbq RB.out.lt)
            have OB := Lib.hid (OB.out.below hbq OB.out.lt)
            have BW := Lib.hid (bthen BW.out hbq)
            have HI9 := Lib.hid (HI9.out.ext hbq)
            have HPL := Lib.hid FA.out.lf
            clear hbq hnf2 hup hok
            clear a0 a1 a2 hla
            clear o0 o1 o2 z0 hlo
            obtain ⟨o0, o1, o2⟩ : _ ∧ _ ∧ _ := ⟨OB.out.cell 0, OB.out.cell 1, OB.out.cell 2⟩
            simp at o0 o1 o2
            have z0 := OB.out.frozen 0
            have hlo := OB.out.lt
            obtain ⟨r0, r1, r2⟩ : _ ∧ _ ∧ _ := ⟨RB.out.cell 0, RB.out.cell 1, RB.out.cell 2⟩
            simp at r0 r1 r2
            have y0 := RB.out.frozen 0; have y1 := RB.out.frozen 1; have y2 := RB.out.frozen 2
            have hlr := RB.out.lt
            go_wp2_with fail
            have rb := RB.out.store3 (.slice Am k cm) (.int .i64 a.per) (.int .i64 I)
            refine bodyPost_ret (v := .tuple #[.agg #[.slice Am k cm, .int .i64 a.per, .int .i64 I], .int .i64 0]) (by simp [results, Try.results53, go_sem, rb.cell]) rfl ?_
            have hret := retS2_store (x := .slice Am k cm) (y := .int .i64 a.per) (z := .int .i64 I) (B := P + 1) F.out HC9.out HF9.out (show w.heap.size ≤ w.heap.size + 1 by omega) (by have := HPL.out; omega) (by rw [← HSL.out]; exact HI9.out) BW.out
            rw [← HSL.out] at hret
            exact hret
          · rw [Cv.okB_false hok]
            have F := Lib.hid (show ScaleS ⟨xs, p, i⟩ d Cv.none 3 from .inr (.inr ⟨HFO.out, hd0, hd1, a, HNF.out, MadeS.of_nf hnf2 hup (.inr ⟨hok, rfl, rfl⟩)⟩))
            have RB := Lib.hid (RB.out.below hbq RB.out.lt)
            have OB := Lib.hid (OB.out.below hbq OB.out.lt)
            have BW := Lib.hid (bthen BW.out hbq)
            clear hbq hnf2 hup hok
            clear a0 a1 a2 hla
            clear o0 o1 o2 z0 hlo
            obtain ⟨o0, o1, o2⟩ : _ ∧ _ ∧ _ := ⟨OB.out.cell 0, OB.out.cell 1, OB.out.cell 2⟩
            simp at o0 o1 o2
            have z0 := OB.out.frozen 0
            have hlo := OB.out.lt
            obtain ⟨r0, r1, r2⟩ : _ ∧ _ ∧ _ := ⟨RB.out.cell 0, RB.out.cell 1, RB.out.cell 2⟩
            simp at r0 r1 r2
            have y0 := RB.out.frozen 0; have y1 := RB.out.frozen 1; have y2 := RB.out.frozen 2
            have hlr := RB.out.lt
            go_wp2_with fail
            have rb := RB.out.store3 (.slice none 0 0) (.int .i64 0) (.int .i64 0)
            exact bodyPost_ret (v := .tuple #[.agg #[.slice none 0 0, .int .i64 0, .int .i64 0], .int .i64 3]) (by simp [results, Try.results53, go_sem, rb.cell]) rfl (retS2_store0 F.out (by omega) BW.out)
  · have F := Lib.hid (show ScaleS ⟨xs, p, i⟩ d Cv.none 1 from .inl ⟨hno, rfl, rfl⟩)
    clear HN hno
    go_wp2_with fail
    have rb := RB.out.store3 (.slice none 0 0) (.int .i64 0) (.int .i64 0)
    exact bodyPost_ret (v := .tuple #[.agg #[.slice none 0 0, .int .i64 0, .int .i64 0], .int .i64 1]) (by simp [results, Try.results53, go_sem, rb.cell]) rfl (retS2_store0 F.out (by omega) BW.out)
end Go.Proofs.Ythdibkmjoiipgaa
