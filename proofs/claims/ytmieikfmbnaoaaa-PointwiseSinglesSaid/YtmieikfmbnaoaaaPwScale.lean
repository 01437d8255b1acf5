/- pointwise.Scale: what it returns. -/
import Derived.Test.YtmieikfmbnaoaaaPwOne
import Derived.Test.YtmieikfmbnaoaaaBy
import Derived.Test.YtmieikfmbnaoaaaSrc
import Derived.Deep.LoopGhost
namespace Go.Proofs.Ytmieikfmbnaoaaa
open Go.RowKit
set_option linter.unusedVariables false

theorem ints_lit9 (w : World) (zs : List Int) : Ints (w.alloc (.cells (zs.map (Value.int .i64)).toArray 3)) (w.alloc (.cells (zs.map (Value.int .i64)).toArray 3)).heap.size (some ⟨w.heap.size, 0, none⟩) zs.length zs := ints_lit w zs
theorem tab_snoc9 (h : Nat → Int) (k : Nat) : tab h 0 k ++ [h k] = tab h 0 (k + 1) := by
  refine list_ext (by simp [tab_length]) (fun q hq => ?_)
  simp [tab_length] at hq
  rw [nth_append, tab_length, tab_nth _ _ _ _ hq, Nat.zero_add]
  by_cases hqj : q < k
  · rw [if_pos hqj, tab_nth _ _ _ _ hqj, Nat.zero_add]
  · rw [if_neg hqj, show q = k by omega, Nat.sub_self]; rfl

attribute [local go_sem ↓] app_fold
set_option maxHeartbeats 4000000 in
set_option maxRecDepth 100000 in
theorem pscale_any (A0 : Option Addr) (n0 c0 : Nat) (p i d : Int) (xs : List Int) (w : World) (hA : Ints w w.heap.size A0 n0 xs) (hn : (n0 : Int) ≤ 1000000) :
    Calls Try.prog 61 #[.agg #[.slice A0 n0 c0, .int .i64 p, .int .i64 i], .int .i64 d] w (RetS (ScaleS ⟨xs, p, i⟩ d) w) := by
  have E := Lib.hid ((L1.new (c := c0) (p := p) (i := i) hA).alloc (.cells #[.slice none 0 0, .int .i64 0, .int .i64 0] 41))
  have rb := Blk.new (w.alloc (.cells #[.slice A0 n0 c0, .int .i64 p, .int .i64 i] 41)) 41 #[.slice none 0 0, .int .i64 0, .int .i64 0]
  rw [World.size_alloc] at rb
  have RB := Lib.hid rb
  clear hA rb
  obtain ⟨i0, hi0, hz0, hz1, hz2⟩ := info_parts info_int
  have HI0 := Lib.hid hi0; have HZ0 := Lib.hid hz0; have HZ1 := Lib.hid hz1; have HZ2 := Lib.hid hz2
  clear hi0 hz0 hz1 hz2
  go_enter Try.func61, Try.ntmps61
  go_wp2_with fail
  refine (one_any A0 n0 c0 p i d 1 1073741824 xs _ E.out.ints hn).mono ?_
  rintro e w1 ⟨a, er, hN, A, n, c, rfl, hI1, hA1, hb⟩
  simp only [World.size_alloc] at hA1
  have hs0 := (RB.out.below hb RB.out.lt).lt
  have FA := Lib.hid (By.new (L := w.heap.size + 1 + 1) (c := c) hI1 hA1 (Nat.le_refl _) (by omega))
  replace RB := Lib.hid ((RB.out.below hb RB.out.lt).alloc (.cells #[.slice A n c, .int .i64 a.per, .int .i64 a.inc] 41))
  have BW := Lib.hid (bthen (bthen E.out.bw hb) (balloc _ (.cells #[.slice A n c, .int .i64 a.per, .int .i64 a.inc] 41)))
  have hl1 : a.vals.length = n := hI1.1
  clear hI1 hA1 hb E
  go_upto_region 2 with fail
  generalize hwz : w1.alloc (.cells #[.slice A n c, .int .i64 a.per, .int .i64 a.inc] 41) = wz at *
  clear hwz
  generalize hFe : w1.heap.size = F at *
  clear hFe
  obtain ⟨⟨r0, r1, r2⟩, ⟨y0, y1, y2⟩, hlr⟩ := RB.out.c3
  have hN2 : (er ≠ 0 ∧ a = Cv.none ∧ ScaleS ⟨xs, p, i⟩ d Cv.none er) ∨ (Cv.Ok ⟨xs, p, i⟩ ∧ 1 ≤ d ∧ d ≤ 1073741824 ∧ NF (Cv.at ⟨xs, p, i⟩) a ∧ a.Ok ∧ er = 0) := by
    rcases hN with ⟨h1, h2, rfl⟩ | ⟨h1, h2, h3, rfl⟩ | h1
    · exact .inl ⟨by decide, h2, .inl ⟨h1, rfl, rfl⟩⟩
    · exact .inl ⟨by decide, h3, .inr (.inl ⟨h1, h2, rfl, rfl⟩)⟩
    · exact .inr h1
  clear hN
  rcases hN2 with ⟨hne, _, hS⟩ | ⟨hf, hd0, hd1, hna, hao, rfl⟩
  · have F9 := Lib.hid hS
    have hne' : (er != 0) = true := by simpa using hne
    clear hS hne
    go_wp2_with fail
    have rb := RB.out.store3 (.slice none 0 0) (.int .i64 0) (.int .i64 0)
    refine bodyPost_ret (v := .tuple #[.agg #[(.slice none 0 0), .int .i64 0, .int .i64 0], .int .i64 er]) (by simp [results, Try.results61, go_sem, rb.cell]) rfl ?_
    exact retS_none F9.out (bst3 BW.out (by omega) _ _ _)
  · have ha1 := hao.n1; have ha2 := hao.n2; have hap := hao.p1; have hap2 := hao.p2; have hai := hao.i1; have hai2 := hao.i2; have hapn := hao.pn
    rw [hl1] at ha1 ha2 hapn
    have hm := small_mul hai hai2 hd0 hd1
    obtain ⟨I, hI⟩ : ∃ I, I = a.inc * d := ⟨_, rfl⟩
    rw [← hI] at hm
    have e5 : IntKind.i64.wrap (a.inc * d) = I := by rw [← hI]; exact IntWalk.i64_in _ (by omega)
    have HM := Lib.hid hm
    have NFS := Lib.hid (scale_is hf hna hd0 hd1)
    have UPS := Lib.hid (scale_up hao hd0 hd1)
    have BAD := Lib.hid (show ¬ (scaleL a d).Ok → ScaleS ⟨xs, p, i⟩ d Cv.none 3 from fun hk => .inr (.inr ⟨hf, hd0, hd1, a, hna, MadeS.of_nf NFS.out UPS.out (.inr ⟨hk, rfl, rfl⟩)⟩))
    have GOOD := Lib.hid (show (scaleL a d).Ok → ScaleS ⟨xs, p, i⟩ d (scaleL a d) 0 from fun hk => .inr (.inr ⟨hf, hd0, hd1, a, hna, MadeS.of_nf NFS.out UPS.out (.inl ⟨hk, rfl, rfl⟩)⟩))
    have HAO := Lib.hid hao; have HL1 := Lib.hid hl1; have HI := Lib.hid hI
    clear hf hna hao hl1 hI hm
    obtain ⟨a0, a1, a2, hla⟩ := FA.out.cells
    clear r0 r1 r2 y0 y1 y2 hlr
    go_wp2_with (at_make; refine wpList_make_own _ rfl _ _ 26 rfl (F + 1) 3 i0 _ 1 Try.underlying26 HI0.out HZ0.out HZ1.out .i64 .i64 _ n rfl rfl rfl (by rw [HZ2.out]; omega) (by unfold maxLen; omega) (by omega) ?_; intro w2 own2 grow2; have hb2 : Below wz.heap.size wz w2 := (Below.refl _ _).grown grow2 (by simp) (by simp); have FA := Lib.hid (FA.out.below hb2); have RB := Lib.hid (RB.out.below hb2 RB.out.lt); have BW := Lib.hid (bthen BW.out hb2); have hOw : Own w2 (F + 1) (.slice (some ⟨wz.heap.size, 0, none⟩) 0 n) 0 [] := own2; have OWN := Lib.hid hOw; (clear a0 a1 a2 hla); clear own2 grow2 hb2 hOw; (obtain ⟨a0, a1, a2, hla⟩ := FA.out.cells))
    clear a0 a1 a2 hla
    go_loopg [8, 10, 28] n (fun gg s8 s10 s28 wx => ∃ (k : Nat) (v : Value), k + gg = n ∧ s28 = .int .i64 k ∧ s8 = v ∧ Own wx (F + 1) v k (tab (scaleV a d) 0 k) ∧
      By (w.heap.size + 1 + 1) wx F A n c a ∧ Blk wx (w.heap.size + 1) 41 #[.slice none 0 0, .int .i64 0, .int .i64 0] ∧ Below w.heap.size w wx ∧ ∀ q, q < k → okv (scaleV a d q) = true)
    case atStart => exact ⟨0, _, by omega, rfl, rfl, OWN.out, FA.out, RB.out, BW.out, fun q hq => by omega⟩
    case round =>
      clear OWN FA RB BW
      obtain ⟨k, v, hkg, rfl, rfl, own, fa, rb, bw, hov⟩ := hrel
      have OWN := Lib.hid own; have FA := Lib.hid fa; have RB := Lib.hid rb; have BW := Lib.hid bw; have HOV := Lib.hid hov
      clear own fa rb bw hov
      obtain ⟨a0, a1, a2, hla⟩ := FA.out.cells
      by_cases hk : k < n
      · have hki : (k : Int) < n := by omega
        obtain ⟨b, off, hAe, hbl, hcell⟩ := FA.out.ints.2 (by omega)
        subst hAe
        have hck := hcell k hk
        have hv := HAO.out.v k (by rw [HL1.out]; exact hk)
        have hnn := HAO.out.nn k
        have hat : a.at k = nth a.vals k := Cv.at_lt (by rw [HL1.out]; exact hk)
        have hbd := HAO.out.at_bd (n := k) (by omega)
        obtain ⟨x, hx⟩ : ∃ x, x = nth a.vals k := ⟨_, rfl⟩
        rw [← hx] at hck hv hnn hat
        by_cases hxi : x = 4611686018427387904
        · have HZ := Lib.hid (show x = scaleV a d k from by rw [scaleV_inf (hbd.2.2 (by rw [hat, hxi]; rfl)), hxi]; rfl)
          have b1 : (x == 4611686018427387904) = true := by simpa using hxi
          have HOKV := Lib.hid (show ∀ q, q < k + 1 → okv (scaleV a d q) = true from fun q hq => by
            by_cases e : q = k
            · rw [e, ← HZ.out]; exact (okv_iff _).2 (.inl hxi)
            · exact HOV.out q (by omega))
          clear hcell hv hx hat hbd hxi hk
          clear a0 a1 a2 hla
          have hFw := FA.out.lt
          have hlit := ints_lit wr [x]
          obtain ⟨v2, w2, hrun, own2, grow2, at2⟩ := run_appSem (w := wr.alloc (.cells #[.int .i64 x] 3)) (base := F + 1) (OWN.out.alloc _) 1 (A := some ⟨wr.heap.size, 0, none⟩) (m := 1) (zs := [x]) hlit (by omega) (by simp; omega)
          have hb2 : Below (F + 1) wr w2 := ((balloc wr (.cells #[.int .i64 x] 3)).mono (by omega)).trans (Below.grown (Below.refl _ _) grow2 (by simp; omega) (fun g hg => (OWN.out.blk_lt g hg).1))
          rw [HZ.out, tab_snoc9] at own2
          have OWN := Lib.hid own2; have FA := Lib.hid (FA.out.upto hb2 (by omega)); have RB := Lib.hid (RB.out.below hb2 (by omega)); have BW := Lib.hid (BW.out.trans (hb2.mono (by omega)))
          clear own2 grow2 at2 hb2 hlit
          go_wp2_with fail
          go_roundg (gk - 1)
          case measure => omega
          case rel => exact ⟨k + 1, _, by omega, by go_num, rfl, OWN.out, FA.out, RB.out, BW.out, HOKV.out⟩
        · have hm2 := small_mul hnn.1 (((okv_iff _).1 hv).resolve_left hxi) hd0 hd1
          obtain ⟨z, hz⟩ : ∃ z, z = x * d := ⟨_, rfl⟩
          rw [← hz] at hm2
          have e6 : IntKind.i64.wrap (x * d) = z := by rw [← hz]; exact IntWalk.i64_in _ (by omega)
          have HZ := Lib.hid (show z = scaleV a d k from by rw [scaleV_not (fun h => hxi (by rw [← hat]; exact h.2)), hz, hat])
          have b1 : (x == 4611686018427387904) = false := by simpa using hxi
          have HM2 := Lib.hid hm2
          clear hcell hv hx hat hbd hxi hz hm2
          by_cases hzb : 1073741824 < z
          · have FN := Lib.hid (BAD.out (fun ok => by
              have h1 := ok.v k (by rw [scaleL_len, HL1.out]; exact hk)
              rw [scaleL_nth a d (by rw [HL1.out]; exact hk), ← HZ.out] at h1
              have h2 := (okv_iff _).1 h1
              have h3 := HM2.out
              unfold inf at h2
              omega))
            obtain ⟨⟨r0, r1, r2⟩, ⟨y0, y1, y2⟩, hlr⟩ := RB.out.c3
            clear hk
            go_wp2_with fail
            have rb := RB.out.store3 (.slice none 0 0) (.int .i64 0) (.int .i64 0)
            refine bodyPost_ret (v := .tuple #[.agg #[(.slice none 0 0), .int .i64 0, .int .i64 0], .int .i64 3]) (by simp [results, Try.results61, go_sem, rb.cell]) rfl ?_
            exact retS_none FN.out (bst3 BW.out (by omega) _ _ _)
          · have HOKV := Lib.hid (show ∀ q, q < k + 1 → okv (scaleV a d q) = true from fun q hq => by
              by_cases e : q = k
              · rw [e, ← HZ.out]; exact (okv_iff _).2 (.inr (by omega))
              · exact HOV.out q (by omega))
            clear hk
            clear a0 a1 a2 hla
            have hFw := FA.out.lt
            have hlit := ints_lit wr [z]
            obtain ⟨v2, w2, hrun, own2, grow2, at2⟩ := run_appSem (w := wr.alloc (.cells #[.int .i64 z] 3)) (base := F + 1) (OWN.out.alloc _) 1 (A := some ⟨wr.heap.size, 0, none⟩) (m := 1) (zs := [z]) hlit (by omega) (by simp; omega)
            have hb2 : Below (F + 1) wr w2 := ((balloc wr (.cells #[.int .i64 z] 3)).mono (by omega)).trans (Below.grown (Below.refl _ _) grow2 (by simp; omega) (fun g hg => (OWN.out.blk_lt g hg).1))
            rw [HZ.out, tab_snoc9] at own2
            have OWN := Lib.hid own2; have FA := Lib.hid (FA.out.upto hb2 (by omega)); have RB := Lib.hid (RB.out.below hb2 (by omega)); have BW := Lib.hid (BW.out.trans (hb2.mono (by omega)))
            clear own2 grow2 at2 hb2 hlit
            go_wp2_with fail
            go_roundg (gk - 1)
            case measure => omega
            case rel => exact ⟨k + 1, _, by omega, by go_num, rfl, OWN.out, FA.out, RB.out, BW.out, HOKV.out⟩
      · have hkN : k = n := by omega
        subst hkN
        clear hk hkg
        obtain ⟨⟨r0, r1, r2⟩, ⟨y0, y1, y2⟩, hlr⟩ := RB.out.c3
        by_cases hIb : 1073741824 < I
        · have FN := Lib.hid (BAD.out (fun ok => by
            have h1 : a.inc * d ≤ 1073741824 := ok.i2
            rw [← HI.out] at h1
            omega))
          go_wp2_with fail
          have rb := RB.out.store3 (.slice none 0 0) (.int .i64 0) (.int .i64 0)
          refine bodyPost_ret (v := .tuple #[.agg #[(.slice none 0 0), .int .i64 0, .int .i64 0], .int .i64 3]) (by simp [results, Try.results61, go_sem, rb.cell]) rfl ?_
          exact retS_none FN.out (bst3 BW.out (by omega) _ _ _)
        · have hsl : (⟨tab (scaleV a d) 0 k, a.per, I⟩ : Cv) = scaleL a d := by unfold scaleL; rw [HL1.out, HI.out]
          have FN := Lib.hid (GOOD.out (nf_lim_ok NFS.out UPS.out ⟨by rw [scaleL_len, HL1.out]; omega, fun q hq => by
            rw [scaleL_len, HL1.out] at hq
            rw [scaleL_nth a d (by rw [HL1.out]; exact hq)]
            exact HOV.out q hq, by show a.per ≤ 120; omega, by show a.inc * d ≤ 1073741824; rw [← HI.out]; omega⟩))
          obtain ⟨A9, c9, e', hc9, hI9, hf9⟩ := OWN.out.ints
          subst e'
          have HI9 := Lib.hid hI9; have HF9 := Lib.hid hf9; have HSL := Lib.hid hsl
          clear hI9 hf9 hsl
          go_wp2_with fail
          have rb := RB.out.store3 (.slice A9 k c9) (.int .i64 a.per) (.int .i64 I)
          refine bodyPost_ret (v := .tuple #[.agg #[(.slice A9 k c9), .int .i64 a.per, .int .i64 I], .int .i64 0]) (by simp [results, Try.results61, go_sem, rb.cell]) rfl ?_
          have hret := retS_store (c := c9) (x := .slice A9 k c9) (y := .int .i64 a.per) (z := .int .i64 I) (B := F + 1) FN.out HF9.out (show w.heap.size ≤ w.heap.size + 1 by omega) (by omega) (by rw [← HSL.out]; exact HI9.out) BW.out
          rw [← HSL.out] at hret
          exact hret
end Go.Proofs.Ytmieikfmbnaoaaa
