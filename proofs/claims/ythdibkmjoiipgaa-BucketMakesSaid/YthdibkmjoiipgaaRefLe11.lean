/- netcalculusref11.Least: what it returns. -/
import Derived.Test.YthdibkmjoiipgaaRefGd
import Derived.Test.YthdibkmjoiipgaaRef11
import Derived.Test.YthdibkmjoiipgaaRefMn
import Derived.Test.YthdibkmjoiipgaaBkLeast
import Derived.Deep.LoopGhost
namespace Go.Proofs.Ythdibkmjoiipgaa
open Go.RowKit
set_option linter.unusedVariables false

set_option maxHeartbeats 4000000 in
set_option maxRecDepth 100000 in
theorem refLe11_any (A : Option Addr) (n c : Nat) (ps : List PN) (w : World) (hl : ps.length = n) (hn9 : (n : Int) ≤ 9223372036854775807) (hnc : n ≤ c) (hrow : 0 < n → ∃ g o, A = some ⟨g, o, none⟩ ∧ RowQ w g o ps) :
    Calls Try.prog 31 #[.slice A n c] w (RetS2 (BLeS ps) w) := by
  have RB := Lib.hid (Blk.new w 46 #[.slice none 0 0, .int .i64 0, .int .i64 0])
  have BW := Lib.hid (balloc w (.cells #[.slice none 0 0, .int .i64 0, .int .i64 0] 46))
  have HL := Lib.hid hl; have HROW := Lib.hid hrow
  clear hl hrow
  go_enter Try.func31, Try.ntmps31
  go_upto_region 1 with fail
  generalize hwe : w.alloc (.cells #[.slice none 0 0, .int .i64 0, .int .i64 0] 46) = w1 at *
  clear hwe
  by_cases h0 : n = 0
  · subst h0
    have F := Lib.hid (show BLeS ps Cv.none 2 from .inl ⟨HL.out, rfl, rfl⟩)
    -- the error 2 is returned, F.out says so
    obtain ⟨⟨r0, r1, r2⟩, ⟨y0, y1, y2⟩, hlr⟩ := RB.out.c3
    go_wp2_with fail
    have rb := RB.out.store3 (.slice none 0 0) (.int .i64 0) (.int .i64 0)
    exact bodyPost_ret (v := .tuple #[.agg #[(.slice none 0 0), .int .i64 0, .int .i64 0], .int .i64 2]) (by simp [results, Try.results31, go_sem, rb.cell]) rfl (retS2_store0 F.out (Nat.le_refl _) BW.out)
  · have d0 : ((n : Int) == 0) = false := by simp; omega
    by_cases h20 : 20 < n
    · have d1 : decide ((20 : Int) < (n : Int)) = true := by simp; omega
      have d1' : decide (20 < n) = true := by simp; omega
      have F := Lib.hid (show BLeS ps Cv.none 3 from .inr (.inl ⟨by rw [HL.out]; exact h20, rfl, rfl⟩))
      clear h20
      -- the error 3 is returned, F.out says so
      obtain ⟨⟨r0, r1, r2⟩, ⟨y0, y1, y2⟩, hlr⟩ := RB.out.c3
      go_wp2_with fail
      have rb := RB.out.store3 (.slice none 0 0) (.int .i64 0) (.int .i64 0)
      exact bodyPost_ret (v := .tuple #[.agg #[(.slice none 0 0), .int .i64 0, .int .i64 0], .int .i64 3]) (by simp [results, Try.results31, go_sem, rb.cell]) rfl (retS2_store0 F.out (Nat.le_refl _) BW.out)
    · have d1 : decide ((20 : Int) < (n : Int)) = false := by simp; omega
      have d1' : decide (20 < n) = false := by simp; omega
      obtain ⟨g, o, hg, hrow⟩ := HROW.out (by omega)
      subst hg
      have ROW := Lib.hid hrow
      clear hrow HROW
      have hn1 : 1 ≤ n := by omega
      have hn20 : n ≤ 20 := by omega
      clear h0 h20
      go_wp2_with fail
      clear d0 d1 d1'
      go_loopg [4] n (fun gg s4 wx => ∃ k : Nat, k + gg = n ∧ s4 = .int .i64 k ∧ (∀ (j : Nat) (x : PN), j < k → ps[j]? = some x → x.Good) ∧ Blk wx w.heap.size 46 #[.slice none 0 0, .int .i64 0, .int .i64 0] ∧ Below w.heap.size w wx)
      case atStart => exact ⟨0, by omega, rfl, fun j x hj => by omega, RB.out, BW.out⟩
      case round =>
        clear RB BW
        obtain ⟨k, hkg, rfl, hG, hRB, hBW⟩ := hrel
        have RB := Lib.hid hRB; have BW := Lib.hid hBW; have HG := Lib.hid hG
        clear hRB hBW hG
        by_cases hk : k < n
        · have hki : (k : Int) < n := by omega
          obtain ⟨x, hx, x0, x1, x2, x3⟩ := (ROW.out.below BW.out).get (k := k) (by rw [HL.out]; exact hk)
          have hgl := (ROW.out.below BW.out).lt
          have HX := Lib.hid hx
          clear hx
          go_wp2_with fail
          refine (rgood_any x.R x.r _).mono ?_
          by_cases hg1 : GOk x.R x.r
          · rw [gokB_t hg1]
            rintro e w2 ⟨rfl, hb⟩
            replace RB := Lib.hid (RB.out.below hb RB.out.lt); replace BW := Lib.hid (bthen BW.out hb)
            clear x0 x1 x2 x3 hgl hb
            obtain ⟨x', hx, x0, x1, x2, x3⟩ := (ROW.out.below BW.out).get (k := k) (by rw [HL.out]; exact hk)
            rw [HX.out] at hx
            injection hx with hx
            subst hx
            have hgl := (ROW.out.below BW.out).lt
            go_wp2_with fail
            refine (rgood_any x.L x.l _).mono ?_
            by_cases hg2 : GOk x.L x.l
            · rw [gokB_t hg2]
              rintro e w3 ⟨rfl, hb⟩
              replace RB := Lib.hid (RB.out.below hb RB.out.lt); replace BW := Lib.hid (bthen BW.out hb)
              have G2 := Lib.hid (show ∀ (j : Nat) (y : PN), j < k + 1 → ps[j]? = some y → y.Good from fun j y hj hy => by
                rcases Nat.lt_or_ge j k with h1 | h1
                · exact HG.out j y h1 hy
                · obtain rfl : j = k := by omega
                  rw [HX.out] at hy
                  injection hy with hy
                  subst hy
                  exact ⟨hg1, hg2⟩)
              clear hb hg1 hg2 x0 x1 x2 x3 hgl
              go_wp2_with fail
              go_roundg (gk - 1)
              case measure => omega
              case rel => exact ⟨k + 1, by omega, by go_num, G2.out, RB.out, BW.out⟩
            · rw [gokB_f hg2]
              rintro e w3 ⟨rfl, hb⟩
              replace RB := Lib.hid (RB.out.below hb RB.out.lt); replace BW := Lib.hid (bthen BW.out hb)
              have F := Lib.hid (show BLeS ps Cv.none 2 from .inr (.inr (.inl ⟨by rw [HL.out]; exact hn1, by rw [HL.out]; exact hn20, ⟨x, List.mem_of_getElem? HX.out, fun h => hg2 h.2⟩, rfl, rfl⟩)))
              clear hb hg1 hg2 x0 x1 x2 x3 hgl
              -- the error 2 is returned, F.out says so
              obtain ⟨⟨r0, r1, r2⟩, ⟨y0, y1, y2⟩, hlr⟩ := RB.out.c3
              go_wp2_with fail
              have rb := RB.out.store3 (.slice none 0 0) (.int .i64 0) (.int .i64 0)
              exact bodyPost_ret (v := .tuple #[.agg #[(.slice none 0 0), .int .i64 0, .int .i64 0], .int .i64 2]) (by simp [results, Try.results31, go_sem, rb.cell]) rfl (retS2_store0 F.out (Nat.le_refl _) BW.out)
          · rw [gokB_f hg1]
            rintro e w2 ⟨rfl, hb⟩
            replace RB := Lib.hid (RB.out.below hb RB.out.lt); replace BW := Lib.hid (bthen BW.out hb)
            have F := Lib.hid (show BLeS ps Cv.none 2 from .inr (.inr (.inl ⟨by rw [HL.out]; exact hn1, by rw [HL.out]; exact hn20, ⟨x, List.mem_of_getElem? HX.out, fun h => hg1 h.1⟩, rfl, rfl⟩)))
            clear hb hg1 x0 x1 x2 x3 hgl
            -- the error 2 is returned, F.out says so
            obtain ⟨⟨r0, r1, r2⟩, ⟨y0, y1, y2⟩, hlr⟩ := RB.out.c3
            go_wp2_with fail
            have rb := RB.out.store3 (.slice none 0 0) (.int .i64 0) (.int .i64 0)
            exact bodyPost_ret (v := .tuple #[.agg #[(.slice none 0 0), .int .i64 0, .int .i64 0], .int .i64 2]) (by simp [results, Try.results31, go_sem, rb.cell]) rfl (retS2_store0 F.out (Nat.le_refl _) BW.out)
        · have hkn : k = n := by omega
          have GD := Lib.hid (show ∀ x ∈ ps, x.Good from fun x hx => by
            obtain ⟨j, hj, he⟩ := List.getElem_of_mem hx
            exact HG.out j x (by rw [hkn, ← HL.out]; exact hj) (by rw [List.getElem?_eq_getElem hj, he]))
          have hki : ¬ (k : Int) < n := by omega
          clear HG hkn hk
          obtain ⟨p0, xs, rfl⟩ : ∃ p0 xs, ps = p0 :: xs := by
            cases ps with
            | nil => have := HL.out; simp at this; omega
            | cons p0 xs => exact ⟨p0, xs, rfl⟩
          have HXL := Lib.hid (show xs.length = n - 1 by have := HL.out; simp at this; omega)
          obtain ⟨x, hx, x0, x1, x2, x3⟩ := (ROW.out.below BW.out).get (k := 0) (by simp)
          simp only [List.getElem?_cons_zero, Option.some.injEq] at hx
          subst hx
          simp only [Nat.zero_mul, Nat.add_zero] at x0 x1 x2 x3
          have hgl := (ROW.out.below BW.out).lt
          have hrl := RB.out.lt
          have hn0i : (0 : Int) < n := by omega
          go_wp2_with fail
          refine (refToken_any p0.R p0.r p0.L p0.l _).mono ?_
          rintro e w5 ⟨s0, e0, A1, m1, d1, hS, hmd, rfl, hI1, hA1, hb1⟩
          have HS0 := Lib.hid hS
          have hm1 : m1 ≤ 400 := by have h1 := tokS_len hS; have h2 : s0.vals.length = m1 := hI1.1; omega
          have ZB := Lib.hid (Blk.new w5 46 #[.slice A1 m1 d1, .int .i64 s0.per, .int .i64 s0.inc])
          have IZ := Lib.hid (hI1.alloc' (.cells #[.slice A1 m1 d1, .int .i64 s0.per, .int .i64 s0.inc] 46))
          have OZ := Lib.hid (show (∀ b off t, A1 = some ⟨b, off, t⟩ → w.heap.size < b) ∧ (0 < m1 → ∀ b off t, A1 = some ⟨b, off, t⟩ → b ≠ w5.heap.size) from ⟨fun b off t e => by have h1 := hA1 b off t e; omega, fun h3 b off t e => by
            obtain ⟨b', off', e', hb', _⟩ := hI1.2 h3
            rw [e] at e'; cases e'; omega⟩)
          replace RB := Lib.hid ((RB.out.below hb1 RB.out.lt).alloc (.cells #[.slice A1 m1 d1, .int .i64 s0.per, .int .i64 s0.inc] 46)); replace BW := Lib.hid (bthen (bthen BW.out hb1) (balloc _ (.cells #[.slice A1 m1 d1, .int .i64 s0.per, .int .i64 s0.inc] 46)))
          have hsz := RB.out.lt
          have hzw : w.heap.size < w5.heap.size := by have := hb1.size; omega
          clear hS hI1 hA1 hb1 x0 x1 x2 x3 hgl hrl hsz
          go_upto_region 11 with fail
          generalize hwe : w5.alloc (.cells #[.slice A1 m1 d1, .int .i64 s0.per, .int .i64 s0.inc] 46) = we at *
          clear hwe
          generalize w5.heap.size = Z at *
          go_wp2_with fail
          go_loopg [7, 6] (n - 1) (fun gg s7 s6 wx => ∃ (k : Nat) (s : Cv) (e : Int) (A : Option Addr) (m d : Nat), 1 ≤ k ∧ k + gg = n ∧ s7 = .int .i64 k ∧ s6 = .int .i64 e ∧ m ≤ 400 ∧ m ≤ d ∧ Blk wx Z 46 #[.slice A m d, .int .i64 s.per, .int .i64 s.inc] ∧ Ints wx wx.heap.size A m s.vals ∧ ((∀ b off t, A = some ⟨b, off, t⟩ → w.heap.size < b) ∧ (0 < m → ∀ b off t, A = some ⟨b, off, t⟩ → b ≠ Z)) ∧ (∀ r er, LeF s e (xs.drop (k - 1)) r er → LeF s0 e0 xs r er) ∧ Blk wx w.heap.size 46 #[.slice none 0 0, .int .i64 0, .int .i64 0] ∧ Below w.heap.size w wx)
          case atStart => exact ⟨1, s0, e0, A1, m1, d1, by omega, by omega, rfl, rfl, hm1, hmd, ZB.out, IZ.out, OZ.out, fun r er h => by rw [Nat.sub_self, List.drop_zero] at h; exact h, RB.out, BW.out⟩
          case round =>
            clear ZB IZ OZ RB BW hm1
            obtain ⟨k, s, e, A, m, d, hk1, hkg, rfl, rfl, hm, hmd2, hZB, hIZ, hOZ, hT, hRB, hBW⟩ := hrel
            have ZB := Lib.hid hZB; have IZ := Lib.hid hIZ; have OZ := Lib.hid hOZ; have HT := Lib.hid hT; have RB := Lib.hid hRB; have BW := Lib.hid hBW
            clear hZB hIZ hOZ hT hRB hBW
            have HEZ := Lib.hid (fun he : e ≠ 0 => LeF.bad (s := s) (e := e) he (xs.drop (k - 1)))
            by_cases he : e = 0
            · subst he
              by_cases hk : k < n
              · have hki : (k : Int) < n := by omega
                obtain ⟨x, hx, x0, x1, x2, x3⟩ := (ROW.out.below BW.out).get (k := k) (by rw [HL.out]; exact hk)
                have hgl := (ROW.out.below BW.out).lt
                have HX := Lib.hid hx
                clear hx
                have hzl := ZB.out.lt
                have HAX := Lib.hid IZ.out.blt
                have YB := Lib.hid (Blk.new wr 46 #[.slice none 0 0, .int .i64 0, .int .i64 0])
                replace ZB := Lib.hid (ZB.out.alloc (.cells #[.slice none 0 0, .int .i64 0, .int .i64 0] 46)); replace IZ := Lib.hid (IZ.out.alloc' (.cells #[.slice none 0 0, .int .i64 0, .int .i64 0] 46)); replace RB := Lib.hid (RB.out.alloc (.cells #[.slice none 0 0, .int .i64 0, .int .i64 0] 46)); replace BW := Lib.hid (bthen BW.out (balloc _ (.cells #[.slice none 0 0, .int .i64 0, .int .i64 0] 46)))
                clear x0 x1 x2 x3 hgl
                go_upto_region 15 with fail
                generalize hwe : wr.alloc (.cells #[.slice none 0 0, .int .i64 0, .int .i64 0] 46) = wf at *
                clear hwe
                generalize wr.heap.size = Y at *
                obtain ⟨x', hx, x0, x1, x2, x3⟩ := (ROW.out.below BW.out).get (k := k) (by rw [HL.out]; exact hk)
                rw [HX.out] at hx
                injection hx with hx
                subst hx
                have hgl := (ROW.out.below BW.out).lt
                go_wp2_with fail
                refine (refToken_any x.R x.r x.L x.l _).mono ?_
                rintro e w6 ⟨f, i, A2, m2, d2, hS, hmd3, rfl, hI2, hA2, hb⟩
                have hk' : k - 1 < xs.length := by rw [HXL.out]; omega
                have hdr : xs.drop (k - 1) = x :: xs.drop k := by
                  rw [List.drop_eq_getElem_cons hk', show k - 1 + 1 = k by omega]
                  have h1 := HX.out
                  rw [show k = (k - 1) + 1 by omega, List.getElem?_cons_succ, List.getElem?_eq_getElem hk'] at h1
                  injection h1 with h1
                  rw [h1]
                have HTN := Lib.hid (show ∀ r er, ((i ≠ 0 ∧ LeF s i (xs.drop k) r er) ∨ (i = 0 ∧ ∃ t j, ExtS true s f t j ∧ LeF t j (xs.drop k) r er)) → LeF s0 e0 xs r er from fun r er h => HT.out r er (by rw [hdr]; exact .inr ⟨rfl, f, i, hS, h⟩))
                have hm2 : m2 ≤ 400 := by have h1 := tokS_len hS; have h2 : f.vals.length = m2 := hI2.1; omega
                have hyw := YB.out.lt
                replace ZB := Lib.hid (ZB.out.below hb ZB.out.lt); replace RB := Lib.hid (RB.out.below hb RB.out.lt); replace IZ := Lib.hid (IZ.out.ext hb); replace YB := Lib.hid (YB.out.below hb YB.out.lt); replace BW := Lib.hid (bthen BW.out hb)
                have hAY := Lib.hid (show ∀ b off t, A2 = some ⟨b, off, t⟩ → Y < b from fun b off t e => by have := hA2 b off t e; omega)
                have HI2 := Lib.hid hI2
                clear hdr hS HT hI2 hA2 hb x0 x1 x2 x3 hgl hk'
                have Z2 := Lib.hid (ZB.out.sto (Sto.three Y w6 (.slice A2 m2 d2) (.int .i64 f.per) (.int .i64 f.inc)) (by omega))
                have IZ2 := Lib.hid (IZ.out.sto0 (Sto.three Y w6 (.slice A2 m2 d2) (.int .i64 f.per) (.int .i64 f.inc)) (fun h0 b off t e => by have := HAX.out h0 b off t e; omega))
                have R2 := Lib.hid (RB.out.sto (Sto.three Y w6 (.slice A2 m2 d2) (.int .i64 f.per) (.int .i64 f.inc)) (by omega))
                have B2 := Lib.hid (bst3 BW.out (show w.heap.size ≤ Y by omega) (.slice A2 m2 d2) (.int .i64 f.per) (.int .i64 f.inc))
                have Y2 := Lib.hid (YB.out.store3 (.slice A2 m2 d2) (.int .i64 f.per) (.int .i64 f.inc))
                have I2 := Lib.hid (HI2.out.sto (Sto.three Y w6 (.slice A2 m2 d2) (.int .i64 f.per) (.int .i64 f.inc)) (fun b off t e => by have := hAY.out b off t e; omega))
                obtain ⟨⟨u0, u1, u2⟩, ⟨v0, v1, v2⟩, hlu⟩ := YB.out.c3
                by_cases hi : i = 0
                · subst hi
                  go_upto_region 17 with fail
                  clear ZB IZ RB BW YB HI2 u0 u1 u2 v0 v1 v2 hlu
                  generalize hws : ((w6.setCell ⟨Y, 0, none⟩ (.slice A2 m2 d2)).setCell ⟨Y, 1, none⟩ (.int .i64 f.per)).setCell ⟨Y, 2, none⟩ (.int .i64 f.inc) = ws at *
                  clear hws
                  obtain ⟨⟨q0, q1, q2⟩, ⟨k0, k1, k2⟩, hlq⟩ := Z2.out.c3
                  obtain ⟨⟨u0, u1, u2⟩, ⟨v0, v1, v2⟩, hlu⟩ := Y2.out.c3
                  go_wp2_with fail
                  refine (refMin_any A A2 m m2 d d2 s.per s.inc f.per f.inc s.vals f.vals _ (by exact IZ2.out) (by exact I2.out) (by omega) (by omega) hmd2 hmd3).mono ?_
                  rintro e w7 ⟨t, j, A3, m3, d3, hS, hmd4, rfl, hI3, hA3, hb⟩
                  have HTE := Lib.hid (show ∀ r er, LeF t j (xs.drop k) r er → LeF s0 e0 xs r er from fun r er h => HTN.out r er (.inr ⟨by trivial, t, j, hS, h⟩))
                  have hm3 : m3 ≤ 400 := by have h1 := extS_len hS; have h2 : t.vals.length = m3 := hI3.1; omega
                  replace Z2 := Lib.hid (Z2.out.below hb Z2.out.lt); replace R2 := Lib.hid (R2.out.below hb R2.out.lt); replace B2 := Lib.hid (bthen B2.out hb)
                  have HI3 := Lib.hid hI3
                  have HA3 := Lib.hid (show (∀ b off t, A3 = some ⟨b, off, t⟩ → w.heap.size < b) ∧ (0 < m3 → ∀ b off t, A3 = some ⟨b, off, t⟩ → b ≠ Z) from ⟨fun b off t e => by have := hA3 b off t e; omega, fun _ b off t e => by have := hA3 b off t e; omega⟩)
                  clear hS hI3 hA3 hb IZ2 I2 Y2 q0 q1 q2 k0 k1 k2 hlq u0 u1 u2 v0 v1 v2 hlu HTN
                  obtain ⟨⟨q0, q1, q2⟩, ⟨k0, k1, k2⟩, hlq⟩ := Z2.out.c3
                  have Z3 := Lib.hid (Z2.out.store3 (.slice A3 m3 d3) (.int .i64 t.per) (.int .i64 t.inc))
                  have I3 := Lib.hid (HI3.out.sto0 (Sto.three Z w7 (.slice A3 m3 d3) (.int .i64 t.per) (.int .i64 t.inc)) HA3.out.2)
                  have R3 := Lib.hid (R2.out.sto (Sto.three Z w7 (.slice A3 m3 d3) (.int .i64 t.per) (.int .i64 t.inc)) (by omega))
                  have B3 := Lib.hid (bst3 B2.out (show w.heap.size ≤ Z by omega) (.slice A3 m3 d3) (.int .i64 t.per) (.int .i64 t.inc))
                  clear R2 B2 HI3
                  go_wp2_with fail
                  go_roundg (gk - 1)
                  case measure => omega
                  case rel => exact ⟨k + 1, t, j, A3, m3, d3, by omega, by omega, by go_num, rfl, hm3, hmd4, Z3.out, I3.out, HA3.out, HTE.out, R3.out, B3.out⟩
                · have di : (i == 0) = false := by simpa using hi
                  have HTE := Lib.hid (show ∀ r er, LeF s i (xs.drop k) r er → LeF s0 e0 xs r er from fun r er h => HTN.out r er (.inl ⟨hi, h⟩))
                  clear hi HTN
                  go_wp2_with fail
                  go_roundg (gk - 1)
                  case measure => omega
                  case rel => exact ⟨k + 1, s, i, A, m, d, by omega, by omega, by go_num, rfl, hm, hmd2, Z2.out, IZ2.out, OZ.out, HTE.out, R2.out, B2.out⟩
              · have hki : ¬ (k : Int) < n := by omega
                have HDN := Lib.hid (show xs.drop (k - 1) = [] from List.drop_eq_nil_of_le (by rw [HXL.out]; omega))
                clear hk
                have F := Lib.hid (show BLeS (p0 :: xs) s 0 from .inr (.inr (.inr ⟨by rw [HL.out]; exact hn20, GD.out, p0, xs, rfl, s0, e0, HS0.out, HT.out _ _ (by rw [HDN.out]; exact .inl ⟨rfl, rfl, rfl⟩)⟩)))
                clear HT HEZ
                obtain ⟨⟨q0, q1, q2⟩, ⟨k0, k1, k2⟩, hlq⟩ := ZB.out.c3
                obtain ⟨⟨r0, r1, r2⟩, ⟨y0, y1, y2⟩, hlr⟩ := RB.out.c3
                go_wp2_with fail
                have rb := RB.out.store3 (.slice A m d) (.int .i64 s.per) (.int .i64 s.inc)
                refine bodyPost_ret (v := .tuple #[.agg #[(.slice A m d), .int .i64 s.per, .int .i64 s.inc], .int .i64 0]) (by simp [results, Try.results31, go_sem, rb.cell]) rfl ?_
                exact ⟨s, 0, A, m, d, F.out, hmd2, rfl, IZ.out.sto0 (Sto.three w.heap.size wr _ _ _) (fun _ b off t e => by have := OZ.out.1 b off t e; omega), (fun b off t e => by have := OZ.out.1 b off t e; omega), bst3 BW.out (Nat.le_refl _) _ _ _⟩
            · have de : (e == 0) = false := by simpa using he
              have de' : (e != 0) = true := by simpa using he
              have F := Lib.hid (show BLeS (p0 :: xs) Cv.none e from .inr (.inr (.inr ⟨by rw [HL.out]; exact hn20, GD.out, p0, xs, rfl, s0, e0, HS0.out, HT.out _ _ (HEZ.out he)⟩)))
              clear he HT ZB IZ OZ HEZ
              by_cases hk : k < n
              · have hki : (k : Int) < n := by omega
                -- the error e is returned, F.out says so
                obtain ⟨⟨r0, r1, r2⟩, ⟨y0, y1, y2⟩, hlr⟩ := RB.out.c3
                go_wp2_with fail
                have rb := RB.out.store3 (.slice none 0 0) (.int .i64 0) (.int .i64 0)
                exact bodyPost_ret (v := .tuple #[.agg #[(.slice none 0 0), .int .i64 0, .int .i64 0], .int .i64 e]) (by simp [results, Try.results31, go_sem, rb.cell]) rfl (retS2_store0 F.out (Nat.le_refl _) BW.out)
              · have hki : ¬ (k : Int) < n := by omega
                -- the error e is returned, F.out says so
                obtain ⟨⟨r0, r1, r2⟩, ⟨y0, y1, y2⟩, hlr⟩ := RB.out.c3
                go_wp2_with fail
                have rb := RB.out.store3 (.slice none 0 0) (.int .i64 0) (.int .i64 0)
                exact bodyPost_ret (v := .tuple #[.agg #[(.slice none 0 0), .int .i64 0, .int .i64 0], .int .i64 e]) (by simp [results, Try.results31, go_sem, rb.cell]) rfl (retS2_store0 F.out (Nat.le_refl _) BW.out)
end Go.Proofs.Ythdibkmjoiipgaa
