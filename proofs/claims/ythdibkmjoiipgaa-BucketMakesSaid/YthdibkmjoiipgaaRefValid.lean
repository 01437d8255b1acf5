/- netcalculusref02.Valid: what it returns. -/
import Derived.Test.YthdibkmjoiipgaaCurve2
namespace Go.Proofs.Ythdibkmjoiipgaa
open Go.RowKit
set_option linter.unusedVariables false

set_option maxRecDepth 100000 in
set_option maxHeartbeats 4000000 in
theorem refValid_head (A : Option Addr) (n c : Nat) (p i : Int) (w : World) (hn : (n : Int) ≤ 1000000) (h : ¬ Head n p i) :
    Calls Try.prog 61 #[.agg #[.slice A n c, .int .i64 p, .int .i64 i]] w fun e w' => e = .returned (.bool false) ∧ Below w.heap.size w w' := by
  have hh : n < 1 ∨ (1 ≤ n ∧ 400 < n) ∨ (1 ≤ n ∧ n ≤ 400 ∧ p < 1) ∨ (1 ≤ n ∧ n ≤ 400 ∧ 1 ≤ p ∧ 120 < p) ∨ (1 ≤ n ∧ n ≤ 400 ∧ 1 ≤ p ∧ p ≤ 120 ∧ (n : Int) < p) ∨ (1 ≤ n ∧ n ≤ 400 ∧ 1 ≤ p ∧ p ≤ 120 ∧ p ≤ n ∧ i < 0) ∨
      (1 ≤ n ∧ n ≤ 400 ∧ 1 ≤ p ∧ p ≤ 120 ∧ p ≤ n ∧ 0 ≤ i ∧ 1073741824 < i) := by unfold Head at h; omega
  clear h
  rcases hh with h1 | ⟨h1, h2⟩ | ⟨h1, h2, h3⟩ | ⟨h1, h2, h3, h4⟩ | ⟨h1, h2, h3, h4, h5⟩ | ⟨h1, h2, h3, h4, h5, h6⟩ | ⟨h1, h2, h3, h4, h5, h6, h7⟩
  all_goals
    go_enter Try.func61, Try.ntmps61
    go_wp2
    go_ret
    exact ⟨rfl, (Below.refl _ _).alloc (Nat.le_refl _) _⟩

/-- what the loop has seen -/
def RefOk (zs : List Int) (k : Nat) : Prop := ∀ j, j < k → (nth zs j = inf ∨ (0 ≤ nth zs j ∧ nth zs j ≤ 1073741824)) ∧ ∀ j', j = j' + 1 → nth zs j' ≤ nth zs j
theorem RefOk.zero (zs : List Int) : RefOk zs 0 := fun j hj => by omega
theorem RefOk.succ {zs : List Int} {k : Nat} (h : RefOk zs k) (h1 : nth zs k = inf ∨ (0 ≤ nth zs k ∧ nth zs k ≤ 1073741824)) (h2 : ∀ j', k = j' + 1 → nth zs j' ≤ nth zs k) : RefOk zs (k + 1) := fun j hj => by
  by_cases e : j = k
  · subst e; exact ⟨h1, h2⟩
  · exact h j (by omega)
theorem RefOk.of {f : Cv} (ok : f.Ok) (k : Nat) (hk : k < f.vals.length) : (nth f.vals k = inf ∨ (0 ≤ nth f.vals k ∧ nth f.vals k ≤ 1073741824)) ∧ ∀ j', k = j' + 1 → nth f.vals j' ≤ nth f.vals k := by
  have h1 := (okv_iff _).1 (ok.v k hk)
  have h2 := (ok.nn k).1
  exact ⟨h1.elim .inl (fun h => .inr ⟨h2, h⟩), fun j' e => by subst e; exact ok.mono j' hk⟩

set_option maxRecDepth 100000 in
set_option maxHeartbeats 4000000 in
theorem refValid_any (A : Option Addr) (n c : Nat) (p i : Int) (zs : List Int) (w : World) (hA : Ints w w.heap.size A n zs) (hn : (n : Int) ≤ 1000000) :
    Calls Try.prog 61 #[.agg #[.slice A n c, .int .i64 p, .int .i64 i]] w fun e w' => e = .returned (.bool (Cv.okB ⟨zs, p, i⟩)) ∧ Below w.heap.size w w' := by
  have hl := hA.1
  by_cases hd : Head n p i
  · obtain ⟨h1, h2, h3, h4, h5, h6, h7⟩ := hd
    obtain ⟨p, rfl⟩ := Int.eq_ofNat_of_zero_le (show 0 ≤ p by omega)
    obtain ⟨b, off, rfl, hb, hc⟩ := hA.2 (by omega)
    have HC := Lib.hid hc; clear hc hA
    have HL := Lib.hid hl; clear hl
    have d1 : decide ((n : Int) < 1) = false := by simp; omega
    have d2 : decide (400 < (n : Int)) = false := by simp; omega
    have d3 : decide ((p : Int) < 1) = false := by simp; omega
    have d4 : decide (120 < (p : Int)) = false := by simp; omega
    have d5 : decide (i < 0) = false := by simp; omega
    have d6 : decide (1073741824 < i) = false := by simp; omega
    have d7 : decide (n < p) = false := by simp; omega
    go_enter Try.func61, Try.ntmps61
    go_wp2
    clear d1 d2 d3 d4 d5 d6 d7
    go_loopg [4] n (fun g t wx => ∃ k : Nat, k + g = n ∧ t = .int .i64 k ∧ RefOk zs k ∧ Below (w.alloc (.cells #[.slice (some ⟨b, off, none⟩) n c, .int .i64 p, .int .i64 i] 46)).heap.size (w.alloc (.cells #[.slice (some ⟨b, off, none⟩) n c, .int .i64 p, .int .i64 i] 46)) wx)
    case atStart => exact ⟨0, by omega, rfl, RefOk.zero _, Below.refl _ _⟩
    case round =>
      as_aux_lemma =>
      obtain ⟨k, hkg, rfl, hok, bx⟩ := hrel
      have HOK := Lib.hid hok; clear hok
      have fb := (Blk.new w 46 #[.slice (some ⟨b, off, none⟩) n c, .int .i64 p, .int .i64 i]).below bx (by simp)
      have q0 := fb.cell 0; have q1 := fb.cell 1; have q2 := fb.cell 2
      simp at q0 q1 q2
      have hlf := fb.lt
      have hbl : b < wr.heap.size := by omega
      have hcx : ∀ j, j < n → wr.cell? ⟨b, off + j, none⟩ = some (.int .i64 (nth zs j)) := fun j hj => by
        rw [bx.cell (by simp; omega), World.cell?_alloc_lt _ _ _ hb]; exact HC.out j hj
      have BW := Lib.hid (bthen (balloc w _) bx); have BX := Lib.hid bx
      have HCX := Lib.hid hcx
      clear bx fb hcx
      by_cases hlt : k < n
      · have hlti : (k : Int) < (n : Int) := by omega
        have hck := HCX.out k hlt
        obtain ⟨x, hx⟩ : ∃ x, x = nth zs k := ⟨_, rfl⟩
        rw [← hx] at hck
        have hno : ¬ ((x = inf ∨ (0 ≤ x ∧ x ≤ 1073741824)) ∧ ∀ j', k = j' + 1 → nth zs j' ≤ x) → Cv.okB ⟨zs, p, i⟩ = false := fun h => Cv.okB_false fun ok => h (by
          have := RefOk.of ok k (by show k < zs.length; rw [HL.out]; exact hlt)
          rw [hx]; exact this)
        have hyes : (x = inf ∨ (0 ≤ x ∧ x ≤ 1073741824)) → (∀ j', k = j' + 1 → nth zs j' ≤ x) → RefOk zs (k + 1) := fun h h' => HOK.out.succ (by rw [← hx]; exact h) (by rw [← hx]; exact h')
        have HX := Lib.hid hx; have HN := Lib.hid hno; have HY := Lib.hid hyes
        clear hx hno hyes HOK
        have hcase : (x ≠ 4611686018427387904 ∧ x < 0) ∨ (x ≠ 4611686018427387904 ∧ 0 ≤ x ∧ 1073741824 < x) ∨ ((x = 4611686018427387904 ∨ (0 ≤ x ∧ x ≤ 1073741824 ∧ x ≠ 4611686018427387904))) := by omega
        rcases hcase with ⟨hx1, hx2⟩ | ⟨hx1, hx2, hx3⟩ | hx1
        · have F := Lib.hid (HN.out (fun h => h.1.elim hx1 (fun h => by omega)))
          have c1 : (x != 4611686018427387904) = true := by simpa using hx1
          have c2 : decide (x < 0) = true := by simpa using hx2
          clear hx1 HN HY
          go_wp2_with fail
          go_quiet (fail)
          go_wp2
          go_ret
          exact ⟨ret_bool F.out.symm, bdrewN BW.out⟩
        · have F := Lib.hid (HN.out (fun h => h.1.elim hx1 (fun h => by omega)))
          have c1 : (x != 4611686018427387904) = true := by simpa using hx1
          have c2 : decide (x < 0) = false := by simp; omega
          have c3 : decide (1073741824 < x) = true := by simpa using hx3
          clear hx1 HN HY
          go_wp2_with fail
          go_quiet (fail)
          go_wp2
          go_ret
          exact ⟨ret_bool F.out.symm, bdrewN BW.out⟩
        · have hx0 : x = inf ∨ (0 ≤ x ∧ x ≤ 1073741824) := by unfold inf; omega
          by_cases hk0 : k = 0
          · have F := Lib.hid (HY.out hx0 (fun j' h => by omega))
            have g0 : decide (0 < (k : Int)) = false := by simp; omega
            have g1 : decide (0 < k) = false := by simp; omega
            clear HN HY hx0 hk0
            rcases hx1 with hx1 | ⟨hx1, hx2, hx3⟩
            · have c1 : (x != 4611686018427387904) = false := by simpa using hx1
              clear hx1
              go_wp2_with fail
              go_quiet (fail)
              go_wp2
              go_roundg (gk - 1)
              case measure => omega
              case rel => exact ⟨k + 1, by omega, by go_num, F.out, bdrewN BX.out⟩
            · have c1 : (x != 4611686018427387904) = true := by simpa using hx3
              have c2 : decide (x < 0) = false := by simp; omega
              have c3 : decide (1073741824 < x) = false := by simp; omega
              clear hx3
              go_wp2_with fail
              go_quiet (fail)
              go_wp2
              go_roundg (gk - 1)
              case measure => omega
              case rel => exact ⟨k + 1, by omega, by go_num, F.out, bdrewN BX.out⟩
          · obtain ⟨u, hu⟩ : ∃ u, k = u + 1 := ⟨k - 1, by omega⟩
            have hcu := HCX.out u (by omega)
            obtain ⟨l, hl⟩ : ∃ l, l = nth zs u := ⟨_, rfl⟩
            rw [← hl] at hcu
            have e1 : IntKind.i64.wrap ((k : Int) - 1) = (u : Int) := by rw [IntWalk.i64_in _ (by omega)]; omega
            have e2 : (k : Int) - 1 = (u : Int) := by omega
            have e3 : IntKind.i64.wrap (u : Int) = (u : Int) := IntWalk.i64_in _ (by omega)
            have g0 : decide (0 < (k : Int)) = true := by simp; omega
            have g1 : decide (0 < k) = true := by simp; omega
            have hu0 : 0 ≤ (u : Int) := by omega
            have hun : (u : Int) < (n : Int) := by omega
            have hun2 : u < n := by omega
            by_cases hxl : x < l
            · have F := Lib.hid (HN.out (fun h => by have := h.2 u hu; rw [← hl] at this; omega))
              have c4 : decide (x < l) = true := by simpa using hxl
              clear HN HY hx0 hu hl hk0
              rcases hx1 with hx1 | ⟨hx1, hx2, hx3⟩
              · have c1 : (x != 4611686018427387904) = false := by simpa using hx1
                clear hx1
                go_wp2_with fail
                go_quiet (fail)
                go_wp2
                go_ret
                exact ⟨ret_bool F.out.symm, bdrewN BW.out⟩
              · have c1 : (x != 4611686018427387904) = true := by simpa using hx3
                have c2 : decide (x < 0) = false := by simp; omega
                have c3 : decide (1073741824 < x) = false := by simp; omega
                clear hx3
                go_wp2_with fail
                go_quiet (fail)
                go_wp2
                go_ret
                exact ⟨ret_bool F.out.symm, bdrewN BW.out⟩
            · have F := Lib.hid (HY.out hx0 (fun j' h => by rw [show j' = u by omega, ← hl]; omega))
              have c4 : decide (x < l) = false := by simp; omega
              clear HN HY hx0 hu hl hk0
              rcases hx1 with hx1 | ⟨hx1, hx2, hx3⟩
              · have c1 : (x != 4611686018427387904) = false := by simpa using hx1
                clear hx1
                go_wp2_with fail
                go_quiet (fail)
                go_wp2
                go_roundg (gk - 1)
                case measure => omega
                case rel => exact ⟨k + 1, by omega, by go_num, F.out, bdrewN BX.out⟩
              · have c1 : (x != 4611686018427387904) = true := by simpa using hx3
                have c2 : decide (x < 0) = false := by simp; omega
                have c3 : decide (1073741824 < x) = false := by simp; omega
                clear hx3
                go_wp2_with fail
                go_quiet (fail)
                go_wp2
                go_roundg (gk - 1)
                case measure => omega
                case rel => exact ⟨k + 1, by omega, by go_num, F.out, bdrewN BX.out⟩
      · have hkn : k = n := by omega
        clear hlt hkg
        subst hkn
        obtain ⟨m, rfl⟩ : ∃ m, k = m + 1 := ⟨k - 1, by omega⟩
        have hcm := HCX.out m (by omega)
        obtain ⟨l, hl⟩ : ∃ l, l = nth zs m := ⟨_, rfl⟩
        have hlv := (HOK.out m (by omega)).1
        rw [← hl] at hcm hlv
        have hmono : ∀ j, j + 1 < zs.length → nth zs j ≤ nth zs (j + 1) := fun j hj => (HOK.out (j + 1) (by rw [HL.out] at hj; omega)).2 j rfl
        have hz : 0 ≤ nth zs 0 := by
          rcases (HOK.out 0 (by omega)).1 with h | h
          · rw [h]; unfold inf; omega
          · exact h.1
        have hokv : ∀ j, j < m + 1 → okv (nth zs j) = true := fun j hj => (okv_iff _).2 ((HOK.out j hj).1.elim .inl (fun h => .inr h.2))
        have hok : ((l = inf → (p : Int) = 1 ∧ i = 0) ∧ (l ≠ inf → l ≤ nth zs (m + 1 - p) + i)) → Cv.okB ⟨zs, p, i⟩ = true := by
          intro h
          refine Cv.okB_true ⟨?_, ?_, h3, h4, ?_, h6, h7, ?_, hz, hmono, ?_, ?_⟩
          · show 1 ≤ zs.length; rw [HL.out]; omega
          · show zs.length ≤ 400; rw [HL.out]; omega
          · show (p : Int) ≤ zs.length; rw [HL.out]; omega
          · intro j hj; exact hokv j (by rw [← HL.out]; exact hj)
          · show nth zs (zs.length - 1) = inf → _; rw [HL.out, Nat.add_sub_cancel, ← hl]; exact h.1
          · show nth zs (zs.length - 1) ≠ inf → nth zs (zs.length - 1) ≤ nth zs (zs.length - (p : Int).toNat) + i
            rw [HL.out, Nat.add_sub_cancel, ← hl, Int.toNat_natCast]; exact h.2
        have hno : ¬ ((l = inf → (p : Int) = 1 ∧ i = 0) ∧ (l ≠ inf → l ≤ nth zs (m + 1 - p) + i)) → Cv.okB ⟨zs, p, i⟩ = false := by
          intro h
          refine Cv.okB_false fun ok => h ⟨fun e => ?_, fun e => ?_⟩
          · have := ok.last
            simp only [HL.out, Nat.add_sub_cancel, ← hl] at this
            exact this e
          · have := ok.wrap
            simp only [HL.out, Nat.add_sub_cancel, ← hl, Int.toNat_natCast] at this
            exact this e
        have HY := Lib.hid hok; have HN := Lib.hid hno
        clear hok hno hmono hz hokv hl
        by_cases hli : l = 4611686018427387904
        · have b1 : (l == 4611686018427387904) = true := by simpa using hli
          by_cases hp1 : (p : Int) = 1
          · have b3 : ((p : Int) == 1) = true := by simpa using hp1
            by_cases hi0 : i = 0
            · have F := Lib.hid (HY.out ⟨fun _ => ⟨hp1, hi0⟩, fun h => absurd hli h⟩)
              have b2 : (i == 0) = true := by simpa using hi0
              clear hli hp1 hi0 HY HN hlv
              go_wp2_with fail
              go_ret
              exact ⟨ret_bool F.out.symm, BW.out⟩
            · have F := Lib.hid (HN.out (fun h => hi0 (h.1 hli).2))
              have b2 : (i == 0) = false := by simpa using hi0
              clear hli hp1 hi0 HY HN hlv
              go_wp2_with fail
              go_ret
              exact ⟨ret_bool F.out.symm, BW.out⟩
          · have F := Lib.hid (HN.out (fun h => hp1 (h.1 hli).1))
            have b3 : ((p : Int) == 1) = false := by simpa using hp1
            clear hli hp1 HY HN hlv
            go_wp2_with fail
            go_ret
            exact ⟨ret_bool F.out.symm, BW.out⟩
        · have b1 : (l == 4611686018427387904) = false := by simpa using hli
          have hlm : 0 ≤ l ∧ l ≤ 1073741824 := hlv.elim (fun h => absurd h hli) id
          obtain ⟨j, hj⟩ : ∃ j, m + 1 = j + p := ⟨m + 1 - p, by omega⟩
          have hcj := HCX.out j (by omega)
          have hyv := (HOK.out j (by omega)).1
          obtain ⟨y, hy⟩ : ∃ y, y = nth zs j := ⟨_, rfl⟩
          rw [show m + 1 - p = j by omega, ← hy] at HY HN
          rw [← hy] at hcj hyv
          have hyb : 0 ≤ y ∧ y ≤ 4611686018427387904 := by unfold inf at hyv; omega
          have HYY := Lib.hid hy
          have e1 : IntKind.i64.wrap ((m : Int) + 1 - p) = (j : Int) := by rw [IntWalk.i64_in _ (by omega)]; omega
          have e2 : IntKind.i64.wrap (y + i) = y + i := IntWalk.i64_in _ (by omega)
          have e3 : IntKind.i64.wrap (m : Int) = (m : Int) := IntWalk.i64_in _ (by omega)
          have e4 : (m : Int) + 1 - 1 = (m : Int) := by omega
          have e5 : IntKind.i64.wrap ((m : Int) + 1 - 1) = (m : Int) := by rw [e4]; exact e3
          have hj1 : 0 ≤ (j : Int) := by omega
          have hj2 : (j : Int) < (m : Int) + 1 := by omega
          have hj3 : j < m + 1 := by omega
          have hm3 : (m : Int) < (m : Int) + 1 := by omega
          by_cases hle : l ≤ y + i
          · have F := Lib.hid (HY.out ⟨fun h => absurd h hli, fun _ => hle⟩)
            have hd : decide (l ≤ y + i) = true := by simpa using hle
            clear hy hj HOK hli HY HN hyv hlv
            go_wp2_with fail
            go_quiet (fail)
            go_wp2
            go_ret
            exact ⟨ret_bool F.out.symm, bdrewN BW.out⟩
          · have F := Lib.hid (HN.out (fun h => hle (h.2 hli)))
            have hd : decide (l ≤ y + i) = false := by simpa using hle
            clear hy hj HOK hli HY HN hyv hlv
            go_wp2_with fail
            go_quiet (fail)
            go_wp2
            go_ret
            exact ⟨ret_bool F.out.symm, bdrewN BW.out⟩
  · refine (refValid_head A n c p i w hn hd).mono ?_
    rintro e w' ⟨rfl, hb⟩
    refine ⟨ret_bool (Cv.okB_false fun ok => hd ?_).symm, hb⟩
    have := ok.n1; have := ok.n2; have := ok.p1; have := ok.p2; have := ok.pn; have := ok.i1; have := ok.i2
    simp only [hl] at *
    exact ⟨by omega, by omega, by omega, by omega, by omega, by omega, by omega⟩
end Go.Proofs.Ythdibkmjoiipgaa
