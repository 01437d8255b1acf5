/- The functions of package curve, and of package slices that they call: what each returns. -/
import Derived.Test.YtmieikfmbnaoaaaBuild2
namespace Go.Proofs.Ytmieikfmbnaoaaa
open Go.RowKit
set_option linter.unusedVariables false

/-- the value before the k-th, 0 before the first -/
def prev (zs : List Int) (k : Nat) : Int := if k = 0 then 0 else nth zs (k - 1)

def Head (n p i : Int) : Prop := 1 ≤ n ∧ n ≤ 400 ∧ 1 ≤ p ∧ p ≤ 120 ∧ p ≤ n ∧ 0 ≤ i ∧ i ≤ 1073741824

theorem ret_bool {a b : Bool} (h : a = b) : Ending.returned (.bool a) = .returned (.bool b) := by rw [h]

set_option maxRecDepth 100000 in
set_option maxHeartbeats 4000000 in
theorem valid_head (A : Option Addr) (n c : Nat) (p i : Int) (w : World) (hn : (n : Int) ≤ 1000000) (h : ¬ Head n p i) :
    Calls Try.prog 102 #[.agg #[.slice A n c, .int .i64 p, .int .i64 i]] w fun e w' => e = .returned (.bool false) ∧ Below w.heap.size w w' := by
  have hh : n < 1 ∨ (1 ≤ n ∧ 400 < n) ∨ (1 ≤ n ∧ n ≤ 400 ∧ p < 1) ∨ (1 ≤ n ∧ n ≤ 400 ∧ 1 ≤ p ∧ 120 < p) ∨ (1 ≤ n ∧ n ≤ 400 ∧ 1 ≤ p ∧ p ≤ 120 ∧ (n : Int) < p) ∨ (1 ≤ n ∧ n ≤ 400 ∧ 1 ≤ p ∧ p ≤ 120 ∧ p ≤ n ∧ i < 0) ∨
      (1 ≤ n ∧ n ≤ 400 ∧ 1 ≤ p ∧ p ≤ 120 ∧ p ≤ n ∧ 0 ≤ i ∧ 1073741824 < i) := by unfold Head at h; omega
  clear h
  rcases hh with h1 | ⟨h1, h2⟩ | ⟨h1, h2, h3⟩ | ⟨h1, h2, h3, h4⟩ | ⟨h1, h2, h3, h4, h5⟩ | ⟨h1, h2, h3, h4, h5, h6⟩ | ⟨h1, h2, h3, h4, h5, h6, h7⟩
  all_goals
    go_enter Try.func102, Try.ntmps102
    go_wp2
    go_ret
    exact ⟨rfl, (Below.refl _ _).alloc (Nat.le_refl _) _⟩

set_option maxRecDepth 100000 in
set_option maxHeartbeats 4000000 in
theorem valid_any (A : Option Addr) (n c : Nat) (p i : Int) (zs : List Int) (w : World) (hA : Ints w w.heap.size A n zs) (hn : (n : Int) ≤ 1000000) :
    Calls Try.prog 102 #[.agg #[.slice A n c, .int .i64 p, .int .i64 i]] w fun e w' => e = .returned (.bool (Cv.okB ⟨zs, p, i⟩)) ∧ Below w.heap.size w w' := by
  have hl := hA.1
  by_cases hd : Head n p i
  · obtain ⟨h1, h2, h3, h4, h5, h6, h7⟩ := hd
    obtain ⟨p, rfl⟩ := Int.eq_ofNat_of_zero_le (show 0 ≤ p by omega)
    obtain ⟨b, off, rfl, hb, hc⟩ := hA.2 (by omega)
    have HC := Lib.hid hc; clear hc hA
    have HL := Lib.hid hl; clear hl
    have d1 : decide ((n : Int) < 1) = false := by simp; omega
    have d2 : decide (400 < (n : Int)) = false := by simp; omega
    have d3 : decide ((p : Int) < 1) = false := by simp; omega
    have d4 : decide (120 < (p : Int)) = false := by simp; omega
    have d5 : decide (i < 0) = false := by simp; omega
    have d6 : decide (1073741824 < i) = false := by simp; omega
    have d7 : decide (n < p) = false := by simp; omega
    go_enter Try.func102, Try.ntmps102
    go_wp2
    clear d1 d2 d3 d4 d5 d6 d7
    go_loopg [4, 45] n (fun g l t wx => ∃ k : Nat, k + g = n ∧ t = .int .i64 k ∧ l = .int .i64 (prev zs k) ∧ Hid (∀ j, j < k → prev zs j ≤ nth zs j ∧ okv (nth zs j) = true) ∧
      wx = w.alloc (.cells #[.slice (some ⟨b, off, none⟩) n c, .int .i64 p, .int .i64 i] 41))
    case atStart => exact ⟨0, by omega, rfl, rfl, (fun j hj => by omega), rfl⟩
    case round =>
      obtain ⟨k, hkg, rfl, rfl, hok, rfl⟩ := hrel
      have HOK := Lib.hid hok; clear hok
      by_cases hlt : k < n
      · have hck := HC.out k hlt
        obtain ⟨x, hx⟩ : ∃ x, x = nth zs k := ⟨_, rfl⟩
        obtain ⟨l, hl⟩ : ∃ l, l = prev zs k := ⟨_, rfl⟩
        rw [← hx] at hck
        rw [← hl]
        have HX := Lib.hid hx; clear hx
        have HPL := Lib.hid hl; clear hl
        have hyes : l ≤ x → okv x = true → Hid (∀ j, j < k + 1 → prev zs j ≤ nth zs j ∧ okv (nth zs j) = true) := by
          intro h1 h2 j hj
          by_cases e : j = k
          · subst e; rw [← HX.out, ← HPL.out]; exact ⟨h1, h2⟩
          · exact HOK.out.out j (by omega)
        have hnop : ¬ (l ≤ x ∧ okv x = true) → Cv.okB ⟨zs, p, i⟩ = false := by
          intro hno
          refine Cv.okB_false fun ok => hno ⟨?_, ?_⟩
          · rw [HPL.out, HX.out]
            unfold prev
            split
            · rename_i h0; subst h0; exact ok.z
            · have := ok.mono (k - 1) (by show _ < zs.length; rw [HL.out]; omega)
              rw [show k - 1 + 1 = k by omega] at this
              exact this
          · rw [HX.out]; exact ok.v k (by show _ < zs.length; rw [HL.out]; exact hlt)
        have HY := Lib.hid hyes; clear hyes
        have HN := Lib.hid hnop; clear hnop
        have cases : x < l ∨ (l ≤ x ∧ 1073741824 < x ∧ x ≠ 4611686018427387904) ∨ (l ≤ x ∧ x ≤ 1073741824) ∨ (l ≤ x ∧ 1073741824 < x ∧ x = 4611686018427387904) := by omega
        rcases cases with h | ⟨h, hb1, hb2⟩ | ⟨h, hb1⟩ | ⟨h, hb1, hb2⟩
        · have F := Lib.hid (HN.out (by omega)); clear HN HY
          go_wp2
          go_ret
          exact ⟨ret_bool F.out.symm, (Below.refl _ _).alloc (Nat.le_refl _) _⟩
        · have F := Lib.hid (HN.out (fun h => by have := (okv_iff x).1 h.2; unfold inf at this; omega)); clear HN HY
          have hb3 : (x != 4611686018427387904) = true := by simpa using hb2
          clear hb2
          go_wp2
          go_ret
          exact ⟨ret_bool F.out.symm, (Below.refl _ _).alloc (Nat.le_refl _) _⟩
        · have F := Lib.hid (HY.out h ((okv_iff x).2 (.inr hb1))); clear HN HY
          go_wp2
          go_roundg (gk - 1)
          case measure => omega
          case rel => exact ⟨k + 1, by omega, by go_num, by unfold prev; rw [if_neg (by omega), Nat.add_sub_cancel, ← HX.out], F.out, rfl⟩
        · have F := Lib.hid (HY.out h ((okv_iff x).2 (.inl hb2))); clear HN HY
          have hb3 : (x != 4611686018427387904) = false := by simpa using hb2
          clear hb2
          go_wp2
          go_roundg (gk - 1)
          case measure => omega
          case rel => exact ⟨k + 1, by omega, by go_num, by unfold prev; rw [if_neg (by omega), Nat.add_sub_cancel, ← HX.out], F.out, rfl⟩
      · have hkn : k = n := by omega
        clear hlt hkg
        subst hkn
        have hmono : ∀ j, j + 1 < zs.length → nth zs j ≤ nth zs (j + 1) := by
          intro j hj
          have := (HOK.out.out (j + 1) (by rw [← HL.out]; exact hj)).1
          unfold prev at this
          rwa [if_neg (by omega), Nat.add_sub_cancel] at this
        have hz : 0 ≤ nth zs 0 := by
          have := (HOK.out.out 0 (by omega)).1
          unfold prev at this
          rwa [if_pos rfl] at this
        obtain ⟨l, hl⟩ : ∃ l, l = prev zs k := ⟨_, rfl⟩
        have hl' : l = nth zs (k - 1) := by rw [hl]; unfold prev; rw [if_neg (by omega)]
        have hlv := HOK.out.out (k - 1) (by omega)
        rw [← hl'] at hlv
        rw [← hl]
        clear hl
        have hok : ((l = inf → (p : Int) = 1 ∧ i = 0) ∧ (l ≠ inf → l ≤ nth zs (k - p) + i)) → Cv.okB ⟨zs, p, i⟩ = true := by
          intro h
          refine Cv.okB_true ⟨?_, ?_, h3, h4, ?_, h6, h7, ?_, hz, hmono, ?_, ?_⟩
          · show 1 ≤ zs.length; rw [HL.out]; omega
          · show zs.length ≤ 400; rw [HL.out]; omega
          · show (p : Int) ≤ zs.length; rw [HL.out]; omega
          · intro j hj; exact (HOK.out.out j (by rw [← HL.out]; exact hj)).2
          · show nth zs (zs.length - 1) = inf → _; rw [HL.out, ← hl']; exact h.1
          · show nth zs (zs.length - 1) ≠ inf → nth zs (zs.length - 1) ≤ nth zs (zs.length - (p : Int).toNat) + i
            rw [HL.out, ← hl', Int.toNat_natCast]; exact h.2
        have hno : ¬ ((l = inf → (p : Int) = 1 ∧ i = 0) ∧ (l ≠ inf → l ≤ nth zs (k - p) + i)) → Cv.okB ⟨zs, p, i⟩ = false := by
          intro h
          refine Cv.okB_false fun ok => h ⟨fun e => ?_, fun e => ?_⟩
          · have := ok.last
            simp only [HL.out, ← hl'] at this
            exact this e
          · have := ok.wrap
            simp only [HL.out, ← hl', Int.toNat_natCast] at this
            exact this e
        have HY := Lib.hid hok; clear hok
        have HN := Lib.hid hno; clear hno
        by_cases hli : l = 4611686018427387904
        · clear hmono hz hl' hlv
          by_cases hp1 : (p : Int) = 1
          · by_cases hi0 : i = 0
            · have F := Lib.hid (HY.out ⟨fun _ => ⟨hp1, hi0⟩, fun h => absurd hli h⟩); clear HY HN
              have b1 : (l == 4611686018427387904) = true := by simpa using hli
              have b2 : (i == 0) = true := by simpa using hi0
              have b3 : ((p : Int) == 1) = true := by simpa using hp1
              clear hli hp1 hi0
              go_wp2
              go_ret
              exact ⟨ret_bool F.out.symm, (Below.refl _ _).alloc (Nat.le_refl _) _⟩
            · have F := Lib.hid (HN.out (fun h => hi0 (h.1 hli).2)); clear HY HN
              have b1 : (l == 4611686018427387904) = true := by simpa using hli
              have b2 : (i == 0) = false := by simpa using hi0
              have b3 : ((p : Int) == 1) = true := by simpa using hp1
              clear hli hp1 hi0
              go_wp2
              go_ret
              exact ⟨ret_bool F.out.symm, (Below.refl _ _).alloc (Nat.le_refl _) _⟩
          · have F := Lib.hid (HN.out (fun h => hp1 (h.1 hli).1)); clear HY HN
            have b1 : (l == 4611686018427387904) = true := by simpa using hli
            have b3 : ((p : Int) == 1) = false := by simpa using hp1
            clear hli hp1
            go_wp2
            go_ret
            exact ⟨ret_bool F.out.symm, (Below.refl _ _).alloc (Nat.le_refl _) _⟩
        · have b1 : (l == 4611686018427387904) = false := by simpa using hli
          have hmon : ∀ a b, a ≤ b → b < zs.length → nth zs a ≤ nth zs b := by
            intro a b hab hb
            induction b with
            | zero => rw [show a = 0 by omega]; exact Int.le_refl _
            | succ b ih =>
              by_cases e : a = b + 1
              · rw [e]; exact Int.le_refl _
              · exact Int.le_trans (ih (by omega) (by omega)) (hmono b hb)
          obtain ⟨j, hj⟩ : ∃ j, k = j + p := ⟨k - p, by omega⟩
          have hcj := HC.out j (by omega)
          have hv1 := hmon j (k - 1) (by omega) (by rw [HL.out]; omega)
          have hv0 := hmon 0 j (by omega) (by rw [HL.out]; omega)
          have hlm : l ≤ 1073741824 := by rcases (okv_iff l).1 hlv.2 with h | h; exact absurd h hli; exact h
          rw [← hl'] at hv1
          obtain ⟨y, hy⟩ : ∃ y, y = nth zs j := ⟨_, rfl⟩
          rw [show k - p = j by omega, ← hy] at HY HN
          rw [← hy] at hcj hv1 hv0
          have HYY := Lib.hid hy; clear hy
          have e1 : IntKind.i64.wrap ((k : Int) - p) = (j : Int) := by rw [IntWalk.i64_in _ (by omega)]; omega
          have e2 : IntKind.i64.wrap (y + i) = y + i := IntWalk.i64_in _ (by omega)
          have hj1 : 0 ≤ (j : Int) := by omega
          have hj2 : (j : Int) < k := by omega
          have hj3 : j < k := by omega
          have HJ := Lib.hid hj; clear hj hmono hz hl' hlv hmon hv0 hv1 hli
          by_cases hle : l ≤ y + i
          · have F := Lib.hid (HY.out ⟨fun h => absurd h (beq_eq_false_iff_ne.1 b1), fun _ => hle⟩); clear HY HN
            have hd : decide (l ≤ y + i) = true := by simpa using hle
            go_wp2_with fail
            go_quiet (fail)
            go_wp2
            go_ret
            exact ⟨ret_bool F.out.symm, bdrewN ((Below.refl _ _).alloc (Nat.le_refl _) _)⟩
          · have F := Lib.hid (HN.out (fun h => hle (h.2 (beq_eq_false_iff_ne.1 b1)))); clear HY HN
            have hd : decide (l ≤ y + i) = false := by simpa using hle
            go_wp2_with fail
            go_quiet (fail)
            go_wp2
            go_ret
            exact ⟨ret_bool F.out.symm, bdrewN ((Below.refl _ _).alloc (Nat.le_refl _) _)⟩
  · refine (valid_head A n c p i w hn hd).mono ?_
    rintro e w' ⟨rfl, hb⟩
    refine ⟨ret_bool (Cv.okB_false fun ok => hd ?_).symm, hb⟩
    have := ok.n1; have := ok.n2; have := ok.p1; have := ok.p2; have := ok.pn; have := ok.i1; have := ok.i2
    simp only [hl] at *
    exact ⟨by omega, by omega, by omega, by omega, by omega, by omega, by omega⟩
end Go.Proofs.Ytmieikfmbnaoaaa
