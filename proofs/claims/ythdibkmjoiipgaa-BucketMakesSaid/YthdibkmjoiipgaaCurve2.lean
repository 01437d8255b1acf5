/- The functions of package curve, and of package slices that they call: what each returns. -/
import Derived.Test.YthdibkmjoiipgaaBuild2
import Derived.Deep.RegionHeld3
namespace Go.Proofs.Ythdibkmjoiipgaa
open Go.RowKit
set_option linter.unusedVariables false

/-- the value before the k-th, 0 before the first -/
def prev (zs : List Int) (k : Nat) : Int := if k = 0 then 0 else nth zs (k - 1)

def Head (n p i : Int) : Prop := 1 ≤ n ∧ n ≤ 400 ∧ 1 ≤ p ∧ p ≤ 120 ∧ p ≤ n ∧ 0 ≤ i ∧ i ≤ 1073741824

theorem ret_bool {a b : Bool} (h : a = b) : Ending.returned (.bool a) = .returned (.bool b) := by rw [h]

set_option maxRecDepth 100000 in
set_option maxHeartbeats 4000000 in
theorem valid_head (A : Option Addr) (n c : Nat) (p i : Int) (w : World) (hn : (n : Int) ≤ 1000000) (h : ¬ Head n p i) :
    Calls Try.prog 107 #[.agg #[.slice A n c, .int .i64 p, .int .i64 i]] w fun e w' => e = .returned (.bool false) ∧ Below w.heap.size w w' := by
  have hh : n < 1 ∨ (1 ≤ n ∧ 400 < n) ∨ (1 ≤ n ∧ n ≤ 400 ∧ p < 1) ∨ (1 ≤ n ∧ n ≤ 400 ∧ 1 ≤ p ∧ 120 < p) ∨ (1 ≤ n ∧ n ≤ 400 ∧ 1 ≤ p ∧ p ≤ 120 ∧ (n : Int) < p) ∨ (1 ≤ n ∧ n ≤ 400 ∧ 1 ≤ p ∧ p ≤ 120 ∧ p ≤ n ∧ i < 0) ∨
      (1 ≤ n ∧ n ≤ 400 ∧ 1 ≤ p ∧ p ≤ 120 ∧ p ≤ n ∧ 0 ≤ i ∧ 1073741824 < i) := by unfold Head at h; omega
  clear h
  rcases hh with h1 | ⟨h1, h2⟩ | ⟨h1, h2, h3⟩ | ⟨h1, h2, h3, h4⟩ | ⟨h1, h2, h3, h4, h5⟩ | ⟨h1, h2, h3, h4, h5, h6⟩ | ⟨h1, h2, h3, h4, h5, h6, h7⟩
  all_goals
    go_enter Try.func107, Try.ntmps107
    go_wp2
    go_ret
    exact ⟨rfl, (Below.refl _ _).alloc (Nat.le_refl _) _⟩

set_option maxRecDepth 100000 in
set_option maxHeartbeats 4000000 in
theorem valid_any (A : Option Addr) (n c : Nat) (p i : Int) (zs : List Int) (w : World) (hA : Ints w w.heap.size A n zs) (hn : (n : Int) ≤ 1000000) :
    Calls Try.prog 107 #[.agg #[.slice A n c, .int .i64 p, .int .i64 i]] w fun e w' => e = .returned (.bool (Cv.okB ⟨zs, p, i⟩)) ∧ Below w.heap.size w w' := by
  have hl := hA.1
  by_cases hd : Head n p i
  · obtain ⟨h1, h2, h3, h4, h5, h6, h7⟩ := hd
    obtain ⟨p, rfl⟩ := Int.eq_ofNat_of_zero_le (show 0 ≤ p by omega)
    obtain ⟨b, off, rfl, hb, hc⟩ := hA.2 (by omega)
    have HC := Lib.hid hc; clear hc hA
    have HL := Lib.hid hl; clear hl
    have d1 : decide ((n : Int) < 1) = false := by simp; omega
    have d2 : decide (400 < (n : Int)) = false := by simp; omega
    have d3 : decide ((p : Int) < 1) = false := by simp; omega
    have d4 : decide (120 < (p : Int)) = false := by simp; omega
    have d5 : decide (i < 0) = false := by simp; omega
    have d6 : decide (1073741824 < i) = false := by simp; omega
    have d7 : decide (n < p) = false := by simp; omega
    go_enter Try.func107, Try.ntmps107
    go_wp2
    clear d1 d2 d3 d4 d5 d6 d7
    go_loopg [4, 45] n (fun g l t wx => ∃ k : Nat, k + g = n ∧ t = .int .i64 k ∧ l = .int .i64 (prev zs k) ∧ Hid (∀ j, j < k → prev zs j ≤ nth zs j ∧ okv (nth zs j) = true) ∧
      wx = w.alloc (.cells #[.slice (some ⟨b, off, none⟩) n c, .int .i64 p, .int .i64 i] 46))
    case atStart => exact ⟨0, by omega, rfl, rfl, (fun j hj => by omega), rfl⟩
    case round =>
      obtain ⟨k, hkg, rfl, rfl, hok, rfl⟩ := hrel
      have HOK := Lib.hid hok; clear hok
      by_cases hlt : k < n
      · have hck := HC.out k hlt
        obtain ⟨x, hx⟩ : ∃ x, x = nth zs k := ⟨_, rfl⟩
        obtain ⟨l, hl⟩ : ∃ l, l = prev zs k := ⟨_, rfl⟩
        rw [← hx] at hck
        rw [← hl]
        have HX := Lib.hid hx; clear hx
        have HPL := Lib.hid hl; clear hl
        have hyes : l ≤ x → okv x = true → Hid (∀ j, j < k + 1 → prev zs j ≤ nth zs j ∧ okv (nth zs j) = true) := by
          intro h1 h2 j hj
          by_cases e : j = k
          · subst e; rw [← HX.out, ← HPL.out]; exact ⟨h1, h2⟩
          · exact HOK.out.out j (by omega)
        have hnop : ¬ (l ≤ x ∧ okv x = true) → Cv.okB ⟨zs, p, i⟩ = false := by
          intro hno
          refine Cv.okB_false fun ok => hno ⟨?_, ?_⟩
          · rw [HPL.out, HX.out]
            unfold prev
            split
            · rename_i h0; subst h0; exact ok.z
            · have := ok.mono (k - 1) (by show _ < zs.length; rw [HL.out]; omega)
              rw [show k - 1 + 1 = k by omega] at this
              exact this
          · rw [HX.out]; exact ok.v k (by show _ < zs.length; rw [HL.out]; exact hlt)
        have HY := Lib.hid hyes; clear hyes
        have HN := Lib.hid hnop; clear hnop
        have cases : x < l ∨ (l ≤ x ∧ 1073741824 < x ∧ x ≠ 4611686018427387904) ∨ (l ≤ x ∧ x ≤ 1073741824) ∨ (l ≤ x ∧ 1073741824 < x ∧ x = 4611686018427387904) := by omega
        rcases cases with h | ⟨h, hb1, hb2⟩ | ⟨h, hb1⟩ | ⟨h, hb1, hb2⟩
        · have F := Lib.hid (HN.out (by omega)); clear HN HY
          go_wp2
          go_ret
          exact ⟨ret_bool F.out.symm, (Below.refl _ _).alloc (Nat.le_refl _) _⟩
        · have F := Lib.hid (HN.out (fun h => by have := (okv_iff x).1 h.2; unfold inf at this; omega)); clear HN HY
          have hb3 : (x != 4611686018427387904) = true := by simpa using hb2
          clear hb2
          go_wp2
          go_ret
          exact ⟨ret_bool F.out.symm, (Below.refl _ _).alloc (Nat.le_refl _) _⟩
        · have F := Lib.hid (HY.out h ((okv_iff x).2 (.inr hb1))); clear HN HY
          go_wp2
          go_roundg (gk - 1)
          case measure => omega
          case rel => exact ⟨k + 1, by omega, by go_num, by unfold prev; rw [if_neg (by omega), Nat.add_sub_cancel, ← HX.out], F.out, rfl⟩
        · have F := Lib.hid (HY.out h ((okv_iff x).2 (.inl hb2))); clear HN HY
          have hb3 : (x != 4611686018427387904) = false := by simpa using hb2
          clear hb2
          go_wp2
          go_roundg (gk - 1)
          case measure => omega
          case rel => exact ⟨k + 1, by omega, by go_num, by unfold prev; rw [if_neg (by omega), Nat.add_sub_cancel, ← HX.out], F.out, rfl⟩
      · have hkn : k = n := by omega
        clear hlt hkg
        subst hkn
        have hmono : ∀ j, j + 1 < zs.length → nth zs j ≤ nth zs (j + 1) := by
          intro j hj
          have := (HOK.out.out (j + 1) (by rw [← HL.out]; exact hj)).1
          unfold prev at this
          rwa [if_neg (by omega), Nat.add_sub_cancel] at this
        have hz : 0 ≤ nth zs 0 := by
          have := (HOK.out.out 0 (by omega)).1
          unfold prev at this
          rwa [if_pos rfl] at this
        obtain ⟨l, hl⟩ : ∃ l, l = prev zs k := ⟨_, rfl⟩
        have hl' : l = nth zs (k - 1) := by rw [hl]; unfold prev; rw [if_neg (by omega)]
        have hlv := HOK.out.out (k - 1) (by omega)
        rw [← hl'] at hlv
        rw [← hl]
        clear hl
        have hok : ((l = inf → (p : Int) = 1 ∧ i = 0) ∧ (l ≠ inf → l ≤ nth zs (k - p) + i)) → Cv.okB ⟨zs, p, i⟩ = true := by
          intro h
          refine Cv.okB_true ⟨?_, ?_, h3, h4, ?_, h6, h7, ?_, hz, hmono, ?_, ?_⟩
          · show 1 ≤ zs.length; rw [HL.out]; omega
          · show zs.length ≤ 400; rw [HL.out]; omega
          · show (p : Int) ≤ zs.length; rw [HL.out]; omega
          · intro j hj; exact (HOK.out.out j (by rw [← HL.out]; exact hj)).2
          · show nth zs (zs.length - 1) = inf → _; rw [HL.out, ← hl']; exact h.1
          · show nth zs (zs.length - 1) ≠ inf → nth zs (zs.length - 1) ≤ nth zs (zs.length - (p : Int).toNat) + i
            rw [HL.out, ← hl', Int.toNat_natCast]; exact h.2
        have hno : ¬ ((l = inf → (p : Int) = 1 ∧ i = 0) ∧ (l ≠ inf → l ≤ nth zs (k - p) + i)) → Cv.okB ⟨zs, p, i⟩ = false := by
          intro h
          refine Cv.okB_false fun ok => h ⟨fun e => ?_, fun e => ?_⟩
          · have := ok.last
            simp only [HL.out, ← hl'] at this
            exact this e
          · have := ok.wrap
            simp only [HL.out, ← hl', Int.toNat_natCast] at this
            exact this e
        have HY := Lib.hid hok; clear hok
        have HN := Lib.hid hno; clear hno
        by_cases hli : l = 4611686018427387904
        · clear hmono hz hl' hlv
          by_cases hp1 : (p : Int) = 1
          · by_cases hi0 : i = 0
            · have F := Lib.hid (HY.out ⟨fun _ => ⟨hp1, hi0⟩, fun h => absurd hli h⟩); clear HY HN
              have b1 : (l == 4611686018427387904) = true := by simpa using hli
              have b2 : (i == 0) = true := by simpa using hi0
              have b3 : ((p : Int) == 1) = true := by simpa using hp1
              clear hli hp1 hi0
              go_wp2
              go_ret
              exact ⟨ret_bool F.out.symm, (Below.refl _ _).alloc (Nat.le_refl _) _⟩
            · have F := Lib.hid (HN.out (fun h => hi0 (h.1 hli).2)); clear HY HN
              have b1 : (l == 4611686018427387904) = true := by simpa using hli
              have b2 : (i == 0) = false := by simpa using hi0
              have b3 : ((p : Int) == 1) = true := by simpa using hp1
              clear hli hp1 hi0
              go_wp2
              go_ret
              exact ⟨ret_bool F.out.symm, (Below.refl _ _).alloc (Nat.le_refl _) _⟩
          · have F := Lib.hid (HN.out (fun h => hp1 (h.1 hli).1)); clear HY HN
            have b1 : (l == 4611686018427387904) = true := by simpa using hli
            have b3 : ((p : Int) == 1) = false := by simpa using hp1
            clear hli hp1
            go_wp2
            go_ret
            exact ⟨ret_bool F.out.symm, (Below.refl _ _).alloc (Nat.le_refl _) _⟩
        · have b1 : (l == 4611686018427387904) = false := by simpa using hli
          have hmon : ∀ a b, a ≤ b → b < zs.length → nth zs a ≤ nth zs b := by
            intro a b hab hb
            induction b with
            | zero => rw [show a = 0 by omega]; exact Int.le_refl _
            | succ b ih =>
              by_cases e : a = b + 1
              · rw [e]; exact Int.le_refl _
              · exact Int.le_trans (ih (by omega) (by omega)) (hmono b hb)
          obtain ⟨j, hj⟩ : ∃ j, k = j + p := ⟨k - p, by omega⟩
          have hcj := HC.out j (by omega)
          have hv1 := hmon j (k - 1) (by omega) (by rw [HL.out]; omega)
          have hv0 := hmon 0 j (by omega) (by rw [HL.out]; omega)
          have hlm : l ≤ 1073741824 := by rcases (okv_iff l).1 hlv.2 with h | h; exact absurd h hli; exact h
          rw [← hl'] at hv1
          obtain ⟨y, hy⟩ : ∃ y, y = nth zs j := ⟨_, rfl⟩
          rw [show k - p = j by omega, ← hy] at HY HN
          rw [← hy] at hcj hv1 hv0
          have HYY := Lib.hid hy; clear hy
          have e1 : IntKind.i64.wrap ((k : Int) - p) = (j : Int) := by rw [IntWalk.i64_in _ (by omega)]; omega
          have e2 : IntKind.i64.wrap (y + i) = y + i := IntWalk.i64_in _ (by omega)
          have hj1 : 0 ≤ (j : Int) := by omega
          have hj2 : (j : Int) < k := by omega
          have hj3 : j < k := by omega
          have HJ := Lib.hid hj; clear hj hmono hz hl' hlv hmon hv0 hv1 hli
          by_cases hle : l ≤ y + i
          · have F := Lib.hid (HY.out ⟨fun h => absurd h (beq_eq_false_iff_ne.1 b1), fun _ => hle⟩); clear HY HN
            have hd : decide (l ≤ y + i) = true := by simpa using hle
            go_wp2_with fail
            go_quiet (fail)
            go_wp2
            go_ret
            exact ⟨ret_bool F.out.symm, bdrewN ((Below.refl _ _).alloc (Nat.le_refl _) _)⟩
          · have F := Lib.hid (HN.out (fun h => hle (h.2 (beq_eq_false_iff_ne.1 b1)))); clear HY HN
            have hd : decide (l ≤ y + i) = false := by simpa using hle
            go_wp2_with fail
            go_quiet (fail)
            go_wp2
            go_ret
            exact ⟨ret_bool F.out.symm, bdrewN ((Below.refl _ _).alloc (Nat.le_refl _) _)⟩
  · refine (valid_head A n c p i w hn hd).mono ?_
    rintro e w' ⟨rfl, hb⟩
    refine ⟨ret_bool (Cv.okB_false fun ok => hd ?_).symm, hb⟩
    have := ok.n1; have := ok.n2; have := ok.p1; have := ok.p2; have := ok.pn; have := ok.i1; have := ok.i2
    simp only [hl] at *
    exact ⟨by omega, by omega, by omega, by omega, by omega, by omega, by omega⟩
end Go.Proofs.Ythdibkmjoiipgaa
namespace Go.Proofs.Ythdibkmjoiipgaa
open Go.RowKit
set_option linter.unusedVariables false

theorem ret_ints {k l : IntKind} {a b c d : Int} (h : a = b) (h2 : c = d) : Ending.returned (.tuple #[.int k a, .int l c]) = .returned (.tuple #[.int k b, .int l d]) := by rw [h, h2]

theorem retC_store3' {f : Cv} {er : Int} {w w1 : World} {B g0 : Nat} {A : Option Addr} {n c : Nat} {x y z : Value} (hf : ∀ b off s, A = some ⟨b, off, s⟩ → B ≤ b) (h0 : w.heap.size ≤ g0) (hB : g0 < B) (hI : Ints w1 w1.heap.size A n f.vals) (bw : Below w.heap.size w w1) :
    RetC f er w (.returned (.tuple #[.agg #[.slice A n c, .int .i64 f.per, .int .i64 f.inc], .int .i64 er])) (((w1.setCell ⟨g0, 0, none⟩ x).setCell ⟨g0, 1, none⟩ y).setCell ⟨g0, 2, none⟩ z) :=
  ⟨A, n, c, rfl, by
    simpa using (((hI.setCell (fun b off s h => by have := hf b off s h; simp; omega) _).setCell (fun b off s h => by have := hf b off s h; simp; omega) _).setCell (fun b off s h => by have := hf b off s h; simp; omega) _),
    (fun b off s h => by have := hf b off s h; omega), ((bw.setCell (by simpa using h0) _).setCell (by simpa using h0) _).setCell (by simpa using h0) _⟩

set_option maxHeartbeats 1000000 in
theorem value_any (A : Option Addr) (n c : Nat) (p i t : Int) (zs : List Int) (w : World) (hA : Ints w w.heap.size A n zs) (hn : (n : Int) ≤ 1000000) :
    Calls Try.prog 51 #[.agg #[.slice A n c, .int .i64 p, .int .i64 i], .int .i64 t] w fun e w' => e = .returned (.tuple #[.int .i64 (Cv.value ⟨zs, p, i⟩ t).1, .int .i64 (Cv.value ⟨zs, p, i⟩ t).2]) ∧ Below w.heap.size w w' := by
  have hl := hA.1
  by_cases ok : Cv.okB ⟨zs, p, i⟩ = true
  · have hok := Cv.okB_iff.1 ok
    by_cases ht : t < 0 ∨ 1048576 < t
    · have fin : Cv.value ⟨zs, p, i⟩ t = (0, 2) := by unfold Cv.value; rw [if_pos ok, if_pos ht]
      rw [fin]
      clear fin hok
      rcases ht with ht | ht
      all_goals
        go_enter Try.func51, Try.ntmps51
        go_wp2_with fail
        refine (valid_any A n c p i zs _ (hA.alloc' _) hn).mono ?_
        rintro e w1 ⟨rfl, hb⟩
        rw [ok]
        obtain ⟨hc, hf⟩ := bcell hb
        go_wp2_with fail
        go_ret2
        exact ⟨rfl, bthen (balloc _ _) hb⟩
    · have fin : Cv.value ⟨zs, p, i⟩ t = (Cv.at ⟨zs, p, i⟩ t.toNat, 0) := by unfold Cv.value; rw [if_pos ok, if_neg ht]
      rw [fin]
      have h0 : 0 ≤ t := by omega
      have h1 : t ≤ 1048576 := by omega
      clear fin ht
      have hn4 := hok.n2
      have hp1 := hok.p1; have hpn := hok.pn; have hi1 := hok.i1; have hi2 := hok.i2
      have HNN := Lib.hid hok.nn
      simp only [hl] at hn4 hpn hp1 hi1 hi2
      clear hok
      have HL := Lib.hid hl; clear hl
      go_enter Try.func51, Try.ntmps51
      go_wp2_with fail
      refine (valid_any A n c p i zs _ (hA.alloc' _) hn).mono ?_
      rintro e w1 ⟨rfl, hb⟩
      rw [ok]
      obtain ⟨hc, hf⟩ := bcell hb
      go_wp2_with fail
      refine (at_any A n c p i t zs _ ((hA.alloc' _).ext hb) (by omega) hp1 hpn hi1 (by omega) HNN.out h0 (by omega)).mono ?_
      rintro e w2 ⟨rfl, hb2⟩
      go_wp2_with fail
      go_ret2
      exact ⟨rfl, bthen (bthen (balloc _ _) hb) hb2⟩
  · have fin : Cv.value ⟨zs, p, i⟩ t = (0, 1) := by unfold Cv.value; rw [if_neg ok]
    rw [fin]
    have ok' : Cv.okB ⟨zs, p, i⟩ = false := by simpa using ok
    clear fin ok
    go_enter Try.func51, Try.ntmps51
    go_wp2_with fail
    refine (valid_any A n c p i zs _ (hA.alloc' _) hn).mono ?_
    rintro e w1 ⟨rfl, hb⟩
    rw [ok']
    obtain ⟨hc, hf⟩ := bcell hb
    go_wp2_with fail
    go_ret2
    exact ⟨rfl, bthen (balloc _ _) hb⟩

/-- the call returned a slice of its own that reads as zs -/
def RetL (zs : List Int) (w : World) (e : Ending) (w' : World) : Prop :=
  ∃ A n c, e = .returned (.slice A n c) ∧ Ints w' w'.heap.size A n zs ∧ (∀ b off s, A = some ⟨b, off, s⟩ → w.heap.size ≤ b) ∧ Below w.heap.size w w'

theorem clone_any (A : Option Addr) (n c : Nat) (zs : List Int) (w : World) (hA : Ints w w.heap.size A n zs) (hn : (n : Int) ≤ 1000000) :
    Calls Try.prog 109 #[.slice A n c] w (RetL zs w) := by
  have hnil := fun (W : World) (a : Option Addr) => Lib.run_eql_slice_nil (P := Try.prog) W 29 3 a n c 0 0 Try.underlying29
  rcases A with _ | ad
  · have hn0 : n = 0 := by
      rcases Nat.eq_zero_or_pos n with h | h
      · exact h
      · obtain ⟨b, off, e, _⟩ := hA.2 h; cases e
    have hz : zs = [] := List.eq_nil_of_length_eq_zero (by rw [hA.1, hn0])
    subst hz hn0
    go_enter Try.func109, Try.ntmps109
    go_wp2
    go_ret
    exact ⟨none, 0, 0, rfl, Ints.none_, (fun b off s h => by cases h), Below.refl _ _⟩
  · go_enter Try.func109, Try.ntmps109
    go_wp2_with (at_builtin; refine wpList_app rfl _ _ 29 rfl Try.underlying29 w.heap.size (.slice (some ⟨w.heap.size, 0, none⟩) 0 0) 0 [] rfl (Own.empty_ w (Nat.le_refl _)) _ (some ad) n c zs rfl (hA.alloc' _) (by omega) (by simp) ?_; intro v1 w1 own1 grow1 at1; simp only [Nat.zero_add, List.nil_append] at own1; obtain ⟨A1, c1, rfl, hc1, hI1, hf1⟩ := own1.ints)
    go_ret
    exact ⟨A1, n, c1, rfl, hI1, hf1, (balloc _ _).grown grow1 (by simp) (by simp [Value.ownBlock])⟩

theorem normal1_any (B : Nat) (A : Option Addr) (n c : Nat) (p i t : Int) (zs : List Int) (w : World) (hB : Blk w B 46 #[.slice A n c, .int .i64 p, .int .i64 i]) (hA : Ints w w.heap.size A n zs)
    (hok : Cv.Ok ⟨zs, p, i⟩) (ht0 : 0 ≤ t) (ht : t ≤ 2097152) :
    Calls Try.prog 110 #[.int .i64 t, .pointer (some ⟨B, 0, none⟩)] w fun e w' => e = .returned (.int .i64 (Cv.at ⟨zs, p, i⟩ t.toNat)) ∧ Below w.heap.size w w' := by
  have hl := hA.1
  have hn4 := hok.n2
  have hp1 := hok.p1; have hpn := hok.pn; have hi1 := hok.i1; have hi2 := hok.i2
  have HNN := Lib.hid hok.nn
  simp only [hl] at hn4 hpn hp1 hi1 hi2
  clear hok
  have HL := Lib.hid hl; clear hl
  have q0 := hB.cell 0; have q1 := hB.cell 1; have q2 := hB.cell 2
  simp at q0 q1 q2
  go_enter Try.func110, Try.ntmps110
  go_wp2_with fail
  refine (at_any A n c p i t zs _ hA (by omega) hp1 hpn hi1 (by omega) HNN.out ht0 ht).mono ?_
  rintro e w2 ⟨rfl, hb2⟩
  go_wp2_with fail
  go_ret
  exact ⟨rfl, hb2⟩

theorem enters59 (x y : Value) (w : World) : Sem.run Try.prog (callFunc 110 (#[x] ++ #[y])) w = .ok (.enter 110 (#[x] ++ #[y])) w := by kernel_rfl

set_option maxHeartbeats 1000000 in
theorem normal_any (A : Option Addr) (n c : Nat) (p i : Int) (zs : List Int) (w : World) (hA : Ints w w.heap.size A n zs) (hn : (n : Int) ≤ 1000000) :
    Calls Try.prog 52 #[.agg #[.slice A n c, .int .i64 p, .int .i64 i]] w (RetS (NormalS ⟨zs, p, i⟩) w) := by
  by_cases ok : Cv.okB ⟨zs, p, i⟩ = true
  · have hok := Cv.okB_iff.1 ok
    have hl := hA.1
    have hn4 := hok.n2
    have hp1 := hok.p1; have hp2 := hok.p2; have hpn := hok.pn; have hi1 := hok.i1; have hi2 := hok.i2
    simp only [hl] at hn4 hpn hp1 hp2 hi1 hi2
    have HOK := Lib.hid hok; clear hok
    have HL := Lib.hid hl; clear hl
    go_enter Try.func52, Try.ntmps52
    go_wp2_with fail
    refine (valid_any A n c p i zs _ ((hA.alloc' _).alloc' _) hn).mono ?_
    rintro e w1 ⟨rfl, hb⟩
    rw [ok]
    have hA1 := ((hA.alloc' _).alloc' _).ext hb
    have fb1 := ((Blk.new w 46 #[.slice A n c, .int .i64 p, .int .i64 i]).alloc (.cells #[.slice none 0 0, .int .i64 0, .int .i64 0] 46)).below hb (by simp <;> omega)
    have rb1 := (Blk.new (w.alloc (.cells #[.slice A n c, .int .i64 p, .int .i64 i] 46)) 46 #[.slice none 0 0, .int .i64 0, .int .i64 0]).below hb (by simp)
    simp at rb1
    have bw1 := bthen (bthen (balloc w (.cells #[.slice A n c, .int .i64 p, .int .i64 i] 46)) (balloc _ _)) hb
    have q0 := fb1.cell 0; have q1 := fb1.cell 1; have q2 := fb1.cell 2; have z0 := fb1.frozen 0
    simp at q0 q1 q2
    clear hb
    go_wp2_with fail
    refine (clone_any A n c zs _ hA1 hn).mono ?_
    rintro e w2 ⟨A2, n2, c2, rfl, hA2, hf2, hb2⟩
    have hl2 := hA2.1
    obtain rfl : n2 = n := by rw [← hl2, HL.out]
    have fb2 := (fb1.below hb2 fb1.lt).set_ 0 (.slice A2 n2 c2)
    have rb2 := (rb1.below hb2 rb1.lt).far (p := ⟨w.heap.size, 0, none⟩) (by simp) (.slice A2 n2 c2)
    have bw2 := (bthen bw1 hb2).setCell (p := ⟨w.heap.size, 0, none⟩) (by simp) (.slice A2 n2 c2)
    have hA2' := hA2.setCell (p := ⟨w.heap.size, 0, none⟩) (fun b off s e => by have := hf2 b off s e; have := fb1.lt; simp; omega) (.slice A2 n2 c2)
    have q0 := (fb1.below hb2 fb1.lt).cell 0; have q1 := (fb1.below hb2 fb1.lt).cell 1; have q2 := (fb1.below hb2 fb1.lt).cell 2; have z0 := (fb1.below hb2 fb1.lt).frozen 0
    simp at q0 q1 q2 fb2
    have hsz2 := hb2.size
    clear hb2 fb1 rb1 bw1 hA1
    go_wp2_with fail
    have hA3 : Ints (w2.setCell ⟨w.heap.size, 0, none⟩ (.slice A2 n2 c2)) (w2.setCell ⟨w.heap.size, 0, none⟩ (.slice A2 n2 c2)).heap.size A2 n2 zs := by simpa using hA2'
    clear hA2' hA2 hf2 q0 q1 q2 z0
    generalize w2.setCell ⟨w.heap.size, 0, none⟩ (.slice A2 n2 c2) = w3 at *
    have q0 := fb2.cell 0; have q1 := fb2.cell 1; have q2 := fb2.cell 2
    simp at q0 q1 q2
    have hlf := fb2.lt
    have hlr := rb2.lt
    have HA := Lib.hid hA3
    have HFB := Lib.hid fb2
    have HRB := Lib.hid rb2
    have HBW := Lib.hid bw2
    clear hA3 fb2 rb2 bw2
    have hd0 : 0 ≤ (n2 : Int) - p := by omega
    have hat : ∀ w', Below w3.heap.size w3 w' → Hid (∀ (t : Nat) (w1 : World), (t : Int) < (n2 : Int) - p + p → Below w'.heap.size w' w1 →
        Calls Try.prog 110 (#[.int .i64 t] ++ #[.pointer (some ⟨w.heap.size, 0, none⟩)]) w1 fun e w2 => e = .returned (.int .i64 (Cv.at ⟨zs, p, i⟩ t)) ∧ Below w1.heap.size w1 w2) := by
      intro w' hb' t w1 ht hb1
      have hb2 := bthen hb' hb1
      exact normal1_any w.heap.size A2 n2 c2 p i t zs w1 (HFB.out.below hb2 hlf) (HA.out.ext hb2) HOK.out (by omega) (by omega)
    have hval : ∀ k : Nat, (k : Int) < (n2 : Int) - p + p → 0 ≤ Cv.at ⟨zs, p, i⟩ k ∧ Cv.at ⟨zs, p, i⟩ k ≤ 4611686018427387904 := by
      intro k hk
      have : Cv.at ⟨zs, p, i⟩ k = nth zs k := by unfold Cv.at; rw [if_pos (by show k < zs.length; rw [HL.out]; omega)]
      rw [this]
      exact HOK.out.nn k
    have HAT := Lib.hid hat; clear hat
    have HVAL := Lib.hid hval; clear hval
    have fin : ∀ g er, BuildS (Cv.at ⟨zs, p, i⟩) ((n2 : Int) - p).toNat p.toNat i g er → NormalS ⟨zs, p, i⟩ g er := by
      intro g er h
      refine .inl ⟨ok, ?_⟩
      rw [show (Cv.mk zs p i).vals.length - (Cv.mk zs p i).per.toNat = ((n2 : Int) - p).toNat by show zs.length - p.toNat = _; rw [HL.out]; omega]
      exact h
    have FIN := Lib.hid fin; clear fin
    go_region_held3 (fun w' => w'.cell? ⟨w.heap.size, 0, none⟩ = some (.slice A2 n2 c2) ∧ w'.cell? ⟨w.heap.size, 1, none⟩ = some (.int .i64 p) ∧ w'.cell? ⟨w.heap.size, 2, none⟩ = some (.int .i64 i)) (go_keep)
      (first
        | (go_at_call 94; refine (start_any A2 n2 c2 p i _ (by omega) (by omega) (by omega)).mono ?_; rintro e w4 ⟨rfl, hb4⟩; have q40 := (hb4.cell (p := ⟨w.heap.size, 0, none⟩) hlf).trans q0; have q41 := (hb4.cell (p := ⟨w.heap.size, 1, none⟩) hlf).trans q1; have q42 := (hb4.cell (p := ⟨w.heap.size, 2, none⟩) hlf).trans q2)
        | (go_at_call 80; refine (build_any 110 #[.pointer (some ⟨w.heap.size, 0, none⟩)] ((n2 : Int) - p) p i (Cv.at ⟨zs, p, i⟩) _ hd0 (by omega) hp1 (by omega) hi1 (by omega) HVAL.out (HAT.out _ (by exact bofdrew hb4)) (fun x w => enters59 x _ w)).mono ?_; rintro e w5 ⟨g, er, hg, A5, n5, c5, rfl, hI5, hf5, hb5⟩; have hlf4 := Nat.lt_of_lt_of_le hlf hb4.size; have hlr4 := Nat.lt_of_lt_of_le hlr hb4.size; have q50 := (hb5.cell (p := ⟨w.heap.size, 0, none⟩) hlf4).trans q40; have q51 := (hb5.cell (p := ⟨w.heap.size, 1, none⟩) hlf4).trans q41; have q52 := (hb5.cell (p := ⟨w.heap.size, 2, none⟩) hlf4).trans q42; have rb5 := (HRB.out.below (bofdrew hb4) hlr).below hb5 hlr4; have r0 := rb5.cell 0; have r1 := rb5.cell 1; have r2 := rb5.cell 2; have z0 := rb5.frozen 0; have z1 := rb5.frozen 1; have z2 := rb5.frozen 2; simp at r0 r1 r2; have hlr5 := rb5.lt; have HI5 := Lib.hid hI5; clear hI5))
    go_wp2
    all_goals
     have rb6 := rb5.store3 (.slice A5 n5 c5) (.int .i64 g.per) (.int .i64 g.inc)
     have bw5 : Below w.heap.size w w5 := bthen (bthen HBW.out (bofdrew hb4)) hb5
     exact bodyPost_ret (v := .tuple #[.agg #[.slice A5 n5 c5, .int .i64 g.per, .int .i64 g.inc], .int .i64 er]) (by simp [results, Try.results52, go_sem, rb6.cell]) rfl
      ⟨g, er, FIN.out _ _ hg, retC_store3' hf5 (by omega) hlr4 HI5.out bw5⟩
  · have ok' : Cv.okB ⟨zs, p, i⟩ = false := by simpa using ok
    have fin : NormalS ⟨zs, p, i⟩ Cv.none 1 := .inr ⟨ok', rfl, rfl⟩
    have F := Lib.hid fin
    clear fin ok
    go_enter Try.func52, Try.ntmps52
    go_wp2_with fail
    refine (valid_any A n c p i zs _ ((hA.alloc' _).alloc' _) hn).mono ?_
    rintro e w1 ⟨rfl, hb⟩
    rw [ok']
    have rb1 := (Blk.new (w.alloc (.cells #[.slice A n c, .int .i64 p, .int .i64 i] 46)) 46 #[.slice none 0 0, .int .i64 0, .int .i64 0]).below hb (by simp)
    simp at rb1
    have q0 := rb1.cell 0; have q1 := rb1.cell 1; have q2 := rb1.cell 2; have z0 := rb1.frozen 0; have z1 := rb1.frozen 1; have z2 := rb1.frozen 2; simp at q0 q1 q2
    have hlr := rb1.lt
    go_wp2_with fail
    have rb5 := rb1.store3 (.slice none 0 0) (.int .i64 0) (.int .i64 0)
    exact bodyPost_ret (v := .tuple #[.agg #[.slice none 0 0, .int .i64 0, .int .i64 0], .int .i64 1]) (by simp [results, Try.results52, go_sem, rb5.cell]) rfl
      ⟨Cv.none, 1, F.out, none, 0, 0, rfl, Ints.none_, (fun b off s h => by cases h), (((bthen (bthen (balloc _ _) (balloc _ _)) hb).setCell (by simp) _).setCell (by simp) _).setCell (by simp) _⟩
end Go.Proofs.Ythdibkmjoiipgaa
