/- The reader's Odd and Ratio, and law11.ratio. -/
import Derived.Test.YthdibkmjoiipgaaSrcF1
namespace Go.Proofs.Ythdibkmjoiipgaa
open Go.RowKit
set_option linter.unusedVariables false

set_option maxHeartbeats 1000000 in
theorem odd_any (p : Nat) (w : World) (hS : SrcAt w p) :
    Calls Try.prog 122 #[.pointer (some ⟨p, 0, none⟩)] w (RetAny p w) := by
  go_enter Try.func122, Try.ntmps122
  go_wp2_with fail
  refine (n_any p 5 _ hS (by omega) (by omega)).mono ?_
  rintro e w2 ⟨u, hu0, hu1, rfl, hS2, hk2⟩
  have SS := Lib.hid hS2; have KK := Lib.hid hk2
  clear hS hS2 hk2
  by_cases h0 : u = 0
  · subst h0
    -- one of the numbers -9223372036854775808, 9223372036854775807, 4611686018427387904, -4611686018427387904, 2147483648, -2147483648, so many: 6; the world w2, the reader's facts SS
    have il := ints_litC w2 [-9223372036854775808, 9223372036854775807, 4611686018427387904, -4611686018427387904, 2147483648, -2147483648]
    simp only [List.map_cons, List.map_nil] at il
    have IL := Lib.hid il
    have hps := SS.out.lt
    replace SS := Lib.hid (SS.out.alloc (.cells (([-9223372036854775808, 9223372036854775807, 4611686018427387904, -4611686018427387904, 2147483648, -2147483648] : List Int).map (Value.int .i64)).toArray 3)); replace KK := Lib.hid (kbelow KK.out (balloc _ (.cells (([-9223372036854775808, 9223372036854775807, 4611686018427387904, -4611686018427387904, 2147483648, -2147483648] : List Int).map (Value.int .i64)).toArray 3)))
    simp only [List.map_cons, List.map_nil] at SS KK
    clear il
    go_wp2_with fail
    refine (pick_any p (some ⟨w2.heap.size, 0, none⟩) 6 6 [-9223372036854775808, 9223372036854775807, 4611686018427387904, -4611686018427387904, 2147483648, -2147483648] _ (by exact SS.out) (by exact IL.out) (fun b off s e => by cases e; omega) (by omega) (by omega)).mono ?_
    rintro e w9 ⟨⟨jj, hjj, rfl⟩, hS9, hk9⟩
    replace SS := Lib.hid hS9; replace KK := Lib.hid (kthen KK.out hk9)
    generalize nth [-9223372036854775808, 9223372036854775807, 4611686018427387904, -4611686018427387904, 2147483648, -2147483648] jj = v
    clear hS9 hk9 IL hjj hps
    go_wp2_with fail
    go_ret
    exact ⟨_, rfl, SS.out, KK.out⟩
  · have d0 : (u == 0) = false := by simpa using h0
    by_cases h1 : u = 1
    · subst h1
      -- one of the numbers 1073741824, 1073741825, -1073741824, -1073741825, 1073741823, so many: 5; the world w2, the reader's facts SS
      have il := ints_litC w2 [1073741824, 1073741825, -1073741824, -1073741825, 1073741823]
      simp only [List.map_cons, List.map_nil] at il
      have IL := Lib.hid il
      have hps := SS.out.lt
      replace SS := Lib.hid (SS.out.alloc (.cells (([1073741824, 1073741825, -1073741824, -1073741825, 1073741823] : List Int).map (Value.int .i64)).toArray 3)); replace KK := Lib.hid (kbelow KK.out (balloc _ (.cells (([1073741824, 1073741825, -1073741824, -1073741825, 1073741823] : List Int).map (Value.int .i64)).toArray 3)))
      simp only [List.map_cons, List.map_nil] at SS KK
      clear il
      go_wp2_with fail
      refine (pick_any p (some ⟨w2.heap.size, 0, none⟩) 5 5 [1073741824, 1073741825, -1073741824, -1073741825, 1073741823] _ (by exact SS.out) (by exact IL.out) (fun b off s e => by cases e; omega) (by omega) (by omega)).mono ?_
      rintro e w9 ⟨⟨jj, hjj, rfl⟩, hS9, hk9⟩
      replace SS := Lib.hid hS9; replace KK := Lib.hid (kthen KK.out hk9)
      generalize nth [1073741824, 1073741825, -1073741824, -1073741825, 1073741823] jj = v
      clear hS9 hk9 IL hjj hps
      go_wp2_with fail
      go_ret
      exact ⟨_, rfl, SS.out, KK.out⟩
    · have d1 : (u == 1) = false := by simpa using h1
      by_cases h2 : u = 2
      · subst h2
        go_wp2_with fail
        refine (n_any p 2147483648 _ SS.out (by omega) (by omega)).mono ?_
        rintro e w3 ⟨v, hv0, hv1, rfl, hS3, hk3⟩
        replace SS := Lib.hid hS3; replace KK := Lib.hid (kthen KK.out hk3)
        clear hS3 hk3
        go_wp2_with fail
        go_ret
        exact ⟨_, rfl, SS.out, KK.out⟩
      · have d2 : (u == 2) = false := by simpa using h2
        clear h0 h1 h2
        go_wp2_with fail
        refine (n_any p 41 _ SS.out (by omega) (by omega)).mono ?_
        rintro e w3 ⟨v, hv0, hv1, rfl, hS3, hk3⟩
        replace SS := Lib.hid hS3; replace KK := Lib.hid (kthen KK.out hk3)
        clear hS3 hk3
        go_wp2_with fail
        go_ret
        exact ⟨_, rfl, SS.out, KK.out⟩
set_option maxHeartbeats 1000000 in
theorem srcRatio_any (p : Nat) (w : World) (hS : SrcAt w p) :
    Calls Try.prog 62 #[.pointer (some ⟨p, 0, none⟩)] w (RetFr (fun _ _ => True) p w) := by
  have hpl := hS.lt
  have ZB := Lib.hid (Blk.new w 23 #[.int .i64 0, .int .i64 0])
  have SS := Lib.hid (hS.alloc (.cells #[.int .i64 0, .int .i64 0] 23))
  have KK := Lib.hid (Kept.of (p := p) (balloc w (.cells #[.int .i64 0, .int .i64 0] 23)))
  clear hS
  go_enter Try.func62, Try.ntmps62
  go_wp2_with fail
  refine (n_any p 3 _ (by exact SS.out) (by omega) (by omega)).mono ?_
  rintro e w2 ⟨u, hu0, hu1, rfl, hS2, hk2⟩
  replace ZB := Lib.hid (ZB.out.kept (by omega) hk2); replace SS := Lib.hid hS2; replace KK := Lib.hid (kthen KK.out hk2)
  clear hS2 hk2
  by_cases h0 : u = 0
  · subst h0
    go_wp2_with fail
    refine (odd_any p _ (by exact SS.out)).mono ?_
    rintro e w3 ⟨x, rfl, hS2, hk2⟩
    replace ZB := Lib.hid (ZB.out.kept (by omega) hk2); replace SS := Lib.hid hS2; replace KK := Lib.hid (kthen KK.out hk2)
    clear hS2 hk2
    go_wp2_with fail
    refine (odd_any p _ (by exact SS.out)).mono ?_
    rintro e w4 ⟨y, rfl, hS2, hk2⟩
    replace ZB := Lib.hid (ZB.out.kept (by omega) hk2); replace SS := Lib.hid hS2; replace KK := Lib.hid (kthen KK.out hk2)
    clear hS2 hk2
    -- the fraction x / y is stored and returned by (*netcalculus/netcalculuskeep.Src).Ratio
    obtain ⟨z0, z1⟩ : _ ∧ _ := ⟨ZB.out.cell 0, ZB.out.cell 1⟩
    simp at z0 z1
    have v0 := ZB.out.frozen 0; have v1 := ZB.out.frozen 1
    have hlz := ZB.out.lt
    go_wp2_with fail
    have rb := (ZB.out.set_ 0 (.int .i64 x)).set_ 1 (.int .i64 y)
    exact bodyPost_ret (v := .agg #[.int .i64 x, .int .i64 y]) (by simp [results, Try.results62, go_sem, rb.cell]) rfl ⟨_, _, trivial, rfl, (SS.out.far (a := ⟨w.heap.size, 0, none⟩) (by show p < w.heap.size; omega) _).far (a := ⟨w.heap.size, 1, none⟩) (by show p < w.heap.size; omega) _, (KK.out.setCell (a := ⟨w.heap.size, 0, none⟩) (.inr (Nat.le_refl _)) _).setCell (a := ⟨w.heap.size, 1, none⟩) (.inr (Nat.le_refl _)) _⟩
  · have d0 : (u == 0) = false := by simpa using h0
    clear h0
    go_wp2_with fail
    refine (srcFr_any p 9 6 _ (by exact SS.out) (by omega) (by omega) (by omega) (by omega)).mono ?_
    rintro e w3 ⟨x, y, _, rfl, hS2, hk2⟩
    replace ZB := Lib.hid (ZB.out.kept (by omega) hk2); replace SS := Lib.hid hS2; replace KK := Lib.hid (kthen KK.out hk2)
    clear hS2 hk2
    -- the fraction x / y is stored and returned by (*netcalculus/netcalculuskeep.Src).Ratio
    obtain ⟨z0, z1⟩ : _ ∧ _ := ⟨ZB.out.cell 0, ZB.out.cell 1⟩
    simp at z0 z1
    have v0 := ZB.out.frozen 0; have v1 := ZB.out.frozen 1
    have hlz := ZB.out.lt
    go_wp2_with fail
    have rb := (ZB.out.set_ 0 (.int .i64 x)).set_ 1 (.int .i64 y)
    exact bodyPost_ret (v := .agg #[.int .i64 x, .int .i64 y]) (by simp [results, Try.results62, go_sem, rb.cell]) rfl ⟨_, _, trivial, rfl, (SS.out.far (a := ⟨w.heap.size, 0, none⟩) (by show p < w.heap.size; omega) _).far (a := ⟨w.heap.size, 1, none⟩) (by show p < w.heap.size; omega) _, (KK.out.setCell (a := ⟨w.heap.size, 0, none⟩) (.inr (Nat.le_refl _)) _).setCell (a := ⟨w.heap.size, 1, none⟩) (.inr (Nat.le_refl _)) _⟩
set_option maxHeartbeats 1000000 in
theorem ratio11_any (p : Nat) (w : World) (hS : SrcAt w p) :
    Calls Try.prog 22 #[.pointer (some ⟨p, 0, none⟩)] w (RetFr (fun _ _ => True) p w) := by
  have hpl := hS.lt
  have ZB := Lib.hid (Blk.new w 23 #[.int .i64 0, .int .i64 0])
  have SS := Lib.hid (hS.alloc (.cells #[.int .i64 0, .int .i64 0] 23))
  have KK := Lib.hid (Kept.of (p := p) (balloc w (.cells #[.int .i64 0, .int .i64 0] 23)))
  clear hS
  go_enter Try.func22, Try.ntmps22
  go_wp2_with fail
  refine (n_any p 6 _ (by exact SS.out) (by omega) (by omega)).mono ?_
  rintro e w2 ⟨u, hu0, hu1, rfl, hS2, hk2⟩
  replace ZB := Lib.hid (ZB.out.kept (by omega) hk2); replace SS := Lib.hid hS2; replace KK := Lib.hid (kthen KK.out hk2)
  clear hS2 hk2
  by_cases h0 : u = 0
  · subst h0
    go_wp2_with fail
    refine (srcRatio_any p _ (by exact SS.out)).mono ?_
    rintro e w3 ⟨x, y, _, rfl, hS2, hk2⟩
    replace ZB := Lib.hid (ZB.out.kept (by omega) hk2); replace SS := Lib.hid hS2; replace KK := Lib.hid (kthen KK.out hk2)
    clear hS2 hk2
    -- the fraction x / y is stored and returned by netcalculus/netcalculuslaw11.ratio
    obtain ⟨z0, z1⟩ : _ ∧ _ := ⟨ZB.out.cell 0, ZB.out.cell 1⟩
    simp at z0 z1
    have v0 := ZB.out.frozen 0; have v1 := ZB.out.frozen 1
    have hlz := ZB.out.lt
    go_wp2_with fail
    have rb := (ZB.out.set_ 0 (.int .i64 x)).set_ 1 (.int .i64 y)
    exact bodyPost_ret (v := .agg #[.int .i64 x, .int .i64 y]) (by simp [results, Try.results22, go_sem, rb.cell]) rfl ⟨_, _, trivial, rfl, (SS.out.far (a := ⟨w.heap.size, 0, none⟩) (by show p < w.heap.size; omega) _).far (a := ⟨w.heap.size, 1, none⟩) (by show p < w.heap.size; omega) _, (KK.out.setCell (a := ⟨w.heap.size, 0, none⟩) (.inr (Nat.le_refl _)) _).setCell (a := ⟨w.heap.size, 1, none⟩) (.inr (Nat.le_refl _)) _⟩
  · have d0 : (u == 0) = false := by simpa using h0
    clear h0
    replace ZB := Lib.hid (ZB.out.alloc (.cells #[.int .i64 1, .int .i64 3, .int .i64 7, .int .i64 60, .int .i64 120, .int .i64 121] 3))
    -- one of the numbers 1, 3, 7, 60, 120, 121, so many: 6; the world w2, the reader's facts SS
    have il := ints_litC w2 [1, 3, 7, 60, 120, 121]
    simp only [List.map_cons, List.map_nil] at il
    have IL := Lib.hid il
    have hps := SS.out.lt
    replace SS := Lib.hid (SS.out.alloc (.cells (([1, 3, 7, 60, 120, 121] : List Int).map (Value.int .i64)).toArray 3)); replace KK := Lib.hid (kbelow KK.out (balloc _ (.cells (([1, 3, 7, 60, 120, 121] : List Int).map (Value.int .i64)).toArray 3)))
    simp only [List.map_cons, List.map_nil] at SS KK
    clear il
    go_wp2_with fail
    refine (pick_any p (some ⟨w2.heap.size, 0, none⟩) 6 6 [1, 3, 7, 60, 120, 121] _ (by exact SS.out) (by exact IL.out) (fun b off s e => by cases e; omega) (by omega) (by omega)).mono ?_
    rintro e w9 ⟨⟨jj, hjj, rfl⟩, hS9, hk9⟩
    replace SS := Lib.hid hS9; replace KK := Lib.hid (kthen KK.out hk9)
    have hv : 1 ≤ nth [1, 3, 7, 60, 120, 121] jj ∧ nth [1, 3, 7, 60, 120, 121] jj ≤ 121 := by
      have h : ∀ j, j < 6 → 1 ≤ nth [1, 3, 7, 60, 120, 121] j ∧ nth [1, 3, 7, 60, 120, 121] j ≤ 121 := by decide
      exact h jj hjj
    generalize nth [1, 3, 7, 60, 120, 121] jj = v at hv ⊢
    replace ZB := Lib.hid (ZB.out.kept (by omega) hk9)
    clear hS9 hk9 IL hjj hps
    go_wp2_with fail
    refine (srcFr_any p 12 v _ (by exact SS.out) (by omega) (by omega) (by omega) (by omega)).mono ?_
    rintro e w3 ⟨x, y, _, rfl, hS2, hk2⟩
    replace ZB := Lib.hid (ZB.out.kept (by omega) hk2); replace SS := Lib.hid hS2; replace KK := Lib.hid (kthen KK.out hk2)
    clear hS2 hk2
    -- the fraction x / y is stored and returned by netcalculus/netcalculuslaw11.ratio
    obtain ⟨z0, z1⟩ : _ ∧ _ := ⟨ZB.out.cell 0, ZB.out.cell 1⟩
    simp at z0 z1
    have v0 := ZB.out.frozen 0; have v1 := ZB.out.frozen 1
    have hlz := ZB.out.lt
    go_wp2_with fail
    have rb := (ZB.out.set_ 0 (.int .i64 x)).set_ 1 (.int .i64 y)
    exact bodyPost_ret (v := .agg #[.int .i64 x, .int .i64 y]) (by simp [results, Try.results22, go_sem, rb.cell]) rfl ⟨_, _, trivial, rfl, (SS.out.far (a := ⟨w.heap.size, 0, none⟩) (by show p < w.heap.size; omega) _).far (a := ⟨w.heap.size, 1, none⟩) (by show p < w.heap.size; omega) _, (KK.out.setCell (a := ⟨w.heap.size, 0, none⟩) (.inr (Nat.le_refl _)) _).setCell (a := ⟨w.heap.size, 1, none⟩) (.inr (Nat.le_refl _)) _⟩
end Go.Proofs.Ythdibkmjoiipgaa
