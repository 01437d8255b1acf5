/- keep.Steps: a curve that grows once in a period. -/
import Derived.Test.YtbkimphcmmmaiaaSrcCurve
import Derived.Test.YtbkimphcmmmaiaaEnvL
import Derived.Test.YtbkimphcmmmaiaaPwKit
import Derived.Test.YtbkimphcmmmaiaaBy
import Derived.BigRegion
import Derived.Deep.DeepCutAuto
namespace Go.Proofs.Ytbkimphcmmmaiaa
open Go.RowKit
set_option linter.unusedVariables false

set_option maxHeartbeats 1000000 in
set_option maxRecDepth 100000 in
theorem srcSteps_any (p : Nat) (w : World) (hS : SrcAt w p) :
    Calls Try.prog 51 #[.pointer (some ⟨p, 0, none⟩)] w (RetD2 (fun g => g.vals.length ≤ 1000) p w) := by
  obtain ⟨i0, hi0, hz0, hz1, hz2⟩ := info_parts info_int
  have hpl := hS.lt
  have RB := Lib.hid ((Blk.new w 31 #[.slice none 0 0, .int .i64 0, .int .i64 0]).alloc (.cells ([2, 3, 5, 8, 9, 11, 13, 16, 40, 60, 119].map (Value.int .i64)).toArray 3))
  have SS := Lib.hid ((hS.alloc (.cells #[.slice none 0 0, .int .i64 0, .int .i64 0] 31)).alloc (.cells ([2, 3, 5, 8, 9, 11, 13, 16, 40, 60, 119].map (Value.int .i64)).toArray 3))
  have KK := Lib.hid (Kept.of (p := p) (bthen (balloc w (.cells #[.slice none 0 0, .int .i64 0, .int .i64 0] 31)) (balloc _ (.cells ([2, 3, 5, 8, 9, 11, 13, 16, 40, 60, 119].map (Value.int .i64)).toArray 3))))
  have il := ints_lit (w.alloc (.cells #[.slice none 0 0, .int .i64 0, .int .i64 0] 31)) [2, 3, 5, 8, 9, 11, 13, 16, 40, 60, 119]
  simp only [List.map_cons, List.map_nil, World.size_alloc] at RB SS KK il
  have IL := Lib.hid il
  clear hS il
  go_enter Try.func51, Try.ntmps51
  go_wp2_with fail
  refine (pick_any p (some ⟨w.heap.size + 1, 0, none⟩) 11 11 [2, 3, 5, 8, 9, 11, 13, 16, 40, 60, 119] _ SS.out (by simp only [World.size_alloc]; exact IL.out) (fun b off s e => by cases e; omega) (by omega) (by omega)).mono ?_
  rintro e w2 ⟨⟨jj, hjj, rfl⟩, hS2, hk2⟩
  obtain ⟨Q, hQ, hQ1, hQ2⟩ : ∃ Q : Nat, nth [2, 3, 5, 8, 9, 11, 13, 16, 40, 60, 119] jj = (Q : Int) ∧ 2 ≤ Q ∧ Q ≤ 119 := by
    have h : ∀ j, j < 11 → 2 ≤ nth [2, 3, 5, 8, 9, 11, 13, 16, 40, 60, 119] j ∧ nth [2, 3, 5, 8, 9, 11, 13, 16, 40, 60, 119] j ≤ 119 := by decide
    obtain ⟨h1, h2⟩ := h jj hjj
    obtain ⟨Q, hQ⟩ := Int.eq_ofNat_of_zero_le (show 0 ≤ nth [2, 3, 5, 8, 9, 11, 13, 16, 40, 60, 119] jj by omega)
    exact ⟨Q, hQ, by omega, by omega⟩
  rw [hQ]
  have hs2 := hk2.size
  simp only [World.size_alloc] at hs2
  have SS := Lib.hid hS2
  have RB := Lib.hid (RB.out.kept (by omega) hk2)
  have KK := Lib.hid (kthen KK.out hk2)
  clear hS2 hk2 IL hQ hjj hi0 hz0 hz1 hz2
  go_upto_region 2 with fail
  replace SS := Lib.hid SS.out.drew; replace RB := Lib.hid (Blk.drew RB.out); replace KK := Lib.hid (kdrw KK.out)
  refine wp_region_held_drew (S := fun _ => True) (by kernel_rfl) trivial (fun hHeld => ?_)
  generalize hwd : w2.drew = wd at SS RB KK ⊢
  have hsd : wd.heap.size = w2.heap.size := by rw [← hwd]; rfl
  clear hwd hHeld
  obtain ⟨⟨r0, r1, r2⟩, ⟨y0, y1, y2⟩, hlr⟩ := RB.out.c3
  refine wpAnyH_take (i := 0) (oi := _) (v := ?_) (by simp only [List.getElem?_toArray, List.getElem?_cons_zero]; rfl) (by kernel_rfl) (by kernel_rfl) (by kernel_rfl) (by exact fun _ _ _ h => h) (Or.inl ⟨by rfl, ?_⟩) trivial ?_
  rotate_left 1
  · (intro w _; go_simp; try with_reducible rfl)
  all_goals try simp only [Act.put, List.setIfInBounds_toArray, List.set_cons_zero, List.set_cons_succ]
  refine wpAnyH_take (i := 2) (oi := _) (v := ?_) (by simp only [List.getElem?_toArray, List.getElem?_cons_succ, List.getElem?_cons_zero]; rfl) (by kernel_rfl) (by kernel_rfl) (by kernel_rfl) (by exact fun _ _ _ h => h) (Or.inl ⟨by rfl, ?_⟩) trivial ?_
  rotate_left 1
  · (intro w _; go_simp; try with_reducible rfl)
  all_goals try simp only [Act.put, List.setIfInBounds_toArray, List.set_cons_zero, List.set_cons_succ]
  refine wpAnyH_take (i := 3) (oi := _) (v := ?_) (by simp only [List.getElem?_toArray, List.getElem?_cons_succ, List.getElem?_cons_zero]; rfl) (by kernel_rfl) (by kernel_rfl) (by kernel_rfl) (by exact fun _ _ _ h => h) (Or.inl ⟨by rfl, ?_⟩) trivial ?_
  rotate_left 1
  · (intro w _; go_simp; try with_reducible rfl)
  all_goals try simp only [Act.put, List.setIfInBounds_toArray, List.set_cons_zero, List.set_cons_succ]
  refine wpAnyH_ready (rs := [1, 4]) (by kernel_rfl) (by simp) ?_
  refine (AllReadyH.cons (by simp only [List.getElem?_toArray, List.getElem?_cons_succ, List.getElem?_cons_zero]; rfl) (fun K hK => ?_) (AllReadyH.cons (by simp only [List.getElem?_toArray, List.getElem?_cons_succ, List.getElem?_cons_zero]; rfl) (fun K hK => ?_) AllReadyH.nil))
  · -- the list is made: wd the world before, w3 behind
    refine step_make (by rfl) _ _ 22 (by rfl) Try.underlying22 .i64 .i64 _ _ Q (by rfl) (by rfl) (by rfl) (by rfl) (by omega) ?_
    intro w3 own1 grow1
    have hbq : Below wd.heap.size wd w3 := (Below.refl _ _).grown grow1 (by simp) (by simp)
    obtain ⟨A9, c9, e9, hc9, hI9, hf9⟩ := own1.ints
    have I9 := Lib.hid hI9; have HC9 := Lib.hid hc9
    have O9 := Lib.hid (show ∀ b off s, A9 = some ⟨b, off, s⟩ → w.heap.size + 1 < b from fun b off s e => by have := hf9 b off s e; omega)
    rw [e9]
    replace SS := Lib.hid (SS.out.ext hbq); replace KK := Lib.hid (kthen KK.out (Kept.of hbq)); replace RB := Lib.hid (RB.out.below hbq RB.out.lt)
    have hsz := hbq.size
    clear own1 grow1 hbq hI9 hc9 hf9 e9
    clear r0 r1 r2 y0 y1 y2 hlr
    obtain ⟨⟨r0, r1, r2⟩, ⟨y0, y1, y2⟩, hlr⟩ := RB.out.c3
    refine hK.out _ _ trivial (fun hHeld => ?_)
    clear hK K
    try simp only [Act.put, List.setIfInBounds_toArray, List.set_cons_zero, List.set_cons_succ]
    refine wpAnyH_ready (rs := [4]) (by kernel_rfl) (by simp) ?_
    refine (AllReadyH.cons (by simp only [List.getElem?_toArray, List.getElem?_cons_succ, List.getElem?_cons_zero]; rfl) (fun K hK => ?_) AllReadyH.nil)
    -- the number is drawn: w3 the world before, w4 behind
    rw [if_pos (by rfl)]
    go_simp
    refine (n_any p 40 w3 SS.out (by omega) (by omega)).mono ?_
    rintro e w4 ⟨z, hz0, hz1, rfl, hS3, hk3⟩
    replace SS := Lib.hid hS3; replace KK := Lib.hid (kthen KK.out hk3); replace RB := Lib.hid (RB.out.kept (by omega) hk3)
    try (replace I9 := Lib.hid (I9.out.kept0 (fun _ b off s e => by have := O9.out b off s e; omega) hk3))
    have hsz2 := hk3.size
    clear hS3 hk3
    clear r0 r1 r2 y0 y1 y2 hlr
    obtain ⟨⟨r0, r1, r2⟩, ⟨y0, y1, y2⟩, hlr⟩ := RB.out.c3
    refine hK.out _ _ trivial (fun hHeld => ?_)
    clear hK K
    try simp only [Act.put, List.setIfInBounds_toArray, List.set_cons_zero, List.set_cons_succ]
    have e1 : IntKind.i64.wrap (1 + z) = 1 + z := IntWalk.i64_in _ (by omega)
    refine wpAnyH_take (i := 5) (oi := _) (v := ?_) (by simp only [List.getElem?_toArray, List.getElem?_cons_succ, List.getElem?_cons_zero]; rfl) (by kernel_rfl) (by kernel_rfl) (by kernel_rfl) (by exact fun _ _ _ h => h) (Or.inl ⟨by rfl, ?_⟩) trivial ?_
    rotate_left 1
    · (intro w _; go_simp; try with_reducible rfl)
    all_goals try simp only [Act.put, List.setIfInBounds_toArray, List.set_cons_zero, List.set_cons_succ]
    refine wpAnyH_take (i := 6) (oi := _) (v := ?_) (by simp only [List.getElem?_toArray, List.getElem?_cons_succ, List.getElem?_cons_zero]; rfl) (by kernel_rfl) (by kernel_rfl) (by kernel_rfl) (by exact fun _ _ _ h => h) (Or.inl ⟨by rfl, ?_⟩) trivial ?_
    rotate_left 1
    · (intro w _; go_simp; try with_reducible rfl)
    all_goals try simp only [Act.put, List.setIfInBounds_toArray, List.set_cons_zero, List.set_cons_succ]
    refine wpAnyH_ready (rs := [7]) (by kernel_rfl) (by simp) ?_
    refine (AllReadyH.cons (by simp only [List.getElem?_toArray, List.getElem?_cons_succ, List.getElem?_cons_zero]; rfl) (fun K hK => ?_) AllReadyH.nil)
    rw [if_pos (by rfl)]
    go_simp
    refine hK.out _ _ trivial (fun hHeld => ?_)
    clear hK K
    try simp only [Act.put, List.setIfInBounds_toArray, List.set_cons_zero, List.set_cons_succ]
    refine wpAnyH_done (by kernel_rfl) ?_ _
    have rb := RB.out.store3 (.slice A9 Q c9) (.int .i64 Q) (.int .i64 (1 + z))
    go_wp2_with fail
    refine bodyPost_ret (v := .agg #[.slice A9 Q c9, .int .i64 Q, .int .i64 (1 + z)]) (by simp [results, Try.results51, go_sem, rb.cell]) rfl ?_
    refine ⟨⟨List.replicate Q 0, Q, 1 + z⟩, A9, Q, c9, by show (List.replicate Q (0 : Int)).length ≤ 1000; rw [List.length_replicate]; omega, HC9.out, rfl, ?_, fun b off s e => by have := O9.out b off s e; omega, ?_, ?_⟩
    · exact I9.out.sto0 (Sto.three w.heap.size _ _ _ _) (fun hn b off s e => by have := O9.out b off s e; omega)
    · exact ((SS.out.far (by show p < w.heap.size; omega) _).far (by show p < w.heap.size; omega) _).far (by show p < w.heap.size; omega) _
    · exact ((KK.out.setCell (.inr (Nat.le_refl _)) _).setCell (.inr (Nat.le_refl _)) _).setCell (.inr (Nat.le_refl _)) _
  · -- the number is drawn: wd the world before, w3 behind
    rw [if_pos (by rfl)]
    go_simp
    refine (n_any p 40 wd SS.out (by omega) (by omega)).mono ?_
    rintro e w3 ⟨z, hz0, hz1, rfl, hS3, hk3⟩
    replace SS := Lib.hid hS3; replace KK := Lib.hid (kthen KK.out hk3); replace RB := Lib.hid (RB.out.kept (by omega) hk3)
    try (replace I9 := Lib.hid (I9.out.kept0 (fun _ b off s e => by have := O9.out b off s e; omega) hk3))
    have hsz2 := hk3.size
    clear hS3 hk3
    clear r0 r1 r2 y0 y1 y2 hlr
    obtain ⟨⟨r0, r1, r2⟩, ⟨y0, y1, y2⟩, hlr⟩ := RB.out.c3
    refine hK.out _ _ trivial (fun hHeld => ?_)
    clear hK K
    try simp only [Act.put, List.setIfInBounds_toArray, List.set_cons_zero, List.set_cons_succ]
    have e1 : IntKind.i64.wrap (1 + z) = 1 + z := IntWalk.i64_in _ (by omega)
    refine wpAnyH_take (i := 5) (oi := _) (v := ?_) (by simp only [List.getElem?_toArray, List.getElem?_cons_succ, List.getElem?_cons_zero]; rfl) (by kernel_rfl) (by kernel_rfl) (by kernel_rfl) (by exact fun _ _ _ h => h) (Or.inl ⟨by rfl, ?_⟩) trivial ?_
    rotate_left 1
    · (intro w _; go_simp; try with_reducible rfl)
    all_goals try simp only [Act.put, List.setIfInBounds_toArray, List.set_cons_zero, List.set_cons_succ]
    refine wpAnyH_ready (rs := [1]) (by kernel_rfl) (by simp) ?_
    refine (AllReadyH.cons (by simp only [List.getElem?_toArray, List.getElem?_cons_succ, List.getElem?_cons_zero]; rfl) (fun K hK => ?_) AllReadyH.nil)
    -- the list is made: w3 the world before, w4 behind
    refine step_make (by rfl) _ _ 22 (by rfl) Try.underlying22 .i64 .i64 _ _ Q (by rfl) (by rfl) (by rfl) (by rfl) (by omega) ?_
    intro w4 own1 grow1
    have hbq : Below w3.heap.size w3 w4 := (Below.refl _ _).grown grow1 (by simp) (by simp)
    obtain ⟨A9, c9, e9, hc9, hI9, hf9⟩ := own1.ints
    have I9 := Lib.hid hI9; have HC9 := Lib.hid hc9
    have O9 := Lib.hid (show ∀ b off s, A9 = some ⟨b, off, s⟩ → w.heap.size + 1 < b from fun b off s e => by have := hf9 b off s e; omega)
    rw [e9]
    replace SS := Lib.hid (SS.out.ext hbq); replace KK := Lib.hid (kthen KK.out (Kept.of hbq)); replace RB := Lib.hid (RB.out.below hbq RB.out.lt)
    have hsz := hbq.size
    clear own1 grow1 hbq hI9 hc9 hf9 e9
    clear r0 r1 r2 y0 y1 y2 hlr
    obtain ⟨⟨r0, r1, r2⟩, ⟨y0, y1, y2⟩, hlr⟩ := RB.out.c3
    refine hK.out _ _ trivial (fun hHeld => ?_)
    clear hK K
    try simp only [Act.put, List.setIfInBounds_toArray, List.set_cons_zero, List.set_cons_succ]
    refine wpAnyH_take (i := 6) (oi := _) (v := ?_) (by simp only [List.getElem?_toArray, List.getElem?_cons_succ, List.getElem?_cons_zero]; rfl) (by kernel_rfl) (by kernel_rfl) (by kernel_rfl) (by exact fun _ _ _ h => h) (Or.inl ⟨by rfl, ?_⟩) trivial ?_
    rotate_left 1
    · (intro w _; go_simp; try with_reducible rfl)
    all_goals try simp only [Act.put, List.setIfInBounds_toArray, List.set_cons_zero, List.set_cons_succ]
    refine wpAnyH_ready (rs := [7]) (by kernel_rfl) (by simp) ?_
    refine (AllReadyH.cons (by simp only [List.getElem?_toArray, List.getElem?_cons_succ, List.getElem?_cons_zero]; rfl) (fun K hK => ?_) AllReadyH.nil)
    rw [if_pos (by rfl)]
    go_simp
    refine hK.out _ _ trivial (fun hHeld => ?_)
    clear hK K
    try simp only [Act.put, List.setIfInBounds_toArray, List.set_cons_zero, List.set_cons_succ]
    refine wpAnyH_done (by kernel_rfl) ?_ _
    have rb := RB.out.store3 (.slice A9 Q c9) (.int .i64 Q) (.int .i64 (1 + z))
    go_wp2_with fail
    refine bodyPost_ret (v := .agg #[.slice A9 Q c9, .int .i64 Q, .int .i64 (1 + z)]) (by simp [results, Try.results51, go_sem, rb.cell]) rfl ?_
    refine ⟨⟨List.replicate Q 0, Q, 1 + z⟩, A9, Q, c9, by show (List.replicate Q (0 : Int)).length ≤ 1000; rw [List.length_replicate]; omega, HC9.out, rfl, ?_, fun b off s e => by have := O9.out b off s e; omega, ?_, ?_⟩
    · exact I9.out.sto0 (Sto.three w.heap.size _ _ _ _) (fun hn b off s e => by have := O9.out b off s e; omega)
    · exact ((SS.out.far (by show p < w.heap.size; omega) _).far (by show p < w.heap.size; omega) _).far (by show p < w.heap.size; omega) _
    · exact ((KK.out.setCell (.inr (Nat.le_refl _)) _).setCell (.inr (Nat.le_refl _)) _).setCell (.inr (Nat.le_refl _)) _
end Go.Proofs.Ytbkimphcmmmaiaa
