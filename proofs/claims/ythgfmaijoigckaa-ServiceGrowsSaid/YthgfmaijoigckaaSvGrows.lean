/- The statement ServiceGrows: the walk. -/
import Derived.Test.YthgfmaijoigckaaLatPw
import Derived.Test.YthgfmaijoigckaaSvBest
import Derived.Test.YthgfmaijoigckaaSgLaw
import Derived.Test.YthgfmaijoigckaaAwake12
import Derived.Test.YthgfmaijoigckaaSrcFr
import Derived.Test.YthgfmaijoigckaaEnvL
import Derived.Test.YthgfmaijoigckaaRefExc
import Derived.Deep.RegionHeld3
namespace Go.Proofs.Ythgfmaijoigckaa
open Go.RowKit
set_option linter.unusedVariables false

theorem fold_up : ∀ {fs : List Cv} {s r : Cv}, s.Ok → FoldX false s fs r 0 → r.Ok ∧ LEC s r ∧ ∀ g ∈ fs, LEC g r
  | [], s, r, hs, h => by
    obtain ⟨rfl, _⟩ := h
    exact ⟨hs, LEC.refl _, fun g hg => by cases hg⟩
  | f :: fs, s, r, hs, h => by
    obtain ⟨t, e, h1, ⟨rfl, h2⟩ | ⟨h2, _, h3⟩⟩ := h
    · obtain ⟨k1, k2, k3, k4⟩ := h1.ok0
      have ea : t.at = exV false s f := funext k4.at
      obtain ⟨m1, m2, m3⟩ := fold_up k3 h2
      refine ⟨m1, (le_max1 k1 k2 k3 ea).trans m2, fun g hg => ?_⟩
      rcases List.mem_cons.1 hg with rfl | hg
      · exact (le_max2 k1 k2 k3 ea).trans m2
      · exact m3 g hg
    · exact absurd h3.symm h2
theorem LEC.atm {f g : Cv} (hf : f.Ok) (hg : g.Ok) (h : LEC f g) : AtM f g true := .inl ⟨hf, hg, ⟨fun _ n => h.up n, fun _ => rfl⟩⟩
/-- the curve of a pace, whatever is returned -/
theorem nf_lec {h k : Nat → Int} {f g : Cv} (hf : NF h f) (hg : NF k g) (of : f.Fin) (h1 : ∀ t, h t ≤ k t) : LEC f g := fun n => .inr ⟨of.not_infAt n, by rw [hf.at, hg.at]; exact h1 n⟩
/-- what Best returns of three paces whose curves are known -/
theorem best_three {x y z : PN} {f g k r : Cv} {er : Int} (hx : x.Good) (hy : y.Good) (hz : z.Good) (px : PcS x.R x.r x.L x.l f 0) (py : PcS y.R y.r y.L y.l g 0) (pz : PcS z.R z.r z.L z.l k 0) (of : f.Ok) (og : g.Ok) (ok : k.Ok) (h : BestS [x, y, z] r er) :
    er = 3 ∨ (er = 0 ∧ r.Ok ∧ LEC f r ∧ LEC g r ∧ LEC k r) := by
  have key : ∀ {s : Cv} {fs : List Cv}, FoldX false s fs r er → er = 0 ∨ er = 1 ∨ er = 3 := fun {s fs} => by
    induction fs generalizing s with
    | nil => intro h; exact .inl h.2
    | cons f fs ih =>
      rintro ⟨t, e, h1, ⟨_, h2⟩ | ⟨h2, _, rfl⟩⟩
      · exact ih h2
      · rcases h1 with ⟨_, _, h⟩ | ⟨_, _, a, b, _, _, ⟨_, _, h⟩ | ⟨_, h⟩⟩
        · exact .inr (.inl h)
        · exact .inr (.inr h)
        · rcases h with ⟨_, _, h⟩ | ⟨_, _, h⟩
          · exact .inl h
          · exact .inr (.inr h)
  rcases h with ⟨h, _⟩ | ⟨h, _⟩ | ⟨_, _, ⟨p, hp, hn⟩, _⟩ | ⟨_, _, _, ⟨p, hp, q, hq, h0, _⟩ | ⟨q, qs, ⟨hl, hq⟩, hF⟩⟩
  · cases h
  · exact absurd h (by simp)
  · exfalso
    simp only [List.mem_cons, List.not_mem_nil, or_false] at hp
    rcases hp with rfl | rfl | rfl
    · exact hn hx
    · exact hn hy
    · exact hn hz
  · exfalso
    simp only [List.mem_cons, List.not_mem_nil, or_false] at hp
    rcases hp with rfl | rfl | rfl
    · exact h0 (hq.unique px).2
    · exact h0 (hq.unique py).2
    · exact h0 (hq.unique pz).2
  · obtain ⟨q2, q3, rfl⟩ : ∃ q2 q3, qs = [q2, q3] := by
      match qs, hl with
      | [a, b], _ => exact ⟨a, b, rfl⟩
    obtain ⟨rfl, _⟩ := (hq 0 x q rfl rfl).unique px
    obtain ⟨rfl, _⟩ := (hq 1 y q2 rfl rfl).unique py
    obtain ⟨rfl, _⟩ := (hq 2 z q3 rfl rfl).unique pz
    -- an error 1 cannot be
    have no1 : ∀ {s : Cv} {fs : List Cv}, s.Ok → (∀ g ∈ fs, g.Ok) → FoldX false s fs r er → er ≠ 1 := fun {s fs} => by
      induction fs generalizing s with
      | nil => intro _ _ h e; have := h.2; omega
      | cons f fs ih =>
        rintro hs hf ⟨t, e, h1, ⟨rfl, h2⟩ | ⟨h2, _, rfl⟩⟩
        · obtain ⟨_, _, k3, _⟩ := h1.ok0
          exact ih k3 (fun g hg => hf g (List.mem_cons_of_mem _ hg)) h2
        · rintro rfl
          rcases h1 with ⟨h, _⟩ | ⟨_, _, a, b, _, _, ⟨_, _, h⟩ | ⟨_, h⟩⟩
          · exact h ⟨hs, hf f (List.mem_cons_self ..)⟩
          · omega
          · rcases h with ⟨_, _, h⟩ | ⟨_, _, h⟩ <;> omega
    have n1 := no1 of (fun g hg => by
      simp only [List.mem_cons, List.not_mem_nil, or_false] at hg
      rcases hg with rfl | rfl
      · exact og
      · exact ok) hF
    rcases key hF with rfl | h | h
    · obtain ⟨m1, m2, m3⟩ := fold_up of hF
      exact .inr ⟨rfl, m1, m2, m3 _ (by simp), m3 _ (by simp)⟩
    · exact absurd h n1
    · exact .inl h
theorem EnvL.sto2 {p : Nat} {w0 w : World} (h : EnvL p w0 w []) {g : Nat} (hg : p < g) (h0 : w0.heap.size ≤ g) (i j : Nat) (x y : Value) : EnvL p w0 ((w.setCell ⟨g, i, none⟩ x).setCell ⟨g, j, none⟩ y) [] :=
  ⟨(h.s.far (a := ⟨g, i, none⟩) hg x).far (a := ⟨g, j, none⟩) hg y, (h.k.setCell (a := ⟨g, i, none⟩) (.inr h0) x).setCell (a := ⟨g, j, none⟩) (.inr h0) y, fun x hx => by cases hx⟩
theorem sg_add {R r c d : Int} (hR : GOk R r) (hc : GOk c d) (hR1 : R ≤ 27) (hr : r ≤ 3) (hc1 : c ≤ 10) (hd : d ≤ 2) :
    ∃ x y, fadd R r c d = (x, y, 0) ∧ GOk x y ∧ R * y ≤ x * r ∧ x ≤ 100 ∧ y ≤ 6 := by
  have hr0 := hR.1.1; have hd0 := hc.1.1; have hR0 := hR.2; have hc0 := hc.2
  obtain ⟨h1, h2, h3, h4, h5⟩ := fadd_fit hR hc (by omega) (by omega) (by omega) (by omega)
  have m1 : R * d ≤ 27 * 2 := Int.mul_le_mul hR1 hd (by omega) (by omega)
  have m2 : c * r ≤ 10 * 3 := Int.mul_le_mul hc1 hr (by omega) (by omega)
  have m3 : r * d ≤ 3 * 2 := Int.mul_le_mul hr hd (by omega) (by omega)
  refine ⟨(fadd R r c d).1, (fadd R r c d).2.1, ?_, h2, h3, by omega, by omega⟩
  rw [← h1]
set_option maxHeartbeats 4000000 in
set_option maxRecDepth 100000 in
theorem svGrows_any (A0 : Option Addr) (n0 c0 : Nat) (L0 : List Int) (w : World) (hL : Ints w w.heap.size A0 n0 L0) (hc0 : n0 ≤ c0) (hn0 : (n0 : Int) ≤ 9223372036854775807) :
    Calls Try.prog 12 #[.slice A0 n0 c0] w fun e w' => e = .returned (.bool true) ∧ Below w.heap.size w w' := by
  go_enter Try.func12, Try.ntmps12
  go_wp2_with fail
  refine (new_any A0 n0 c0 L0 w hL hc0 hn0).mono ?_
  rintro e w1 ⟨rfl, hS1, hb1⟩
  have E := Lib.hid (EnvL.start hS1 hb1)
  clear hL hS1 hb1
  go_wp2_with fail
  refine (srcFr_any w.heap.size 9 3 _ (by exact E.out.s) (by omega) (by omega) (by omega) (by omega)).mono ?_
  rintro e w2 ⟨R, r, hF1, rfl, hS, hk⟩
  have E := Lib.hid (E.out.kept hS hk)
  clear hS hk
  go_wp2_with fail
  refine (srcFr_any w.heap.size 6 3 _ (by exact E.out.s) (by omega) (by omega) (by omega) (by omega)).mono ?_
  rintro e w3 ⟨L, l, hF2, rfl, hS, hk⟩
  have E := Lib.hid (E.out.kept hS hk)
  clear hS hk
  obtain ⟨hR, hr1, hR1⟩ := hF1
  obtain ⟨hL, hl1, hL1⟩ := hF2
  have HR := Lib.hid hR; have HL := Lib.hid hL
  clear hR hL
  have hp3 := E.out.s.lt
  replace E := Lib.hid (E.out.alloc (.cells #[.int .i64 R, .int .i64 r, .int .i64 L, .int .i64 l] 25))
  have AB := Lib.hid (Blk.new w3 25 #[.int .i64 R, .int .i64 r, .int .i64 L, .int .i64 l])
  go_upto_region 3 with fail
  generalize hwe : w3.alloc (.cells #[.int .i64 R, .int .i64 r, .int .i64 L, .int .i64 l] 25) = w4 at *
  clear hwe
  generalize w3.heap.size = PA at *
  obtain ⟨a0, a1, a2, a3⟩ : _ ∧ _ ∧ _ ∧ _ := ⟨AB.out.cell 0, AB.out.cell 1, AB.out.cell 2, AB.out.cell 3⟩
  simp at a0 a1 a2 a3
  have hla := AB.out.lt
  have hab := AB.out.lt
  replace E := Lib.hid (E.out.alloc (.cells #[.int .i64 R, .int .i64 r, .int .i64 L, .int .i64 l] 25))
  replace AB := Lib.hid (AB.out.alloc (.cells #[.int .i64 R, .int .i64 r, .int .i64 L, .int .i64 l] 25))
  have BB := Lib.hid (Blk.new w4 25 #[.int .i64 R, .int .i64 r, .int .i64 L, .int .i64 l])
  go_upto_region 4 with fail
  generalize hwe : w4.alloc (.cells #[.int .i64 R, .int .i64 r, .int .i64 L, .int .i64 l] 25) = w5 at *
  clear hwe
  generalize w4.heap.size = PB at *
  go_cut [] (fun wx => ∃ x y : Int, GOk x y ∧ R * y ≤ x * r ∧ x ≤ 100 ∧ y ≤ 6 ∧ EnvL w.heap.size w wx [] ∧ Blk wx PA 25 #[.int .i64 R, .int .i64 r, .int .i64 L, .int .i64 l] ∧ Blk wx PB 25 #[.int .i64 x, .int .i64 y, .int .i64 L, .int .i64 l])
  case first =>
    have CB := Lib.hid BB.out
    clear BB
    -- CB the variable's block hypothesis, 3 top, 2 most, w5 the world, R r the old fraction, (sg_add HR.out hF.1 (by omega) (by omega) (by have := hF.2.2; omega) hF.2.1) facts, x y the sum, 0 first field, 1 second field, PB the variable's block
    have E := Lib.hid E.out.drew; have AB := Lib.hid (Blk.drew AB.out); have CB := Lib.hid (Blk.drew CB.out)
    try (have BB := Lib.hid (Blk.drew BB.out))
    clear a0 a1 a2 a3 hla
    obtain ⟨a0, a1, a2, a3⟩ : _ ∧ _ ∧ _ ∧ _ := ⟨AB.out.cell 0, AB.out.cell 1, AB.out.cell 2, AB.out.cell 3⟩
    simp at a0 a1 a2 a3
    have hla := AB.out.lt
    refine wp_region_held_drew (S := fun w' => w'.cell? ⟨PA, 0, none⟩ = some (.int .i64 R) ∧ w'.cell? ⟨PA, 1, none⟩ = some (.int .i64 r) ∧ w'.cell? ⟨PA, 2, none⟩ = some (.int .i64 L) ∧ w'.cell? ⟨PA, 3, none⟩ = some (.int .i64 l)) (by kernel_rfl) ⟨a0, a1, a2, a3⟩ (fun hHeld => ?_)
    generalize hwd : w5.drew = wd at *
    clear hwd
    refine wpAnyH_take (i := 0) (oi := _) (v := ?_) (by simp only [List.getElem?_toArray, List.getElem?_cons_zero]; rfl) (by kernel_rfl) (by kernel_rfl) (by kernel_rfl) (by exact fun _ _ _ h => h) (Or.inl ⟨by rfl, ?_⟩) (by assumption) ?_
    rotate_left 1
    · (intro w hSw; (try dsimp only at hSw); go_simp; try with_reducible rfl)
    all_goals try simp only [Act.put]
    all_goals try simp only [List.setIfInBounds_toArray]
    all_goals try simp only [List.set_cons_succ]
    all_goals try simp only [List.set_cons_zero]
    refine wpAnyH_take (i := 1) (oi := _) (v := ?_) (by simp only [List.getElem?_toArray, List.getElem?_cons_succ, List.getElem?_cons_zero]; rfl) (by kernel_rfl) (by kernel_rfl) (by kernel_rfl) (by exact fun _ _ _ h => h) (Or.inl ⟨by rfl, ?_⟩) (by assumption) ?_
    rotate_left 1
    · (intro w hSw; (try dsimp only at hSw); go_simp; try with_reducible rfl)
    all_goals try simp only [Act.put]
    all_goals try simp only [List.setIfInBounds_toArray]
    all_goals try simp only [List.set_cons_succ]
    all_goals try simp only [List.set_cons_zero]
    refine wpAnyH_take (i := 2) (oi := _) (v := ?_) (by simp only [List.getElem?_toArray, List.getElem?_cons_succ, List.getElem?_cons_zero]; rfl) (by kernel_rfl) (by kernel_rfl) (by kernel_rfl) (by exact fun _ _ _ h => h) (Or.inl ⟨by rfl, ?_⟩) (by assumption) ?_
    rotate_left 1
    · (intro w hSw; (try dsimp only at hSw); go_simp; try with_reducible rfl)
    all_goals try simp only [Act.put]
    all_goals try simp only [List.setIfInBounds_toArray]
    all_goals try simp only [List.set_cons_succ]
    all_goals try simp only [List.set_cons_zero]
    refine wpAnyH_ready (rs := [3]) (by kernel_rfl) (by simp) ?_
    refine (AllReadyH.cons (by simp only [List.getElem?_toArray, List.getElem?_cons_succ, List.getElem?_cons_zero]; rfl) (fun K hK => ?_) AllReadyH.nil)
    rw [if_pos (by rfl)]
    go_simp
    refine (srcFr_any w.heap.size 3 2 wd (by exact E.out.s) (by omega) (by omega) (by omega) (by omega)).mono ?_
    rintro e wa ⟨c, d, hF, rfl, hS, hk⟩
    have hps := E.out.s.lt
    have AB := Lib.hid (AB.out.kept (by omega) hk); have CB := Lib.hid (CB.out.kept (by omega) hk)
    try (have BB := Lib.hid (BB.out.kept (by omega) hk))
    have E := Lib.hid (E.out.kept hS hk)
    clear hS hk hps hHeld
    clear a0 a1 a2 a3 hla
    obtain ⟨a0, a1, a2, a3⟩ : _ ∧ _ ∧ _ ∧ _ := ⟨AB.out.cell 0, AB.out.cell 1, AB.out.cell 2, AB.out.cell 3⟩
    simp at a0 a1 a2 a3
    have hla := AB.out.lt
    refine hK.out _ _ (by exact ⟨a0, a1, a2, a3⟩) (fun hHeld => ?_)
    clear hK K
    try simp only [Act.put]
    try simp only [List.setIfInBounds_toArray]
    try simp only [List.set_cons_succ]
    try simp only [List.set_cons_zero]
    refine wpAnyH_ready (rs := [4]) (by kernel_rfl) (by simp) ?_
    refine (AllReadyH.cons (by simp only [List.getElem?_toArray, List.getElem?_cons_succ, List.getElem?_cons_zero]; rfl) (fun K hK => ?_) AllReadyH.nil)
    rw [if_pos (by rfl)]
    go_simp
    obtain ⟨x, y, hq, hq1, hq2, hq3, hq4⟩ := (sg_add HR.out hF.1 (by omega) (by omega) (by have := hF.2.2; omega) hF.2.1)
    refine (radd_any R r c d wa).mono ?_
    rw [hq]
    rintro e wb ⟨rfl, hb⟩
    have E := Lib.hid (E.out.below hb); have AB := Lib.hid (AB.out.below hb AB.out.lt); have CB := Lib.hid (CB.out.below hb CB.out.lt)
    try (have BB := Lib.hid (BB.out.below hb BB.out.lt))
    have HQ1 := Lib.hid hq1; have HQ2 := Lib.hid hq2
    clear hb hq hq1 hq2 hHeld
    dsimp only
    clear a0 a1 a2 a3 hla
    obtain ⟨a0, a1, a2, a3⟩ : _ ∧ _ ∧ _ ∧ _ := ⟨AB.out.cell 0, AB.out.cell 1, AB.out.cell 2, AB.out.cell 3⟩
    simp at a0 a1 a2 a3
    have hla := AB.out.lt
    refine hK.out _ _ (by exact ⟨a0, a1, a2, a3⟩) (fun hHeld => ?_)
    clear hK K
    try simp only [Act.put]
    try simp only [List.setIfInBounds_toArray]
    try simp only [List.set_cons_succ]
    try simp only [List.set_cons_zero]
    refine wpAnyH_take (i := 5) (oi := _) (v := ?_) (by simp only [List.getElem?_toArray, List.getElem?_cons_succ, List.getElem?_cons_zero]; rfl) (by kernel_rfl) (by kernel_rfl) (by kernel_rfl) (by exact fun _ _ _ h => h) (Or.inl ⟨by rfl, ?_⟩) (by assumption) ?_
    rotate_left 1
    · (intro w hSw; (try dsimp only at hSw); go_simp; try with_reducible rfl)
    all_goals try simp only [Act.put]
    all_goals try simp only [List.setIfInBounds_toArray]
    all_goals try simp only [List.set_cons_succ]
    all_goals try simp only [List.set_cons_zero]
    refine wpAnyH_take (i := 6) (oi := _) (v := ?_) (by simp only [List.getElem?_toArray, List.getElem?_cons_succ, List.getElem?_cons_zero]; rfl) (by kernel_rfl) (by kernel_rfl) (by kernel_rfl) (by exact fun _ _ _ h => h) (Or.inl ⟨by rfl, ?_⟩) (by assumption) ?_
    rotate_left 1
    · (intro w hSw; (try dsimp only at hSw); go_simp; try with_reducible rfl)
    all_goals try simp only [Act.put]
    all_goals try simp only [List.setIfInBounds_toArray]
    all_goals try simp only [List.set_cons_succ]
    all_goals try simp only [List.set_cons_zero]
    refine wpAnyH_take (i := 7) (oi := _) (v := ?_) (by simp only [List.getElem?_toArray, List.getElem?_cons_succ, List.getElem?_cons_zero]; rfl) (by kernel_rfl) (by kernel_rfl) (by kernel_rfl) (by exact fun _ _ _ h => h) (Or.inl ⟨by rfl, ?_⟩) (by assumption) ?_
    rotate_left 1
    · (intro w hSw; (try dsimp only at hSw); go_simp; try with_reducible rfl)
    all_goals try simp only [Act.put]
    all_goals try simp only [List.setIfInBounds_toArray]
    all_goals try simp only [List.set_cons_succ]
    all_goals try simp only [List.set_cons_zero]
    refine wpAnyH_take (i := 8) (oi := _) (v := ?_) (by simp only [List.getElem?_toArray, List.getElem?_cons_succ, List.getElem?_cons_zero]; rfl) (by kernel_rfl) (by kernel_rfl) (by kernel_rfl) (by exact fun _ _ _ h => h) (Or.inl ⟨by rfl, ?_⟩) (by assumption) ?_
    rotate_left 1
    · (intro w hSw; (try dsimp only at hSw); go_simp; try with_reducible rfl)
    all_goals try simp only [Act.put]
    all_goals try simp only [List.setIfInBounds_toArray]
    all_goals try simp only [List.set_cons_succ]
    all_goals try simp only [List.set_cons_zero]
    have hvl := CB.out.lt
    obtain ⟨⟨v0, v1⟩, ⟨y0, y1⟩⟩ : (_ ∧ _) ∧ (_ ∧ _) := ⟨⟨CB.out.cell 0, CB.out.cell 1⟩, ⟨CB.out.frozen 0, CB.out.frozen 1⟩⟩
    simp at v0 v1
    refine wpAnyH_ready (rs := [9]) (by kernel_rfl) (by simp) ?_
    refine (AllReadyH.cons (by simp only [List.getElem?_toArray, List.getElem?_cons_succ, List.getElem?_cons_zero]; rfl) (fun K hK => ?_) AllReadyH.nil)
    rw [if_pos (by rfl)]
    go_simp
    have E := Lib.hid (E.out.sto2 (show w.heap.size < PB by omega) (show w.heap.size ≤ PB by omega) 0 1 (.int .i64 x) (.int .i64 y))
    have AB := Lib.hid ((AB.out.far (p := ⟨PB, 0, none⟩) (by simp; omega) (.int .i64 x)).far (p := ⟨PB, 1, none⟩) (by simp; omega) (.int .i64 y))
    try (have BB := Lib.hid ((BB.out.far (p := ⟨PB, 0, none⟩) (by simp; omega) (.int .i64 x)).far (p := ⟨PB, 1, none⟩) (by simp; omega) (.int .i64 y)))
    have CB := Lib.hid ((CB.out.set_ 0 (.int .i64 x)).set_ 1 (.int .i64 y))
    clear hHeld v0 v1 y0 y1 hvl
    clear a0 a1 a2 a3 hla
    generalize hws : (wb.setCell ⟨PB, 0, none⟩ (.int .i64 x)).setCell ⟨PB, 1, none⟩ (.int .i64 y) = ws at *
    clear hws
    simp only [List.setIfInBounds_toArray, List.set_cons_succ, List.set_cons_zero] at CB
    obtain ⟨a0, a1, a2, a3⟩ : _ ∧ _ ∧ _ ∧ _ := ⟨AB.out.cell 0, AB.out.cell 1, AB.out.cell 2, AB.out.cell 3⟩
    simp at a0 a1 a2 a3
    have hla := AB.out.lt
    refine hK.out _ _ (by exact ⟨a0, a1, a2, a3⟩) (fun hHeld => ?_)
    clear hK K
    try simp only [Act.put]
    try simp only [List.setIfInBounds_toArray]
    try simp only [List.set_cons_succ]
    try simp only [List.set_cons_zero]
    refine wpAnyH_done (by kernel_rfl) ?_ _
    clear hHeld
    go_wp2_with fail
    go_meet
    exact ⟨x, y, HQ1.out, HQ2.out, hq3, hq4, E.out, AB.out, CB.out⟩
  case rest =>
    clear E AB BB
    clear a0 a1 a2 a3 hla
    obtain ⟨x, y, hxy, hxr, hx1, hy1, hE, hA, hB⟩ := hcut
    have E := Lib.hid hE; have AB := Lib.hid hA; have BB := Lib.hid hB; have HX := Lib.hid hxy; have HXR := Lib.hid hxr
    clear hE hA hB hxy hxr
    obtain ⟨a0, a1, a2, a3⟩ : _ ∧ _ ∧ _ ∧ _ := ⟨AB.out.cell 0, AB.out.cell 1, AB.out.cell 2, AB.out.cell 3⟩
    simp at a0 a1 a2 a3
    have hla := AB.out.lt
    have hlb := BB.out.lt
    replace E := Lib.hid (E.out.alloc (.cells #[.int .i64 R, .int .i64 r, .int .i64 L, .int .i64 l] 25))
    replace AB := Lib.hid (AB.out.alloc (.cells #[.int .i64 R, .int .i64 r, .int .i64 L, .int .i64 l] 25)); replace BB := Lib.hid (BB.out.alloc (.cells #[.int .i64 R, .int .i64 r, .int .i64 L, .int .i64 l] 25))
    have CB := Lib.hid (Blk.new wc 25 #[.int .i64 R, .int .i64 r, .int .i64 L, .int .i64 l])
    go_upto_region 6 with fail
    generalize hwe : wc.alloc (.cells #[.int .i64 R, .int .i64 r, .int .i64 L, .int .i64 l] 25) = w6 at *
    clear hwe
    generalize wc.heap.size = PC at *
    go_cut [] (fun wx => ∃ u v : Int, GOk u v ∧ L * v ≤ u * l ∧ u ≤ 100 ∧ v ≤ 6 ∧ EnvL w.heap.size w wx [] ∧ Blk wx PA 25 #[.int .i64 R, .int .i64 r, .int .i64 L, .int .i64 l] ∧ Blk wx PB 25 #[.int .i64 x, .int .i64 y, .int .i64 L, .int .i64 l] ∧ Blk wx PC 25 #[.int .i64 R, .int .i64 r, .int .i64 u, .int .i64 v])
    case first =>
      -- CB the variable's block hypothesis, 5 top, 2 most, w6 the world, L l the old fraction, (sg_add HL.out hF.1 (by omega) (by omega) (by have := hF.2.2; omega) hF.2.1) facts, u v the sum, 2 first field, 3 second field, PC the variable's block
      have E := Lib.hid E.out.drew; have AB := Lib.hid (Blk.drew AB.out); have CB := Lib.hid (Blk.drew CB.out)
      try (have BB := Lib.hid (Blk.drew BB.out))
      clear a0 a1 a2 a3 hla
      obtain ⟨a0, a1, a2, a3⟩ : _ ∧ _ ∧ _ ∧ _ := ⟨AB.out.cell 0, AB.out.cell 1, AB.out.cell 2, AB.out.cell 3⟩
      simp at a0 a1 a2 a3
      have hla := AB.out.lt
      refine wp_region_held_drew (S := fun w' => w'.cell? ⟨PA, 0, none⟩ = some (.int .i64 R) ∧ w'.cell? ⟨PA, 1, none⟩ = some (.int .i64 r) ∧ w'.cell? ⟨PA, 2, none⟩ = some (.int .i64 L) ∧ w'.cell? ⟨PA, 3, none⟩ = some (.int .i64 l)) (by kernel_rfl) ⟨a0, a1, a2, a3⟩ (fun hHeld => ?_)
      generalize hwd : w6.drew = wd at *
      clear hwd
      refine wpAnyH_take (i := 0) (oi := _) (v := ?_) (by simp only [List.getElem?_toArray, List.getElem?_cons_zero]; rfl) (by kernel_rfl) (by kernel_rfl) (by kernel_rfl) (by exact fun _ _ _ h => h) (Or.inl ⟨by rfl, ?_⟩) (by assumption) ?_
      rotate_left 1
      · (intro w hSw; (try dsimp only at hSw); go_simp; try with_reducible rfl)
      all_goals try simp only [Act.put]
      all_goals try simp only [List.setIfInBounds_toArray]
      all_goals try simp only [List.set_cons_succ]
      all_goals try simp only [List.set_cons_zero]
      refine wpAnyH_take (i := 1) (oi := _) (v := ?_) (by simp only [List.getElem?_toArray, List.getElem?_cons_succ, List.getElem?_cons_zero]; rfl) (by kernel_rfl) (by kernel_rfl) (by kernel_rfl) (by exact fun _ _ _ h => h) (Or.inl ⟨by rfl, ?_⟩) (by assumption) ?_
      rotate_left 1
      · (intro w hSw; (try dsimp only at hSw); go_simp; try with_reducible rfl)
      all_goals try simp only [Act.put]
      all_goals try simp only [List.setIfInBounds_toArray]
      all_goals try simp only [List.set_cons_succ]
      all_goals try simp only [List.set_cons_zero]
      refine wpAnyH_take (i := 2) (oi := _) (v := ?_) (by simp only [List.getElem?_toArray, List.getElem?_cons_succ, List.getElem?_cons_zero]; rfl) (by kernel_rfl) (by kernel_rfl) (by kernel_rfl) (by exact fun _ _ _ h => h) (Or.inl ⟨by rfl, ?_⟩) (by assumption) ?_
      rotate_left 1
      · (intro w hSw; (try dsimp only at hSw); go_simp; try with_reducible rfl)
      all_goals try simp only [Act.put]
      all_goals try simp only [List.setIfInBounds_toArray]
      all_goals try simp only [List.set_cons_succ]
      all_goals try simp only [List.set_cons_zero]
      refine wpAnyH_ready (rs := [3]) (by kernel_rfl) (by simp) ?_
      refine (AllReadyH.cons (by simp only [List.getElem?_toArray, List.getElem?_cons_succ, List.getElem?_cons_zero]; rfl) (fun K hK => ?_) AllReadyH.nil)
      rw [if_pos (by rfl)]
      go_simp
      refine (srcFr_any w.heap.size 5 2 wd (by exact E.out.s) (by omega) (by omega) (by omega) (by omega)).mono ?_
      rintro e wa ⟨c, d, hF, rfl, hS, hk⟩
      have hps := E.out.s.lt
      have AB := Lib.hid (AB.out.kept (by omega) hk); have CB := Lib.hid (CB.out.kept (by omega) hk)
      try (have BB := Lib.hid (BB.out.kept (by omega) hk))
      have E := Lib.hid (E.out.kept hS hk)
      clear hS hk hps hHeld
      clear a0 a1 a2 a3 hla
      obtain ⟨a0, a1, a2, a3⟩ : _ ∧ _ ∧ _ ∧ _ := ⟨AB.out.cell 0, AB.out.cell 1, AB.out.cell 2, AB.out.cell 3⟩
      simp at a0 a1 a2 a3
      have hla := AB.out.lt
      refine hK.out _ _ (by exact ⟨a0, a1, a2, a3⟩) (fun hHeld => ?_)
      clear hK K
      try simp only [Act.put]
      try simp only [List.setIfInBounds_toArray]
      try simp only [List.set_cons_succ]
      try simp only [List.set_cons_zero]
      refine wpAnyH_ready (rs := [4]) (by kernel_rfl) (by simp) ?_
      refine (AllReadyH.cons (by simp only [List.getElem?_toArray, List.getElem?_cons_succ, List.getElem?_cons_zero]; rfl) (fun K hK => ?_) AllReadyH.nil)
      rw [if_pos (by rfl)]
      go_simp
      obtain ⟨u, v, hq, hq1, hq2, hq3, hq4⟩ := (sg_add HL.out hF.1 (by omega) (by omega) (by have := hF.2.2; omega) hF.2.1)
      refine (radd_any L l c d wa).mono ?_
      rw [hq]
      rintro e wb ⟨rfl, hb⟩
      have E := Lib.hid (E.out.below hb); have AB := Lib.hid (AB.out.below hb AB.out.lt); have CB := Lib.hid (CB.out.below hb CB.out.lt)
      try (have BB := Lib.hid (BB.out.below hb BB.out.lt))
      have HQ1 := Lib.hid hq1; have HQ2 := Lib.hid hq2
      clear hb hq hq1 hq2 hHeld
      dsimp only
      clear a0 a1 a2 a3 hla
      obtain ⟨a0, a1, a2, a3⟩ : _ ∧ _ ∧ _ ∧ _ := ⟨AB.out.cell 0, AB.out.cell 1, AB.out.cell 2, AB.out.cell 3⟩
      simp at a0 a1 a2 a3
      have hla := AB.out.lt
      refine hK.out _ _ (by exact ⟨a0, a1, a2, a3⟩) (fun hHeld => ?_)
      clear hK K
      try simp only [Act.put]
      try simp only [List.setIfInBounds_toArray]
      try simp only [List.set_cons_succ]
      try simp only [List.set_cons_zero]
      refine wpAnyH_take (i := 5) (oi := _) (v := ?_) (by simp only [List.getElem?_toArray, List.getElem?_cons_succ, List.getElem?_cons_zero]; rfl) (by kernel_rfl) (by kernel_rfl) (by kernel_rfl) (by exact fun _ _ _ h => h) (Or.inl ⟨by rfl, ?_⟩) (by assumption) ?_
      rotate_left 1
      · (intro w hSw; (try dsimp only at hSw); go_simp; try with_reducible rfl)
      all_goals try simp only [Act.put]
      all_goals try simp only [List.setIfInBounds_toArray]
      all_goals try simp only [List.set_cons_succ]
      all_goals try simp only [List.set_cons_zero]
      refine wpAnyH_take (i := 6) (oi := _) (v := ?_) (by simp only [List.getElem?_toArray, List.getElem?_cons_succ, List.getElem?_cons_zero]; rfl) (by kernel_rfl) (by kernel_rfl) (by kernel_rfl) (by exact fun _ _ _ h => h) (Or.inl ⟨by rfl, ?_⟩) (by assumption) ?_
      rotate_left 1
      · (intro w hSw; (try dsimp only at hSw); go_simp; try with_reducible rfl)
      all_goals try simp only [Act.put]
      all_goals try simp only [List.setIfInBounds_toArray]
      all_goals try simp only [List.set_cons_succ]
      all_goals try simp only [List.set_cons_zero]
      refine wpAnyH_take (i := 7) (oi := _) (v := ?_) (by simp only [List.getElem?_toArray, List.getElem?_cons_succ, List.getElem?_cons_zero]; rfl) (by kernel_rfl) (by kernel_rfl) (by kernel_rfl) (by exact fun _ _ _ h => h) (Or.inl ⟨by rfl, ?_⟩) (by assumption) ?_
      rotate_left 1
      · (intro w hSw; (try dsimp only at hSw); go_simp; try with_reducible rfl)
      all_goals try simp only [Act.put]
      all_goals try simp only [List.setIfInBounds_toArray]
      all_goals try simp only [List.set_cons_succ]
      all_goals try simp only [List.set_cons_zero]
      refine wpAnyH_take (i := 8) (oi := _) (v := ?_) (by simp only [List.getElem?_toArray, List.getElem?_cons_succ, List.getElem?_cons_zero]; rfl) (by kernel_rfl) (by kernel_rfl) (by kernel_rfl) (by exact fun _ _ _ h => h) (Or.inl ⟨by rfl, ?_⟩) (by assumption) ?_
      rotate_left 1
      · (intro w hSw; (try dsimp only at hSw); go_simp; try with_reducible rfl)
      all_goals try simp only [Act.put]
      all_goals try simp only [List.setIfInBounds_toArray]
      all_goals try simp only [List.set_cons_succ]
      all_goals try simp only [List.set_cons_zero]
      have hvl := CB.out.lt
      obtain ⟨⟨v0, v1⟩, ⟨y0, y1⟩⟩ : (_ ∧ _) ∧ (_ ∧ _) := ⟨⟨CB.out.cell 2, CB.out.cell 3⟩, ⟨CB.out.frozen 2, CB.out.frozen 3⟩⟩
      simp at v0 v1
      refine wpAnyH_ready (rs := [9]) (by kernel_rfl) (by simp) ?_
      refine (AllReadyH.cons (by simp only [List.getElem?_toArray, List.getElem?_cons_succ, List.getElem?_cons_zero]; rfl) (fun K hK => ?_) AllReadyH.nil)
      rw [if_pos (by rfl)]
      go_simp
      have E := Lib.hid (E.out.sto2 (show w.heap.size < PC by omega) (show w.heap.size ≤ PC by omega) 2 3 (.int .i64 u) (.int .i64 v))
      have AB := Lib.hid ((AB.out.far (p := ⟨PC, 2, none⟩) (by simp; omega) (.int .i64 u)).far (p := ⟨PC, 3, none⟩) (by simp; omega) (.int .i64 v))
      try (have BB := Lib.hid ((BB.out.far (p := ⟨PC, 2, none⟩) (by simp; omega) (.int .i64 u)).far (p := ⟨PC, 3, none⟩) (by simp; omega) (.int .i64 v)))
      have CB := Lib.hid ((CB.out.set_ 2 (.int .i64 u)).set_ 3 (.int .i64 v))
      clear hHeld v0 v1 y0 y1 hvl
      clear a0 a1 a2 a3 hla
      generalize hws : (wb.setCell ⟨PC, 2, none⟩ (.int .i64 u)).setCell ⟨PC, 3, none⟩ (.int .i64 v) = ws at *
      clear hws
      simp only [List.setIfInBounds_toArray, List.set_cons_succ, List.set_cons_zero] at CB
      obtain ⟨a0, a1, a2, a3⟩ : _ ∧ _ ∧ _ ∧ _ := ⟨AB.out.cell 0, AB.out.cell 1, AB.out.cell 2, AB.out.cell 3⟩
      simp at a0 a1 a2 a3
      have hla := AB.out.lt
      refine hK.out _ _ (by exact ⟨a0, a1, a2, a3⟩) (fun hHeld => ?_)
      clear hK K
      try simp only [Act.put]
      try simp only [List.setIfInBounds_toArray]
      try simp only [List.set_cons_succ]
      try simp only [List.set_cons_zero]
      refine wpAnyH_done (by kernel_rfl) ?_ _
      clear hHeld
      go_wp2_with fail
      go_meet
      exact ⟨u, v, HQ1.out, HQ2.out, hq3, hq4, E.out, AB.out, BB.out, CB.out⟩
    case rest =>
      clear E AB BB CB
      clear a0 a1 a2 a3 hla
      obtain ⟨u, v, huv, huL, hu1, hv1, hE, hA, hB, hC⟩ := hcut
      have E := Lib.hid hE; have AB := Lib.hid hA; have BB := Lib.hid hB; have CB := Lib.hid hC; have HU := Lib.hid huv; have HUL := Lib.hid huL
      clear hE hA hB hC huv huL
      -- R r L l the pace, HR.out HL.out its facts, f the curve's name, _ the world, w7 the world behind, 8 the next region, A n c the slice
      obtain ⟨⟨f, h1, h2, h3⟩, h4⟩ := pace_cur HR.out (by omega) (by omega) HL.out (by omega)
      have Nf := Lib.hid h1; have Of := Lib.hid h3
      have Ff := Lib.hid (show f.Fin from nf_fin h1 h3 (fun t ht => small_ne (by have := pc_bd HR.out HL.out (k := t) (by omega); omega)))
      have LM := Lib.hid h2; have CD := Lib.hid h4
      have nf := h3.n2
      clear h1 h2 h3 h4
      obtain ⟨a0, a1, a2, a3⟩ : _ ∧ _ ∧ _ ∧ _ := ⟨AB.out.cell 0, AB.out.cell 1, AB.out.cell 2, AB.out.cell 3⟩
      obtain ⟨b0, b1, b2, b3⟩ : _ ∧ _ ∧ _ ∧ _ := ⟨BB.out.cell 0, BB.out.cell 1, BB.out.cell 2, BB.out.cell 3⟩
      obtain ⟨c0', c1', c2', c3'⟩ : _ ∧ _ ∧ _ ∧ _ := ⟨CB.out.cell 0, CB.out.cell 1, CB.out.cell 2, CB.out.cell 3⟩
      simp at a0 a1 a2 a3 b0 b1 b2 b3 c0' c1' c2' c3'
      have hla := AB.out.lt; have hlb := BB.out.lt; have hlc := CB.out.lt
      go_wp2_with fail
      refine (pace_any R r L l _).mono ?_
      rintro e w7 ⟨f', er, hS, A, n, c, rfl, hI, hA, hb⟩
      obtain ⟨rfl, rfl⟩ : f = f' ∧ er = 0 := (fun h => ⟨h.1.symm, h.2⟩) <| pace_made HR.out (by omega) HL.out CD.out hS Nf.out LM.out
      have hl := hI.1
      rw [hl] at nf
      have Pf := Lib.hid hS
      have hps := E.out.s.lt
      have E := Lib.hid (show EnvL w.heap.size w _ _ from (E.out.below hb).push (X := ⟨A, n, c, f⟩) (CR.In.new hI hA hps))
      dsimp only [List.cons_append, List.nil_append] at E
      -- blocks over a Below
      replace AB := Lib.hid (AB.out.below hb AB.out.lt); replace BB := Lib.hid (BB.out.below hb BB.out.lt); replace CB := Lib.hid (CB.out.below hb CB.out.lt)
      replace AB := Lib.hid (AB.out.alloc (.cells #[.slice A n c, .int .i64 f.per, .int .i64 f.inc] 44)); replace BB := Lib.hid (BB.out.alloc (.cells #[.slice A n c, .int .i64 f.per, .int .i64 f.inc] 44)); replace CB := Lib.hid (CB.out.alloc (.cells #[.slice A n c, .int .i64 f.per, .int .i64 f.inc] 44))
      clear hS hI hA hb hps hl LM CD
      clear a0 a1 a2 a3 b0 b1 b2 b3 c0' c1' c2' c3' hla hlb hlc
      go_upto_region 8 with fail
      generalize hwe : w7.alloc (.cells #[.slice A n c, .int .i64 f.per, .int .i64 f.inc] 44) = w8 at *
      clear hwe
      generalize w7.heap.size = F at *
      -- x y L l the pace, HX.out HL.out its facts, g the curve's name, _ the world, w9 the world behind, 9 the next region, B m d the slice
      obtain ⟨⟨g, h1, h2, h3⟩, h4⟩ := pace_cur HX.out (by omega) (by omega) HL.out (by omega)
      have Ng := Lib.hid h1; have Og := Lib.hid h3
      have Fg := Lib.hid (show g.Fin from nf_fin h1 h3 (fun t ht => small_ne (by have := pc_bd HX.out HL.out (k := t) (by omega); omega)))
      have LM := Lib.hid h2; have CD := Lib.hid h4
      have ng := h3.n2
      clear h1 h2 h3 h4
      obtain ⟨a0, a1, a2, a3⟩ : _ ∧ _ ∧ _ ∧ _ := ⟨AB.out.cell 0, AB.out.cell 1, AB.out.cell 2, AB.out.cell 3⟩
      obtain ⟨b0, b1, b2, b3⟩ : _ ∧ _ ∧ _ ∧ _ := ⟨BB.out.cell 0, BB.out.cell 1, BB.out.cell 2, BB.out.cell 3⟩
      obtain ⟨c0', c1', c2', c3'⟩ : _ ∧ _ ∧ _ ∧ _ := ⟨CB.out.cell 0, CB.out.cell 1, CB.out.cell 2, CB.out.cell 3⟩
      simp at a0 a1 a2 a3 b0 b1 b2 b3 c0' c1' c2' c3'
      have hla := AB.out.lt; have hlb := BB.out.lt; have hlc := CB.out.lt
      go_wp2_with fail
      refine (pace_any x y L l _).mono ?_
      rintro e w9 ⟨f', er, hS, B, m, d, rfl, hI, hA, hb⟩
      obtain ⟨rfl, rfl⟩ : g = f' ∧ er = 0 := (fun h => ⟨h.1.symm, h.2⟩) <| pace_made HX.out (by omega) HL.out CD.out hS Ng.out LM.out
      have hl := hI.1
      rw [hl] at ng
      have Pg := Lib.hid hS
      have hps := E.out.s.lt
      have E := Lib.hid (show EnvL w.heap.size w _ _ from (E.out.below hb).push (X := ⟨B, m, d, g⟩) (CR.In.new hI hA hps))
      dsimp only [List.cons_append, List.nil_append] at E
      -- blocks over a Below
      replace AB := Lib.hid (AB.out.below hb AB.out.lt); replace BB := Lib.hid (BB.out.below hb BB.out.lt); replace CB := Lib.hid (CB.out.below hb CB.out.lt)
      replace AB := Lib.hid (AB.out.alloc (.cells #[.slice B m d, .int .i64 g.per, .int .i64 g.inc] 44)); replace BB := Lib.hid (BB.out.alloc (.cells #[.slice B m d, .int .i64 g.per, .int .i64 g.inc] 44)); replace CB := Lib.hid (CB.out.alloc (.cells #[.slice B m d, .int .i64 g.per, .int .i64 g.inc] 44))
      clear hS hI hA hb hps hl LM CD
      clear a0 a1 a2 a3 b0 b1 b2 b3 c0' c1' c2' c3' hla hlb hlc
      go_upto_region 9 with fail
      generalize hwe : w9.alloc (.cells #[.slice B m d, .int .i64 g.per, .int .i64 g.inc] 44) = w10 at *
      clear hwe
      generalize w9.heap.size = G at *
      -- R r u v the pace, HR.out HU.out its facts, k the curve's name, _ the world, w11 the world behind, 10 the next region, C o q the slice
      obtain ⟨⟨k, h1, h2, h3⟩, h4⟩ := pace_cur HR.out (by omega) (by omega) HU.out (by omega)
      have Nk := Lib.hid h1; have Ok := Lib.hid h3
      have Fk := Lib.hid (show k.Fin from nf_fin h1 h3 (fun t ht => small_ne (by have := pc_bd HR.out HU.out (k := t) (by omega); omega)))
      have LM := Lib.hid h2; have CD := Lib.hid h4
      have nk := h3.n2
      clear h1 h2 h3 h4
      obtain ⟨a0, a1, a2, a3⟩ : _ ∧ _ ∧ _ ∧ _ := ⟨AB.out.cell 0, AB.out.cell 1, AB.out.cell 2, AB.out.cell 3⟩
      obtain ⟨b0, b1, b2, b3⟩ : _ ∧ _ ∧ _ ∧ _ := ⟨BB.out.cell 0, BB.out.cell 1, BB.out.cell 2, BB.out.cell 3⟩
      obtain ⟨c0', c1', c2', c3'⟩ : _ ∧ _ ∧ _ ∧ _ := ⟨CB.out.cell 0, CB.out.cell 1, CB.out.cell 2, CB.out.cell 3⟩
      simp at a0 a1 a2 a3 b0 b1 b2 b3 c0' c1' c2' c3'
      have hla := AB.out.lt; have hlb := BB.out.lt; have hlc := CB.out.lt
      go_wp2_with fail
      refine (pace_any R r u v _).mono ?_
      rintro e w11 ⟨f', er, hS, C, o, q, rfl, hI, hA, hb⟩
      obtain ⟨rfl, rfl⟩ : k = f' ∧ er = 0 := (fun h => ⟨h.1.symm, h.2⟩) <| pace_made HR.out (by omega) HU.out CD.out hS Nk.out LM.out
      have hl := hI.1
      rw [hl] at nk
      have Pk := Lib.hid hS
      have hps := E.out.s.lt
      have E := Lib.hid (show EnvL w.heap.size w _ _ from (E.out.below hb).push (X := ⟨C, o, q, k⟩) (CR.In.new hI hA hps))
      dsimp only [List.cons_append, List.nil_append] at E
      -- blocks over a Below
      replace AB := Lib.hid (AB.out.below hb AB.out.lt); replace BB := Lib.hid (BB.out.below hb BB.out.lt); replace CB := Lib.hid (CB.out.below hb CB.out.lt)
      replace AB := Lib.hid (AB.out.alloc (.cells #[.slice C o q, .int .i64 k.per, .int .i64 k.inc] 44)); replace BB := Lib.hid (BB.out.alloc (.cells #[.slice C o q, .int .i64 k.per, .int .i64 k.inc] 44)); replace CB := Lib.hid (CB.out.alloc (.cells #[.slice C o q, .int .i64 k.per, .int .i64 k.inc] 44))
      clear hS hI hA hb hps hl LM CD
      clear a0 a1 a2 a3 b0 b1 b2 b3 c0' c1' c2' c3' hla hlb hlc
      go_upto_region 10 with fail
      generalize hwe : w11.alloc (.cells #[.slice C o q, .int .i64 k.per, .int .i64 k.inc] 44) = w12 at *
      clear hwe
      generalize w11.heap.size = H at *
      have T1 := Lib.hid (show AtM f g true from (nf_lec Nf.out Ng.out Ff.out (fun t => pc_rate HR.out.2 HR.out.1.1 HX.out.2 HX.out.1.1 HL.out.1.1 HXR.out t)).atm Of.out Og.out)
      have T2 := Lib.hid (show AtM k f true from (nf_lec Nk.out Nf.out Fk.out (fun t => pc_lat HR.out.2 HR.out.1.1 HL.out.1.1 HU.out.1.1 HUL.out t)).atm Ok.out Of.out)
      obtain ⟨a0, a1, a2, a3⟩ : _ ∧ _ ∧ _ ∧ _ := ⟨AB.out.cell 0, AB.out.cell 1, AB.out.cell 2, AB.out.cell 3⟩
      obtain ⟨b0, b1, b2, b3⟩ : _ ∧ _ ∧ _ ∧ _ := ⟨BB.out.cell 0, BB.out.cell 1, BB.out.cell 2, BB.out.cell 3⟩
      obtain ⟨c0', c1', c2', c3'⟩ : _ ∧ _ ∧ _ ∧ _ := ⟨CB.out.cell 0, CB.out.cell 1, CB.out.cell 2, CB.out.cell 3⟩
      simp at a0 a1 a2 a3 b0 b1 b2 b3 c0' c1' c2' c3'
      have hla := AB.out.lt; have hlb := BB.out.lt; have hlc := CB.out.lt
      have BL := balloc w12 (.cells #[.int .i64 R, .int .i64 r, .int .i64 L, .int .i64 l, .int .i64 R, .int .i64 r, .int .i64 u, .int .i64 v, .int .i64 x, .int .i64 y, .int .i64 L, .int .i64 l] 25)
      have LB := Blk.new w12 25 #[.int .i64 R, .int .i64 r, .int .i64 L, .int .i64 l, .int .i64 R, .int .i64 r, .int .i64 u, .int .i64 v, .int .i64 x, .int .i64 y, .int .i64 L, .int .i64 l]
      have ROW := Lib.hid (show RowQ (w12.alloc (.cells #[.int .i64 R, .int .i64 r, .int .i64 L, .int .i64 l, .int .i64 R, .int .i64 r, .int .i64 u, .int .i64 v, .int .i64 x, .int .i64 y, .int .i64 L, .int .i64 l] 25)) w12.heap.size 0 [⟨R, r, L, l⟩, ⟨R, r, u, v⟩, ⟨x, y, L, l⟩] from ⟨LB.lt, fun i j z hz hj => by
        rw [LB.cell]
        have hj' : j = 0 ∨ j = 1 ∨ j = 2 ∨ j = 3 := by omega
        match i, hz with
        | 0, hz => injection hz with hz; subst hz; rcases hj' with rfl | rfl | rfl | rfl <;> rfl
        | 1, hz => injection hz with hz; subst hz; rcases hj' with rfl | rfl | rfl | rfl <;> rfl
        | 2, hz => injection hz with hz; subst hz; rcases hj' with rfl | rfl | rfl | rfl <;> rfl
        | i + 3, hz => simp at hz⟩)
      have E := Lib.hid (E.out.below BL)
      clear BL LB AB BB CB
      go_wp2_with fail
      refine (best_any _ 3 3 [⟨R, r, L, l⟩, ⟨R, r, u, v⟩, ⟨x, y, L, l⟩] _ rfl (by omega) (fun _ => ⟨_, _, rfl, ROW.out⟩)).mono ?_
      rintro e wm ⟨m', er, hS, D, i, j, rfl, hI, hA, hb⟩
      have HB := Lib.hid (best_three (x := ⟨R, r, L, l⟩) (y := ⟨R, r, u, v⟩) (z := ⟨x, y, L, l⟩) ⟨HR.out, HL.out⟩ ⟨HR.out, HU.out⟩ ⟨HX.out, HL.out⟩ Pf.out Pk.out Pg.out Of.out Ok.out Og.out hS)
      have hps := E.out.s.lt
      have E := Lib.hid (show EnvL w.heap.size w _ _ from (E.out.below hb).push (X := ⟨D, i, j, m'⟩) (CR.In.new hI hA hps))
      dsimp only [List.cons_append, List.nil_append] at E
      have HLI := Lib.hid hI.1
      clear hS hI hA hb hps ROW Pf Pg Pk
      clear a0 a1 a2 a3 b0 b1 b2 b3 c0' c1' c2' c3' hla hlb hlc
      go_upto_region 11 with fail
      generalize hwe : wm.alloc (.cells #[.slice D i j, .int .i64 m'.per, .int .i64 m'.inc] 44) = wn at *
      clear hwe
      generalize wm.heap.size = M at *
      obtain ⟨x0, x1, x2, hlx⟩ := (E.out.get 0 rfl).cells
      obtain ⟨y0, y1, y2, hly⟩ := (E.out.get 1 rfl).cells
      obtain ⟨z0, z1, z2, hlz⟩ := (E.out.get 2 rfl).cells
      obtain ⟨m0, m1, m2, hlm⟩ := (E.out.get 3 rfl).cells
      go_wp2_with fail
      refine (refAtMost_any A B n m c d f.per f.inc g.per g.inc f.vals g.vals _ (by exact (E.out.get 0 rfl).inn.ints) (by exact (E.out.get 1 rfl).inn.ints) (by omega) (by omega)).mono ?_
      intro e wq hr
      obtain ⟨rfl, hb⟩ := RetM.of T1.out hr
      have E := Lib.hid (E.out.below hb)
      clear hr hb
      clear x0 x1 x2 hlx y0 y1 y2 hly z0 z1 z2 hlz m0 m1 m2 hlm
      obtain ⟨x0, x1, x2, hlx⟩ := (E.out.get 0 rfl).cells
      obtain ⟨y0, y1, y2, hly⟩ := (E.out.get 1 rfl).cells
      obtain ⟨z0, z1, z2, hlz⟩ := (E.out.get 2 rfl).cells
      obtain ⟨m0, m1, m2, hlm⟩ := (E.out.get 3 rfl).cells
      go_wp2_with fail
      refine (refAtMost_any C A o n q c k.per k.inc f.per f.inc k.vals f.vals _ (by exact (E.out.get 2 rfl).inn.ints) (by exact (E.out.get 0 rfl).inn.ints) (by omega) (by omega)).mono ?_
      intro e wq hr
      obtain ⟨rfl, hb⟩ := RetM.of T2.out hr
      have E := Lib.hid (E.out.below hb)
      clear hr hb
      clear x0 x1 x2 hlx y0 y1 y2 hly z0 z1 z2 hlz m0 m1 m2 hlm
      rcases HB.out with he | ⟨he, hmo, hl1, hl2, hl3⟩
      · subst he
        go_wp2_with fail
        refine (awake12_any _).mono ?_
        rintro e wz ⟨rfl, hb⟩
        have bw := (E.out.below hb).fin
        go_wp2_with fail
        go_ret
        exact ⟨rfl, bw⟩
      · subst he
        have hi4 : i ≤ 400 := by have h1 := hmo.n2; have h2 := HLI.out; omega
        have T3 := Lib.hid (hl1.atm Of.out hmo); have T4 := Lib.hid (hl3.atm Og.out hmo); have T5 := Lib.hid (hl2.atm Ok.out hmo)
        clear hmo hl1 hl2 hl3
        obtain ⟨x0, x1, x2, hlx⟩ := (E.out.get 0 rfl).cells
        obtain ⟨y0, y1, y2, hly⟩ := (E.out.get 1 rfl).cells
        obtain ⟨z0, z1, z2, hlz⟩ := (E.out.get 2 rfl).cells
        obtain ⟨m0, m1, m2, hlm⟩ := (E.out.get 3 rfl).cells
        go_wp2_with fail
        refine (refAtMost_any A D n i c j f.per f.inc m'.per m'.inc f.vals m'.vals _ (by exact (E.out.get 0 rfl).inn.ints) (by exact (E.out.get 3 rfl).inn.ints) (by omega) (by omega)).mono ?_
        intro e wq hr
        obtain ⟨rfl, hb⟩ := RetM.of T3.out hr
        have E := Lib.hid (E.out.below hb)
        clear hr hb
        clear x0 x1 x2 hlx y0 y1 y2 hly z0 z1 z2 hlz m0 m1 m2 hlm
        obtain ⟨x0, x1, x2, hlx⟩ := (E.out.get 0 rfl).cells
        obtain ⟨y0, y1, y2, hly⟩ := (E.out.get 1 rfl).cells
        obtain ⟨z0, z1, z2, hlz⟩ := (E.out.get 2 rfl).cells
        obtain ⟨m0, m1, m2, hlm⟩ := (E.out.get 3 rfl).cells
        go_wp2_with fail
        refine (refAtMost_any B D m i d j g.per g.inc m'.per m'.inc g.vals m'.vals _ (by exact (E.out.get 1 rfl).inn.ints) (by exact (E.out.get 3 rfl).inn.ints) (by omega) (by omega)).mono ?_
        intro e wq hr
        obtain ⟨rfl, hb⟩ := RetM.of T4.out hr
        have E := Lib.hid (E.out.below hb)
        clear hr hb
        clear x0 x1 x2 hlx y0 y1 y2 hly z0 z1 z2 hlz m0 m1 m2 hlm
        obtain ⟨x0, x1, x2, hlx⟩ := (E.out.get 0 rfl).cells
        obtain ⟨y0, y1, y2, hly⟩ := (E.out.get 1 rfl).cells
        obtain ⟨z0, z1, z2, hlz⟩ := (E.out.get 2 rfl).cells
        obtain ⟨m0, m1, m2, hlm⟩ := (E.out.get 3 rfl).cells
        go_wp2_with fail
        refine (refAtMost_any C D o i q j k.per k.inc m'.per m'.inc k.vals m'.vals _ (by exact (E.out.get 2 rfl).inn.ints) (by exact (E.out.get 3 rfl).inn.ints) (by omega) (by omega)).mono ?_
        intro e wq hr
        obtain ⟨rfl, hb⟩ := RetM.of T5.out hr
        have E := Lib.hid (E.out.below hb)
        clear hr hb
        clear x0 x1 x2 hlx y0 y1 y2 hly z0 z1 z2 hlz m0 m1 m2 hlm
        go_wp2_with fail
        refine (awake12_any _).mono ?_
        rintro e wz ⟨rfl, hb⟩
        have bw := (E.out.below hb).fin
        go_wp2_with fail
        go_ret
        exact ⟨rfl, bw⟩
end Go.Proofs.Ythgfmaijoigckaa
