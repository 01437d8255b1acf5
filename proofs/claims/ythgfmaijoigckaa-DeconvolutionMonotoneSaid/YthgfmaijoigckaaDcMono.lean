/- The statement DeconvolutionMonotone: the walk. -/
import Derived.Test.YthgfmaijoigckaaAwake8
import Derived.Test.YthgfmaijoigckaaSecond
import Derived.Test.YthgfmaijoigckaaEnvL2
import Derived.Test.YthgfmaijoigckaaRefSum
import Derived.Test.YthgfmaijoigckaaRefExc
import Derived.Test.YthgfmaijoigckaaDcMLaw
namespace Go.Proofs.Ythgfmaijoigckaa
open Go.RowKit
set_option linter.unusedVariables false
set_option maxHeartbeats 4000000 in
set_option maxRecDepth 100000 in
theorem dcMono_any (A0 : Option Addr) (n0 c0 : Nat) (L : List Int) (w : World) (hL : Ints w w.heap.size A0 n0 L) (hc0 : n0 ≤ c0) (hn0 : (n0 : Int) ≤ 9223372036854775807) :
    Calls Try.prog 6 #[.slice A0 n0 c0] w fun e w' => e = .returned (.bool true) ∧ Below w.heap.size w w' := by
  go_enter Try.func6, Try.ntmps6
  go_wp2_with fail
  refine (new_any A0 n0 c0 L w hL hc0 hn0).mono ?_
  rintro e w1 ⟨rfl, hS1, hb1⟩
  have E := Lib.hid (EnvL.start hS1 hb1)
  clear hL hS1 hb1
  -- a curve drawn, not yet in a variable: srcCurve2_any the contract, 5 most, _ w2 the worlds, f the curve, A n c, DrawC 5 f its facts
  go_wp2_with fail
  refine (srcCurve2_any w.heap.size 5 _ (by exact E.out.s) (by omega) (by omega)).mono ?_
  rintro e w2 ⟨f, A, n, c, hD, hcf, rfl, hI, hA, hS, hk⟩
  have hps := E.out.s.lt
  have E := Lib.hid (E.out.kept hS hk)
  have Vf := Lib.hid (show (CR.mk A n c f).In w.heap.size w2 from CR.In.new hI hA hps)
  have Hf := Lib.hid (show DrawC 5 f from hD)
  have HCf := Lib.hid hcf
  have hlenf := hI.1
  try simp only at hlenf
  have hnl : n ≤ 13 := by have h1 := Hf.out.len; omega
  clear hlenf
  clear hD hI hA hS hk hps hcf
  go_wp2_with fail
  refine (second_any w.heap.size 4 _ (by exact E.out.s) (by omega) (by omega)).mono ?_
  rintro e w3 ⟨g, B, m, d, hD, hcf, rfl, hI, hA, hS, hk⟩
  have hps := E.out.s.lt
  have E := Lib.hid (E.out.kept hS hk)
  have Vf := Lib.hid (Vf.out.kept hk)
  have Vg := Lib.hid (show (CR.mk B m d g).In w.heap.size w3 from CR.In.new hI hA hps)
  have Hg := Lib.hid (show DrawC 5 g ∧ nth g.vals 0 = 0 from hD)
  have HCg := Lib.hid hcf
  have hml : m ≤ 13 := by have h1 := Hg.out.1.len; have h2 : g.vals.length = m := hI.1; omega
  clear hD hI hA hS hk hps hcf
  have E := Lib.hid (show EnvL w.heap.size w _ [(w3.heap.size, ⟨A, n, c, f⟩)] from E.out.push Vf.out)
  have Vg := Lib.hid (Vg.out.alloc (.cells #[.slice A n c, .int .i64 f.per, .int .i64 f.inc] 44))
  have E := Lib.hid (show EnvL w.heap.size w ((w3.alloc (.cells #[.slice A n c, .int .i64 f.per, .int .i64 f.inc] 44)).alloc (.cells #[.slice B m d, .int .i64 g.per, .int .i64 g.inc] 44)) [(w3.heap.size, ⟨A, n, c, f⟩), (w3.heap.size + 1, ⟨B, m, d, g⟩)] from by
    have := E.out.push Vg.out
    simpa using this)
  clear Vf Vg
  go_upto_region 3 with fail
  generalize hwz : (w3.alloc (.cells #[.slice A n c, .int .i64 f.per, .int .i64 f.inc] 44)).alloc (.cells #[.slice B m d, .int .i64 g.per, .int .i64 g.inc] 44) = wz at *
  clear hwz
  generalize hGe : w3.heap.size + 1 = G at *
  generalize hFe : w3.heap.size = F at *
  clear hGe hFe
  obtain ⟨x0, x1, x2, hlx⟩ := (E.out.get 0 rfl).cells
  go_cut [6, 7] (fun s6 s7 wx => ∃ (Z : Nat) (h r : Cv) (er : Int) (A6 : Option Addr) (n6 c6 : Nat), s6 = .pointer (some ⟨Z, 0, none⟩) ∧ s7 = .int .i64 er ∧ SumS f h r er ∧ DrawC 3 h ∧ n6 ≤ c6 ∧ EnvL w.heap.size w wx ([(F, ⟨A, n, c, f⟩), (G, ⟨B, m, d, g⟩)] ++ [(Z, ⟨A6, n6, c6, r⟩)]))
  case first =>
    refine wp_region_held_drew (S := (fun w' => w'.cell? ⟨F, 0, none⟩ = some (.slice A n c) ∧ w'.cell? ⟨F, 1, none⟩ = some (.int .i64 f.per) ∧ w'.cell? ⟨F, 2, none⟩ = some (.int .i64 f.inc))) (by kernel_rfl) ⟨x0, x1, x2⟩ (fun hHeld => ?_)
    have E := Lib.hid E.out.drew
    clear x0 x1 x2 hlx
    generalize wz.drew = wd at *
    obtain ⟨x0, x1, x2, hlx⟩ := (E.out.get 0 rfl).cells
    refine wpAnyH_take (i := 0) (oi := _) (v := ?_) (by simp only [List.getElem?_toArray, List.getElem?_cons_zero]; rfl) (by kernel_rfl) (by kernel_rfl) (by kernel_rfl) (by exact fun _ _ _ h => h) (Or.inl ⟨by rfl, ?_⟩) (by assumption) ?_
    rotate_left 1
    · (intro w hSw; (try dsimp only at hSw); go_simp; try with_reducible rfl)
    all_goals try simp only [Act.put]
    all_goals try simp only [List.setIfInBounds_toArray]
    all_goals try simp only [List.set_cons_succ]
    all_goals try simp only [List.set_cons_zero]
    refine wpAnyH_take (i := 1) (oi := _) (v := ?_) (by simp only [List.getElem?_toArray, List.getElem?_cons_succ, List.getElem?_cons_zero]; rfl) (by kernel_rfl) (by kernel_rfl) (by kernel_rfl) (by exact fun _ _ _ h => h) (Or.inl ⟨by rfl, ?_⟩) (by assumption) ?_
    rotate_left 1
    · (intro w hSw; (try dsimp only at hSw); go_simp; try with_reducible rfl)
    all_goals try simp only [Act.put]
    all_goals try simp only [List.setIfInBounds_toArray]
    all_goals try simp only [List.set_cons_succ]
    all_goals try simp only [List.set_cons_zero]
    refine wpAnyH_ready (rs := [2, 7]) (by kernel_rfl) (by simp) ?_
    refine (AllReadyH.cons (by simp only [List.getElem?_toArray, List.getElem?_cons_succ, List.getElem?_cons_zero]; rfl) (fun K hK => ?_) (AllReadyH.cons (by simp only [List.getElem?_toArray, List.getElem?_cons_succ, List.getElem?_cons_zero]; rfl) (fun K hK => ?_) AllReadyH.nil))
    · rw [if_pos (by rfl)]
      go_simp
      refine (srcCurve2_any w.heap.size 3 wd (by exact E.out.s) (by omega) (by omega)).mono ?_
      rintro e w5 ⟨h, A5, n5, c5, hD, hc5, rfl, hI, hA, hS, hk⟩
      have hps := E.out.s.lt
      try (have ZB := Lib.hid (ZB.out.kept (by omega) hk))
      have E := Lib.hid (E.out.kept hS hk)
      have H5 := Lib.hid (show (CR.mk A5 n5 c5 h).In w.heap.size w5 from CR.In.new hI hA hps)
      have HD5 := Lib.hid (show DrawC 3 h from hD)
      have HC5 := Lib.hid hc5
      have hn5 : n5 ≤ 11 := by have h1 := HD5.out.len; have h2 : h.vals.length = n5 := hI.1; omega
      clear hD hI hA hS hk hps hc5 hHeld
      clear x0 x1 x2 hlx
      obtain ⟨x0, x1, x2, hlx⟩ := (E.out.get 0 rfl).cells
      refine hK.out _ _ (by exact ⟨x0, x1, x2⟩) (fun hHeld => ?_)
      clear hK K
      try simp only [Act.put]
      try simp only [List.setIfInBounds_toArray]
      try simp only [List.set_cons_succ]
      try simp only [List.set_cons_zero]
      refine wpAnyH_ready (rs := [3, 7]) (by kernel_rfl) (by simp) ?_
      refine (AllReadyH.cons (by simp only [List.getElem?_toArray, List.getElem?_cons_succ, List.getElem?_cons_zero]; rfl) (fun K hK => ?_) (AllReadyH.cons (by simp only [List.getElem?_toArray, List.getElem?_cons_succ, List.getElem?_cons_zero]; rfl) (fun K hK => ?_) AllReadyH.nil))
      · rw [if_pos (by rfl)]
        go_simp
        refine (refSum_any A A5 n n5 c c5 f.per f.inc h.per h.inc f.vals h.vals w5 (by exact (E.out.get 0 rfl).inn.ints) (by exact H5.out.ints) (by omega) (by omega) HCf.out HC5.out).mono ?_
        rintro e w6 ⟨r, er, A6, n6, c6, hSS, hc6, rfl, hI, hA, hb⟩
        have hps := E.out.s.lt
        try (have hZl := ZB.out.lt)
        try (have ZB := Lib.hid (ZB.out.below hb ZB.out.lt))
        have E := Lib.hid (E.out.below hb)
        have X6 := Lib.hid (show (CR.mk A6 n6 c6 r).In w.heap.size w6 from CR.In.new hI hA hps)
        try (have XO := Lib.hid (show CR.Off ⟨A6, n6, c6, r⟩ Z from CR.Off.of_ge hA (by omega)))
        have HS6 := Lib.hid hSS
        have HC6 := Lib.hid hc6
        clear hI hA hb hps hc6 hSS hHeld
        clear x0 x1 x2 hlx
        obtain ⟨x0, x1, x2, hlx⟩ := (E.out.get 0 rfl).cells
        refine hK.out _ _ (by exact ⟨x0, x1, x2⟩) (fun hHeld => ?_)
        clear hK K
        try simp only [Act.put]
        try simp only [List.setIfInBounds_toArray]
        try simp only [List.set_cons_succ]
        try simp only [List.set_cons_zero]
        refine wpAnyH_take (i := 4) (oi := _) (v := ?_) (by simp only [List.getElem?_toArray, List.getElem?_cons_succ, List.getElem?_cons_zero]; rfl) (by kernel_rfl) (by kernel_rfl) (by kernel_rfl) (by exact fun _ _ _ h => h) (Or.inl ⟨by rfl, ?_⟩) (by assumption) ?_
        rotate_left 1
        · (intro w hSw; (try dsimp only at hSw); go_simp; try with_reducible rfl)
        all_goals try simp only [Act.put]
        all_goals try simp only [List.setIfInBounds_toArray]
        all_goals try simp only [List.set_cons_succ]
        all_goals try simp only [List.set_cons_zero]
        refine wpAnyH_take (i := 5) (oi := _) (v := ?_) (by simp only [List.getElem?_toArray, List.getElem?_cons_succ, List.getElem?_cons_zero]; rfl) (by kernel_rfl) (by kernel_rfl) (by kernel_rfl) (by exact fun _ _ _ h => h) (Or.inl ⟨by rfl, ?_⟩) (by assumption) ?_
        rotate_left 1
        · (intro w hSw; (try dsimp only at hSw); go_simp; try with_reducible rfl)
        all_goals try simp only [Act.put]
        all_goals try simp only [List.setIfInBounds_toArray]
        all_goals try simp only [List.set_cons_succ]
        all_goals try simp only [List.set_cons_zero]
        refine wpAnyH_take (i := 6) (oi := _) (v := ?_) (by simp only [List.getElem?_toArray, List.getElem?_cons_succ, List.getElem?_cons_zero]; rfl) (by kernel_rfl) (by kernel_rfl) (by kernel_rfl) (by exact fun _ _ _ h => h) (Or.inl ⟨by rfl, ?_⟩) (by assumption) ?_
        rotate_left 1
        · (intro w hSw; (try dsimp only at hSw); go_simp; try with_reducible rfl)
        all_goals try simp only [Act.put]
        all_goals try simp only [List.setIfInBounds_toArray]
        all_goals try simp only [List.set_cons_succ]
        all_goals try simp only [List.set_cons_zero]
        refine wpAnyH_ready (rs := [7]) (by kernel_rfl) (by simp) ?_
        refine (AllReadyH.cons (by simp only [List.getElem?_toArray, List.getElem?_cons_succ, List.getElem?_cons_zero]; rfl) (fun K hK => ?_) AllReadyH.nil)
        rw [if_pos (by rfl)]
        go_simp
        have hZp := E.out.s.lt
        have ZB := Lib.hid (Blk.new w6 44 #[.slice none 0 0, .int .i64 0, .int .i64 0])
        have ZA := Lib.hid E.out.apart
        try (have XO := Lib.hid X6.out.off)
        try (have X6 := Lib.hid (X6.out.alloc (.cells #[.slice none 0 0, .int .i64 0, .int .i64 0] 44)))
        try (have H5 := Lib.hid (H5.out.alloc (.cells #[.slice none 0 0, .int .i64 0, .int .i64 0] 44)))
        have E := Lib.hid (E.out.alloc (.cells #[.slice none 0 0, .int .i64 0, .int .i64 0] 44))
        generalize hzz : w6.alloc (.cells #[.slice none 0 0, .int .i64 0, .int .i64 0] 44) = w7 at *
        clear hzz
        generalize w6.heap.size = Z at *
        clear hHeld
        clear x0 x1 x2 hlx
        obtain ⟨x0, x1, x2, hlx⟩ := (E.out.get 0 rfl).cells
        have hZl := ZB.out.lt
        refine hK.out _ _ (by exact ⟨x0, x1, x2⟩) (fun hHeld => ?_)
        clear hK K
        try simp only [Act.put]
        try simp only [List.setIfInBounds_toArray]
        try simp only [List.set_cons_succ]
        try simp only [List.set_cons_zero]
        have z0 := ZB.out.cell 0; have z1 := ZB.out.cell 1; have z2 := ZB.out.cell 2; have v0 := ZB.out.frozen 0; have v1 := ZB.out.frozen 1; have v2 := ZB.out.frozen 2
        simp at z0 z1 z2
        refine wpAnyH_ready (rs := [8]) (by kernel_rfl) (by simp) ?_
        refine (AllReadyH.cons (by simp only [List.getElem?_toArray, List.getElem?_cons_succ, List.getElem?_cons_zero]; rfl) (fun K hK => ?_) AllReadyH.nil)
        rw [if_pos (by rfl)]
        go_simp
        have E := Lib.hid (E.out.sto ZB.out (by omega) hZp ZA.out X6.out XO.out)
        dsimp only [List.cons_append, List.nil_append] at E
        clear hHeld z0 z1 z2 v0 v1 v2
        clear x0 x1 x2 hlx
        obtain ⟨x0, x1, x2, hlx⟩ := (E.out.get 0 rfl).cells
        refine hK.out _ _ (by exact ⟨x0, x1, x2⟩) (fun hHeld => ?_)
        clear hK K
        try simp only [Act.put]
        try simp only [List.setIfInBounds_toArray]
        try simp only [List.set_cons_succ]
        try simp only [List.set_cons_zero]
        refine wpAnyH_take (i := 9) (oi := _) (v := ?_) (by simp only [List.getElem?_toArray, List.getElem?_cons_succ, List.getElem?_cons_zero]; rfl) (by kernel_rfl) (by kernel_rfl) (by kernel_rfl) (by exact fun _ _ _ h => h) (Or.inl ⟨by rfl, ?_⟩) (by assumption) ?_
        rotate_left 1
        · (intro w hSw; (try dsimp only at hSw); go_simp; try with_reducible rfl)
        all_goals try simp only [Act.put]
        all_goals try simp only [List.setIfInBounds_toArray]
        all_goals try simp only [List.set_cons_succ]
        all_goals try simp only [List.set_cons_zero]
        refine wpAnyH_done (by kernel_rfl) ?_ _
        go_wp2_with fail
        go_meet
        exact ⟨Z, h, r, er, A6, n6, c6, rfl, rfl, HS6.out, HD5.out, HC6.out, E.out⟩
      · rw [if_pos (by rfl)]
        go_simp
        have hZp := E.out.s.lt
        have ZB := Lib.hid (Blk.new w5 44 #[.slice none 0 0, .int .i64 0, .int .i64 0])
        have ZA := Lib.hid E.out.apart
        try (have XO := Lib.hid X6.out.off)
        try (have X6 := Lib.hid (X6.out.alloc (.cells #[.slice none 0 0, .int .i64 0, .int .i64 0] 44)))
        try (have H5 := Lib.hid (H5.out.alloc (.cells #[.slice none 0 0, .int .i64 0, .int .i64 0] 44)))
        have E := Lib.hid (E.out.alloc (.cells #[.slice none 0 0, .int .i64 0, .int .i64 0] 44))
        generalize hzz : w5.alloc (.cells #[.slice none 0 0, .int .i64 0, .int .i64 0] 44) = w6 at *
        clear hzz
        generalize w5.heap.size = Z at *
        clear hHeld
        clear x0 x1 x2 hlx
        obtain ⟨x0, x1, x2, hlx⟩ := (E.out.get 0 rfl).cells
        have hZl := ZB.out.lt
        refine hK.out _ _ (by exact ⟨x0, x1, x2⟩) (fun hHeld => ?_)
        clear hK K
        try simp only [Act.put]
        try simp only [List.setIfInBounds_toArray]
        try simp only [List.set_cons_succ]
        try simp only [List.set_cons_zero]
        refine wpAnyH_ready (rs := [3]) (by kernel_rfl) (by simp) ?_
        refine (AllReadyH.cons (by simp only [List.getElem?_toArray, List.getElem?_cons_succ, List.getElem?_cons_zero]; rfl) (fun K hK => ?_) AllReadyH.nil)
        rw [if_pos (by rfl)]
        go_simp
        refine (refSum_any A A5 n n5 c c5 f.per f.inc h.per h.inc f.vals h.vals w6 (by exact (E.out.get 0 rfl).inn.ints) (by exact H5.out.ints) (by omega) (by omega) HCf.out HC5.out).mono ?_
        rintro e w7 ⟨r, er, A6, n6, c6, hSS, hc6, rfl, hI, hA, hb⟩
        have hps := E.out.s.lt
        try (have hZl := ZB.out.lt)
        try (have ZB := Lib.hid (ZB.out.below hb ZB.out.lt))
        have E := Lib.hid (E.out.below hb)
        have X6 := Lib.hid (show (CR.mk A6 n6 c6 r).In w.heap.size w7 from CR.In.new hI hA hps)
        try (have XO := Lib.hid (show CR.Off ⟨A6, n6, c6, r⟩ Z from CR.Off.of_ge hA (by omega)))
        have HS6 := Lib.hid hSS
        have HC6 := Lib.hid hc6
        clear hI hA hb hps hc6 hSS hHeld
        clear x0 x1 x2 hlx
        obtain ⟨x0, x1, x2, hlx⟩ := (E.out.get 0 rfl).cells
        refine hK.out _ _ (by exact ⟨x0, x1, x2⟩) (fun hHeld => ?_)
        clear hK K
        try simp only [Act.put]
        try simp only [List.setIfInBounds_toArray]
        try simp only [List.set_cons_succ]
        try simp only [List.set_cons_zero]
        refine wpAnyH_take (i := 4) (oi := _) (v := ?_) (by simp only [List.getElem?_toArray, List.getElem?_cons_succ, List.getElem?_cons_zero]; rfl) (by kernel_rfl) (by kernel_rfl) (by kernel_rfl) (by exact fun _ _ _ h => h) (Or.inl ⟨by rfl, ?_⟩) (by assumption) ?_
        rotate_left 1
        · (intro w hSw; (try dsimp only at hSw); go_simp; try with_reducible rfl)
        all_goals try simp only [Act.put]
        all_goals try simp only [List.setIfInBounds_toArray]
        all_goals try simp only [List.set_cons_succ]
        all_goals try simp only [List.set_cons_zero]
        refine wpAnyH_take (i := 5) (oi := _) (v := ?_) (by simp only [List.getElem?_toArray, List.getElem?_cons_succ, List.getElem?_cons_zero]; rfl) (by kernel_rfl) (by kernel_rfl) (by kernel_rfl) (by exact fun _ _ _ h => h) (Or.inl ⟨by rfl, ?_⟩) (by assumption) ?_
        rotate_left 1
        · (intro w hSw; (try dsimp only at hSw); go_simp; try with_reducible rfl)
        all_goals try simp only [Act.put]
        all_goals try simp only [List.setIfInBounds_toArray]
        all_goals try simp only [List.set_cons_succ]
        all_goals try simp only [List.set_cons_zero]
        refine wpAnyH_take (i := 6) (oi := _) (v := ?_) (by simp only [List.getElem?_toArray, List.getElem?_cons_succ, List.getElem?_cons_zero]; rfl) (by kernel_rfl) (by kernel_rfl) (by kernel_rfl) (by exact fun _ _ _ h => h) (Or.inl ⟨by rfl, ?_⟩) (by assumption) ?_
        rotate_left 1
        · (intro w hSw; (try dsimp only at hSw); go_simp; try with_reducible rfl)
        all_goals try simp only [Act.put]
        all_goals try simp only [List.setIfInBounds_toArray]
        all_goals try simp only [List.set_cons_succ]
        all_goals try simp only [List.set_cons_zero]
        have z0 := ZB.out.cell 0; have z1 := ZB.out.cell 1; have z2 := ZB.out.cell 2; have v0 := ZB.out.frozen 0; have v1 := ZB.out.frozen 1; have v2 := ZB.out.frozen 2
        simp at z0 z1 z2
        refine wpAnyH_ready (rs := [8]) (by kernel_rfl) (by simp) ?_
        refine (AllReadyH.cons (by simp only [List.getElem?_toArray, List.getElem?_cons_succ, List.getElem?_cons_zero]; rfl) (fun K hK => ?_) AllReadyH.nil)
        rw [if_pos (by rfl)]
        go_simp
        have E := Lib.hid (E.out.sto ZB.out (by omega) hZp ZA.out X6.out XO.out)
        dsimp only [List.cons_append, List.nil_append] at E
        clear hHeld z0 z1 z2 v0 v1 v2
        clear x0 x1 x2 hlx
        obtain ⟨x0, x1, x2, hlx⟩ := (E.out.get 0 rfl).cells
        refine hK.out _ _ (by exact ⟨x0, x1, x2⟩) (fun hHeld => ?_)
        clear hK K
        try simp only [Act.put]
        try simp only [List.setIfInBounds_toArray]
        try simp only [List.set_cons_succ]
        try simp only [List.set_cons_zero]
        refine wpAnyH_take (i := 9) (oi := _) (v := ?_) (by simp only [List.getElem?_toArray, List.getElem?_cons_succ, List.getElem?_cons_zero]; rfl) (by kernel_rfl) (by kernel_rfl) (by kernel_rfl) (by exact fun _ _ _ h => h) (Or.inl ⟨by rfl, ?_⟩) (by assumption) ?_
        rotate_left 1
        · (intro w hSw; (try dsimp only at hSw); go_simp; try with_reducible rfl)
        all_goals try simp only [Act.put]
        all_goals try simp only [List.setIfInBounds_toArray]
        all_goals try simp only [List.set_cons_succ]
        all_goals try simp only [List.set_cons_zero]
        refine wpAnyH_done (by kernel_rfl) ?_ _
        go_wp2_with fail
        go_meet
        exact ⟨Z, h, r, er, A6, n6, c6, rfl, rfl, HS6.out, HD5.out, HC6.out, E.out⟩
    · rw [if_pos (by rfl)]
      go_simp
      have hZp := E.out.s.lt
      have ZB := Lib.hid (Blk.new wd 44 #[.slice none 0 0, .int .i64 0, .int .i64 0])
      have ZA := Lib.hid E.out.apart
      try (have XO := Lib.hid X6.out.off)
      try (have X6 := Lib.hid (X6.out.alloc (.cells #[.slice none 0 0, .int .i64 0, .int .i64 0] 44)))
      try (have H5 := Lib.hid (H5.out.alloc (.cells #[.slice none 0 0, .int .i64 0, .int .i64 0] 44)))
      have E := Lib.hid (E.out.alloc (.cells #[.slice none 0 0, .int .i64 0, .int .i64 0] 44))
      generalize hzz : wd.alloc (.cells #[.slice none 0 0, .int .i64 0, .int .i64 0] 44) = w5 at *
      clear hzz
      generalize wd.heap.size = Z at *
      clear hHeld
      clear x0 x1 x2 hlx
      obtain ⟨x0, x1, x2, hlx⟩ := (E.out.get 0 rfl).cells
      have hZl := ZB.out.lt
      refine hK.out _ _ (by exact ⟨x0, x1, x2⟩) (fun hHeld => ?_)
      clear hK K
      try simp only [Act.put]
      try simp only [List.setIfInBounds_toArray]
      try simp only [List.set_cons_succ]
      try simp only [List.set_cons_zero]
      refine wpAnyH_ready (rs := [2]) (by kernel_rfl) (by simp) ?_
      refine (AllReadyH.cons (by simp only [List.getElem?_toArray, List.getElem?_cons_succ, List.getElem?_cons_zero]; rfl) (fun K hK => ?_) AllReadyH.nil)
      rw [if_pos (by rfl)]
      go_simp
      refine (srcCurve2_any w.heap.size 3 w5 (by exact E.out.s) (by omega) (by omega)).mono ?_
      rintro e w6 ⟨h, A5, n5, c5, hD, hc5, rfl, hI, hA, hS, hk⟩
      have hps := E.out.s.lt
      try (have ZB := Lib.hid (ZB.out.kept (by omega) hk))
      have E := Lib.hid (E.out.kept hS hk)
      have H5 := Lib.hid (show (CR.mk A5 n5 c5 h).In w.heap.size w6 from CR.In.new hI hA hps)
      have HD5 := Lib.hid (show DrawC 3 h from hD)
      have HC5 := Lib.hid hc5
      have hn5 : n5 ≤ 11 := by have h1 := HD5.out.len; have h2 : h.vals.length = n5 := hI.1; omega
      clear hD hI hA hS hk hps hc5 hHeld
      clear x0 x1 x2 hlx
      obtain ⟨x0, x1, x2, hlx⟩ := (E.out.get 0 rfl).cells
      refine hK.out _ _ (by exact ⟨x0, x1, x2⟩) (fun hHeld => ?_)
      clear hK K
      try simp only [Act.put]
      try simp only [List.setIfInBounds_toArray]
      try simp only [List.set_cons_succ]
      try simp only [List.set_cons_zero]
      refine wpAnyH_ready (rs := [3]) (by kernel_rfl) (by simp) ?_
      refine (AllReadyH.cons (by simp only [List.getElem?_toArray, List.getElem?_cons_succ, List.getElem?_cons_zero]; rfl) (fun K hK => ?_) AllReadyH.nil)
      rw [if_pos (by rfl)]
      go_simp
      refine (refSum_any A A5 n n5 c c5 f.per f.inc h.per h.inc f.vals h.vals w6 (by exact (E.out.get 0 rfl).inn.ints) (by exact H5.out.ints) (by omega) (by omega) HCf.out HC5.out).mono ?_
      rintro e w7 ⟨r, er, A6, n6, c6, hSS, hc6, rfl, hI, hA, hb⟩
      have hps := E.out.s.lt
      try (have hZl := ZB.out.lt)
      try (have ZB := Lib.hid (ZB.out.below hb ZB.out.lt))
      have E := Lib.hid (E.out.below hb)
      have X6 := Lib.hid (show (CR.mk A6 n6 c6 r).In w.heap.size w7 from CR.In.new hI hA hps)
      try (have XO := Lib.hid (show CR.Off ⟨A6, n6, c6, r⟩ Z from CR.Off.of_ge hA (by omega)))
      have HS6 := Lib.hid hSS
      have HC6 := Lib.hid hc6
      clear hI hA hb hps hc6 hSS hHeld
      clear x0 x1 x2 hlx
      obtain ⟨x0, x1, x2, hlx⟩ := (E.out.get 0 rfl).cells
      refine hK.out _ _ (by exact ⟨x0, x1, x2⟩) (fun hHeld => ?_)
      clear hK K
      try simp only [Act.put]
      try simp only [List.setIfInBounds_toArray]
      try simp only [List.set_cons_succ]
      try simp only [List.set_cons_zero]
      refine wpAnyH_take (i := 4) (oi := _) (v := ?_) (by simp only [List.getElem?_toArray, List.getElem?_cons_succ, List.getElem?_cons_zero]; rfl) (by kernel_rfl) (by kernel_rfl) (by kernel_rfl) (by exact fun _ _ _ h => h) (Or.inl ⟨by rfl, ?_⟩) (by assumption) ?_
      rotate_left 1
      · (intro w hSw; (try dsimp only at hSw); go_simp; try with_reducible rfl)
      all_goals try simp only [Act.put]
      all_goals try simp only [List.setIfInBounds_toArray]
      all_goals try simp only [List.set_cons_succ]
      all_goals try simp only [List.set_cons_zero]
      refine wpAnyH_take (i := 5) (oi := _) (v := ?_) (by simp only [List.getElem?_toArray, List.getElem?_cons_succ, List.getElem?_cons_zero]; rfl) (by kernel_rfl) (by kernel_rfl) (by kernel_rfl) (by exact fun _ _ _ h => h) (Or.inl ⟨by rfl, ?_⟩) (by assumption) ?_
      rotate_left 1
      · (intro w hSw; (try dsimp only at hSw); go_simp; try with_reducible rfl)
      all_goals try simp only [Act.put]
      all_goals try simp only [List.setIfInBounds_toArray]
      all_goals try simp only [List.set_cons_succ]
      all_goals try simp only [List.set_cons_zero]
      refine wpAnyH_take (i := 6) (oi := _) (v := ?_) (by simp only [List.getElem?_toArray, List.getElem?_cons_succ, List.getElem?_cons_zero]; rfl) (by kernel_rfl) (by kernel_rfl) (by kernel_rfl) (by exact fun _ _ _ h => h) (Or.inl ⟨by rfl, ?_⟩) (by assumption) ?_
      rotate_left 1
      · (intro w hSw; (try dsimp only at hSw); go_simp; try with_reducible rfl)
      all_goals try simp only [Act.put]
      all_goals try simp only [List.setIfInBounds_toArray]
      all_goals try simp only [List.set_cons_succ]
      all_goals try simp only [List.set_cons_zero]
      have z0 := ZB.out.cell 0; have z1 := ZB.out.cell 1; have z2 := ZB.out.cell 2; have v0 := ZB.out.frozen 0; have v1 := ZB.out.frozen 1; have v2 := ZB.out.frozen 2
      simp at z0 z1 z2
      refine wpAnyH_ready (rs := [8]) (by kernel_rfl) (by simp) ?_
      refine (AllReadyH.cons (by simp only [List.getElem?_toArray, List.getElem?_cons_succ, List.getElem?_cons_zero]; rfl) (fun K hK => ?_) AllReadyH.nil)
      rw [if_pos (by rfl)]
      go_simp
      have E := Lib.hid (E.out.sto ZB.out (by omega) hZp ZA.out X6.out XO.out)
      dsimp only [List.cons_append, List.nil_append] at E
      clear hHeld z0 z1 z2 v0 v1 v2
      clear x0 x1 x2 hlx
      obtain ⟨x0, x1, x2, hlx⟩ := (E.out.get 0 rfl).cells
      refine hK.out _ _ (by exact ⟨x0, x1, x2⟩) (fun hHeld => ?_)
      clear hK K
      try simp only [Act.put]
      try simp only [List.setIfInBounds_toArray]
      try simp only [List.set_cons_succ]
      try simp only [List.set_cons_zero]
      refine wpAnyH_take (i := 9) (oi := _) (v := ?_) (by simp only [List.getElem?_toArray, List.getElem?_cons_succ, List.getElem?_cons_zero]; rfl) (by kernel_rfl) (by kernel_rfl) (by kernel_rfl) (by exact fun _ _ _ h => h) (Or.inl ⟨by rfl, ?_⟩) (by assumption) ?_
      rotate_left 1
      · (intro w hSw; (try dsimp only at hSw); go_simp; try with_reducible rfl)
      all_goals try simp only [Act.put]
      all_goals try simp only [List.setIfInBounds_toArray]
      all_goals try simp only [List.set_cons_succ]
      all_goals try simp only [List.set_cons_zero]
      refine wpAnyH_done (by kernel_rfl) ?_ _
      go_wp2_with fail
      go_meet
      exact ⟨Z, h, r, er, A6, n6, c6, rfl, rfl, HS6.out, HD5.out, HC6.out, E.out⟩
  case rest =>
    obtain ⟨Z1, h1, r1, er1, A1, n1, c1, rfl, rfl, hSS, hD, hc1, he⟩ := hcut
    have E := Lib.hid (show EnvL w.heap.size w _ [(F, ⟨A, n, c, f⟩), (G, ⟨B, m, d, g⟩), (Z1, ⟨A1, n1, c1, r1⟩)] from he)
    have HDH := Lib.hid hD
    obtain ⟨rfl, hro, hrat⟩ := sum_made (by omega) (by omega) Hf.out hD hSS
    have HO1 := Lib.hid hro; have HAT1 := Lib.hid hrat
    have hn1 : n1 ≤ 400 := by have h1 := hro.n2; have h2 : r1.vals.length = n1 := (E.out.get 2 rfl).inn.ints.1; omega
    clear hSS hD hc1 he hro hrat
    go_upto_region 4 with fail
    obtain ⟨x0, x1, x2, hlx⟩ := (E.out.get 1 rfl).cells
    go_cut [8, 9] (fun s6 s7 wx => ∃ (Z : Nat) (h r : Cv) (er : Int) (A6 : Option Addr) (n6 c6 : Nat), s6 = .pointer (some ⟨Z, 0, none⟩) ∧ s7 = .int .i64 er ∧ SumS g h r er ∧ DrawC 3 h ∧ n6 ≤ c6 ∧ EnvL w.heap.size w wx ([(F, ⟨A, n, c, f⟩), (G, ⟨B, m, d, g⟩), (Z1, ⟨A1, n1, c1, r1⟩)] ++ [(Z, ⟨A6, n6, c6, r⟩)]))
    case first =>
      refine wp_region_held_drew (S := (fun w' => w'.cell? ⟨G, 0, none⟩ = some (.slice B m d) ∧ w'.cell? ⟨G, 1, none⟩ = some (.int .i64 g.per) ∧ w'.cell? ⟨G, 2, none⟩ = some (.int .i64 g.inc))) (by kernel_rfl) ⟨x0, x1, x2⟩ (fun hHeld => ?_)
      have E := Lib.hid E.out.drew
      clear x0 x1 x2 hlx
      generalize wc.drew = wd at *
      obtain ⟨x0, x1, x2, hlx⟩ := (E.out.get 1 rfl).cells
      refine wpAnyH_take (i := 0) (oi := _) (v := ?_) (by simp only [List.getElem?_toArray, List.getElem?_cons_zero]; rfl) (by kernel_rfl) (by kernel_rfl) (by kernel_rfl) (by exact fun _ _ _ h => h) (Or.inl ⟨by rfl, ?_⟩) (by assumption) ?_
      rotate_left 1
      · (intro w hSw; (try dsimp only at hSw); go_simp; try with_reducible rfl)
      all_goals try simp only [Act.put]
      all_goals try simp only [List.setIfInBounds_toArray]
      all_goals try simp only [List.set_cons_succ]
      all_goals try simp only [List.set_cons_zero]
      refine wpAnyH_take (i := 1) (oi := _) (v := ?_) (by simp only [List.getElem?_toArray, List.getElem?_cons_succ, List.getElem?_cons_zero]; rfl) (by kernel_rfl) (by kernel_rfl) (by kernel_rfl) (by exact fun _ _ _ h => h) (Or.inl ⟨by rfl, ?_⟩) (by assumption) ?_
      rotate_left 1
      · (intro w hSw; (try dsimp only at hSw); go_simp; try with_reducible rfl)
      all_goals try simp only [Act.put]
      all_goals try simp only [List.setIfInBounds_toArray]
      all_goals try simp only [List.set_cons_succ]
      all_goals try simp only [List.set_cons_zero]
      refine wpAnyH_ready (rs := [2, 7]) (by kernel_rfl) (by simp) ?_
      refine (AllReadyH.cons (by simp only [List.getElem?_toArray, List.getElem?_cons_succ, List.getElem?_cons_zero]; rfl) (fun K hK => ?_) (AllReadyH.cons (by simp only [List.getElem?_toArray, List.getElem?_cons_succ, List.getElem?_cons_zero]; rfl) (fun K hK => ?_) AllReadyH.nil))
      · rw [if_pos (by rfl)]
        go_simp
        refine (srcZero2_any w.heap.size 3 wd (by exact E.out.s) (by omega) (by omega)).mono ?_
        rintro e w5 ⟨h, A5, n5, c5, hD, hc5, rfl, hI, hA, hS, hk⟩
        have hps := E.out.s.lt
        try (have ZB := Lib.hid (ZB.out.kept (by omega) hk))
        have E := Lib.hid (E.out.kept hS hk)
        have H5 := Lib.hid (show (CR.mk A5 n5 c5 h).In w.heap.size w5 from CR.In.new hI hA hps)
        have HD5 := Lib.hid (show DrawC 3 h from hD.1)
        have HC5 := Lib.hid hc5
        have hn5 : n5 ≤ 11 := by have h1 := HD5.out.len; have h2 : h.vals.length = n5 := hI.1; omega
        clear hD hI hA hS hk hps hc5 hHeld
        clear x0 x1 x2 hlx
        obtain ⟨x0, x1, x2, hlx⟩ := (E.out.get 1 rfl).cells
        refine hK.out _ _ (by exact ⟨x0, x1, x2⟩) (fun hHeld => ?_)
        clear hK K
        try simp only [Act.put]
        try simp only [List.setIfInBounds_toArray]
        try simp only [List.set_cons_succ]
        try simp only [List.set_cons_zero]
        refine wpAnyH_ready (rs := [3, 7]) (by kernel_rfl) (by simp) ?_
        refine (AllReadyH.cons (by simp only [List.getElem?_toArray, List.getElem?_cons_succ, List.getElem?_cons_zero]; rfl) (fun K hK => ?_) (AllReadyH.cons (by simp only [List.getElem?_toArray, List.getElem?_cons_succ, List.getElem?_cons_zero]; rfl) (fun K hK => ?_) AllReadyH.nil))
        · rw [if_pos (by rfl)]
          go_simp
          refine (refSum_any B A5 m n5 d c5 g.per g.inc h.per h.inc g.vals h.vals w5 (by exact (E.out.get 1 rfl).inn.ints) (by exact H5.out.ints) (by omega) (by omega) HCg.out HC5.out).mono ?_
          rintro e w6 ⟨r, er, A6, n6, c6, hSS, hc6, rfl, hI, hA, hb⟩
          have hps := E.out.s.lt
          try (have hZl := ZB.out.lt)
          try (have ZB := Lib.hid (ZB.out.below hb ZB.out.lt))
          have E := Lib.hid (E.out.below hb)
          have X6 := Lib.hid (show (CR.mk A6 n6 c6 r).In w.heap.size w6 from CR.In.new hI hA hps)
          try (have XO := Lib.hid (show CR.Off ⟨A6, n6, c6, r⟩ Z from CR.Off.of_ge hA (by omega)))
          have HS6 := Lib.hid hSS
          have HC6 := Lib.hid hc6
          clear hI hA hb hps hc6 hSS hHeld
          clear x0 x1 x2 hlx
          obtain ⟨x0, x1, x2, hlx⟩ := (E.out.get 1 rfl).cells
          refine hK.out _ _ (by exact ⟨x0, x1, x2⟩) (fun hHeld => ?_)
          clear hK K
          try simp only [Act.put]
          try simp only [List.setIfInBounds_toArray]
          try simp only [List.set_cons_succ]
          try simp only [List.set_cons_zero]
          refine wpAnyH_take (i := 4) (oi := _) (v := ?_) (by simp only [List.getElem?_toArray, List.getElem?_cons_succ, List.getElem?_cons_zero]; rfl) (by kernel_rfl) (by kernel_rfl) (by kernel_rfl) (by exact fun _ _ _ h => h) (Or.inl ⟨by rfl, ?_⟩) (by assumption) ?_
          rotate_left 1
          · (intro w hSw; (try dsimp only at hSw); go_simp; try with_reducible rfl)
          all_goals try simp only [Act.put]
          all_goals try simp only [List.setIfInBounds_toArray]
          all_goals try simp only [List.set_cons_succ]
          all_goals try simp only [List.set_cons_zero]
          refine wpAnyH_take (i := 5) (oi := _) (v := ?_) (by simp only [List.getElem?_toArray, List.getElem?_cons_succ, List.getElem?_cons_zero]; rfl) (by kernel_rfl) (by kernel_rfl) (by kernel_rfl) (by exact fun _ _ _ h => h) (Or.inl ⟨by rfl, ?_⟩) (by assumption) ?_
          rotate_left 1
          · (intro w hSw; (try dsimp only at hSw); go_simp; try with_reducible rfl)
          all_goals try simp only [Act.put]
          all_goals try simp only [List.setIfInBounds_toArray]
          all_goals try simp only [List.set_cons_succ]
          all_goals try simp only [List.set_cons_zero]
          refine wpAnyH_take (i := 6) (oi := _) (v := ?_) (by simp only [List.getElem?_toArray, List.getElem?_cons_succ, List.getElem?_cons_zero]; rfl) (by kernel_rfl) (by kernel_rfl) (by kernel_rfl) (by exact fun _ _ _ h => h) (Or.inl ⟨by rfl, ?_⟩) (by assumption) ?_
          rotate_left 1
          · (intro w hSw; (try dsimp only at hSw); go_simp; try with_reducible rfl)
          all_goals try simp only [Act.put]
          all_goals try simp only [List.setIfInBounds_toArray]
          all_goals try simp only [List.set_cons_succ]
          all_goals try simp only [List.set_cons_zero]
          refine wpAnyH_ready (rs := [7]) (by kernel_rfl) (by simp) ?_
          refine (AllReadyH.cons (by simp only [List.getElem?_toArray, List.getElem?_cons_succ, List.getElem?_cons_zero]; rfl) (fun K hK => ?_) AllReadyH.nil)
          rw [if_pos (by rfl)]
          go_simp
          have hZp := E.out.s.lt
          have ZB := Lib.hid (Blk.new w6 44 #[.slice none 0 0, .int .i64 0, .int .i64 0])
          have ZA := Lib.hid E.out.apart
          try (have XO := Lib.hid X6.out.off)
          try (have X6 := Lib.hid (X6.out.alloc (.cells #[.slice none 0 0, .int .i64 0, .int .i64 0] 44)))
          try (have H5 := Lib.hid (H5.out.alloc (.cells #[.slice none 0 0, .int .i64 0, .int .i64 0] 44)))
          have E := Lib.hid (E.out.alloc (.cells #[.slice none 0 0, .int .i64 0, .int .i64 0] 44))
          generalize hzz : w6.alloc (.cells #[.slice none 0 0, .int .i64 0, .int .i64 0] 44) = w7 at *
          clear hzz
          generalize w6.heap.size = Z at *
          clear hHeld
          clear x0 x1 x2 hlx
          obtain ⟨x0, x1, x2, hlx⟩ := (E.out.get 1 rfl).cells
          have hZl := ZB.out.lt
          refine hK.out _ _ (by exact ⟨x0, x1, x2⟩) (fun hHeld => ?_)
          clear hK K
          try simp only [Act.put]
          try simp only [List.setIfInBounds_toArray]
          try simp only [List.set_cons_succ]
          try simp only [List.set_cons_zero]
          have z0 := ZB.out.cell 0; have z1 := ZB.out.cell 1; have z2 := ZB.out.cell 2; have v0 := ZB.out.frozen 0; have v1 := ZB.out.frozen 1; have v2 := ZB.out.frozen 2
          simp at z0 z1 z2
          refine wpAnyH_ready (rs := [8]) (by kernel_rfl) (by simp) ?_
          refine (AllReadyH.cons (by simp only [List.getElem?_toArray, List.getElem?_cons_succ, List.getElem?_cons_zero]; rfl) (fun K hK => ?_) AllReadyH.nil)
          rw [if_pos (by rfl)]
          go_simp
          have E := Lib.hid (E.out.sto ZB.out (by omega) hZp ZA.out X6.out XO.out)
          dsimp only [List.cons_append, List.nil_append] at E
          clear hHeld z0 z1 z2 v0 v1 v2
          clear x0 x1 x2 hlx
          obtain ⟨x0, x1, x2, hlx⟩ := (E.out.get 1 rfl).cells
          refine hK.out _ _ (by exact ⟨x0, x1, x2⟩) (fun hHeld => ?_)
          clear hK K
          try simp only [Act.put]
          try simp only [List.setIfInBounds_toArray]
          try simp only [List.set_cons_succ]
          try simp only [List.set_cons_zero]
          refine wpAnyH_take (i := 9) (oi := _) (v := ?_) (by simp only [List.getElem?_toArray, List.getElem?_cons_succ, List.getElem?_cons_zero]; rfl) (by kernel_rfl) (by kernel_rfl) (by kernel_rfl) (by exact fun _ _ _ h => h) (Or.inl ⟨by rfl, ?_⟩) (by assumption) ?_
          rotate_left 1
          · (intro w hSw; (try dsimp only at hSw); go_simp; try with_reducible rfl)
          all_goals try simp only [Act.put]
          all_goals try simp only [List.setIfInBounds_toArray]
          all_goals try simp only [List.set_cons_succ]
          all_goals try simp only [List.set_cons_zero]
          refine wpAnyH_done (by kernel_rfl) ?_ _
          go_wp2_with fail
          go_meet
          exact ⟨Z, h, r, er, A6, n6, c6, rfl, rfl, HS6.out, HD5.out, HC6.out, E.out⟩
        · rw [if_pos (by rfl)]
          go_simp
          have hZp := E.out.s.lt
          have ZB := Lib.hid (Blk.new w5 44 #[.slice none 0 0, .int .i64 0, .int .i64 0])
          have ZA := Lib.hid E.out.apart
          try (have XO := Lib.hid X6.out.off)
          try (have X6 := Lib.hid (X6.out.alloc (.cells #[.slice none 0 0, .int .i64 0, .int .i64 0] 44)))
          try (have H5 := Lib.hid (H5.out.alloc (.cells #[.slice none 0 0, .int .i64 0, .int .i64 0] 44)))
          have E := Lib.hid (E.out.alloc (.cells #[.slice none 0 0, .int .i64 0, .int .i64 0] 44))
          generalize hzz : w5.alloc (.cells #[.slice none 0 0, .int .i64 0, .int .i64 0] 44) = w6 at *
          clear hzz
          generalize w5.heap.size = Z at *
          clear hHeld
          clear x0 x1 x2 hlx
          obtain ⟨x0, x1, x2, hlx⟩ := (E.out.get 1 rfl).cells
          have hZl := ZB.out.lt
          refine hK.out _ _ (by exact ⟨x0, x1, x2⟩) (fun hHeld => ?_)
          clear hK K
          try simp only [Act.put]
          try simp only [List.setIfInBounds_toArray]
          try simp only [List.set_cons_succ]
          try simp only [List.set_cons_zero]
          refine wpAnyH_ready (rs := [3]) (by kernel_rfl) (by simp) ?_
          refine (AllReadyH.cons (by simp only [List.getElem?_toArray, List.getElem?_cons_succ, List.getElem?_cons_zero]; rfl) (fun K hK => ?_) AllReadyH.nil)
          rw [if_pos (by rfl)]
          go_simp
          refine (refSum_any B A5 m n5 d c5 g.per g.inc h.per h.inc g.vals h.vals w6 (by exact (E.out.get 1 rfl).inn.ints) (by exact H5.out.ints) (by omega) (by omega) HCg.out HC5.out).mono ?_
          rintro e w7 ⟨r, er, A6, n6, c6, hSS, hc6, rfl, hI, hA, hb⟩
          have hps := E.out.s.lt
          try (have hZl := ZB.out.lt)
          try (have ZB := Lib.hid (ZB.out.below hb ZB.out.lt))
          have E := Lib.hid (E.out.below hb)
          have X6 := Lib.hid (show (CR.mk A6 n6 c6 r).In w.heap.size w7 from CR.In.new hI hA hps)
          try (have XO := Lib.hid (show CR.Off ⟨A6, n6, c6, r⟩ Z from CR.Off.of_ge hA (by omega)))
          have HS6 := Lib.hid hSS
          have HC6 := Lib.hid hc6
          clear hI hA hb hps hc6 hSS hHeld
          clear x0 x1 x2 hlx
          obtain ⟨x0, x1, x2, hlx⟩ := (E.out.get 1 rfl).cells
          refine hK.out _ _ (by exact ⟨x0, x1, x2⟩) (fun hHeld => ?_)
          clear hK K
          try simp only [Act.put]
          try simp only [List.setIfInBounds_toArray]
          try simp only [List.set_cons_succ]
          try simp only [List.set_cons_zero]
          refine wpAnyH_take (i := 4) (oi := _) (v := ?_) (by simp only [List.getElem?_toArray, List.getElem?_cons_succ, List.getElem?_cons_zero]; rfl) (by kernel_rfl) (by kernel_rfl) (by kernel_rfl) (by exact fun _ _ _ h => h) (Or.inl ⟨by rfl, ?_⟩) (by assumption) ?_
          rotate_left 1
          · (intro w hSw; (try dsimp only at hSw); go_simp; try with_reducible rfl)
          all_goals try simp only [Act.put]
          all_goals try simp only [List.setIfInBounds_toArray]
          all_goals try simp only [List.set_cons_succ]
          all_goals try simp only [List.set_cons_zero]
          refine wpAnyH_take (i := 5) (oi := _) (v := ?_) (by simp only [List.getElem?_toArray, List.getElem?_cons_succ, List.getElem?_cons_zero]; rfl) (by kernel_rfl) (by kernel_rfl) (by kernel_rfl) (by exact fun _ _ _ h => h) (Or.inl ⟨by rfl, ?_⟩) (by assumption) ?_
          rotate_left 1
          · (intro w hSw; (try dsimp only at hSw); go_simp; try with_reducible rfl)
          all_goals try simp only [Act.put]
          all_goals try simp only [List.setIfInBounds_toArray]
          all_goals try simp only [List.set_cons_succ]
          all_goals try simp only [List.set_cons_zero]
          refine wpAnyH_take (i := 6) (oi := _) (v := ?_) (by simp only [List.getElem?_toArray, List.getElem?_cons_succ, List.getElem?_cons_zero]; rfl) (by kernel_rfl) (by kernel_rfl) (by kernel_rfl) (by exact fun _ _ _ h => h) (Or.inl ⟨by rfl, ?_⟩) (by assumption) ?_
          rotate_left 1
          · (intro w hSw; (try dsimp only at hSw); go_simp; try with_reducible rfl)
          all_goals try simp only [Act.put]
          all_goals try simp only [List.setIfInBounds_toArray]
          all_goals try simp only [List.set_cons_succ]
          all_goals try simp only [List.set_cons_zero]
          have z0 := ZB.out.cell 0; have z1 := ZB.out.cell 1; have z2 := ZB.out.cell 2; have v0 := ZB.out.frozen 0; have v1 := ZB.out.frozen 1; have v2 := ZB.out.frozen 2
          simp at z0 z1 z2
          refine wpAnyH_ready (rs := [8]) (by kernel_rfl) (by simp) ?_
          refine (AllReadyH.cons (by simp only [List.getElem?_toArray, List.getElem?_cons_succ, List.getElem?_cons_zero]; rfl) (fun K hK => ?_) AllReadyH.nil)
          rw [if_pos (by rfl)]
          go_simp
          have E := Lib.hid (E.out.sto ZB.out (by omega) hZp ZA.out X6.out XO.out)
          dsimp only [List.cons_append, List.nil_append] at E
          clear hHeld z0 z1 z2 v0 v1 v2
          clear x0 x1 x2 hlx
          obtain ⟨x0, x1, x2, hlx⟩ := (E.out.get 1 rfl).cells
          refine hK.out _ _ (by exact ⟨x0, x1, x2⟩) (fun hHeld => ?_)
          clear hK K
          try simp only [Act.put]
          try simp only [List.setIfInBounds_toArray]
          try simp only [List.set_cons_succ]
          try simp only [List.set_cons_zero]
          refine wpAnyH_take (i := 9) (oi := _) (v := ?_) (by simp only [List.getElem?_toArray, List.getElem?_cons_succ, List.getElem?_cons_zero]; rfl) (by kernel_rfl) (by kernel_rfl) (by kernel_rfl) (by exact fun _ _ _ h => h) (Or.inl ⟨by rfl, ?_⟩) (by assumption) ?_
          rotate_left 1
          · (intro w hSw; (try dsimp only at hSw); go_simp; try with_reducible rfl)
          all_goals try simp only [Act.put]
          all_goals try simp only [List.setIfInBounds_toArray]
          all_goals try simp only [List.set_cons_succ]
          all_goals try simp only [List.set_cons_zero]
          refine wpAnyH_done (by kernel_rfl) ?_ _
          go_wp2_with fail
          go_meet
          exact ⟨Z, h, r, er, A6, n6, c6, rfl, rfl, HS6.out, HD5.out, HC6.out, E.out⟩
      · rw [if_pos (by rfl)]
        go_simp
        have hZp := E.out.s.lt
        have ZB := Lib.hid (Blk.new wd 44 #[.slice none 0 0, .int .i64 0, .int .i64 0])
        have ZA := Lib.hid E.out.apart
        try (have XO := Lib.hid X6.out.off)
        try (have X6 := Lib.hid (X6.out.alloc (.cells #[.slice none 0 0, .int .i64 0, .int .i64 0] 44)))
        try (have H5 := Lib.hid (H5.out.alloc (.cells #[.slice none 0 0, .int .i64 0, .int .i64 0] 44)))
        have E := Lib.hid (E.out.alloc (.cells #[.slice none 0 0, .int .i64 0, .int .i64 0] 44))
        generalize hzz : wd.alloc (.cells #[.slice none 0 0, .int .i64 0, .int .i64 0] 44) = w5 at *
        clear hzz
        generalize wd.heap.size = Z at *
        clear hHeld
        clear x0 x1 x2 hlx
        obtain ⟨x0, x1, x2, hlx⟩ := (E.out.get 1 rfl).cells
        have hZl := ZB.out.lt
        refine hK.out _ _ (by exact ⟨x0, x1, x2⟩) (fun hHeld => ?_)
        clear hK K
        try simp only [Act.put]
        try simp only [List.setIfInBounds_toArray]
        try simp only [List.set_cons_succ]
        try simp only [List.set_cons_zero]
        refine wpAnyH_ready (rs := [2]) (by kernel_rfl) (by simp) ?_
        refine (AllReadyH.cons (by simp only [List.getElem?_toArray, List.getElem?_cons_succ, List.getElem?_cons_zero]; rfl) (fun K hK => ?_) AllReadyH.nil)
        rw [if_pos (by rfl)]
        go_simp
        refine (srcZero2_any w.heap.size 3 w5 (by exact E.out.s) (by omega) (by omega)).mono ?_
        rintro e w6 ⟨h, A5, n5, c5, hD, hc5, rfl, hI, hA, hS, hk⟩
        have hps := E.out.s.lt
        try (have ZB := Lib.hid (ZB.out.kept (by omega) hk))
        have E := Lib.hid (E.out.kept hS hk)
        have H5 := Lib.hid (show (CR.mk A5 n5 c5 h).In w.heap.size w6 from CR.In.new hI hA hps)
        have HD5 := Lib.hid (show DrawC 3 h from hD.1)
        have HC5 := Lib.hid hc5
        have hn5 : n5 ≤ 11 := by have h1 := HD5.out.len; have h2 : h.vals.length = n5 := hI.1; omega
        clear hD hI hA hS hk hps hc5 hHeld
        clear x0 x1 x2 hlx
        obtain ⟨x0, x1, x2, hlx⟩ := (E.out.get 1 rfl).cells
        refine hK.out _ _ (by exact ⟨x0, x1, x2⟩) (fun hHeld => ?_)
        clear hK K
        try simp only [Act.put]
        try simp only [List.setIfInBounds_toArray]
        try simp only [List.set_cons_succ]
        try simp only [List.set_cons_zero]
        refine wpAnyH_ready (rs := [3]) (by kernel_rfl) (by simp) ?_
        refine (AllReadyH.cons (by simp only [List.getElem?_toArray, List.getElem?_cons_succ, List.getElem?_cons_zero]; rfl) (fun K hK => ?_) AllReadyH.nil)
        rw [if_pos (by rfl)]
        go_simp
        refine (refSum_any B A5 m n5 d c5 g.per g.inc h.per h.inc g.vals h.vals w6 (by exact (E.out.get 1 rfl).inn.ints) (by exact H5.out.ints) (by omega) (by omega) HCg.out HC5.out).mono ?_
        rintro e w7 ⟨r, er, A6, n6, c6, hSS, hc6, rfl, hI, hA, hb⟩
        have hps := E.out.s.lt
        try (have hZl := ZB.out.lt)
        try (have ZB := Lib.hid (ZB.out.below hb ZB.out.lt))
        have E := Lib.hid (E.out.below hb)
        have X6 := Lib.hid (show (CR.mk A6 n6 c6 r).In w.heap.size w7 from CR.In.new hI hA hps)
        try (have XO := Lib.hid (show CR.Off ⟨A6, n6, c6, r⟩ Z from CR.Off.of_ge hA (by omega)))
        have HS6 := Lib.hid hSS
        have HC6 := Lib.hid hc6
        clear hI hA hb hps hc6 hSS hHeld
        clear x0 x1 x2 hlx
        obtain ⟨x0, x1, x2, hlx⟩ := (E.out.get 1 rfl).cells
        refine hK.out _ _ (by exact ⟨x0, x1, x2⟩) (fun hHeld => ?_)
        clear hK K
        try simp only [Act.put]
        try simp only [List.setIfInBounds_toArray]
        try simp only [List.set_cons_succ]
        try simp only [List.set_cons_zero]
        refine wpAnyH_take (i := 4) (oi := _) (v := ?_) (by simp only [List.getElem?_toArray, List.getElem?_cons_succ, List.getElem?_cons_zero]; rfl) (by kernel_rfl) (by kernel_rfl) (by kernel_rfl) (by exact fun _ _ _ h => h) (Or.inl ⟨by rfl, ?_⟩) (by assumption) ?_
        rotate_left 1
        · (intro w hSw; (try dsimp only at hSw); go_simp; try with_reducible rfl)
        all_goals try simp only [Act.put]
        all_goals try simp only [List.setIfInBounds_toArray]
        all_goals try simp only [List.set_cons_succ]
        all_goals try simp only [List.set_cons_zero]
        refine wpAnyH_take (i := 5) (oi := _) (v := ?_) (by simp only [List.getElem?_toArray, List.getElem?_cons_succ, List.getElem?_cons_zero]; rfl) (by kernel_rfl) (by kernel_rfl) (by kernel_rfl) (by exact fun _ _ _ h => h) (Or.inl ⟨by rfl, ?_⟩) (by assumption) ?_
        rotate_left 1
        · (intro w hSw; (try dsimp only at hSw); go_simp; try with_reducible rfl)
        all_goals try simp only [Act.put]
        all_goals try simp only [List.setIfInBounds_toArray]
        all_goals try simp only [List.set_cons_succ]
        all_goals try simp only [List.set_cons_zero]
        refine wpAnyH_take (i := 6) (oi := _) (v := ?_) (by simp only [List.getElem?_toArray, List.getElem?_cons_succ, List.getElem?_cons_zero]; rfl) (by kernel_rfl) (by kernel_rfl) (by kernel_rfl) (by exact fun _ _ _ h => h) (Or.inl ⟨by rfl, ?_⟩) (by assumption) ?_
        rotate_left 1
        · (intro w hSw; (try dsimp only at hSw); go_simp; try with_reducible rfl)
        all_goals try simp only [Act.put]
        all_goals try simp only [List.setIfInBounds_toArray]
        all_goals try simp only [List.set_cons_succ]
        all_goals try simp only [List.set_cons_zero]
        have z0 := ZB.out.cell 0; have z1 := ZB.out.cell 1; have z2 := ZB.out.cell 2; have v0 := ZB.out.frozen 0; have v1 := ZB.out.frozen 1; have v2 := ZB.out.frozen 2
        simp at z0 z1 z2
        refine wpAnyH_ready (rs := [8]) (by kernel_rfl) (by simp) ?_
        refine (AllReadyH.cons (by simp only [List.getElem?_toArray, List.getElem?_cons_succ, List.getElem?_cons_zero]; rfl) (fun K hK => ?_) AllReadyH.nil)
        rw [if_pos (by rfl)]
        go_simp
        have E := Lib.hid (E.out.sto ZB.out (by omega) hZp ZA.out X6.out XO.out)
        dsimp only [List.cons_append, List.nil_append] at E
        clear hHeld z0 z1 z2 v0 v1 v2
        clear x0 x1 x2 hlx
        obtain ⟨x0, x1, x2, hlx⟩ := (E.out.get 1 rfl).cells
        refine hK.out _ _ (by exact ⟨x0, x1, x2⟩) (fun hHeld => ?_)
        clear hK K
        try simp only [Act.put]
        try simp only [List.setIfInBounds_toArray]
        try simp only [List.set_cons_succ]
        try simp only [List.set_cons_zero]
        refine wpAnyH_take (i := 9) (oi := _) (v := ?_) (by simp only [List.getElem?_toArray, List.getElem?_cons_succ, List.getElem?_cons_zero]; rfl) (by kernel_rfl) (by kernel_rfl) (by kernel_rfl) (by exact fun _ _ _ h => h) (Or.inl ⟨by rfl, ?_⟩) (by assumption) ?_
        rotate_left 1
        · (intro w hSw; (try dsimp only at hSw); go_simp; try with_reducible rfl)
        all_goals try simp only [Act.put]
        all_goals try simp only [List.setIfInBounds_toArray]
        all_goals try simp only [List.set_cons_succ]
        all_goals try simp only [List.set_cons_zero]
        refine wpAnyH_done (by kernel_rfl) ?_ _
        go_wp2_with fail
        go_meet
        exact ⟨Z, h, r, er, A6, n6, c6, rfl, rfl, HS6.out, HD5.out, HC6.out, E.out⟩
    case rest =>
      obtain ⟨Z2, h2, r2, er2, A2, n2, c2, rfl, rfl, hSS, hD, hc2, he⟩ := hcut
      have E := Lib.hid (show EnvL w.heap.size w _ [(F, ⟨A, n, c, f⟩), (G, ⟨B, m, d, g⟩), (Z1, ⟨A1, n1, c1, r1⟩), (Z2, ⟨A2, n2, c2, r2⟩)] from he)
      have HDG := Lib.hid hD
      obtain ⟨rfl, hro, hrat⟩ := sum_made (by omega) (by omega) Hg.out.1 hD hSS
      have HO2 := Lib.hid hro; have HAT2 := Lib.hid hrat
      have hn2 : n2 ≤ 400 := by have h1 := hro.n2; have h2 : r2.vals.length = n2 := (E.out.get 3 rfl).inn.ints.1; omega
      clear hSS hD hc2 he hro hrat
      have Q1 := Lib.hid (show ∀ k M, AB r1 g k M → AB f g k M from fun k M h => ab_more Hf.out.ok HDH.out.ok HO1.out HAT1.out h)
      have Q2 := Lib.hid (show ∀ k M, AB f g k M → AB f r2 k M from fun k M h => ab_fast Hg.out.1.ok HDG.out.ok HO2.out HAT2.out h)
      clear HDH HDG HAT1 HAT2
      go_upto_region 7 with fail
      obtain ⟨x0, x1, x2, hlx⟩ := (E.out.get 0 rfl).cells
      obtain ⟨y0, y1, y2, hly⟩ := (E.out.get 1 rfl).cells
      go_wp2_with fail
      refine (dcfn_any A B n m c d f.per f.inc g.per g.inc f.vals g.vals _ (by exact (E.out.get 0 rfl).inn.ints) (by exact (E.out.get 1 rfl).inn.ints) (by omega) (by omega)).mono ?_
      -- the result of Of: w5 world, a curve, i error, A4 n4 c4 its slice
      rintro e w5 ⟨a, i, hS, A4, n4, c4, hc5, rfl, hI, hA, hb⟩
      have hps := E.out.s.lt
      have E := Lib.hid (show EnvL w.heap.size w _ _ from (E.out.below hb).push (X := ⟨A4, n4, c4, a⟩) (CR.In.new hI hA hps))
      dsimp only [List.cons_append, List.nil_append] at E
      have HSa := Lib.hid hS
      clear hS hc5 hI hA hb hps
      clear x0 x1 x2 hlx y0 y1 y2 hly
      obtain ⟨x0, x1, x2, hlx⟩ := (E.out.get 2 rfl).cells
      obtain ⟨y0, y1, y2, hly⟩ := (E.out.get 1 rfl).cells
      go_wp2_with fail
      refine (dcfn_any A1 B n1 m c1 d r1.per r1.inc g.per g.inc r1.vals g.vals _ (by exact (E.out.get 2 rfl).inn.ints) (by exact (E.out.get 1 rfl).inn.ints) (by omega) (by omega)).mono ?_
      -- the result of Of: w6 world, b curve, j error, A5 n5 c5 its slice
      rintro e w6 ⟨b, j, hS, A5, n5, c5, hc5, rfl, hI, hA, hb⟩
      have hps := E.out.s.lt
      have E := Lib.hid (show EnvL w.heap.size w _ _ from (E.out.below hb).push (X := ⟨A5, n5, c5, b⟩) (CR.In.new hI hA hps))
      dsimp only [List.cons_append, List.nil_append] at E
      have HSb := Lib.hid hS
      clear hS hc5 hI hA hb hps
      clear x0 x1 x2 hlx y0 y1 y2 hly
      obtain ⟨x0, x1, x2, hlx⟩ := (E.out.get 0 rfl).cells
      obtain ⟨y0, y1, y2, hly⟩ := (E.out.get 3 rfl).cells
      go_wp2_with fail
      refine (dcfn_any A A2 n n2 c c2 f.per f.inc r2.per r2.inc f.vals r2.vals _ (by exact (E.out.get 0 rfl).inn.ints) (by exact (E.out.get 3 rfl).inn.ints) (by omega) (by omega)).mono ?_
      -- the result of Of: w7 world, x curve, k error, A6 n6 c6 its slice
      rintro e w7 ⟨x, k, hS, A6, n6, c6, hc5, rfl, hI, hA, hb⟩
      have hps := E.out.s.lt
      have E := Lib.hid (show EnvL w.heap.size w _ _ from (E.out.below hb).push (X := ⟨A6, n6, c6, x⟩) (CR.In.new hI hA hps))
      dsimp only [List.cons_append, List.nil_append] at E
      have HSx := Lib.hid hS
      clear hS hc5 hI hA hb hps
      clear x0 x1 x2 hlx y0 y1 y2 hly
      go_upto_region 10 with fail
      have LN := Lib.hid (show (i = 0 → n4 ≤ 400) ∧ (j = 0 → n5 ≤ 400) ∧ (k = 0 → n6 ≤ 400) from by
        refine ⟨fun h => ?_, fun h => ?_, fun h => ?_⟩
        · subst h; have h1 := (dcS_ok HSa.out).1.n2; have h2 : a.vals.length = n4 := (E.out.get 4 rfl).inn.ints.1; omega
        · subst h; have h1 := (dcS_ok HSb.out).1.n2; have h2 : b.vals.length = n5 := (E.out.get 5 rfl).inn.ints.1; omega
        · subst h; have h1 := (dcS_ok HSx.out).1.n2; have h2 : x.vals.length = n6 := (E.out.get 6 rfl).inn.ints.1; omega)
      obtain ⟨x0, x1, x2, hlx⟩ := (E.out.get 4 rfl).cells
      obtain ⟨y0, y1, y2, hly⟩ := (E.out.get 5 rfl).cells
      obtain ⟨u0, u1, u2, hlu⟩ := (E.out.get 6 rfl).cells
      by_cases hi : i = 0
      · subst hi
        have hl4 := LN.out.1 rfl
        by_cases hj : j = 0
        · subst hj
          have hl5 := LN.out.2.1 rfl
          have T1 := Lib.hid (dc_mono HSa.out HSb.out Q1.out)
          by_cases hk : k = 0
          · subst hk
            have hl6 := LN.out.2.2 rfl
            have T2 := Lib.hid (dc_mono HSx.out HSa.out Q2.out)
            clear LN HSa HSb HSx
            go_wp2_with fail
            -- AtMost of two results, known to be true: a b their curves, A4.. slices, 4 5 their places, T1.out the fact
            refine (refAtMost_any A4 A5 n4 n5 c4 c5 a.per a.inc b.per b.inc a.vals b.vals _ (by exact (E.out.get 4 rfl).inn.ints) (by exact (E.out.get 5 rfl).inn.ints) (by omega) (by omega)).mono ?_
            intro e wq hr
            obtain ⟨rfl, hb⟩ := RetM.of T1.out hr
            have E := Lib.hid (E.out.below hb)
            clear hr hb
            clear x0 x1 x2 hlx y0 y1 y2 hly u0 u1 u2 hlu
            obtain ⟨x0, x1, x2, hlx⟩ := (E.out.get 4 rfl).cells
            obtain ⟨y0, y1, y2, hly⟩ := (E.out.get 5 rfl).cells
            obtain ⟨u0, u1, u2, hlu⟩ := (E.out.get 6 rfl).cells
            go_wp2_with fail
            -- AtMost of two results, known to be true: x a their curves, A6.. slices, 6 4 their places, T2.out the fact
            refine (refAtMost_any A6 A4 n6 n4 c6 c4 x.per x.inc a.per a.inc x.vals a.vals _ (by exact (E.out.get 6 rfl).inn.ints) (by exact (E.out.get 4 rfl).inn.ints) (by omega) (by omega)).mono ?_
            intro e wq hr
            obtain ⟨rfl, hb⟩ := RetM.of T2.out hr
            have E := Lib.hid (E.out.below hb)
            clear hr hb
            clear x0 x1 x2 hlx y0 y1 y2 hly u0 u1 u2 hlu
            obtain ⟨x0, x1, x2, hlx⟩ := (E.out.get 4 rfl).cells
            obtain ⟨y0, y1, y2, hly⟩ := (E.out.get 5 rfl).cells
            obtain ⟨u0, u1, u2, hlu⟩ := (E.out.get 6 rfl).cells
            go_wp2_with fail
            refine (awake8_any _).mono ?_
            rintro e wz ⟨rfl, hb⟩
            have bw := (E.out.below hb).fin
            go_wp2_with fail
            go_ret
            exact ⟨rfl, bw⟩
          · have dk : (k == 0) = false := by simpa using hk
            clear hk LN HSa HSb HSx
            go_wp2_with fail
            -- AtMost of two results, known to be true: a b their curves, A4.. slices, 4 5 their places, T1.out the fact
            refine (refAtMost_any A4 A5 n4 n5 c4 c5 a.per a.inc b.per b.inc a.vals b.vals _ (by exact (E.out.get 4 rfl).inn.ints) (by exact (E.out.get 5 rfl).inn.ints) (by omega) (by omega)).mono ?_
            intro e wq hr
            obtain ⟨rfl, hb⟩ := RetM.of T1.out hr
            have E := Lib.hid (E.out.below hb)
            clear hr hb
            clear x0 x1 x2 hlx y0 y1 y2 hly u0 u1 u2 hlu
            obtain ⟨x0, x1, x2, hlx⟩ := (E.out.get 4 rfl).cells
            obtain ⟨y0, y1, y2, hly⟩ := (E.out.get 5 rfl).cells
            obtain ⟨u0, u1, u2, hlu⟩ := (E.out.get 6 rfl).cells
            go_wp2_with fail
            refine (awake8_any _).mono ?_
            rintro e wz ⟨rfl, hb⟩
            have bw := (E.out.below hb).fin
            go_wp2_with fail
            go_ret
            exact ⟨rfl, bw⟩
        · have dj : (j == 0) = false := by simpa using hj
          clear hj
          by_cases hk : k = 0
          · subst hk
            have hl6 := LN.out.2.2 rfl
            have T2 := Lib.hid (dc_mono HSx.out HSa.out Q2.out)
            clear LN HSa HSb HSx
            go_wp2_with fail
            -- AtMost of two results, known to be true: x a their curves, A6.. slices, 6 4 their places, T2.out the fact
            refine (refAtMost_any A6 A4 n6 n4 c6 c4 x.per x.inc a.per a.inc x.vals a.vals _ (by exact (E.out.get 6 rfl).inn.ints) (by exact (E.out.get 4 rfl).inn.ints) (by omega) (by omega)).mono ?_
            intro e wq hr
            obtain ⟨rfl, hb⟩ := RetM.of T2.out hr
            have E := Lib.hid (E.out.below hb)
            clear hr hb
            clear x0 x1 x2 hlx y0 y1 y2 hly u0 u1 u2 hlu
            obtain ⟨x0, x1, x2, hlx⟩ := (E.out.get 4 rfl).cells
            obtain ⟨y0, y1, y2, hly⟩ := (E.out.get 5 rfl).cells
            obtain ⟨u0, u1, u2, hlu⟩ := (E.out.get 6 rfl).cells
            go_wp2_with fail
            refine (awake8_any _).mono ?_
            rintro e wz ⟨rfl, hb⟩
            have bw := (E.out.below hb).fin
            go_wp2_with fail
            go_ret
            exact ⟨rfl, bw⟩
          · have dk : (k == 0) = false := by simpa using hk
            clear hk LN HSa HSb HSx
            go_wp2_with fail
            refine (awake8_any _).mono ?_
            rintro e wz ⟨rfl, hb⟩
            have bw := (E.out.below hb).fin
            go_wp2_with fail
            go_ret
            exact ⟨rfl, bw⟩
      · have di : (i == 0) = false := by simpa using hi
        clear hi LN HSa HSb HSx
        go_wp2_with fail
        refine (awake8_any _).mono ?_
        rintro e wz ⟨rfl, hb⟩
        have bw := (E.out.below hb).fin
        go_wp2_with fail
        go_ret
        exact ⟨rfl, bw⟩
end Go.Proofs.Ythgfmaijoigckaa
