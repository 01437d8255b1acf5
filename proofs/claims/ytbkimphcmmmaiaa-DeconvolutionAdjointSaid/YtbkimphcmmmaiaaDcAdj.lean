/- The statement DeconvolutionAdjoint: the walk. -/
import Derived.Test.YtbkimphcmmmaiaaAwake8
import Derived.Test.YtbkimphcmmmaiaaSecond
import Derived.Test.YtbkimphcmmmaiaaEnvL2
import Derived.Test.YtbkimphcmmmaiaaRefRai
import Derived.Test.YtbkimphcmmmaiaaRefExc
import Derived.Test.YtbkimphcmmmaiaaCvFn
import Derived.Test.YtbkimphcmmmaiaaDcFn
import Derived.Test.YtbkimphcmmmaiaaAdjLaw
import Derived.Deep.DeepCutAuto
namespace Go.Proofs.Ytbkimphcmmmaiaa
open Go.RowKit
set_option linter.unusedVariables false

theorem Apart.snoc {vs : List (Nat × CR)} {Z X : Nat} {x : CR} (h : Apart vs Z) (h1 : X ≠ Z) (h2 : x.Off Z) : Apart (vs ++ [(X, x)]) Z := fun q hq => by
  rcases List.mem_append.1 hq with hq | hq
  · exact h q hq
  · simp only [List.mem_singleton] at hq
    subst hq
    exact ⟨h1, h2⟩
theorem EnvL.join {p : Nat} {w0 w : World} {vs : List (Nat × CR)} (h : EnvL p w0 w vs) {Z : Nat} {X : CR} (hb : Blk w Z 31 #[.slice X.A X.n X.c, .int .i64 X.f.per, .int .i64 X.f.inc]) (hX : X.In p w) (hZ : Z ≠ p) : EnvL p w0 w (vs ++ [(Z, X)]) :=
  ⟨h.s, h.k, fun q hq => by
    rcases List.mem_append.1 hq with hq | hq
    · exact h.v q hq
    · simp only [List.mem_singleton] at hq
      subst hq
      exact ⟨hb, hX, hZ⟩⟩
theorem EnvL.subJ {p : Nat} {w0 w : World} {vs us : List (Nat × CR)} (h : EnvL p w0 w vs) (hs : ∀ x ∈ us, x ∈ vs) : EnvL p w0 w us := ⟨h.s, h.k, fun x hx => h.v x (hs x hx)⟩
theorem Blk.far3J {w : World} {g h : Nat} {t : TypeId} {cs : Array Value} (H : Blk w h t cs) (hne : h ≠ g) (x y z : Value) : Blk (((w.setCell ⟨g, 0, none⟩ x).setCell ⟨g, 1, none⟩ y).setCell ⟨g, 2, none⟩ z) h t cs :=
  ((H.far (p := ⟨g, 0, none⟩) hne x).far (p := ⟨g, 1, none⟩) hne y).far (p := ⟨g, 2, none⟩) hne z

set_option maxHeartbeats 4000000 in
set_option maxRecDepth 100000 in
theorem dcAdj_any (A0 : Option Addr) (n0 c0 : Nat) (L : List Int) (w : World) (hL : Ints w w.heap.size A0 n0 L) (hc0 : n0 ≤ c0) (hn0 : (n0 : Int) ≤ 9223372036854775807) :
    Calls Try.prog 11 #[.slice A0 n0 c0] w fun e w' => e = .returned (.bool true) ∧ Below w.heap.size w w' := by
  go_enter Try.func11, Try.ntmps11
  go_wp2_with fail
  refine (new_any A0 n0 c0 L w hL hc0 hn0).mono ?_
  rintro e w1 ⟨rfl, hS1, hb1⟩
  have E := Lib.hid (EnvL.start hS1 hb1)
  clear hL hS1 hb1
  -- a curve drawn, not yet in a variable: srcCurve2_any the contract, 5 most, _ w2 the worlds, f the curve, A n c, DrawC 5 f its facts
  go_wp2_with fail
  refine (srcCurve2_any w.heap.size 5 _ (by exact E.out.s) (by omega) (by omega)).mono ?_
  rintro e w2 ⟨f, A, n, c, hD, hcf, rfl, hI, hA, hS, hk⟩
  have hps := E.out.s.lt
  have E := Lib.hid (E.out.kept hS hk)
  have Vf := Lib.hid (show (CR.mk A n c f).In w.heap.size w2 from CR.In.new hI hA hps)
  have Hf := Lib.hid (show DrawC 5 f from hD)
  have HCf := Lib.hid hcf
  have hlenf := hI.1
  try simp only at hlenf
  have hnl : n ≤ 13 := by have h1 := Hf.out.len; omega
  clear hlenf
  clear hD hI hA hS hk hps hcf
  go_wp2_with fail
  refine (second_any w.heap.size 4 _ (by exact E.out.s) (by omega) (by omega)).mono ?_
  rintro e w3 ⟨g, B, m, d, hD, hcf, rfl, hI, hA, hS, hk⟩
  have hps := E.out.s.lt
  have E := Lib.hid (E.out.kept hS hk)
  have Vf := Lib.hid (Vf.out.kept hk)
  have Vg := Lib.hid (show (CR.mk B m d g).In w.heap.size w3 from CR.In.new hI hA hps)
  have Hg := Lib.hid (show DrawC 5 g ∧ nth g.vals 0 = 0 from hD)
  have hml : m ≤ 13 := by have h1 := Hg.out.1.len; have h2 : g.vals.length = m := hI.1; omega
  clear hD hI hA hS hk hps hcf
  -- a curve drawn, not yet in a variable: srcCurve2_any the contract, 5 most, _ w4 the worlds, h the curve, C l k, DrawC 5 h its facts
  go_wp2_with fail
  refine (srcCurve2_any w.heap.size 5 _ (by exact E.out.s) (by omega) (by omega)).mono ?_
  rintro e w4 ⟨h, C, l, k, hD, hcf, rfl, hI, hA, hS, hk⟩
  have hps := E.out.s.lt
  have E := Lib.hid (E.out.kept hS hk)
  have Vh := Lib.hid (show (CR.mk C l k h).In w.heap.size w4 from CR.In.new hI hA hps)
  have Hh := Lib.hid (show DrawC 5 h from hD)
  have HCh := Lib.hid hcf
  have hlenh := hI.1
  try simp only at hlenh
  have hll : l ≤ 13 := by have h1 := Hh.out.len; omega
  clear hlenh
  have Vf := Lib.hid (Vf.out.kept hk)
  have Vg := Lib.hid (Vg.out.kept hk)
  clear hD hI hA hS hk hps hcf
  have hp4 := E.out.s.lt
  have E := Lib.hid (show EnvL w.heap.size w _ _ from E.out.push (X := ⟨A, n, c, f⟩) Vf.out)
  dsimp only [List.cons_append, List.nil_append] at E
  have Vg := Lib.hid (Vg.out.alloc (.cells #[.slice A n c, .int .i64 f.per, .int .i64 f.inc] 31))
  have Vh := Lib.hid (Vh.out.alloc (.cells #[.slice A n c, .int .i64 f.per, .int .i64 f.inc] 31))
  have E := Lib.hid (show EnvL w.heap.size w _ _ from E.out.push (X := ⟨B, m, d, g⟩) Vg.out)
  dsimp only [List.cons_append, List.nil_append] at E
  have Vh := Lib.hid (Vh.out.alloc (.cells #[.slice B m d, .int .i64 g.per, .int .i64 g.inc] 31))
  have AP := Lib.hid E.out.apart
  have BH := Lib.hid (Blk.new ((w4.alloc (.cells #[.slice A n c, .int .i64 f.per, .int .i64 f.inc] 31)).alloc (.cells #[.slice B m d, .int .i64 g.per, .int .i64 g.inc] 31)) 31 #[.slice C l k, .int .i64 h.per, .int .i64 h.inc])
  have E := Lib.hid (E.out.alloc (.cells #[.slice C l k, .int .i64 h.per, .int .i64 h.inc] 31))
  have Vh := Lib.hid (Vh.out.alloc (.cells #[.slice C l k, .int .i64 h.per, .int .i64 h.inc] 31))
  clear Vf Vg HCf HCh
  go_upto_region 3 with fail
  simp only [World.size_alloc] at E AP BH
  generalize hwe : ((w4.alloc (.cells #[.slice A n c, .int .i64 f.per, .int .i64 f.inc] 31)).alloc (.cells #[.slice B m d, .int .i64 g.per, .int .i64 g.inc] 31)).alloc (.cells #[.slice C l k, .int .i64 h.per, .int .i64 h.inc] 31) = we at *
  clear hwe
  have hpZ : w.heap.size < w4.heap.size + 1 + 1 := by omega
  generalize w4.heap.size + 1 + 1 = Z at *
  generalize w4.heap.size + 1 = G at *
  generalize w4.heap.size = F at *
  have GZ := Lib.hid (show g.at 0 = 0 from by rw [Cv.at_lt (by have := Hg.out.1.ok.n1; omega)]; exact Hg.out.2)
  obtain ⟨x0, x1, x2, hlx⟩ := (E.out.get 0 rfl).cells
  obtain ⟨y0, y1, y2, hly⟩ := (E.out.get 1 rfl).cells
  go_wp2_with fail
  refine (dcfn_any A B n m c d f.per f.inc g.per g.inc f.vals g.vals _ (by exact (E.out.get 0 rfl).inn.ints) (by exact (E.out.get 1 rfl).inn.ints) (by omega) (by omega)).mono ?_
  rintro e w5 ⟨x, er, hSS, A4, n4, c4, hle, rfl, hI, hA, hb⟩
  have S1 := Lib.hid (show DcS f g x er from hSS)
  have hlt5 := (BH.out.below hb BH.out.lt).lt
  have hlt4 := BH.out.lt
  have AP := Lib.hid (AP.out.snoc (X := w5.heap.size) (x := ⟨A4, n4, c4, x⟩) (by omega) (CR.Off.of_ge hA hlt4))
  dsimp only [List.cons_append, List.nil_append] at AP
  have BH := Lib.hid ((BH.out.below hb BH.out.lt).alloc (.cells #[.slice A4 n4 c4, .int .i64 x.per, .int .i64 x.inc] 31))
  have Vh := Lib.hid ((Vh.out.below hb).alloc (.cells #[.slice A4 n4 c4, .int .i64 x.per, .int .i64 x.inc] 31))
  have HLE := Lib.hid hle
  clear hle hlt4
  have hps := E.out.s.lt
  have E := Lib.hid (show EnvL w.heap.size w _ _ from (E.out.below hb).push (X := ⟨A4, n4, c4, x⟩) (CR.In.new hI hA hps))
  dsimp only [List.cons_append, List.nil_append] at E
  clear hSS hI hA hb hps
  clear x0 x1 x2 hlx
  clear y0 y1 y2 hly
  go_upto_region 4 with fail
  generalize hwe : w5.alloc (.cells #[.slice A4 n4 c4, .int .i64 x.per, .int .i64 x.inc] 31) = wf at *
  clear hwe
  generalize w5.heap.size = X at *
  rcases dcS_er Hf.out.ok Hg.out.1.ok GZ.out S1.out with rfl | rfl
  · have HX := Lib.hid (dcS_ok S1.out).1
    have hn4 : n4 ≤ 400 := by have h1 := HX.out.n2; have h2 : x.vals.length = n4 := (E.out.get 2 rfl).inn.ints.1; omega
    go_wp2_with fail
    refine (n_any w.heap.size 2 _ (by exact E.out.s) (by omega) (by omega)).mono ?_
    rintro e w6 ⟨z, hz0, hz1, rfl, hS, hk⟩
    have BH := Lib.hid (BH.out.kept (by omega) hk)
    have Vh := Lib.hid (Vh.out.kept hk)
    have E := Lib.hid (E.out.kept hS hk)
    clear hS hk hz1
    by_cases hz : z = 0
    · subst hz
      clear Vh hz0
      obtain ⟨x0, x1, x2, hlx⟩ := (E.out.get 2 rfl).cells
      have z0 := BH.out.cell 0; have z1 := BH.out.cell 1; have z2 := BH.out.cell 2; have v0 := BH.out.frozen 0; have v1 := BH.out.frozen 1; have v2 := BH.out.frozen 2
      simp at z0 z1 z2
      go_upto_region 8 with fail
      have E := Lib.hid (E.out.far3 (Nat.le_of_lt hpZ) hpZ AP.out (.slice A4 n4 c4) (.int .i64 x.per) (.int .i64 x.inc))
      have BH := Lib.hid (BH.out.store3 (.slice A4 n4 c4) (.int .i64 x.per) (.int .i64 x.inc))
      generalize hws : ((w6.setCell ⟨Z, 0, none⟩ (.slice A4 n4 c4)).setCell ⟨Z, 1, none⟩ (.int .i64 x.per)).setCell ⟨Z, 2, none⟩ (.int .i64 x.inc) = ws at *
      clear hws z0 z1 z2 v0 v1 v2
      clear x0 x1 x2 hlx
      obtain ⟨x0, x1, x2, hlx⟩ := (E.out.get 2 rfl).cells
      go_cut [9, 10] (fun s9 s10 wx => ∃ (V : Nat) (v : Cv) (er : Int) (A6 : Option Addr) (n6 c6 : Nat), s9 = .pointer (some ⟨V, 0, none⟩) ∧ s10 = .int .i64 er ∧ (er = 0 → v.Ok) ∧ V ≠ Z ∧ CR.Off ⟨A6, n6, c6, v⟩ Z ∧ EnvL w.heap.size w wx ([(F, ⟨A, n, c, f⟩), (G, ⟨B, m, d, g⟩), (X, ⟨A4, n4, c4, x⟩)] ++ [(V, ⟨A6, n6, c6, v⟩)]) ∧ Blk wx Z 31 #[.slice A4 n4 c4, .int .i64 x.per, .int .i64 x.inc])
      case first =>
        clear AP
        refine wp_region_held_drew (S := (fun w' => w'.cell? ⟨X, 0, none⟩ = some (.slice A4 n4 c4) ∧ w'.cell? ⟨X, 1, none⟩ = some (.int .i64 x.per) ∧ w'.cell? ⟨X, 2, none⟩ = some (.int .i64 x.inc))) (by kernel_rfl) ⟨x0, x1, x2⟩ (fun hHeld => ?_)
        have E := Lib.hid E.out.drew
        have BH := Lib.hid (Blk.drew BH.out)
        clear x0 x1 x2 hlx
        generalize ws.drew = wd at *
        obtain ⟨x0, x1, x2, hlx⟩ := (E.out.get 2 rfl).cells
        have HL4 := HLE.out
        refine wpAnyH_take (i := 0) (oi := _) (v := ?_) (by simp only [List.getElem?_toArray, List.getElem?_cons_zero]; rfl) (by kernel_rfl) (by kernel_rfl) (by kernel_rfl) (by exact fun _ _ _ h => h) (Or.inl ⟨by rfl, ?_⟩) (by assumption) ?_
        rotate_left 1
        · (intro w hSw; (try dsimp only at hSw); go_simp; try with_reducible rfl)
        all_goals try simp only [Act.put]
        all_goals try simp only [List.setIfInBounds_toArray]
        all_goals try simp only [List.set_cons_succ]
        all_goals try simp only [List.set_cons_zero]
        refine wpAnyH_take (i := 1) (oi := _) (v := ?_) (by simp only [List.getElem?_toArray, List.getElem?_cons_succ, List.getElem?_cons_zero]; rfl) (by kernel_rfl) (by kernel_rfl) (by kernel_rfl) (by exact fun _ _ _ h => h) (Or.inl ⟨by rfl, ?_⟩) (by assumption) ?_
        rotate_left 1
        · (intro w hSw; (try dsimp only at hSw); go_simp; try with_reducible rfl)
        all_goals try simp only [Act.put]
        all_goals try simp only [List.setIfInBounds_toArray]
        all_goals try simp only [List.set_cons_succ]
        all_goals try simp only [List.set_cons_zero]
        refine wpAnyH_ready (rs := [2, 7]) (by kernel_rfl) (by simp) ?_
        refine (AllReadyH.cons (by simp only [List.getElem?_toArray, List.getElem?_cons_succ, List.getElem?_cons_zero]; rfl) (fun K hK => ?_) (AllReadyH.cons (by simp only [List.getElem?_toArray, List.getElem?_cons_succ, List.getElem?_cons_zero]; rfl) (fun K hK => ?_) AllReadyH.nil))
        · -- the number is drawn: wd w7 the worlds
          rw [if_pos (by rfl)]
          go_simp
          refine (n_any w.heap.size 3 wd (by exact E.out.s) (by omega) (by omega)).mono ?_
          rintro e w7 ⟨zz, hz0, hz1, rfl, hS, hk⟩
          try (have ZB := Lib.hid (ZB.out.kept (by omega) hk))
          have BH := Lib.hid (BH.out.kept (by omega) hk)
          have E := Lib.hid (E.out.kept hS hk)
          clear hS hk hHeld
          clear x0 x1 x2 hlx
          obtain ⟨x0, x1, x2, hlx⟩ := (E.out.get 2 rfl).cells
          refine hK.out _ _ (by exact ⟨x0, x1, x2⟩) (fun hHeld => ?_)
          clear hK K
          try simp only [Act.put]
          try simp only [List.setIfInBounds_toArray]
          try simp only [List.set_cons_succ]
          try simp only [List.set_cons_zero]
          refine wpAnyH_ready (rs := [3, 7]) (by kernel_rfl) (by simp) ?_
          refine (AllReadyH.cons (by simp only [List.getElem?_toArray, List.getElem?_cons_succ, List.getElem?_cons_zero]; rfl) (fun K hK => ?_) (AllReadyH.cons (by simp only [List.getElem?_toArray, List.getElem?_cons_succ, List.getElem?_cons_zero]; rfl) (fun K hK => ?_) AllReadyH.nil))
          · rw [if_pos (by rfl)]
            go_simp
            refine (refRaise_any A4 n4 c4 x.per x.inc zz x.vals w7 (by exact (E.out.get 2 rfl).inn.ints) (by omega) (by omega)).mono ?_
            rintro e w8 ⟨v, er, A6, n6, c6, hSS, hc6, rfl, hI, hA, hb⟩
            have hps := E.out.s.lt
            try (have hZl := ZB.out.lt)
            try (have ZB := Lib.hid (ZB.out.below hb ZB.out.lt))
            have hHl := BH.out.lt
            have BH := Lib.hid (BH.out.below hb BH.out.lt)
            have E := Lib.hid (E.out.below hb)
            have X6 := Lib.hid (show (CR.mk A6 n6 c6 v).In w.heap.size w8 from CR.In.new hI hA hps)
            have XH := Lib.hid (show CR.Off ⟨A6, n6, c6, v⟩ Z from CR.Off.of_ge hA (by omega))
            try (have XO := Lib.hid (show CR.Off ⟨A6, n6, c6, v⟩ V from CR.Off.of_ge hA (by omega)))
            have HV := Lib.hid (show er = 0 → v.Ok from raise_er HX.out hz0 (by omega) hSS)
            clear hI hA hb hps hSS hHeld hHl
            clear x0 x1 x2 hlx
            obtain ⟨x0, x1, x2, hlx⟩ := (E.out.get 2 rfl).cells
            refine hK.out _ _ (by exact ⟨x0, x1, x2⟩) (fun hHeld => ?_)
            clear hK K
            try simp only [Act.put]
            try simp only [List.setIfInBounds_toArray]
            try simp only [List.set_cons_succ]
            try simp only [List.set_cons_zero]
            refine wpAnyH_take (i := 4) (oi := _) (v := ?_) (by simp only [List.getElem?_toArray, List.getElem?_cons_succ, List.getElem?_cons_zero]; rfl) (by kernel_rfl) (by kernel_rfl) (by kernel_rfl) (by exact fun _ _ _ h => h) (Or.inl ⟨by rfl, ?_⟩) (by assumption) ?_
            rotate_left 1
            · (intro w hSw; (try dsimp only at hSw); go_simp; try with_reducible rfl)
            all_goals try simp only [Act.put]
            all_goals try simp only [List.setIfInBounds_toArray]
            all_goals try simp only [List.set_cons_succ]
            all_goals try simp only [List.set_cons_zero]
            refine wpAnyH_take (i := 5) (oi := _) (v := ?_) (by simp only [List.getElem?_toArray, List.getElem?_cons_succ, List.getElem?_cons_zero]; rfl) (by kernel_rfl) (by kernel_rfl) (by kernel_rfl) (by exact fun _ _ _ h => h) (Or.inl ⟨by rfl, ?_⟩) (by assumption) ?_
            rotate_left 1
            · (intro w hSw; (try dsimp only at hSw); go_simp; try with_reducible rfl)
            all_goals try simp only [Act.put]
            all_goals try simp only [List.setIfInBounds_toArray]
            all_goals try simp only [List.set_cons_succ]
            all_goals try simp only [List.set_cons_zero]
            refine wpAnyH_take (i := 6) (oi := _) (v := ?_) (by simp only [List.getElem?_toArray, List.getElem?_cons_succ, List.getElem?_cons_zero]; rfl) (by kernel_rfl) (by kernel_rfl) (by kernel_rfl) (by exact fun _ _ _ h => h) (Or.inl ⟨by rfl, ?_⟩) (by assumption) ?_
            rotate_left 1
            · (intro w hSw; (try dsimp only at hSw); go_simp; try with_reducible rfl)
            all_goals try simp only [Act.put]
            all_goals try simp only [List.setIfInBounds_toArray]
            all_goals try simp only [List.set_cons_succ]
            all_goals try simp only [List.set_cons_zero]
            refine wpAnyH_ready (rs := [7]) (by kernel_rfl) (by simp) ?_
            refine (AllReadyH.cons (by simp only [List.getElem?_toArray, List.getElem?_cons_succ, List.getElem?_cons_zero]; rfl) (fun K hK => ?_) AllReadyH.nil)
            rw [if_pos (by rfl)]
            go_simp
            have hZp := E.out.s.lt
            have hVZ := BH.out.lt
            have ZB := Lib.hid (Blk.new w8 31 #[.slice none 0 0, .int .i64 0, .int .i64 0])
            have ZA := Lib.hid E.out.apart
            try (have XO := Lib.hid X6.out.off)
            try (have X6 := Lib.hid (X6.out.alloc (.cells #[.slice none 0 0, .int .i64 0, .int .i64 0] 31)))
            have BH := Lib.hid (BH.out.alloc (.cells #[.slice none 0 0, .int .i64 0, .int .i64 0] 31))
            have E := Lib.hid (E.out.alloc (.cells #[.slice none 0 0, .int .i64 0, .int .i64 0] 31))
            generalize hzz : w8.alloc (.cells #[.slice none 0 0, .int .i64 0, .int .i64 0] 31) = w9 at *
            clear hzz
            generalize w8.heap.size = V at *
            clear hHeld
            clear x0 x1 x2 hlx
            obtain ⟨x0, x1, x2, hlx⟩ := (E.out.get 2 rfl).cells
            have hZl := ZB.out.lt
            refine hK.out _ _ (by exact ⟨x0, x1, x2⟩) (fun hHeld => ?_)
            clear hK K
            try simp only [Act.put]
            try simp only [List.setIfInBounds_toArray]
            try simp only [List.set_cons_succ]
            try simp only [List.set_cons_zero]
            have z0 := ZB.out.cell 0; have z1 := ZB.out.cell 1; have z2 := ZB.out.cell 2; have v0 := ZB.out.frozen 0; have v1 := ZB.out.frozen 1; have v2 := ZB.out.frozen 2
            simp at z0 z1 z2
            refine wpAnyH_ready (rs := [8]) (by kernel_rfl) (by simp) ?_
            refine (AllReadyH.cons (by simp only [List.getElem?_toArray, List.getElem?_cons_succ, List.getElem?_cons_zero]; rfl) (fun K hK => ?_) AllReadyH.nil)
            rw [if_pos (by rfl)]
            go_simp
            have E := Lib.hid (E.out.sto ZB.out (by omega) hZp ZA.out X6.out XO.out)
            have BH := Lib.hid (BH.out.far3J (g := V) (by omega) (.slice A6 n6 c6) (.int .i64 v.per) (.int .i64 v.inc))
            dsimp only [List.cons_append, List.nil_append] at E
            clear hHeld z0 z1 z2 v0 v1 v2
            clear x0 x1 x2 hlx
            obtain ⟨x0, x1, x2, hlx⟩ := (E.out.get 2 rfl).cells
            refine hK.out _ _ (by exact ⟨x0, x1, x2⟩) (fun hHeld => ?_)
            clear hK K
            try simp only [Act.put]
            try simp only [List.setIfInBounds_toArray]
            try simp only [List.set_cons_succ]
            try simp only [List.set_cons_zero]
            refine wpAnyH_take (i := 9) (oi := _) (v := ?_) (by simp only [List.getElem?_toArray, List.getElem?_cons_succ, List.getElem?_cons_zero]; rfl) (by kernel_rfl) (by kernel_rfl) (by kernel_rfl) (by exact fun _ _ _ h => h) (Or.inl ⟨by rfl, ?_⟩) (by assumption) ?_
            rotate_left 1
            · (intro w hSw; (try dsimp only at hSw); go_simp; try with_reducible rfl)
            all_goals try simp only [Act.put]
            all_goals try simp only [List.setIfInBounds_toArray]
            all_goals try simp only [List.set_cons_succ]
            all_goals try simp only [List.set_cons_zero]
            refine wpAnyH_done (by kernel_rfl) ?_ _
            go_wp2_with fail
            go_meet
            exact ⟨V, v, er, A6, n6, c6, rfl, rfl, HV.out, by omega, XH.out, E.out, BH.out⟩
          · rw [if_pos (by rfl)]
            go_simp
            have hZp := E.out.s.lt
            have hVZ := BH.out.lt
            have ZB := Lib.hid (Blk.new w7 31 #[.slice none 0 0, .int .i64 0, .int .i64 0])
            have ZA := Lib.hid E.out.apart
            try (have XO := Lib.hid X6.out.off)
            try (have X6 := Lib.hid (X6.out.alloc (.cells #[.slice none 0 0, .int .i64 0, .int .i64 0] 31)))
            have BH := Lib.hid (BH.out.alloc (.cells #[.slice none 0 0, .int .i64 0, .int .i64 0] 31))
            have E := Lib.hid (E.out.alloc (.cells #[.slice none 0 0, .int .i64 0, .int .i64 0] 31))
            generalize hzz : w7.alloc (.cells #[.slice none 0 0, .int .i64 0, .int .i64 0] 31) = w8 at *
            clear hzz
            generalize w7.heap.size = V at *
            clear hHeld
            clear x0 x1 x2 hlx
            obtain ⟨x0, x1, x2, hlx⟩ := (E.out.get 2 rfl).cells
            have hZl := ZB.out.lt
            refine hK.out _ _ (by exact ⟨x0, x1, x2⟩) (fun hHeld => ?_)
            clear hK K
            try simp only [Act.put]
            try simp only [List.setIfInBounds_toArray]
            try simp only [List.set_cons_succ]
            try simp only [List.set_cons_zero]
            refine wpAnyH_ready (rs := [3]) (by kernel_rfl) (by simp) ?_
            refine (AllReadyH.cons (by simp only [List.getElem?_toArray, List.getElem?_cons_succ, List.getElem?_cons_zero]; rfl) (fun K hK => ?_) AllReadyH.nil)
            rw [if_pos (by rfl)]
            go_simp
            refine (refRaise_any A4 n4 c4 x.per x.inc zz x.vals w8 (by exact (E.out.get 2 rfl).inn.ints) (by omega) (by omega)).mono ?_
            rintro e w9 ⟨v, er, A6, n6, c6, hSS, hc6, rfl, hI, hA, hb⟩
            have hps := E.out.s.lt
            try (have hZl := ZB.out.lt)
            try (have ZB := Lib.hid (ZB.out.below hb ZB.out.lt))
            have hHl := BH.out.lt
            have BH := Lib.hid (BH.out.below hb BH.out.lt)
            have E := Lib.hid (E.out.below hb)
            have X6 := Lib.hid (show (CR.mk A6 n6 c6 v).In w.heap.size w9 from CR.In.new hI hA hps)
            have XH := Lib.hid (show CR.Off ⟨A6, n6, c6, v⟩ Z from CR.Off.of_ge hA (by omega))
            try (have XO := Lib.hid (show CR.Off ⟨A6, n6, c6, v⟩ V from CR.Off.of_ge hA (by omega)))
            have HV := Lib.hid (show er = 0 → v.Ok from raise_er HX.out hz0 (by omega) hSS)
            clear hI hA hb hps hSS hHeld hHl
            clear x0 x1 x2 hlx
            obtain ⟨x0, x1, x2, hlx⟩ := (E.out.get 2 rfl).cells
            refine hK.out _ _ (by exact ⟨x0, x1, x2⟩) (fun hHeld => ?_)
            clear hK K
            try simp only [Act.put]
            try simp only [List.setIfInBounds_toArray]
            try simp only [List.set_cons_succ]
            try simp only [List.set_cons_zero]
            refine wpAnyH_take (i := 4) (oi := _) (v := ?_) (by simp only [List.getElem?_toArray, List.getElem?_cons_succ, List.getElem?_cons_zero]; rfl) (by kernel_rfl) (by kernel_rfl) (by kernel_rfl) (by exact fun _ _ _ h => h) (Or.inl ⟨by rfl, ?_⟩) (by assumption) ?_
            rotate_left 1
            · (intro w hSw; (try dsimp only at hSw); go_simp; try with_reducible rfl)
            all_goals try simp only [Act.put]
            all_goals try simp only [List.setIfInBounds_toArray]
            all_goals try simp only [List.set_cons_succ]
            all_goals try simp only [List.set_cons_zero]
            refine wpAnyH_take (i := 5) (oi := _) (v := ?_) (by simp only [List.getElem?_toArray, List.getElem?_cons_succ, List.getElem?_cons_zero]; rfl) (by kernel_rfl) (by kernel_rfl) (by kernel_rfl) (by exact fun _ _ _ h => h) (Or.inl ⟨by rfl, ?_⟩) (by assumption) ?_
            rotate_left 1
            · (intro w hSw; (try dsimp only at hSw); go_simp; try with_reducible rfl)
            all_goals try simp only [Act.put]
            all_goals try simp only [List.setIfInBounds_toArray]
            all_goals try simp only [List.set_cons_succ]
            all_goals try simp only [List.set_cons_zero]
            refine wpAnyH_take (i := 6) (oi := _) (v := ?_) (by simp only [List.getElem?_toArray, List.getElem?_cons_succ, List.getElem?_cons_zero]; rfl) (by kernel_rfl) (by kernel_rfl) (by kernel_rfl) (by exact fun _ _ _ h => h) (Or.inl ⟨by rfl, ?_⟩) (by assumption) ?_
            rotate_left 1
            · (intro w hSw; (try dsimp only at hSw); go_simp; try with_reducible rfl)
            all_goals try simp only [Act.put]
            all_goals try simp only [List.setIfInBounds_toArray]
            all_goals try simp only [List.set_cons_succ]
            all_goals try simp only [List.set_cons_zero]
            have z0 := ZB.out.cell 0; have z1 := ZB.out.cell 1; have z2 := ZB.out.cell 2; have v0 := ZB.out.frozen 0; have v1 := ZB.out.frozen 1; have v2 := ZB.out.frozen 2
            simp at z0 z1 z2
            refine wpAnyH_ready (rs := [8]) (by kernel_rfl) (by simp) ?_
            refine (AllReadyH.cons (by simp only [List.getElem?_toArray, List.getElem?_cons_succ, List.getElem?_cons_zero]; rfl) (fun K hK => ?_) AllReadyH.nil)
            rw [if_pos (by rfl)]
            go_simp
            have E := Lib.hid (E.out.sto ZB.out (by omega) hZp ZA.out X6.out XO.out)
            have BH := Lib.hid (BH.out.far3J (g := V) (by omega) (.slice A6 n6 c6) (.int .i64 v.per) (.int .i64 v.inc))
            dsimp only [List.cons_append, List.nil_append] at E
            clear hHeld z0 z1 z2 v0 v1 v2
            clear x0 x1 x2 hlx
            obtain ⟨x0, x1, x2, hlx⟩ := (E.out.get 2 rfl).cells
            refine hK.out _ _ (by exact ⟨x0, x1, x2⟩) (fun hHeld => ?_)
            clear hK K
            try simp only [Act.put]
            try simp only [List.setIfInBounds_toArray]
            try simp only [List.set_cons_succ]
            try simp only [List.set_cons_zero]
            refine wpAnyH_take (i := 9) (oi := _) (v := ?_) (by simp only [List.getElem?_toArray, List.getElem?_cons_succ, List.getElem?_cons_zero]; rfl) (by kernel_rfl) (by kernel_rfl) (by kernel_rfl) (by exact fun _ _ _ h => h) (Or.inl ⟨by rfl, ?_⟩) (by assumption) ?_
            rotate_left 1
            · (intro w hSw; (try dsimp only at hSw); go_simp; try with_reducible rfl)
            all_goals try simp only [Act.put]
            all_goals try simp only [List.setIfInBounds_toArray]
            all_goals try simp only [List.set_cons_succ]
            all_goals try simp only [List.set_cons_zero]
            refine wpAnyH_done (by kernel_rfl) ?_ _
            go_wp2_with fail
            go_meet
            exact ⟨V, v, er, A6, n6, c6, rfl, rfl, HV.out, by omega, XH.out, E.out, BH.out⟩
        · rw [if_pos (by rfl)]
          go_simp
          have hZp := E.out.s.lt
          have hVZ := BH.out.lt
          have ZB := Lib.hid (Blk.new wd 31 #[.slice none 0 0, .int .i64 0, .int .i64 0])
          have ZA := Lib.hid E.out.apart
          try (have XO := Lib.hid X6.out.off)
          try (have X6 := Lib.hid (X6.out.alloc (.cells #[.slice none 0 0, .int .i64 0, .int .i64 0] 31)))
          have BH := Lib.hid (BH.out.alloc (.cells #[.slice none 0 0, .int .i64 0, .int .i64 0] 31))
          have E := Lib.hid (E.out.alloc (.cells #[.slice none 0 0, .int .i64 0, .int .i64 0] 31))
          generalize hzz : wd.alloc (.cells #[.slice none 0 0, .int .i64 0, .int .i64 0] 31) = w7 at *
          clear hzz
          generalize wd.heap.size = V at *
          clear hHeld
          clear x0 x1 x2 hlx
          obtain ⟨x0, x1, x2, hlx⟩ := (E.out.get 2 rfl).cells
          have hZl := ZB.out.lt
          refine hK.out _ _ (by exact ⟨x0, x1, x2⟩) (fun hHeld => ?_)
          clear hK K
          try simp only [Act.put]
          try simp only [List.setIfInBounds_toArray]
          try simp only [List.set_cons_succ]
          try simp only [List.set_cons_zero]
          refine wpAnyH_ready (rs := [2]) (by kernel_rfl) (by simp) ?_
          refine (AllReadyH.cons (by simp only [List.getElem?_toArray, List.getElem?_cons_succ, List.getElem?_cons_zero]; rfl) (fun K hK => ?_) AllReadyH.nil)
          -- the number is drawn: w7 w8 the worlds
          rw [if_pos (by rfl)]
          go_simp
          refine (n_any w.heap.size 3 w7 (by exact E.out.s) (by omega) (by omega)).mono ?_
          rintro e w8 ⟨zz, hz0, hz1, rfl, hS, hk⟩
          try (have ZB := Lib.hid (ZB.out.kept (by omega) hk))
          have BH := Lib.hid (BH.out.kept (by omega) hk)
          have E := Lib.hid (E.out.kept hS hk)
          clear hS hk hHeld
          clear x0 x1 x2 hlx
          obtain ⟨x0, x1, x2, hlx⟩ := (E.out.get 2 rfl).cells
          refine hK.out _ _ (by exact ⟨x0, x1, x2⟩) (fun hHeld => ?_)
          clear hK K
          try simp only [Act.put]
          try simp only [List.setIfInBounds_toArray]
          try simp only [List.set_cons_succ]
          try simp only [List.set_cons_zero]
          refine wpAnyH_ready (rs := [3]) (by kernel_rfl) (by simp) ?_
          refine (AllReadyH.cons (by simp only [List.getElem?_toArray, List.getElem?_cons_succ, List.getElem?_cons_zero]; rfl) (fun K hK => ?_) AllReadyH.nil)
          rw [if_pos (by rfl)]
          go_simp
          refine (refRaise_any A4 n4 c4 x.per x.inc zz x.vals w8 (by exact (E.out.get 2 rfl).inn.ints) (by omega) (by omega)).mono ?_
          rintro e w9 ⟨v, er, A6, n6, c6, hSS, hc6, rfl, hI, hA, hb⟩
          have hps := E.out.s.lt
          try (have hZl := ZB.out.lt)
          try (have ZB := Lib.hid (ZB.out.below hb ZB.out.lt))
          have hHl := BH.out.lt
          have BH := Lib.hid (BH.out.below hb BH.out.lt)
          have E := Lib.hid (E.out.below hb)
          have X6 := Lib.hid (show (CR.mk A6 n6 c6 v).In w.heap.size w9 from CR.In.new hI hA hps)
          have XH := Lib.hid (show CR.Off ⟨A6, n6, c6, v⟩ Z from CR.Off.of_ge hA (by omega))
          try (have XO := Lib.hid (show CR.Off ⟨A6, n6, c6, v⟩ V from CR.Off.of_ge hA (by omega)))
          have HV := Lib.hid (show er = 0 → v.Ok from raise_er HX.out hz0 (by omega) hSS)
          clear hI hA hb hps hSS hHeld hHl
          clear x0 x1 x2 hlx
          obtain ⟨x0, x1, x2, hlx⟩ := (E.out.get 2 rfl).cells
          refine hK.out _ _ (by exact ⟨x0, x1, x2⟩) (fun hHeld => ?_)
          clear hK K
          try simp only [Act.put]
          try simp only [List.setIfInBounds_toArray]
          try simp only [List.set_cons_succ]
          try simp only [List.set_cons_zero]
          refine wpAnyH_take (i := 4) (oi := _) (v := ?_) (by simp only [List.getElem?_toArray, List.getElem?_cons_succ, List.getElem?_cons_zero]; rfl) (by kernel_rfl) (by kernel_rfl) (by kernel_rfl) (by exact fun _ _ _ h => h) (Or.inl ⟨by rfl, ?_⟩) (by assumption) ?_
          rotate_left 1
          · (intro w hSw; (try dsimp only at hSw); go_simp; try with_reducible rfl)
          all_goals try simp only [Act.put]
          all_goals try simp only [List.setIfInBounds_toArray]
          all_goals try simp only [List.set_cons_succ]
          all_goals try simp only [List.set_cons_zero]
          refine wpAnyH_take (i := 5) (oi := _) (v := ?_) (by simp only [List.getElem?_toArray, List.getElem?_cons_succ, List.getElem?_cons_zero]; rfl) (by kernel_rfl) (by kernel_rfl) (by kernel_rfl) (by exact fun _ _ _ h => h) (Or.inl ⟨by rfl, ?_⟩) (by assumption) ?_
          rotate_left 1
          · (intro w hSw; (try dsimp only at hSw); go_simp; try with_reducible rfl)
          all_goals try simp only [Act.put]
          all_goals try simp only [List.setIfInBounds_toArray]
          all_goals try simp only [List.set_cons_succ]
          all_goals try simp only [List.set_cons_zero]
          refine wpAnyH_take (i := 6) (oi := _) (v := ?_) (by simp only [List.getElem?_toArray, List.getElem?_cons_succ, List.getElem?_cons_zero]; rfl) (by kernel_rfl) (by kernel_rfl) (by kernel_rfl) (by exact fun _ _ _ h => h) (Or.inl ⟨by rfl, ?_⟩) (by assumption) ?_
          rotate_left 1
          · (intro w hSw; (try dsimp only at hSw); go_simp; try with_reducible rfl)
          all_goals try simp only [Act.put]
          all_goals try simp only [List.setIfInBounds_toArray]
          all_goals try simp only [List.set_cons_succ]
          all_goals try simp only [List.set_cons_zero]
          have z0 := ZB.out.cell 0; have z1 := ZB.out.cell 1; have z2 := ZB.out.cell 2; have v0 := ZB.out.frozen 0; have v1 := ZB.out.frozen 1; have v2 := ZB.out.frozen 2
          simp at z0 z1 z2
          refine wpAnyH_ready (rs := [8]) (by kernel_rfl) (by simp) ?_
          refine (AllReadyH.cons (by simp only [List.getElem?_toArray, List.getElem?_cons_succ, List.getElem?_cons_zero]; rfl) (fun K hK => ?_) AllReadyH.nil)
          rw [if_pos (by rfl)]
          go_simp
          have E := Lib.hid (E.out.sto ZB.out (by omega) hZp ZA.out X6.out XO.out)
          have BH := Lib.hid (BH.out.far3J (g := V) (by omega) (.slice A6 n6 c6) (.int .i64 v.per) (.int .i64 v.inc))
          dsimp only [List.cons_append, List.nil_append] at E
          clear hHeld z0 z1 z2 v0 v1 v2
          clear x0 x1 x2 hlx
          obtain ⟨x0, x1, x2, hlx⟩ := (E.out.get 2 rfl).cells
          refine hK.out _ _ (by exact ⟨x0, x1, x2⟩) (fun hHeld => ?_)
          clear hK K
          try simp only [Act.put]
          try simp only [List.setIfInBounds_toArray]
          try simp only [List.set_cons_succ]
          try simp only [List.set_cons_zero]
          refine wpAnyH_take (i := 9) (oi := _) (v := ?_) (by simp only [List.getElem?_toArray, List.getElem?_cons_succ, List.getElem?_cons_zero]; rfl) (by kernel_rfl) (by kernel_rfl) (by kernel_rfl) (by exact fun _ _ _ h => h) (Or.inl ⟨by rfl, ?_⟩) (by assumption) ?_
          rotate_left 1
          · (intro w hSw; (try dsimp only at hSw); go_simp; try with_reducible rfl)
          all_goals try simp only [Act.put]
          all_goals try simp only [List.setIfInBounds_toArray]
          all_goals try simp only [List.set_cons_succ]
          all_goals try simp only [List.set_cons_zero]
          refine wpAnyH_done (by kernel_rfl) ?_ _
          go_wp2_with fail
          go_meet
          exact ⟨V, v, er, A6, n6, c6, rfl, rfl, HV.out, by omega, XH.out, E.out, BH.out⟩
      case rest =>
        clear E BH
        obtain ⟨V, v, er, A6, n6, c6, rfl, rfl, hv, hVZ, hXZ, hE, hB⟩ := hcut
        have AP := Lib.hid (AP.out.snoc (X := V) (x := ⟨A6, n6, c6, v⟩) hVZ hXZ)
        have XZ := Lib.hid hXZ; have HVR := Lib.hid hv
        have E := Lib.hid hE; have BH := Lib.hid hB
        dsimp only [List.cons_append, List.nil_append] at E AP
        clear hE hB hVZ hXZ hv x0 x1 x2 hlx
        by_cases he : er = 0
        · subst he
          have HV := Lib.hid (HVR.out rfl)
          clear HVR
          go_wp2_with fail
          refine (n_any w.heap.size 2 _ (by exact E.out.s) (by omega) (by omega)).mono ?_
          rintro e w8 ⟨z, hz0, hz1, rfl, hS, hk⟩
          have BH := Lib.hid (BH.out.kept (by omega) hk)
          have E := Lib.hid (E.out.kept hS hk)
          clear hS hk hz1
          by_cases hz : z = 0
          · subst hz
            clear hz0
            obtain ⟨x0, x1, x2, hlx⟩ := (E.out.get 3 rfl).cells
            have z0 := BH.out.cell 0; have z1 := BH.out.cell 1; have z2 := BH.out.cell 2; have v0 := BH.out.frozen 0; have v1 := BH.out.frozen 1; have v2 := BH.out.frozen 2
            simp at z0 z1 z2
            go_upto_region 11 with fail
            have E := Lib.hid (E.out.sto BH.out (Nat.le_of_lt hpZ) hpZ AP.out (E.out.get 3 rfl).inn XZ.out)
            have E := Lib.hid (show EnvL w.heap.size w _ [(F, ⟨A, n, c, f⟩), (G, ⟨B, m, d, g⟩), (X, ⟨A4, n4, c4, x⟩), (Z, ⟨A6, n6, c6, v⟩)] from E.out.subJ (fun q hq => by simp only [List.cons_append, List.nil_append, List.mem_cons, List.not_mem_nil, or_false] at hq ⊢; rcases hq with rfl | rfl | rfl | rfl <;> simp))
            dsimp only at E
            generalize hws : ((w8.setCell ⟨Z, 0, none⟩ (.slice A6 n6 c6)).setCell ⟨Z, 1, none⟩ (.int .i64 v.per)).setCell ⟨Z, 2, none⟩ (.int .i64 v.inc) = wt at *
            clear hws z0 z1 z2 v0 v1 v2 BH AP XZ
            clear x0 x1 x2 hlx
            -- the current third curve is v (A6 n6 c6), at the place 3; HV: v.Ok
            have hn6 : n6 ≤ 400 := by have h1 := HV.out.n2; have h2 : v.vals.length = n6 := (E.out.get 3 rfl).inn.ints.1; omega
            obtain ⟨x0, x1, x2, hlx⟩ := (E.out.get 3 rfl).cells
            obtain ⟨y0, y1, y2, hly⟩ := (E.out.get 1 rfl).cells
            go_wp2_with fail
            refine (cvfn_any A6 B n6 m c6 d v.per v.inc g.per g.inc v.vals g.vals _ (by exact (E.out.get 3 rfl).inn.ints) (by exact (E.out.get 1 rfl).inn.ints) (by omega) (by omega)).mono ?_
            rintro e wv ⟨y, j, hSS, A5, n5, c5, hle, rfl, hI, hA, hb⟩
            have S2 := Lib.hid (show CvS v g y j from hSS)
            clear hle
            have hps := E.out.s.lt
            have E := Lib.hid (show EnvL w.heap.size w _ _ from (E.out.below hb).push (X := ⟨A5, n5, c5, y⟩) (CR.In.new hI hA hps))
            dsimp only [List.cons_append, List.nil_append] at E
            clear hSS hI hA hb hps
            clear x0 x1 x2 hlx
            clear y0 y1 y2 hly
            go_upto_region 12 with fail
            generalize hwe : wv.alloc (.cells #[.slice A5 n5 c5, .int .i64 y.per, .int .i64 y.inc] 31) = wy at *
            clear hwe
            generalize wv.heap.size = Y at *
            rcases cvS_er HV.out Hg.out.1.ok S2.out with rfl | rfl
            · obtain ⟨q, t1, t2⟩ := adj_both S1.out S2.out
              have T1 := Lib.hid t1; have T2 := Lib.hid t2
              have hn5 : n5 ≤ 400 := by have h1 := (cvS_get S2.out).2.2.1.n2; have h2 : y.vals.length = n5 := (E.out.get 4 rfl).inn.ints.1; omega
              clear t1 t2 S1 S2
              go_upto_region 14 with fail
              obtain ⟨x0, x1, x2, hlx⟩ := (E.out.get 2 rfl).cells
              obtain ⟨y0, y1, y2, hly⟩ := (E.out.get 3 rfl).cells
              obtain ⟨u0, u1, u2, hlu⟩ := (E.out.get 0 rfl).cells
              obtain ⟨v0, v1, v2, hlv⟩ := (E.out.get 4 rfl).cells
              cases q
              · refine wp_region_held_drew (S := (fun w' => w'.cell? ⟨X, 0, none⟩ = some (.slice A4 n4 c4) ∧ w'.cell? ⟨X, 1, none⟩ = some (.int .i64 x.per) ∧ w'.cell? ⟨X, 2, none⟩ = some (.int .i64 x.inc) ∧ w'.cell? ⟨Z, 0, none⟩ = some (.slice A6 n6 c6) ∧ w'.cell? ⟨Z, 1, none⟩ = some (.int .i64 v.per) ∧ w'.cell? ⟨Z, 2, none⟩ = some (.int .i64 v.inc) ∧ w'.cell? ⟨F, 0, none⟩ = some (.slice A n c) ∧ w'.cell? ⟨F, 1, none⟩ = some (.int .i64 f.per) ∧ w'.cell? ⟨F, 2, none⟩ = some (.int .i64 f.inc) ∧ w'.cell? ⟨Y, 0, none⟩ = some (.slice A5 n5 c5) ∧ w'.cell? ⟨Y, 1, none⟩ = some (.int .i64 y.per) ∧ w'.cell? ⟨Y, 2, none⟩ = some (.int .i64 y.inc))) (by kernel_rfl) (by exact ⟨x0, x1, x2, y0, y1, y2, u0, u1, u2, v0, v1, v2⟩) (fun hHeld => ?_)
                have E := Lib.hid E.out.drew
                clear x0 x1 x2 hlx
                clear y0 y1 y2 hly
                clear u0 u1 u2 hlu
                clear v0 v1 v2 hlv
                generalize wy.drew = wd at *
                obtain ⟨x0, x1, x2, hlx⟩ := (E.out.get 2 rfl).cells
                obtain ⟨y0, y1, y2, hly⟩ := (E.out.get 3 rfl).cells
                obtain ⟨u0, u1, u2, hlu⟩ := (E.out.get 0 rfl).cells
                obtain ⟨v0, v1, v2, hlv⟩ := (E.out.get 4 rfl).cells
                refine wpAnyH_take (i := 0) (oi := _) (v := ?_) (by simp only [List.getElem?_toArray, List.getElem?_cons_zero]; rfl) (by kernel_rfl) (by kernel_rfl) (by kernel_rfl) (by exact fun _ _ _ h => h) (Or.inl ⟨by rfl, ?_⟩) (by assumption) ?_
                rotate_left 1
                · (intro w hSw; (try dsimp only at hSw); go_simp; try with_reducible rfl)
                all_goals try simp only [Act.put]
                all_goals try simp only [List.setIfInBounds_toArray]
                all_goals try simp only [List.set_cons_succ]
                all_goals try simp only [List.set_cons_zero]
                refine wpAnyH_take (i := 1) (oi := _) (v := ?_) (by simp only [List.getElem?_toArray, List.getElem?_cons_succ, List.getElem?_cons_zero]; rfl) (by kernel_rfl) (by kernel_rfl) (by kernel_rfl) (by exact fun _ _ _ h => h) (Or.inl ⟨by rfl, ?_⟩) (by assumption) ?_
                rotate_left 1
                · (intro w hSw; (try dsimp only at hSw); go_simp; try with_reducible rfl)
                all_goals try simp only [Act.put]
                all_goals try simp only [List.setIfInBounds_toArray]
                all_goals try simp only [List.set_cons_succ]
                all_goals try simp only [List.set_cons_zero]
                refine wpAnyH_take (i := 3) (oi := _) (v := ?_) (by simp only [List.getElem?_toArray, List.getElem?_cons_succ, List.getElem?_cons_zero]; rfl) (by kernel_rfl) (by kernel_rfl) (by kernel_rfl) (by exact fun _ _ _ h => h) (Or.inl ⟨by rfl, ?_⟩) (by assumption) ?_
                rotate_left 1
                · (intro w hSw; (try dsimp only at hSw); go_simp; try with_reducible rfl)
                all_goals try simp only [Act.put]
                all_goals try simp only [List.setIfInBounds_toArray]
                all_goals try simp only [List.set_cons_succ]
                all_goals try simp only [List.set_cons_zero]
                refine wpAnyH_take (i := 4) (oi := _) (v := ?_) (by simp only [List.getElem?_toArray, List.getElem?_cons_succ, List.getElem?_cons_zero]; rfl) (by kernel_rfl) (by kernel_rfl) (by kernel_rfl) (by exact fun _ _ _ h => h) (Or.inl ⟨by rfl, ?_⟩) (by assumption) ?_
                rotate_left 1
                · (intro w hSw; (try dsimp only at hSw); go_simp; try with_reducible rfl)
                all_goals try simp only [Act.put]
                all_goals try simp only [List.setIfInBounds_toArray]
                all_goals try simp only [List.set_cons_succ]
                all_goals try simp only [List.set_cons_zero]
                refine wpAnyH_ready (rs := [2]) (by kernel_rfl) (by simp) ?_
                refine (AllReadyH.cons (by simp only [List.getElem?_toArray, List.getElem?_cons_succ, List.getElem?_cons_zero]; rfl) (fun K hK => ?_) AllReadyH.nil)
                -- AtMost: x v the curves, A4 .. c6 their slices, 2 3 the places, T1.out the fact
                rw [if_pos (by rfl)]
                go_simp
                refine (refAtMost_any A4 A6 n4 n6 c4 c6 x.per x.inc v.per v.inc x.vals v.vals _ (by exact (E.out.get 2 rfl).inn.ints) (by exact (E.out.get 3 rfl).inn.ints) (by omega) (by omega)).mono ?_
                intro e wq hr
                obtain ⟨rfl, hb⟩ := RetM.of T1.out hr
                have E := Lib.hid (E.out.below hb)
                clear hr hb hHeld
                clear x0 x1 x2 hlx
                clear y0 y1 y2 hly
                clear u0 u1 u2 hlu
                clear v0 v1 v2 hlv
                obtain ⟨x0, x1, x2, hlx⟩ := (E.out.get 2 rfl).cells
                obtain ⟨y0, y1, y2, hly⟩ := (E.out.get 3 rfl).cells
                obtain ⟨u0, u1, u2, hlu⟩ := (E.out.get 0 rfl).cells
                obtain ⟨v0, v1, v2, hlv⟩ := (E.out.get 4 rfl).cells
                refine hK.out _ _ (by exact ⟨x0, x1, x2, y0, y1, y2, u0, u1, u2, v0, v1, v2⟩) (fun hHeld => ?_)
                clear hK K
                try simp only [Act.put]
                try simp only [List.setIfInBounds_toArray]
                try simp only [List.set_cons_succ]
                try simp only [List.set_cons_zero]
                refine wpAnyH_ready (rs := [5]) (by kernel_rfl) (by simp) ?_
                refine (AllReadyH.cons (by simp only [List.getElem?_toArray, List.getElem?_cons_succ, List.getElem?_cons_zero]; rfl) (fun K hK => ?_) AllReadyH.nil)
                -- AtMost: f y the curves, A .. c5 their slices, 0 4 the places, T2.out the fact
                rw [if_pos (by rfl)]
                go_simp
                refine (refAtMost_any A A5 n n5 c c5 f.per f.inc y.per y.inc f.vals y.vals _ (by exact (E.out.get 0 rfl).inn.ints) (by exact (E.out.get 4 rfl).inn.ints) (by omega) (by omega)).mono ?_
                intro e wq hr
                obtain ⟨rfl, hb⟩ := RetM.of T2.out hr
                have E := Lib.hid (E.out.below hb)
                clear hr hb hHeld
                clear x0 x1 x2 hlx
                clear y0 y1 y2 hly
                clear u0 u1 u2 hlu
                clear v0 v1 v2 hlv
                obtain ⟨x0, x1, x2, hlx⟩ := (E.out.get 2 rfl).cells
                obtain ⟨y0, y1, y2, hly⟩ := (E.out.get 3 rfl).cells
                obtain ⟨u0, u1, u2, hlu⟩ := (E.out.get 0 rfl).cells
                obtain ⟨v0, v1, v2, hlv⟩ := (E.out.get 4 rfl).cells
                refine hK.out _ _ (by exact ⟨x0, x1, x2, y0, y1, y2, u0, u1, u2, v0, v1, v2⟩) (fun hHeld => ?_)
                clear hK K
                try simp only [Act.put]
                try simp only [List.setIfInBounds_toArray]
                try simp only [List.set_cons_succ]
                try simp only [List.set_cons_zero]
                refine wpAnyH_take (i := 6) (oi := _) (v := ?_) (by simp only [List.getElem?_toArray, List.getElem?_cons_succ, List.getElem?_cons_zero]; rfl) (by kernel_rfl) (by kernel_rfl) (by kernel_rfl) (by exact fun _ _ _ h => h) (Or.inl ⟨by rfl, ?_⟩) (by assumption) ?_
                rotate_left 1
                · (intro w hSw; (try dsimp only at hSw); go_simp; try with_reducible rfl)
                all_goals try simp only [Act.put]
                all_goals try simp only [List.setIfInBounds_toArray]
                all_goals try simp only [List.set_cons_succ]
                all_goals try simp only [List.set_cons_zero]
                refine wpAnyH_take (i := 7) (oi := _) (v := ?_) (by simp only [List.getElem?_toArray, List.getElem?_cons_succ, List.getElem?_cons_zero]; rfl) (by kernel_rfl) (by kernel_rfl) (by kernel_rfl) (by exact fun _ _ _ h => h) (Or.inl ⟨by rfl, ?_⟩) (by assumption) ?_
                rotate_left 1
                · (intro w hSw; (try dsimp only at hSw); go_simp; try with_reducible rfl)
                all_goals try simp only [Act.put]
                all_goals try simp only [List.setIfInBounds_toArray]
                all_goals try simp only [List.set_cons_succ]
                all_goals try simp only [List.set_cons_zero]
                refine wpAnyH_ready (rs := [8]) (by kernel_rfl) (by simp) ?_
                refine (AllReadyH.cons (by simp only [List.getElem?_toArray, List.getElem?_cons_succ, List.getElem?_cons_zero]; rfl) (fun K hK => ?_) AllReadyH.nil)
                rw [if_pos (by rfl)]
                go_simp
                refine (awake8_any _).mono ?_
                rintro e wq ⟨rfl, hb⟩
                have E := Lib.hid (E.out.below hb)
                clear hb hHeld
                clear x0 x1 x2 hlx
                clear y0 y1 y2 hly
                clear u0 u1 u2 hlu
                clear v0 v1 v2 hlv
                obtain ⟨x0, x1, x2, hlx⟩ := (E.out.get 2 rfl).cells
                obtain ⟨y0, y1, y2, hly⟩ := (E.out.get 3 rfl).cells
                obtain ⟨u0, u1, u2, hlu⟩ := (E.out.get 0 rfl).cells
                obtain ⟨v0, v1, v2, hlv⟩ := (E.out.get 4 rfl).cells
                refine hK.out _ _ (by exact ⟨x0, x1, x2, y0, y1, y2, u0, u1, u2, v0, v1, v2⟩) (fun hHeld => ?_)
                clear hK K
                try simp only [Act.put]
                try simp only [List.setIfInBounds_toArray]
                try simp only [List.set_cons_succ]
                try simp only [List.set_cons_zero]
                refine wpAnyH_take (i := 9) (oi := _) (v := ?_) (by simp only [List.getElem?_toArray, List.getElem?_cons_succ, List.getElem?_cons_zero]; rfl) (by kernel_rfl) (by kernel_rfl) (by kernel_rfl) (by exact fun _ _ _ h => h) (Or.inl ⟨by rfl, ?_⟩) (by assumption) ?_
                rotate_left 1
                · (intro w hSw; (try dsimp only at hSw); go_simp; try with_reducible rfl)
                all_goals try simp only [Act.put]
                all_goals try simp only [List.setIfInBounds_toArray]
                all_goals try simp only [List.set_cons_succ]
                all_goals try simp only [List.set_cons_zero]
                refine wpAnyH_take (i := 10) (oi := _) (v := ?_) (by simp only [List.getElem?_toArray, List.getElem?_cons_succ, List.getElem?_cons_zero]; rfl) (by kernel_rfl) (by kernel_rfl) (by kernel_rfl) (by exact fun _ _ _ h => h) (Or.inl ⟨by rfl, ?_⟩) (by assumption) ?_
                rotate_left 1
                · (intro w hSw; (try dsimp only at hSw); go_simp; try with_reducible rfl)
                all_goals try simp only [Act.put]
                all_goals try simp only [List.setIfInBounds_toArray]
                all_goals try simp only [List.set_cons_succ]
                all_goals try simp only [List.set_cons_zero]
                refine wpAnyH_done (by kernel_rfl) ?_ _
                have bw := E.out.fin
                go_wp2_with fail
                go_ret
                exact ⟨rfl, bw⟩
              · refine wp_region_held_drew (S := (fun w' => w'.cell? ⟨X, 0, none⟩ = some (.slice A4 n4 c4) ∧ w'.cell? ⟨X, 1, none⟩ = some (.int .i64 x.per) ∧ w'.cell? ⟨X, 2, none⟩ = some (.int .i64 x.inc) ∧ w'.cell? ⟨Z, 0, none⟩ = some (.slice A6 n6 c6) ∧ w'.cell? ⟨Z, 1, none⟩ = some (.int .i64 v.per) ∧ w'.cell? ⟨Z, 2, none⟩ = some (.int .i64 v.inc) ∧ w'.cell? ⟨F, 0, none⟩ = some (.slice A n c) ∧ w'.cell? ⟨F, 1, none⟩ = some (.int .i64 f.per) ∧ w'.cell? ⟨F, 2, none⟩ = some (.int .i64 f.inc) ∧ w'.cell? ⟨Y, 0, none⟩ = some (.slice A5 n5 c5) ∧ w'.cell? ⟨Y, 1, none⟩ = some (.int .i64 y.per) ∧ w'.cell? ⟨Y, 2, none⟩ = some (.int .i64 y.inc))) (by kernel_rfl) (by exact ⟨x0, x1, x2, y0, y1, y2, u0, u1, u2, v0, v1, v2⟩) (fun hHeld => ?_)
                have E := Lib.hid E.out.drew
                clear x0 x1 x2 hlx
                clear y0 y1 y2 hly
                clear u0 u1 u2 hlu
                clear v0 v1 v2 hlv
                generalize wy.drew = wd at *
                obtain ⟨x0, x1, x2, hlx⟩ := (E.out.get 2 rfl).cells
                obtain ⟨y0, y1, y2, hly⟩ := (E.out.get 3 rfl).cells
                obtain ⟨u0, u1, u2, hlu⟩ := (E.out.get 0 rfl).cells
                obtain ⟨v0, v1, v2, hlv⟩ := (E.out.get 4 rfl).cells
                refine wpAnyH_take (i := 0) (oi := _) (v := ?_) (by simp only [List.getElem?_toArray, List.getElem?_cons_zero]; rfl) (by kernel_rfl) (by kernel_rfl) (by kernel_rfl) (by exact fun _ _ _ h => h) (Or.inl ⟨by rfl, ?_⟩) (by assumption) ?_
                rotate_left 1
                · (intro w hSw; (try dsimp only at hSw); go_simp; try with_reducible rfl)
                all_goals try simp only [Act.put]
                all_goals try simp only [List.setIfInBounds_toArray]
                all_goals try simp only [List.set_cons_succ]
                all_goals try simp only [List.set_cons_zero]
                refine wpAnyH_take (i := 1) (oi := _) (v := ?_) (by simp only [List.getElem?_toArray, List.getElem?_cons_succ, List.getElem?_cons_zero]; rfl) (by kernel_rfl) (by kernel_rfl) (by kernel_rfl) (by exact fun _ _ _ h => h) (Or.inl ⟨by rfl, ?_⟩) (by assumption) ?_
                rotate_left 1
                · (intro w hSw; (try dsimp only at hSw); go_simp; try with_reducible rfl)
                all_goals try simp only [Act.put]
                all_goals try simp only [List.setIfInBounds_toArray]
                all_goals try simp only [List.set_cons_succ]
                all_goals try simp only [List.set_cons_zero]
                refine wpAnyH_take (i := 3) (oi := _) (v := ?_) (by simp only [List.getElem?_toArray, List.getElem?_cons_succ, List.getElem?_cons_zero]; rfl) (by kernel_rfl) (by kernel_rfl) (by kernel_rfl) (by exact fun _ _ _ h => h) (Or.inl ⟨by rfl, ?_⟩) (by assumption) ?_
                rotate_left 1
                · (intro w hSw; (try dsimp only at hSw); go_simp; try with_reducible rfl)
                all_goals try simp only [Act.put]
                all_goals try simp only [List.setIfInBounds_toArray]
                all_goals try simp only [List.set_cons_succ]
                all_goals try simp only [List.set_cons_zero]
                refine wpAnyH_take (i := 4) (oi := _) (v := ?_) (by simp only [List.getElem?_toArray, List.getElem?_cons_succ, List.getElem?_cons_zero]; rfl) (by kernel_rfl) (by kernel_rfl) (by kernel_rfl) (by exact fun _ _ _ h => h) (Or.inl ⟨by rfl, ?_⟩) (by assumption) ?_
                rotate_left 1
                · (intro w hSw; (try dsimp only at hSw); go_simp; try with_reducible rfl)
                all_goals try simp only [Act.put]
                all_goals try simp only [List.setIfInBounds_toArray]
                all_goals try simp only [List.set_cons_succ]
                all_goals try simp only [List.set_cons_zero]
                refine wpAnyH_ready (rs := [2]) (by kernel_rfl) (by simp) ?_
                refine (AllReadyH.cons (by simp only [List.getElem?_toArray, List.getElem?_cons_succ, List.getElem?_cons_zero]; rfl) (fun K hK => ?_) AllReadyH.nil)
                -- AtMost: x v the curves, A4 .. c6 their slices, 2 3 the places, T1.out the fact
                rw [if_pos (by rfl)]
                go_simp
                refine (refAtMost_any A4 A6 n4 n6 c4 c6 x.per x.inc v.per v.inc x.vals v.vals _ (by exact (E.out.get 2 rfl).inn.ints) (by exact (E.out.get 3 rfl).inn.ints) (by omega) (by omega)).mono ?_
                intro e wq hr
                obtain ⟨rfl, hb⟩ := RetM.of T1.out hr
                have E := Lib.hid (E.out.below hb)
                clear hr hb hHeld
                clear x0 x1 x2 hlx
                clear y0 y1 y2 hly
                clear u0 u1 u2 hlu
                clear v0 v1 v2 hlv
                obtain ⟨x0, x1, x2, hlx⟩ := (E.out.get 2 rfl).cells
                obtain ⟨y0, y1, y2, hly⟩ := (E.out.get 3 rfl).cells
                obtain ⟨u0, u1, u2, hlu⟩ := (E.out.get 0 rfl).cells
                obtain ⟨v0, v1, v2, hlv⟩ := (E.out.get 4 rfl).cells
                refine hK.out _ _ (by exact ⟨x0, x1, x2, y0, y1, y2, u0, u1, u2, v0, v1, v2⟩) (fun hHeld => ?_)
                clear hK K
                try simp only [Act.put]
                try simp only [List.setIfInBounds_toArray]
                try simp only [List.set_cons_succ]
                try simp only [List.set_cons_zero]
                refine wpAnyH_ready (rs := [5]) (by kernel_rfl) (by simp) ?_
                refine (AllReadyH.cons (by simp only [List.getElem?_toArray, List.getElem?_cons_succ, List.getElem?_cons_zero]; rfl) (fun K hK => ?_) AllReadyH.nil)
                -- AtMost: f y the curves, A .. c5 their slices, 0 4 the places, T2.out the fact
                rw [if_pos (by rfl)]
                go_simp
                refine (refAtMost_any A A5 n n5 c c5 f.per f.inc y.per y.inc f.vals y.vals _ (by exact (E.out.get 0 rfl).inn.ints) (by exact (E.out.get 4 rfl).inn.ints) (by omega) (by omega)).mono ?_
                intro e wq hr
                obtain ⟨rfl, hb⟩ := RetM.of T2.out hr
                have E := Lib.hid (E.out.below hb)
                clear hr hb hHeld
                clear x0 x1 x2 hlx
                clear y0 y1 y2 hly
                clear u0 u1 u2 hlu
                clear v0 v1 v2 hlv
                obtain ⟨x0, x1, x2, hlx⟩ := (E.out.get 2 rfl).cells
                obtain ⟨y0, y1, y2, hly⟩ := (E.out.get 3 rfl).cells
                obtain ⟨u0, u1, u2, hlu⟩ := (E.out.get 0 rfl).cells
                obtain ⟨v0, v1, v2, hlv⟩ := (E.out.get 4 rfl).cells
                refine hK.out _ _ (by exact ⟨x0, x1, x2, y0, y1, y2, u0, u1, u2, v0, v1, v2⟩) (fun hHeld => ?_)
                clear hK K
                try simp only [Act.put]
                try simp only [List.setIfInBounds_toArray]
                try simp only [List.set_cons_succ]
                try simp only [List.set_cons_zero]
                refine wpAnyH_take (i := 6) (oi := _) (v := ?_) (by simp only [List.getElem?_toArray, List.getElem?_cons_succ, List.getElem?_cons_zero]; rfl) (by kernel_rfl) (by kernel_rfl) (by kernel_rfl) (by exact fun _ _ _ h => h) (Or.inl ⟨by rfl, ?_⟩) (by assumption) ?_
                rotate_left 1
                · (intro w hSw; (try dsimp only at hSw); go_simp; try with_reducible rfl)
                all_goals try simp only [Act.put]
                all_goals try simp only [List.setIfInBounds_toArray]
                all_goals try simp only [List.set_cons_succ]
                all_goals try simp only [List.set_cons_zero]
                refine wpAnyH_take (i := 7) (oi := _) (v := ?_) (by simp only [List.getElem?_toArray, List.getElem?_cons_succ, List.getElem?_cons_zero]; rfl) (by kernel_rfl) (by kernel_rfl) (by kernel_rfl) (by exact fun _ _ _ h => h) (Or.inl ⟨by rfl, ?_⟩) (by assumption) ?_
                rotate_left 1
                · (intro w hSw; (try dsimp only at hSw); go_simp; try with_reducible rfl)
                all_goals try simp only [Act.put]
                all_goals try simp only [List.setIfInBounds_toArray]
                all_goals try simp only [List.set_cons_succ]
                all_goals try simp only [List.set_cons_zero]
                refine wpAnyH_ready (rs := [8]) (by kernel_rfl) (by simp) ?_
                refine (AllReadyH.cons (by simp only [List.getElem?_toArray, List.getElem?_cons_succ, List.getElem?_cons_zero]; rfl) (fun K hK => ?_) AllReadyH.nil)
                rw [if_pos (by rfl)]
                go_simp
                refine (awake8_any _).mono ?_
                rintro e wq ⟨rfl, hb⟩
                have E := Lib.hid (E.out.below hb)
                clear hb hHeld
                clear x0 x1 x2 hlx
                clear y0 y1 y2 hly
                clear u0 u1 u2 hlu
                clear v0 v1 v2 hlv
                obtain ⟨x0, x1, x2, hlx⟩ := (E.out.get 2 rfl).cells
                obtain ⟨y0, y1, y2, hly⟩ := (E.out.get 3 rfl).cells
                obtain ⟨u0, u1, u2, hlu⟩ := (E.out.get 0 rfl).cells
                obtain ⟨v0, v1, v2, hlv⟩ := (E.out.get 4 rfl).cells
                refine hK.out _ _ (by exact ⟨x0, x1, x2, y0, y1, y2, u0, u1, u2, v0, v1, v2⟩) (fun hHeld => ?_)
                clear hK K
                try simp only [Act.put]
                try simp only [List.setIfInBounds_toArray]
                try simp only [List.set_cons_succ]
                try simp only [List.set_cons_zero]
                refine wpAnyH_take (i := 9) (oi := _) (v := ?_) (by simp only [List.getElem?_toArray, List.getElem?_cons_succ, List.getElem?_cons_zero]; rfl) (by kernel_rfl) (by kernel_rfl) (by kernel_rfl) (by exact fun _ _ _ h => h) (Or.inl ⟨by rfl, ?_⟩) (by assumption) ?_
                rotate_left 1
                · (intro w hSw; (try dsimp only at hSw); go_simp; try with_reducible rfl)
                all_goals try simp only [Act.put]
                all_goals try simp only [List.setIfInBounds_toArray]
                all_goals try simp only [List.set_cons_succ]
                all_goals try simp only [List.set_cons_zero]
                refine wpAnyH_take (i := 10) (oi := _) (v := ?_) (by simp only [List.getElem?_toArray, List.getElem?_cons_succ, List.getElem?_cons_zero]; rfl) (by kernel_rfl) (by kernel_rfl) (by kernel_rfl) (by exact fun _ _ _ h => h) (Or.inl ⟨by rfl, ?_⟩) (by assumption) ?_
                rotate_left 1
                · (intro w hSw; (try dsimp only at hSw); go_simp; try with_reducible rfl)
                all_goals try simp only [Act.put]
                all_goals try simp only [List.setIfInBounds_toArray]
                all_goals try simp only [List.set_cons_succ]
                all_goals try simp only [List.set_cons_zero]
                refine wpAnyH_done (by kernel_rfl) ?_ _
                have bw := E.out.fin
                go_wp2_with fail
                go_ret
                exact ⟨rfl, bw⟩
            · go_wp2_with fail
              refine (awake8_any _).mono ?_
              rintro e wq ⟨rfl, hb⟩
              have bw := (E.out.below hb).fin
              go_wp2_with fail
              go_ret
              exact ⟨rfl, bw⟩
          · have dz : (z == 0) = false := by simpa using hz
            clear hz hz0 AP XZ HV
            go_upto_region 11 with fail
            clear dz
            -- the third curve is x (A4 n4 c4), from now on v; HX.out says that it is valid, (E.out.get 2 rfl).inn that it lies
            obtain ⟨v, A6, n6, c6, hE, hv⟩ : ∃ (v : Cv) (A6 : Option Addr) (n6 c6 : Nat), EnvL w.heap.size w _ [(F, ⟨A, n, c, f⟩), (G, ⟨B, m, d, g⟩), (X, ⟨A4, n4, c4, x⟩), (Z, ⟨A6, n6, c6, v⟩)] ∧ v.Ok := ⟨x, A4, n4, c4, (E.out.join (X := ⟨A4, n4, c4, x⟩) BH.out (E.out.get 2 rfl).inn (by omega)).subJ (fun q hq => by simp only [List.cons_append, List.nil_append, List.mem_cons, List.not_mem_nil, or_false] at hq ⊢; rcases hq with rfl | rfl | rfl | rfl <;> simp), HX.out⟩
            have E := Lib.hid hE; have HV := Lib.hid hv
            clear hE hv
            clear BH
            -- the current third curve is v (A6 n6 c6), at the place 3; HV: v.Ok
            have hn6 : n6 ≤ 400 := by have h1 := HV.out.n2; have h2 : v.vals.length = n6 := (E.out.get 3 rfl).inn.ints.1; omega
            obtain ⟨x0, x1, x2, hlx⟩ := (E.out.get 3 rfl).cells
            obtain ⟨y0, y1, y2, hly⟩ := (E.out.get 1 rfl).cells
            go_wp2_with fail
            refine (cvfn_any A6 B n6 m c6 d v.per v.inc g.per g.inc v.vals g.vals _ (by exact (E.out.get 3 rfl).inn.ints) (by exact (E.out.get 1 rfl).inn.ints) (by omega) (by omega)).mono ?_
            rintro e wv ⟨y, j, hSS, A5, n5, c5, hle, rfl, hI, hA, hb⟩
            have S2 := Lib.hid (show CvS v g y j from hSS)
            clear hle
            have hps := E.out.s.lt
            have E := Lib.hid (show EnvL w.heap.size w _ _ from (E.out.below hb).push (X := ⟨A5, n5, c5, y⟩) (CR.In.new hI hA hps))
            dsimp only [List.cons_append, List.nil_append] at E
            clear hSS hI hA hb hps
            clear x0 x1 x2 hlx
            clear y0 y1 y2 hly
            go_upto_region 12 with fail
            generalize hwe : wv.alloc (.cells #[.slice A5 n5 c5, .int .i64 y.per, .int .i64 y.inc] 31) = wy at *
            clear hwe
            generalize wv.heap.size = Y at *
            rcases cvS_er HV.out Hg.out.1.ok S2.out with rfl | rfl
            · obtain ⟨q, t1, t2⟩ := adj_both S1.out S2.out
              have T1 := Lib.hid t1; have T2 := Lib.hid t2
              have hn5 : n5 ≤ 400 := by have h1 := (cvS_get S2.out).2.2.1.n2; have h2 : y.vals.length = n5 := (E.out.get 4 rfl).inn.ints.1; omega
              clear t1 t2 S1 S2
              go_upto_region 14 with fail
              obtain ⟨x0, x1, x2, hlx⟩ := (E.out.get 2 rfl).cells
              obtain ⟨y0, y1, y2, hly⟩ := (E.out.get 3 rfl).cells
              obtain ⟨u0, u1, u2, hlu⟩ := (E.out.get 0 rfl).cells
              obtain ⟨v0, v1, v2, hlv⟩ := (E.out.get 4 rfl).cells
              cases q
              · refine wp_region_held_drew (S := (fun w' => w'.cell? ⟨X, 0, none⟩ = some (.slice A4 n4 c4) ∧ w'.cell? ⟨X, 1, none⟩ = some (.int .i64 x.per) ∧ w'.cell? ⟨X, 2, none⟩ = some (.int .i64 x.inc) ∧ w'.cell? ⟨Z, 0, none⟩ = some (.slice A6 n6 c6) ∧ w'.cell? ⟨Z, 1, none⟩ = some (.int .i64 v.per) ∧ w'.cell? ⟨Z, 2, none⟩ = some (.int .i64 v.inc) ∧ w'.cell? ⟨F, 0, none⟩ = some (.slice A n c) ∧ w'.cell? ⟨F, 1, none⟩ = some (.int .i64 f.per) ∧ w'.cell? ⟨F, 2, none⟩ = some (.int .i64 f.inc) ∧ w'.cell? ⟨Y, 0, none⟩ = some (.slice A5 n5 c5) ∧ w'.cell? ⟨Y, 1, none⟩ = some (.int .i64 y.per) ∧ w'.cell? ⟨Y, 2, none⟩ = some (.int .i64 y.inc))) (by kernel_rfl) (by exact ⟨x0, x1, x2, y0, y1, y2, u0, u1, u2, v0, v1, v2⟩) (fun hHeld => ?_)
                have E := Lib.hid E.out.drew
                clear x0 x1 x2 hlx
                clear y0 y1 y2 hly
                clear u0 u1 u2 hlu
                clear v0 v1 v2 hlv
                generalize wy.drew = wd at *
                obtain ⟨x0, x1, x2, hlx⟩ := (E.out.get 2 rfl).cells
                obtain ⟨y0, y1, y2, hly⟩ := (E.out.get 3 rfl).cells
                obtain ⟨u0, u1, u2, hlu⟩ := (E.out.get 0 rfl).cells
                obtain ⟨v0, v1, v2, hlv⟩ := (E.out.get 4 rfl).cells
                refine wpAnyH_take (i := 0) (oi := _) (v := ?_) (by simp only [List.getElem?_toArray, List.getElem?_cons_zero]; rfl) (by kernel_rfl) (by kernel_rfl) (by kernel_rfl) (by exact fun _ _ _ h => h) (Or.inl ⟨by rfl, ?_⟩) (by assumption) ?_
                rotate_left 1
                · (intro w hSw; (try dsimp only at hSw); go_simp; try with_reducible rfl)
                all_goals try simp only [Act.put]
                all_goals try simp only [List.setIfInBounds_toArray]
                all_goals try simp only [List.set_cons_succ]
                all_goals try simp only [List.set_cons_zero]
                refine wpAnyH_take (i := 1) (oi := _) (v := ?_) (by simp only [List.getElem?_toArray, List.getElem?_cons_succ, List.getElem?_cons_zero]; rfl) (by kernel_rfl) (by kernel_rfl) (by kernel_rfl) (by exact fun _ _ _ h => h) (Or.inl ⟨by rfl, ?_⟩) (by assumption) ?_
                rotate_left 1
                · (intro w hSw; (try dsimp only at hSw); go_simp; try with_reducible rfl)
                all_goals try simp only [Act.put]
                all_goals try simp only [List.setIfInBounds_toArray]
                all_goals try simp only [List.set_cons_succ]
                all_goals try simp only [List.set_cons_zero]
                refine wpAnyH_take (i := 3) (oi := _) (v := ?_) (by simp only [List.getElem?_toArray, List.getElem?_cons_succ, List.getElem?_cons_zero]; rfl) (by kernel_rfl) (by kernel_rfl) (by kernel_rfl) (by exact fun _ _ _ h => h) (Or.inl ⟨by rfl, ?_⟩) (by assumption) ?_
                rotate_left 1
                · (intro w hSw; (try dsimp only at hSw); go_simp; try with_reducible rfl)
                all_goals try simp only [Act.put]
                all_goals try simp only [List.setIfInBounds_toArray]
                all_goals try simp only [List.set_cons_succ]
                all_goals try simp only [List.set_cons_zero]
                refine wpAnyH_take (i := 4) (oi := _) (v := ?_) (by simp only [List.getElem?_toArray, List.getElem?_cons_succ, List.getElem?_cons_zero]; rfl) (by kernel_rfl) (by kernel_rfl) (by kernel_rfl) (by exact fun _ _ _ h => h) (Or.inl ⟨by rfl, ?_⟩) (by assumption) ?_
                rotate_left 1
                · (intro w hSw; (try dsimp only at hSw); go_simp; try with_reducible rfl)
                all_goals try simp only [Act.put]
                all_goals try simp only [List.setIfInBounds_toArray]
                all_goals try simp only [List.set_cons_succ]
                all_goals try simp only [List.set_cons_zero]
                refine wpAnyH_ready (rs := [2]) (by kernel_rfl) (by simp) ?_
                refine (AllReadyH.cons (by simp only [List.getElem?_toArray, List.getElem?_cons_succ, List.getElem?_cons_zero]; rfl) (fun K hK => ?_) AllReadyH.nil)
                -- AtMost: x v the curves, A4 .. c6 their slices, 2 3 the places, T1.out the fact
                rw [if_pos (by rfl)]
                go_simp
                refine (refAtMost_any A4 A6 n4 n6 c4 c6 x.per x.inc v.per v.inc x.vals v.vals _ (by exact (E.out.get 2 rfl).inn.ints) (by exact (E.out.get 3 rfl).inn.ints) (by omega) (by omega)).mono ?_
                intro e wq hr
                obtain ⟨rfl, hb⟩ := RetM.of T1.out hr
                have E := Lib.hid (E.out.below hb)
                clear hr hb hHeld
                clear x0 x1 x2 hlx
                clear y0 y1 y2 hly
                clear u0 u1 u2 hlu
                clear v0 v1 v2 hlv
                obtain ⟨x0, x1, x2, hlx⟩ := (E.out.get 2 rfl).cells
                obtain ⟨y0, y1, y2, hly⟩ := (E.out.get 3 rfl).cells
                obtain ⟨u0, u1, u2, hlu⟩ := (E.out.get 0 rfl).cells
                obtain ⟨v0, v1, v2, hlv⟩ := (E.out.get 4 rfl).cells
                refine hK.out _ _ (by exact ⟨x0, x1, x2, y0, y1, y2, u0, u1, u2, v0, v1, v2⟩) (fun hHeld => ?_)
                clear hK K
                try simp only [Act.put]
                try simp only [List.setIfInBounds_toArray]
                try simp only [List.set_cons_succ]
                try simp only [List.set_cons_zero]
                refine wpAnyH_ready (rs := [5]) (by kernel_rfl) (by simp) ?_
                refine (AllReadyH.cons (by simp only [List.getElem?_toArray, List.getElem?_cons_succ, List.getElem?_cons_zero]; rfl) (fun K hK => ?_) AllReadyH.nil)
                -- AtMost: f y the curves, A .. c5 their slices, 0 4 the places, T2.out the fact
                rw [if_pos (by rfl)]
                go_simp
                refine (refAtMost_any A A5 n n5 c c5 f.per f.inc y.per y.inc f.vals y.vals _ (by exact (E.out.get 0 rfl).inn.ints) (by exact (E.out.get 4 rfl).inn.ints) (by omega) (by omega)).mono ?_
                intro e wq hr
                obtain ⟨rfl, hb⟩ := RetM.of T2.out hr
                have E := Lib.hid (E.out.below hb)
                clear hr hb hHeld
                clear x0 x1 x2 hlx
                clear y0 y1 y2 hly
                clear u0 u1 u2 hlu
                clear v0 v1 v2 hlv
                obtain ⟨x0, x1, x2, hlx⟩ := (E.out.get 2 rfl).cells
                obtain ⟨y0, y1, y2, hly⟩ := (E.out.get 3 rfl).cells
                obtain ⟨u0, u1, u2, hlu⟩ := (E.out.get 0 rfl).cells
                obtain ⟨v0, v1, v2, hlv⟩ := (E.out.get 4 rfl).cells
                refine hK.out _ _ (by exact ⟨x0, x1, x2, y0, y1, y2, u0, u1, u2, v0, v1, v2⟩) (fun hHeld => ?_)
                clear hK K
                try simp only [Act.put]
                try simp only [List.setIfInBounds_toArray]
                try simp only [List.set_cons_succ]
                try simp only [List.set_cons_zero]
                refine wpAnyH_take (i := 6) (oi := _) (v := ?_) (by simp only [List.getElem?_toArray, List.getElem?_cons_succ, List.getElem?_cons_zero]; rfl) (by kernel_rfl) (by kernel_rfl) (by kernel_rfl) (by exact fun _ _ _ h => h) (Or.inl ⟨by rfl, ?_⟩) (by assumption) ?_
                rotate_left 1
                · (intro w hSw; (try dsimp only at hSw); go_simp; try with_reducible rfl)
                all_goals try simp only [Act.put]
                all_goals try simp only [List.setIfInBounds_toArray]
                all_goals try simp only [List.set_cons_succ]
                all_goals try simp only [List.set_cons_zero]
                refine wpAnyH_take (i := 7) (oi := _) (v := ?_) (by simp only [List.getElem?_toArray, List.getElem?_cons_succ, List.getElem?_cons_zero]; rfl) (by kernel_rfl) (by kernel_rfl) (by kernel_rfl) (by exact fun _ _ _ h => h) (Or.inl ⟨by rfl, ?_⟩) (by assumption) ?_
                rotate_left 1
                · (intro w hSw; (try dsimp only at hSw); go_simp; try with_reducible rfl)
                all_goals try simp only [Act.put]
                all_goals try simp only [List.setIfInBounds_toArray]
                all_goals try simp only [List.set_cons_succ]
                all_goals try simp only [List.set_cons_zero]
                refine wpAnyH_ready (rs := [8]) (by kernel_rfl) (by simp) ?_
                refine (AllReadyH.cons (by simp only [List.getElem?_toArray, List.getElem?_cons_succ, List.getElem?_cons_zero]; rfl) (fun K hK => ?_) AllReadyH.nil)
                rw [if_pos (by rfl)]
                go_simp
                refine (awake8_any _).mono ?_
                rintro e wq ⟨rfl, hb⟩
                have E := Lib.hid (E.out.below hb)
                clear hb hHeld
                clear x0 x1 x2 hlx
                clear y0 y1 y2 hly
                clear u0 u1 u2 hlu
                clear v0 v1 v2 hlv
                obtain ⟨x0, x1, x2, hlx⟩ := (E.out.get 2 rfl).cells
                obtain ⟨y0, y1, y2, hly⟩ := (E.out.get 3 rfl).cells
                obtain ⟨u0, u1, u2, hlu⟩ := (E.out.get 0 rfl).cells
                obtain ⟨v0, v1, v2, hlv⟩ := (E.out.get 4 rfl).cells
                refine hK.out _ _ (by exact ⟨x0, x1, x2, y0, y1, y2, u0, u1, u2, v0, v1, v2⟩) (fun hHeld => ?_)
                clear hK K
                try simp only [Act.put]
                try simp only [List.setIfInBounds_toArray]
                try simp only [List.set_cons_succ]
                try simp only [List.set_cons_zero]
                refine wpAnyH_take (i := 9) (oi := _) (v := ?_) (by simp only [List.getElem?_toArray, List.getElem?_cons_succ, List.getElem?_cons_zero]; rfl) (by kernel_rfl) (by kernel_rfl) (by kernel_rfl) (by exact fun _ _ _ h => h) (Or.inl ⟨by rfl, ?_⟩) (by assumption) ?_
                rotate_left 1
                · (intro w hSw; (try dsimp only at hSw); go_simp; try with_reducible rfl)
                all_goals try simp only [Act.put]
                all_goals try simp only [List.setIfInBounds_toArray]
                all_goals try simp only [List.set_cons_succ]
                all_goals try simp only [List.set_cons_zero]
                refine wpAnyH_take (i := 10) (oi := _) (v := ?_) (by simp only [List.getElem?_toArray, List.getElem?_cons_succ, List.getElem?_cons_zero]; rfl) (by kernel_rfl) (by kernel_rfl) (by kernel_rfl) (by exact fun _ _ _ h => h) (Or.inl ⟨by rfl, ?_⟩) (by assumption) ?_
                rotate_left 1
                · (intro w hSw; (try dsimp only at hSw); go_simp; try with_reducible rfl)
                all_goals try simp only [Act.put]
                all_goals try simp only [List.setIfInBounds_toArray]
                all_goals try simp only [List.set_cons_succ]
                all_goals try simp only [List.set_cons_zero]
                refine wpAnyH_done (by kernel_rfl) ?_ _
                have bw := E.out.fin
                go_wp2_with fail
                go_ret
                exact ⟨rfl, bw⟩
              · refine wp_region_held_drew (S := (fun w' => w'.cell? ⟨X, 0, none⟩ = some (.slice A4 n4 c4) ∧ w'.cell? ⟨X, 1, none⟩ = some (.int .i64 x.per) ∧ w'.cell? ⟨X, 2, none⟩ = some (.int .i64 x.inc) ∧ w'.cell? ⟨Z, 0, none⟩ = some (.slice A6 n6 c6) ∧ w'.cell? ⟨Z, 1, none⟩ = some (.int .i64 v.per) ∧ w'.cell? ⟨Z, 2, none⟩ = some (.int .i64 v.inc) ∧ w'.cell? ⟨F, 0, none⟩ = some (.slice A n c) ∧ w'.cell? ⟨F, 1, none⟩ = some (.int .i64 f.per) ∧ w'.cell? ⟨F, 2, none⟩ = some (.int .i64 f.inc) ∧ w'.cell? ⟨Y, 0, none⟩ = some (.slice A5 n5 c5) ∧ w'.cell? ⟨Y, 1, none⟩ = some (.int .i64 y.per) ∧ w'.cell? ⟨Y, 2, none⟩ = some (.int .i64 y.inc))) (by kernel_rfl) (by exact ⟨x0, x1, x2, y0, y1, y2, u0, u1, u2, v0, v1, v2⟩) (fun hHeld => ?_)
                have E := Lib.hid E.out.drew
                clear x0 x1 x2 hlx
                clear y0 y1 y2 hly
                clear u0 u1 u2 hlu
                clear v0 v1 v2 hlv
                generalize wy.drew = wd at *
                obtain ⟨x0, x1, x2, hlx⟩ := (E.out.get 2 rfl).cells
                obtain ⟨y0, y1, y2, hly⟩ := (E.out.get 3 rfl).cells
                obtain ⟨u0, u1, u2, hlu⟩ := (E.out.get 0 rfl).cells
                obtain ⟨v0, v1, v2, hlv⟩ := (E.out.get 4 rfl).cells
                refine wpAnyH_take (i := 0) (oi := _) (v := ?_) (by simp only [List.getElem?_toArray, List.getElem?_cons_zero]; rfl) (by kernel_rfl) (by kernel_rfl) (by kernel_rfl) (by exact fun _ _ _ h => h) (Or.inl ⟨by rfl, ?_⟩) (by assumption) ?_
                rotate_left 1
                · (intro w hSw; (try dsimp only at hSw); go_simp; try with_reducible rfl)
                all_goals try simp only [Act.put]
                all_goals try simp only [List.setIfInBounds_toArray]
                all_goals try simp only [List.set_cons_succ]
                all_goals try simp only [List.set_cons_zero]
                refine wpAnyH_take (i := 1) (oi := _) (v := ?_) (by simp only [List.getElem?_toArray, List.getElem?_cons_succ, List.getElem?_cons_zero]; rfl) (by kernel_rfl) (by kernel_rfl) (by kernel_rfl) (by exact fun _ _ _ h => h) (Or.inl ⟨by rfl, ?_⟩) (by assumption) ?_
                rotate_left 1
                · (intro w hSw; (try dsimp only at hSw); go_simp; try with_reducible rfl)
                all_goals try simp only [Act.put]
                all_goals try simp only [List.setIfInBounds_toArray]
                all_goals try simp only [List.set_cons_succ]
                all_goals try simp only [List.set_cons_zero]
                refine wpAnyH_take (i := 3) (oi := _) (v := ?_) (by simp only [List.getElem?_toArray, List.getElem?_cons_succ, List.getElem?_cons_zero]; rfl) (by kernel_rfl) (by kernel_rfl) (by kernel_rfl) (by exact fun _ _ _ h => h) (Or.inl ⟨by rfl, ?_⟩) (by assumption) ?_
                rotate_left 1
                · (intro w hSw; (try dsimp only at hSw); go_simp; try with_reducible rfl)
                all_goals try simp only [Act.put]
                all_goals try simp only [List.setIfInBounds_toArray]
                all_goals try simp only [List.set_cons_succ]
                all_goals try simp only [List.set_cons_zero]
                refine wpAnyH_take (i := 4) (oi := _) (v := ?_) (by simp only [List.getElem?_toArray, List.getElem?_cons_succ, List.getElem?_cons_zero]; rfl) (by kernel_rfl) (by kernel_rfl) (by kernel_rfl) (by exact fun _ _ _ h => h) (Or.inl ⟨by rfl, ?_⟩) (by assumption) ?_
                rotate_left 1
                · (intro w hSw; (try dsimp only at hSw); go_simp; try with_reducible rfl)
                all_goals try simp only [Act.put]
                all_goals try simp only [List.setIfInBounds_toArray]
                all_goals try simp only [List.set_cons_succ]
                all_goals try simp only [List.set_cons_zero]
                refine wpAnyH_ready (rs := [2]) (by kernel_rfl) (by simp) ?_
                refine (AllReadyH.cons (by simp only [List.getElem?_toArray, List.getElem?_cons_succ, List.getElem?_cons_zero]; rfl) (fun K hK => ?_) AllReadyH.nil)
                -- AtMost: x v the curves, A4 .. c6 their slices, 2 3 the places, T1.out the fact
                rw [if_pos (by rfl)]
                go_simp
                refine (refAtMost_any A4 A6 n4 n6 c4 c6 x.per x.inc v.per v.inc x.vals v.vals _ (by exact (E.out.get 2 rfl).inn.ints) (by exact (E.out.get 3 rfl).inn.ints) (by omega) (by omega)).mono ?_
                intro e wq hr
                obtain ⟨rfl, hb⟩ := RetM.of T1.out hr
                have E := Lib.hid (E.out.below hb)
                clear hr hb hHeld
                clear x0 x1 x2 hlx
                clear y0 y1 y2 hly
                clear u0 u1 u2 hlu
                clear v0 v1 v2 hlv
                obtain ⟨x0, x1, x2, hlx⟩ := (E.out.get 2 rfl).cells
                obtain ⟨y0, y1, y2, hly⟩ := (E.out.get 3 rfl).cells
                obtain ⟨u0, u1, u2, hlu⟩ := (E.out.get 0 rfl).cells
                obtain ⟨v0, v1, v2, hlv⟩ := (E.out.get 4 rfl).cells
                refine hK.out _ _ (by exact ⟨x0, x1, x2, y0, y1, y2, u0, u1, u2, v0, v1, v2⟩) (fun hHeld => ?_)
                clear hK K
                try simp only [Act.put]
                try simp only [List.setIfInBounds_toArray]
                try simp only [List.set_cons_succ]
                try simp only [List.set_cons_zero]
                refine wpAnyH_ready (rs := [5]) (by kernel_rfl) (by simp) ?_
                refine (AllReadyH.cons (by simp only [List.getElem?_toArray, List.getElem?_cons_succ, List.getElem?_cons_zero]; rfl) (fun K hK => ?_) AllReadyH.nil)
                -- AtMost: f y the curves, A .. c5 their slices, 0 4 the places, T2.out the fact
                rw [if_pos (by rfl)]
                go_simp
                refine (refAtMost_any A A5 n n5 c c5 f.per f.inc y.per y.inc f.vals y.vals _ (by exact (E.out.get 0 rfl).inn.ints) (by exact (E.out.get 4 rfl).inn.ints) (by omega) (by omega)).mono ?_
                intro e wq hr
                obtain ⟨rfl, hb⟩ := RetM.of T2.out hr
                have E := Lib.hid (E.out.below hb)
                clear hr hb hHeld
                clear x0 x1 x2 hlx
                clear y0 y1 y2 hly
                clear u0 u1 u2 hlu
                clear v0 v1 v2 hlv
                obtain ⟨x0, x1, x2, hlx⟩ := (E.out.get 2 rfl).cells
                obtain ⟨y0, y1, y2, hly⟩ := (E.out.get 3 rfl).cells
                obtain ⟨u0, u1, u2, hlu⟩ := (E.out.get 0 rfl).cells
                obtain ⟨v0, v1, v2, hlv⟩ := (E.out.get 4 rfl).cells
                refine hK.out _ _ (by exact ⟨x0, x1, x2, y0, y1, y2, u0, u1, u2, v0, v1, v2⟩) (fun hHeld => ?_)
                clear hK K
                try simp only [Act.put]
                try simp only [List.setIfInBounds_toArray]
                try simp only [List.set_cons_succ]
                try simp only [List.set_cons_zero]
                refine wpAnyH_take (i := 6) (oi := _) (v := ?_) (by simp only [List.getElem?_toArray, List.getElem?_cons_succ, List.getElem?_cons_zero]; rfl) (by kernel_rfl) (by kernel_rfl) (by kernel_rfl) (by exact fun _ _ _ h => h) (Or.inl ⟨by rfl, ?_⟩) (by assumption) ?_
                rotate_left 1
                · (intro w hSw; (try dsimp only at hSw); go_simp; try with_reducible rfl)
                all_goals try simp only [Act.put]
                all_goals try simp only [List.setIfInBounds_toArray]
                all_goals try simp only [List.set_cons_succ]
                all_goals try simp only [List.set_cons_zero]
                refine wpAnyH_take (i := 7) (oi := _) (v := ?_) (by simp only [List.getElem?_toArray, List.getElem?_cons_succ, List.getElem?_cons_zero]; rfl) (by kernel_rfl) (by kernel_rfl) (by kernel_rfl) (by exact fun _ _ _ h => h) (Or.inl ⟨by rfl, ?_⟩) (by assumption) ?_
                rotate_left 1
                · (intro w hSw; (try dsimp only at hSw); go_simp; try with_reducible rfl)
                all_goals try simp only [Act.put]
                all_goals try simp only [List.setIfInBounds_toArray]
                all_goals try simp only [List.set_cons_succ]
                all_goals try simp only [List.set_cons_zero]
                refine wpAnyH_ready (rs := [8]) (by kernel_rfl) (by simp) ?_
                refine (AllReadyH.cons (by simp only [List.getElem?_toArray, List.getElem?_cons_succ, List.getElem?_cons_zero]; rfl) (fun K hK => ?_) AllReadyH.nil)
                rw [if_pos (by rfl)]
                go_simp
                refine (awake8_any _).mono ?_
                rintro e wq ⟨rfl, hb⟩
                have E := Lib.hid (E.out.below hb)
                clear hb hHeld
                clear x0 x1 x2 hlx
                clear y0 y1 y2 hly
                clear u0 u1 u2 hlu
                clear v0 v1 v2 hlv
                obtain ⟨x0, x1, x2, hlx⟩ := (E.out.get 2 rfl).cells
                obtain ⟨y0, y1, y2, hly⟩ := (E.out.get 3 rfl).cells
                obtain ⟨u0, u1, u2, hlu⟩ := (E.out.get 0 rfl).cells
                obtain ⟨v0, v1, v2, hlv⟩ := (E.out.get 4 rfl).cells
                refine hK.out _ _ (by exact ⟨x0, x1, x2, y0, y1, y2, u0, u1, u2, v0, v1, v2⟩) (fun hHeld => ?_)
                clear hK K
                try simp only [Act.put]
                try simp only [List.setIfInBounds_toArray]
                try simp only [List.set_cons_succ]
                try simp only [List.set_cons_zero]
                refine wpAnyH_take (i := 9) (oi := _) (v := ?_) (by simp only [List.getElem?_toArray, List.getElem?_cons_succ, List.getElem?_cons_zero]; rfl) (by kernel_rfl) (by kernel_rfl) (by kernel_rfl) (by exact fun _ _ _ h => h) (Or.inl ⟨by rfl, ?_⟩) (by assumption) ?_
                rotate_left 1
                · (intro w hSw; (try dsimp only at hSw); go_simp; try with_reducible rfl)
                all_goals try simp only [Act.put]
                all_goals try simp only [List.setIfInBounds_toArray]
                all_goals try simp only [List.set_cons_succ]
                all_goals try simp only [List.set_cons_zero]
                refine wpAnyH_take (i := 10) (oi := _) (v := ?_) (by simp only [List.getElem?_toArray, List.getElem?_cons_succ, List.getElem?_cons_zero]; rfl) (by kernel_rfl) (by kernel_rfl) (by kernel_rfl) (by exact fun _ _ _ h => h) (Or.inl ⟨by rfl, ?_⟩) (by assumption) ?_
                rotate_left 1
                · (intro w hSw; (try dsimp only at hSw); go_simp; try with_reducible rfl)
                all_goals try simp only [Act.put]
                all_goals try simp only [List.setIfInBounds_toArray]
                all_goals try simp only [List.set_cons_succ]
                all_goals try simp only [List.set_cons_zero]
                refine wpAnyH_done (by kernel_rfl) ?_ _
                have bw := E.out.fin
                go_wp2_with fail
                go_ret
                exact ⟨rfl, bw⟩
            · go_wp2_with fail
              refine (awake8_any _).mono ?_
              rintro e wq ⟨rfl, hb⟩
              have bw := (E.out.below hb).fin
              go_wp2_with fail
              go_ret
              exact ⟨rfl, bw⟩
        · have de : (er == 0) = false := by simpa using he
          clear he HVR AP XZ
          go_upto_region 11 with fail
          clear de
          -- the third curve is x (A4 n4 c4), from now on v; HX.out says that it is valid, (E.out.get 2 rfl).inn that it lies
          obtain ⟨v, A6, n6, c6, hE, hv⟩ : ∃ (v : Cv) (A6 : Option Addr) (n6 c6 : Nat), EnvL w.heap.size w _ [(F, ⟨A, n, c, f⟩), (G, ⟨B, m, d, g⟩), (X, ⟨A4, n4, c4, x⟩), (Z, ⟨A6, n6, c6, v⟩)] ∧ v.Ok := ⟨x, A4, n4, c4, (E.out.join (X := ⟨A4, n4, c4, x⟩) BH.out (E.out.get 2 rfl).inn (by omega)).subJ (fun q hq => by simp only [List.cons_append, List.nil_append, List.mem_cons, List.not_mem_nil, or_false] at hq ⊢; rcases hq with rfl | rfl | rfl | rfl <;> simp), HX.out⟩
          have E := Lib.hid hE; have HV := Lib.hid hv
          clear hE hv
          clear BH
          -- the current third curve is v (A6 n6 c6), at the place 3; HV: v.Ok
          have hn6 : n6 ≤ 400 := by have h1 := HV.out.n2; have h2 : v.vals.length = n6 := (E.out.get 3 rfl).inn.ints.1; omega
          obtain ⟨x0, x1, x2, hlx⟩ := (E.out.get 3 rfl).cells
          obtain ⟨y0, y1, y2, hly⟩ := (E.out.get 1 rfl).cells
          go_wp2_with fail
          refine (cvfn_any A6 B n6 m c6 d v.per v.inc g.per g.inc v.vals g.vals _ (by exact (E.out.get 3 rfl).inn.ints) (by exact (E.out.get 1 rfl).inn.ints) (by omega) (by omega)).mono ?_
          rintro e wv ⟨y, j, hSS, A5, n5, c5, hle, rfl, hI, hA, hb⟩
          have S2 := Lib.hid (show CvS v g y j from hSS)
          clear hle
          have hps := E.out.s.lt
          have E := Lib.hid (show EnvL w.heap.size w _ _ from (E.out.below hb).push (X := ⟨A5, n5, c5, y⟩) (CR.In.new hI hA hps))
          dsimp only [List.cons_append, List.nil_append] at E
          clear hSS hI hA hb hps
          clear x0 x1 x2 hlx
          clear y0 y1 y2 hly
          go_upto_region 12 with fail
          generalize hwe : wv.alloc (.cells #[.slice A5 n5 c5, .int .i64 y.per, .int .i64 y.inc] 31) = wy at *
          clear hwe
          generalize wv.heap.size = Y at *
          rcases cvS_er HV.out Hg.out.1.ok S2.out with rfl | rfl
          · obtain ⟨q, t1, t2⟩ := adj_both S1.out S2.out
            have T1 := Lib.hid t1; have T2 := Lib.hid t2
            have hn5 : n5 ≤ 400 := by have h1 := (cvS_get S2.out).2.2.1.n2; have h2 : y.vals.length = n5 := (E.out.get 4 rfl).inn.ints.1; omega
            clear t1 t2 S1 S2
            go_upto_region 14 with fail
            obtain ⟨x0, x1, x2, hlx⟩ := (E.out.get 2 rfl).cells
            obtain ⟨y0, y1, y2, hly⟩ := (E.out.get 3 rfl).cells
            obtain ⟨u0, u1, u2, hlu⟩ := (E.out.get 0 rfl).cells
            obtain ⟨v0, v1, v2, hlv⟩ := (E.out.get 4 rfl).cells
            cases q
            · refine wp_region_held_drew (S := (fun w' => w'.cell? ⟨X, 0, none⟩ = some (.slice A4 n4 c4) ∧ w'.cell? ⟨X, 1, none⟩ = some (.int .i64 x.per) ∧ w'.cell? ⟨X, 2, none⟩ = some (.int .i64 x.inc) ∧ w'.cell? ⟨Z, 0, none⟩ = some (.slice A6 n6 c6) ∧ w'.cell? ⟨Z, 1, none⟩ = some (.int .i64 v.per) ∧ w'.cell? ⟨Z, 2, none⟩ = some (.int .i64 v.inc) ∧ w'.cell? ⟨F, 0, none⟩ = some (.slice A n c) ∧ w'.cell? ⟨F, 1, none⟩ = some (.int .i64 f.per) ∧ w'.cell? ⟨F, 2, none⟩ = some (.int .i64 f.inc) ∧ w'.cell? ⟨Y, 0, none⟩ = some (.slice A5 n5 c5) ∧ w'.cell? ⟨Y, 1, none⟩ = some (.int .i64 y.per) ∧ w'.cell? ⟨Y, 2, none⟩ = some (.int .i64 y.inc))) (by kernel_rfl) (by exact ⟨x0, x1, x2, y0, y1, y2, u0, u1, u2, v0, v1, v2⟩) (fun hHeld => ?_)
              have E := Lib.hid E.out.drew
              clear x0 x1 x2 hlx
              clear y0 y1 y2 hly
              clear u0 u1 u2 hlu
              clear v0 v1 v2 hlv
              generalize wy.drew = wd at *
              obtain ⟨x0, x1, x2, hlx⟩ := (E.out.get 2 rfl).cells
              obtain ⟨y0, y1, y2, hly⟩ := (E.out.get 3 rfl).cells
              obtain ⟨u0, u1, u2, hlu⟩ := (E.out.get 0 rfl).cells
              obtain ⟨v0, v1, v2, hlv⟩ := (E.out.get 4 rfl).cells
              refine wpAnyH_take (i := 0) (oi := _) (v := ?_) (by simp only [List.getElem?_toArray, List.getElem?_cons_zero]; rfl) (by kernel_rfl) (by kernel_rfl) (by kernel_rfl) (by exact fun _ _ _ h => h) (Or.inl ⟨by rfl, ?_⟩) (by assumption) ?_
              rotate_left 1
              · (intro w hSw; (try dsimp only at hSw); go_simp; try with_reducible rfl)
              all_goals try simp only [Act.put]
              all_goals try simp only [List.setIfInBounds_toArray]
              all_goals try simp only [List.set_cons_succ]
              all_goals try simp only [List.set_cons_zero]
              refine wpAnyH_take (i := 1) (oi := _) (v := ?_) (by simp only [List.getElem?_toArray, List.getElem?_cons_succ, List.getElem?_cons_zero]; rfl) (by kernel_rfl) (by kernel_rfl) (by kernel_rfl) (by exact fun _ _ _ h => h) (Or.inl ⟨by rfl, ?_⟩) (by assumption) ?_
              rotate_left 1
              · (intro w hSw; (try dsimp only at hSw); go_simp; try with_reducible rfl)
              all_goals try simp only [Act.put]
              all_goals try simp only [List.setIfInBounds_toArray]
              all_goals try simp only [List.set_cons_succ]
              all_goals try simp only [List.set_cons_zero]
              refine wpAnyH_take (i := 3) (oi := _) (v := ?_) (by simp only [List.getElem?_toArray, List.getElem?_cons_succ, List.getElem?_cons_zero]; rfl) (by kernel_rfl) (by kernel_rfl) (by kernel_rfl) (by exact fun _ _ _ h => h) (Or.inl ⟨by rfl, ?_⟩) (by assumption) ?_
              rotate_left 1
              · (intro w hSw; (try dsimp only at hSw); go_simp; try with_reducible rfl)
              all_goals try simp only [Act.put]
              all_goals try simp only [List.setIfInBounds_toArray]
              all_goals try simp only [List.set_cons_succ]
              all_goals try simp only [List.set_cons_zero]
              refine wpAnyH_take (i := 4) (oi := _) (v := ?_) (by simp only [List.getElem?_toArray, List.getElem?_cons_succ, List.getElem?_cons_zero]; rfl) (by kernel_rfl) (by kernel_rfl) (by kernel_rfl) (by exact fun _ _ _ h => h) (Or.inl ⟨by rfl, ?_⟩) (by assumption) ?_
              rotate_left 1
              · (intro w hSw; (try dsimp only at hSw); go_simp; try with_reducible rfl)
              all_goals try simp only [Act.put]
              all_goals try simp only [List.setIfInBounds_toArray]
              all_goals try simp only [List.set_cons_succ]
              all_goals try simp only [List.set_cons_zero]
              refine wpAnyH_ready (rs := [2]) (by kernel_rfl) (by simp) ?_
              refine (AllReadyH.cons (by simp only [List.getElem?_toArray, List.getElem?_cons_succ, List.getElem?_cons_zero]; rfl) (fun K hK => ?_) AllReadyH.nil)
              -- AtMost: x v the curves, A4 .. c6 their slices, 2 3 the places, T1.out the fact
              rw [if_pos (by rfl)]
              go_simp
              refine (refAtMost_any A4 A6 n4 n6 c4 c6 x.per x.inc v.per v.inc x.vals v.vals _ (by exact (E.out.get 2 rfl).inn.ints) (by exact (E.out.get 3 rfl).inn.ints) (by omega) (by omega)).mono ?_
              intro e wq hr
              obtain ⟨rfl, hb⟩ := RetM.of T1.out hr
              have E := Lib.hid (E.out.below hb)
              clear hr hb hHeld
              clear x0 x1 x2 hlx
              clear y0 y1 y2 hly
              clear u0 u1 u2 hlu
              clear v0 v1 v2 hlv
              obtain ⟨x0, x1, x2, hlx⟩ := (E.out.get 2 rfl).cells
              obtain ⟨y0, y1, y2, hly⟩ := (E.out.get 3 rfl).cells
              obtain ⟨u0, u1, u2, hlu⟩ := (E.out.get 0 rfl).cells
              obtain ⟨v0, v1, v2, hlv⟩ := (E.out.get 4 rfl).cells
              refine hK.out _ _ (by exact ⟨x0, x1, x2, y0, y1, y2, u0, u1, u2, v0, v1, v2⟩) (fun hHeld => ?_)
              clear hK K
              try simp only [Act.put]
              try simp only [List.setIfInBounds_toArray]
              try simp only [List.set_cons_succ]
              try simp only [List.set_cons_zero]
              refine wpAnyH_ready (rs := [5]) (by kernel_rfl) (by simp) ?_
              refine (AllReadyH.cons (by simp only [List.getElem?_toArray, List.getElem?_cons_succ, List.getElem?_cons_zero]; rfl) (fun K hK => ?_) AllReadyH.nil)
              -- AtMost: f y the curves, A .. c5 their slices, 0 4 the places, T2.out the fact
              rw [if_pos (by rfl)]
              go_simp
              refine (refAtMost_any A A5 n n5 c c5 f.per f.inc y.per y.inc f.vals y.vals _ (by exact (E.out.get 0 rfl).inn.ints) (by exact (E.out.get 4 rfl).inn.ints) (by omega) (by omega)).mono ?_
              intro e wq hr
              obtain ⟨rfl, hb⟩ := RetM.of T2.out hr
              have E := Lib.hid (E.out.below hb)
              clear hr hb hHeld
              clear x0 x1 x2 hlx
              clear y0 y1 y2 hly
              clear u0 u1 u2 hlu
              clear v0 v1 v2 hlv
              obtain ⟨x0, x1, x2, hlx⟩ := (E.out.get 2 rfl).cells
              obtain ⟨y0, y1, y2, hly⟩ := (E.out.get 3 rfl).cells
              obtain ⟨u0, u1, u2, hlu⟩ := (E.out.get 0 rfl).cells
              obtain ⟨v0, v1, v2, hlv⟩ := (E.out.get 4 rfl).cells
              refine hK.out _ _ (by exact ⟨x0, x1, x2, y0, y1, y2, u0, u1, u2, v0, v1, v2⟩) (fun hHeld => ?_)
              clear hK K
              try simp only [Act.put]
              try simp only [List.setIfInBounds_toArray]
              try simp only [List.set_cons_succ]
              try simp only [List.set_cons_zero]
              refine wpAnyH_take (i := 6) (oi := _) (v := ?_) (by simp only [List.getElem?_toArray, List.getElem?_cons_succ, List.getElem?_cons_zero]; rfl) (by kernel_rfl) (by kernel_rfl) (by kernel_rfl) (by exact fun _ _ _ h => h) (Or.inl ⟨by rfl, ?_⟩) (by assumption) ?_
              rotate_left 1
              · (intro w hSw; (try dsimp only at hSw); go_simp; try with_reducible rfl)
              all_goals try simp only [Act.put]
              all_goals try simp only [List.setIfInBounds_toArray]
              all_goals try simp only [List.set_cons_succ]
              all_goals try simp only [List.set_cons_zero]
              refine wpAnyH_take (i := 7) (oi := _) (v := ?_) (by simp only [List.getElem?_toArray, List.getElem?_cons_succ, List.getElem?_cons_zero]; rfl) (by kernel_rfl) (by kernel_rfl) (by kernel_rfl) (by exact fun _ _ _ h => h) (Or.inl ⟨by rfl, ?_⟩) (by assumption) ?_
              rotate_left 1
              · (intro w hSw; (try dsimp only at hSw); go_simp; try with_reducible rfl)
              all_goals try simp only [Act.put]
              all_goals try simp only [List.setIfInBounds_toArray]
              all_goals try simp only [List.set_cons_succ]
              all_goals try simp only [List.set_cons_zero]
              refine wpAnyH_ready (rs := [8]) (by kernel_rfl) (by simp) ?_
              refine (AllReadyH.cons (by simp only [List.getElem?_toArray, List.getElem?_cons_succ, List.getElem?_cons_zero]; rfl) (fun K hK => ?_) AllReadyH.nil)
              rw [if_pos (by rfl)]
              go_simp
              refine (awake8_any _).mono ?_
              rintro e wq ⟨rfl, hb⟩
              have E := Lib.hid (E.out.below hb)
              clear hb hHeld
              clear x0 x1 x2 hlx
              clear y0 y1 y2 hly
              clear u0 u1 u2 hlu
              clear v0 v1 v2 hlv
              obtain ⟨x0, x1, x2, hlx⟩ := (E.out.get 2 rfl).cells
              obtain ⟨y0, y1, y2, hly⟩ := (E.out.get 3 rfl).cells
              obtain ⟨u0, u1, u2, hlu⟩ := (E.out.get 0 rfl).cells
              obtain ⟨v0, v1, v2, hlv⟩ := (E.out.get 4 rfl).cells
              refine hK.out _ _ (by exact ⟨x0, x1, x2, y0, y1, y2, u0, u1, u2, v0, v1, v2⟩) (fun hHeld => ?_)
              clear hK K
              try simp only [Act.put]
              try simp only [List.setIfInBounds_toArray]
              try simp only [List.set_cons_succ]
              try simp only [List.set_cons_zero]
              refine wpAnyH_take (i := 9) (oi := _) (v := ?_) (by simp only [List.getElem?_toArray, List.getElem?_cons_succ, List.getElem?_cons_zero]; rfl) (by kernel_rfl) (by kernel_rfl) (by kernel_rfl) (by exact fun _ _ _ h => h) (Or.inl ⟨by rfl, ?_⟩) (by assumption) ?_
              rotate_left 1
              · (intro w hSw; (try dsimp only at hSw); go_simp; try with_reducible rfl)
              all_goals try simp only [Act.put]
              all_goals try simp only [List.setIfInBounds_toArray]
              all_goals try simp only [List.set_cons_succ]
              all_goals try simp only [List.set_cons_zero]
              refine wpAnyH_take (i := 10) (oi := _) (v := ?_) (by simp only [List.getElem?_toArray, List.getElem?_cons_succ, List.getElem?_cons_zero]; rfl) (by kernel_rfl) (by kernel_rfl) (by kernel_rfl) (by exact fun _ _ _ h => h) (Or.inl ⟨by rfl, ?_⟩) (by assumption) ?_
              rotate_left 1
              · (intro w hSw; (try dsimp only at hSw); go_simp; try with_reducible rfl)
              all_goals try simp only [Act.put]
              all_goals try simp only [List.setIfInBounds_toArray]
              all_goals try simp only [List.set_cons_succ]
              all_goals try simp only [List.set_cons_zero]
              refine wpAnyH_done (by kernel_rfl) ?_ _
              have bw := E.out.fin
              go_wp2_with fail
              go_ret
              exact ⟨rfl, bw⟩
            · refine wp_region_held_drew (S := (fun w' => w'.cell? ⟨X, 0, none⟩ = some (.slice A4 n4 c4) ∧ w'.cell? ⟨X, 1, none⟩ = some (.int .i64 x.per) ∧ w'.cell? ⟨X, 2, none⟩ = some (.int .i64 x.inc) ∧ w'.cell? ⟨Z, 0, none⟩ = some (.slice A6 n6 c6) ∧ w'.cell? ⟨Z, 1, none⟩ = some (.int .i64 v.per) ∧ w'.cell? ⟨Z, 2, none⟩ = some (.int .i64 v.inc) ∧ w'.cell? ⟨F, 0, none⟩ = some (.slice A n c) ∧ w'.cell? ⟨F, 1, none⟩ = some (.int .i64 f.per) ∧ w'.cell? ⟨F, 2, none⟩ = some (.int .i64 f.inc) ∧ w'.cell? ⟨Y, 0, none⟩ = some (.slice A5 n5 c5) ∧ w'.cell? ⟨Y, 1, none⟩ = some (.int .i64 y.per) ∧ w'.cell? ⟨Y, 2, none⟩ = some (.int .i64 y.inc))) (by kernel_rfl) (by exact ⟨x0, x1, x2, y0, y1, y2, u0, u1, u2, v0, v1, v2⟩) (fun hHeld => ?_)
              have E := Lib.hid E.out.drew
              clear x0 x1 x2 hlx
              clear y0 y1 y2 hly
              clear u0 u1 u2 hlu
              clear v0 v1 v2 hlv
              generalize wy.drew = wd at *
              obtain ⟨x0, x1, x2, hlx⟩ := (E.out.get 2 rfl).cells
              obtain ⟨y0, y1, y2, hly⟩ := (E.out.get 3 rfl).cells
              obtain ⟨u0, u1, u2, hlu⟩ := (E.out.get 0 rfl).cells
              obtain ⟨v0, v1, v2, hlv⟩ := (E.out.get 4 rfl).cells
              refine wpAnyH_take (i := 0) (oi := _) (v := ?_) (by simp only [List.getElem?_toArray, List.getElem?_cons_zero]; rfl) (by kernel_rfl) (by kernel_rfl) (by kernel_rfl) (by exact fun _ _ _ h => h) (Or.inl ⟨by rfl, ?_⟩) (by assumption) ?_
              rotate_left 1
              · (intro w hSw; (try dsimp only at hSw); go_simp; try with_reducible rfl)
              all_goals try simp only [Act.put]
              all_goals try simp only [List.setIfInBounds_toArray]
              all_goals try simp only [List.set_cons_succ]
              all_goals try simp only [List.set_cons_zero]
              refine wpAnyH_take (i := 1) (oi := _) (v := ?_) (by simp only [List.getElem?_toArray, List.getElem?_cons_succ, List.getElem?_cons_zero]; rfl) (by kernel_rfl) (by kernel_rfl) (by kernel_rfl) (by exact fun _ _ _ h => h) (Or.inl ⟨by rfl, ?_⟩) (by assumption) ?_
              rotate_left 1
              · (intro w hSw; (try dsimp only at hSw); go_simp; try with_reducible rfl)
              all_goals try simp only [Act.put]
              all_goals try simp only [List.setIfInBounds_toArray]
              all_goals try simp only [List.set_cons_succ]
              all_goals try simp only [List.set_cons_zero]
              refine wpAnyH_take (i := 3) (oi := _) (v := ?_) (by simp only [List.getElem?_toArray, List.getElem?_cons_succ, List.getElem?_cons_zero]; rfl) (by kernel_rfl) (by kernel_rfl) (by kernel_rfl) (by exact fun _ _ _ h => h) (Or.inl ⟨by rfl, ?_⟩) (by assumption) ?_
              rotate_left 1
              · (intro w hSw; (try dsimp only at hSw); go_simp; try with_reducible rfl)
              all_goals try simp only [Act.put]
              all_goals try simp only [List.setIfInBounds_toArray]
              all_goals try simp only [List.set_cons_succ]
              all_goals try simp only [List.set_cons_zero]
              refine wpAnyH_take (i := 4) (oi := _) (v := ?_) (by simp only [List.getElem?_toArray, List.getElem?_cons_succ, List.getElem?_cons_zero]; rfl) (by kernel_rfl) (by kernel_rfl) (by kernel_rfl) (by exact fun _ _ _ h => h) (Or.inl ⟨by rfl, ?_⟩) (by assumption) ?_
              rotate_left 1
              · (intro w hSw; (try dsimp only at hSw); go_simp; try with_reducible rfl)
              all_goals try simp only [Act.put]
              all_goals try simp only [List.setIfInBounds_toArray]
              all_goals try simp only [List.set_cons_succ]
              all_goals try simp only [List.set_cons_zero]
              refine wpAnyH_ready (rs := [2]) (by kernel_rfl) (by simp) ?_
              refine (AllReadyH.cons (by simp only [List.getElem?_toArray, List.getElem?_cons_succ, List.getElem?_cons_zero]; rfl) (fun K hK => ?_) AllReadyH.nil)
              -- AtMost: x v the curves, A4 .. c6 their slices, 2 3 the places, T1.out the fact
              rw [if_pos (by rfl)]
              go_simp
              refine (refAtMost_any A4 A6 n4 n6 c4 c6 x.per x.inc v.per v.inc x.vals v.vals _ (by exact (E.out.get 2 rfl).inn.ints) (by exact (E.out.get 3 rfl).inn.ints) (by omega) (by omega)).mono ?_
              intro e wq hr
              obtain ⟨rfl, hb⟩ := RetM.of T1.out hr
              have E := Lib.hid (E.out.below hb)
              clear hr hb hHeld
              clear x0 x1 x2 hlx
              clear y0 y1 y2 hly
              clear u0 u1 u2 hlu
              clear v0 v1 v2 hlv
              obtain ⟨x0, x1, x2, hlx⟩ := (E.out.get 2 rfl).cells
              obtain ⟨y0, y1, y2, hly⟩ := (E.out.get 3 rfl).cells
              obtain ⟨u0, u1, u2, hlu⟩ := (E.out.get 0 rfl).cells
              obtain ⟨v0, v1, v2, hlv⟩ := (E.out.get 4 rfl).cells
              refine hK.out _ _ (by exact ⟨x0, x1, x2, y0, y1, y2, u0, u1, u2, v0, v1, v2⟩) (fun hHeld => ?_)
              clear hK K
              try simp only [Act.put]
              try simp only [List.setIfInBounds_toArray]
              try simp only [List.set_cons_succ]
              try simp only [List.set_cons_zero]
              refine wpAnyH_ready (rs := [5]) (by kernel_rfl) (by simp) ?_
              refine (AllReadyH.cons (by simp only [List.getElem?_toArray, List.getElem?_cons_succ, List.getElem?_cons_zero]; rfl) (fun K hK => ?_) AllReadyH.nil)
              -- AtMost: f y the curves, A .. c5 their slices, 0 4 the places, T2.out the fact
              rw [if_pos (by rfl)]
              go_simp
              refine (refAtMost_any A A5 n n5 c c5 f.per f.inc y.per y.inc f.vals y.vals _ (by exact (E.out.get 0 rfl).inn.ints) (by exact (E.out.get 4 rfl).inn.ints) (by omega) (by omega)).mono ?_
              intro e wq hr
              obtain ⟨rfl, hb⟩ := RetM.of T2.out hr
              have E := Lib.hid (E.out.below hb)
              clear hr hb hHeld
              clear x0 x1 x2 hlx
              clear y0 y1 y2 hly
              clear u0 u1 u2 hlu
              clear v0 v1 v2 hlv
              obtain ⟨x0, x1, x2, hlx⟩ := (E.out.get 2 rfl).cells
              obtain ⟨y0, y1, y2, hly⟩ := (E.out.get 3 rfl).cells
              obtain ⟨u0, u1, u2, hlu⟩ := (E.out.get 0 rfl).cells
              obtain ⟨v0, v1, v2, hlv⟩ := (E.out.get 4 rfl).cells
              refine hK.out _ _ (by exact ⟨x0, x1, x2, y0, y1, y2, u0, u1, u2, v0, v1, v2⟩) (fun hHeld => ?_)
              clear hK K
              try simp only [Act.put]
              try simp only [List.setIfInBounds_toArray]
              try simp only [List.set_cons_succ]
              try simp only [List.set_cons_zero]
              refine wpAnyH_take (i := 6) (oi := _) (v := ?_) (by simp only [List.getElem?_toArray, List.getElem?_cons_succ, List.getElem?_cons_zero]; rfl) (by kernel_rfl) (by kernel_rfl) (by kernel_rfl) (by exact fun _ _ _ h => h) (Or.inl ⟨by rfl, ?_⟩) (by assumption) ?_
              rotate_left 1
              · (intro w hSw; (try dsimp only at hSw); go_simp; try with_reducible rfl)
              all_goals try simp only [Act.put]
              all_goals try simp only [List.setIfInBounds_toArray]
              all_goals try simp only [List.set_cons_succ]
              all_goals try simp only [List.set_cons_zero]
              refine wpAnyH_take (i := 7) (oi := _) (v := ?_) (by simp only [List.getElem?_toArray, List.getElem?_cons_succ, List.getElem?_cons_zero]; rfl) (by kernel_rfl) (by kernel_rfl) (by kernel_rfl) (by exact fun _ _ _ h => h) (Or.inl ⟨by rfl, ?_⟩) (by assumption) ?_
              rotate_left 1
              · (intro w hSw; (try dsimp only at hSw); go_simp; try with_reducible rfl)
              all_goals try simp only [Act.put]
              all_goals try simp only [List.setIfInBounds_toArray]
              all_goals try simp only [List.set_cons_succ]
              all_goals try simp only [List.set_cons_zero]
              refine wpAnyH_ready (rs := [8]) (by kernel_rfl) (by simp) ?_
              refine (AllReadyH.cons (by simp only [List.getElem?_toArray, List.getElem?_cons_succ, List.getElem?_cons_zero]; rfl) (fun K hK => ?_) AllReadyH.nil)
              rw [if_pos (by rfl)]
              go_simp
              refine (awake8_any _).mono ?_
              rintro e wq ⟨rfl, hb⟩
              have E := Lib.hid (E.out.below hb)
              clear hb hHeld
              clear x0 x1 x2 hlx
              clear y0 y1 y2 hly
              clear u0 u1 u2 hlu
              clear v0 v1 v2 hlv
              obtain ⟨x0, x1, x2, hlx⟩ := (E.out.get 2 rfl).cells
              obtain ⟨y0, y1, y2, hly⟩ := (E.out.get 3 rfl).cells
              obtain ⟨u0, u1, u2, hlu⟩ := (E.out.get 0 rfl).cells
              obtain ⟨v0, v1, v2, hlv⟩ := (E.out.get 4 rfl).cells
              refine hK.out _ _ (by exact ⟨x0, x1, x2, y0, y1, y2, u0, u1, u2, v0, v1, v2⟩) (fun hHeld => ?_)
              clear hK K
              try simp only [Act.put]
              try simp only [List.setIfInBounds_toArray]
              try simp only [List.set_cons_succ]
              try simp only [List.set_cons_zero]
              refine wpAnyH_take (i := 9) (oi := _) (v := ?_) (by simp only [List.getElem?_toArray, List.getElem?_cons_succ, List.getElem?_cons_zero]; rfl) (by kernel_rfl) (by kernel_rfl) (by kernel_rfl) (by exact fun _ _ _ h => h) (Or.inl ⟨by rfl, ?_⟩) (by assumption) ?_
              rotate_left 1
              · (intro w hSw; (try dsimp only at hSw); go_simp; try with_reducible rfl)
              all_goals try simp only [Act.put]
              all_goals try simp only [List.setIfInBounds_toArray]
              all_goals try simp only [List.set_cons_succ]
              all_goals try simp only [List.set_cons_zero]
              refine wpAnyH_take (i := 10) (oi := _) (v := ?_) (by simp only [List.getElem?_toArray, List.getElem?_cons_succ, List.getElem?_cons_zero]; rfl) (by kernel_rfl) (by kernel_rfl) (by kernel_rfl) (by exact fun _ _ _ h => h) (Or.inl ⟨by rfl, ?_⟩) (by assumption) ?_
              rotate_left 1
              · (intro w hSw; (try dsimp only at hSw); go_simp; try with_reducible rfl)
              all_goals try simp only [Act.put]
              all_goals try simp only [List.setIfInBounds_toArray]
              all_goals try simp only [List.set_cons_succ]
              all_goals try simp only [List.set_cons_zero]
              refine wpAnyH_done (by kernel_rfl) ?_ _
              have bw := E.out.fin
              go_wp2_with fail
              go_ret
              exact ⟨rfl, bw⟩
          · go_wp2_with fail
            refine (awake8_any _).mono ?_
            rintro e wq ⟨rfl, hb⟩
            have bw := (E.out.below hb).fin
            go_wp2_with fail
            go_ret
            exact ⟨rfl, bw⟩
    · have dz : (z == 0) = false := by simpa using hz
      clear hz hz0 AP
      go_upto_region 11 with fail
      clear dz
      -- the third curve is h (C l k), from now on v; Hh.out.ok says that it is valid, Vh.out that it lies
      obtain ⟨v, A6, n6, c6, hE, hv⟩ : ∃ (v : Cv) (A6 : Option Addr) (n6 c6 : Nat), EnvL w.heap.size w _ [(F, ⟨A, n, c, f⟩), (G, ⟨B, m, d, g⟩), (X, ⟨A4, n4, c4, x⟩), (Z, ⟨A6, n6, c6, v⟩)] ∧ v.Ok := ⟨h, C, l, k, (E.out.join (X := ⟨C, l, k, h⟩) BH.out Vh.out (by omega)).subJ (fun q hq => by simp only [List.cons_append, List.nil_append, List.mem_cons, List.not_mem_nil, or_false] at hq ⊢; rcases hq with rfl | rfl | rfl | rfl <;> simp), Hh.out.ok⟩
      have E := Lib.hid hE; have HV := Lib.hid hv
      clear hE hv
      clear BH Vh
      -- the current third curve is v (A6 n6 c6), at the place 3; HV: v.Ok
      have hn6 : n6 ≤ 400 := by have h1 := HV.out.n2; have h2 : v.vals.length = n6 := (E.out.get 3 rfl).inn.ints.1; omega
      obtain ⟨x0, x1, x2, hlx⟩ := (E.out.get 3 rfl).cells
      obtain ⟨y0, y1, y2, hly⟩ := (E.out.get 1 rfl).cells
      go_wp2_with fail
      refine (cvfn_any A6 B n6 m c6 d v.per v.inc g.per g.inc v.vals g.vals _ (by exact (E.out.get 3 rfl).inn.ints) (by exact (E.out.get 1 rfl).inn.ints) (by omega) (by omega)).mono ?_
      rintro e wv ⟨y, j, hSS, A5, n5, c5, hle, rfl, hI, hA, hb⟩
      have S2 := Lib.hid (show CvS v g y j from hSS)
      clear hle
      have hps := E.out.s.lt
      have E := Lib.hid (show EnvL w.heap.size w _ _ from (E.out.below hb).push (X := ⟨A5, n5, c5, y⟩) (CR.In.new hI hA hps))
      dsimp only [List.cons_append, List.nil_append] at E
      clear hSS hI hA hb hps
      clear x0 x1 x2 hlx
      clear y0 y1 y2 hly
      go_upto_region 12 with fail
      generalize hwe : wv.alloc (.cells #[.slice A5 n5 c5, .int .i64 y.per, .int .i64 y.inc] 31) = wy at *
      clear hwe
      generalize wv.heap.size = Y at *
      rcases cvS_er HV.out Hg.out.1.ok S2.out with rfl | rfl
      · obtain ⟨q, t1, t2⟩ := adj_both S1.out S2.out
        have T1 := Lib.hid t1; have T2 := Lib.hid t2
        have hn5 : n5 ≤ 400 := by have h1 := (cvS_get S2.out).2.2.1.n2; have h2 : y.vals.length = n5 := (E.out.get 4 rfl).inn.ints.1; omega
        clear t1 t2 S1 S2
        go_upto_region 14 with fail
        obtain ⟨x0, x1, x2, hlx⟩ := (E.out.get 2 rfl).cells
        obtain ⟨y0, y1, y2, hly⟩ := (E.out.get 3 rfl).cells
        obtain ⟨u0, u1, u2, hlu⟩ := (E.out.get 0 rfl).cells
        obtain ⟨v0, v1, v2, hlv⟩ := (E.out.get 4 rfl).cells
        cases q
        · refine wp_region_held_drew (S := (fun w' => w'.cell? ⟨X, 0, none⟩ = some (.slice A4 n4 c4) ∧ w'.cell? ⟨X, 1, none⟩ = some (.int .i64 x.per) ∧ w'.cell? ⟨X, 2, none⟩ = some (.int .i64 x.inc) ∧ w'.cell? ⟨Z, 0, none⟩ = some (.slice A6 n6 c6) ∧ w'.cell? ⟨Z, 1, none⟩ = some (.int .i64 v.per) ∧ w'.cell? ⟨Z, 2, none⟩ = some (.int .i64 v.inc) ∧ w'.cell? ⟨F, 0, none⟩ = some (.slice A n c) ∧ w'.cell? ⟨F, 1, none⟩ = some (.int .i64 f.per) ∧ w'.cell? ⟨F, 2, none⟩ = some (.int .i64 f.inc) ∧ w'.cell? ⟨Y, 0, none⟩ = some (.slice A5 n5 c5) ∧ w'.cell? ⟨Y, 1, none⟩ = some (.int .i64 y.per) ∧ w'.cell? ⟨Y, 2, none⟩ = some (.int .i64 y.inc))) (by kernel_rfl) (by exact ⟨x0, x1, x2, y0, y1, y2, u0, u1, u2, v0, v1, v2⟩) (fun hHeld => ?_)
          have E := Lib.hid E.out.drew
          clear x0 x1 x2 hlx
          clear y0 y1 y2 hly
          clear u0 u1 u2 hlu
          clear v0 v1 v2 hlv
          generalize wy.drew = wd at *
          obtain ⟨x0, x1, x2, hlx⟩ := (E.out.get 2 rfl).cells
          obtain ⟨y0, y1, y2, hly⟩ := (E.out.get 3 rfl).cells
          obtain ⟨u0, u1, u2, hlu⟩ := (E.out.get 0 rfl).cells
          obtain ⟨v0, v1, v2, hlv⟩ := (E.out.get 4 rfl).cells
          refine wpAnyH_take (i := 0) (oi := _) (v := ?_) (by simp only [List.getElem?_toArray, List.getElem?_cons_zero]; rfl) (by kernel_rfl) (by kernel_rfl) (by kernel_rfl) (by exact fun _ _ _ h => h) (Or.inl ⟨by rfl, ?_⟩) (by assumption) ?_
          rotate_left 1
          · (intro w hSw; (try dsimp only at hSw); go_simp; try with_reducible rfl)
          all_goals try simp only [Act.put]
          all_goals try simp only [List.setIfInBounds_toArray]
          all_goals try simp only [List.set_cons_succ]
          all_goals try simp only [List.set_cons_zero]
          refine wpAnyH_take (i := 1) (oi := _) (v := ?_) (by simp only [List.getElem?_toArray, List.getElem?_cons_succ, List.getElem?_cons_zero]; rfl) (by kernel_rfl) (by kernel_rfl) (by kernel_rfl) (by exact fun _ _ _ h => h) (Or.inl ⟨by rfl, ?_⟩) (by assumption) ?_
          rotate_left 1
          · (intro w hSw; (try dsimp only at hSw); go_simp; try with_reducible rfl)
          all_goals try simp only [Act.put]
          all_goals try simp only [List.setIfInBounds_toArray]
          all_goals try simp only [List.set_cons_succ]
          all_goals try simp only [List.set_cons_zero]
          refine wpAnyH_take (i := 3) (oi := _) (v := ?_) (by simp only [List.getElem?_toArray, List.getElem?_cons_succ, List.getElem?_cons_zero]; rfl) (by kernel_rfl) (by kernel_rfl) (by kernel_rfl) (by exact fun _ _ _ h => h) (Or.inl ⟨by rfl, ?_⟩) (by assumption) ?_
          rotate_left 1
          · (intro w hSw; (try dsimp only at hSw); go_simp; try with_reducible rfl)
          all_goals try simp only [Act.put]
          all_goals try simp only [List.setIfInBounds_toArray]
          all_goals try simp only [List.set_cons_succ]
          all_goals try simp only [List.set_cons_zero]
          refine wpAnyH_take (i := 4) (oi := _) (v := ?_) (by simp only [List.getElem?_toArray, List.getElem?_cons_succ, List.getElem?_cons_zero]; rfl) (by kernel_rfl) (by kernel_rfl) (by kernel_rfl) (by exact fun _ _ _ h => h) (Or.inl ⟨by rfl, ?_⟩) (by assumption) ?_
          rotate_left 1
          · (intro w hSw; (try dsimp only at hSw); go_simp; try with_reducible rfl)
          all_goals try simp only [Act.put]
          all_goals try simp only [List.setIfInBounds_toArray]
          all_goals try simp only [List.set_cons_succ]
          all_goals try simp only [List.set_cons_zero]
          refine wpAnyH_ready (rs := [2]) (by kernel_rfl) (by simp) ?_
          refine (AllReadyH.cons (by simp only [List.getElem?_toArray, List.getElem?_cons_succ, List.getElem?_cons_zero]; rfl) (fun K hK => ?_) AllReadyH.nil)
          -- AtMost: x v the curves, A4 .. c6 their slices, 2 3 the places, T1.out the fact
          rw [if_pos (by rfl)]
          go_simp
          refine (refAtMost_any A4 A6 n4 n6 c4 c6 x.per x.inc v.per v.inc x.vals v.vals _ (by exact (E.out.get 2 rfl).inn.ints) (by exact (E.out.get 3 rfl).inn.ints) (by omega) (by omega)).mono ?_
          intro e wq hr
          obtain ⟨rfl, hb⟩ := RetM.of T1.out hr
          have E := Lib.hid (E.out.below hb)
          clear hr hb hHeld
          clear x0 x1 x2 hlx
          clear y0 y1 y2 hly
          clear u0 u1 u2 hlu
          clear v0 v1 v2 hlv
          obtain ⟨x0, x1, x2, hlx⟩ := (E.out.get 2 rfl).cells
          obtain ⟨y0, y1, y2, hly⟩ := (E.out.get 3 rfl).cells
          obtain ⟨u0, u1, u2, hlu⟩ := (E.out.get 0 rfl).cells
          obtain ⟨v0, v1, v2, hlv⟩ := (E.out.get 4 rfl).cells
          refine hK.out _ _ (by exact ⟨x0, x1, x2, y0, y1, y2, u0, u1, u2, v0, v1, v2⟩) (fun hHeld => ?_)
          clear hK K
          try simp only [Act.put]
          try simp only [List.setIfInBounds_toArray]
          try simp only [List.set_cons_succ]
          try simp only [List.set_cons_zero]
          refine wpAnyH_ready (rs := [5]) (by kernel_rfl) (by simp) ?_
          refine (AllReadyH.cons (by simp only [List.getElem?_toArray, List.getElem?_cons_succ, List.getElem?_cons_zero]; rfl) (fun K hK => ?_) AllReadyH.nil)
          -- AtMost: f y the curves, A .. c5 their slices, 0 4 the places, T2.out the fact
          rw [if_pos (by rfl)]
          go_simp
          refine (refAtMost_any A A5 n n5 c c5 f.per f.inc y.per y.inc f.vals y.vals _ (by exact (E.out.get 0 rfl).inn.ints) (by exact (E.out.get 4 rfl).inn.ints) (by omega) (by omega)).mono ?_
          intro e wq hr
          obtain ⟨rfl, hb⟩ := RetM.of T2.out hr
          have E := Lib.hid (E.out.below hb)
          clear hr hb hHeld
          clear x0 x1 x2 hlx
          clear y0 y1 y2 hly
          clear u0 u1 u2 hlu
          clear v0 v1 v2 hlv
          obtain ⟨x0, x1, x2, hlx⟩ := (E.out.get 2 rfl).cells
          obtain ⟨y0, y1, y2, hly⟩ := (E.out.get 3 rfl).cells
          obtain ⟨u0, u1, u2, hlu⟩ := (E.out.get 0 rfl).cells
          obtain ⟨v0, v1, v2, hlv⟩ := (E.out.get 4 rfl).cells
          refine hK.out _ _ (by exact ⟨x0, x1, x2, y0, y1, y2, u0, u1, u2, v0, v1, v2⟩) (fun hHeld => ?_)
          clear hK K
          try simp only [Act.put]
          try simp only [List.setIfInBounds_toArray]
          try simp only [List.set_cons_succ]
          try simp only [List.set_cons_zero]
          refine wpAnyH_take (i := 6) (oi := _) (v := ?_) (by simp only [List.getElem?_toArray, List.getElem?_cons_succ, List.getElem?_cons_zero]; rfl) (by kernel_rfl) (by kernel_rfl) (by kernel_rfl) (by exact fun _ _ _ h => h) (Or.inl ⟨by rfl, ?_⟩) (by assumption) ?_
          rotate_left 1
          · (intro w hSw; (try dsimp only at hSw); go_simp; try with_reducible rfl)
          all_goals try simp only [Act.put]
          all_goals try simp only [List.setIfInBounds_toArray]
          all_goals try simp only [List.set_cons_succ]
          all_goals try simp only [List.set_cons_zero]
          refine wpAnyH_take (i := 7) (oi := _) (v := ?_) (by simp only [List.getElem?_toArray, List.getElem?_cons_succ, List.getElem?_cons_zero]; rfl) (by kernel_rfl) (by kernel_rfl) (by kernel_rfl) (by exact fun _ _ _ h => h) (Or.inl ⟨by rfl, ?_⟩) (by assumption) ?_
          rotate_left 1
          · (intro w hSw; (try dsimp only at hSw); go_simp; try with_reducible rfl)
          all_goals try simp only [Act.put]
          all_goals try simp only [List.setIfInBounds_toArray]
          all_goals try simp only [List.set_cons_succ]
          all_goals try simp only [List.set_cons_zero]
          refine wpAnyH_ready (rs := [8]) (by kernel_rfl) (by simp) ?_
          refine (AllReadyH.cons (by simp only [List.getElem?_toArray, List.getElem?_cons_succ, List.getElem?_cons_zero]; rfl) (fun K hK => ?_) AllReadyH.nil)
          rw [if_pos (by rfl)]
          go_simp
          refine (awake8_any _).mono ?_
          rintro e wq ⟨rfl, hb⟩
          have E := Lib.hid (E.out.below hb)
          clear hb hHeld
          clear x0 x1 x2 hlx
          clear y0 y1 y2 hly
          clear u0 u1 u2 hlu
          clear v0 v1 v2 hlv
          obtain ⟨x0, x1, x2, hlx⟩ := (E.out.get 2 rfl).cells
          obtain ⟨y0, y1, y2, hly⟩ := (E.out.get 3 rfl).cells
          obtain ⟨u0, u1, u2, hlu⟩ := (E.out.get 0 rfl).cells
          obtain ⟨v0, v1, v2, hlv⟩ := (E.out.get 4 rfl).cells
          refine hK.out _ _ (by exact ⟨x0, x1, x2, y0, y1, y2, u0, u1, u2, v0, v1, v2⟩) (fun hHeld => ?_)
          clear hK K
          try simp only [Act.put]
          try simp only [List.setIfInBounds_toArray]
          try simp only [List.set_cons_succ]
          try simp only [List.set_cons_zero]
          refine wpAnyH_take (i := 9) (oi := _) (v := ?_) (by simp only [List.getElem?_toArray, List.getElem?_cons_succ, List.getElem?_cons_zero]; rfl) (by kernel_rfl) (by kernel_rfl) (by kernel_rfl) (by exact fun _ _ _ h => h) (Or.inl ⟨by rfl, ?_⟩) (by assumption) ?_
          rotate_left 1
          · (intro w hSw; (try dsimp only at hSw); go_simp; try with_reducible rfl)
          all_goals try simp only [Act.put]
          all_goals try simp only [List.setIfInBounds_toArray]
          all_goals try simp only [List.set_cons_succ]
          all_goals try simp only [List.set_cons_zero]
          refine wpAnyH_take (i := 10) (oi := _) (v := ?_) (by simp only [List.getElem?_toArray, List.getElem?_cons_succ, List.getElem?_cons_zero]; rfl) (by kernel_rfl) (by kernel_rfl) (by kernel_rfl) (by exact fun _ _ _ h => h) (Or.inl ⟨by rfl, ?_⟩) (by assumption) ?_
          rotate_left 1
          · (intro w hSw; (try dsimp only at hSw); go_simp; try with_reducible rfl)
          all_goals try simp only [Act.put]
          all_goals try simp only [List.setIfInBounds_toArray]
          all_goals try simp only [List.set_cons_succ]
          all_goals try simp only [List.set_cons_zero]
          refine wpAnyH_done (by kernel_rfl) ?_ _
          have bw := E.out.fin
          go_wp2_with fail
          go_ret
          exact ⟨rfl, bw⟩
        · refine wp_region_held_drew (S := (fun w' => w'.cell? ⟨X, 0, none⟩ = some (.slice A4 n4 c4) ∧ w'.cell? ⟨X, 1, none⟩ = some (.int .i64 x.per) ∧ w'.cell? ⟨X, 2, none⟩ = some (.int .i64 x.inc) ∧ w'.cell? ⟨Z, 0, none⟩ = some (.slice A6 n6 c6) ∧ w'.cell? ⟨Z, 1, none⟩ = some (.int .i64 v.per) ∧ w'.cell? ⟨Z, 2, none⟩ = some (.int .i64 v.inc) ∧ w'.cell? ⟨F, 0, none⟩ = some (.slice A n c) ∧ w'.cell? ⟨F, 1, none⟩ = some (.int .i64 f.per) ∧ w'.cell? ⟨F, 2, none⟩ = some (.int .i64 f.inc) ∧ w'.cell? ⟨Y, 0, none⟩ = some (.slice A5 n5 c5) ∧ w'.cell? ⟨Y, 1, none⟩ = some (.int .i64 y.per) ∧ w'.cell? ⟨Y, 2, none⟩ = some (.int .i64 y.inc))) (by kernel_rfl) (by exact ⟨x0, x1, x2, y0, y1, y2, u0, u1, u2, v0, v1, v2⟩) (fun hHeld => ?_)
          have E := Lib.hid E.out.drew
          clear x0 x1 x2 hlx
          clear y0 y1 y2 hly
          clear u0 u1 u2 hlu
          clear v0 v1 v2 hlv
          generalize wy.drew = wd at *
          obtain ⟨x0, x1, x2, hlx⟩ := (E.out.get 2 rfl).cells
          obtain ⟨y0, y1, y2, hly⟩ := (E.out.get 3 rfl).cells
          obtain ⟨u0, u1, u2, hlu⟩ := (E.out.get 0 rfl).cells
          obtain ⟨v0, v1, v2, hlv⟩ := (E.out.get 4 rfl).cells
          refine wpAnyH_take (i := 0) (oi := _) (v := ?_) (by simp only [List.getElem?_toArray, List.getElem?_cons_zero]; rfl) (by kernel_rfl) (by kernel_rfl) (by kernel_rfl) (by exact fun _ _ _ h => h) (Or.inl ⟨by rfl, ?_⟩) (by assumption) ?_
          rotate_left 1
          · (intro w hSw; (try dsimp only at hSw); go_simp; try with_reducible rfl)
          all_goals try simp only [Act.put]
          all_goals try simp only [List.setIfInBounds_toArray]
          all_goals try simp only [List.set_cons_succ]
          all_goals try simp only [List.set_cons_zero]
          refine wpAnyH_take (i := 1) (oi := _) (v := ?_) (by simp only [List.getElem?_toArray, List.getElem?_cons_succ, List.getElem?_cons_zero]; rfl) (by kernel_rfl) (by kernel_rfl) (by kernel_rfl) (by exact fun _ _ _ h => h) (Or.inl ⟨by rfl, ?_⟩) (by assumption) ?_
          rotate_left 1
          · (intro w hSw; (try dsimp only at hSw); go_simp; try with_reducible rfl)
          all_goals try simp only [Act.put]
          all_goals try simp only [List.setIfInBounds_toArray]
          all_goals try simp only [List.set_cons_succ]
          all_goals try simp only [List.set_cons_zero]
          refine wpAnyH_take (i := 3) (oi := _) (v := ?_) (by simp only [List.getElem?_toArray, List.getElem?_cons_succ, List.getElem?_cons_zero]; rfl) (by kernel_rfl) (by kernel_rfl) (by kernel_rfl) (by exact fun _ _ _ h => h) (Or.inl ⟨by rfl, ?_⟩) (by assumption) ?_
          rotate_left 1
          · (intro w hSw; (try dsimp only at hSw); go_simp; try with_reducible rfl)
          all_goals try simp only [Act.put]
          all_goals try simp only [List.setIfInBounds_toArray]
          all_goals try simp only [List.set_cons_succ]
          all_goals try simp only [List.set_cons_zero]
          refine wpAnyH_take (i := 4) (oi := _) (v := ?_) (by simp only [List.getElem?_toArray, List.getElem?_cons_succ, List.getElem?_cons_zero]; rfl) (by kernel_rfl) (by kernel_rfl) (by kernel_rfl) (by exact fun _ _ _ h => h) (Or.inl ⟨by rfl, ?_⟩) (by assumption) ?_
          rotate_left 1
          · (intro w hSw; (try dsimp only at hSw); go_simp; try with_reducible rfl)
          all_goals try simp only [Act.put]
          all_goals try simp only [List.setIfInBounds_toArray]
          all_goals try simp only [List.set_cons_succ]
          all_goals try simp only [List.set_cons_zero]
          refine wpAnyH_ready (rs := [2]) (by kernel_rfl) (by simp) ?_
          refine (AllReadyH.cons (by simp only [List.getElem?_toArray, List.getElem?_cons_succ, List.getElem?_cons_zero]; rfl) (fun K hK => ?_) AllReadyH.nil)
          -- AtMost: x v the curves, A4 .. c6 their slices, 2 3 the places, T1.out the fact
          rw [if_pos (by rfl)]
          go_simp
          refine (refAtMost_any A4 A6 n4 n6 c4 c6 x.per x.inc v.per v.inc x.vals v.vals _ (by exact (E.out.get 2 rfl).inn.ints) (by exact (E.out.get 3 rfl).inn.ints) (by omega) (by omega)).mono ?_
          intro e wq hr
          obtain ⟨rfl, hb⟩ := RetM.of T1.out hr
          have E := Lib.hid (E.out.below hb)
          clear hr hb hHeld
          clear x0 x1 x2 hlx
          clear y0 y1 y2 hly
          clear u0 u1 u2 hlu
          clear v0 v1 v2 hlv
          obtain ⟨x0, x1, x2, hlx⟩ := (E.out.get 2 rfl).cells
          obtain ⟨y0, y1, y2, hly⟩ := (E.out.get 3 rfl).cells
          obtain ⟨u0, u1, u2, hlu⟩ := (E.out.get 0 rfl).cells
          obtain ⟨v0, v1, v2, hlv⟩ := (E.out.get 4 rfl).cells
          refine hK.out _ _ (by exact ⟨x0, x1, x2, y0, y1, y2, u0, u1, u2, v0, v1, v2⟩) (fun hHeld => ?_)
          clear hK K
          try simp only [Act.put]
          try simp only [List.setIfInBounds_toArray]
          try simp only [List.set_cons_succ]
          try simp only [List.set_cons_zero]
          refine wpAnyH_ready (rs := [5]) (by kernel_rfl) (by simp) ?_
          refine (AllReadyH.cons (by simp only [List.getElem?_toArray, List.getElem?_cons_succ, List.getElem?_cons_zero]; rfl) (fun K hK => ?_) AllReadyH.nil)
          -- AtMost: f y the curves, A .. c5 their slices, 0 4 the places, T2.out the fact
          rw [if_pos (by rfl)]
          go_simp
          refine (refAtMost_any A A5 n n5 c c5 f.per f.inc y.per y.inc f.vals y.vals _ (by exact (E.out.get 0 rfl).inn.ints) (by exact (E.out.get 4 rfl).inn.ints) (by omega) (by omega)).mono ?_
          intro e wq hr
          obtain ⟨rfl, hb⟩ := RetM.of T2.out hr
          have E := Lib.hid (E.out.below hb)
          clear hr hb hHeld
          clear x0 x1 x2 hlx
          clear y0 y1 y2 hly
          clear u0 u1 u2 hlu
          clear v0 v1 v2 hlv
          obtain ⟨x0, x1, x2, hlx⟩ := (E.out.get 2 rfl).cells
          obtain ⟨y0, y1, y2, hly⟩ := (E.out.get 3 rfl).cells
          obtain ⟨u0, u1, u2, hlu⟩ := (E.out.get 0 rfl).cells
          obtain ⟨v0, v1, v2, hlv⟩ := (E.out.get 4 rfl).cells
          refine hK.out _ _ (by exact ⟨x0, x1, x2, y0, y1, y2, u0, u1, u2, v0, v1, v2⟩) (fun hHeld => ?_)
          clear hK K
          try simp only [Act.put]
          try simp only [List.setIfInBounds_toArray]
          try simp only [List.set_cons_succ]
          try simp only [List.set_cons_zero]
          refine wpAnyH_take (i := 6) (oi := _) (v := ?_) (by simp only [List.getElem?_toArray, List.getElem?_cons_succ, List.getElem?_cons_zero]; rfl) (by kernel_rfl) (by kernel_rfl) (by kernel_rfl) (by exact fun _ _ _ h => h) (Or.inl ⟨by rfl, ?_⟩) (by assumption) ?_
          rotate_left 1
          · (intro w hSw; (try dsimp only at hSw); go_simp; try with_reducible rfl)
          all_goals try simp only [Act.put]
          all_goals try simp only [List.setIfInBounds_toArray]
          all_goals try simp only [List.set_cons_succ]
          all_goals try simp only [List.set_cons_zero]
          refine wpAnyH_take (i := 7) (oi := _) (v := ?_) (by simp only [List.getElem?_toArray, List.getElem?_cons_succ, List.getElem?_cons_zero]; rfl) (by kernel_rfl) (by kernel_rfl) (by kernel_rfl) (by exact fun _ _ _ h => h) (Or.inl ⟨by rfl, ?_⟩) (by assumption) ?_
          rotate_left 1
          · (intro w hSw; (try dsimp only at hSw); go_simp; try with_reducible rfl)
          all_goals try simp only [Act.put]
          all_goals try simp only [List.setIfInBounds_toArray]
          all_goals try simp only [List.set_cons_succ]
          all_goals try simp only [List.set_cons_zero]
          refine wpAnyH_ready (rs := [8]) (by kernel_rfl) (by simp) ?_
          refine (AllReadyH.cons (by simp only [List.getElem?_toArray, List.getElem?_cons_succ, List.getElem?_cons_zero]; rfl) (fun K hK => ?_) AllReadyH.nil)
          rw [if_pos (by rfl)]
          go_simp
          refine (awake8_any _).mono ?_
          rintro e wq ⟨rfl, hb⟩
          have E := Lib.hid (E.out.below hb)
          clear hb hHeld
          clear x0 x1 x2 hlx
          clear y0 y1 y2 hly
          clear u0 u1 u2 hlu
          clear v0 v1 v2 hlv
          obtain ⟨x0, x1, x2, hlx⟩ := (E.out.get 2 rfl).cells
          obtain ⟨y0, y1, y2, hly⟩ := (E.out.get 3 rfl).cells
          obtain ⟨u0, u1, u2, hlu⟩ := (E.out.get 0 rfl).cells
          obtain ⟨v0, v1, v2, hlv⟩ := (E.out.get 4 rfl).cells
          refine hK.out _ _ (by exact ⟨x0, x1, x2, y0, y1, y2, u0, u1, u2, v0, v1, v2⟩) (fun hHeld => ?_)
          clear hK K
          try simp only [Act.put]
          try simp only [List.setIfInBounds_toArray]
          try simp only [List.set_cons_succ]
          try simp only [List.set_cons_zero]
          refine wpAnyH_take (i := 9) (oi := _) (v := ?_) (by simp only [List.getElem?_toArray, List.getElem?_cons_succ, List.getElem?_cons_zero]; rfl) (by kernel_rfl) (by kernel_rfl) (by kernel_rfl) (by exact fun _ _ _ h => h) (Or.inl ⟨by rfl, ?_⟩) (by assumption) ?_
          rotate_left 1
          · (intro w hSw; (try dsimp only at hSw); go_simp; try with_reducible rfl)
          all_goals try simp only [Act.put]
          all_goals try simp only [List.setIfInBounds_toArray]
          all_goals try simp only [List.set_cons_succ]
          all_goals try simp only [List.set_cons_zero]
          refine wpAnyH_take (i := 10) (oi := _) (v := ?_) (by simp only [List.getElem?_toArray, List.getElem?_cons_succ, List.getElem?_cons_zero]; rfl) (by kernel_rfl) (by kernel_rfl) (by kernel_rfl) (by exact fun _ _ _ h => h) (Or.inl ⟨by rfl, ?_⟩) (by assumption) ?_
          rotate_left 1
          · (intro w hSw; (try dsimp only at hSw); go_simp; try with_reducible rfl)
          all_goals try simp only [Act.put]
          all_goals try simp only [List.setIfInBounds_toArray]
          all_goals try simp only [List.set_cons_succ]
          all_goals try simp only [List.set_cons_zero]
          refine wpAnyH_done (by kernel_rfl) ?_ _
          have bw := E.out.fin
          go_wp2_with fail
          go_ret
          exact ⟨rfl, bw⟩
      · go_wp2_with fail
        refine (awake8_any _).mono ?_
        rintro e wq ⟨rfl, hb⟩
        have bw := (E.out.below hb).fin
        go_wp2_with fail
        go_ret
        exact ⟨rfl, bw⟩
  · go_wp2_with fail
    refine (awake8_any _).mono ?_
    rintro e wq ⟨rfl, hb⟩
    have bw := (E.out.below hb).fin
    go_wp2_with fail
    go_ret
    exact ⟨rfl, bw⟩
end Go.Proofs.Ytbkimphcmmmaiaa
