/- netcalculusref01's Div and Sub; netcalculusref12: good, Wait. -/
import Derived.Test.YthdibkmjoiipgaaArithC
import Derived.Test.YthdibkmjoiipgaaWait
namespace Go.Proofs.Ythdibkmjoiipgaa
open Go.RowKit
set_option linter.unusedVariables false

theorem rdiv_any (a b c d : Int) (w : World) (h1 : FOk a b) (h2 : FOk c d) (hc : 1 ≤ c) :
    Calls Try.prog 74 #[.agg #[.int .i64 a, .int .i64 b], .agg #[.int .i64 c, .int .i64 d]] w (RetF (fnew (a * d) (b * c)).1 (fnew (a * d) (b * c)).2.1 (fnew (a * d) (b * c)).2.2 w) := by
  have E := Lib.hid ((FE.new w a b c d).alloc (.cells #[.int .i64 0, .int .i64 0] 23))
  have zb := Blk.new ((w.alloc (.cells #[.int .i64 a, .int .i64 b] 23)).alloc (.cells #[.int .i64 c, .int .i64 d] 23)) 23 #[.int .i64 0, .int .i64 0]
  rw [World.size_alloc, World.size_alloc] at zb
  have ZB := Lib.hid zb
  clear zb
  have F1 := Lib.hid (fokB_t h1); have F2 := Lib.hid (fokB_t h2)
  have m1 := mul_bd h1.2.2.1 h1.2.2.2.1 (show -1073741824 ≤ d by have := h2.1; omega) h2.2.1
  have m3 := mul_bd (show -1073741824 ≤ b by have := h1.1; omega) h1.2.1 h2.2.2.1 h2.2.2.2.1
  have m4 : 1 ≤ b * c := by
    have : 1 * 1 ≤ b * c := Int.mul_le_mul h1.1 hc (by omega) (by have := h1.1; omega)
    omega
  obtain ⟨m11, m12⟩ := m1
  obtain ⟨m31, m32⟩ := m3
  have c0 : (c == 0) = false := by simp; omega
  clear h1 h2
  -- netcalculus/netcalculusref01.Div the function, rvalid_any Valid's contract
  go_enter Try.func74, Try.ntmps74
  obtain ⟨f0, f1, f2, f3, hlf⟩ := E.out.cells
  go_wp2_with fail
  refine (rvalid_any a b _).mono ?_
  rw [F1.out]
  rintro e w1 ⟨rfl, hb⟩
  have E := Lib.hid (E.out.below hb)
  try (replace ZB := Lib.hid (ZB.out.below hb ZB.out.lt))
  clear hb
  clear f0 f1 f2 f3 hlf
  obtain ⟨f0, f1, f2, f3, hlf⟩ := E.out.cells
  go_wp2_with fail
  refine (rvalid_any c d _).mono ?_
  rw [F2.out]
  rintro e w1 ⟨rfl, hb⟩
  have E := Lib.hid (E.out.below hb)
  try (replace ZB := Lib.hid (ZB.out.below hb ZB.out.lt))
  clear hb
  clear f0 f1 f2 f3 hlf
  obtain ⟨f0, f1, f2, f3, hlf⟩ := E.out.cells
  go_wp2_with fail
  refine (rnewI_any (a * d) (b * c) _ (by omega) (by omega) m4 (by omega)).mono ?_
  generalize (fnew (a * d) (b * c)).1 = x at *
  generalize (fnew (a * d) (b * c)).2.1 = y at *
  generalize (fnew (a * d) (b * c)).2.2 = er at *
  rintro e w2 ⟨rfl, hb⟩
  have E := Lib.hid (E.out.below hb)
  try (replace ZB := Lib.hid (ZB.out.below hb ZB.out.lt))
  clear hb
  clear f0 f1 f2 f3 hlf
  obtain ⟨f0, f1, f2, f3, hlf⟩ := E.out.cells
  clear m11 m12 m31 m32 m4
  -- netcalculus/netcalculusref01.Div the function, x y er the results
  obtain ⟨z0, z1⟩ : _ ∧ _ := ⟨ZB.out.cell 0, ZB.out.cell 1⟩
  simp at z0 z1
  have v0 := ZB.out.frozen 0; have v1 := ZB.out.frozen 1
  have hlz := ZB.out.lt
  go_wp2_with fail
  have rb := (ZB.out.set_ 0 (.int .i64 x)).set_ 1 (.int .i64 y)
  exact bodyPost_ret (v := .tuple #[.agg #[.int .i64 x, .int .i64 y], .int .i64 er]) (by simp [results, Try.results74, go_sem, rb.cell]) rfl ⟨rfl, ((E.out.bw.setCell (by simp; omega) _).setCell (by simp; omega) _)⟩

theorem fok_neg {c d : Int} : FOk (-c) d ↔ FOk c d := by
  unfold FOk
  rw [Int.natAbs_neg]
  constructor <;> rintro ⟨h1, h2, h3, h4, h5⟩ <;> exact ⟨h1, h2, by omega, by omega, h5⟩
theorem fsub_add (a b c d : Int) : fadd a b (-c) d = fsub a b c d := by
  unfold fadd fsub
  by_cases h : FOk a b ∧ FOk c d
  · rw [if_pos h, if_pos ⟨h.1, fok_neg.2 h.2⟩, Int.neg_mul, ← Int.sub_eq_add_neg]
  · rw [if_neg h, if_neg (fun k => h ⟨k.1, fok_neg.1 k.2⟩)]
theorem rsub1_any (a b : Int) (w : World) :
    Calls Try.prog 75 #[.agg #[.int .i64 a, .int .i64 b], .agg #[.int .i64 1, .int .i64 1]] w (RetF (fsub a b 1 1).1 (fsub a b 1 1).2.1 (fsub a b 1 1).2.2 w) := by
  have E := Lib.hid ((FE.new w a b 1 1).alloc (.cells #[.int .i64 0, .int .i64 0] 23))
  have zb := Blk.new ((w.alloc (.cells #[.int .i64 a, .int .i64 b] 23)).alloc (.cells #[.int .i64 1, .int .i64 1] 23)) 23 #[.int .i64 0, .int .i64 0]
  rw [World.size_alloc, World.size_alloc] at zb
  have ZB := Lib.hid zb
  clear zb
  rw [← fsub_add]
  generalize hx : fadd a b (-1) 1 = q
  obtain ⟨x, y, er⟩ := q
  have HX := Lib.hid hx
  clear hx
  go_enter Try.func75, Try.ntmps75
  obtain ⟨f0, f1, f2, f3, hlf⟩ := E.out.cells
  go_wp2_with fail
  refine (radd_any a b (-1) 1 _).mono ?_
  rw [HX.out]
  rintro e w2 ⟨rfl, hb⟩
  replace E := Lib.hid (E.out.below hb)
  replace ZB := Lib.hid (ZB.out.below hb ZB.out.lt)
  clear hb
  clear f0 f1 f2 f3 hlf
  obtain ⟨v0, v1⟩ : _ ∧ _ := ⟨ZB.out.cell 0, ZB.out.cell 1⟩
  simp at v0 v1
  have u0 := ZB.out.frozen 0; have u1 := ZB.out.frozen 1
  have hlz := ZB.out.lt
  go_wp2_with fail
  have rb := (ZB.out.set_ 0 (.int .i64 x)).set_ 1 (.int .i64 y)
  exact bodyPost_ret (v := .tuple #[.agg #[.int .i64 x, .int .i64 y], .int .i64 er]) (by simp [results, Try.results75, go_sem, rb.cell]) rfl ⟨rfl, ((E.out.bw.setCell (by simp; omega) _).setCell (by simp; omega) _)⟩
theorem gok_split (n d : Int) : gokB n d = (fokB n d && decide (0 ≤ n)) := by
  unfold gokB fokB GOk
  by_cases h1 : FOk n d <;> by_cases h2 : 0 ≤ n <;> simp [h1, h2]
theorem good12_any (a b c d : Int) (w : World) :
    Calls Try.prog 68 #[.agg #[.int .i64 a, .int .i64 b], .agg #[.int .i64 c, .int .i64 d]] w fun e w' => e = .returned (.bool (gokB a b && gokB c d)) ∧ Below w.heap.size w w' := by
  have E := Lib.hid (FE.new w a b c d)
  rw [gok_split, gok_split]
  obtain ⟨z1, hz1⟩ : ∃ z, z = fokB a b := ⟨_, rfl⟩
  obtain ⟨z2, hz2⟩ : ∃ z, z = fokB c d := ⟨_, rfl⟩
  obtain ⟨y1, hy1⟩ : ∃ z, z = decide (0 ≤ a) := ⟨_, rfl⟩
  obtain ⟨y2, hy2⟩ : ∃ z, z = decide (0 ≤ c) := ⟨_, rfl⟩
  have HZ1 := Lib.hid hz1; have HZ2 := Lib.hid hz2
  rw [← hz1, ← hz2, ← hy1, ← hy2]
  have e1 := hy1.symm; have e2 := hy2.symm
  have e3 : decide (a ≥ 0) = y1 := e1
  have e4 : decide (c ≥ 0) = y2 := e2
  clear hz1 hz2 hy1 hy2
  go_enter Try.func68, Try.ntmps68
  obtain ⟨f0, f1, f2, f3, hlf⟩ := E.out.cells
  go_wp2_with fail
  refine (rvalid_any a b _).mono ?_
  rw [← HZ1.out]
  rintro e w1 ⟨rfl, hb⟩
  replace E := Lib.hid (E.out.below hb)
  clear hb f0 f1 f2 f3 hlf
  obtain ⟨f0, f1, f2, f3, hlf⟩ := E.out.cells
  cases z1
  case false =>
    have bw := E.out.bw
    go_wp2_with fail
    go_ret
    exact ⟨rfl, bw⟩
  case true =>
  cases y1
  case false =>
    have bw := E.out.bw
    go_wp2_with fail
    go_ret
    exact ⟨rfl, bw⟩
  case true =>
  go_wp2_with fail
  refine (rvalid_any c d _).mono ?_
  rw [← HZ2.out]
  rintro e w2 ⟨rfl, hb⟩
  replace E := Lib.hid (E.out.below hb)
  clear hb f0 f1 f2 f3 hlf
  obtain ⟨f0, f1, f2, f3, hlf⟩ := E.out.cells
  have bw := E.out.bw
  cases z2
  case false =>
    go_wp2_with fail
    go_ret
    exact ⟨rfl, bw⟩
  case true =>
    go_wp2_with fail
    go_ret
    exact ⟨by simp, bw⟩
set_option maxHeartbeats 1000000 in
theorem rwait_any (B b R r P p L l : Int) (w : World) (hB : GOk B b) (hR : GOk R r) (hP : GOk P p) (hL : GOk L l) :
    Calls Try.prog 20 #[.agg #[.int .i64 B, .int .i64 b, .int .i64 R, .int .i64 r], .agg #[.int .i64 P, .int .i64 p, .int .i64 L, .int .i64 l]] w (RetF (wtG B b R r P p L l).1 (wtG B b R r P p L l).2.1 (wtG B b R r P p L l).2.2 w) := by
  have E := Lib.hid (WE.new w B b R r P p L l)
  have F1 := Lib.hid (gokB_t hB); have F2 := Lib.hid (gokB_t hR); have F3 := Lib.hid (gokB_t hP); have F4 := Lib.hid (gokB_t hL)
  have F := Lib.hid (rfl : wtG B b R r P p L l = wtG B b R r P p L l)
  generalize hwt : wtG B b R r P p L l = V at F ⊢
  clear F
  unfold wtG at hwt
  go_enter Try.func20, Try.ntmps20
  obtain ⟨⟨f0, f1, f2, f3⟩, ⟨g0, g1, g2, g3⟩, hlf⟩ := E.out.cells
  go_wp2_with fail
  refine (good12_any B b R r _).mono ?_
  rw [F1.out, F2.out]
  rintro e w1 ⟨rfl, hb⟩
  replace E := Lib.hid (E.out.below hb)
  clear hb
  clear f0 f1 f2 f3 g0 g1 g2 g3 hlf
  obtain ⟨⟨f0, f1, f2, f3⟩, ⟨g0, g1, g2, g3⟩, hlf⟩ := E.out.cells
  go_wp2_with fail
  refine (good12_any P p L l _).mono ?_
  rw [F3.out, F4.out]
  rintro e w1 ⟨rfl, hb⟩
  replace E := Lib.hid (E.out.below hb)
  clear hb
  clear f0 f1 f2 f3 g0 g1 g2 g3 hlf
  obtain ⟨⟨f0, f1, f2, f3⟩, ⟨g0, g1, g2, g3⟩, hlf⟩ := E.out.cells
  clear F1 F2 F3 F4
  go_wp2_with fail
  refine (rcmp_any R r P p _ hR.1 hP.1).mono ?_
  generalize fcmp R r P p = cm at *
  rintro e w1 ⟨rfl, hb⟩
  replace E := Lib.hid (E.out.below hb)
  clear hb
  clear f0 f1 f2 f3 g0 g1 g2 g3 hlf
  obtain ⟨⟨f0, f1, f2, f3⟩, ⟨g0, g1, g2, g3⟩, hlf⟩ := E.out.cells
  by_cases hcm : 0 < cm
  · rw [if_pos (.inl hcm)] at hwt
    subst hwt
    -- 0 0 5 the results
    obtain ⟨z0, z1⟩ : _ ∧ _ := ⟨E.out.z.cell 0, E.out.z.cell 1⟩
    simp at z0 z1
    have v0 := E.out.z.frozen 0; have v1 := E.out.z.frozen 1
    go_wp2_with fail
    have rb := (E.out.z.set_ 0 (.int .i64 0)).set_ 1 (.int .i64 0)
    exact bodyPost_ret (v := .tuple #[.agg #[.int .i64 0, .int .i64 0], .int .i64 5]) (by simp [results, Try.results20, go_sem, rb.cell]) rfl (by first | exact ⟨rfl, (E.out.bw.setCell (by simp; omega) _).setCell (by simp; omega) _⟩ | exact ⟨by rw [F.out], (E.out.bw.setCell (by simp; omega) _).setCell (by simp; omega) _⟩)
  · by_cases h0 : P = 0
    · have d0 : (P == 0) = true := by simpa using h0
      rw [if_pos (.inr h0)] at hwt
      subst hwt
      clear h0
      -- 0 0 5 the results
      obtain ⟨z0, z1⟩ : _ ∧ _ := ⟨E.out.z.cell 0, E.out.z.cell 1⟩
      simp at z0 z1
      have v0 := E.out.z.frozen 0; have v1 := E.out.z.frozen 1
      go_wp2_with fail
      have rb := (E.out.z.set_ 0 (.int .i64 0)).set_ 1 (.int .i64 0)
      exact bodyPost_ret (v := .tuple #[.agg #[.int .i64 0, .int .i64 0], .int .i64 5]) (by simp [results, Try.results20, go_sem, rb.cell]) rfl (by first | exact ⟨rfl, (E.out.bw.setCell (by simp; omega) _).setCell (by simp; omega) _⟩ | exact ⟨by rw [F.out], (E.out.bw.setCell (by simp; omega) _).setCell (by simp; omega) _⟩)
    · have d0 : (P == 0) = false := by simpa using h0
      rw [if_neg (by omega)] at hwt
      have hP1 : 1 ≤ P := by have := hP.2; omega
      go_wp2_with fail
      refine (rdiv_any B b P p _ hB.1 hP.1 hP1).mono ?_
      clear h0 d0
      generalize fnew (B * p) (b * P) = q1 at *
      obtain ⟨a1, b1, e1⟩ := q1
      rintro e wq ⟨rfl, hb⟩
      have hQ := (E.out.below hb).z.lt
      replace E := Lib.hid ((E.out.below hb).alloc (.cells #[.int .i64 a1, .int .i64 b1] 23))
      have XB := Lib.hid (Blk.new wq 23 #[.int .i64 a1, .int .i64 b1])
      clear hb
      have hPX : w.heap.size + 2 < wq.heap.size := hQ
      clear f0 f1 f2 f3 g0 g1 g2 g3 hlf
      go_upto_region 6 with fail
      generalize hwe : wq.alloc (.cells #[.int .i64 a1, .int .i64 b1] 23) = wf at *
      clear hwe
      generalize wq.heap.size = PX at *
      obtain ⟨⟨f0, f1, f2, f3⟩, ⟨g0, g1, g2, g3⟩, hlf⟩ := E.out.cells
      -- the variable x's cells
      obtain ⟨x0, x1⟩ : _ ∧ _ := ⟨XB.out.cell 0, XB.out.cell 1⟩
      simp at x0 x1
      have u0 := XB.out.frozen 0; have u1 := XB.out.frozen 1
      have hlx := XB.out.lt
      by_cases he1 : e1 = 0
      · subst he1
        rw [if_neg (by simp)] at hwt
        try dsimp only at hwt
        go_wp2_with fail
        refine (radd_any a1 b1 L l _).mono ?_
        generalize fadd a1 b1 L l = q2 at *
        obtain ⟨a2, b2, e2⟩ := q2
        rintro e wq ⟨rfl, hb⟩
        try dsimp only at hwt
        replace E := Lib.hid (E.out.below hb)
        replace XB := Lib.hid (XB.out.below hb XB.out.lt)
        clear hb
        clear f0 f1 f2 f3 g0 g1 g2 g3 hlf
        obtain ⟨⟨f0, f1, f2, f3⟩, ⟨g0, g1, g2, g3⟩, hlf⟩ := E.out.cells
        clear x0 x1 u0 u1 hlx
        -- the variable x's cells
        obtain ⟨x0, x1⟩ : _ ∧ _ := ⟨XB.out.cell 0, XB.out.cell 1⟩
        simp at x0 x1
        have u0 := XB.out.frozen 0; have u1 := XB.out.frozen 1
        have hlx := XB.out.lt
        go_upto_region 8 with fail
        -- the variable x gets a2 / b2
        replace E := Lib.hid (E.out.far2 hPX (.int .i64 a2) (.int .i64 b2))
        replace XB := Lib.hid ((XB.out.set_ 0 (.int .i64 a2)).set_ 1 (.int .i64 b2))
        generalize hwe : (wq.setCell ⟨PX, 0, none⟩ (.int .i64 a2)).setCell ⟨PX, 1, none⟩ (.int .i64 b2) = wg at *
        clear hwe
        clear f0 f1 f2 f3 g0 g1 g2 g3 hlf
        clear x0 x1 u0 u1 hlx
        obtain ⟨⟨f0, f1, f2, f3⟩, ⟨g0, g1, g2, g3⟩, hlf⟩ := E.out.cells
        -- the variable x's cells
        obtain ⟨x0, x1⟩ : _ ∧ _ := ⟨XB.out.cell 0, XB.out.cell 1⟩
        simp at x0 x1
        have u0 := XB.out.frozen 0; have u1 := XB.out.frozen 1
        have hlx := XB.out.lt
        by_cases he2 : e2 = 0
        · subst he2
          rw [if_neg (by simp)] at hwt
          go_wp2_with fail
          refine (rsub1_any a2 b2 _).mono ?_
          generalize fsub a2 b2 1 1 = q3 at *
          obtain ⟨a3, b3, e3⟩ := q3
          rintro e wq ⟨rfl, hb⟩
          try dsimp only at hwt
          replace E := Lib.hid (E.out.below hb)
          replace XB := Lib.hid (XB.out.below hb XB.out.lt)
          clear hb
          clear f0 f1 f2 f3 g0 g1 g2 g3 hlf
          obtain ⟨⟨f0, f1, f2, f3⟩, ⟨g0, g1, g2, g3⟩, hlf⟩ := E.out.cells
          clear x0 x1 u0 u1 hlx
          -- the variable x's cells
          obtain ⟨x0, x1⟩ : _ ∧ _ := ⟨XB.out.cell 0, XB.out.cell 1⟩
          simp at x0 x1
          have u0 := XB.out.frozen 0; have u1 := XB.out.frozen 1
          have hlx := XB.out.lt
          go_upto_region 10 with fail
          -- the variable x gets a3 / b3
          replace E := Lib.hid (E.out.far2 hPX (.int .i64 a3) (.int .i64 b3))
          replace XB := Lib.hid ((XB.out.set_ 0 (.int .i64 a3)).set_ 1 (.int .i64 b3))
          generalize hwe : (wq.setCell ⟨PX, 0, none⟩ (.int .i64 a3)).setCell ⟨PX, 1, none⟩ (.int .i64 b3) = wg at *
          clear hwe
          clear f0 f1 f2 f3 g0 g1 g2 g3 hlf
          clear x0 x1 u0 u1 hlx
          obtain ⟨⟨f0, f1, f2, f3⟩, ⟨g0, g1, g2, g3⟩, hlf⟩ := E.out.cells
          -- the variable x's cells
          obtain ⟨x0, x1⟩ : _ ∧ _ := ⟨XB.out.cell 0, XB.out.cell 1⟩
          simp at x0 x1
          have u0 := XB.out.frozen 0; have u1 := XB.out.frozen 1
          have hlx := XB.out.lt
          by_cases he3 : e3 = 0
          · subst he3
            rw [if_neg (by simp)] at hwt
            by_cases ha : a3 < 0
            · rw [if_pos ha] at hwt
              subst hwt
              -- 0 1 0 the results
              obtain ⟨z0, z1⟩ : _ ∧ _ := ⟨E.out.z.cell 0, E.out.z.cell 1⟩
              simp at z0 z1
              have v0 := E.out.z.frozen 0; have v1 := E.out.z.frozen 1
              go_wp2_with fail
              have rb := (E.out.z.set_ 0 (.int .i64 0)).set_ 1 (.int .i64 1)
              exact bodyPost_ret (v := .tuple #[.agg #[.int .i64 0, .int .i64 1], .int .i64 0]) (by simp [results, Try.results20, go_sem, rb.cell]) rfl (by first | exact ⟨rfl, (E.out.bw.setCell (by simp; omega) _).setCell (by simp; omega) _⟩ | exact ⟨by rw [F.out], (E.out.bw.setCell (by simp; omega) _).setCell (by simp; omega) _⟩)
            · rw [if_neg ha] at hwt
              subst hwt
              -- a3 b3 0 the results
              obtain ⟨z0, z1⟩ : _ ∧ _ := ⟨E.out.z.cell 0, E.out.z.cell 1⟩
              simp at z0 z1
              have v0 := E.out.z.frozen 0; have v1 := E.out.z.frozen 1
              go_wp2_with fail
              have rb := (E.out.z.set_ 0 (.int .i64 a3)).set_ 1 (.int .i64 b3)
              exact bodyPost_ret (v := .tuple #[.agg #[.int .i64 a3, .int .i64 b3], .int .i64 0]) (by simp [results, Try.results20, go_sem, rb.cell]) rfl (by first | exact ⟨rfl, (E.out.bw.setCell (by simp; omega) _).setCell (by simp; omega) _⟩ | exact ⟨by rw [F.out], (E.out.bw.setCell (by simp; omega) _).setCell (by simp; omega) _⟩)
          · rw [if_pos he3] at hwt
            subst hwt
            have d3 : (e3 == 0) = false := by simpa using he3
            have d4 : (e3 != 0) = true := by simpa using he3
            -- 0 0 e3 the results
            obtain ⟨z0, z1⟩ : _ ∧ _ := ⟨E.out.z.cell 0, E.out.z.cell 1⟩
            simp at z0 z1
            have v0 := E.out.z.frozen 0; have v1 := E.out.z.frozen 1
            go_wp2_with fail
            have rb := (E.out.z.set_ 0 (.int .i64 0)).set_ 1 (.int .i64 0)
            exact bodyPost_ret (v := .tuple #[.agg #[.int .i64 0, .int .i64 0], .int .i64 e3]) (by simp [results, Try.results20, go_sem, rb.cell]) rfl (by first | exact ⟨rfl, (E.out.bw.setCell (by simp; omega) _).setCell (by simp; omega) _⟩ | exact ⟨by rw [F.out], (E.out.bw.setCell (by simp; omega) _).setCell (by simp; omega) _⟩)
        · rw [if_pos he2] at hwt
          subst hwt
          have d3 : (e2 == 0) = false := by simpa using he2
          have d4 : (e2 != 0) = true := by simpa using he2
          -- 0 0 e2 the results
          obtain ⟨z0, z1⟩ : _ ∧ _ := ⟨E.out.z.cell 0, E.out.z.cell 1⟩
          simp at z0 z1
          have v0 := E.out.z.frozen 0; have v1 := E.out.z.frozen 1
          go_wp2_with fail
          have rb := (E.out.z.set_ 0 (.int .i64 0)).set_ 1 (.int .i64 0)
          exact bodyPost_ret (v := .tuple #[.agg #[.int .i64 0, .int .i64 0], .int .i64 e2]) (by simp [results, Try.results20, go_sem, rb.cell]) rfl (by first | exact ⟨rfl, (E.out.bw.setCell (by simp; omega) _).setCell (by simp; omega) _⟩ | exact ⟨by rw [F.out], (E.out.bw.setCell (by simp; omega) _).setCell (by simp; omega) _⟩)
      · rw [if_pos he1] at hwt
        subst hwt
        have d3 : (e1 == 0) = false := by simpa using he1
        have d4 : (e1 != 0) = true := by simpa using he1
        -- 0 0 e1 the results
        obtain ⟨z0, z1⟩ : _ ∧ _ := ⟨E.out.z.cell 0, E.out.z.cell 1⟩
        simp at z0 z1
        have v0 := E.out.z.frozen 0; have v1 := E.out.z.frozen 1
        go_wp2_with fail
        have rb := (E.out.z.set_ 0 (.int .i64 0)).set_ 1 (.int .i64 0)
        exact bodyPost_ret (v := .tuple #[.agg #[.int .i64 0, .int .i64 0], .int .i64 e1]) (by simp [results, Try.results20, go_sem, rb.cell]) rfl (by first | exact ⟨rfl, (E.out.bw.setCell (by simp; omega) _).setCell (by simp; omega) _⟩ | exact ⟨by rw [F.out], (E.out.bw.setCell (by simp; omega) _).setCell (by simp; omega) _⟩)
end Go.Proofs.Ythdibkmjoiipgaa
