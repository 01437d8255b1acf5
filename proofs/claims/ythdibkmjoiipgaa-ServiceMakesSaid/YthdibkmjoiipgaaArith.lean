/- Compare, Add, Sub and Div of package fraction and of the reference. -/
import Derived.Test.YthdibkmjoiipgaaRefFr
import Derived.Deep.DeepCutAuto
namespace Go.Proofs.Ythdibkmjoiipgaa
open Go.RowKit
set_option linter.unusedVariables false

def fcmp (a b c d : Int) : Int := if FOk a b ∧ FOk c d then (if a * d < c * b then -1 else if c * b < a * d then 1 else 0) else 0
def fadd (a b c d : Int) : Int × Int × Int := if FOk a b ∧ FOk c d then fnew (a * d + c * b) (b * d) else (0, 0, 2)
def fsub (a b c d : Int) : Int × Int × Int := if FOk a b ∧ FOk c d then fnew (a * d - c * b) (b * d) else (0, 0, 2)
theorem mul_bd {x y M N : Int} (h1 : -M ≤ x) (h2 : x ≤ M) (h3 : -N ≤ y) (h4 : y ≤ N) : -(M * N) ≤ x * y ∧ x * y ≤ M * N := by
  have hM : 0 ≤ M := by omega
  have hN : 0 ≤ N := by omega
  have h : (x * y).natAbs ≤ (M * N).natAbs := by
    rw [Int.natAbs_mul, Int.natAbs_mul]
    exact Nat.mul_le_mul (by omega) (by omega)
  have : 0 ≤ M * N := Int.mul_nonneg hM hN
  omega
/-- two fractions in the first blocks of a call -/
structure FE (w wx : World) (a b c d : Int) : Prop where
  x : Blk wx w.heap.size 23 #[.int .i64 a, .int .i64 b]
  y : Blk wx (w.heap.size + 1) 23 #[.int .i64 c, .int .i64 d]
  bw : Below w.heap.size w wx
section
variable {w wx wy : World} {a b c d : Int}
theorem FE.new (w : World) (a b c d : Int) : FE w ((w.alloc (.cells #[.int .i64 a, .int .i64 b] 23)).alloc (.cells #[.int .i64 c, .int .i64 d] 23)) a b c d :=
  ⟨(Blk.new _ _ _).alloc _, by
    have := Blk.new (w.alloc (.cells #[.int .i64 a, .int .i64 b] 23)) 23 #[.int .i64 c, .int .i64 d]
    rw [World.size_alloc] at this; exact this, bthen (balloc _ _) (balloc _ _)⟩
theorem FE.below (h : FE w wx a b c d) (hb : Below wx.heap.size wx wy) : FE w wy a b c d := ⟨h.x.below hb h.x.lt, h.y.below hb h.y.lt, bthen h.bw hb⟩
theorem FE.alloc (h : FE w wx a b c d) (o : Obj) : FE w (wx.alloc o) a b c d := h.below (balloc _ o)
theorem FE.cells (h : FE w wx a b c d) : wx.cell? ⟨w.heap.size, 0, none⟩ = some (.int .i64 a) ∧ wx.cell? ⟨w.heap.size, 1, none⟩ = some (.int .i64 b) ∧ wx.cell? ⟨w.heap.size + 1, 0, none⟩ = some (.int .i64 c) ∧ wx.cell? ⟨w.heap.size + 1, 1, none⟩ = some (.int .i64 d) ∧ w.heap.size + 1 < wx.heap.size := by
  have q0 := h.x.cell 0; have q1 := h.x.cell 1; have q2 := h.y.cell 0; have q3 := h.y.cell 1
  simp at q0 q1 q2 q3
  exact ⟨q0, q1, q2, q3, h.y.lt⟩
end
-- fadd_any the name, netcalculus/fraction.Add the function, fvalid_any Valid's contract, fnewI_any New's contract, a * d + c * b numerator, fadd fadd | fsub
theorem fadd_any (a b c d : Int) (w : World) :
    Calls Try.prog 67 #[.agg #[.int .i64 a, .int .i64 b], .agg #[.int .i64 c, .int .i64 d]] w (RetF (fadd a b c d).1 (fadd a b c d).2.1 (fadd a b c d).2.2 w) := by
  have E := Lib.hid ((FE.new w a b c d).alloc (.cells #[.int .i64 0, .int .i64 0] 23))
  have zb := Blk.new ((w.alloc (.cells #[.int .i64 a, .int .i64 b] 23)).alloc (.cells #[.int .i64 c, .int .i64 d] 23)) 23 #[.int .i64 0, .int .i64 0]
  rw [World.size_alloc, World.size_alloc] at zb
  have ZB := Lib.hid zb
  clear zb
  by_cases h1 : FOk a b
  · by_cases h2 : FOk c d
    · rw [show fadd a b c d = fnew (a * d + c * b) (b * d) from if_pos ⟨h1, h2⟩]
      have F1 := Lib.hid (fokB_t h1); have F2 := Lib.hid (fokB_t h2)
      have m1 := mul_bd h1.2.2.1 h1.2.2.2.1 (show -1073741824 ≤ d by have := h2.1; omega) h2.2.1
      have m2 := mul_bd h2.2.2.1 h2.2.2.2.1 (show -1073741824 ≤ b by have := h1.1; omega) h1.2.1
      have m3 := mul_bd (show -1073741824 ≤ b by have := h1.1; omega) h1.2.1 (show -1073741824 ≤ d by have := h2.1; omega) h2.2.1
      have m4 : 1 ≤ b * d := by
        have : 1 * 1 ≤ b * d := Int.mul_le_mul h1.1 h2.1 (by omega) (by have := h1.1; omega)
        omega
      obtain ⟨m11, m12⟩ := m1
      obtain ⟨m21, m22⟩ := m2
      obtain ⟨m31, m32⟩ := m3
      clear h1 h2
      go_enter Try.func67, Try.ntmps67
      obtain ⟨f0, f1, f2, f3, hlf⟩ := E.out.cells
      go_wp2_with fail
      refine (fvalid_any a b _).mono ?_
      rw [F1.out]
      rintro e w1 ⟨rfl, hb⟩
      have E := Lib.hid (E.out.below hb)
      try (replace ZB := Lib.hid (ZB.out.below hb ZB.out.lt))
      clear hb
      clear f0 f1 f2 f3 hlf
      obtain ⟨f0, f1, f2, f3, hlf⟩ := E.out.cells
      go_wp2_with fail
      refine (fvalid_any c d _).mono ?_
      rw [F2.out]
      rintro e w1 ⟨rfl, hb⟩
      have E := Lib.hid (E.out.below hb)
      try (replace ZB := Lib.hid (ZB.out.below hb ZB.out.lt))
      clear hb
      clear f0 f1 f2 f3 hlf
      obtain ⟨f0, f1, f2, f3, hlf⟩ := E.out.cells
      go_wp2_with fail
      refine (fnewI_any (a * d + c * b) (b * d) _ (by omega) (by omega) m4 (by omega)).mono ?_
      generalize (fnew (a * d + c * b) (b * d)).1 = x at *
      generalize (fnew (a * d + c * b) (b * d)).2.1 = y at *
      generalize (fnew (a * d + c * b) (b * d)).2.2 = er at *
      rintro e w2 ⟨rfl, hb⟩
      have E := Lib.hid (E.out.below hb)
      try (replace ZB := Lib.hid (ZB.out.below hb ZB.out.lt))
      clear hb
      clear f0 f1 f2 f3 hlf
      obtain ⟨f0, f1, f2, f3, hlf⟩ := E.out.cells
      clear m11 m12 m21 m22 m31 m32 m4
      -- netcalculus/fraction.Add the function, x y er the results
      obtain ⟨z0, z1⟩ : _ ∧ _ := ⟨ZB.out.cell 0, ZB.out.cell 1⟩
      simp at z0 z1
      have v0 := ZB.out.frozen 0; have v1 := ZB.out.frozen 1
      have hlz := ZB.out.lt
      go_wp2_with fail
      have rb := (ZB.out.set_ 0 (.int .i64 x)).set_ 1 (.int .i64 y)
      exact bodyPost_ret (v := .tuple #[.agg #[.int .i64 x, .int .i64 y], .int .i64 er]) (by simp [results, Try.results67, go_sem, rb.cell]) rfl ⟨rfl, ((E.out.bw.setCell (by simp; omega) _).setCell (by simp; omega) _)⟩
    · rw [show fadd a b c d = (0, 0, 2) from if_neg (fun h => h2 h.2)]
      have F1 := Lib.hid (fokB_t h1); have F2 := Lib.hid (fokB_f h2)
      clear h1 h2
      go_enter Try.func67, Try.ntmps67
      obtain ⟨f0, f1, f2, f3, hlf⟩ := E.out.cells
      go_wp2_with fail
      refine (fvalid_any a b _).mono ?_
      rw [F1.out]
      rintro e w1 ⟨rfl, hb⟩
      have E := Lib.hid (E.out.below hb)
      try (replace ZB := Lib.hid (ZB.out.below hb ZB.out.lt))
      clear hb
      clear f0 f1 f2 f3 hlf
      obtain ⟨f0, f1, f2, f3, hlf⟩ := E.out.cells
      go_wp2_with fail
      refine (fvalid_any c d _).mono ?_
      rw [F2.out]
      rintro e w1 ⟨rfl, hb⟩
      have E := Lib.hid (E.out.below hb)
      try (replace ZB := Lib.hid (ZB.out.below hb ZB.out.lt))
      clear hb
      clear f0 f1 f2 f3 hlf
      obtain ⟨f0, f1, f2, f3, hlf⟩ := E.out.cells
      -- netcalculus/fraction.Add the function, 0 0 2 the results
      obtain ⟨z0, z1⟩ : _ ∧ _ := ⟨ZB.out.cell 0, ZB.out.cell 1⟩
      simp at z0 z1
      have v0 := ZB.out.frozen 0; have v1 := ZB.out.frozen 1
      have hlz := ZB.out.lt
      go_wp2_with fail
      have rb := (ZB.out.set_ 0 (.int .i64 0)).set_ 1 (.int .i64 0)
      exact bodyPost_ret (v := .tuple #[.agg #[.int .i64 0, .int .i64 0], .int .i64 2]) (by simp [results, Try.results67, go_sem, rb.cell]) rfl ⟨rfl, ((E.out.bw.setCell (by simp; omega) _).setCell (by simp; omega) _)⟩
  · rw [show fadd a b c d = (0, 0, 2) from if_neg (fun h => h1 h.1)]
    have F1 := Lib.hid (fokB_f h1)
    clear h1
    go_enter Try.func67, Try.ntmps67
    obtain ⟨f0, f1, f2, f3, hlf⟩ := E.out.cells
    go_wp2_with fail
    refine (fvalid_any a b _).mono ?_
    rw [F1.out]
    rintro e w1 ⟨rfl, hb⟩
    have E := Lib.hid (E.out.below hb)
    try (replace ZB := Lib.hid (ZB.out.below hb ZB.out.lt))
    clear hb
    clear f0 f1 f2 f3 hlf
    obtain ⟨f0, f1, f2, f3, hlf⟩ := E.out.cells
    -- netcalculus/fraction.Add the function, 0 0 2 the results
    obtain ⟨z0, z1⟩ : _ ∧ _ := ⟨ZB.out.cell 0, ZB.out.cell 1⟩
    simp at z0 z1
    have v0 := ZB.out.frozen 0; have v1 := ZB.out.frozen 1
    have hlz := ZB.out.lt
    go_wp2_with fail
    have rb := (ZB.out.set_ 0 (.int .i64 0)).set_ 1 (.int .i64 0)
    exact bodyPost_ret (v := .tuple #[.agg #[.int .i64 0, .int .i64 0], .int .i64 2]) (by simp [results, Try.results67, go_sem, rb.cell]) rfl ⟨rfl, ((E.out.bw.setCell (by simp; omega) _).setCell (by simp; omega) _)⟩
-- radd_any the name, netcalculus/netcalculusref01.Add the function, rvalid_any Valid's contract, rnewI_any New's contract, a * d + c * b numerator, fadd fadd | fsub
theorem radd_any (a b c d : Int) (w : World) :
    Calls Try.prog 70 #[.agg #[.int .i64 a, .int .i64 b], .agg #[.int .i64 c, .int .i64 d]] w (RetF (fadd a b c d).1 (fadd a b c d).2.1 (fadd a b c d).2.2 w) := by
  have E := Lib.hid ((FE.new w a b c d).alloc (.cells #[.int .i64 0, .int .i64 0] 23))
  have zb := Blk.new ((w.alloc (.cells #[.int .i64 a, .int .i64 b] 23)).alloc (.cells #[.int .i64 c, .int .i64 d] 23)) 23 #[.int .i64 0, .int .i64 0]
  rw [World.size_alloc, World.size_alloc] at zb
  have ZB := Lib.hid zb
  clear zb
  by_cases h1 : FOk a b
  · by_cases h2 : FOk c d
    · rw [show fadd a b c d = fnew (a * d + c * b) (b * d) from if_pos ⟨h1, h2⟩]
      have F1 := Lib.hid (fokB_t h1); have F2 := Lib.hid (fokB_t h2)
      have m1 := mul_bd h1.2.2.1 h1.2.2.2.1 (show -1073741824 ≤ d by have := h2.1; omega) h2.2.1
      have m2 := mul_bd h2.2.2.1 h2.2.2.2.1 (show -1073741824 ≤ b by have := h1.1; omega) h1.2.1
      have m3 := mul_bd (show -1073741824 ≤ b by have := h1.1; omega) h1.2.1 (show -1073741824 ≤ d by have := h2.1; omega) h2.2.1
      have m4 : 1 ≤ b * d := by
        have : 1 * 1 ≤ b * d := Int.mul_le_mul h1.1 h2.1 (by omega) (by have := h1.1; omega)
        omega
      obtain ⟨m11, m12⟩ := m1
      obtain ⟨m21, m22⟩ := m2
      obtain ⟨m31, m32⟩ := m3
      clear h1 h2
      go_enter Try.func70, Try.ntmps70
      obtain ⟨f0, f1, f2, f3, hlf⟩ := E.out.cells
      go_wp2_with fail
      refine (rvalid_any a b _).mono ?_
      rw [F1.out]
      rintro e w1 ⟨rfl, hb⟩
      have E := Lib.hid (E.out.below hb)
      try (replace ZB := Lib.hid (ZB.out.below hb ZB.out.lt))
      clear hb
      clear f0 f1 f2 f3 hlf
      obtain ⟨f0, f1, f2, f3, hlf⟩ := E.out.cells
      go_wp2_with fail
      refine (rvalid_any c d _).mono ?_
      rw [F2.out]
      rintro e w1 ⟨rfl, hb⟩
      have E := Lib.hid (E.out.below hb)
      try (replace ZB := Lib.hid (ZB.out.below hb ZB.out.lt))
      clear hb
      clear f0 f1 f2 f3 hlf
      obtain ⟨f0, f1, f2, f3, hlf⟩ := E.out.cells
      go_wp2_with fail
      refine (rnewI_any (a * d + c * b) (b * d) _ (by omega) (by omega) m4 (by omega)).mono ?_
      generalize (fnew (a * d + c * b) (b * d)).1 = x at *
      generalize (fnew (a * d + c * b) (b * d)).2.1 = y at *
      generalize (fnew (a * d + c * b) (b * d)).2.2 = er at *
      rintro e w2 ⟨rfl, hb⟩
      have E := Lib.hid (E.out.below hb)
      try (replace ZB := Lib.hid (ZB.out.below hb ZB.out.lt))
      clear hb
      clear f0 f1 f2 f3 hlf
      obtain ⟨f0, f1, f2, f3, hlf⟩ := E.out.cells
      clear m11 m12 m21 m22 m31 m32 m4
      -- netcalculus/netcalculusref01.Add the function, x y er the results
      obtain ⟨z0, z1⟩ : _ ∧ _ := ⟨ZB.out.cell 0, ZB.out.cell 1⟩
      simp at z0 z1
      have v0 := ZB.out.frozen 0; have v1 := ZB.out.frozen 1
      have hlz := ZB.out.lt
      go_wp2_with fail
      have rb := (ZB.out.set_ 0 (.int .i64 x)).set_ 1 (.int .i64 y)
      exact bodyPost_ret (v := .tuple #[.agg #[.int .i64 x, .int .i64 y], .int .i64 er]) (by simp [results, Try.results70, go_sem, rb.cell]) rfl ⟨rfl, ((E.out.bw.setCell (by simp; omega) _).setCell (by simp; omega) _)⟩
    · rw [show fadd a b c d = (0, 0, 2) from if_neg (fun h => h2 h.2)]
      have F1 := Lib.hid (fokB_t h1); have F2 := Lib.hid (fokB_f h2)
      clear h1 h2
      go_enter Try.func70, Try.ntmps70
      obtain ⟨f0, f1, f2, f3, hlf⟩ := E.out.cells
      go_wp2_with fail
      refine (rvalid_any a b _).mono ?_
      rw [F1.out]
      rintro e w1 ⟨rfl, hb⟩
      have E := Lib.hid (E.out.below hb)
      try (replace ZB := Lib.hid (ZB.out.below hb ZB.out.lt))
      clear hb
      clear f0 f1 f2 f3 hlf
      obtain ⟨f0, f1, f2, f3, hlf⟩ := E.out.cells
      go_wp2_with fail
      refine (rvalid_any c d _).mono ?_
      rw [F2.out]
      rintro e w1 ⟨rfl, hb⟩
      have E := Lib.hid (E.out.below hb)
      try (replace ZB := Lib.hid (ZB.out.below hb ZB.out.lt))
      clear hb
      clear f0 f1 f2 f3 hlf
      obtain ⟨f0, f1, f2, f3, hlf⟩ := E.out.cells
      -- netcalculus/netcalculusref01.Add the function, 0 0 2 the results
      obtain ⟨z0, z1⟩ : _ ∧ _ := ⟨ZB.out.cell 0, ZB.out.cell 1⟩
      simp at z0 z1
      have v0 := ZB.out.frozen 0; have v1 := ZB.out.frozen 1
      have hlz := ZB.out.lt
      go_wp2_with fail
      have rb := (ZB.out.set_ 0 (.int .i64 0)).set_ 1 (.int .i64 0)
      exact bodyPost_ret (v := .tuple #[.agg #[.int .i64 0, .int .i64 0], .int .i64 2]) (by simp [results, Try.results70, go_sem, rb.cell]) rfl ⟨rfl, ((E.out.bw.setCell (by simp; omega) _).setCell (by simp; omega) _)⟩
  · rw [show fadd a b c d = (0, 0, 2) from if_neg (fun h => h1 h.1)]
    have F1 := Lib.hid (fokB_f h1)
    clear h1
    go_enter Try.func70, Try.ntmps70
    obtain ⟨f0, f1, f2, f3, hlf⟩ := E.out.cells
    go_wp2_with fail
    refine (rvalid_any a b _).mono ?_
    rw [F1.out]
    rintro e w1 ⟨rfl, hb⟩
    have E := Lib.hid (E.out.below hb)
    try (replace ZB := Lib.hid (ZB.out.below hb ZB.out.lt))
    clear hb
    clear f0 f1 f2 f3 hlf
    obtain ⟨f0, f1, f2, f3, hlf⟩ := E.out.cells
    -- netcalculus/netcalculusref01.Add the function, 0 0 2 the results
    obtain ⟨z0, z1⟩ : _ ∧ _ := ⟨ZB.out.cell 0, ZB.out.cell 1⟩
    simp at z0 z1
    have v0 := ZB.out.frozen 0; have v1 := ZB.out.frozen 1
    have hlz := ZB.out.lt
    go_wp2_with fail
    have rb := (ZB.out.set_ 0 (.int .i64 0)).set_ 1 (.int .i64 0)
    exact bodyPost_ret (v := .tuple #[.agg #[.int .i64 0, .int .i64 0], .int .i64 2]) (by simp [results, Try.results70, go_sem, rb.cell]) rfl ⟨rfl, ((E.out.bw.setCell (by simp; omega) _).setCell (by simp; omega) _)⟩
-- fsub_any the name, netcalculus/fraction.Sub the function, fvalid_any Valid's contract, fnewI_any New's contract, a * d - c * b numerator, fsub fadd | fsub
theorem fsub_any (a b c d : Int) (w : World) :
    Calls Try.prog 73 #[.agg #[.int .i64 a, .int .i64 b], .agg #[.int .i64 c, .int .i64 d]] w (RetF (fsub a b c d).1 (fsub a b c d).2.1 (fsub a b c d).2.2 w) := by
  have E := Lib.hid ((FE.new w a b c d).alloc (.cells #[.int .i64 0, .int .i64 0] 23))
  have zb := Blk.new ((w.alloc (.cells #[.int .i64 a, .int .i64 b] 23)).alloc (.cells #[.int .i64 c, .int .i64 d] 23)) 23 #[.int .i64 0, .int .i64 0]
  rw [World.size_alloc, World.size_alloc] at zb
  have ZB := Lib.hid zb
  clear zb
  by_cases h1 : FOk a b
  · by_cases h2 : FOk c d
    · rw [show fsub a b c d = fnew (a * d - c * b) (b * d) from if_pos ⟨h1, h2⟩]
      have F1 := Lib.hid (fokB_t h1); have F2 := Lib.hid (fokB_t h2)
      have m1 := mul_bd h1.2.2.1 h1.2.2.2.1 (show -1073741824 ≤ d by have := h2.1; omega) h2.2.1
      have m2 := mul_bd h2.2.2.1 h2.2.2.2.1 (show -1073741824 ≤ b by have := h1.1; omega) h1.2.1
      have m3 := mul_bd (show -1073741824 ≤ b by have := h1.1; omega) h1.2.1 (show -1073741824 ≤ d by have := h2.1; omega) h2.2.1
      have m4 : 1 ≤ b * d := by
        have : 1 * 1 ≤ b * d := Int.mul_le_mul h1.1 h2.1 (by omega) (by have := h1.1; omega)
        omega
      obtain ⟨m11, m12⟩ := m1
      obtain ⟨m21, m22⟩ := m2
      obtain ⟨m31, m32⟩ := m3
      clear h1 h2
      go_enter Try.func73, Try.ntmps73
      obtain ⟨f0, f1, f2, f3, hlf⟩ := E.out.cells
      go_wp2_with fail
      refine (fvalid_any a b _).mono ?_
      rw [F1.out]
      rintro e w1 ⟨rfl, hb⟩
      have E := Lib.hid (E.out.below hb)
      try (replace ZB := Lib.hid (ZB.out.below hb ZB.out.lt))
      clear hb
      clear f0 f1 f2 f3 hlf
      obtain ⟨f0, f1, f2, f3, hlf⟩ := E.out.cells
      go_wp2_with fail
      refine (fvalid_any c d _).mono ?_
      rw [F2.out]
      rintro e w1 ⟨rfl, hb⟩
      have E := Lib.hid (E.out.below hb)
      try (replace ZB := Lib.hid (ZB.out.below hb ZB.out.lt))
      clear hb
      clear f0 f1 f2 f3 hlf
      obtain ⟨f0, f1, f2, f3, hlf⟩ := E.out.cells
      go_wp2_with fail
      refine (fnewI_any (a * d - c * b) (b * d) _ (by omega) (by omega) m4 (by omega)).mono ?_
      generalize (fnew (a * d - c * b) (b * d)).1 = x at *
      generalize (fnew (a * d - c * b) (b * d)).2.1 = y at *
      generalize (fnew (a * d - c * b) (b * d)).2.2 = er at *
      rintro e w2 ⟨rfl, hb⟩
      have E := Lib.hid (E.out.below hb)
      try (replace ZB := Lib.hid (ZB.out.below hb ZB.out.lt))
      clear hb
      clear f0 f1 f2 f3 hlf
      obtain ⟨f0, f1, f2, f3, hlf⟩ := E.out.cells
      clear m11 m12 m21 m22 m31 m32 m4
      -- netcalculus/fraction.Sub the function, x y er the results
      obtain ⟨z0, z1⟩ : _ ∧ _ := ⟨ZB.out.cell 0, ZB.out.cell 1⟩
      simp at z0 z1
      have v0 := ZB.out.frozen 0; have v1 := ZB.out.frozen 1
      have hlz := ZB.out.lt
      go_wp2_with fail
      have rb := (ZB.out.set_ 0 (.int .i64 x)).set_ 1 (.int .i64 y)
      exact bodyPost_ret (v := .tuple #[.agg #[.int .i64 x, .int .i64 y], .int .i64 er]) (by simp [results, Try.results73, go_sem, rb.cell]) rfl ⟨rfl, ((E.out.bw.setCell (by simp; omega) _).setCell (by simp; omega) _)⟩
    · rw [show fsub a b c d = (0, 0, 2) from if_neg (fun h => h2 h.2)]
      have F1 := Lib.hid (fokB_t h1); have F2 := Lib.hid (fokB_f h2)
      clear h1 h2
      go_enter Try.func73, Try.ntmps73
      obtain ⟨f0, f1, f2, f3, hlf⟩ := E.out.cells
      go_wp2_with fail
      refine (fvalid_any a b _).mono ?_
      rw [F1.out]
      rintro e w1 ⟨rfl, hb⟩
      have E := Lib.hid (E.out.below hb)
      try (replace ZB := Lib.hid (ZB.out.below hb ZB.out.lt))
      clear hb
      clear f0 f1 f2 f3 hlf
      obtain ⟨f0, f1, f2, f3, hlf⟩ := E.out.cells
      go_wp2_with fail
      refine (fvalid_any c d _).mono ?_
      rw [F2.out]
      rintro e w1 ⟨rfl, hb⟩
      have E := Lib.hid (E.out.below hb)
      try (replace ZB := Lib.hid (ZB.out.below hb ZB.out.lt))
      clear hb
      clear f0 f1 f2 f3 hlf
      obtain ⟨f0, f1, f2, f3, hlf⟩ := E.out.cells
      -- netcalculus/fraction.Sub the function, 0 0 2 the results
      obtain ⟨z0, z1⟩ : _ ∧ _ := ⟨ZB.out.cell 0, ZB.out.cell 1⟩
      simp at z0 z1
      have v0 := ZB.out.frozen 0; have v1 := ZB.out.frozen 1
      have hlz := ZB.out.lt
      go_wp2_with fail
      have rb := (ZB.out.set_ 0 (.int .i64 0)).set_ 1 (.int .i64 0)
      exact bodyPost_ret (v := .tuple #[.agg #[.int .i64 0, .int .i64 0], .int .i64 2]) (by simp [results, Try.results73, go_sem, rb.cell]) rfl ⟨rfl, ((E.out.bw.setCell (by simp; omega) _).setCell (by simp; omega) _)⟩
  · rw [show fsub a b c d = (0, 0, 2) from if_neg (fun h => h1 h.1)]
    have F1 := Lib.hid (fokB_f h1)
    clear h1
    go_enter Try.func73, Try.ntmps73
    obtain ⟨f0, f1, f2, f3, hlf⟩ := E.out.cells
    go_wp2_with fail
    refine (fvalid_any a b _).mono ?_
    rw [F1.out]
    rintro e w1 ⟨rfl, hb⟩
    have E := Lib.hid (E.out.below hb)
    try (replace ZB := Lib.hid (ZB.out.below hb ZB.out.lt))
    clear hb
    clear f0 f1 f2 f3 hlf
    obtain ⟨f0, f1, f2, f3, hlf⟩ := E.out.cells
    -- netcalculus/fraction.Sub the function, 0 0 2 the results
    obtain ⟨z0, z1⟩ : _ ∧ _ := ⟨ZB.out.cell 0, ZB.out.cell 1⟩
    simp at z0 z1
    have v0 := ZB.out.frozen 0; have v1 := ZB.out.frozen 1
    have hlz := ZB.out.lt
    go_wp2_with fail
    have rb := (ZB.out.set_ 0 (.int .i64 0)).set_ 1 (.int .i64 0)
    exact bodyPost_ret (v := .tuple #[.agg #[.int .i64 0, .int .i64 0], .int .i64 2]) (by simp [results, Try.results73, go_sem, rb.cell]) rfl ⟨rfl, ((E.out.bw.setCell (by simp; omega) _).setCell (by simp; omega) _)⟩
-- fcmp_any the name, netcalculus/fraction.Compare the function, fvalid_any Valid's contract
theorem fcmp_any (a b c d : Int) (w : World) (h1 : FOk a b) (h2 : FOk c d) :
    Calls Try.prog 66 #[.agg #[.int .i64 a, .int .i64 b], .agg #[.int .i64 c, .int .i64 d]] w fun e w' => e = .returned (.int .i64 (fcmp a b c d)) ∧ Below w.heap.size w w' := by
  have E := Lib.hid (FE.new w a b c d)
  have F1 := Lib.hid (fokB_t h1); have F2 := Lib.hid (fokB_t h2)
  have m1 := mul_bd h1.2.2.1 h1.2.2.2.1 (show -1073741824 ≤ d by have := h2.1; omega) h2.2.1
  have m2 := mul_bd h2.2.2.1 h2.2.2.2.1 (show -1073741824 ≤ b by have := h1.1; omega) h1.2.1
  have e1 : IntKind.i64.wrap (a * d) = a * d := IntWalk.i64_in _ (by omega)
  have e2 : IntKind.i64.wrap (c * b) = c * b := IntWalk.i64_in _ (by omega)
  have hF : fcmp a b c d = if a * d < c * b then -1 else if c * b < a * d then 1 else 0 := if_pos ⟨h1, h2⟩
  rw [hF]
  clear hF h1 h2 m1 m2
  by_cases h3 : a * d < c * b
  · rw [if_pos h3]
    -- netcalculus/fraction.Compare the function, fvalid_any Valid's contract
    go_enter Try.func66, Try.ntmps66
    obtain ⟨f0, f1, f2, f3, hlf⟩ := E.out.cells
    go_wp2_with fail
    refine (fvalid_any a b _).mono ?_
    rw [F1.out]
    rintro e w1 ⟨rfl, hb⟩
    have E := Lib.hid (E.out.below hb)
    try (replace ZB := Lib.hid (ZB.out.below hb ZB.out.lt))
    clear hb
    clear f0 f1 f2 f3 hlf
    obtain ⟨f0, f1, f2, f3, hlf⟩ := E.out.cells
    go_wp2_with fail
    refine (fvalid_any c d _).mono ?_
    rw [F2.out]
    rintro e w1 ⟨rfl, hb⟩
    have E := Lib.hid (E.out.below hb)
    try (replace ZB := Lib.hid (ZB.out.below hb ZB.out.lt))
    clear hb
    clear f0 f1 f2 f3 hlf
    obtain ⟨f0, f1, f2, f3, hlf⟩ := E.out.cells
    go_wp2_with fail
    go_quiet (fail)
    clear e1 e2
    go_wp2_with fail
    go_ret
    exact ⟨rfl, bdrewN E.out.bw⟩
  · rw [if_neg h3]
    by_cases h4 : c * b < a * d
    · rw [if_pos h4]
      -- netcalculus/fraction.Compare the function, fvalid_any Valid's contract
      go_enter Try.func66, Try.ntmps66
      obtain ⟨f0, f1, f2, f3, hlf⟩ := E.out.cells
      go_wp2_with fail
      refine (fvalid_any a b _).mono ?_
      rw [F1.out]
      rintro e w1 ⟨rfl, hb⟩
      have E := Lib.hid (E.out.below hb)
      try (replace ZB := Lib.hid (ZB.out.below hb ZB.out.lt))
      clear hb
      clear f0 f1 f2 f3 hlf
      obtain ⟨f0, f1, f2, f3, hlf⟩ := E.out.cells
      go_wp2_with fail
      refine (fvalid_any c d _).mono ?_
      rw [F2.out]
      rintro e w1 ⟨rfl, hb⟩
      have E := Lib.hid (E.out.below hb)
      try (replace ZB := Lib.hid (ZB.out.below hb ZB.out.lt))
      clear hb
      clear f0 f1 f2 f3 hlf
      obtain ⟨f0, f1, f2, f3, hlf⟩ := E.out.cells
      go_wp2_with fail
      go_quiet (fail)
      clear e1 e2
      go_wp2_with fail
      go_ret
      exact ⟨rfl, bdrewN E.out.bw⟩
    · rw [if_neg h4]
      -- netcalculus/fraction.Compare the function, fvalid_any Valid's contract
      go_enter Try.func66, Try.ntmps66
      obtain ⟨f0, f1, f2, f3, hlf⟩ := E.out.cells
      go_wp2_with fail
      refine (fvalid_any a b _).mono ?_
      rw [F1.out]
      rintro e w1 ⟨rfl, hb⟩
      have E := Lib.hid (E.out.below hb)
      try (replace ZB := Lib.hid (ZB.out.below hb ZB.out.lt))
      clear hb
      clear f0 f1 f2 f3 hlf
      obtain ⟨f0, f1, f2, f3, hlf⟩ := E.out.cells
      go_wp2_with fail
      refine (fvalid_any c d _).mono ?_
      rw [F2.out]
      rintro e w1 ⟨rfl, hb⟩
      have E := Lib.hid (E.out.below hb)
      try (replace ZB := Lib.hid (ZB.out.below hb ZB.out.lt))
      clear hb
      clear f0 f1 f2 f3 hlf
      obtain ⟨f0, f1, f2, f3, hlf⟩ := E.out.cells
      go_wp2_with fail
      go_quiet (fail)
      clear e1 e2
      go_wp2_with fail
      go_ret
      exact ⟨rfl, bdrewN E.out.bw⟩
-- fdiv_any the name, netcalculus/fraction.Div the function, fvalid_any Valid's contract, fnewI_any New's contract
theorem fdiv_any (a b c d : Int) (w : World) (h1 : FOk a b) (h2 : FOk c d) (hc : 1 ≤ c) :
    Calls Try.prog 72 #[.agg #[.int .i64 a, .int .i64 b], .agg #[.int .i64 c, .int .i64 d]] w (RetF (fnew (a * d) (b * c)).1 (fnew (a * d) (b * c)).2.1 (fnew (a * d) (b * c)).2.2 w) := by
  have E := Lib.hid ((FE.new w a b c d).alloc (.cells #[.int .i64 0, .int .i64 0] 23))
  have zb := Blk.new ((w.alloc (.cells #[.int .i64 a, .int .i64 b] 23)).alloc (.cells #[.int .i64 c, .int .i64 d] 23)) 23 #[.int .i64 0, .int .i64 0]
  rw [World.size_alloc, World.size_alloc] at zb
  have ZB := Lib.hid zb
  clear zb
  have F1 := Lib.hid (fokB_t h1); have F2 := Lib.hid (fokB_t h2)
  have m1 := mul_bd h1.2.2.1 h1.2.2.2.1 (show -1073741824 ≤ d by have := h2.1; omega) h2.2.1
  have m3 := mul_bd (show -1073741824 ≤ b by have := h1.1; omega) h1.2.1 h2.2.2.1 h2.2.2.2.1
  have m4 : 1 ≤ b * c := by
    have : 1 * 1 ≤ b * c := Int.mul_le_mul h1.1 hc (by omega) (by have := h1.1; omega)
    omega
  obtain ⟨m11, m12⟩ := m1
  obtain ⟨m31, m32⟩ := m3
  have c0 : (c == 0) = false := by simp; omega
  clear h1 h2
  -- netcalculus/fraction.Div the function, fvalid_any Valid's contract
  go_enter Try.func72, Try.ntmps72
  obtain ⟨f0, f1, f2, f3, hlf⟩ := E.out.cells
  go_wp2_with fail
  refine (fvalid_any a b _).mono ?_
  rw [F1.out]
  rintro e w1 ⟨rfl, hb⟩
  have E := Lib.hid (E.out.below hb)
  try (replace ZB := Lib.hid (ZB.out.below hb ZB.out.lt))
  clear hb
  clear f0 f1 f2 f3 hlf
  obtain ⟨f0, f1, f2, f3, hlf⟩ := E.out.cells
  go_wp2_with fail
  refine (fvalid_any c d _).mono ?_
  rw [F2.out]
  rintro e w1 ⟨rfl, hb⟩
  have E := Lib.hid (E.out.below hb)
  try (replace ZB := Lib.hid (ZB.out.below hb ZB.out.lt))
  clear hb
  clear f0 f1 f2 f3 hlf
  obtain ⟨f0, f1, f2, f3, hlf⟩ := E.out.cells
  go_wp2_with fail
  refine (fnewI_any (a * d) (b * c) _ (by omega) (by omega) m4 (by omega)).mono ?_
  generalize (fnew (a * d) (b * c)).1 = x at *
  generalize (fnew (a * d) (b * c)).2.1 = y at *
  generalize (fnew (a * d) (b * c)).2.2 = er at *
  rintro e w2 ⟨rfl, hb⟩
  have E := Lib.hid (E.out.below hb)
  try (replace ZB := Lib.hid (ZB.out.below hb ZB.out.lt))
  clear hb
  clear f0 f1 f2 f3 hlf
  obtain ⟨f0, f1, f2, f3, hlf⟩ := E.out.cells
  clear m11 m12 m31 m32 m4
  -- netcalculus/fraction.Div the function, x y er the results
  obtain ⟨z0, z1⟩ : _ ∧ _ := ⟨ZB.out.cell 0, ZB.out.cell 1⟩
  simp at z0 z1
  have v0 := ZB.out.frozen 0; have v1 := ZB.out.frozen 1
  have hlz := ZB.out.lt
  go_wp2_with fail
  have rb := (ZB.out.set_ 0 (.int .i64 x)).set_ 1 (.int .i64 y)
  exact bodyPost_ret (v := .tuple #[.agg #[.int .i64 x, .int .i64 y], .int .i64 er]) (by simp [results, Try.results72, go_sem, rb.cell]) rfl ⟨rfl, ((E.out.bw.setCell (by simp; omega) _).setCell (by simp; omega) _)⟩
end Go.Proofs.Ythdibkmjoiipgaa
