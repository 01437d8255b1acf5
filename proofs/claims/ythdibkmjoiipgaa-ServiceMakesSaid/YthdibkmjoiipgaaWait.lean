/- A latency of whole ticks is a delay: the plain law. -/
import Derived.Test.YthdibkmjoiipgaaPace
import Derived.Test.YthdibkmjoiipgaaArith
import Derived.Test.YthdibkmjoiipgaaBy
import Derived.Test.YthdibkmjoiipgaaRefAt
import Derived.Deep.DeepCutAuto
namespace Go.Proofs.Ythdibkmjoiipgaa
open Go.RowKit
set_option linter.unusedVariables false

theorem gcd_shift (L l n : Nat) : Nat.gcd (L + n * l) l = Nat.gcd L l := by
  rw [Nat.gcd_comm, Nat.gcd_comm L l, Nat.mul_comm n l]
  exact Nat.gcd_add_mul_left_right l L n
theorem whole_eq {L l n : Int} (h : GOk L l) (hL : L ≤ 1000) (hl : l ≤ 1000) (h0 : 0 ≤ n) (h1 : n ≤ 1000) : fadd L l n 1 = (L + n * l, l, 0) := by
  have hl0 := h.1.1; have hL0 := h.2
  have hn0 : 0 ≤ n * l := Int.mul_nonneg h0 (by omega)
  have hn1 : n * l ≤ 1000 * 1000 := Int.mul_le_mul h1 hl (by omega) (by omega)
  have hf : FOk n 1 := ⟨by omega, by omega, by omega, by omega, by simp⟩
  unfold fadd
  rw [if_pos ⟨h.1, hf⟩, Int.mul_one, Int.mul_one]
  have e : (L + n * l).natAbs = L.natAbs + n.natAbs * l.natAbs := by
    have e1 : (n * l).natAbs = n.natAbs * l.natAbs := Int.natAbs_mul _ _
    omega
  have g : Nat.gcd (L + n * l).natAbs l.natAbs = 1 := by rw [e, gcd_shift]; exact h.1.2.2.2.2
  unfold fnew
  rw [g, Nat.div_one, Nat.div_one, if_pos (by omega), if_neg (by omega), Int.natAbs_of_nonneg (by omega), Int.natAbs_of_nonneg (by omega)]
theorem whole_ok {L l n : Int} (h : GOk L l) (hL : L ≤ 1000) (hl : l ≤ 1000) (h0 : 0 ≤ n) (h1 : n ≤ 1000) : GOk (L + n * l) l := by
  have hl0 := h.1.1; have hL0 := h.2
  have hn0 : 0 ≤ n * l := Int.mul_nonneg h0 (by omega)
  have hn1 : n * l ≤ 1000 * 1000 := Int.mul_le_mul h1 hl (by omega) (by omega)
  have e : (L + n * l).natAbs = L.natAbs + n.natAbs * l.natAbs := by
    have e1 : (n * l).natAbs = n.natAbs * l.natAbs := Int.natAbs_mul _ _
    omega
  exact ⟨⟨hl0, by omega, by omega, by omega, by rw [e, gcd_shift]; exact h.1.2.2.2.2⟩, by omega⟩
theorem pace_cur {R r L l : Int} (hR : GOk R r) (hr : r ≤ 120) (hR1 : R ≤ 1000) (hL : GOk L l) (hL1 : L ≤ 250) : (∃ g, NF (pcV R r L l) g ∧ Lim g ∧ g.Ok) ∧ cdiv L l ≤ 400 := by
  have hl0 := hL.1.1; have hL0 := hL.2; have hr0 := hR.1.1; have hR0 := hR.2
  have hc : cdiv L l ≤ L := (cdiv_le hl0).2 (by
    have : L * 1 ≤ L * l := Int.mul_le_mul_of_nonneg_left hl0 hL0
    omega)
  have hc0 : -1 ≤ cdiv L l := by
    have : ¬ cdiv L l ≤ -1 := by rw [cdiv_le hl0]; omega
    omega
  refine ⟨lim_of2 (pc_up hR0 hr0 hl0) (s := L.toNat) (p := r.toNat) (i := R) (by omega) (by omega) (by omega) (pc_per hR0 hr0 hl0 (by omega)) (fun t ht => ?_) (by omega), by omega⟩
  have h1 := pc_le hR0 hr0 hL0 hl0 t
  have h2 : R * (t : Int) ≤ 1000 * 400 := Int.mul_le_mul hR1 (by omega) (by omega) (by omega)
  omega
theorem pace_made {R r L l : Int} (hR : GOk R r) (hr : r ≤ 120) (hL : GOk L l) (hc : cdiv L l ≤ 400) {f g : Cv} {er : Int} (h : PcS R r L l f er) (hg : NF (pcV R r L l) g) (hl : Lim g) : f = g ∧ er = 0 := by
  rcases h with ⟨h, _⟩ | ⟨_, _, _, h, _⟩ | ⟨_, _, _, h⟩
  · exact absurd ⟨hR, hL⟩ h
  · omega
  · exact h.eq hg hl
theorem delay_same {R r L l : Int} {n : Nat} (hR : GOk R r) (hL : GOk L l) (hn : (n : Int) ≤ 1000) {g k x : Cv} {er : Int} (hg : NF (pcV R r L l) g) (ho : g.Ok) (hk : NF (pcV R r (L + n * l) l) k) (hl : Lim k) (h : LaterS g n x er) : x = k ∧ er = 0 := by
  rcases h with ⟨h, _⟩ | ⟨_, h, _⟩ | ⟨_, _, _, a, ha, hm⟩
  · exact absurd ho h
  · omega
  · have e : laterV a ((n : Int)).toNat = pcV R r (L + n * l) l := by
      funext t
      rw [pc_shift hR.2 hR.1.1 hL.1.1 hL.2, show ((n : Int)).toNat = n from by omega]
      by_cases h : t < n
      · rw [laterV_lt h, if_pos h]
      · rw [laterV_ge (by omega), if_neg h, ha.at, hg.at]
    rw [e] at hm
    exact hm.eq hk hl
end Go.Proofs.Ythdibkmjoiipgaa
namespace Go.Proofs.Ythdibkmjoiipgaa
open Go.RowKit
set_option linter.unusedVariables false

/-- what Wait returns for right numbers -/
def wtG (B b R r P p L l : Int) : Int × Int × Int :=
  if 0 < fcmp R r P p ∨ P = 0 then (0, 0, 5) else
  if (fnew (B * p) (b * P)).2.2 ≠ 0 then (0, 0, (fnew (B * p) (b * P)).2.2) else
  if (fadd (fnew (B * p) (b * P)).1 (fnew (B * p) (b * P)).2.1 L l).2.2 ≠ 0 then (0, 0, (fadd (fnew (B * p) (b * P)).1 (fnew (B * p) (b * P)).2.1 L l).2.2) else
  let y := fadd (fnew (B * p) (b * P)).1 (fnew (B * p) (b * P)).2.1 L l
  if (fsub y.1 y.2.1 1 1).2.2 ≠ 0 then (0, 0, (fsub y.1 y.2.1 1 1).2.2) else
  if (fsub y.1 y.2.1 1 1).1 < 0 then (0, 1, 0) else fsub y.1 y.2.1 1 1
/-- the blocks of a call of Wait -/
structure WE (w wx : World) (B b R r P p L l : Int) : Prop where
  x : Blk wx w.heap.size 27 #[.int .i64 B, .int .i64 b, .int .i64 R, .int .i64 r]
  y : Blk wx (w.heap.size + 1) 25 #[.int .i64 P, .int .i64 p, .int .i64 L, .int .i64 l]
  z : Blk wx (w.heap.size + 2) 23 #[.int .i64 0, .int .i64 0]
  bw : Below w.heap.size w wx
section
variable {w wx wy : World} {B b R r P p L l : Int}
theorem WE.new (w : World) (B b R r P p L l : Int) : WE w (((w.alloc (.cells #[.int .i64 B, .int .i64 b, .int .i64 R, .int .i64 r] 27)).alloc (.cells #[.int .i64 P, .int .i64 p, .int .i64 L, .int .i64 l] 25)).alloc (.cells #[.int .i64 0, .int .i64 0] 23)) B b R r P p L l := by
  have h1 := Blk.new (w.alloc (.cells #[.int .i64 B, .int .i64 b, .int .i64 R, .int .i64 r] 27)) 25 #[.int .i64 P, .int .i64 p, .int .i64 L, .int .i64 l]
  have h2 := Blk.new ((w.alloc (.cells #[.int .i64 B, .int .i64 b, .int .i64 R, .int .i64 r] 27)).alloc (.cells #[.int .i64 P, .int .i64 p, .int .i64 L, .int .i64 l] 25)) 23 #[.int .i64 0, .int .i64 0]
  rw [World.size_alloc] at h1
  rw [World.size_alloc, World.size_alloc] at h2
  exact ⟨((Blk.new _ _ _).alloc _).alloc _, h1.alloc _, h2, bthen (bthen (balloc _ _) (balloc _ _)) (balloc _ _)⟩
theorem WE.below (h : WE w wx B b R r P p L l) (hb : Below wx.heap.size wx wy) : WE w wy B b R r P p L l := ⟨h.x.below hb h.x.lt, h.y.below hb h.y.lt, h.z.below hb h.z.lt, bthen h.bw hb⟩
theorem WE.alloc (h : WE w wx B b R r P p L l) (o : Obj) : WE w (wx.alloc o) B b R r P p L l := h.below (balloc _ o)
theorem WE.far2 {g : Nat} (h : WE w wx B b R r P p L l) (hg : w.heap.size + 2 < g) (u v : Value) : WE w ((wx.setCell ⟨g, 0, none⟩ u).setCell ⟨g, 1, none⟩ v) B b R r P p L l :=
  ⟨(h.x.far (by simp; omega) _).far (by simp; omega) _, (h.y.far (by simp; omega) _).far (by simp; omega) _, (h.z.far (by simp; omega) _).far (by simp; omega) _, (h.bw.setCell (by simp; omega) _).setCell (by simp; omega) _⟩
theorem WE.cells (h : WE w wx B b R r P p L l) : (wx.cell? ⟨w.heap.size, 0, none⟩ = some (.int .i64 B) ∧ wx.cell? ⟨w.heap.size, 1, none⟩ = some (.int .i64 b) ∧ wx.cell? ⟨w.heap.size, 2, none⟩ = some (.int .i64 R) ∧ wx.cell? ⟨w.heap.size, 3, none⟩ = some (.int .i64 r)) ∧ (wx.cell? ⟨w.heap.size + 1, 0, none⟩ = some (.int .i64 P) ∧ wx.cell? ⟨w.heap.size + 1, 1, none⟩ = some (.int .i64 p) ∧ wx.cell? ⟨w.heap.size + 1, 2, none⟩ = some (.int .i64 L) ∧ wx.cell? ⟨w.heap.size + 1, 3, none⟩ = some (.int .i64 l)) ∧ w.heap.size + 2 < wx.heap.size := by
  have q0 := h.x.cell 0; have q1 := h.x.cell 1; have q2 := h.x.cell 2; have q3 := h.x.cell 3
  have p0 := h.y.cell 0; have p1 := h.y.cell 1; have p2 := h.y.cell 2; have p3 := h.y.cell 3
  simp at q0 q1 q2 q3 p0 p1 p2 p3
  exact ⟨⟨q0, q1, q2, q3⟩, ⟨p0, p1, p2, p3⟩, h.z.lt⟩
end
set_option maxHeartbeats 1000000 in
theorem wait_any (B b R r P p L l : Int) (w : World) (hB : GOk B b) (hR : GOk R r) (hP : GOk P p) (hL : GOk L l) :
    Calls Try.prog 19 #[.agg #[.int .i64 B, .int .i64 b, .int .i64 R, .int .i64 r], .agg #[.int .i64 P, .int .i64 p, .int .i64 L, .int .i64 l]] w (RetF (wtG B b R r P p L l).1 (wtG B b R r P p L l).2.1 (wtG B b R r P p L l).2.2 w) := by
  have E := Lib.hid (WE.new w B b R r P p L l)
  have F1 := Lib.hid (gokB_t hB); have F2 := Lib.hid (gokB_t hR); have F3 := Lib.hid (bokB_t ⟨hP, hL⟩)
  have F := Lib.hid (rfl : wtG B b R r P p L l = wtG B b R r P p L l)
  generalize hwt : wtG B b R r P p L l = V at F ⊢
  clear F
  unfold wtG at hwt
  go_enter Try.func19, Try.ntmps19
  obtain ⟨⟨f0, f1, f2, f3⟩, ⟨g0, g1, g2, g3⟩, hlf⟩ := E.out.cells
  go_wp2_with fail
  refine (right_any B b _).mono ?_
  rw [F1.out]
  rintro e w1 ⟨rfl, hb⟩
  replace E := Lib.hid (E.out.below hb)
  clear hb
  clear f0 f1 f2 f3 g0 g1 g2 g3 hlf
  obtain ⟨⟨f0, f1, f2, f3⟩, ⟨g0, g1, g2, g3⟩, hlf⟩ := E.out.cells
  go_wp2_with fail
  refine (right_any R r _).mono ?_
  rw [F2.out]
  rintro e w1 ⟨rfl, hb⟩
  replace E := Lib.hid (E.out.below hb)
  clear hb
  clear f0 f1 f2 f3 g0 g1 g2 g3 hlf
  obtain ⟨⟨f0, f1, f2, f3⟩, ⟨g0, g1, g2, g3⟩, hlf⟩ := E.out.cells
  go_wp2_with fail
  refine (svalid_any P p L l _).mono ?_
  rw [F3.out]
  rintro e w1 ⟨rfl, hb⟩
  replace E := Lib.hid (E.out.below hb)
  clear hb
  clear f0 f1 f2 f3 g0 g1 g2 g3 hlf
  obtain ⟨⟨f0, f1, f2, f3⟩, ⟨g0, g1, g2, g3⟩, hlf⟩ := E.out.cells
  clear F1 F2 F3
  go_wp2_with fail
  refine (fcmp_any R r P p _ hR.1 hP.1).mono ?_
  generalize fcmp R r P p = cm at *
  rintro e w1 ⟨rfl, hb⟩
  replace E := Lib.hid (E.out.below hb)
  clear hb
  clear f0 f1 f2 f3 g0 g1 g2 g3 hlf
  obtain ⟨⟨f0, f1, f2, f3⟩, ⟨g0, g1, g2, g3⟩, hlf⟩ := E.out.cells
  by_cases hcm : 0 < cm
  · rw [if_pos (.inl hcm)] at hwt
    subst hwt
    -- 0 0 5 the results
    obtain ⟨z0, z1⟩ : _ ∧ _ := ⟨E.out.z.cell 0, E.out.z.cell 1⟩
    simp at z0 z1
    have v0 := E.out.z.frozen 0; have v1 := E.out.z.frozen 1
    go_wp2_with fail
    have rb := (E.out.z.set_ 0 (.int .i64 0)).set_ 1 (.int .i64 0)
    exact bodyPost_ret (v := .tuple #[.agg #[.int .i64 0, .int .i64 0], .int .i64 5]) (by simp [results, Try.results19, go_sem, rb.cell]) rfl (by first | exact ⟨rfl, (E.out.bw.setCell (by simp; omega) _).setCell (by simp; omega) _⟩ | exact ⟨by rw [F.out], (E.out.bw.setCell (by simp; omega) _).setCell (by simp; omega) _⟩)
  · by_cases h0 : P = 0
    · have d0 : (P == 0) = true := by simpa using h0
      rw [if_pos (.inr h0)] at hwt
      subst hwt
      clear h0
      -- 0 0 5 the results
      obtain ⟨z0, z1⟩ : _ ∧ _ := ⟨E.out.z.cell 0, E.out.z.cell 1⟩
      simp at z0 z1
      have v0 := E.out.z.frozen 0; have v1 := E.out.z.frozen 1
      go_wp2_with fail
      have rb := (E.out.z.set_ 0 (.int .i64 0)).set_ 1 (.int .i64 0)
      exact bodyPost_ret (v := .tuple #[.agg #[.int .i64 0, .int .i64 0], .int .i64 5]) (by simp [results, Try.results19, go_sem, rb.cell]) rfl (by first | exact ⟨rfl, (E.out.bw.setCell (by simp; omega) _).setCell (by simp; omega) _⟩ | exact ⟨by rw [F.out], (E.out.bw.setCell (by simp; omega) _).setCell (by simp; omega) _⟩)
    · have d0 : (P == 0) = false := by simpa using h0
      rw [if_neg (by omega)] at hwt
      have hP1 : 1 ≤ P := by have := hP.2; omega
      go_wp2_with fail
      refine (fdiv_any B b P p _ hB.1 hP.1 hP1).mono ?_
      clear h0 d0
      generalize fnew (B * p) (b * P) = q1 at *
      obtain ⟨a1, b1, e1⟩ := q1
      rintro e wq ⟨rfl, hb⟩
      have hQ := (E.out.below hb).z.lt
      replace E := Lib.hid ((E.out.below hb).alloc (.cells #[.int .i64 a1, .int .i64 b1] 23))
      have XB := Lib.hid (Blk.new wq 23 #[.int .i64 a1, .int .i64 b1])
      clear hb
      have hPX : w.heap.size + 2 < wq.heap.size := hQ
      clear f0 f1 f2 f3 g0 g1 g2 g3 hlf
      go_upto_region 6 with fail
      generalize hwe : wq.alloc (.cells #[.int .i64 a1, .int .i64 b1] 23) = wf at *
      clear hwe
      generalize wq.heap.size = PX at *
      obtain ⟨⟨f0, f1, f2, f3⟩, ⟨g0, g1, g2, g3⟩, hlf⟩ := E.out.cells
      -- the variable x's cells
      obtain ⟨x0, x1⟩ : _ ∧ _ := ⟨XB.out.cell 0, XB.out.cell 1⟩
      simp at x0 x1
      have u0 := XB.out.frozen 0; have u1 := XB.out.frozen 1
      have hlx := XB.out.lt
      by_cases he1 : e1 = 0
      · subst he1
        rw [if_neg (by simp)] at hwt
        try dsimp only at hwt
        go_wp2_with fail
        refine (fadd_any a1 b1 L l _).mono ?_
        generalize fadd a1 b1 L l = q2 at *
        obtain ⟨a2, b2, e2⟩ := q2
        rintro e wq ⟨rfl, hb⟩
        try dsimp only at hwt
        replace E := Lib.hid (E.out.below hb)
        replace XB := Lib.hid (XB.out.below hb XB.out.lt)
        clear hb
        clear f0 f1 f2 f3 g0 g1 g2 g3 hlf
        obtain ⟨⟨f0, f1, f2, f3⟩, ⟨g0, g1, g2, g3⟩, hlf⟩ := E.out.cells
        clear x0 x1 u0 u1 hlx
        -- the variable x's cells
        obtain ⟨x0, x1⟩ : _ ∧ _ := ⟨XB.out.cell 0, XB.out.cell 1⟩
        simp at x0 x1
        have u0 := XB.out.frozen 0; have u1 := XB.out.frozen 1
        have hlx := XB.out.lt
        go_upto_region 8 with fail
        -- the variable x gets a2 / b2
        replace E := Lib.hid (E.out.far2 hPX (.int .i64 a2) (.int .i64 b2))
        replace XB := Lib.hid ((XB.out.set_ 0 (.int .i64 a2)).set_ 1 (.int .i64 b2))
        generalize hwe : (wq.setCell ⟨PX, 0, none⟩ (.int .i64 a2)).setCell ⟨PX, 1, none⟩ (.int .i64 b2) = wg at *
        clear hwe
        clear f0 f1 f2 f3 g0 g1 g2 g3 hlf
        clear x0 x1 u0 u1 hlx
        obtain ⟨⟨f0, f1, f2, f3⟩, ⟨g0, g1, g2, g3⟩, hlf⟩ := E.out.cells
        -- the variable x's cells
        obtain ⟨x0, x1⟩ : _ ∧ _ := ⟨XB.out.cell 0, XB.out.cell 1⟩
        simp at x0 x1
        have u0 := XB.out.frozen 0; have u1 := XB.out.frozen 1
        have hlx := XB.out.lt
        by_cases he2 : e2 = 0
        · subst he2
          rw [if_neg (by simp)] at hwt
          go_wp2_with fail
          refine (fsub_any a2 b2 1 1 _).mono ?_
          generalize fsub a2 b2 1 1 = q3 at *
          obtain ⟨a3, b3, e3⟩ := q3
          rintro e wq ⟨rfl, hb⟩
          try dsimp only at hwt
          replace E := Lib.hid (E.out.below hb)
          replace XB := Lib.hid (XB.out.below hb XB.out.lt)
          clear hb
          clear f0 f1 f2 f3 g0 g1 g2 g3 hlf
          obtain ⟨⟨f0, f1, f2, f3⟩, ⟨g0, g1, g2, g3⟩, hlf⟩ := E.out.cells
          clear x0 x1 u0 u1 hlx
          -- the variable x's cells
          obtain ⟨x0, x1⟩ : _ ∧ _ := ⟨XB.out.cell 0, XB.out.cell 1⟩
          simp at x0 x1
          have u0 := XB.out.frozen 0; have u1 := XB.out.frozen 1
          have hlx := XB.out.lt
          go_upto_region 10 with fail
          -- the variable x gets a3 / b3
          replace E := Lib.hid (E.out.far2 hPX (.int .i64 a3) (.int .i64 b3))
          replace XB := Lib.hid ((XB.out.set_ 0 (.int .i64 a3)).set_ 1 (.int .i64 b3))
          generalize hwe : (wq.setCell ⟨PX, 0, none⟩ (.int .i64 a3)).setCell ⟨PX, 1, none⟩ (.int .i64 b3) = wg at *
          clear hwe
          clear f0 f1 f2 f3 g0 g1 g2 g3 hlf
          clear x0 x1 u0 u1 hlx
          obtain ⟨⟨f0, f1, f2, f3⟩, ⟨g0, g1, g2, g3⟩, hlf⟩ := E.out.cells
          -- the variable x's cells
          obtain ⟨x0, x1⟩ : _ ∧ _ := ⟨XB.out.cell 0, XB.out.cell 1⟩
          simp at x0 x1
          have u0 := XB.out.frozen 0; have u1 := XB.out.frozen 1
          have hlx := XB.out.lt
          by_cases he3 : e3 = 0
          · subst he3
            rw [if_neg (by simp)] at hwt
            by_cases ha : a3 < 0
            · rw [if_pos ha] at hwt
              subst hwt
              -- 0 1 0 the results
              obtain ⟨z0, z1⟩ : _ ∧ _ := ⟨E.out.z.cell 0, E.out.z.cell 1⟩
              simp at z0 z1
              have v0 := E.out.z.frozen 0; have v1 := E.out.z.frozen 1
              go_wp2_with fail
              have rb := (E.out.z.set_ 0 (.int .i64 0)).set_ 1 (.int .i64 1)
              exact bodyPost_ret (v := .tuple #[.agg #[.int .i64 0, .int .i64 1], .int .i64 0]) (by simp [results, Try.results19, go_sem, rb.cell]) rfl (by first | exact ⟨rfl, (E.out.bw.setCell (by simp; omega) _).setCell (by simp; omega) _⟩ | exact ⟨by rw [F.out], (E.out.bw.setCell (by simp; omega) _).setCell (by simp; omega) _⟩)
            · rw [if_neg ha] at hwt
              subst hwt
              -- a3 b3 0 the results
              obtain ⟨z0, z1⟩ : _ ∧ _ := ⟨E.out.z.cell 0, E.out.z.cell 1⟩
              simp at z0 z1
              have v0 := E.out.z.frozen 0; have v1 := E.out.z.frozen 1
              go_wp2_with fail
              have rb := (E.out.z.set_ 0 (.int .i64 a3)).set_ 1 (.int .i64 b3)
              exact bodyPost_ret (v := .tuple #[.agg #[.int .i64 a3, .int .i64 b3], .int .i64 0]) (by simp [results, Try.results19, go_sem, rb.cell]) rfl (by first | exact ⟨rfl, (E.out.bw.setCell (by simp; omega) _).setCell (by simp; omega) _⟩ | exact ⟨by rw [F.out], (E.out.bw.setCell (by simp; omega) _).setCell (by simp; omega) _⟩)
          · rw [if_pos he3] at hwt
            subst hwt
            have d3 : (e3 == 0) = false := by simpa using he3
            have d4 : (e3 != 0) = true := by simpa using he3
            -- 0 0 e3 the results
            obtain ⟨z0, z1⟩ : _ ∧ _ := ⟨E.out.z.cell 0, E.out.z.cell 1⟩
            simp at z0 z1
            have v0 := E.out.z.frozen 0; have v1 := E.out.z.frozen 1
            go_wp2_with fail
            have rb := (E.out.z.set_ 0 (.int .i64 0)).set_ 1 (.int .i64 0)
            exact bodyPost_ret (v := .tuple #[.agg #[.int .i64 0, .int .i64 0], .int .i64 e3]) (by simp [results, Try.results19, go_sem, rb.cell]) rfl (by first | exact ⟨rfl, (E.out.bw.setCell (by simp; omega) _).setCell (by simp; omega) _⟩ | exact ⟨by rw [F.out], (E.out.bw.setCell (by simp; omega) _).setCell (by simp; omega) _⟩)
        · rw [if_pos he2] at hwt
          subst hwt
          have d3 : (e2 == 0) = false := by simpa using he2
          have d4 : (e2 != 0) = true := by simpa using he2
          -- 0 0 e2 the results
          obtain ⟨z0, z1⟩ : _ ∧ _ := ⟨E.out.z.cell 0, E.out.z.cell 1⟩
          simp at z0 z1
          have v0 := E.out.z.frozen 0; have v1 := E.out.z.frozen 1
          go_wp2_with fail
          have rb := (E.out.z.set_ 0 (.int .i64 0)).set_ 1 (.int .i64 0)
          exact bodyPost_ret (v := .tuple #[.agg #[.int .i64 0, .int .i64 0], .int .i64 e2]) (by simp [results, Try.results19, go_sem, rb.cell]) rfl (by first | exact ⟨rfl, (E.out.bw.setCell (by simp; omega) _).setCell (by simp; omega) _⟩ | exact ⟨by rw [F.out], (E.out.bw.setCell (by simp; omega) _).setCell (by simp; omega) _⟩)
      · rw [if_pos he1] at hwt
        subst hwt
        have d3 : (e1 == 0) = false := by simpa using he1
        have d4 : (e1 != 0) = true := by simpa using he1
        -- 0 0 e1 the results
        obtain ⟨z0, z1⟩ : _ ∧ _ := ⟨E.out.z.cell 0, E.out.z.cell 1⟩
        simp at z0 z1
        have v0 := E.out.z.frozen 0; have v1 := E.out.z.frozen 1
        go_wp2_with fail
        have rb := (E.out.z.set_ 0 (.int .i64 0)).set_ 1 (.int .i64 0)
        exact bodyPost_ret (v := .tuple #[.agg #[.int .i64 0, .int .i64 0], .int .i64 e1]) (by simp [results, Try.results19, go_sem, rb.cell]) rfl (by first | exact ⟨rfl, (E.out.bw.setCell (by simp; omega) _).setCell (by simp; omega) _⟩ | exact ⟨by rw [F.out], (E.out.bw.setCell (by simp; omega) _).setCell (by simp; omega) _⟩)
end Go.Proofs.Ythdibkmjoiipgaa
