/- The statement CurveAnswers: the walk. -/
import Derived.Test.YteddogbhofhlaaaCvs
import Derived.Test.YteddogbhofhlaaaRefSlope
import Derived.Test.YteddogbhofhlaaaRefEq
import Derived.Test.YteddogbhofhlaaaBent
import Derived.Test.YteddogbhofhlaaaNormalLaw
namespace Go.Proofs.Yteddogbhofhlaaa
open Go.RowKit
set_option linter.unusedVariables false

/-- a reader at block p, a list of curves at block b, and three curves in variables -/
structure CE (p : Nat) (w0 w : World) (b : Nat) (xs : List CR) (F : Nat) (X : CR) (G : Nat) (Y : CR) (O : Nat) (Z : CR) : Prop where
  s : SrcAt w p
  k : Kept w0.heap.size p w0 w
  row : Row p w b xs
  lf : Lc p w F X
  lg : Lc p w G Y
  lo : Lc p w O Z
section
variable {p b F G O : Nat} {w0 w w' : World} {xs : List CR} {X Y Z : CR}
theorem CE.below (h : CE p w0 w b xs F X G Y O Z) (hb : Below w.heap.size w w') : CE p w0 w' b xs F X G Y O Z := ⟨h.s.ext hb, kbel h.k hb, h.row.below hb, h.lf.below hb, h.lg.below hb, h.lo.below hb⟩
theorem CE.alloc (h : CE p w0 w b xs F X G Y O Z) (o : Obj) : CE p w0 (w.alloc o) b xs F X G Y O Z := h.below (balloc w o)
theorem CE.drew (h : CE p w0 w b xs F X G Y O Z) : CE p w0 w.drew b xs F X G Y O Z := ⟨h.s, kdrw h.k, h.row.drew, h.lf.drew, h.lg.drew, h.lo.drew⟩
theorem CE.kept (h : CE p w0 w b xs F X G Y O Z) (hS : SrcAt w' p) (hk : Kept w.heap.size p w w') : CE p w0 w' b xs F X G Y O Z := ⟨hS, kstep h.k hk, h.row.kept hk, h.lf.kept hk, h.lg.kept hk, h.lo.kept hk⟩
theorem CE.fin {w0 : World} (h : CE w0.heap.size w0 w b xs F X G Y O Z) : Below w0.heap.size w0 w := h.k.below (Nat.le_refl _)
theorem CR.In.old {x : CR} (h : Ints w w.heap.size x.A x.n x.f.vals) : x.In w.heap.size w := ⟨h, fun hn b off s e => by
  obtain ⟨b', off', e', hb, _⟩ := h.2 hn
  rw [e] at e'; cases e'; omega⟩
theorem CR.In.new {x : CR} {B : Nat} (h : Ints w w.heap.size x.A x.n x.f.vals) (hB : ∀ b off s, x.A = some ⟨b, off, s⟩ → B ≤ b) (hp : p < B) : x.In p w := ⟨h, fun _ b off s e => by have := hB b off s e; omega⟩
end




theorem Blk.cells3 {w : World} {F : Nat} {T : TypeId} {x y z : Value} (h : Blk w F T #[x, y, z]) : w.cell? ⟨F, 0, none⟩ = some x ∧ w.cell? ⟨F, 1, none⟩ = some y ∧ w.cell? ⟨F, 2, none⟩ = some z ∧ F < w.heap.size := by
  have q0 := h.cell 0; have q1 := h.cell 1; have q2 := h.cell 2
  simp at q0 q1 q2
  exact ⟨q0, q1, q2, h.lt⟩
theorem Blk.cells2 {w : World} {F : Nat} {T : TypeId} {x y : Value} (h : Blk w F T #[x, y]) : w.cell? ⟨F, 0, none⟩ = some x ∧ w.cell? ⟨F, 1, none⟩ = some y ∧ F < w.heap.size := by
  have q0 := h.cell 0; have q1 := h.cell 1
  simp at q0 q1
  exact ⟨q0, q1, h.lt⟩

theorem CE.cells {p b F G O : Nat} {w0 w : World} {xs : List CR} {X Y Z : CR} (h : CE p w0 w b xs F X G Y O Z) : (w.cell? ⟨F, 0, none⟩ = some (.slice X.A X.n X.c) ∧ w.cell? ⟨F, 1, none⟩ = some (.int .i64 X.f.per) ∧ w.cell? ⟨F, 2, none⟩ = some (.int .i64 X.f.inc) ∧ F < w.heap.size) ∧
    (w.cell? ⟨G, 0, none⟩ = some (.slice Y.A Y.n Y.c) ∧ w.cell? ⟨G, 1, none⟩ = some (.int .i64 Y.f.per) ∧ w.cell? ⟨G, 2, none⟩ = some (.int .i64 Y.f.inc) ∧ G < w.heap.size) ∧
    (w.cell? ⟨O, 0, none⟩ = some (.slice Z.A Z.n Z.c) ∧ w.cell? ⟨O, 1, none⟩ = some (.int .i64 Z.f.per) ∧ w.cell? ⟨O, 2, none⟩ = some (.int .i64 Z.f.inc) ∧ O < w.heap.size) := ⟨h.lf.cells, h.lg.cells, h.lo.cells⟩

set_option maxHeartbeats 8000000 in
set_option maxRecDepth 100000 in
theorem cvAnsLaw_any (A1 : Option Addr) (n1 c1 : Nat) (p1 i1 : Int) (L1 : List Int) (A2 : Option Addr) (n2 c2 : Nat) (p2 i2 : Int) (L2 : List Int) (t : Int) (A0 : Option Addr) (n0 c0 : Nat) (L : List Int) (W : World)
    (hI1 : Ints W W.heap.size A1 n1 L1) (hc1 : n1 ≤ c1) (hn1 : (n1 : Int) ≤ 9223372036854775807) (hI2 : Ints W W.heap.size A2 n2 L2) (hc2 : n2 ≤ c2) (hn2 : (n2 : Int) ≤ 9223372036854775807) (hL0 : Ints W W.heap.size A0 n0 L) (hc0 : n0 ≤ c0) (hn0 : (n0 : Int) ≤ 9223372036854775807) :
    Calls Try.prog 12 #[.agg #[.slice A1 n1 c1, .int .i64 p1, .int .i64 i1], .agg #[.slice A2 n2 c2, .int .i64 p2, .int .i64 i2], .int .i64 t, .slice A0 n0 c0] W fun e w' => e = .returned (.bool true) ∧ Below W.heap.size W w' := by
  have RI := Lib.hid ((hI1.alloc' (.cells #[.slice A1 n1 c1, .int .i64 p1, .int .i64 i1] 26)).alloc' (.cells #[.slice A2 n2 c2, .int .i64 p2, .int .i64 i2] 26))
  have OI := Lib.hid ((hI2.alloc' (.cells #[.slice A1 n1 c1, .int .i64 p1, .int .i64 i1] 26)).alloc' (.cells #[.slice A2 n2 c2, .int .i64 p2, .int .i64 i2] 26))
  have LI := Lib.hid ((hL0.alloc' (.cells #[.slice A1 n1 c1, .int .i64 p1, .int .i64 i1] 26)).alloc' (.cells #[.slice A2 n2 c2, .int .i64 p2, .int .i64 i2] 26))
  have RX := Lib.hid ((Blk.new W 26 #[.slice A1 n1 c1, .int .i64 p1, .int .i64 i1]).alloc (.cells #[.slice A2 n2 c2, .int .i64 p2, .int .i64 i2] 26))
  have OX := Lib.hid (show Blk ((W.alloc (.cells #[.slice A1 n1 c1, .int .i64 p1, .int .i64 i1] 26)).alloc (.cells #[.slice A2 n2 c2, .int .i64 p2, .int .i64 i2] 26)) (W.heap.size + 1) 26 #[.slice A2 n2 c2, .int .i64 p2, .int .i64 i2] from by
    have := Blk.new (W.alloc (.cells #[.slice A1 n1 c1, .int .i64 p1, .int .i64 i1] 26)) 26 #[.slice A2 n2 c2, .int .i64 p2, .int .i64 i2]
    simpa using this)
  have BW := Lib.hid (bthen (balloc W (.cells #[.slice A1 n1 c1, .int .i64 p1, .int .i64 i1] 26)) (balloc _ (.cells #[.slice A2 n2 c2, .int .i64 p2, .int .i64 i2] 26)))
  clear hI1 hI2 hL0
  go_enter Try.func12, Try.ntmps12
  go_wp2_with fail
  refine (small_any A1 n1 c1 p1 i1 _ hn1).mono ?_
  rintro e wa ⟨rfl, hb⟩
  have RI := Lib.hid (RI.out.ext hb); have OI := Lib.hid (OI.out.ext hb); have LI := Lib.hid (LI.out.ext hb)
  have RX := Lib.hid (RX.out.below hb RX.out.lt); have OX := Lib.hid (OX.out.below hb OX.out.lt); have BW := Lib.hid (bthen BW.out hb)
  clear hb
  have q0 := OX.out.cell 0; have q1 := OX.out.cell 1; have q2 := OX.out.cell 2
  simp at q0 q1 q2
  have hlq := OX.out.lt
  by_cases h1 : (n1 : Int) ≤ 800
  · rw [decide_eq_true h1]
    go_wp2_with fail
    refine (small_any A2 n2 c2 p2 i2 _ hn2).mono ?_
    rintro e w ⟨rfl, hb⟩
    have RI := Lib.hid (RI.out.ext hb); have OI := Lib.hid (OI.out.ext hb); have LI := Lib.hid (LI.out.ext hb)
    have RX := Lib.hid (RX.out.below hb RX.out.lt); have OX := Lib.hid (OX.out.below hb OX.out.lt); have BW := Lib.hid (bthen BW.out hb)
    clear hb q0 q1 q2 hlq
    by_cases h2 : (n2 : Int) ≤ 800
    · rw [decide_eq_true h2]
      have RB := Lib.hid (show Lc w.heap.size w W.heap.size ⟨A1, n1, c1, ⟨L1, p1, i1⟩⟩ from ⟨RX.out, CR.In.old RI.out, Nat.ne_of_lt RX.out.lt⟩)
      have OB := Lib.hid (show Lc w.heap.size w (W.heap.size + 1) ⟨A2, n2, c2, ⟨L2, p2, i2⟩⟩ from ⟨OX.out, CR.In.old OI.out, Nat.ne_of_lt OX.out.lt⟩)
      have hL := LI.out
      clear RI OI LI RX OX
      go_wp2_with fail
      refine (new_any A0 n0 c0 L w hL hc0 hn0).mono ?_
      rintro e w1 ⟨rfl, hS1, hb1⟩
      have hpl := hS1.lt
      clear hL
      go_wp2_with fail
      refine (srcCurve2_any w.heap.size 9 w1 hS1 (by omega) (by omega)).mono ?_
      rintro e w2 ⟨f, A, n, c, hD, hcf, rfl, hI, hA, hS2, hk2⟩
      go_wp2_with fail
      refine (srcCurve2_any w.heap.size 9 w2 hS2 (by omega) (by omega)).mono ?_
      rintro e w3 ⟨g, B, m, d, hD2, hcg, rfl, hI2, hB, hS3, hk3⟩
      have E := Lib.hid (Env2.drawn (c := c) (d := d) (kstep (Kept.of hb1) hk2) hI hA hpl hI2 hB hS2.lt hS3 hk3)
      have hn : n ≤ 20 := by have h1 := hD.len; have h2 : f.vals.length = n := hI.1; have : (9 : Int).toNat = 9 := rfl; omega
      have hm : m ≤ 20 := by have h1 := hD2.len; have h2 : g.vals.length = m := hI2.1; have : (9 : Int).toNat = 9 := rfl; omega
      have RB := Lib.hid (((((RB.out.below hb1).kept hk2).kept hk3).alloc (.cells #[.slice A n c, .int .i64 f.per, .int .i64 f.inc] 26)).alloc (.cells #[.slice B m d, .int .i64 g.per, .int .i64 g.inc] 26))
      have OB := Lib.hid (((((OB.out.below hb1).kept hk2).kept hk3).alloc (.cells #[.slice A n c, .int .i64 f.per, .int .i64 f.inc] 26)).alloc (.cells #[.slice B m d, .int .i64 g.per, .int .i64 g.inc] 26))
      have hp3 : w.heap.size < w3.heap.size := hS3.lt
      clear hD hI hA hS1 hS2 hk2 hb1 hpl hD2 hI2 hB hS3 hk3
      obtain ⟨f0, f1, f2, g0, g1, g2, hlf, hlg, hlp⟩ := E.out.cells
      obtain ⟨r0, r1, r2, hlr⟩ := RB.out.cells
      obtain ⟨q0, q1, q2, hlq⟩ := OB.out.cells
      go_upto_region 5 with fail
      go_cut [9, 10, 11, 56, 57, 58] (fun s9 s10 s11 s56 s57 s58 wx => ∃ (b : Nat) (xs : List CR), s57 = .int .i64 5 ∧ s58 = .int .i64 0 ∧ s9 = .pointer (some ⟨w.heap.size, 0, none⟩) ∧ s10 = .pointer (some ⟨w3.heap.size, 0, none⟩) ∧ s11 = .pointer (some ⟨w3.heap.size + 1, 0, none⟩) ∧ s56 = .slice (some ⟨b, 0, none⟩) 5 5 ∧ xs.length = 5 ∧ (∀ x ∈ xs, x.n ≤ 1000 ∧ x.n ≤ x.c) ∧ CE w.heap.size w wx b xs w3.heap.size ⟨A, n, c, f⟩ (w3.heap.size + 1) ⟨B, m, d, g⟩ (W.heap.size + 1) ⟨A2, n2, c2, ⟨L2, p2, i2⟩⟩)
      case first =>
        go_region_held3 (fun w' => (w'.cell? ⟨W.heap.size, 0, none⟩ = some (.slice A1 n1 c1) ∧ w'.cell? ⟨W.heap.size, 1, none⟩ = some (.int .i64 p1) ∧ w'.cell? ⟨W.heap.size, 2, none⟩ = some (.int .i64 i1)) ∧ (w'.cell? ⟨W.heap.size + 1, 0, none⟩ = some (.slice A2 n2 c2) ∧ w'.cell? ⟨W.heap.size + 1, 1, none⟩ = some (.int .i64 p2) ∧ w'.cell? ⟨W.heap.size + 1, 2, none⟩ = some (.int .i64 i2)) ∧ (w'.cell? ⟨w3.heap.size, 0, none⟩ = some (.slice A n c) ∧ w'.cell? ⟨w3.heap.size, 1, none⟩ = some (.int .i64 f.per) ∧ w'.cell? ⟨w3.heap.size, 2, none⟩ = some (.int .i64 f.inc)) ∧ w'.cell? ⟨w3.heap.size + 1, 0, none⟩ = some (.slice B m d) ∧ w'.cell? ⟨w3.heap.size + 1, 1, none⟩ = some (.int .i64 g.per) ∧ w'.cell? ⟨w3.heap.size + 1, 2, none⟩ = some (.int .i64 g.inc)) (first | go_keep)
          (first
            | (go_at_call_of 26 (Value.agg #[.slice A n c, .int .i64 f.per, .int .i64 f.inc])
               refine (srcBent2_any w.heap.size A n c f.per f.inc f.vals _ (by exact E.out.s) (by exact E.out.lf.ints) (by omega)).mono ?_
               rintro q w7 ⟨gB, AB, nB, cB, hlB, hcB, rfl, hIB, hBB, hSB, hkB⟩
               have hp7 := E.out.s.lt
               have hnB : nB ≤ 1000 := by have h2 : gB.vals.length = nB := hIB.1; omega
               have E := Lib.hid (E.out.kept hSB (by first | exact hkB | exact kofdrew hkB)); have RB := Lib.hid (RB.out.kept (by first | exact hkB | exact kofdrew hkB)); have OB := Lib.hid (OB.out.kept (by first | exact hkB | exact kofdrew hkB))
               have hX := (show (CR.mk AB nB cB gB).In w.heap.size w7 from CR.In.new hIB hBB (by first | exact hp7 | (simp; omega)))
               have XB := Lib.hid hX
               clear hIB hBB hSB hkB hX hlB
               clear f0 f1 f2 g0 g1 g2 hlf hlg hlp
               clear r0 r1 r2 hlr q0 q1 q2 hlq
               obtain ⟨f0, f1, f2, g0, g1, g2, hlf, hlg, hlp⟩ := E.out.cells
               obtain ⟨r0, r1, r2, hlr⟩ := RB.out.cells
               obtain ⟨q0, q1, q2, hlq⟩ := OB.out.cells
               dsimp only)
            | (go_at_call_of 26 (Value.agg #[.slice B m d, .int .i64 g.per, .int .i64 g.inc])
               refine (srcBent2_any w.heap.size B m d g.per g.inc g.vals _ (by exact E.out.s) (by exact E.out.lg.ints) (by omega)).mono ?_
               rintro q w8 ⟨gC, AC, nC, cC, hlC, hcC, rfl, hIC, hBC, hSC, hkC⟩
               have hnC : nC ≤ 1000 := by have h2 : gC.vals.length = nC := hIC.1; omega
               have E := Lib.hid (E.out.kept hSC (by first | exact hkC | exact kofdrew hkC)); have RB := Lib.hid (RB.out.kept (by first | exact hkC | exact kofdrew hkC)); have OB := Lib.hid (OB.out.kept (by first | exact hkC | exact kofdrew hkC)); have XB := Lib.hid (XB.out.kept (by first | exact hkC | exact kofdrew hkC))
               have IC := Lib.hid (show Ints w8 w8.heap.size AC nC gC.vals from hIC)
               clear hIC hBC hSC hkC hlC
               clear f0 f1 f2 g0 g1 g2 hlf hlg hlp
               clear r0 r1 r2 hlr q0 q1 q2 hlq
               obtain ⟨f0, f1, f2, g0, g1, g2, hlf, hlg, hlp⟩ := E.out.cells
               obtain ⟨r0, r1, r2, hlr⟩ := RB.out.cells
               obtain ⟨q0, q1, q2, hlq⟩ := OB.out.cells
               dsimp only)
            | (go_at_call 26
               refine (srcBent2_any w.heap.size AC nC cC gC.per gC.inc gC.vals _ (by exact E.out.s) (by exact IC.out) (by omega)).mono ?_
               rintro q w9 ⟨gD, AD, nD, cD, hlD, hcD, rfl, hID, hBD, hSD, hkD⟩
               have hnD : nD ≤ 1000 := by have h2 : gD.vals.length = nD := hID.1; omega
               have hp9 := E.out.s.lt
               have hX := (show (CR.mk AD nD cD gD).In w.heap.size w9 from CR.In.new hID hBD (by first | exact hp9 | (simp; omega)))
               have E := Lib.hid (E.out.kept hSD (by first | exact hkD | exact kofdrew hkD)); have RB := Lib.hid (RB.out.kept (by first | exact hkD | exact kofdrew hkD)); have OB := Lib.hid (OB.out.kept (by first | exact hkD | exact kofdrew hkD)); have XB := Lib.hid (XB.out.kept (by first | exact hkD | exact kofdrew hkD))
               have XD := Lib.hid hX
               clear hID hBD hSD hkD hlD hX IC
               clear f0 f1 f2 g0 g1 g2 hlf hlg hlp
               clear r0 r1 r2 hlr q0 q1 q2 hlq
               obtain ⟨f0, f1, f2, g0, g1, g2, hlf, hlg, hlp⟩ := E.out.cells
               obtain ⟨r0, r1, r2, hlr⟩ := RB.out.cells
               obtain ⟨q0, q1, q2, hlq⟩ := OB.out.cells
               dsimp only))
        all_goals
          go_wp2_with fail
          go_meet
          exact ⟨w9.heap.size, [⟨A1, n1, c1, ⟨L1, p1, i1⟩⟩, ⟨A2, n2, c2, ⟨L2, p2, i2⟩⟩, ⟨A, n, c, f⟩, ⟨AB, nB, cB, gB⟩, ⟨AD, nD, cD, gD⟩], rfl, rfl, rfl, rfl, rfl, rfl, rfl, (by
            intro x hx
            simp only [List.mem_cons, List.not_mem_nil, or_false] at hx
            rcases hx with rfl | rfl | rfl | rfl | rfl <;> (simp only; omega)), E.out.s.alloc _, kall E.out.k _, ⟨Blk.new _ _ _, (by
            intro x hx
            simp only [List.mem_cons, List.not_mem_nil, or_false] at hx
            rcases hx with rfl | rfl | rfl | rfl | rfl
            · exact RB.out.inn.alloc _
            · exact OB.out.inn.alloc _
            · exact (E.out.lf.lc).inn.alloc _
            · exact XB.out.alloc _
            · exact XD.out.alloc _), Nat.ne_of_gt E.out.s.lt⟩, (E.out.lf.lc).alloc _, (E.out.lg.lc).alloc _, OB.out.alloc _⟩
      case rest =>
        obtain ⟨b, xs, rfl, rfl, rfl, rfl, rfl, rfl, hxl, hxn, hE⟩ := hcut
        clear E RB OB
        clear f0 f1 f2 g0 g1 g2 hlf hlg hlp
        clear r0 r1 r2 hlr q0 q1 q2 hlq
        have E := Lib.hid hE; have HXL := Lib.hid hxl; have HXN := Lib.hid hxn
        clear hE hxl hxn
        go_wp2_with fail
        go_loopg [58] 5 (fun gg s58 wx => ∃ k : Nat, k + gg = 5 ∧ s58 = .int .i64 k ∧ CE w.heap.size w wx b xs w3.heap.size ⟨A, n, c, f⟩ (w3.heap.size + 1) ⟨B, m, d, g⟩ (W.heap.size + 1) ⟨A2, n2, c2, ⟨L2, p2, i2⟩⟩)
        case atStart => exact ⟨0, rfl, rfl, E.out⟩
        case round =>
          clear E
          obtain ⟨k, hkg, rfl, hE⟩ := hrel
          have E := Lib.hid hE
          clear hE
          by_cases hk : k < 5
          · have hki : (k : Int) < 5 := by omega
            obtain ⟨X, hXm, hXi, k0, k1, k2⟩ := E.out.row.get (k := k) (by rw [HXL.out]; exact hk)
            have hlb := E.out.row.lt
            have LX := Lib.hid (Lc.new hXi E.out.s.lt)
            obtain ⟨hXn, hXc⟩ := HXN.out X hXm
            go_wp2_with fail
            have E := Lib.hid (E.out.alloc (.cells #[.slice X.A X.n X.c, .int .i64 X.f.per, .int .i64 X.f.inc] 26))
            obtain ⟨wo, hwo⟩ : ∃ wo : World, wo = wr := ⟨_, rfl⟩
            subst hwo
            obtain ⟨go, hgo⟩ : ∃ go : Nat, go = gk := ⟨_, rfl⟩
            subst hgo
            clear k0 k1 k2 hXi hlb hXm
            obtain ⟨x0, x1, x2, hlx⟩ := LX.out.cells
            refine (normal_any X.A X.n X.c X.f.per X.f.inc X.f.vals _ (by exact LX.out.inn.ints) (by omega)).mono ?_
            rintro e w4 ⟨a, er, hN, AA, na, ca, rfl, hIA, hgA, hbq⟩
            have HN := Lib.hid (NormR.of hN)
            have E := Lib.hid ((E.out.below hbq).alloc (.cells #[.slice AA na ca, .int .i64 a.per, .int .i64 a.inc] 26))
            have LX := Lib.hid ((LX.out.below hbq).alloc (.cells #[.slice AA na ca, .int .i64 a.per, .int .i64 a.inc] 26))
            have IA := Lib.hid (hIA.alloc' (.cells #[.slice AA na ca, .int .i64 a.per, .int .i64 a.inc] 26))
            have BA := Lib.hid (Blk.new w4 26 #[.slice AA na ca, .int .i64 a.per, .int .i64 a.inc])
            clear hN hIA hgA hbq
            clear x0 x1 x2 hlx
            obtain ⟨x0, x1, x2, hlx⟩ := LX.out.cells
            go_wp2_with fail
            refine (refNormal_any X.A X.n X.c X.f.per X.f.inc X.f.vals _ (by exact LX.out.inn.ints) hXc (by omega)).mono ?_
            rintro e w5 ⟨a2, er2, hN2, AB, nb, cb, rfl, hIB, hgB, hbq⟩
            obtain ⟨rfl, rfl⟩ := HN.out.unique hN2
            have hna : na ≤ 1000 := by have h1 := hN2.len; have h2 := IA.out.1; omega
            have hnb : nb ≤ 1000 := by have h1 := hN2.len; have h2 := hIB.1; omega
            have E := Lib.hid ((E.out.below hbq).alloc (.cells #[.slice AB nb cb, .int .i64 a.per, .int .i64 a.inc] 26))
            have LX := Lib.hid ((LX.out.below hbq).alloc (.cells #[.slice AB nb cb, .int .i64 a.per, .int .i64 a.inc] 26))
            have IA := Lib.hid ((IA.out.ext hbq).alloc' (.cells #[.slice AB nb cb, .int .i64 a.per, .int .i64 a.inc] 26))
            have BA := Lib.hid ((BA.out.below hbq BA.out.lt).alloc (.cells #[.slice AB nb cb, .int .i64 a.per, .int .i64 a.inc] 26))
            have IB := Lib.hid (hIB.alloc' (.cells #[.slice AB nb cb, .int .i64 a.per, .int .i64 a.inc] 26))
            have BB := Lib.hid (Blk.new w5 26 #[.slice AB nb cb, .int .i64 a.per, .int .i64 a.inc])
            clear hN2 HN hIB hgB hbq
            clear x0 x1 x2 hlx
            obtain ⟨x0, x1, x2, hlx⟩ := LX.out.cells
            go_wp2_with fail
            obtain ⟨sx, sy, sz, hsl⟩ : ∃ sx sy sz, Cv.slope ⟨X.f.vals, X.f.per, X.f.inc⟩ = (sx, sy, sz) := ⟨_, _, _, rfl⟩
            have HSL := Lib.hid hsl
            clear hsl
            refine (slope_any X.A X.n X.c X.f.per X.f.inc X.f.vals _ (by exact LX.out.inn.ints) (by omega)).mono ?_
            unfold RetSl
            rw [HSL.out]
            rintro e w6 ⟨rfl, hbq⟩
            have E := Lib.hid ((E.out.below hbq).alloc (.cells #[.int .i64 sx, .int .i64 sy] 49))
            have LX := Lib.hid ((LX.out.below hbq).alloc (.cells #[.int .i64 sx, .int .i64 sy] 49))
            have IA := Lib.hid ((IA.out.ext hbq).alloc' (.cells #[.int .i64 sx, .int .i64 sy] 49))
            have IB := Lib.hid ((IB.out.ext hbq).alloc' (.cells #[.int .i64 sx, .int .i64 sy] 49))
            have BA := Lib.hid ((BA.out.below hbq BA.out.lt).alloc (.cells #[.int .i64 sx, .int .i64 sy] 49))
            have BB := Lib.hid ((BB.out.below hbq BB.out.lt).alloc (.cells #[.int .i64 sx, .int .i64 sy] 49))
            have BP := Lib.hid (Blk.new w6 49 #[.int .i64 sx, .int .i64 sy])
            clear hbq
            clear x0 x1 x2 hlx
            obtain ⟨x0, x1, x2, hlx⟩ := LX.out.cells
            go_wp2_with fail
            refine (refSlope_any X.A X.n X.c X.f.per X.f.inc X.f.vals _ (by exact LX.out.inn.ints) (by omega)).mono ?_
            unfold RetSl
            rw [HSL.out]
            rintro e w7 ⟨rfl, hbq⟩
            have E := Lib.hid ((E.out.below hbq).alloc (.cells #[.int .i64 sx, .int .i64 sy] 49))
            have LX := Lib.hid ((LX.out.below hbq).alloc (.cells #[.int .i64 sx, .int .i64 sy] 49))
            have IA := Lib.hid ((IA.out.ext hbq).alloc' (.cells #[.int .i64 sx, .int .i64 sy] 49))
            have IB := Lib.hid ((IB.out.ext hbq).alloc' (.cells #[.int .i64 sx, .int .i64 sy] 49))
            have BA := Lib.hid ((BA.out.below hbq BA.out.lt).alloc (.cells #[.int .i64 sx, .int .i64 sy] 49))
            have BB := Lib.hid ((BB.out.below hbq BB.out.lt).alloc (.cells #[.int .i64 sx, .int .i64 sy] 49))
            have BP := Lib.hid ((BP.out.below hbq BP.out.lt).alloc (.cells #[.int .i64 sx, .int .i64 sy] 49))
            have BQ := Lib.hid (Blk.new w7 49 #[.int .i64 sx, .int .i64 sy])
            clear hbq HSL
            clear x0 x1 x2 hlx
            obtain ⟨x0, x1, x2, hlx⟩ := LX.out.cells
            obtain ⟨a0, a1, a2, hla⟩ := BA.out.cells3
            obtain ⟨b0, b1, b2, hlb⟩ := BB.out.cells3
            obtain ⟨u0, u1, hlu⟩ := BP.out.cells2
            obtain ⟨v0, v1, hlv⟩ := BQ.out.cells2
            have e1 : (er != er) = false := by simp
            have e2 : (sx == sx) = true := by simp
            have e3 : (sy == sy) = true := by simp
            have e4 : (sz != sz) = false := by simp
            go_upto_region 12 with fail
            go_cut [121] (fun s121 wx => s121 = .bool false ∧ CE w.heap.size w wx b xs w3.heap.size ⟨A, n, c, f⟩ (w3.heap.size + 1) ⟨B, m, d, g⟩ (W.heap.size + 1) ⟨A2, n2, c2, ⟨L2, p2, i2⟩⟩ ∧ Lc w.heap.size wx wo.heap.size X)
            case first =>
             as_aux_lemma =>
             go_region_held3 (fun w' => (w'.cell? ⟨wo.heap.size, 0, none⟩ = some (.slice X.A X.n X.c) ∧ w'.cell? ⟨wo.heap.size, 1, none⟩ = some (.int .i64 X.f.per) ∧ w'.cell? ⟨wo.heap.size, 2, none⟩ = some (.int .i64 X.f.inc)) ∧ (w'.cell? ⟨w4.heap.size, 0, none⟩ = some (.slice AA na ca) ∧ w'.cell? ⟨w4.heap.size, 1, none⟩ = some (.int .i64 a.per) ∧ w'.cell? ⟨w4.heap.size, 2, none⟩ = some (.int .i64 a.inc)) ∧ (w'.cell? ⟨w5.heap.size, 0, none⟩ = some (.slice AB nb cb) ∧ w'.cell? ⟨w5.heap.size, 1, none⟩ = some (.int .i64 a.per) ∧ w'.cell? ⟨w5.heap.size, 2, none⟩ = some (.int .i64 a.inc)) ∧ (w'.cell? ⟨w6.heap.size, 0, none⟩ = some (.int .i64 sx) ∧ w'.cell? ⟨w6.heap.size, 1, none⟩ = some (.int .i64 sy)) ∧ w'.cell? ⟨w7.heap.size, 0, none⟩ = some (.int .i64 sx) ∧ w'.cell? ⟨w7.heap.size, 1, none⟩ = some (.int .i64 sy)) (first | go_keep)
               (first
                 | (go_at_call 20
                    refine (refSame_any AA AB na nb ca cb a.per a.per a.inc a.inc a.vals a.vals _ (by exact IA.out) (by exact IB.out) (by omega) (by omega)).mono ?_
                    rw [show Cv.same ⟨a.vals, a.per, a.inc⟩ ⟨a.vals, a.per, a.inc⟩ = true from (Cv.same_iff _ _).2 rfl]
                    rintro q wq ⟨rfl, hbq⟩
                    have E := Lib.hid (E.out.below (by first | exact hbq | exact bofdrew hbq))
                    have LX := Lib.hid (LX.out.below (by first | exact hbq | exact bofdrew hbq))
                    have IA := Lib.hid (IA.out.ext (by first | exact hbq | exact bofdrew hbq))
                    have IB := Lib.hid (IB.out.ext (by first | exact hbq | exact bofdrew hbq))
                    have BA := Lib.hid (BA.out.below (by first | exact hbq | exact bofdrew hbq) BA.out.lt)
                    have BB := Lib.hid (BB.out.below (by first | exact hbq | exact bofdrew hbq) BB.out.lt)
                    have BP := Lib.hid (BP.out.below (by first | exact hbq | exact bofdrew hbq) BP.out.lt)
                    have BQ := Lib.hid (BQ.out.below (by first | exact hbq | exact bofdrew hbq) BQ.out.lt)
                    clear hbq
                    clear x0 x1 x2 hlx a0 a1 a2 hla b0 b1 b2 hlb u0 u1 hlu v0 v1 hlv
                    obtain ⟨x0, x1, x2, hlx⟩ := LX.out.cells
                    obtain ⟨a0, a1, a2, hla⟩ := BA.out.cells3
                    obtain ⟨b0, b1, b2, hlb⟩ := BB.out.cells3
                    obtain ⟨u0, u1, hlu⟩ := BP.out.cells2
                    obtain ⟨v0, v1, hlv⟩ := BQ.out.cells2
                    dsimp only)
                 | (go_at_call 45
                    refine (valid_any X.A X.n X.c X.f.per X.f.inc X.f.vals _ (by exact LX.out.inn.ints) (by omega)).mono ?_
                    rintro q wq ⟨rfl, hbq⟩
                    have E := Lib.hid (E.out.below (by first | exact hbq | exact bofdrew hbq))
                    have LX := Lib.hid (LX.out.below (by first | exact hbq | exact bofdrew hbq))
                    have IA := Lib.hid (IA.out.ext (by first | exact hbq | exact bofdrew hbq))
                    have IB := Lib.hid (IB.out.ext (by first | exact hbq | exact bofdrew hbq))
                    have BA := Lib.hid (BA.out.below (by first | exact hbq | exact bofdrew hbq) BA.out.lt)
                    have BB := Lib.hid (BB.out.below (by first | exact hbq | exact bofdrew hbq) BB.out.lt)
                    have BP := Lib.hid (BP.out.below (by first | exact hbq | exact bofdrew hbq) BP.out.lt)
                    have BQ := Lib.hid (BQ.out.below (by first | exact hbq | exact bofdrew hbq) BQ.out.lt)
                    clear hbq
                    clear x0 x1 x2 hlx a0 a1 a2 hla b0 b1 b2 hlb u0 u1 hlu v0 v1 hlv
                    obtain ⟨x0, x1, x2, hlx⟩ := LX.out.cells
                    obtain ⟨a0, a1, a2, hla⟩ := BA.out.cells3
                    obtain ⟨b0, b1, b2, hlb⟩ := BB.out.cells3
                    obtain ⟨u0, u1, hlu⟩ := BP.out.cells2
                    obtain ⟨v0, v1, hlv⟩ := BQ.out.cells2
                    dsimp only)
                 | (go_at_call 35
                    refine (refValid_any X.A X.n X.c X.f.per X.f.inc X.f.vals _ (by exact LX.out.inn.ints) (by omega)).mono ?_
                    rintro q wq ⟨rfl, hbq⟩
                    have e5 : (Cv.okB ⟨X.f.vals, X.f.per, X.f.inc⟩ != Cv.okB ⟨X.f.vals, X.f.per, X.f.inc⟩) = false := by simp
                    have E := Lib.hid (E.out.below (by first | exact hbq | exact bofdrew hbq))
                    have LX := Lib.hid (LX.out.below (by first | exact hbq | exact bofdrew hbq))
                    have IA := Lib.hid (IA.out.ext (by first | exact hbq | exact bofdrew hbq))
                    have IB := Lib.hid (IB.out.ext (by first | exact hbq | exact bofdrew hbq))
                    have BA := Lib.hid (BA.out.below (by first | exact hbq | exact bofdrew hbq) BA.out.lt)
                    have BB := Lib.hid (BB.out.below (by first | exact hbq | exact bofdrew hbq) BB.out.lt)
                    have BP := Lib.hid (BP.out.below (by first | exact hbq | exact bofdrew hbq) BP.out.lt)
                    have BQ := Lib.hid (BQ.out.below (by first | exact hbq | exact bofdrew hbq) BQ.out.lt)
                    clear hbq
                    clear x0 x1 x2 hlx a0 a1 a2 hla b0 b1 b2 hlb u0 u1 hlu v0 v1 hlv
                    obtain ⟨x0, x1, x2, hlx⟩ := LX.out.cells
                    obtain ⟨a0, a1, a2, hla⟩ := BA.out.cells3
                    obtain ⟨b0, b1, b2, hlb⟩ := BB.out.cells3
                    obtain ⟨u0, u1, hlu⟩ := BP.out.cells2
                    obtain ⟨v0, v1, hlv⟩ := BQ.out.cells2
                    dsimp only)
                 | (go_at_call 41
                    refine (finite2_any X.A X.n X.c X.f.per X.f.inc X.f.vals _ (by exact LX.out.inn.ints) (by omega)).mono ?_
                    rintro q wq ⟨rfl, hbq⟩
                    have E := Lib.hid (E.out.below (by first | exact hbq | exact bofdrew hbq))
                    have LX := Lib.hid (LX.out.below (by first | exact hbq | exact bofdrew hbq))
                    have IA := Lib.hid (IA.out.ext (by first | exact hbq | exact bofdrew hbq))
                    have IB := Lib.hid (IB.out.ext (by first | exact hbq | exact bofdrew hbq))
                    have BA := Lib.hid (BA.out.below (by first | exact hbq | exact bofdrew hbq) BA.out.lt)
                    have BB := Lib.hid (BB.out.below (by first | exact hbq | exact bofdrew hbq) BB.out.lt)
                    have BP := Lib.hid (BP.out.below (by first | exact hbq | exact bofdrew hbq) BP.out.lt)
                    have BQ := Lib.hid (BQ.out.below (by first | exact hbq | exact bofdrew hbq) BQ.out.lt)
                    clear hbq
                    clear x0 x1 x2 hlx a0 a1 a2 hla b0 b1 b2 hlb u0 u1 hlu v0 v1 hlv
                    obtain ⟨x0, x1, x2, hlx⟩ := LX.out.cells
                    obtain ⟨a0, a1, a2, hla⟩ := BA.out.cells3
                    obtain ⟨b0, b1, b2, hlb⟩ := BB.out.cells3
                    obtain ⟨u0, u1, hlu⟩ := BP.out.cells2
                    obtain ⟨v0, v1, hlv⟩ := BQ.out.cells2
                    dsimp only)
                 | (go_at_call 46
                    refine (refFinite_any X.A X.n X.c X.f.per X.f.inc X.f.vals _ (by exact LX.out.inn.ints) (by omega)).mono ?_
                    rintro q wq ⟨rfl, hbq⟩
                    have e6 : (Cv.finB ⟨X.f.vals, X.f.per, X.f.inc⟩ != Cv.finB ⟨X.f.vals, X.f.per, X.f.inc⟩) = false := by simp
                    have E := Lib.hid (E.out.below (by first | exact hbq | exact bofdrew hbq))
                    have LX := Lib.hid (LX.out.below (by first | exact hbq | exact bofdrew hbq))
                    have IA := Lib.hid (IA.out.ext (by first | exact hbq | exact bofdrew hbq))
                    have IB := Lib.hid (IB.out.ext (by first | exact hbq | exact bofdrew hbq))
                    have BA := Lib.hid (BA.out.below (by first | exact hbq | exact bofdrew hbq) BA.out.lt)
                    have BB := Lib.hid (BB.out.below (by first | exact hbq | exact bofdrew hbq) BB.out.lt)
                    have BP := Lib.hid (BP.out.below (by first | exact hbq | exact bofdrew hbq) BP.out.lt)
                    have BQ := Lib.hid (BQ.out.below (by first | exact hbq | exact bofdrew hbq) BQ.out.lt)
                    clear hbq
                    clear x0 x1 x2 hlx a0 a1 a2 hla b0 b1 b2 hlb u0 u1 hlu v0 v1 hlv
                    obtain ⟨x0, x1, x2, hlx⟩ := LX.out.cells
                    obtain ⟨a0, a1, a2, hla⟩ := BA.out.cells3
                    obtain ⟨b0, b1, b2, hlb⟩ := BB.out.cells3
                    obtain ⟨u0, u1, hlu⟩ := BP.out.cells2
                    obtain ⟨v0, v1, hlv⟩ := BQ.out.cells2
                    dsimp only)
                 | (go_at_call 39
                    refine (cstart_any X.A X.n X.c X.f.per X.f.inc X.f.vals _ (by exact LX.out.inn.ints) (by omega)).mono ?_
                    rintro q wq ⟨r1, hr1, rfl, hbq⟩
                    have HR := Lib.hid hr1
                    clear hr1
                    have E := Lib.hid (E.out.below (by first | exact hbq | exact bofdrew hbq))
                    have LX := Lib.hid (LX.out.below (by first | exact hbq | exact bofdrew hbq))
                    have IA := Lib.hid (IA.out.ext (by first | exact hbq | exact bofdrew hbq))
                    have IB := Lib.hid (IB.out.ext (by first | exact hbq | exact bofdrew hbq))
                    have BA := Lib.hid (BA.out.below (by first | exact hbq | exact bofdrew hbq) BA.out.lt)
                    have BB := Lib.hid (BB.out.below (by first | exact hbq | exact bofdrew hbq) BB.out.lt)
                    have BP := Lib.hid (BP.out.below (by first | exact hbq | exact bofdrew hbq) BP.out.lt)
                    have BQ := Lib.hid (BQ.out.below (by first | exact hbq | exact bofdrew hbq) BQ.out.lt)
                    clear hbq
                    clear x0 x1 x2 hlx a0 a1 a2 hla b0 b1 b2 hlb u0 u1 hlu v0 v1 hlv
                    obtain ⟨x0, x1, x2, hlx⟩ := LX.out.cells
                    obtain ⟨a0, a1, a2, hla⟩ := BA.out.cells3
                    obtain ⟨b0, b1, b2, hlb⟩ := BB.out.cells3
                    obtain ⟨u0, u1, hlu⟩ := BP.out.cells2
                    obtain ⟨v0, v1, hlv⟩ := BQ.out.cells2
                    dsimp only)
                 | (go_at_call 47
                    refine (refStart_any X.A X.n X.c X.f.per X.f.inc X.f.vals _ (by exact LX.out.inn.ints) hXc (by omega)).mono ?_
                    rintro q wq ⟨r2, hr2, rfl, hbq⟩
                    obtain rfl := HR.out.unique hr2
                    clear hr2 HR
                    have e7 : (r1 != r1) = false := by simp
                    have E := Lib.hid (E.out.below (by first | exact hbq | exact bofdrew hbq))
                    have LX := Lib.hid (LX.out.below (by first | exact hbq | exact bofdrew hbq))
                    have IA := Lib.hid (IA.out.ext (by first | exact hbq | exact bofdrew hbq))
                    have IB := Lib.hid (IB.out.ext (by first | exact hbq | exact bofdrew hbq))
                    have BA := Lib.hid (BA.out.below (by first | exact hbq | exact bofdrew hbq) BA.out.lt)
                    have BB := Lib.hid (BB.out.below (by first | exact hbq | exact bofdrew hbq) BB.out.lt)
                    have BP := Lib.hid (BP.out.below (by first | exact hbq | exact bofdrew hbq) BP.out.lt)
                    have BQ := Lib.hid (BQ.out.below (by first | exact hbq | exact bofdrew hbq) BQ.out.lt)
                    clear hbq
                    clear x0 x1 x2 hlx a0 a1 a2 hla b0 b1 b2 hlb u0 u1 hlu v0 v1 hlv
                    obtain ⟨x0, x1, x2, hlx⟩ := LX.out.cells
                    obtain ⟨a0, a1, a2, hla⟩ := BA.out.cells3
                    obtain ⟨b0, b1, b2, hlb⟩ := BB.out.cells3
                    obtain ⟨u0, u1, hlu⟩ := BP.out.cells2
                    obtain ⟨v0, v1, hlv⟩ := BQ.out.cells2
                    dsimp only))
             all_goals
               go_wp2_with fail
               go_meet
               exact ⟨rfl, E.out, LX.out⟩
            case rest =>
              obtain ⟨rfl, hE, hLX⟩ := hcut
              clear E LX IA IB BA BB BP BQ e1 e2 e3 e4
              clear x0 x1 x2 hlx a0 a1 a2 hla b0 b1 b2 hlb u0 u1 hlu v0 v1 hlv
              have E := Lib.hid hE; have LX := Lib.hid hLX
              clear hE hLX
              go_wp2_with fail
              refine (n_any w.heap.size 40 _ (by exact E.out.s) (by omega) (by omega)).mono ?_
              rintro q w8 ⟨y, hy0, hy1, rfl, hS, hkk⟩
              have E := Lib.hid (E.out.kept hS hkk); have LX := Lib.hid (LX.out.kept hkk)
              clear hS hkk hy0 hy1
              have hpw := E.out.s.lt
              go_wp2_with fail
              refine (pick_any w.heap.size _ 3 3 [-1, 1048576, 1048577] _ (by exact E.out.s.alloc _) (by exact ints_lit' _ [-1, 1048576, 1048577] _ (by simp)) (fun b off s e => by cases e; omega) (by omega) (by omega)).mono ?_
              rintro q w9 ⟨⟨jz, hjz, rfl⟩, hS, hkk⟩
              generalize nth [-1, 1048576, 1048577] jz = z at *
              have E := Lib.hid ((E.out.alloc _).kept hS hkk); have LX := Lib.hid ((LX.out.alloc _).kept hkk)
              clear hS hkk hjz hpw
              have NI := Lib.hid (ints_lit w9 [t, y, z])
              go_wp2_with fail
              go_loopg [130] 3 (fun gg s130 wx => ∃ j : Nat, j + gg = 3 ∧ s130 = .int .i64 j ∧ CE w.heap.size w wx b xs w3.heap.size ⟨A, n, c, f⟩ (w3.heap.size + 1) ⟨B, m, d, g⟩ (W.heap.size + 1) ⟨A2, n2, c2, ⟨L2, p2, i2⟩⟩ ∧ Lc w.heap.size wx wo.heap.size X ∧ Ints wx wx.heap.size (some ⟨w9.heap.size, 0, none⟩) 3 [t, y, z])
              case atStart => exact ⟨0, rfl, rfl, E.out.alloc _, LX.out.alloc _, NI.out⟩
              case round =>
                clear E LX NI
                obtain ⟨j, hjg, rfl, hE, hLX, hNI⟩ := hrel
                have E := Lib.hid hE; have LX := Lib.hid hLX; have NI := Lib.hid hNI
                clear hE hLX hNI
                by_cases hj : j < 3
                · as_aux_lemma =>
                  have hji : (j : Int) < 3 := by omega
                  obtain ⟨b', off', he, hbl, hcx⟩ := NI.out.2 (by omega)
                  cases he
                  have hcj := hcx j hj
                  simp only [Nat.zero_add] at hcj
                  clear hcx
                  obtain ⟨v, hv⟩ : ∃ v, v = nth [t, y, z] j := ⟨_, rfl⟩
                  rw [← hv] at hcj
                  clear hv
                  obtain ⟨x0, x1, x2, hlx⟩ := LX.out.cells
                  obtain ⟨va, ve, hve⟩ : ∃ va ve, Cv.value ⟨X.f.vals, X.f.per, X.f.inc⟩ v = (va, ve) := ⟨_, _, rfl⟩
                  have HV := Lib.hid hve
                  clear hve
                  go_wp2_with fail
                  refine (value_any X.A X.n X.c X.f.per X.f.inc v X.f.vals _ (by exact LX.out.inn.ints) (by omega)).mono ?_
                  rw [HV.out]
                  rintro q wq ⟨rfl, hbq⟩
                  have E := Lib.hid (E.out.below hbq); have LX := Lib.hid (LX.out.below hbq); have NI := Lib.hid (NI.out.ext hbq)
                  clear hbq hcj hbl
                  clear x0 x1 x2 hlx
                  obtain ⟨x0, x1, x2, hlx⟩ := LX.out.cells
                  go_wp2_with fail
                  refine (refValue_any X.A X.n X.c X.f.per X.f.inc v X.f.vals _ (by exact LX.out.inn.ints) (by omega)).mono ?_
                  rw [HV.out]
                  rintro q wq ⟨rfl, hbq⟩
                  have E := Lib.hid (E.out.below hbq); have LX := Lib.hid (LX.out.below hbq); have NI := Lib.hid (NI.out.ext hbq)
                  clear hbq HV
                  clear x0 x1 x2 hlx
                  have e1 : (va != va) = false := by simp
                  have e2 : (ve != ve) = false := by simp
                  go_wp2_with fail
                  go_roundg (gk - 1)
                  case measure => omega
                  case rel => exact ⟨j + 1, by omega, by go_num, E.out, LX.out, NI.out⟩
                · have hj3 : j = 3 := by omega
                  subst hj3
                  clear hj hjg NI
                  obtain ⟨⟨f0, f1, f2, hlf⟩, ⟨g0, g1, g2, hlg⟩, ⟨q0, q1, q2, hlq⟩⟩ := E.out.cells
                  simp only at f0 f1 f2 g0 g1 g2 q0 q1 q2
                  obtain ⟨wz, hwz⟩ : ∃ wz : World, wz = wr := ⟨_, rfl⟩
                  subst hwz
                  have HYN := Lib.hid (show ∀ y ∈ [(⟨A, n, c, f⟩ : CR), ⟨B, m, d, g⟩, ⟨A2, n2, c2, ⟨L2, p2, i2⟩⟩], y.n ≤ 1000 ∧ y.n ≤ y.c from by
                    intro x hx
                    simp only [List.mem_cons, List.not_mem_nil, or_false] at hx
                    rcases hx with rfl | rfl | rfl <;> (simp only; omega))
                  go_wp2_with fail
                  go_loopg [160] 3 (fun gg s160 wx => ∃ j : Nat, j + gg = 3 ∧ s160 = .int .i64 j ∧ CE w.heap.size w wx b xs w3.heap.size ⟨A, n, c, f⟩ (w3.heap.size + 1) ⟨B, m, d, g⟩ (W.heap.size + 1) ⟨A2, n2, c2, ⟨L2, p2, i2⟩⟩ ∧ Lc w.heap.size wx wo.heap.size X ∧ Row w.heap.size wx wz.heap.size [⟨A, n, c, f⟩, ⟨B, m, d, g⟩, ⟨A2, n2, c2, ⟨L2, p2, i2⟩⟩])
                  case atStart =>
                    exact ⟨0, rfl, rfl, E.out.alloc _, LX.out.alloc _, Blk.new _ _ _, (by
                      intro x hx
                      simp only [List.mem_cons, List.not_mem_nil, or_false] at hx
                      rcases hx with rfl | rfl | rfl
                      · exact E.out.lf.inn.alloc _
                      · exact E.out.lg.inn.alloc _
                      · exact E.out.lo.inn.alloc _), Nat.ne_of_gt E.out.s.lt⟩
                  case round =>
                    clear E LX
                    clear f0 f1 f2 hlf g0 g1 g2 hlg q0 q1 q2 hlq
                    as_aux_lemma =>
                    obtain ⟨j, hjg, rfl, hE, hLX, hRW⟩ := hrel
                    have E := Lib.hid hE; have LX := Lib.hid hLX; have RW := Lib.hid hRW
                    clear hE hLX hRW
                    by_cases hj : j < 3
                    · have hji : (j : Int) < 3 := by omega
                      obtain ⟨Y, hYm, hYi, k0, k1, k2⟩ := RW.out.get (k := j) (by exact hj)
                      obtain ⟨hYn, hYc⟩ := HYN.out Y hYm
                      have LY := Lib.hid (Lc.new hYi E.out.s.lt)
                      obtain ⟨x0, x1, x2, hlx⟩ := LX.out.cells
                      have hlw := RW.out.lt
                      go_wp2_with fail
                      have E := Lib.hid (E.out.alloc (.cells #[.slice Y.A Y.n Y.c, .int .i64 Y.f.per, .int .i64 Y.f.inc] 26))
                      have RW := Lib.hid (RW.out.alloc (.cells #[.slice Y.A Y.n Y.c, .int .i64 Y.f.per, .int .i64 Y.f.inc] 26))
                      have LX := Lib.hid (LX.out.alloc (.cells #[.slice Y.A Y.n Y.c, .int .i64 Y.f.per, .int .i64 Y.f.inc] 26))
                      obtain ⟨wi, hwi⟩ : ∃ wi : World, wi = wr := ⟨_, rfl⟩
                      subst hwi
                      clear x0 x1 x2 hlx k0 k1 k2 hYi hlw hYm
                      obtain ⟨x0, x1, x2, hlx⟩ := LX.out.cells
                      obtain ⟨y0, y1, y2, hly⟩ := LY.out.cells
                      go_region_held3 (fun w' => w'.cell? ⟨wo.heap.size, 0, none⟩ = some (.slice X.A X.n X.c) ∧ w'.cell? ⟨wo.heap.size, 1, none⟩ = some (.int .i64 X.f.per) ∧ w'.cell? ⟨wo.heap.size, 2, none⟩ = some (.int .i64 X.f.inc) ∧ w'.cell? ⟨wi.heap.size, 0, none⟩ = some (.slice Y.A Y.n Y.c) ∧ w'.cell? ⟨wi.heap.size, 1, none⟩ = some (.int .i64 Y.f.per) ∧ w'.cell? ⟨wi.heap.size, 2, none⟩ = some (.int .i64 Y.f.inc)) (first | go_keep)
                        (first
                          | (go_at_call 50
                             refine (same_any X.A Y.A X.n Y.n X.c Y.c X.f.per Y.f.per X.f.inc Y.f.inc X.f.vals Y.f.vals _ (by exact LX.out.inn.ints) (by exact LY.out.inn.ints) (by omega) (by omega)).mono ?_
                             rintro q wq ⟨rfl, hbq⟩
                             have E := Lib.hid (E.out.below (by first | exact hbq | exact bofdrew hbq))
                             have RW := Lib.hid (RW.out.below (by first | exact hbq | exact bofdrew hbq))
                             have LX := Lib.hid (LX.out.below (by first | exact hbq | exact bofdrew hbq))
                             have LY := Lib.hid (LY.out.below (by first | exact hbq | exact bofdrew hbq))
                             clear hbq
                             clear x0 x1 x2 hlx y0 y1 y2 hly
                             obtain ⟨x0, x1, x2, hlx⟩ := LX.out.cells
                             obtain ⟨y0, y1, y2, hly⟩ := LY.out.cells
                             dsimp only)
                          | (go_at_call 20
                             refine (refSame_any X.A Y.A X.n Y.n X.c Y.c X.f.per Y.f.per X.f.inc Y.f.inc X.f.vals Y.f.vals _ (by exact LX.out.inn.ints) (by exact LY.out.inn.ints) (by omega) (by omega)).mono ?_
                             rintro q wq ⟨rfl, hbq⟩
                             have h1 : (Cv.same ⟨X.f.vals, X.f.per, X.f.inc⟩ ⟨Y.f.vals, Y.f.per, Y.f.inc⟩ != Cv.same ⟨X.f.vals, X.f.per, X.f.inc⟩ ⟨Y.f.vals, Y.f.per, Y.f.inc⟩) = false := by simp
                             have E := Lib.hid (E.out.below (by first | exact hbq | exact bofdrew hbq))
                             have RW := Lib.hid (RW.out.below (by first | exact hbq | exact bofdrew hbq))
                             have LX := Lib.hid (LX.out.below (by first | exact hbq | exact bofdrew hbq))
                             have LY := Lib.hid (LY.out.below (by first | exact hbq | exact bofdrew hbq))
                             clear hbq
                             clear x0 x1 x2 hlx y0 y1 y2 hly
                             obtain ⟨x0, x1, x2, hlx⟩ := LX.out.cells
                             obtain ⟨y0, y1, y2, hly⟩ := LY.out.cells
                             dsimp only)
                          | (go_at_call 37
                             refine (equal_any X.A Y.A X.n Y.n X.c Y.c X.f.per X.f.inc Y.f.per Y.f.inc X.f.vals Y.f.vals _ (by exact LX.out.inn.ints) (by exact LY.out.inn.ints) (by omega) (by omega)).mono ?_
                             rintro q wq ⟨ba, hba, rfl, hbq⟩
                             have HBA := Lib.hid hba
                             clear hba
                             have E := Lib.hid (E.out.below (by first | exact hbq | exact bofdrew hbq))
                             have RW := Lib.hid (RW.out.below (by first | exact hbq | exact bofdrew hbq))
                             have LX := Lib.hid (LX.out.below (by first | exact hbq | exact bofdrew hbq))
                             have LY := Lib.hid (LY.out.below (by first | exact hbq | exact bofdrew hbq))
                             clear hbq
                             clear x0 x1 x2 hlx y0 y1 y2 hly
                             obtain ⟨x0, x1, x2, hlx⟩ := LX.out.cells
                             obtain ⟨y0, y1, y2, hly⟩ := LY.out.cells
                             dsimp only)
                          | (go_at_call 51
                             refine (refEqual_any X.A Y.A X.n Y.n X.c Y.c X.f.per X.f.inc Y.f.per Y.f.inc X.f.vals Y.f.vals _ (by exact LX.out.inn.ints) (by exact LY.out.inn.ints) (by omega) (by omega) hXc hYc).mono ?_
                             rintro q wq ⟨bb, hbb, rfl, hbq⟩
                             obtain rfl := HBA.out.unique hbb
                             clear hbb HBA
                             have h4 : (ba != ba) = false := by simp
                             have E := Lib.hid (E.out.below (by first | exact hbq | exact bofdrew hbq))
                             have RW := Lib.hid (RW.out.below (by first | exact hbq | exact bofdrew hbq))
                             have LX := Lib.hid (LX.out.below (by first | exact hbq | exact bofdrew hbq))
                             have LY := Lib.hid (LY.out.below (by first | exact hbq | exact bofdrew hbq))
                             clear hbq
                             clear x0 x1 x2 hlx y0 y1 y2 hly
                             obtain ⟨x0, x1, x2, hlx⟩ := LX.out.cells
                             obtain ⟨y0, y1, y2, hly⟩ := LY.out.cells
                             dsimp only))
                      all_goals
                        go_wp2_with fail
                        go_roundg (gk - 1)
                        case measure => omega
                        case rel => exact ⟨j + 1, by omega, by go_num, E.out, LX.out, RW.out⟩
                    · have hj3 : j = 3 := by omega
                      subst hj3
                      clear hj hjg
                      go_wp2_with fail
                      go_roundg (go - 1)
                      case measure => omega
                      case rel => exact ⟨k + 1, by omega, by go_num, E.out⟩
          · have hk5 : k = 5 := by omega
            subst hk5
            clear hk hkg
            go_wp2_with fail
            refine (awake2_any _).mono ?_
            rintro q wq ⟨rfl, hbq⟩
            have bw := bthen BW.out (E.out.below hbq).fin
            go_wp2_with fail
            go_ret
            exact ⟨rfl, bw⟩
    · rw [decide_eq_false h2]
      go_wp2_with fail
      refine (awake2_any _).mono ?_
      rintro q wq ⟨rfl, hbq⟩
      have bw := bthen BW.out hbq
      go_wp2_with fail
      go_ret
      exact ⟨rfl, bw⟩
  · rw [decide_eq_false h1]
    go_wp2_with fail
    refine (awake2_any _).mono ?_
    rintro q wq ⟨rfl, hbq⟩
    have bw := bthen BW.out hbq
    go_wp2_with fail
    go_ret
    exact ⟨rfl, bw⟩
end Go.Proofs.Yteddogbhofhlaaa
