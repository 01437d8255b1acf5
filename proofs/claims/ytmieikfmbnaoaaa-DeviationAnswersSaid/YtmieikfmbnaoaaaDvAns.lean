/- The statement DeviationAnswers: the walk. -/
import Derived.Test.YtmieikfmbnaoaaaAwake10
import Derived.Test.YtmieikfmbnaoaaaRefDev
import Derived.Test.YtmieikfmbnaoaaaBent
import Derived.Test.YtmieikfmbnaoaaaZero
import Derived.Test.YtmieikfmbnaoaaaEnvL
import Derived.Test.YtmieikfmbnaoaaaSteps
import Derived.Deep.LoopGhost
import Derived.Deep.RegionHeld3
import Derived.Deep.DeepCutAuto
namespace Go.Proofs.Ytmieikfmbnaoaaa
open Go.RowKit
set_option linter.unusedVariables false

/-- a curve that may be handed on -/
def CR.FitD (x : CR) : Prop := x.n ≤ 1000 ∧ x.n ≤ x.c
theorem EnvL.addD {p F : Nat} {w0 w : World} {vs : List (Nat × CR)} {X : CR} (h : EnvL p w0 w vs) (hx : Lc p w F X) : EnvL p w0 w (vs ++ [(F, X)]) := ⟨h.s, h.k, fun x hx' => by
  rcases List.mem_append.1 hx' with hx' | hx'
  · exact h.v x hx'
  · simp only [List.mem_singleton] at hx'
    subst hx'
    exact hx⟩
theorem b3sD {B : Nat} {w0 w : World} (h : Below B w0 w) {g : Nat} (hg : B ≤ g) (x y z : Value) : Below B w0 (((w.setCell ⟨g, 0, none⟩ x).setCell ⟨g, 1, none⟩ y).setCell ⟨g, 2, none⟩ z) := ((h.setCell (by simpa using hg) x).setCell (by simpa using hg) y).setCell (by simpa using hg) z
theorem Blk.far3D {w : World} {b g : Nat} {t : TypeId} {cs : Array Value} (h : Blk w b t cs) (hne : b ≠ g) (x y z : Value) : Blk (((w.setCell ⟨g, 0, none⟩ x).setCell ⟨g, 1, none⟩ y).setCell ⟨g, 2, none⟩ z) b t cs :=
  h.sto ((((Sto.refl g w).set 0 x).set 1 y).set 2 z) hne
/-- the block F is a variable that holds two curves -/
structure LcP (p : Nat) (w : World) (F : Nat) (x y : CR) : Prop where
  blk : Blk w F 55 #[.slice x.A x.n x.c, .int .i64 x.f.per, .int .i64 x.f.inc, .slice y.A y.n y.c, .int .i64 y.f.per, .int .i64 y.f.inc]
  ix : x.In p w
  iy : y.In p w
section
variable {p F : Nat} {w w' : World} {x y : CR}
theorem LcP.below (h : LcP p w F x y) (hb : Below w.heap.size w w') : LcP p w' F x y := ⟨h.blk.below hb h.blk.lt, h.ix.below hb, h.iy.below hb⟩
theorem LcP.kept (h : LcP p w F x y) (hne : F ≠ p) (hk : Kept w.heap.size p w w') : LcP p w' F x y := ⟨h.blk.kept hne hk, h.ix.kept hk, h.iy.kept hk⟩
theorem LcP.alloc (h : LcP p w F x y) (o : Obj) : LcP p (w.alloc o) F x y := h.below (balloc w o)
theorem LcP.cells (h : LcP p w F x y) : w.cell? ⟨F, 0, none⟩ = some (.slice x.A x.n x.c) ∧ w.cell? ⟨F, 1, none⟩ = some (.int .i64 x.f.per) ∧ w.cell? ⟨F, 2, none⟩ = some (.int .i64 x.f.inc) ∧
    w.cell? ⟨F, 3, none⟩ = some (.slice y.A y.n y.c) ∧ w.cell? ⟨F, 4, none⟩ = some (.int .i64 y.f.per) ∧ w.cell? ⟨F, 5, none⟩ = some (.int .i64 y.f.inc) ∧ F < w.heap.size := by
  have q0 := h.blk.cell 0; have q1 := h.blk.cell 1; have q2 := h.blk.cell 2; have q3 := h.blk.cell 3; have q4 := h.blk.cell 4; have q5 := h.blk.cell 5
  simp at q0 q1 q2 q3 q4 q5
  exact ⟨q0, q1, q2, q3, q4, q5, h.blk.lt⟩
theorem LcP.new (hx : x.In p w) (hy : y.In p w) : LcP p (w.alloc (.cells #[.slice x.A x.n x.c, .int .i64 x.f.per, .int .i64 x.f.inc, .slice y.A y.n y.c, .int .i64 y.f.per, .int .i64 y.f.inc] 55)) w.heap.size x y :=
  ⟨Blk.new _ _ _, hx.alloc _, hy.alloc _⟩
end
def CR.two (q : CR × CR) : List Value := q.1.cells ++ q.2.cells
theorem flat6_get (xs : List (CR × CR)) (k j : Nat) (q : CR × CR) (hx : xs[k]? = some q) (hj : j < 6) : (xs.flatMap CR.two)[k * 6 + j]? = (CR.two q)[j]? := by
  induction xs generalizing k with
  | nil => simp at hx
  | cons y ys ih =>
    rw [List.flatMap_cons]
    have hl : (CR.two y).length = 6 := rfl
    rcases k with _ | k
    · simp at hx
      subst hx
      rw [Nat.zero_mul, Nat.zero_add, List.getElem?_append_left (by omega)]
    · rw [List.getElem?_append_right (by omega), hl, show (k + 1) * 6 + j - 6 = k * 6 + j by omega]
      exact ih k (by simpa using hx)
/-- block b is a list of pairs of curves -/
structure RowP (p : Nat) (w : World) (b : Nat) (xs : List (CR × CR)) : Prop where
  blk : Blk w b 55 (xs.flatMap CR.two).toArray
  inn : ∀ q ∈ xs, q.1.In p w ∧ q.2.In p w
  ne : b ≠ p
section
variable {p b : Nat} {w w' : World} {xs : List (CR × CR)}
theorem RowP.lt (h : RowP p w b xs) : b < w.heap.size := h.blk.lt
theorem RowP.below (h : RowP p w b xs) (hb : Below w.heap.size w w') : RowP p w' b xs := ⟨h.blk.below hb h.lt, fun x hx => ⟨(h.inn x hx).1.below hb, (h.inn x hx).2.below hb⟩, h.ne⟩
theorem RowP.kept (h : RowP p w b xs) (hk : Kept w.heap.size p w w') : RowP p w' b xs := ⟨h.blk.kept h.ne hk, fun x hx => ⟨(h.inn x hx).1.kept hk, (h.inn x hx).2.kept hk⟩, h.ne⟩
theorem RowP.alloc (h : RowP p w b xs) (o : Obj) : RowP p (w.alloc o) b xs := h.below (balloc w o)
theorem RowP.get (h : RowP p w b xs) {k : Nat} (hk : k < xs.length) : ∃ x y, (x, y) ∈ xs ∧ x.In p w ∧ y.In p w ∧
    w.cell? ⟨b, k * 6, none⟩ = some (.slice x.A x.n x.c) ∧ w.cell? ⟨b, k * 6 + 1, none⟩ = some (.int .i64 x.f.per) ∧ w.cell? ⟨b, k * 6 + 2, none⟩ = some (.int .i64 x.f.inc) ∧
    w.cell? ⟨b, k * 6 + 3, none⟩ = some (.slice y.A y.n y.c) ∧ w.cell? ⟨b, k * 6 + 4, none⟩ = some (.int .i64 y.f.per) ∧ w.cell? ⟨b, k * 6 + 5, none⟩ = some (.int .i64 y.f.inc) := by
  have hx : xs[k]? = some xs[k] := List.getElem?_eq_getElem hk
  have hm := List.getElem_mem hk
  have hc : ∀ j, j < 6 → w.cell? ⟨b, k * 6 + j, none⟩ = (CR.two xs[k])[j]? := fun j hj => by
    have := h.blk.cell (k * 6 + j)
    rw [List.getElem?_toArray, flat6_get xs k j _ hx hj] at this
    exact this
  exact ⟨xs[k].1, xs[k].2, hm, (h.inn _ hm).1, (h.inn _ hm).2, hc 0 (by omega), hc 1 (by omega), hc 2 (by omega), hc 3 (by omega), hc 4 (by omega), hc 5 (by omega)⟩
end

set_option maxHeartbeats 8000000 in
set_option maxRecDepth 100000 in
theorem dvAnsLaw_any (A1 : Option Addr) (n1 c1 : Nat) (p1 i1 : Int) (L1 : List Int) (A2 : Option Addr) (n2 c2 : Nat) (p2 i2 : Int) (L2 : List Int) (q0 : Int) (A0 : Option Addr) (n0 c0 : Nat) (L : List Int) (W : World)
    (hI1 : Ints W W.heap.size A1 n1 L1) (hc1 : n1 ≤ c1) (hn1 : (n1 : Int) ≤ 9223372036854775807) (hI2 : Ints W W.heap.size A2 n2 L2) (hc2 : n2 ≤ c2) (hn2 : (n2 : Int) ≤ 9223372036854775807) (hL0 : Ints W W.heap.size A0 n0 L) (hc0 : n0 ≤ c0) (hn0 : (n0 : Int) ≤ 9223372036854775807) :
    Calls Try.prog 6 #[.agg #[.slice A1 n1 c1, .int .i64 p1, .int .i64 i1], .agg #[.slice A2 n2 c2, .int .i64 p2, .int .i64 i2], .int .i64 q0, .slice A0 n0 c0] W fun e w' => e = .returned (.bool true) ∧ Below W.heap.size W w' := by
  have RI := Lib.hid ((hI1.alloc' (.cells #[.slice A1 n1 c1, .int .i64 p1, .int .i64 i1] 41)).alloc' (.cells #[.slice A2 n2 c2, .int .i64 p2, .int .i64 i2] 41))
  have OI := Lib.hid ((hI2.alloc' (.cells #[.slice A1 n1 c1, .int .i64 p1, .int .i64 i1] 41)).alloc' (.cells #[.slice A2 n2 c2, .int .i64 p2, .int .i64 i2] 41))
  have LI := Lib.hid ((hL0.alloc' (.cells #[.slice A1 n1 c1, .int .i64 p1, .int .i64 i1] 41)).alloc' (.cells #[.slice A2 n2 c2, .int .i64 p2, .int .i64 i2] 41))
  have RX := Lib.hid ((Blk.new W 41 #[.slice A1 n1 c1, .int .i64 p1, .int .i64 i1]).alloc (.cells #[.slice A2 n2 c2, .int .i64 p2, .int .i64 i2] 41))
  have OX := Lib.hid (show Blk ((W.alloc (.cells #[.slice A1 n1 c1, .int .i64 p1, .int .i64 i1] 41)).alloc (.cells #[.slice A2 n2 c2, .int .i64 p2, .int .i64 i2] 41)) (W.heap.size + 1) 41 #[.slice A2 n2 c2, .int .i64 p2, .int .i64 i2] from by
    have := Blk.new (W.alloc (.cells #[.slice A1 n1 c1, .int .i64 p1, .int .i64 i1] 41)) 41 #[.slice A2 n2 c2, .int .i64 p2, .int .i64 i2]
    simpa using this)
  have BW := Lib.hid (bthen (balloc W (.cells #[.slice A1 n1 c1, .int .i64 p1, .int .i64 i1] 41)) (balloc _ (.cells #[.slice A2 n2 c2, .int .i64 p2, .int .i64 i2] 41)))
  have HC1 := Lib.hid hc1; have HC2 := Lib.hid hc2
  clear hI1 hI2 hL0 hc1 hc2
  go_enter Try.func6, Try.ntmps6
  go_wp2_with fail
  refine (small_any A1 n1 c1 p1 i1 _ hn1).mono ?_
  rintro e wa ⟨rfl, hb⟩
  have RI := Lib.hid (RI.out.ext hb); have OI := Lib.hid (OI.out.ext hb); have LI := Lib.hid (LI.out.ext hb)
  have RX := Lib.hid (RX.out.below hb RX.out.lt); have OX := Lib.hid (OX.out.below hb OX.out.lt); have BW := Lib.hid (bthen BW.out hb)
  clear hb
  have ox0 := OX.out.cell 0; have ox1 := OX.out.cell 1; have ox2 := OX.out.cell 2
  simp at ox0 ox1 ox2
  have hlq := OX.out.lt
  by_cases h1 : (n1 : Int) ≤ 800
  · rw [decide_eq_true h1]
    go_wp2_with fail
    refine (small_any A2 n2 c2 p2 i2 _ hn2).mono ?_
    rintro e w ⟨rfl, hb⟩
    have RI := Lib.hid (RI.out.ext hb); have OI := Lib.hid (OI.out.ext hb); have LI := Lib.hid (LI.out.ext hb)
    have RX := Lib.hid (RX.out.below hb RX.out.lt); have OX := Lib.hid (OX.out.below hb OX.out.lt); have BW := Lib.hid (bthen BW.out hb)
    clear hb ox0 ox1 ox2 hlq
    by_cases h2 : (n2 : Int) ≤ 800
    · rw [decide_eq_true h2]
      have R0 := Lib.hid (show Lc w.heap.size w W.heap.size ⟨A1, n1, c1, ⟨L1, p1, i1⟩⟩ from ⟨RX.out, CR.In.old RI.out, Nat.ne_of_lt RX.out.lt⟩)
      have O0 := Lib.hid (show Lc w.heap.size w (W.heap.size + 1) ⟨A2, n2, c2, ⟨L2, p2, i2⟩⟩ from ⟨OX.out, CR.In.old OI.out, Nat.ne_of_lt OX.out.lt⟩)
      have hL := LI.out
      have FIT1 := Lib.hid (show (CR.mk A1 n1 c1 ⟨L1, p1, i1⟩).FitD from ⟨by show n1 ≤ 1000; omega, HC1.out⟩)
      have FIT2 := Lib.hid (show (CR.mk A2 n2 c2 ⟨L2, p2, i2⟩).FitD from ⟨by show n2 ≤ 1000; omega, HC2.out⟩)
      clear RI OI LI RX OX HC1 HC2 h1 h2 hn1 hn2
      go_wp2_with fail
      refine (new_any A0 n0 c0 L w hL hc0 hn0).mono ?_
      rintro e w1 ⟨rfl, hS1, hb1⟩
      have E := Lib.hid (show EnvL w.heap.size w w1 [(W.heap.size, ⟨A1, n1, c1, ⟨L1, p1, i1⟩⟩), (W.heap.size + 1, ⟨A2, n2, c2, ⟨L2, p2, i2⟩⟩)] from ((EnvL.start hS1 hb1).addD (R0.out.below hb1)).addD (O0.out.below hb1))
      clear hL hS1 hb1 R0 O0
      -- a curve drawn, not yet in a variable: srcCurve2_any the contract, 8 most, _ w2 the worlds, f the curve, A n c, DrawC 8 f its facts
      go_wp2_with fail
      refine (srcCurve2_any w.heap.size 8 _ (by exact E.out.s) (by omega) (by omega)).mono ?_
      rintro e w2 ⟨f, A, n, c, hD, hcf, rfl, hI, hA, hS, hk⟩
      have hps := E.out.s.lt
      have E := Lib.hid (E.out.kept hS hk)
      have Vf := Lib.hid (show (CR.mk A n c f).In w.heap.size w2 from CR.In.new hI hA hps)
      have Hf := Lib.hid (show DrawC 8 f from hD)
      have HCf := Lib.hid hcf
      have hlenf := hI.1
      try simp only at hlenf
      have hnf : n ≤ 20 := by have h1 := Hf.out.len; omega
      clear hlenf
      clear hD hI hA hS hk hps hcf
      -- a curve drawn, not yet in a variable: srcCurve2_any the contract, 8 most, _ w3 the worlds, g the curve, B m d, DrawC 8 g its facts
      go_wp2_with fail
      refine (srcCurve2_any w.heap.size 8 _ (by exact E.out.s) (by omega) (by omega)).mono ?_
      rintro e w3 ⟨g, B, m, d, hD, hcf, rfl, hI, hA, hS, hk⟩
      have hps := E.out.s.lt
      have E := Lib.hid (E.out.kept hS hk)
      have Vg := Lib.hid (show (CR.mk B m d g).In w.heap.size w3 from CR.In.new hI hA hps)
      have Hg := Lib.hid (show DrawC 8 g from hD)
      have HCg := Lib.hid hcf
      have hleng := hI.1
      try simp only at hleng
      have hmg : m ≤ 20 := by have h1 := Hg.out.len; omega
      clear hleng
      have Vf := Lib.hid (Vf.out.kept hk)
      clear hD hI hA hS hk hps hcf
      have E := Lib.hid (show EnvL w.heap.size w _ _ from E.out.push (X := ⟨A, n, c, f⟩) Vf.out)
      dsimp only [List.cons_append, List.nil_append] at E
      have Vg := Lib.hid (Vg.out.alloc (.cells #[.slice A n c, .int .i64 f.per, .int .i64 f.inc] 41))
      have E := Lib.hid (show EnvL w.heap.size w _ _ from E.out.push (X := ⟨B, m, d, g⟩) Vg.out)
      dsimp only [List.cons_append, List.nil_append] at E
      have FITF := Lib.hid (show (CR.mk A n c f).FitD from ⟨by show n ≤ 1000; omega, HCf.out⟩)
      have FITG := Lib.hid (show (CR.mk B m d g).FitD from ⟨by show m ≤ 1000; omega, HCg.out⟩)
      clear Vf Vg HCf HCg Hf Hg
      go_upto_region 5 with fail
      generalize hwe : (w3.alloc (.cells #[.slice A n c, .int .i64 f.per, .int .i64 f.inc] 41)).alloc (.cells #[.slice B m d, .int .i64 g.per, .int .i64 g.inc] 41) = we at E ⊢
      clear hwe
      simp only [World.size_alloc] at E
      go_cut [71, 72, 73] (fun s71 s72 s73 wx => ∃ (b : Nat) (xs : List (CR × CR)), s71 = .slice (some ⟨b, 0, none⟩) 8 8 ∧ s72 = .int .i64 8 ∧ s73 = .int .i64 0 ∧ xs.length = 8 ∧ (∀ q ∈ xs, q.1.FitD ∧ q.2.FitD) ∧ EnvL w.heap.size w wx [(W.heap.size, ⟨A1, n1, c1, ⟨L1, p1, i1⟩⟩), (W.heap.size + 1, ⟨A2, n2, c2, ⟨L2, p2, i2⟩⟩), (w3.heap.size, ⟨A, n, c, f⟩), (w3.heap.size + 1, ⟨B, m, d, g⟩)] ∧ RowP w.heap.size wx b xs)
      case first =>
        obtain ⟨s0, s1, s2, hls⟩ := (E.out.get 0 rfl).cells
        obtain ⟨t0, t1, t2, hlt⟩ := (E.out.get 1 rfl).cells
        obtain ⟨u0, u1, u2, hlu⟩ := (E.out.get 2 rfl).cells
        obtain ⟨v0, v1, v2, hlv⟩ := (E.out.get 3 rfl).cells
        go_region_held3 (fun w' => (w'.cell? ⟨W.heap.size, 0, none⟩ = some (.slice A1 n1 c1) ∧ w'.cell? ⟨W.heap.size, 1, none⟩ = some (.int .i64 p1) ∧ w'.cell? ⟨W.heap.size, 2, none⟩ = some (.int .i64 i1)) ∧ (w'.cell? ⟨W.heap.size + 1, 0, none⟩ = some (.slice A2 n2 c2) ∧ w'.cell? ⟨W.heap.size + 1, 1, none⟩ = some (.int .i64 p2) ∧ w'.cell? ⟨W.heap.size + 1, 2, none⟩ = some (.int .i64 i2)) ∧ (w'.cell? ⟨w3.heap.size, 0, none⟩ = some (.slice A n c) ∧ w'.cell? ⟨w3.heap.size, 1, none⟩ = some (.int .i64 f.per) ∧ w'.cell? ⟨w3.heap.size, 2, none⟩ = some (.int .i64 f.inc)) ∧ w'.cell? ⟨w3.heap.size + 1, 0, none⟩ = some (.slice B m d) ∧ w'.cell? ⟨w3.heap.size + 1, 1, none⟩ = some (.int .i64 g.per) ∧ w'.cell? ⟨w3.heap.size + 1, 2, none⟩ = some (.int .i64 g.inc)) (first | go_keep)
          (first
            | (go_at_call 35
               refine (srcBent2_any w.heap.size A n c f.per f.inc f.vals _ (by exact E.out.s.drew) (by exact (E.out.get 2 rfl).inn.drew.ints) (by omega)).mono ?_
               rintro e w7 ⟨k, AB, nB, cB, hlz, hcz, rfl, hIz, hBz, hSz, hkz⟩
               have hkz := kofdrew hkz
               -- a curve is drawn inside the region: VB the contract, w7 the new world, k the curve, AB nB cB, omega its length's bound
               have hps := E.out.s.lt
               have E := Lib.hid (E.out.kept hSz hkz)
               try (have VB := Lib.hid (VB.out.kept hkz))
               try (have VZ1 := Lib.hid (VZ1.out.kept hkz))
               try (have VZ2 := Lib.hid (VZ2.out.kept hkz))
               try (have VS1 := Lib.hid (VS1.out.kept hkz))
               have VB := Lib.hid (show (CR.mk AB nB cB k).In w.heap.size w7 from CR.In.new hIz hBz (by simpa using hps))
               have FVB := Lib.hid (show (CR.mk AB nB cB k).FitD from ⟨by have h2 : k.vals.length = nB := hIz.1; show nB ≤ 1000; omega, hcz⟩)
               clear hIz hBz hSz hkz hlz hcz hps
               clear s0 s1 s2 hls t0 t1 t2 hlt u0 u1 u2 hlu v0 v1 v2 hlv
               obtain ⟨s0, s1, s2, hls⟩ := (E.out.get 0 rfl).cells
               obtain ⟨t0, t1, t2, hlt⟩ := (E.out.get 1 rfl).cells
               obtain ⟨u0, u1, u2, hlu⟩ := (E.out.get 2 rfl).cells
               obtain ⟨v0, v1, v2, hlv⟩ := (E.out.get 3 rfl).cells
               dsimp only)
            | (go_at_call 36
               have TOK := FVZ1
               refine (srcZero2_any w.heap.size 5 _ (by exact E.out.s) (by omega) (by omega)).mono ?_
               rintro e w9 ⟨z2, AZ2, nZ2, cZ2, hlz, hcz, rfl, hIz, hBz, hSz, hkz⟩
               -- a curve is drawn inside the region: VZ2 the contract, w9 the new world, z2 the curve, AZ2 nZ2 cZ2, have h3 := hlz.1.len; omega its length's bound
               have hps := E.out.s.lt
               have E := Lib.hid (E.out.kept hSz hkz)
               try (have VB := Lib.hid (VB.out.kept hkz))
               try (have VZ1 := Lib.hid (VZ1.out.kept hkz))
               try (have VZ2 := Lib.hid (VZ2.out.kept hkz))
               try (have VS1 := Lib.hid (VS1.out.kept hkz))
               have VZ2 := Lib.hid (show (CR.mk AZ2 nZ2 cZ2 z2).In w.heap.size w9 from CR.In.new hIz hBz (by simpa using hps))
               have FVZ2 := Lib.hid (show (CR.mk AZ2 nZ2 cZ2 z2).FitD from ⟨by have h2 : z2.vals.length = nZ2 := hIz.1; show nZ2 ≤ 1000; have h3 := hlz.1.len; omega, hcz⟩)
               clear hIz hBz hSz hkz hlz hcz hps
               clear s0 s1 s2 hls t0 t1 t2 hlt u0 u1 u2 hlu v0 v1 v2 hlv
               obtain ⟨s0, s1, s2, hls⟩ := (E.out.get 0 rfl).cells
               obtain ⟨t0, t1, t2, hlt⟩ := (E.out.get 1 rfl).cells
               obtain ⟨u0, u1, u2, hlu⟩ := (E.out.get 2 rfl).cells
               obtain ⟨v0, v1, v2, hlv⟩ := (E.out.get 3 rfl).cells
               dsimp only)
            | (go_at_call 36
               refine (srcZero2_any w.heap.size 5 _ (by exact E.out.s) (by omega) (by omega)).mono ?_
               rintro e w8 ⟨z1, AZ1, nZ1, cZ1, hlz, hcz, rfl, hIz, hBz, hSz, hkz⟩
               -- a curve is drawn inside the region: VZ1 the contract, w8 the new world, z1 the curve, AZ1 nZ1 cZ1, have h3 := hlz.1.len; omega its length's bound
               have hps := E.out.s.lt
               have E := Lib.hid (E.out.kept hSz hkz)
               try (have VB := Lib.hid (VB.out.kept hkz))
               try (have VZ1 := Lib.hid (VZ1.out.kept hkz))
               try (have VZ2 := Lib.hid (VZ2.out.kept hkz))
               try (have VS1 := Lib.hid (VS1.out.kept hkz))
               have VZ1 := Lib.hid (show (CR.mk AZ1 nZ1 cZ1 z1).In w.heap.size w8 from CR.In.new hIz hBz (by simpa using hps))
               have FVZ1 := Lib.hid (show (CR.mk AZ1 nZ1 cZ1 z1).FitD from ⟨by have h2 : z1.vals.length = nZ1 := hIz.1; show nZ1 ≤ 1000; have h3 := hlz.1.len; omega, hcz⟩)
               clear hIz hBz hSz hkz hlz hcz hps
               clear s0 s1 s2 hls t0 t1 t2 hlt u0 u1 u2 hlu v0 v1 v2 hlv
               obtain ⟨s0, s1, s2, hls⟩ := (E.out.get 0 rfl).cells
               obtain ⟨t0, t1, t2, hlt⟩ := (E.out.get 1 rfl).cells
               obtain ⟨u0, u1, u2, hlu⟩ := (E.out.get 2 rfl).cells
               obtain ⟨v0, v1, v2, hlv⟩ := (E.out.get 3 rfl).cells
               dsimp only)
            | (go_at_call 37
               have TOK := FVS1
               refine (srcSteps_any w.heap.size _ (by exact E.out.s)).mono ?_
               rintro e w11 ⟨s4, AS2, nS2, cS2, hlz, hcz, rfl, hIz, hBz, hSz, hkz⟩
               -- a curve is drawn inside the region: VS2 the contract, w11 the new world, s4 the curve, AS2 nS2 cS2, omega its length's bound
               have hps := E.out.s.lt
               have E := Lib.hid (E.out.kept hSz hkz)
               try (have VB := Lib.hid (VB.out.kept hkz))
               try (have VZ1 := Lib.hid (VZ1.out.kept hkz))
               try (have VZ2 := Lib.hid (VZ2.out.kept hkz))
               try (have VS1 := Lib.hid (VS1.out.kept hkz))
               have VS2 := Lib.hid (show (CR.mk AS2 nS2 cS2 s4).In w.heap.size w11 from CR.In.new hIz hBz (by simpa using hps))
               have FVS2 := Lib.hid (show (CR.mk AS2 nS2 cS2 s4).FitD from ⟨by have h2 : s4.vals.length = nS2 := hIz.1; show nS2 ≤ 1000; omega, hcz⟩)
               clear hIz hBz hSz hkz hlz hcz hps
               clear s0 s1 s2 hls t0 t1 t2 hlt u0 u1 u2 hlu v0 v1 v2 hlv
               obtain ⟨s0, s1, s2, hls⟩ := (E.out.get 0 rfl).cells
               obtain ⟨t0, t1, t2, hlt⟩ := (E.out.get 1 rfl).cells
               obtain ⟨u0, u1, u2, hlu⟩ := (E.out.get 2 rfl).cells
               obtain ⟨v0, v1, v2, hlv⟩ := (E.out.get 3 rfl).cells
               dsimp only)
            | (go_at_call 37
               refine (srcSteps_any w.heap.size _ (by exact E.out.s)).mono ?_
               rintro e w10 ⟨s3, AS1, nS1, cS1, hlz, hcz, rfl, hIz, hBz, hSz, hkz⟩
               -- a curve is drawn inside the region: VS1 the contract, w10 the new world, s3 the curve, AS1 nS1 cS1, omega its length's bound
               have hps := E.out.s.lt
               have E := Lib.hid (E.out.kept hSz hkz)
               try (have VB := Lib.hid (VB.out.kept hkz))
               try (have VZ1 := Lib.hid (VZ1.out.kept hkz))
               try (have VZ2 := Lib.hid (VZ2.out.kept hkz))
               try (have VS1 := Lib.hid (VS1.out.kept hkz))
               have VS1 := Lib.hid (show (CR.mk AS1 nS1 cS1 s3).In w.heap.size w10 from CR.In.new hIz hBz (by simpa using hps))
               have FVS1 := Lib.hid (show (CR.mk AS1 nS1 cS1 s3).FitD from ⟨by have h2 : s3.vals.length = nS1 := hIz.1; show nS1 ≤ 1000; omega, hcz⟩)
               clear hIz hBz hSz hkz hlz hcz hps
               clear s0 s1 s2 hls t0 t1 t2 hlt u0 u1 u2 hlu v0 v1 v2 hlv
               obtain ⟨s0, s1, s2, hls⟩ := (E.out.get 0 rfl).cells
               obtain ⟨t0, t1, t2, hlt⟩ := (E.out.get 1 rfl).cells
               obtain ⟨u0, u1, u2, hlu⟩ := (E.out.get 2 rfl).cells
               obtain ⟨v0, v1, v2, hlv⟩ := (E.out.get 3 rfl).cells
               dsimp only))
        all_goals
          go_wp2_with fail
          go_meet
          exact ⟨w11.heap.size, [(⟨A, n, c, f⟩, ⟨B, m, d, g⟩), (⟨B, m, d, g⟩, ⟨A, n, c, f⟩), (⟨A1, n1, c1, ⟨L1, p1, i1⟩⟩, ⟨B, m, d, g⟩), (⟨A, n, c, f⟩, ⟨A2, n2, c2, ⟨L2, p2, i2⟩⟩), (⟨AB, nB, cB, k⟩, ⟨B, m, d, g⟩), (⟨AZ1, nZ1, cZ1, z1⟩, ⟨AZ2, nZ2, cZ2, z2⟩), (⟨AS1, nS1, cS1, s3⟩, ⟨AS2, nS2, cS2, s4⟩), (⟨A1, n1, c1, ⟨L1, p1, i1⟩⟩, ⟨A2, n2, c2, ⟨L2, p2, i2⟩⟩)], rfl, rfl, rfl, rfl, (by
            intro x hx
            simp only [List.mem_cons, List.not_mem_nil, or_false] at hx
            rcases hx with rfl | rfl | rfl | rfl | rfl | rfl | rfl | rfl
            · exact ⟨FITF.out, FITG.out⟩
            · exact ⟨FITG.out, FITF.out⟩
            · exact ⟨FIT1.out, FITG.out⟩
            · exact ⟨FITF.out, FIT2.out⟩
            · exact ⟨FVB.out, FITG.out⟩
            · exact ⟨FVZ1.out, FVZ2.out⟩
            · exact ⟨FVS1.out, FVS2.out⟩
            · exact ⟨FIT1.out, FIT2.out⟩), E.out.alloc _, Blk.new _ _ _, (by
            intro x hx
            simp only [List.mem_cons, List.not_mem_nil, or_false] at hx
            have j1 := (E.out.get 0 rfl).inn; have j2 := (E.out.get 1 rfl).inn; have jf := (E.out.get 2 rfl).inn; have jg := (E.out.get 3 rfl).inn
            rcases hx with rfl | rfl | rfl | rfl | rfl | rfl | rfl | rfl
            · exact ⟨jf.alloc _, jg.alloc _⟩
            · exact ⟨jg.alloc _, jf.alloc _⟩
            · exact ⟨j1.alloc _, jg.alloc _⟩
            · exact ⟨jf.alloc _, j2.alloc _⟩
            · exact ⟨VB.out.alloc _, jg.alloc _⟩
            · exact ⟨VZ1.out.alloc _, VZ2.out.alloc _⟩
            · exact ⟨VS1.out.alloc _, VS2.out.alloc _⟩
            · exact ⟨j1.alloc _, j2.alloc _⟩), Nat.ne_of_gt E.out.s.lt⟩
      case rest =>
        obtain ⟨b, xs, rfl, rfl, rfl, hxl, hxf, hE, hR⟩ := hcut
        clear E
        have E := Lib.hid hE; have ROW := Lib.hid hR; have HXL := Lib.hid hxl; have HXF := Lib.hid hxf
        clear hE hR hxl hxf
        go_wp2_with fail
        go_loopg [73] 8 (fun gg s73 wx => ∃ k : Nat, k + gg = 8 ∧ s73 = .int .i64 k ∧ EnvL w.heap.size w wx [(W.heap.size, ⟨A1, n1, c1, ⟨L1, p1, i1⟩⟩), (W.heap.size + 1, ⟨A2, n2, c2, ⟨L2, p2, i2⟩⟩), (w3.heap.size, ⟨A, n, c, f⟩), (w3.heap.size + 1, ⟨B, m, d, g⟩)] ∧ RowP w.heap.size wx b xs)
        case atStart => exact ⟨0, rfl, rfl, E.out, ROW.out⟩
        case round =>
          clear E ROW
          obtain ⟨k, hkg, rfl, hE, hR⟩ := hrel
          have E := Lib.hid hE; have ROW := Lib.hid hR
          clear hE hR
          by_cases hk : k < 8
          · have hki : (k : Int) < 8 := by omega
            obtain ⟨X, Y, hXm, hXi, hYi, k0, k1, k2, k3, k4, k5⟩ := ROW.out.get (k := k) (by rw [HXL.out]; exact hk)
            have hlw := ROW.out.lt
            have hps := E.out.s.lt
            have HFX := Lib.hid (HXF.out _ hXm)
            have hfx := HFX.out.1.1; have hfx2 := HFX.out.1.2; have hfy := HFX.out.2.1; have hfy2 := HFX.out.2.2
            simp only at hfx hfx2 hfy hfy2
            have LX := Lib.hid (LcP.new hXi hYi)
            have E := Lib.hid (E.out.alloc (.cells #[.slice X.A X.n X.c, .int .i64 X.f.per, .int .i64 X.f.inc, .slice Y.A Y.n Y.c, .int .i64 Y.f.per, .int .i64 Y.f.inc] 55))
            have ROW := Lib.hid (ROW.out.alloc (.cells #[.slice X.A X.n X.c, .int .i64 X.f.per, .int .i64 X.f.inc, .slice Y.A Y.n Y.c, .int .i64 Y.f.per, .int .i64 Y.f.inc] 55))
            go_upto_region 8 with fail
            clear k0 k1 k2 k3 k4 k5 hXi hYi hXm hlw
            have hzx : w.heap.size < wr.heap.size := hps
            generalize hwe : wr.alloc (.cells #[.slice X.A X.n X.c, .int .i64 X.f.per, .int .i64 X.f.inc, .slice Y.A Y.n Y.c, .int .i64 Y.f.per, .int .i64 Y.f.inc] 55) = wo at E ROW LX ⊢
            clear hwe hps
            generalize wr.heap.size = ZX at LX hzx ⊢
            obtain ⟨go, hgo⟩ : ∃ go : Nat, go = gk := ⟨_, rfl⟩
            subst hgo
            have BI := Lib.hid (Below.refl wo.heap.size wo)
            obtain ⟨x0, x1, x2, x3, x4, x5, hlx⟩ := (LX.out.below BI.out).cells
            go_wp2_with fail
            refine (delay_any X.A Y.A X.n Y.n X.c Y.c X.f.per X.f.inc Y.f.per Y.f.inc X.f.vals Y.f.vals _ (by exact (LX.out.below BI.out).ix.ints) (by exact (LX.out.below BI.out).iy.ints) (by omega) (by omega)).mono ?_
            rintro e wa ⟨i3, v3, a3, r3, hS, rfl, hb⟩
            have HS := Lib.hid hS
            clear x0 x1 x2 x3 x4 x5 hlx
            replace BI := Lib.hid (bthen BI.out hb)
            have hz1 := BI.out.size
            have D1 := Lib.hid (Blk.new wa 60 #[.bool i3, .int .i64 v3, .int .i64 a3])
            replace BI := Lib.hid (bthen BI.out (balloc _ (.cells #[.bool i3, .int .i64 v3, .int .i64 a3] 60)))
            clear hS hb
            go_upto_region 9 with fail
            generalize hwe : wa.alloc (.cells #[.bool i3, .int .i64 v3, .int .i64 a3] 60) = wc at *
            clear hwe
            generalize wa.heap.size = Z1 at *
            obtain ⟨x0, x1, x2, x3, x4, x5, hlx⟩ := (LX.out.below BI.out).cells
            go_wp2_with fail
            refine (refDelay_any X.A Y.A X.n Y.n X.c Y.c X.f.per X.f.inc Y.f.per Y.f.inc X.f.vals Y.f.vals _ (by exact (LX.out.below BI.out).ix.ints) (by exact (LX.out.below BI.out).iy.ints) (by omega) (by omega) hfx2 hfy2).mono ?_
            rintro e wb ⟨i4, v4, a4, r4, hS, rfl, hb⟩
            obtain ⟨e1, e2, e3, e4⟩ := DevE.unique (fun _ hg => fun h k => DelayS.unique hg h k) HS.out hS
            subst e1 e2 e3 e4
            clear x0 x1 x2 x3 x4 x5 hlx
            replace BI := Lib.hid (bthen BI.out hb)
            replace D1 := Lib.hid (D1.out.below hb D1.out.lt)
            have hz12 := D1.out.lt
            replace D1 := Lib.hid (D1.out.alloc (.cells #[.bool i3, .int .i64 v3, .int .i64 a3] 60))
            have D2 := Lib.hid (Blk.new wb 60 #[.bool i3, .int .i64 v3, .int .i64 a3])
            replace BI := Lib.hid (bthen BI.out (balloc _ (.cells #[.bool i3, .int .i64 v3, .int .i64 a3] 60)))
            clear hS hb HS
            go_upto_region 10 with fail
            generalize hwe : wb.alloc (.cells #[.bool i3, .int .i64 v3, .int .i64 a3] 60) = wc2 at *
            clear hwe
            generalize wb.heap.size = Z2 at *
            have g1 : (r3 != r3) = false := by simp
            -- the program's backlog_any, stored to the first variable, up to region 13; the reference's refBacklog_any, stored to the second one, up to region 14; (fun _ _ => fun h k => AheadS.unique h k) that there is one
            obtain ⟨⟨k0, k1, k2⟩, ⟨k3, k4, k5⟩, hlk⟩ := D1.out.c3
            obtain ⟨⟨l0, l1, l2⟩, ⟨l3, l4, l5⟩, hll⟩ := D2.out.c3
            obtain ⟨x0, x1, x2, x3, x4, x5, hlx⟩ := (LX.out.below BI.out).cells
            go_wp2_with fail
            refine (backlog_any X.A Y.A X.n Y.n X.c Y.c X.f.per X.f.inc Y.f.per Y.f.inc X.f.vals Y.f.vals _ (by exact (LX.out.below BI.out).ix.ints) (by exact (LX.out.below BI.out).iy.ints) (by omega) (by omega)).mono ?_
            rintro e wa ⟨i3, v3, a3, r3, hS, rfl, hb⟩
            have HS := Lib.hid hS
            clear k0 k1 k2 k3 k4 k5 hlk l0 l1 l2 l3 l4 l5 hll
            clear x0 x1 x2 x3 x4 x5 hlx
            replace BI := Lib.hid (bthen BI.out hb); replace D1 := Lib.hid (D1.out.below hb D1.out.lt); replace D2 := Lib.hid (D2.out.below hb D2.out.lt)
            clear hS hb g1
            obtain ⟨⟨k0, k1, k2⟩, ⟨k3, k4, k5⟩, hlk⟩ := D1.out.c3
            obtain ⟨⟨l0, l1, l2⟩, ⟨l3, l4, l5⟩, hll⟩ := D2.out.c3
            go_upto_region 13 with fail
            clear k0 k1 k2 k3 k4 k5 hlk l0 l1 l2 l3 l4 l5 hll
            replace D1 := Lib.hid (D1.out.store3 (.bool i3) (.int .i64 v3) (.int .i64 a3)); replace D2 := Lib.hid (D2.out.far3D (g := Z1) (by omega) (.bool i3) (.int .i64 v3) (.int .i64 a3)); replace BI := Lib.hid (b3sD BI.out (g := Z1) hz1 (.bool i3) (.int .i64 v3) (.int .i64 a3))
            generalize hwe : ((wa.setCell ⟨Z1, 0, none⟩ (.bool i3)).setCell ⟨Z1, 1, none⟩ (.int .i64 v3)).setCell ⟨Z1, 2, none⟩ (.int .i64 a3) = wd at *
            clear hwe
            obtain ⟨x0, x1, x2, x3, x4, x5, hlx⟩ := (LX.out.below BI.out).cells
            obtain ⟨⟨k0, k1, k2⟩, ⟨k3, k4, k5⟩, hlk⟩ := D1.out.c3
            obtain ⟨⟨l0, l1, l2⟩, ⟨l3, l4, l5⟩, hll⟩ := D2.out.c3
            go_wp2_with fail
            refine (refBacklog_any X.A Y.A X.n Y.n X.c Y.c X.f.per X.f.inc Y.f.per Y.f.inc X.f.vals Y.f.vals _ (by exact (LX.out.below BI.out).ix.ints) (by exact (LX.out.below BI.out).iy.ints) (by omega) (by omega) hfx2 hfy2).mono ?_
            rintro e wb ⟨i4, v4, a4, r4, hS, rfl, hb⟩
            obtain ⟨e1, e2, e3, e4⟩ := DevE.unique (fun _ _ => fun h k => AheadS.unique h k) HS.out hS
            subst e1 e2 e3 e4
            clear k0 k1 k2 k3 k4 k5 hlk l0 l1 l2 l3 l4 l5 hll
            clear x0 x1 x2 x3 x4 x5 hlx
            replace BI := Lib.hid (bthen BI.out hb); replace D1 := Lib.hid (D1.out.below hb D1.out.lt); replace D2 := Lib.hid (D2.out.below hb D2.out.lt)
            clear hS hb HS
            obtain ⟨⟨k0, k1, k2⟩, ⟨k3, k4, k5⟩, hlk⟩ := D1.out.c3
            obtain ⟨⟨l0, l1, l2⟩, ⟨l3, l4, l5⟩, hll⟩ := D2.out.c3
            go_upto_region 14 with fail
            clear k0 k1 k2 k3 k4 k5 hlk l0 l1 l2 l3 l4 l5 hll
            replace D1 := Lib.hid (D1.out.far3D (g := Z2) (by omega) (.bool i3) (.int .i64 v3) (.int .i64 a3)); replace D2 := Lib.hid (D2.out.store3 (.bool i3) (.int .i64 v3) (.int .i64 a3)); replace BI := Lib.hid (b3sD BI.out (g := Z2) (by omega) (.bool i3) (.int .i64 v3) (.int .i64 a3))
            generalize hwe : ((wb.setCell ⟨Z2, 0, none⟩ (.bool i3)).setCell ⟨Z2, 1, none⟩ (.int .i64 v3)).setCell ⟨Z2, 2, none⟩ (.int .i64 a3) = wd2 at *
            clear hwe
            have g1 : (r3 != r3) = false := by simp
            -- the program's peak_any, stored to the first variable, up to region 17; the reference's refPeak_any, stored to the second one, up to region 18; (fun _ _ => fun h k => AheadS.unique h k) that there is one
            obtain ⟨⟨k0, k1, k2⟩, ⟨k3, k4, k5⟩, hlk⟩ := D1.out.c3
            obtain ⟨⟨l0, l1, l2⟩, ⟨l3, l4, l5⟩, hll⟩ := D2.out.c3
            obtain ⟨x0, x1, x2, x3, x4, x5, hlx⟩ := (LX.out.below BI.out).cells
            go_wp2_with fail
            refine (peak_any X.A Y.A X.n Y.n X.c Y.c X.f.per X.f.inc Y.f.per Y.f.inc X.f.vals Y.f.vals _ (by exact (LX.out.below BI.out).ix.ints) (by exact (LX.out.below BI.out).iy.ints) (by omega) (by omega)).mono ?_
            rintro e wa ⟨i3, v3, a3, r3, hS, rfl, hb⟩
            have HS := Lib.hid hS
            clear k0 k1 k2 k3 k4 k5 hlk l0 l1 l2 l3 l4 l5 hll
            clear x0 x1 x2 x3 x4 x5 hlx
            replace BI := Lib.hid (bthen BI.out hb); replace D1 := Lib.hid (D1.out.below hb D1.out.lt); replace D2 := Lib.hid (D2.out.below hb D2.out.lt)
            clear hS hb g1
            obtain ⟨⟨k0, k1, k2⟩, ⟨k3, k4, k5⟩, hlk⟩ := D1.out.c3
            obtain ⟨⟨l0, l1, l2⟩, ⟨l3, l4, l5⟩, hll⟩ := D2.out.c3
            go_upto_region 17 with fail
            clear k0 k1 k2 k3 k4 k5 hlk l0 l1 l2 l3 l4 l5 hll
            replace D1 := Lib.hid (D1.out.store3 (.bool i3) (.int .i64 v3) (.int .i64 a3)); replace D2 := Lib.hid (D2.out.far3D (g := Z1) (by omega) (.bool i3) (.int .i64 v3) (.int .i64 a3)); replace BI := Lib.hid (b3sD BI.out (g := Z1) hz1 (.bool i3) (.int .i64 v3) (.int .i64 a3))
            generalize hwe : ((wa.setCell ⟨Z1, 0, none⟩ (.bool i3)).setCell ⟨Z1, 1, none⟩ (.int .i64 v3)).setCell ⟨Z1, 2, none⟩ (.int .i64 a3) = wd at *
            clear hwe
            obtain ⟨x0, x1, x2, x3, x4, x5, hlx⟩ := (LX.out.below BI.out).cells
            obtain ⟨⟨k0, k1, k2⟩, ⟨k3, k4, k5⟩, hlk⟩ := D1.out.c3
            obtain ⟨⟨l0, l1, l2⟩, ⟨l3, l4, l5⟩, hll⟩ := D2.out.c3
            go_wp2_with fail
            refine (refPeak_any X.A Y.A X.n Y.n X.c Y.c X.f.per X.f.inc Y.f.per Y.f.inc X.f.vals Y.f.vals _ (by exact (LX.out.below BI.out).ix.ints) (by exact (LX.out.below BI.out).iy.ints) (by omega) (by omega) hfx2 hfy2).mono ?_
            rintro e wb ⟨i4, v4, a4, r4, hS, rfl, hb⟩
            obtain ⟨e1, e2, e3, e4⟩ := DevE.unique (fun _ _ => fun h k => AheadS.unique h k) HS.out hS
            subst e1 e2 e3 e4
            clear k0 k1 k2 k3 k4 k5 hlk l0 l1 l2 l3 l4 l5 hll
            clear x0 x1 x2 x3 x4 x5 hlx
            replace BI := Lib.hid (bthen BI.out hb); replace D1 := Lib.hid (D1.out.below hb D1.out.lt); replace D2 := Lib.hid (D2.out.below hb D2.out.lt)
            clear hS hb HS
            obtain ⟨⟨k0, k1, k2⟩, ⟨k3, k4, k5⟩, hlk⟩ := D1.out.c3
            obtain ⟨⟨l0, l1, l2⟩, ⟨l3, l4, l5⟩, hll⟩ := D2.out.c3
            go_upto_region 18 with fail
            clear k0 k1 k2 k3 k4 k5 hlk l0 l1 l2 l3 l4 l5 hll
            replace D1 := Lib.hid (D1.out.far3D (g := Z2) (by omega) (.bool i3) (.int .i64 v3) (.int .i64 a3)); replace D2 := Lib.hid (D2.out.store3 (.bool i3) (.int .i64 v3) (.int .i64 a3)); replace BI := Lib.hid (b3sD BI.out (g := Z2) (by omega) (.bool i3) (.int .i64 v3) (.int .i64 a3))
            generalize hwe : ((wb.setCell ⟨Z2, 0, none⟩ (.bool i3)).setCell ⟨Z2, 1, none⟩ (.int .i64 v3)).setCell ⟨Z2, 2, none⟩ (.int .i64 a3) = wd2 at *
            clear hwe
            have g1 : (r3 != r3) = false := by simp
            obtain ⟨⟨k0, k1, k2⟩, ⟨k3, k4, k5⟩, hlk⟩ := D1.out.c3
            obtain ⟨⟨l0, l1, l2⟩, ⟨l3, l4, l5⟩, hll⟩ := D2.out.c3
            go_wp2_with fail
            have E := Lib.hid (E.out.below BI.out); have ROW := Lib.hid (ROW.out.below BI.out); have LX := Lib.hid (LX.out.below BI.out)
            clear k0 k1 k2 k3 k4 k5 hlk l0 l1 l2 l3 l4 l5 hll
            clear D1 D2 BI hz1 hz12 g1
            have hzne : ZX ≠ w.heap.size := by omega
            refine (n_any w.heap.size 200 _ (by exact E.out.s) (by omega) (by omega)).mono ?_
            rintro e w8 ⟨u0, hu0, hu1, rfl, hS, hk8⟩
            have E := Lib.hid (E.out.kept hS hk8); have ROW := Lib.hid (ROW.out.kept hk8); have LX := Lib.hid (LX.out.kept hzne hk8)
            clear hS hk8 hu0 hu1
            have hp8 := E.out.s.lt
            have il := ints_litC w8 [-1, 0, 4611686018427387904, 1073741824, 1125899906842624, 1125899906842625]
            simp only [List.map_cons, List.map_nil] at il
            have IL := Lib.hid il
            have E := Lib.hid (E.out.alloc (.cells #[.int .i64 (-1), .int .i64 0, .int .i64 4611686018427387904, .int .i64 1073741824, .int .i64 1125899906842624, .int .i64 1125899906842625] 3))
            have ROW := Lib.hid (ROW.out.alloc (.cells #[.int .i64 (-1), .int .i64 0, .int .i64 4611686018427387904, .int .i64 1073741824, .int .i64 1125899906842624, .int .i64 1125899906842625] 3))
            have LX := Lib.hid (LX.out.alloc (.cells #[.int .i64 (-1), .int .i64 0, .int .i64 4611686018427387904, .int .i64 1073741824, .int .i64 1125899906842624, .int .i64 1125899906842625] 3))
            clear il
            go_wp2_with fail
            refine (pick_any w.heap.size (some ⟨w8.heap.size, 0, none⟩) 6 6 [-1, 0, 4611686018427387904, 1073741824, 1125899906842624, 1125899906842625] _ (by exact E.out.s) (by exact IL.out) (fun b off s e => by cases e; omega) (by omega) (by omega)).mono ?_
            rintro e w9 ⟨⟨jj, hjj, rfl⟩, hS, hk9⟩
            have E := Lib.hid (E.out.kept hS hk9); have ROW := Lib.hid (ROW.out.kept hk9); have LX := Lib.hid (LX.out.kept hzne hk9)
            generalize nth [-1, 0, 4611686018427387904, 1073741824, 1125899906842624, 1125899906842625] jj = v
            clear hS hk9 IL hjj hp8 hzne
            obtain ⟨ks, hks⟩ : ∃ ks : List Int, ks = [q0, u0, v] := ⟨_, rfl⟩
            have tb : Ints (w9.alloc (.cells (([q0, u0, v] : List Int).map (Value.int .i64)).toArray 3)) (w9.alloc (.cells (([q0, u0, v] : List Int).map (Value.int .i64)).toArray 3)).heap.size (some ⟨w9.heap.size, 0, none⟩) 3 [q0, u0, v] := ints_litC w9 [q0, u0, v]
            rw [← hks] at tb
            have TB := Lib.hid tb
            have E := Lib.hid (E.out.alloc (.cells (ks.map (Value.int .i64)).toArray 3)); have ROW := Lib.hid (ROW.out.alloc (.cells (ks.map (Value.int .i64)).toArray 3)); have LX := Lib.hid (LX.out.alloc (.cells (ks.map (Value.int .i64)).toArray 3))
            clear tb
            rw [hks] at TB E ROW LX
            simp only [List.map_cons, List.map_nil] at TB E ROW LX
            go_wp2_with fail
            generalize hwe : w9.alloc (.cells #[.int .i64 q0, .int .i64 u0, .int .i64 v] 3) = wl at TB E ROW LX ⊢
            clear hwe
            rw [← hks] at TB
            clear hks
            generalize w9.heap.size = ZK at TB ⊢
            go_loopg [157] 3 (fun gg s157 wy => ∃ j : Nat, j + gg = 3 ∧ s157 = .int .i64 j ∧ EnvL w.heap.size w wy [(W.heap.size, ⟨A1, n1, c1, ⟨L1, p1, i1⟩⟩), (W.heap.size + 1, ⟨A2, n2, c2, ⟨L2, p2, i2⟩⟩), (w3.heap.size, ⟨A, n, c, f⟩), (w3.heap.size + 1, ⟨B, m, d, g⟩)] ∧ RowP w.heap.size wy b xs ∧ LcP w.heap.size wy ZX X Y ∧ Ints wy wy.heap.size (some ⟨ZK, 0, none⟩) 3 ks)
            case atStart => exact ⟨0, rfl, rfl, E.out, ROW.out, LX.out, by exact TB.out⟩
            case round =>
              clear E ROW LX TB
              as_aux_lemma =>
              obtain ⟨j, hjg, rfl, hE, hR, hLX, hTB⟩ := hrel
              have E := Lib.hid hE; have ROW := Lib.hid hR; have LX := Lib.hid hLX; have TB := Lib.hid hTB
              clear hE hR hLX hTB
              by_cases hj : j < 3
              · have hji : (j : Int) < 3 := by omega
                obtain ⟨b', off, hAe, hbl, hcell⟩ := TB.out.2 (by omega)
                have hck := hcell j hj
                cases hAe
                rw [Nat.zero_add] at hck
                obtain ⟨t, ht⟩ : ∃ t, t = nth ks j := ⟨_, rfl⟩
                rw [← ht] at hck
                clear ht hcell
                go_upto_region 23 with fail
                clear hck hbl
                have BI := Lib.hid (Below.refl wr.heap.size wr)
                obtain ⟨x0, x1, x2, x3, x4, x5, hlx⟩ := (LX.out.below BI.out).cells
                go_wp2_with fail
                refine (reachTop_any X.A X.n X.c X.f.per X.f.inc t X.f.vals _ (by exact (LX.out.below BI.out).ix.ints) (by omega)).mono ?_
                rintro e wa ⟨t3, b3, r3, hS, rfl, hb⟩
                have HS := Lib.hid hS
                clear x0 x1 x2 x3 x4 x5 hlx
                replace BI := Lib.hid (bthen BI.out hb)
                clear hS hb
                obtain ⟨x0, x1, x2, x3, x4, x5, hlx⟩ := (LX.out.below BI.out).cells
                go_wp2_with fail
                refine (refReach_any X.A X.n X.c X.f.per X.f.inc t X.f.vals _ (by exact (LX.out.below BI.out).ix.ints) hfx2 (by omega)).mono ?_
                rintro e wb ⟨t4, b4, r4, hS, rfl, hb⟩
                obtain ⟨e1, e2, e3⟩ := ReachS.unique HS.out hS
                subst e1 e2 e3
                clear x0 x1 x2 x3 x4 x5 hlx
                replace BI := Lib.hid (bthen BI.out hb)
                clear hS hb HS
                have g1 : (t3 != t3) = false := by simp
                have g2 : (b3 != b3) = false := by simp
                have g3 : (r3 != r3) = false := by simp
                go_wp2_with fail
                go_roundg (gk - 1)
                case measure => omega
                case rel => exact ⟨j + 1, by omega, by go_num, E.out.below BI.out, ROW.out.below BI.out, LX.out.below BI.out, TB.out.ext BI.out⟩
              · have hj3 : j = 3 := by omega
                subst hj3
                clear hj hjg
                go_wp2_with fail
                go_roundg (go - 1)
                case measure => omega
                case rel => exact ⟨k + 1, by omega, by go_num, E.out, ROW.out⟩
          · have hk8 : k = 8 := by omega
            subst hk8
            clear hk hkg
            go_wp2_with fail
            refine (awake10_any _).mono ?_
            rintro q wq ⟨rfl, hbq⟩
            have bw := bthen BW.out (E.out.below hbq).fin
            go_wp2_with fail
            go_ret
            exact ⟨rfl, bw⟩
    · rw [decide_eq_false h2]
      go_wp2_with fail
      refine (awake10_any _).mono ?_
      rintro q wq ⟨rfl, hbq⟩
      have bw := bthen BW.out hbq
      go_wp2_with fail
      go_ret
      exact ⟨rfl, bw⟩
  · rw [decide_eq_false h1]
    go_wp2_with fail
    refine (awake10_any _).mono ?_
    rintro q wq ⟨rfl, hbq⟩
    have bw := bthen BW.out hbq
    go_wp2_with fail
    go_ret
    exact ⟨rfl, bw⟩
end Go.Proofs.Ytmieikfmbnaoaaa
