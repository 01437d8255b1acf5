/- The statement DeconvolutionChecks: the walk. -/
import Derived.Test.YthgfmaijoigckaaAwake8
import Derived.Test.YthgfmaijoigckaaSecond
import Derived.Test.YthgfmaijoigckaaRef8A
import Derived.Test.YthgfmaijoigckaaRef8C
import Derived.Test.YthgfmaijoigckaaAnsKit
import Derived.Test.YthgfmaijoigckaaBentG
import Derived.Deep.LoopGhost
import Derived.Deep.RegionHeld3
import Derived.Deep.DeepCutAuto
namespace Go.Proofs.Ythgfmaijoigckaa
open Go.RowKit
set_option linter.unusedVariables false

theorem dcS_lenC {f g r : Cv} {er : Int} (H : DcS f g r er) : r.vals.length ≤ 400 := by
  rcases H with ⟨_, rfl⟩ | ⟨_, _, _, _, D, _, g', _, h⟩
  · exact Nat.zero_le _
  · rcases h with ⟨h, rfl, _⟩ | ⟨_, rfl, _⟩
    · exact h.1
    · exact Nat.zero_le _
theorem prv_lenC {f g r : Cv} {cs : List Int} {er : Int} (H : ProveS f g r cs er) : cs.length ≤ 920 := by
  obtain ⟨h1, h2⟩ := H
  have hr := dcS_lenC h1
  rcases h2 with ⟨_, rfl⟩ | ⟨rfl, a, b, hna, hnb, h3⟩
  · exact Nat.zero_le _
  · rcases h3 with ⟨_, rfl⟩ | ⟨_, h3⟩
    · exact Nat.zero_le _
    · rw [h3.1]
      rcases h1 with ⟨h1, _⟩ | ⟨hf, _⟩
      · exfalso
        rcases h1 with ⟨_, h⟩ | ⟨_, _, _, h⟩ | ⟨_, _, _, h, _⟩ <;> cases h
      · obtain ⟨hao, _⟩ := nf_small hf hna
        have := hao.n2; have := hao.p2; have := hao.p1; have := hao.pn
        unfold dcExt; omega
/-- a certificate as it lies in a variable -/
structure GR where
  x : CR
  B : Option Addr
  m : Nat
  d : Nat
  cs : List Int
def GR.cells (g : GR) : List Value := [.slice g.x.A g.x.n g.x.c, .int .i64 g.x.f.per, .int .i64 g.x.f.inc, .slice g.B g.m g.d]
structure GR.In (g : GR) (p : Nat) (w : World) : Prop where
  x : g.x.In p w
  l : Ints w w.heap.size g.B g.m g.cs
  lp : 0 < g.m → ∀ b off s, g.B = some ⟨b, off, s⟩ → b ≠ p
def GR.Fit (g : GR) : Prop := g.x.n ≤ 1000 ∧ g.x.n ≤ g.x.c ∧ g.m ≤ 1000
section
variable {p F : Nat} {w w' : World} {g : GR}
theorem GR.In.below (h : g.In p w) (hb : Below w.heap.size w w') : g.In p w' := ⟨h.x.below hb, h.l.ext hb, h.lp⟩
theorem GR.In.kept (h : g.In p w) (hk : Kept w.heap.size p w w') : g.In p w' := ⟨h.x.kept hk, h.l.kept0 h.lp hk, h.lp⟩
theorem GR.In.alloc (h : g.In p w) (o : Obj) : g.In p (w.alloc o) := h.below (balloc w o)
/-- the block F is a variable that holds a certificate -/
structure LcG (p : Nat) (w : World) (F : Nat) (g : GR) : Prop where
  blk : Blk w F 55 #[.slice g.x.A g.x.n g.x.c, .int .i64 g.x.f.per, .int .i64 g.x.f.inc, .slice g.B g.m g.d]
  inn : g.In p w
  ne : F ≠ p
theorem LcG.below (h : LcG p w F g) (hb : Below w.heap.size w w') : LcG p w' F g := ⟨h.blk.below hb h.blk.lt, h.inn.below hb, h.ne⟩
theorem LcG.kept (h : LcG p w F g) (hk : Kept w.heap.size p w w') : LcG p w' F g := ⟨h.blk.kept h.ne hk, h.inn.kept hk, h.ne⟩
theorem LcG.drew (h : LcG p w F g) : LcG p w.drew F g := ⟨h.blk, ⟨h.inn.x.drew, h.inn.l, h.inn.lp⟩, h.ne⟩
theorem LcG.new (h : g.In p w) (hp : p < w.heap.size) : LcG p (w.alloc (.cells #[.slice g.x.A g.x.n g.x.c, .int .i64 g.x.f.per, .int .i64 g.x.f.inc, .slice g.B g.m g.d] 55)) w.heap.size g :=
  ⟨Blk.new _ _ _, h.alloc _, by omega⟩
end
theorem flat4_get (xs : List GR) (k j : Nat) (q : GR) (hx : xs[k]? = some q) (hj : j < 4) : (xs.flatMap GR.cells)[k * 4 + j]? = q.cells[j]? := by
  induction xs generalizing k with
  | nil => simp at hx
  | cons y ys ih =>
    rw [List.flatMap_cons]
    have hl : y.cells.length = 4 := rfl
    rcases k with _ | k
    · simp at hx
      subst hx
      rw [Nat.zero_mul, Nat.zero_add, List.getElem?_append_left (by omega)]
    · rw [List.getElem?_append_right (by omega), hl, show (k + 1) * 4 + j - 4 = k * 4 + j by omega]
      exact ih k (by simpa using hx)
/-- block b is a list of certificates -/
structure RowG (p : Nat) (w : World) (b : Nat) (xs : List GR) : Prop where
  blk : Blk w b 55 (xs.flatMap GR.cells).toArray
  inn : ∀ q ∈ xs, q.In p w
  ne : b ≠ p
section
variable {p b : Nat} {w w' : World} {xs : List GR}
theorem RowG.lt (h : RowG p w b xs) : b < w.heap.size := h.blk.lt
theorem RowG.below (h : RowG p w b xs) (hb : Below w.heap.size w w') : RowG p w' b xs := ⟨h.blk.below hb h.lt, fun x hx => (h.inn x hx).below hb, h.ne⟩
theorem RowG.alloc (h : RowG p w b xs) (o : Obj) : RowG p (w.alloc o) b xs := h.below (balloc w o)
theorem RowG.get (h : RowG p w b xs) {k : Nat} (hk : k < xs.length) : ∃ g, g ∈ xs ∧ g.In p w ∧
    w.cell? ⟨b, k * 4, none⟩ = some (.slice g.x.A g.x.n g.x.c) ∧ w.cell? ⟨b, k * 4 + 1, none⟩ = some (.int .i64 g.x.f.per) ∧ w.cell? ⟨b, k * 4 + 2, none⟩ = some (.int .i64 g.x.f.inc) ∧
    w.cell? ⟨b, k * 4 + 3, none⟩ = some (.slice g.B g.m g.d) := by
  have hx : xs[k]? = some xs[k] := List.getElem?_eq_getElem hk
  have hm := List.getElem_mem hk
  have hc : ∀ j, j < 4 → w.cell? ⟨b, k * 4 + j, none⟩ = xs[k].cells[j]? := fun j hj => by
    have := h.blk.cell (k * 4 + j)
    rw [List.getElem?_toArray, flat4_get xs k j _ hx hj] at this
    exact this
  exact ⟨xs[k], hm, h.inn _ hm, hc 0 (by omega), hc 1 (by omega), hc 2 (by omega), hc 3 (by omega)⟩
end
set_option maxHeartbeats 24000000 in
set_option maxRecDepth 100000 in
theorem dcCs_any (A0 : Option Addr) (n0 c0 : Nat) (p0 i0 : Int) (L0 : List Int) (B0 : Option Addr) (m0 d0 : Nat) (cs0 : List Int) (A1 : Option Addr) (n1 c1 : Nat) (p1 i1 : Int) (L1 : List Int) (A2 : Option Addr) (n2 c2 : Nat) (p2 i2 : Int) (L2 : List Int) (A3 : Option Addr) (n3 c3 : Nat) (L : List Int) (W : World)
    (hI0 : Ints W W.heap.size A0 n0 L0) (hc0 : n0 ≤ c0) (hn0 : (n0 : Int) ≤ 9223372036854775807) (hJ0 : Ints W W.heap.size B0 m0 cs0) (hd0 : m0 ≤ d0) (hm0 : (m0 : Int) ≤ 9223372036854775807)
    (hI1 : Ints W W.heap.size A1 n1 L1) (hc1 : n1 ≤ c1) (hn1 : (n1 : Int) ≤ 9223372036854775807) (hI2 : Ints W W.heap.size A2 n2 L2) (hc2 : n2 ≤ c2) (hn2 : (n2 : Int) ≤ 9223372036854775807) (hL0 : Ints W W.heap.size A3 n3 L) (hc3 : n3 ≤ c3) (hn3 : (n3 : Int) ≤ 9223372036854775807) :
    Calls Try.prog 5 #[.agg #[.slice A0 n0 c0, .int .i64 p0, .int .i64 i0, .slice B0 m0 d0], .agg #[.slice A1 n1 c1, .int .i64 p1, .int .i64 i1], .agg #[.slice A2 n2 c2, .int .i64 p2, .int .i64 i2], .slice A3 n3 c3] W fun e w' => e = .returned (.bool true) ∧ Below W.heap.size W w' := by
  have bw := bthen (bthen (balloc W (.cells #[.slice A0 n0 c0, .int .i64 p0, .int .i64 i0, .slice B0 m0 d0] 55)) (balloc _ (.cells #[.slice A1 n1 c1, .int .i64 p1, .int .i64 i1] 44))) (balloc _ (.cells #[.slice A2 n2 c2, .int .i64 p2, .int .i64 i2] 44))
  have GI := Lib.hid (hI0.ext bw); have GJ := Lib.hid (hJ0.ext bw); have RI := Lib.hid (hI1.ext bw); have OI := Lib.hid (hI2.ext bw); have LI := Lib.hid (hL0.ext bw)
  have GX := Lib.hid (((Blk.new W 55 #[.slice A0 n0 c0, .int .i64 p0, .int .i64 i0, .slice B0 m0 d0]).alloc (.cells #[.slice A1 n1 c1, .int .i64 p1, .int .i64 i1] 44)).alloc (.cells #[.slice A2 n2 c2, .int .i64 p2, .int .i64 i2] 44))
  have RX := Lib.hid (show Blk (((W.alloc (.cells #[.slice A0 n0 c0, .int .i64 p0, .int .i64 i0, .slice B0 m0 d0] 55)).alloc (.cells #[.slice A1 n1 c1, .int .i64 p1, .int .i64 i1] 44)).alloc (.cells #[.slice A2 n2 c2, .int .i64 p2, .int .i64 i2] 44)) (W.heap.size + 1) 44 #[.slice A1 n1 c1, .int .i64 p1, .int .i64 i1] from by
    have := (Blk.new (W.alloc (.cells #[.slice A0 n0 c0, .int .i64 p0, .int .i64 i0, .slice B0 m0 d0] 55)) 44 #[.slice A1 n1 c1, .int .i64 p1, .int .i64 i1]).alloc (.cells #[.slice A2 n2 c2, .int .i64 p2, .int .i64 i2] 44)
    simpa using this)
  have OX := Lib.hid (show Blk (((W.alloc (.cells #[.slice A0 n0 c0, .int .i64 p0, .int .i64 i0, .slice B0 m0 d0] 55)).alloc (.cells #[.slice A1 n1 c1, .int .i64 p1, .int .i64 i1] 44)).alloc (.cells #[.slice A2 n2 c2, .int .i64 p2, .int .i64 i2] 44)) (W.heap.size + 1 + 1) 44 #[.slice A2 n2 c2, .int .i64 p2, .int .i64 i2] from by
    have := Blk.new ((W.alloc (.cells #[.slice A0 n0 c0, .int .i64 p0, .int .i64 i0, .slice B0 m0 d0] 55)).alloc (.cells #[.slice A1 n1 c1, .int .i64 p1, .int .i64 i1] 44)) 44 #[.slice A2 n2 c2, .int .i64 p2, .int .i64 i2]
    simpa using this)
  have BW := Lib.hid bw
  have HC0 := Lib.hid hc0; have HC1 := Lib.hid hc1; have HC2 := Lib.hid hc2; have HM0 := Lib.hid hm0
  clear hI0 hJ0 hI1 hI2 hL0 hc0 hc1 hc2 hd0 hm0 bw
  go_enter Try.func5, Try.ntmps5
  go_upto_region 1 with fail
  generalize hwe : ((W.alloc (.cells #[.slice A0 n0 c0, .int .i64 p0, .int .i64 i0, .slice B0 m0 d0] 55)).alloc (.cells #[.slice A1 n1 c1, .int .i64 p1, .int .i64 i1] 44)).alloc (.cells #[.slice A2 n2 c2, .int .i64 p2, .int .i64 i2] 44) = W2 at *
  clear hwe
  obtain ⟨⟨r0, r1, r2, r3⟩, _, hlr⟩ := GX.out.c4
  obtain ⟨⟨s0, s1, s2⟩, _, hls⟩ := RX.out.c3
  obtain ⟨⟨t0, t1, t2⟩, _, hlt⟩ := OX.out.c3
  have RW := Lib.hid (show Row (W2.alloc (.cells #[.slice A1 n1 c1, .int .i64 p1, .int .i64 i1, .slice A2 n2 c2, .int .i64 p2, .int .i64 i2, .slice A0 n0 c0, .int .i64 p0, .int .i64 i0] 44)).heap.size (W2.alloc (.cells #[.slice A1 n1 c1, .int .i64 p1, .int .i64 i1, .slice A2 n2 c2, .int .i64 p2, .int .i64 i2, .slice A0 n0 c0, .int .i64 p0, .int .i64 i0] 44)) W2.heap.size [⟨A1, n1, c1, ⟨L1, p1, i1⟩⟩, ⟨A2, n2, c2, ⟨L2, p2, i2⟩⟩, ⟨A0, n0, c0, ⟨L0, p0, i0⟩⟩] from ⟨Blk.new _ _ _, (by
    intro x hx
    simp only [List.mem_cons, List.not_mem_nil, or_false] at hx
    rcases hx with rfl | rfl | rfl
    · exact CR.In.old (RI.out.alloc' _)
    · exact CR.In.old (OI.out.alloc' _)
    · exact CR.In.old (GI.out.alloc' _)), by rw [World.size_alloc]; omega⟩)
  have hbq := balloc W2 (.cells #[.slice A1 n1 c1, .int .i64 p1, .int .i64 i1, .slice A2 n2 c2, .int .i64 p2, .int .i64 i2, .slice A0 n0 c0, .int .i64 p0, .int .i64 i0] 44)
  replace GI := Lib.hid (GI.out.ext hbq); replace GJ := Lib.hid (GJ.out.ext hbq); replace RI := Lib.hid (RI.out.ext hbq); replace OI := Lib.hid (OI.out.ext hbq); replace LI := Lib.hid (LI.out.ext hbq)
  replace GX := Lib.hid (GX.out.below hbq GX.out.lt); replace RX := Lib.hid (RX.out.below hbq RX.out.lt); replace OX := Lib.hid (OX.out.below hbq OX.out.lt); replace BW := Lib.hid (bthen BW.out hbq)
  clear hbq
  go_wp2_with fail
  refine (short_any W2.heap.size 3 3 _ _ rfl (by omega) RW.out (by
    intro x hx
    simp only [List.mem_cons, List.not_mem_nil, or_false] at hx
    rcases hx with rfl | rfl | rfl
    · exact hn1
    · exact hn2
    · exact hn0)).mono ?_
  rintro e w ⟨z, rfl, hz, hb⟩
  replace GI := Lib.hid (GI.out.ext hb); replace GJ := Lib.hid (GJ.out.ext hb); replace RI := Lib.hid (RI.out.ext hb); replace OI := Lib.hid (OI.out.ext hb); replace LI := Lib.hid (LI.out.ext hb)
  replace GX := Lib.hid (GX.out.below hb GX.out.lt); replace RX := Lib.hid (RX.out.below hb RX.out.lt); replace OX := Lib.hid (OX.out.below hb OX.out.lt); replace BW := Lib.hid (bthen BW.out hb)
  clear hb RW r0 r1 r2 r3 hlr s0 s1 s2 t0 t1 t2 hls hlt
  cases z
  case false =>
    clear hz
    go_wp2_with fail
    refine (awake8_any _).mono ?_
    rintro q wq ⟨rfl, hbq⟩
    have bw := bthen BW.out hbq
    go_wp2_with fail
    go_ret
    exact ⟨rfl, bw⟩
  case true =>
    have h1 : n1 ≤ 800 := hz rfl _ (List.mem_cons_self ..)
    have h2 : n2 ≤ 800 := hz rfl _ (List.mem_cons_of_mem _ (List.mem_cons_self ..))
    have h0 : n0 ≤ 800 := hz rfl _ (List.mem_cons_of_mem _ (List.mem_cons_of_mem _ (List.mem_cons_self ..)))
    clear hz
    obtain ⟨⟨r0, r1, r2, r3⟩, _, hlr⟩ := GX.out.c4
    by_cases h300 : 300 < m0
    · have dm : decide ((300 : Int) < (m0 : Int)) = true := by simp; omega
      have dm' : decide (300 < m0) = true := by simp; omega
      go_wp2_with fail
      refine (awake8_any _).mono ?_
      rintro q wq ⟨rfl, hbq⟩
      have bw := bthen BW.out hbq
      go_wp2_with fail
      go_ret
      exact ⟨rfl, bw⟩
    · have dm : decide ((300 : Int) < (m0 : Int)) = false := by simp; omega
      have dm' : decide (300 < m0) = false := by simp; omega
      have R0 := Lib.hid (show Lc w.heap.size w (W.heap.size + 1) ⟨A1, n1, c1, ⟨L1, p1, i1⟩⟩ from ⟨RX.out, CR.In.old RI.out, Nat.ne_of_lt RX.out.lt⟩)
      have O0 := Lib.hid (show Lc w.heap.size w (W.heap.size + 1 + 1) ⟨A2, n2, c2, ⟨L2, p2, i2⟩⟩ from ⟨OX.out, CR.In.old OI.out, Nat.ne_of_lt OX.out.lt⟩)
      have RAW := Lib.hid (show LcG w.heap.size w W.heap.size ⟨⟨A0, n0, c0, ⟨L0, p0, i0⟩⟩, B0, m0, d0, cs0⟩ from ⟨GX.out, ⟨CR.In.old GI.out, GJ.out, fun hm b off s e => by
        obtain ⟨b', off', e', hb, _⟩ := GJ.out.2 hm
        dsimp only at e
        rw [e] at e'; cases e'; omega⟩, Nat.ne_of_lt GX.out.lt⟩)
      have hL := LI.out
      have FIT1 := Lib.hid (show (CR.mk A1 n1 c1 ⟨L1, p1, i1⟩).FitD from ⟨by show n1 ≤ 1000; omega, HC1.out⟩)
      have FIT2 := Lib.hid (show (CR.mk A2 n2 c2 ⟨L2, p2, i2⟩).FitD from ⟨by show n2 ≤ 1000; omega, HC2.out⟩)
      have FIT0 := Lib.hid (show GR.Fit ⟨⟨A0, n0, c0, ⟨L0, p0, i0⟩⟩, B0, m0, d0, cs0⟩ from ⟨by show n0 ≤ 1000; omega, HC0.out, by show m0 ≤ 1000; omega⟩)
      clear GI GJ RI OI LI GX RX OX HC0 HC1 HC2 HM0 h0 h1 h2 hn0 hn1 hn2 h300
      go_wp2_with fail
      refine (new_any A3 n3 c3 L w hL hc3 hn3).mono ?_
      rintro e w1 ⟨rfl, hS1, hb1⟩
      clear dm dm' r0 r1 r2 r3 hlr
      have E := Lib.hid (show EnvL w.heap.size w w1 [(W.heap.size + 1, ⟨A1, n1, c1, ⟨L1, p1, i1⟩⟩), (W.heap.size + 1 + 1, ⟨A2, n2, c2, ⟨L2, p2, i2⟩⟩)] from ((EnvL.start hS1 hb1).addD (R0.out.below hb1)).addD (O0.out.below hb1))
      replace RAW := Lib.hid (RAW.out.below hb1)
      clear hL hS1 hb1 R0 O0 hc3 hn3
      go_wp2_with fail
      refine (srcCurve2_any w.heap.size 6 _ (by exact E.out.s) (by omega) (by omega)).mono ?_
      rintro e w2 ⟨f, A, n, c, hD, hcf, rfl, hI, hA, hS, hk⟩
      have hps := E.out.s.lt
      have E := Lib.hid (E.out.kept hS hk)
      have Vf := Lib.hid (show (CR.mk A n c f).In w.heap.size w2 from CR.In.new hI hA hps)
      have Hf := Lib.hid (show DrawC 6 f from hD)
      have HCf := Lib.hid hcf
      have hlenf := hI.1
      try simp only at hlenf
      replace RAW := Lib.hid (RAW.out.kept hk)
      have hnf : n ≤ 20 := by have h1 := Hf.out.len; omega
      clear hlenf
      clear hD hI hA hS hk hps hcf
      go_wp2_with fail
      refine (second_any w.heap.size 6 _ (by exact E.out.s) (by omega) (by omega)).mono ?_
      rintro e w3 ⟨g, B, m, d, hD, hcf, rfl, hI, hA, hS, hk⟩
      have hps := E.out.s.lt
      replace E := Lib.hid (E.out.kept hS hk)
      replace RAW := Lib.hid (RAW.out.kept hk)
      replace Vf := Lib.hid (Vf.out.kept hk)
      have Vg := Lib.hid (show (CR.mk B m d g).In w.heap.size w3 from CR.In.new hI hA hps)
      have Hg := Lib.hid (show DrawC 7 g ∧ nth g.vals 0 = 0 from hD)
      have HCg := Lib.hid hcf
      have hmg : m ≤ 20 := by have h1 := Hg.out.1.len; have h2 : g.vals.length = m := hI.1; omega
      clear hD hI hA hS hk hps hcf
      have E := Lib.hid (show EnvL w.heap.size w _ _ from E.out.push (X := ⟨A, n, c, f⟩) Vf.out)
      dsimp only [List.cons_append, List.nil_append] at E
      have Vg := Lib.hid (Vg.out.alloc (.cells #[.slice A n c, .int .i64 f.per, .int .i64 f.inc] 44))
      have E := Lib.hid (show EnvL w.heap.size w _ _ from E.out.push (X := ⟨B, m, d, g⟩) Vg.out)
      dsimp only [List.cons_append, List.nil_append] at E
      replace RAW := Lib.hid ((RAW.out.below (balloc _ (.cells #[.slice A n c, .int .i64 f.per, .int .i64 f.inc] 44))).below (balloc _ (.cells #[.slice B m d, .int .i64 g.per, .int .i64 g.inc] 44)))
      have hcf := HCf.out; have hcg := HCg.out
      clear Vf Vg HCf HCg Hf Hg
      go_upto_region 5 with fail
      generalize hwe : (w3.alloc (.cells #[.slice A n c, .int .i64 f.per, .int .i64 f.inc] 44)).alloc (.cells #[.slice B m d, .int .i64 g.per, .int .i64 g.inc] 44) = we at E RAW ⊢
      clear hwe
      simp only [World.size_alloc] at E
      obtain ⟨Zg, hzg⟩ : ∃ z, z = w3.heap.size + 1 := ⟨_, rfl⟩
      rw [← hzg] at E ⊢
      clear hzg
      generalize w3.heap.size = Zf at E ⊢
      obtain ⟨u0, u1, u2, hlu⟩ := (E.out.get 2 rfl).cells
      obtain ⟨v0, v1, v2, hlv⟩ := (E.out.get 3 rfl).cells
      dsimp only at u0 u1 u2 v0 v1 v2
      go_wp2_with fail
      refine (refPrv_any A B n m c d f.per f.inc g.per g.inc f.vals g.vals _ (by exact (E.out.get 2 rfl).inn.ints) (by exact (E.out.get 3 rfl).inn.ints) (by omega) (by omega) hcf hcg).mono ?_
      rintro e wp ⟨fP, qP, rP, hS, AP, nP, cP, BP, mP, dP, hcP, hdP, rfl, hIP, hJP, hAP, hBP, hb⟩
      have hnP : nP ≤ 400 := by have h1 := dcS_lenC hS.1; rw [hIP.1] at h1; exact h1
      have hmP : mP ≤ 920 := by have h1 := prv_lenC hS; rw [hJP.1] at h1; exact h1
      have hps := E.out.s.lt
      have HAP := Lib.hid (show ∀ b off s, AP = some ⟨b, off, s⟩ → b ≠ w.heap.size from fun b off s e => by have := hAP b off s e; omega)
      have IP := Lib.hid (show (GR.mk ⟨AP, nP, cP, fP⟩ BP mP dP qP).In w.heap.size wp from ⟨⟨hIP, fun _ => HAP.out⟩, hJP, fun _ b off s e => by have := hBP b off s e; omega⟩)
      replace E := Lib.hid (E.out.below hb)
      replace RAW := Lib.hid (RAW.out.below hb)
      have hps2 := E.out.s.lt
      have PRV := Lib.hid (LcG.new IP.out hps2)
      have FITP := Lib.hid (show (GR.mk ⟨AP, nP, cP, fP⟩ BP mP dP qP).Fit from ⟨by show nP ≤ 1000; omega, hcP, by show mP ≤ 1000; omega⟩)
      have hbq := balloc wp (.cells #[.slice AP nP cP, .int .i64 fP.per, .int .i64 fP.inc, .slice BP mP dP] 55)
      replace E := Lib.hid (E.out.below hbq)
      replace RAW := Lib.hid (RAW.out.below hbq)
      clear hS hb hbq hcP hdP hIP hJP hAP hBP hps hps2 IP u0 u1 u2 hlu v0 v1 v2 hlv
      go_upto_region 6 with fail
      generalize hwe : wp.alloc (.cells #[.slice AP nP cP, .int .i64 fP.per, .int .i64 fP.inc, .slice BP mP dP] 55) = wp2 at *
      clear hwe
      generalize wp.heap.size = Zp at *
      obtain ⟨u0, u1, u2, hlu⟩ := (E.out.get 2 rfl).cells
      obtain ⟨v0, v1, v2, hlv⟩ := (E.out.get 3 rfl).cells
      dsimp only at u0 u1 u2 v0 v1 v2
      go_wp2_with fail
      refine (refDc_any A B n m c d f.per f.inc g.per g.inc f.vals g.vals _ (by exact (E.out.get 2 rfl).inn.ints) (by exact (E.out.get 3 rfl).inn.ints) (by omega) (by omega) hcf hcg).mono ?_
      rintro e wh ⟨h, er, AH, nH, cH, hS, hcH, rfl, hIH, hAH, hb⟩
      have HDC := Lib.hid hS
      have hnH : nH ≤ 400 := by have h1 := dcS_lenC hS; rw [hIH.1] at h1; exact h1
      have hps := E.out.s.lt
      have hin := show (CR.mk AH nH cH h).In w.heap.size wh from CR.In.new hIH hAH hps
      replace E := Lib.hid (E.out.below hb)
      replace RAW := Lib.hid (RAW.out.below hb)
      replace PRV := Lib.hid (PRV.out.below hb)
      have hps2 := E.out.s.lt
      have HH := Lib.hid (Lc.new hin hps2)
      have hbq := balloc wh (.cells #[.slice AH nH cH, .int .i64 h.per, .int .i64 h.inc] 44)
      replace E := Lib.hid (E.out.below hbq)
      replace RAW := Lib.hid (RAW.out.below hbq)
      replace PRV := Lib.hid (PRV.out.below hbq)
      clear hS hb hbq hcH hIH hAH hps hps2 hin u0 u1 u2 hlu v0 v1 v2 hlv
      go_upto_region 7 with fail
      try dsimp only at HH
      generalize hwe : wh.alloc (.cells #[.slice AH nH cH, .int .i64 h.per, .int .i64 h.inc] 44) = wi at *
      clear hwe
      generalize wh.heap.size = Zh at *
      go_cut [64, 65, 66] (fun s64 s65 s66 wx => ∃ (b : Nat) (xs : List GR), s64 = .slice (some ⟨b, 0, none⟩) 5 5 ∧ s65 = .int .i64 5 ∧ s66 = .int .i64 0 ∧ xs.length = 5 ∧ (∀ q ∈ xs, q.Fit) ∧ EnvL w.heap.size w wx [(W.heap.size + 1, ⟨A1, n1, c1, ⟨L1, p1, i1⟩⟩), (W.heap.size + 1 + 1, ⟨A2, n2, c2, ⟨L2, p2, i2⟩⟩), (Zf, ⟨A, n, c, f⟩), (Zg, ⟨B, m, d, g⟩)] ∧ Lc w.heap.size wx Zh ⟨AH, nH, cH, h⟩ ∧ RowG w.heap.size wx b xs)
      case first =>
        replace E := Lib.hid E.out.drew
        replace HH := Lib.hid HH.out.drew
        replace RAW := Lib.hid RAW.out.drew
        replace PRV := Lib.hid PRV.out.drew
        obtain ⟨⟨s0, s1, s2, s3⟩, _, hls⟩ := RAW.out.blk.c4
        obtain ⟨⟨t0, t1, t2, t3⟩, _, hlt⟩ := PRV.out.blk.c4
        dsimp only at s0 s1 s2 s3 t0 t1 t2 t3
        refine wp_region_held_drew (S := (fun w' => (w'.cell? ⟨W.heap.size, 0, none⟩ = some (.slice A0 n0 c0) ∧ w'.cell? ⟨W.heap.size, 1, none⟩ = some (.int .i64 p0) ∧ w'.cell? ⟨W.heap.size, 2, none⟩ = some (.int .i64 i0) ∧ w'.cell? ⟨W.heap.size, 3, none⟩ = some (.slice B0 m0 d0)) ∧ w'.cell? ⟨Zp, 0, none⟩ = some (.slice AP nP cP) ∧ w'.cell? ⟨Zp, 1, none⟩ = some (.int .i64 fP.per) ∧ w'.cell? ⟨Zp, 2, none⟩ = some (.int .i64 fP.inc) ∧ w'.cell? ⟨Zp, 3, none⟩ = some (.slice BP mP dP))) (by kernel_rfl) (by exact ⟨⟨s0, s1, s2, s3⟩, t0, t1, t2, t3⟩) (fun hHeld => ?_)
        clear s0 s1 s2 s3 hls t0 t1 t2 t3 hlt
        generalize hwd : wi.drew = wd at *
        clear hwd
        obtain ⟨⟨s0, s1, s2, s3⟩, _, hls⟩ := RAW.out.blk.c4
        obtain ⟨⟨t0, t1, t2, t3⟩, _, hlt⟩ := PRV.out.blk.c4
        dsimp only at s0 s1 s2 s3 t0 t1 t2 t3
        refine wpAnyH_take (i := 0) (oi := _) (v := ?_) (by simp only [g8a, g8z]; rfl) (by kernel_rfl) (by kernel_rfl) (by kernel_rfl) (by exact fun _ _ _ h => h) (Or.inl ⟨by rfl, ?_⟩) (by assumption) ?_
        rotate_left 1
        · (intro w hSw; (try dsimp only at hSw); go_simp; try with_reducible rfl)
        all_goals ((try simp only [Act.put]); (try simp only [g8b]); (try simp only [g8c]); (try simp only [g8d]))
        refine wpAnyH_take (i := 1) (oi := _) (v := ?_) (by simp only [g8a, g8s, g8z]; rfl) (by kernel_rfl) (by kernel_rfl) (by kernel_rfl) (by exact fun _ _ _ h => h) (Or.inl ⟨by rfl, ?_⟩) (by assumption) ?_
        rotate_left 1
        · (intro w hSw; (try dsimp only at hSw); go_simp; try with_reducible rfl)
        all_goals ((try simp only [Act.put]); (try simp only [g8b]); (try simp only [g8c]); (try simp only [g8d]))
        refine wpAnyH_take (i := 2) (oi := _) (v := ?_) (by simp only [g8a, g8s, g8z]; rfl) (by kernel_rfl) (by kernel_rfl) (by kernel_rfl) (by exact fun _ _ _ h => h) (Or.inl ⟨by rfl, ?_⟩) (by assumption) ?_
        rotate_left 1
        · (intro w hSw; (try dsimp only at hSw); go_simp; try with_reducible rfl)
        all_goals ((try simp only [Act.put]); (try simp only [g8b]); (try simp only [g8c]); (try simp only [g8d]))
        refine wpAnyH_take (i := 3) (oi := _) (v := ?_) (by simp only [g8a, g8s, g8z]; rfl) (by kernel_rfl) (by kernel_rfl) (by kernel_rfl) (by exact fun _ _ _ h => h) (Or.inl ⟨by rfl, ?_⟩) (by assumption) ?_
        rotate_left 1
        · (intro w hSw; (try dsimp only at hSw); go_simp; try with_reducible rfl)
        all_goals ((try simp only [Act.put]); (try simp only [g8b]); (try simp only [g8c]); (try simp only [g8d]))
        refine wpAnyH_take (i := 5) (oi := _) (v := ?_) (by simp only [g8a, g8s, g8z]; rfl) (by kernel_rfl) (by kernel_rfl) (by kernel_rfl) (by exact fun _ _ _ h => h) (Or.inl ⟨by rfl, ?_⟩) (by assumption) ?_
        rotate_left 1
        · (intro w hSw; (try dsimp only at hSw); go_simp; try with_reducible rfl)
        all_goals ((try simp only [Act.put]); (try simp only [g8b]); (try simp only [g8c]); (try simp only [g8d]))
        refine wpAnyH_take (i := 6) (oi := _) (v := ?_) (by simp only [g8a, g8s, g8z]; rfl) (by kernel_rfl) (by kernel_rfl) (by kernel_rfl) (by exact fun _ _ _ h => h) (Or.inl ⟨by rfl, ?_⟩) (by assumption) ?_
        rotate_left 1
        · (intro w hSw; (try dsimp only at hSw); go_simp; try with_reducible rfl)
        all_goals ((try simp only [Act.put]); (try simp only [g8b]); (try simp only [g8c]); (try simp only [g8d]))
        refine wpAnyH_take (i := 7) (oi := _) (v := ?_) (by simp only [g8a, g8s, g8z]; rfl) (by kernel_rfl) (by kernel_rfl) (by kernel_rfl) (by exact fun _ _ _ h => h) (Or.inl ⟨by rfl, ?_⟩) (by assumption) ?_
        rotate_left 1
        · (intro w hSw; (try dsimp only at hSw); go_simp; try with_reducible rfl)
        all_goals ((try simp only [Act.put]); (try simp only [g8b]); (try simp only [g8c]); (try simp only [g8d]))
        refine wpAnyH_take (i := 10) (oi := _) (v := ?_) (by simp only [g8a, g8s, g8z]; rfl) (by kernel_rfl) (by kernel_rfl) (by kernel_rfl) (by exact fun _ _ _ h => h) (Or.inl ⟨by rfl, ?_⟩) (by assumption) ?_
        rotate_left 1
        · (intro w hSw; (try dsimp only at hSw); go_simp; try with_reducible rfl)
        all_goals ((try simp only [Act.put]); (try simp only [g8b]); (try simp only [g8c]); (try simp only [g8d]))
        refine wpAnyH_take (i := 11) (oi := _) (v := ?_) (by simp only [g8a, g8s, g8z]; rfl) (by kernel_rfl) (by kernel_rfl) (by kernel_rfl) (by exact fun _ _ _ h => h) (Or.inl ⟨by rfl, ?_⟩) (by assumption) ?_
        rotate_left 1
        · (intro w hSw; (try dsimp only at hSw); go_simp; try with_reducible rfl)
        all_goals ((try simp only [Act.put]); (try simp only [g8b]); (try simp only [g8c]); (try simp only [g8d]))
        refine wpAnyH_take (i := 15) (oi := _) (v := ?_) (by simp only [g8a, g8s, g8z]; rfl) (by kernel_rfl) (by kernel_rfl) (by kernel_rfl) (by exact fun _ _ _ h => h) (Or.inl ⟨by rfl, ?_⟩) (by assumption) ?_
        rotate_left 1
        · (intro w hSw; (try dsimp only at hSw); go_simp; try with_reducible rfl)
        all_goals ((try simp only [Act.put]); (try simp only [g8b]); (try simp only [g8c]); (try simp only [g8d]))
        refine wpAnyH_ready (rs := [4]) (by kernel_rfl) (by simp) ?_
        refine (AllReadyH.cons (by simp only [g8a, g8s, g8z]; rfl) (fun K hK => ?_) AllReadyH.nil)
        rw [if_pos (by rfl)]
        go_simp
        refine (bent8_any w.heap.size AP BP nP cP mP dP fP qP _ (by exact E.out.s) (by exact PRV.out.inn.x.ints) (by exact PRV.out.inn.l) HAP.out (by omega) FITP.out.2.1 (by omega)).mono ?_
        rintro e wa ⟨ka, qa, Aa, na, ca, Ba, ma, da, hn8, hm8, hc8, rfl, hI8, hJ8, hA8, hB8, hS8, hk8⟩
        replace E := Lib.hid (E.out.kept hS8 hk8)
        replace HH := Lib.hid (HH.out.kept hk8)
        replace RAW := Lib.hid (RAW.out.kept hk8)
        replace PRV := Lib.hid (PRV.out.kept hk8)
        try (replace V1 := Lib.hid (V1.out.kept hk8))
        try (replace V2 := Lib.hid (V2.out.kept hk8))
        try (replace V3 := Lib.hid (V3.out.kept hk8))
        have V1 := Lib.hid (show (GR.mk ⟨Aa, na, ca, ka⟩ Ba ma da qa).In w.heap.size wa from ⟨⟨hI8, fun _ => hA8⟩, hJ8, fun _ => hB8⟩)
        have FV1 := Lib.hid (show (GR.mk ⟨Aa, na, ca, ka⟩ Ba ma da qa).Fit ∧ (∀ b off s, Aa = some ⟨b, off, s⟩ → b ≠ w.heap.size) ∧ ma ≤ 921 from ⟨⟨hn8, hc8, by show ma ≤ 1000; omega⟩, hA8, by omega⟩)
        clear hI8 hJ8 hS8 hk8 hm8 hc8 hA8 hB8 hn8 hHeld
        clear s0 s1 s2 s3 hls t0 t1 t2 t3 hlt
        obtain ⟨⟨s0, s1, s2, s3⟩, _, hls⟩ := RAW.out.blk.c4
        obtain ⟨⟨t0, t1, t2, t3⟩, _, hlt⟩ := PRV.out.blk.c4
        dsimp only at s0 s1 s2 s3 t0 t1 t2 t3
        refine hK.out _ _ (by exact ⟨⟨s0, s1, s2, s3⟩, t0, t1, t2, t3⟩) (fun hHeld => ?_)
        clear hK K
        (try simp only [Act.put]); (try simp only [g8b]); (try simp only [g8c]); (try simp only [g8d])
        refine wpAnyH_ready (rs := [8]) (by kernel_rfl) (by simp) ?_
        refine (AllReadyH.cons (by simp only [g8a, g8s, g8z]; rfl) (fun K hK => ?_) AllReadyH.nil)
        rw [if_pos (by rfl)]
        go_simp
        refine (bent8_any w.heap.size AP BP nP cP mP dP fP qP _ (by exact E.out.s) (by exact PRV.out.inn.x.ints) (by exact PRV.out.inn.l) HAP.out (by omega) FITP.out.2.1 (by omega)).mono ?_
        rintro e wb ⟨kb, qb, Ab, nb, cb, Bb, mb, db, hn8, hm8, hc8, rfl, hI8, hJ8, hA8, hB8, hS8, hk8⟩
        replace E := Lib.hid (E.out.kept hS8 hk8)
        replace HH := Lib.hid (HH.out.kept hk8)
        replace RAW := Lib.hid (RAW.out.kept hk8)
        replace PRV := Lib.hid (PRV.out.kept hk8)
        try (replace V1 := Lib.hid (V1.out.kept hk8))
        try (replace V2 := Lib.hid (V2.out.kept hk8))
        try (replace V3 := Lib.hid (V3.out.kept hk8))
        have V2 := Lib.hid (show (GR.mk ⟨Ab, nb, cb, kb⟩ Bb mb db qb).In w.heap.size wb from ⟨⟨hI8, fun _ => hA8⟩, hJ8, fun _ => hB8⟩)
        have FV2 := Lib.hid (show (GR.mk ⟨Ab, nb, cb, kb⟩ Bb mb db qb).Fit ∧ (∀ b off s, Ab = some ⟨b, off, s⟩ → b ≠ w.heap.size) ∧ mb ≤ 921 from ⟨⟨hn8, hc8, by show mb ≤ 1000; omega⟩, hA8, by omega⟩)
        clear hI8 hJ8 hS8 hk8 hm8 hc8 hA8 hB8 hn8 hHeld
        clear s0 s1 s2 s3 hls t0 t1 t2 t3 hlt
        obtain ⟨⟨s0, s1, s2, s3⟩, _, hls⟩ := RAW.out.blk.c4
        obtain ⟨⟨t0, t1, t2, t3⟩, _, hlt⟩ := PRV.out.blk.c4
        dsimp only at s0 s1 s2 s3 t0 t1 t2 t3
        refine hK.out _ _ (by exact ⟨⟨s0, s1, s2, s3⟩, t0, t1, t2, t3⟩) (fun hHeld => ?_)
        clear hK K
        (try simp only [Act.put]); (try simp only [g8b]); (try simp only [g8c]); (try simp only [g8d])
        refine wpAnyH_ready (rs := [9]) (by kernel_rfl) (by simp) ?_
        refine (AllReadyH.cons (by simp only [g8a, g8s, g8z]; rfl) (fun K hK => ?_) AllReadyH.nil)
        rw [if_pos (by rfl)]
        go_simp
        have hq1 := FV2.out.2.2; have hq2 := FV2.out.1.1; have hq3 := FV2.out.1.2.1
        dsimp only at hq2 hq3
        refine (bent8_any w.heap.size Ab Bb nb cb mb db kb qb _ (by exact E.out.s) (by exact V2.out.x.ints) (by exact V2.out.l) FV2.out.2.1 hq2 hq3 (by omega)).mono ?_
        rintro e wc ⟨kc, qc, Ac, nc, cc, Bc, mc, dc, hn8, hm8, hc8, rfl, hI8, hJ8, hA8, hB8, hS8, hk8⟩
        replace E := Lib.hid (E.out.kept hS8 hk8)
        replace HH := Lib.hid (HH.out.kept hk8)
        replace RAW := Lib.hid (RAW.out.kept hk8)
        replace PRV := Lib.hid (PRV.out.kept hk8)
        try (replace V1 := Lib.hid (V1.out.kept hk8))
        try (replace V2 := Lib.hid (V2.out.kept hk8))
        try (replace V3 := Lib.hid (V3.out.kept hk8))
        have V3 := Lib.hid (show (GR.mk ⟨Ac, nc, cc, kc⟩ Bc mc dc qc).In w.heap.size wc from ⟨⟨hI8, fun _ => hA8⟩, hJ8, fun _ => hB8⟩)
        have FV3 := Lib.hid (show (GR.mk ⟨Ac, nc, cc, kc⟩ Bc mc dc qc).Fit ∧ (∀ b off s, Ac = some ⟨b, off, s⟩ → b ≠ w.heap.size) ∧ mc ≤ 922 from ⟨⟨hn8, hc8, by show mc ≤ 1000; omega⟩, hA8, by omega⟩)
        clear hI8 hJ8 hS8 hk8 hm8 hc8 hA8 hB8 hn8 hHeld
        clear s0 s1 s2 s3 hls t0 t1 t2 t3 hlt
        obtain ⟨⟨s0, s1, s2, s3⟩, _, hls⟩ := RAW.out.blk.c4
        obtain ⟨⟨t0, t1, t2, t3⟩, _, hlt⟩ := PRV.out.blk.c4
        dsimp only at s0 s1 s2 s3 t0 t1 t2 t3
        refine hK.out _ _ (by exact ⟨⟨s0, s1, s2, s3⟩, t0, t1, t2, t3⟩) (fun hHeld => ?_)
        clear hK K
        (try simp only [Act.put]); (try simp only [g8b]); (try simp only [g8c]); (try simp only [g8d])
        clear hq1 hq2 hq3
        refine wpAnyH_ready (rs := [12]) (by kernel_rfl) (by simp) ?_
        refine (AllReadyH.cons (by simp only [g8a, g8s, g8z]; rfl) (fun K hK => ?_) AllReadyH.nil)
        rw [if_pos (by rfl)]
        go_simp
        refine (bent8_any w.heap.size AP BP nP cP mP dP fP qP _ (by exact E.out.s) (by exact PRV.out.inn.x.ints) (by exact PRV.out.inn.l) HAP.out (by omega) FITP.out.2.1 (by omega)).mono ?_
        rintro e we ⟨kd, qd, Ad, nd, cd, Bd, md, dd, hn8, hm8, hc8, rfl, hI8, hJ8, hA8, hB8, hS8, hk8⟩
        replace E := Lib.hid (E.out.kept hS8 hk8)
        replace HH := Lib.hid (HH.out.kept hk8)
        replace RAW := Lib.hid (RAW.out.kept hk8)
        replace PRV := Lib.hid (PRV.out.kept hk8)
        try (replace V1 := Lib.hid (V1.out.kept hk8))
        try (replace V2 := Lib.hid (V2.out.kept hk8))
        try (replace V3 := Lib.hid (V3.out.kept hk8))
        have V4 := Lib.hid (show (GR.mk ⟨Ad, nd, cd, kd⟩ Bd md dd qd).In w.heap.size we from ⟨⟨hI8, fun _ => hA8⟩, hJ8, fun _ => hB8⟩)
        have FV4 := Lib.hid (show (GR.mk ⟨Ad, nd, cd, kd⟩ Bd md dd qd).Fit ∧ (∀ b off s, Ad = some ⟨b, off, s⟩ → b ≠ w.heap.size) ∧ md ≤ 921 from ⟨⟨hn8, hc8, by show md ≤ 1000; omega⟩, hA8, by omega⟩)
        clear hI8 hJ8 hS8 hk8 hm8 hc8 hA8 hB8 hn8 hHeld
        clear s0 s1 s2 s3 hls t0 t1 t2 t3 hlt
        obtain ⟨⟨s0, s1, s2, s3⟩, _, hls⟩ := RAW.out.blk.c4
        obtain ⟨⟨t0, t1, t2, t3⟩, _, hlt⟩ := PRV.out.blk.c4
        dsimp only at s0 s1 s2 s3 t0 t1 t2 t3
        refine hK.out _ _ (by exact ⟨⟨s0, s1, s2, s3⟩, t0, t1, t2, t3⟩) (fun hHeld => ?_)
        clear hK K
        (try simp only [Act.put]); (try simp only [g8b]); (try simp only [g8c]); (try simp only [g8d])
        refine wpAnyH_ready (rs := [13]) (by kernel_rfl) (by simp) ?_
        refine (AllReadyH.cons (by simp only [g8a, g8s, g8z]; rfl) (fun K hK => ?_) AllReadyH.nil)
        rw [if_pos (by rfl)]
        go_simp
        clear hHeld
        have hbq := balloc we (.cells #[.slice AP nP cP, .int .i64 fP.per, .int .i64 fP.inc, .slice BP mP dP, .slice A0 n0 c0, .int .i64 p0, .int .i64 i0, .slice B0 m0 d0, .slice Aa na ca, .int .i64 ka.per, .int .i64 ka.inc, .slice Ba ma da, .slice Ac nc cc, .int .i64 kc.per, .int .i64 kc.inc, .slice Bc mc dc, .slice Ad nd cd, .int .i64 kd.per, .int .i64 kd.inc, .slice Bd md dd] 55)
        have VP := Lib.hid (PRV.out.inn.alloc (.cells #[.slice AP nP cP, .int .i64 fP.per, .int .i64 fP.inc, .slice BP mP dP, .slice A0 n0 c0, .int .i64 p0, .int .i64 i0, .slice B0 m0 d0, .slice Aa na ca, .int .i64 ka.per, .int .i64 ka.inc, .slice Ba ma da, .slice Ac nc cc, .int .i64 kc.per, .int .i64 kc.inc, .slice Bc mc dc, .slice Ad nd cd, .int .i64 kd.per, .int .i64 kd.inc, .slice Bd md dd] 55)); have VR := Lib.hid (RAW.out.inn.alloc (.cells #[.slice AP nP cP, .int .i64 fP.per, .int .i64 fP.inc, .slice BP mP dP, .slice A0 n0 c0, .int .i64 p0, .int .i64 i0, .slice B0 m0 d0, .slice Aa na ca, .int .i64 ka.per, .int .i64 ka.inc, .slice Ba ma da, .slice Ac nc cc, .int .i64 kc.per, .int .i64 kc.inc, .slice Bc mc dc, .slice Ad nd cd, .int .i64 kd.per, .int .i64 kd.inc, .slice Bd md dd] 55))
        replace V1 := Lib.hid (V1.out.alloc (.cells #[.slice AP nP cP, .int .i64 fP.per, .int .i64 fP.inc, .slice BP mP dP, .slice A0 n0 c0, .int .i64 p0, .int .i64 i0, .slice B0 m0 d0, .slice Aa na ca, .int .i64 ka.per, .int .i64 ka.inc, .slice Ba ma da, .slice Ac nc cc, .int .i64 kc.per, .int .i64 kc.inc, .slice Bc mc dc, .slice Ad nd cd, .int .i64 kd.per, .int .i64 kd.inc, .slice Bd md dd] 55)); replace V3 := Lib.hid (V3.out.alloc (.cells #[.slice AP nP cP, .int .i64 fP.per, .int .i64 fP.inc, .slice BP mP dP, .slice A0 n0 c0, .int .i64 p0, .int .i64 i0, .slice B0 m0 d0, .slice Aa na ca, .int .i64 ka.per, .int .i64 ka.inc, .slice Ba ma da, .slice Ac nc cc, .int .i64 kc.per, .int .i64 kc.inc, .slice Bc mc dc, .slice Ad nd cd, .int .i64 kd.per, .int .i64 kd.inc, .slice Bd md dd] 55)); replace V4 := Lib.hid (V4.out.alloc (.cells #[.slice AP nP cP, .int .i64 fP.per, .int .i64 fP.inc, .slice BP mP dP, .slice A0 n0 c0, .int .i64 p0, .int .i64 i0, .slice B0 m0 d0, .slice Aa na ca, .int .i64 ka.per, .int .i64 ka.inc, .slice Ba ma da, .slice Ac nc cc, .int .i64 kc.per, .int .i64 kc.inc, .slice Bc mc dc, .slice Ad nd cd, .int .i64 kd.per, .int .i64 kd.inc, .slice Bd md dd] 55))
        have hps := E.out.s.lt
        have ROW := Lib.hid (show RowG w.heap.size (we.alloc (.cells #[.slice AP nP cP, .int .i64 fP.per, .int .i64 fP.inc, .slice BP mP dP, .slice A0 n0 c0, .int .i64 p0, .int .i64 i0, .slice B0 m0 d0, .slice Aa na ca, .int .i64 ka.per, .int .i64 ka.inc, .slice Ba ma da, .slice Ac nc cc, .int .i64 kc.per, .int .i64 kc.inc, .slice Bc mc dc, .slice Ad nd cd, .int .i64 kd.per, .int .i64 kd.inc, .slice Bd md dd] 55)) we.heap.size [⟨⟨AP, nP, cP, fP⟩, BP, mP, dP, qP⟩, ⟨⟨A0, n0, c0, ⟨L0, p0, i0⟩⟩, B0, m0, d0, cs0⟩, ⟨⟨Aa, na, ca, ka⟩, Ba, ma, da, qa⟩, ⟨⟨Ac, nc, cc, kc⟩, Bc, mc, dc, qc⟩, ⟨⟨Ad, nd, cd, kd⟩, Bd, md, dd, qd⟩] from ⟨Blk.new _ _ _, (by
          intro x hx
          simp only [List.mem_cons, List.not_mem_nil, or_false] at hx
          rcases hx with rfl | rfl | rfl | rfl | rfl
          · exact VP.out
          · exact VR.out
          · exact V1.out
          · exact V3.out
          · exact V4.out), Nat.ne_of_gt hps⟩)
        clear hps VP VR V1 V2 V3 V4
        replace E := Lib.hid (E.out.below hbq); replace HH := Lib.hid (HH.out.below hbq); replace RAW := Lib.hid (RAW.out.below hbq); replace PRV := Lib.hid (PRV.out.below hbq)
        generalize we.alloc (.cells #[.slice AP nP cP, .int .i64 fP.per, .int .i64 fP.inc, .slice BP mP dP, .slice A0 n0 c0, .int .i64 p0, .int .i64 i0, .slice B0 m0 d0, .slice Aa na ca, .int .i64 ka.per, .int .i64 ka.inc, .slice Ba ma da, .slice Ac nc cc, .int .i64 kc.per, .int .i64 kc.inc, .slice Bc mc dc, .slice Ad nd cd, .int .i64 kd.per, .int .i64 kd.inc, .slice Bd md dd] 55) = wf at *
        clear hbq
        clear s0 s1 s2 s3 hls t0 t1 t2 t3 hlt
        obtain ⟨⟨s0, s1, s2, s3⟩, _, hls⟩ := RAW.out.blk.c4
        obtain ⟨⟨t0, t1, t2, t3⟩, _, hlt⟩ := PRV.out.blk.c4
        dsimp only at s0 s1 s2 s3 t0 t1 t2 t3
        refine hK.out _ _ (by exact ⟨⟨s0, s1, s2, s3⟩, t0, t1, t2, t3⟩) (fun hHeld => ?_)
        clear hK K
        (try simp only [Act.put]); (try simp only [g8b]); (try simp only [g8c]); (try simp only [g8d])
        refine wpAnyH_take (i := 14) (oi := _) (v := ?_) (by simp only [g8a, g8s, g8z]; rfl) (by kernel_rfl) (by kernel_rfl) (by kernel_rfl) (by exact fun _ _ _ h => h) (Or.inl ⟨by rfl, ?_⟩) (by assumption) ?_
        rotate_left 1
        · (intro w hSw; (try dsimp only at hSw); go_simp; try with_reducible rfl)
        all_goals ((try simp only [Act.put]); (try simp only [g8b]); (try simp only [g8c]); (try simp only [g8d]))
        refine wpAnyH_done (by kernel_rfl) ?_ _
        clear s0 s1 s2 s3 hls t0 t1 t2 t3 hlt
        go_wp2_with fail
        go_meet
        exact ⟨_, _, rfl, rfl, rfl, rfl, (by
          intro x hx
          simp only [List.mem_cons, List.not_mem_nil, or_false] at hx
          rcases hx with rfl | rfl | rfl | rfl | rfl
          · exact FITP.out
          · exact FIT0.out
          · exact FV1.out.1
          · exact FV3.out.1
          · exact FV4.out.1), E.out, HH.out, ROW.out⟩
      case rest =>
        obtain ⟨b, xs, rfl, rfl, rfl, hxl, hxf, hE, hH, hR⟩ := hcut
        clear E HH RAW PRV FITP HAP FIT0
        have E := Lib.hid hE; have HH := Lib.hid hH; have ROW := Lib.hid hR; have HXL := Lib.hid hxl; have HXF := Lib.hid hxf
        clear hE hH hR hxl hxf
        have hf1' := FIT1.out.1; have hf1c := FIT1.out.2; have hf2' := FIT2.out.1; have hf2c := FIT2.out.2
        dsimp only at hf1' hf1c hf2' hf2c
        go_wp2_with fail
        go_loopg [66] 5 (fun gg s66 wx => ∃ k : Nat, k + gg = 5 ∧ s66 = .int .i64 k ∧ EnvL w.heap.size w wx [(W.heap.size + 1, ⟨A1, n1, c1, ⟨L1, p1, i1⟩⟩), (W.heap.size + 1 + 1, ⟨A2, n2, c2, ⟨L2, p2, i2⟩⟩), (Zf, ⟨A, n, c, f⟩), (Zg, ⟨B, m, d, g⟩)] ∧ Lc w.heap.size wx Zh ⟨AH, nH, cH, h⟩ ∧ RowG w.heap.size wx b xs)
        case atStart => exact ⟨0, rfl, rfl, E.out, HH.out, ROW.out⟩
        case round =>
          clear E HH ROW
          obtain ⟨k, hkg, rfl, hE, hH, hR⟩ := hrel
          have E := Lib.hid hE; have HH := Lib.hid hH; have ROW := Lib.hid hR
          clear hE hH hR
          by_cases hk : k < 5
          · have hki : (k : Int) < 5 := by omega
            obtain ⟨⟨⟨ZA, zn, zc, zf⟩, ZB, zm, zd, zq⟩, hZm, hZi, k0, k1, k2, k3⟩ := ROW.out.get (k := k) (by rw [HXL.out]; exact hk)
            dsimp only at k0 k1 k2 k3
            have hlw := ROW.out.lt
            have hps := E.out.s.lt
            have HFZ := Lib.hid (HXF.out _ hZm)
            have hf1 := HFZ.out.1; have hf2 := HFZ.out.2.1; have hf3 := HFZ.out.2.2
            dsimp only at hf1 hf2 hf3
            have LZ := Lib.hid (LcG.new hZi hps)
            replace E := Lib.hid (E.out.alloc (.cells #[.slice ZA zn zc, .int .i64 zf.per, .int .i64 zf.inc, .slice ZB zm zd] 55)); replace HH := Lib.hid (HH.out.alloc (.cells #[.slice ZA zn zc, .int .i64 zf.per, .int .i64 zf.inc, .slice ZB zm zd] 55)); replace ROW := Lib.hid (ROW.out.alloc (.cells #[.slice ZA zn zc, .int .i64 zf.per, .int .i64 zf.inc, .slice ZB zm zd] 55))
            go_upto_region 10 with fail
            try dsimp only at LZ
            clear k0 k1 k2 k3 hZi hZm hlw
            generalize hwe : wr.alloc (.cells #[.slice ZA zn zc, .int .i64 zf.per, .int .i64 zf.inc, .slice ZB zm zd] 55) = wo at E HH ROW LZ ⊢
            clear hwe
            generalize wr.heap.size = ZX at LZ hps ⊢
            obtain ⟨go, hgo⟩ : ∃ go : Nat, go = gk := ⟨_, rfl⟩
            subst hgo
            obtain ⟨⟨x0, x1, x2, x3⟩, _, hlx⟩ := LZ.out.blk.c4
            dsimp only at x0 x1 x2 x3
            have RW := Lib.hid (show Row (wo.alloc (.cells #[.slice ZA zn zc, .int .i64 zf.per, .int .i64 zf.inc] 44)).heap.size (wo.alloc (.cells #[.slice ZA zn zc, .int .i64 zf.per, .int .i64 zf.inc] 44)) wo.heap.size [⟨ZA, zn, zc, zf⟩] from ⟨Blk.new _ _ _, (by
              intro x hx
              simp only [List.mem_singleton] at hx
              subst hx
              exact CR.In.old (LZ.out.inn.x.ints.alloc' _)), by rw [World.size_alloc]; omega⟩)
            have hbz := balloc wo (.cells #[.slice ZA zn zc, .int .i64 zf.per, .int .i64 zf.inc] 44)
            go_wp2_with fail
            refine (short_any wo.heap.size 1 1 _ _ rfl (by omega) RW.out (by
              intro x hx
              simp only [List.mem_singleton] at hx
              subst hx
              show (zn : Int) ≤ 9223372036854775807
              omega)).mono ?_
            rintro e wq ⟨z, rfl, hz, hb⟩
            have BI := Lib.hid (bthen hbz hb)
            clear RW hbz hb hz x0 x1 x2 x3 hlx
            cases z
            case false =>
              go_wp2_with fail
              go_roundg (go - 1)
              case measure => omega
              case rel => exact ⟨k + 1, by omega, by go_num, E.out.below BI.out, HH.out.below BI.out, ROW.out.below BI.out⟩
            case true =>
              obtain ⟨s0, s1, s2, hls⟩ := ((E.out.below BI.out).get 0 rfl).cells
              obtain ⟨t0, t1, t2, hlt⟩ := ((E.out.below BI.out).get 1 rfl).cells
              obtain ⟨u0, u1, u2, hlu⟩ := ((E.out.below BI.out).get 2 rfl).cells
              obtain ⟨v0, v1, v2, hlv⟩ := ((E.out.below BI.out).get 3 rfl).cells
              obtain ⟨o0, o1, o2, hlo⟩ := (HH.out.below BI.out).cells
              obtain ⟨⟨x0, x1, x2, x3⟩, _, hlx⟩ := (LZ.out.below BI.out).blk.c4
              dsimp only at s0 s1 s2 t0 t1 t2 u0 u1 u2 v0 v1 v2 o0 o1 o2 x0 x1 x2 x3
              go_wp2_with fail
              refine (dcchk_any A B ZA ZB n m zn zm c d zc zd f.per f.inc g.per g.inc f.vals g.vals zf zq _ (by exact ((E.out.below BI.out).get 2 rfl).inn.ints) (by exact ((E.out.below BI.out).get 3 rfl).inn.ints) (by exact (LZ.out.below BI.out).inn.x.ints) (by exact (LZ.out.below BI.out).inn.l) (by omega) (by omega) (by omega) (by omega)).mono ?_
              rintro e wa ⟨⟨b1, hb1, rfl⟩, hb⟩
              have HQ1 := Lib.hid hb1
              replace BI := Lib.hid (bthen BI.out hb)
              clear hb hb1
              clear s0 s1 s2 hls t0 t1 t2 hlt u0 u1 u2 hlu v0 v1 v2 hlv o0 o1 o2 hlo x0 x1 x2 x3 hlx
              go_upto_region 12 with fail
              cases b1
              case false =>
                replace BI := Lib.hid (Below.drew BI.out)
                obtain ⟨s0, s1, s2, hls⟩ := ((E.out.below BI.out).get 0 rfl).cells
                obtain ⟨t0, t1, t2, hlt⟩ := ((E.out.below BI.out).get 1 rfl).cells
                obtain ⟨u0, u1, u2, hlu⟩ := ((E.out.below BI.out).get 2 rfl).cells
                obtain ⟨v0, v1, v2, hlv⟩ := ((E.out.below BI.out).get 3 rfl).cells
                obtain ⟨o0, o1, o2, hlo⟩ := (HH.out.below BI.out).cells
                obtain ⟨⟨x0, x1, x2, x3⟩, _, hlx⟩ := (LZ.out.below BI.out).blk.c4
                dsimp only at s0 s1 s2 t0 t1 t2 u0 u1 u2 v0 v1 v2 o0 o1 o2 x0 x1 x2 x3
                refine wp_region_held_drew (S := (fun w' => (w'.cell? ⟨W.heap.size + 1, 0, none⟩ = some (.slice A1 n1 c1) ∧ w'.cell? ⟨W.heap.size + 1, 1, none⟩ = some (.int .i64 p1) ∧ w'.cell? ⟨W.heap.size + 1, 2, none⟩ = some (.int .i64 i1)) ∧ (w'.cell? ⟨W.heap.size + 1 + 1, 0, none⟩ = some (.slice A2 n2 c2) ∧ w'.cell? ⟨W.heap.size + 1 + 1, 1, none⟩ = some (.int .i64 p2) ∧ w'.cell? ⟨W.heap.size + 1 + 1, 2, none⟩ = some (.int .i64 i2)) ∧ (w'.cell? ⟨Zf, 0, none⟩ = some (.slice A n c) ∧ w'.cell? ⟨Zf, 1, none⟩ = some (.int .i64 f.per) ∧ w'.cell? ⟨Zf, 2, none⟩ = some (.int .i64 f.inc)) ∧ (w'.cell? ⟨Zg, 0, none⟩ = some (.slice B m d) ∧ w'.cell? ⟨Zg, 1, none⟩ = some (.int .i64 g.per) ∧ w'.cell? ⟨Zg, 2, none⟩ = some (.int .i64 g.inc)) ∧ (w'.cell? ⟨Zh, 0, none⟩ = some (.slice AH nH cH) ∧ w'.cell? ⟨Zh, 1, none⟩ = some (.int .i64 h.per) ∧ w'.cell? ⟨Zh, 2, none⟩ = some (.int .i64 h.inc)) ∧ w'.cell? ⟨ZX, 0, none⟩ = some (.slice ZA zn zc) ∧ w'.cell? ⟨ZX, 1, none⟩ = some (.int .i64 zf.per) ∧ w'.cell? ⟨ZX, 2, none⟩ = some (.int .i64 zf.inc) ∧ w'.cell? ⟨ZX, 3, none⟩ = some (.slice ZB zm zd))) (by kernel_rfl) (by exact ⟨⟨s0, s1, s2⟩, ⟨t0, t1, t2⟩, ⟨u0, u1, u2⟩, ⟨v0, v1, v2⟩, ⟨o0, o1, o2⟩, x0, x1, x2, x3⟩) (fun hHeld => ?_)
                clear s0 s1 s2 hls t0 t1 t2 hlt u0 u1 u2 hlu v0 v1 v2 hlv o0 o1 o2 hlo x0 x1 x2 x3 hlx
                generalize hwd : wa.drew = wd at BI hHeld ⊢
                clear hwd
                obtain ⟨s0, s1, s2, hls⟩ := ((E.out.below BI.out).get 0 rfl).cells
                obtain ⟨t0, t1, t2, hlt⟩ := ((E.out.below BI.out).get 1 rfl).cells
                obtain ⟨u0, u1, u2, hlu⟩ := ((E.out.below BI.out).get 2 rfl).cells
                obtain ⟨v0, v1, v2, hlv⟩ := ((E.out.below BI.out).get 3 rfl).cells
                obtain ⟨o0, o1, o2, hlo⟩ := (HH.out.below BI.out).cells
                obtain ⟨⟨x0, x1, x2, x3⟩, _, hlx⟩ := (LZ.out.below BI.out).blk.c4
                dsimp only at s0 s1 s2 t0 t1 t2 u0 u1 u2 v0 v1 v2 o0 o1 o2 x0 x1 x2 x3
                refine wpAnyH_take (i := 0) (oi := _) (v := ?_) (by simp only [g8a, g8z]; rfl) (by kernel_rfl) (by kernel_rfl) (by kernel_rfl) (by exact fun _ _ _ h => h) (Or.inl ⟨by rfl, ?_⟩) (by assumption) ?_
                rotate_left 1
                · (intro w hSw; (try dsimp only at hSw); go_simp; try with_reducible rfl)
                all_goals ((try simp only [Act.put]); (try simp only [g8b]); (try simp only [g8c]); (try simp only [g8d]))
                refine wpAnyH_take (i := 1) (oi := _) (v := ?_) (by simp only [g8a, g8s, g8z]; rfl) (by kernel_rfl) (by kernel_rfl) (by kernel_rfl) (by exact fun _ _ _ h => h) (Or.inl ⟨by rfl, ?_⟩) (by assumption) ?_
                rotate_left 1
                · (intro w hSw; (try dsimp only at hSw); go_simp; try with_reducible rfl)
                all_goals ((try simp only [Act.put]); (try simp only [g8b]); (try simp only [g8c]); (try simp only [g8d]))
                refine wpAnyH_take (i := 2) (oi := _) (v := ?_) (by simp only [g8a, g8s, g8z]; rfl) (by kernel_rfl) (by kernel_rfl) (by kernel_rfl) (by exact fun _ _ _ h => h) (Or.inl ⟨by rfl, ?_⟩) (by assumption) ?_
                rotate_left 1
                · (intro w hSw; (try dsimp only at hSw); go_simp; try with_reducible rfl)
                all_goals ((try simp only [Act.put]); (try simp only [g8b]); (try simp only [g8c]); (try simp only [g8d]))
                refine wpAnyH_take (i := 3) (oi := _) (v := ?_) (by simp only [g8a, g8s, g8z]; rfl) (by kernel_rfl) (by kernel_rfl) (by kernel_rfl) (by exact fun _ _ _ h => h) (Or.inl ⟨by rfl, ?_⟩) (by assumption) ?_
                rotate_left 1
                · (intro w hSw; (try dsimp only at hSw); go_simp; try with_reducible rfl)
                all_goals ((try simp only [Act.put]); (try simp only [g8b]); (try simp only [g8c]); (try simp only [g8d]))
                refine wpAnyH_ready (rs := [4]) (by kernel_rfl) (by simp) ?_
                refine (AllReadyH.cons (by simp only [g8a, g8s, g8z]; rfl) (fun K hK => ?_) AllReadyH.nil)
                rw [if_pos (by rfl)]
                go_simp
                refine (refChk_any A B ZA ZB n m zn zm c d zc zd f.per f.inc g.per g.inc f.vals g.vals zf zq _ (by exact ((E.out.below BI.out).get 2 rfl).inn.ints) (by exact ((E.out.below BI.out).get 3 rfl).inn.ints) (by exact (LZ.out.below BI.out).inn.x.ints) (by exact (LZ.out.below BI.out).inn.l) (by omega) (by omega) (by omega) (by omega) hcf hcg hf2).mono ?_
                rintro e wb ⟨⟨b2, hb2, rfl⟩, hb⟩
                obtain rfl := Bool.eq_iff_iff.2 (hb2.trans HQ1.out.symm)
                replace BI := Lib.hid (bthen BI.out hb)
                clear hb hb2 hHeld
                clear s0 s1 s2 hls t0 t1 t2 hlt u0 u1 u2 hlu v0 v1 v2 hlv o0 o1 o2 hlo x0 x1 x2 x3 hlx
                obtain ⟨s0, s1, s2, hls⟩ := ((E.out.below BI.out).get 0 rfl).cells
                obtain ⟨t0, t1, t2, hlt⟩ := ((E.out.below BI.out).get 1 rfl).cells
                obtain ⟨u0, u1, u2, hlu⟩ := ((E.out.below BI.out).get 2 rfl).cells
                obtain ⟨v0, v1, v2, hlv⟩ := ((E.out.below BI.out).get 3 rfl).cells
                obtain ⟨o0, o1, o2, hlo⟩ := (HH.out.below BI.out).cells
                obtain ⟨⟨x0, x1, x2, x3⟩, _, hlx⟩ := (LZ.out.below BI.out).blk.c4
                dsimp only at s0 s1 s2 t0 t1 t2 u0 u1 u2 v0 v1 v2 o0 o1 o2 x0 x1 x2 x3
                refine hK.out _ _ (by exact ⟨⟨s0, s1, s2⟩, ⟨t0, t1, t2⟩, ⟨u0, u1, u2⟩, ⟨v0, v1, v2⟩, ⟨o0, o1, o2⟩, x0, x1, x2, x3⟩) (fun hHeld => ?_)
                clear hK K
                (try simp only [Act.put]); (try simp only [g8b]); (try simp only [g8c]); (try simp only [g8d])
                refine wpAnyH_take (i := 5) (oi := _) (v := ?_) (by simp only [g8a, g8s, g8z]; rfl) (by kernel_rfl) (by kernel_rfl) (by kernel_rfl) (by exact fun _ _ _ h => h) (Or.inl ⟨by rfl, ?_⟩) (by assumption) ?_
                rotate_left 1
                · (intro w hSw; (try dsimp only at hSw); go_simp; try with_reducible rfl)
                all_goals ((try simp only [Act.put]); (try simp only [g8b]); (try simp only [g8c]); (try simp only [g8d]))
                refine wpAnyH_take (i := 6) (oi := _) (v := ?_) (by simp only [g8a, g8s, g8z]; rfl) (by kernel_rfl) (by kernel_rfl) (by kernel_rfl) (by exact fun _ _ _ h => h) (Or.inl ⟨by rfl, ?_⟩) (by assumption) ?_
                rotate_left 1
                · (intro w hSw; (try dsimp only at hSw); go_simp; try with_reducible rfl)
                all_goals ((try simp only [Act.put]); (try simp only [g8b]); (try simp only [g8c]); (try simp only [g8d]))
                refine wpAnyH_take (i := 7) (oi := _) (v := ?_) (by simp only [g8a, g8s, g8z]; rfl) (by kernel_rfl) (by kernel_rfl) (by kernel_rfl) (by exact fun _ _ _ h => h) (Or.inl ⟨by rfl, ?_⟩) (by assumption) ?_
                rotate_left 1
                · (intro w hSw; (try dsimp only at hSw); go_simp; try with_reducible rfl)
                all_goals ((try simp only [Act.put]); (try simp only [g8b]); (try simp only [g8c]); (try simp only [g8d]))
                refine wpAnyH_take (i := 8) (oi := _) (v := ?_) (by simp only [g8a, g8s, g8z]; rfl) (by kernel_rfl) (by kernel_rfl) (by kernel_rfl) (by exact fun _ _ _ h => h) (Or.inl ⟨by rfl, ?_⟩) (by assumption) ?_
                rotate_left 1
                · (intro w hSw; (try dsimp only at hSw); go_simp; try with_reducible rfl)
                all_goals ((try simp only [Act.put]); (try simp only [g8b]); (try simp only [g8c]); (try simp only [g8d]))
                refine wpAnyH_take (i := 9) (oi := _) (v := ?_) (by simp only [g8a, g8s, g8z]; rfl) (by kernel_rfl) (by kernel_rfl) (by kernel_rfl) (by exact fun _ _ _ h => h) (Or.inl ⟨by rfl, ?_⟩) (by assumption) ?_
                rotate_left 1
                · (intro w hSw; (try dsimp only at hSw); go_simp; try with_reducible rfl)
                all_goals ((try simp only [Act.put]); (try simp only [g8b]); (try simp only [g8c]); (try simp only [g8d]))
                refine wpAnyH_take (i := 11) (oi := _) (v := ?_) (by simp only [g8a, g8s, g8z]; rfl) (by kernel_rfl) (by kernel_rfl) (by kernel_rfl) (by exact fun _ _ _ h => h) (Or.inl ⟨by rfl, ?_⟩) (by assumption) ?_
                rotate_left 1
                · (intro w hSw; (try dsimp only at hSw); go_simp; try with_reducible rfl)
                all_goals ((try simp only [Act.put]); (try simp only [g8b]); (try simp only [g8c]); (try simp only [g8d]))
                refine wpAnyH_take (i := 12) (oi := _) (v := ?_) (by simp only [g8a, g8s, g8z]; rfl) (by kernel_rfl) (by kernel_rfl) (by kernel_rfl) (by exact fun _ _ _ h => h) (Or.inl ⟨by rfl, ?_⟩) (by assumption) ?_
                rotate_left 1
                · (intro w hSw; (try dsimp only at hSw); go_simp; try with_reducible rfl)
                all_goals ((try simp only [Act.put]); (try simp only [g8b]); (try simp only [g8c]); (try simp only [g8d]))
                refine wpAnyH_take (i := 13) (oi := _) (v := ?_) (by simp only [g8a, g8s, g8z]; rfl) (by kernel_rfl) (by kernel_rfl) (by kernel_rfl) (by exact fun _ _ _ h => h) (Or.inl ⟨by rfl, ?_⟩) (by assumption) ?_
                rotate_left 1
                · (intro w hSw; (try dsimp only at hSw); go_simp; try with_reducible rfl)
                all_goals ((try simp only [Act.put]); (try simp only [g8b]); (try simp only [g8c]); (try simp only [g8d]))
                refine wpAnyH_ready (rs := [10]) (by kernel_rfl) (by simp) ?_
                refine (AllReadyH.cons (by simp only [g8a, g8s, g8z]; rfl) (fun K hK => ?_) AllReadyH.nil)
                rw [if_pos (by rfl)]
                go_simp
                refine (dcchk_any A1 A2 ZA ZB n1 n2 zn zm c1 c2 zc zd p1 i1 p2 i2 L1 L2 zf zq _ (by exact ((E.out.below BI.out).get 0 rfl).inn.ints) (by exact ((E.out.below BI.out).get 1 rfl).inn.ints) (by exact (LZ.out.below BI.out).inn.x.ints) (by exact (LZ.out.below BI.out).inn.l) (by omega) (by omega) (by omega) (by omega)).mono ?_
                rintro e wx ⟨⟨b3, hb3, rfl⟩, hb⟩
                have HQ3 := Lib.hid hb3
                replace BI := Lib.hid (bthen BI.out hb)
                clear hb hb3 hHeld
                clear s0 s1 s2 hls t0 t1 t2 hlt u0 u1 u2 hlu v0 v1 v2 hlv o0 o1 o2 hlo x0 x1 x2 x3 hlx
                obtain ⟨s0, s1, s2, hls⟩ := ((E.out.below BI.out).get 0 rfl).cells
                obtain ⟨t0, t1, t2, hlt⟩ := ((E.out.below BI.out).get 1 rfl).cells
                obtain ⟨u0, u1, u2, hlu⟩ := ((E.out.below BI.out).get 2 rfl).cells
                obtain ⟨v0, v1, v2, hlv⟩ := ((E.out.below BI.out).get 3 rfl).cells
                obtain ⟨o0, o1, o2, hlo⟩ := (HH.out.below BI.out).cells
                obtain ⟨⟨x0, x1, x2, x3⟩, _, hlx⟩ := (LZ.out.below BI.out).blk.c4
                dsimp only at s0 s1 s2 t0 t1 t2 u0 u1 u2 v0 v1 v2 o0 o1 o2 x0 x1 x2 x3
                refine hK.out _ _ (by exact ⟨⟨s0, s1, s2⟩, ⟨t0, t1, t2⟩, ⟨u0, u1, u2⟩, ⟨v0, v1, v2⟩, ⟨o0, o1, o2⟩, x0, x1, x2, x3⟩) (fun hHeld => ?_)
                clear hK K
                (try simp only [Act.put]); (try simp only [g8b]); (try simp only [g8c]); (try simp only [g8d])
                refine wpAnyH_ready (rs := [14]) (by kernel_rfl) (by simp) ?_
                refine (AllReadyH.cons (by simp only [g8a, g8s, g8z]; rfl) (fun K hK => ?_) AllReadyH.nil)
                rw [if_pos (by rfl)]
                go_simp
                refine (refChk_any A1 A2 ZA ZB n1 n2 zn zm c1 c2 zc zd p1 i1 p2 i2 L1 L2 zf zq _ (by exact ((E.out.below BI.out).get 0 rfl).inn.ints) (by exact ((E.out.below BI.out).get 1 rfl).inn.ints) (by exact (LZ.out.below BI.out).inn.x.ints) (by exact (LZ.out.below BI.out).inn.l) (by omega) (by omega) (by omega) (by omega) hf1c hf2c hf2).mono ?_
                rintro e wy ⟨⟨b4, hb4, rfl⟩, hb⟩
                obtain rfl := Bool.eq_iff_iff.2 (hb4.trans HQ3.out.symm)
                replace BI := Lib.hid (bthen BI.out hb)
                clear hb hb4 HQ3 hHeld
                clear s0 s1 s2 hls t0 t1 t2 hlt u0 u1 u2 hlu v0 v1 v2 hlv o0 o1 o2 hlo x0 x1 x2 x3 hlx
                obtain ⟨s0, s1, s2, hls⟩ := ((E.out.below BI.out).get 0 rfl).cells
                obtain ⟨t0, t1, t2, hlt⟩ := ((E.out.below BI.out).get 1 rfl).cells
                obtain ⟨u0, u1, u2, hlu⟩ := ((E.out.below BI.out).get 2 rfl).cells
                obtain ⟨v0, v1, v2, hlv⟩ := ((E.out.below BI.out).get 3 rfl).cells
                obtain ⟨o0, o1, o2, hlo⟩ := (HH.out.below BI.out).cells
                obtain ⟨⟨x0, x1, x2, x3⟩, _, hlx⟩ := (LZ.out.below BI.out).blk.c4
                dsimp only at s0 s1 s2 t0 t1 t2 u0 u1 u2 v0 v1 v2 o0 o1 o2 x0 x1 x2 x3
                refine hK.out _ _ (by exact ⟨⟨s0, s1, s2⟩, ⟨t0, t1, t2⟩, ⟨u0, u1, u2⟩, ⟨v0, v1, v2⟩, ⟨o0, o1, o2⟩, x0, x1, x2, x3⟩) (fun hHeld => ?_)
                clear hK K
                (try simp only [Act.put]); (try simp only [g8b]); (try simp only [g8c]); (try simp only [g8d])
                have g3 : (b4 != b4) = false := by simp
                refine wpAnyH_take (i := 15) (oi := _) (v := ?_) (by simp only [g8a, g8s, g8z]; rfl) (by kernel_rfl) (by kernel_rfl) (by kernel_rfl) (by exact fun _ _ _ h => h) (Or.inl ⟨by rfl, ?_⟩) (by assumption) ?_
                rotate_left 1
                · (intro w hSw; (try dsimp only at hSw); go_simp; try with_reducible rfl)
                all_goals ((try simp only [Act.put]); (try simp only [g8b]); (try simp only [g8c]); (try simp only [g8d]))
                refine wpAnyH_take (i := 16) (oi := _) (v := ?_) (by simp only [g8a, g8s, g8z]; rfl) (by kernel_rfl) (by kernel_rfl) (by kernel_rfl) (by exact fun _ _ _ h => h) (Or.inl ⟨by rfl, ?_⟩) (by assumption) ?_
                rotate_left 1
                · (intro w hSw; (try dsimp only at hSw); go_simp; try with_reducible rfl)
                all_goals ((try simp only [Act.put]); (try simp only [g8b]); (try simp only [g8c]); (try simp only [g8d]))
                refine wpAnyH_take (i := 17) (oi := _) (v := ?_) (by simp only [g8a, g8s, g8z]; rfl) (by kernel_rfl) (by kernel_rfl) (by kernel_rfl) (by exact fun _ _ _ h => h) (Or.inl ⟨by rfl, ?_⟩) (by assumption) ?_
                rotate_left 1
                · (intro w hSw; (try dsimp only at hSw); go_simp; try with_reducible rfl)
                all_goals ((try simp only [Act.put]); (try simp only [g8b]); (try simp only [g8c]); (try simp only [g8d]))
                refine wpAnyH_take (i := 18) (oi := _) (v := ?_) (by simp only [g8a, g8s, g8z]; rfl) (by kernel_rfl) (by kernel_rfl) (by kernel_rfl) (by exact fun _ _ _ h => h) (Or.inl ⟨by rfl, ?_⟩) (by assumption) ?_
                rotate_left 1
                · (intro w hSw; (try dsimp only at hSw); go_simp; try with_reducible rfl)
                all_goals ((try simp only [Act.put]); (try simp only [g8b]); (try simp only [g8c]); (try simp only [g8d]))
                refine wpAnyH_take (i := 19) (oi := _) (v := ?_) (by simp only [g8a, g8s, g8z]; rfl) (by kernel_rfl) (by kernel_rfl) (by kernel_rfl) (by exact fun _ _ _ h => h) (Or.inl ⟨by rfl, ?_⟩) (by assumption) ?_
                rotate_left 1
                · (intro w hSw; (try dsimp only at hSw); go_simp; try with_reducible rfl)
                all_goals ((try simp only [Act.put]); (try simp only [g8b]); (try simp only [g8c]); (try simp only [g8d]))
                refine wpAnyH_take (i := 20) (oi := _) (v := undef) (by simp only [g8a, g8s, g8z]; rfl) (by kernel_rfl) (by kernel_rfl) (by kernel_rfl) (by exact fun _ _ _ h => h) (Or.inr ⟨by rfl, rfl⟩) (by assumption) ?_
                (try simp only [Act.put]); (try simp only [g8b]); (try simp only [g8c]); (try simp only [g8d])
                refine wpAnyH_take (i := 21) (oi := _) (v := undef) (by simp only [g8a, g8s, g8z]; rfl) (by kernel_rfl) (by kernel_rfl) (by kernel_rfl) (by exact fun _ _ _ h => h) (Or.inr ⟨by rfl, rfl⟩) (by assumption) ?_
                (try simp only [Act.put]); (try simp only [g8b]); (try simp only [g8c]); (try simp only [g8d])
                refine wpAnyH_take (i := 22) (oi := _) (v := undef) (by simp only [g8a, g8s, g8z]; rfl) (by kernel_rfl) (by kernel_rfl) (by kernel_rfl) (by exact fun _ _ _ h => h) (Or.inr ⟨by rfl, rfl⟩) (by assumption) ?_
                (try simp only [Act.put]); (try simp only [g8b]); (try simp only [g8c]); (try simp only [g8d])
                refine wpAnyH_take (i := 23) (oi := _) (v := undef) (by simp only [g8a, g8s, g8z]; rfl) (by kernel_rfl) (by kernel_rfl) (by kernel_rfl) (by exact fun _ _ _ h => h) (Or.inr ⟨by rfl, rfl⟩) (by assumption) ?_
                (try simp only [Act.put]); (try simp only [g8b]); (try simp only [g8c]); (try simp only [g8d])
                refine wpAnyH_take (i := 24) (oi := _) (v := undef) (by simp only [g8a, g8s, g8z]; rfl) (by kernel_rfl) (by kernel_rfl) (by kernel_rfl) (by exact fun _ _ _ h => h) (Or.inr ⟨by rfl, rfl⟩) (by assumption) ?_
                (try simp only [Act.put]); (try simp only [g8b]); (try simp only [g8c]); (try simp only [g8d])
                refine wpAnyH_take (i := 25) (oi := _) (v := undef) (by simp only [g8a, g8s, g8z]; rfl) (by kernel_rfl) (by kernel_rfl) (by kernel_rfl) (by exact fun _ _ _ h => h) (Or.inr ⟨by rfl, rfl⟩) (by assumption) ?_
                (try simp only [Act.put]); (try simp only [g8b]); (try simp only [g8c]); (try simp only [g8d])
                refine wpAnyH_take (i := 26) (oi := _) (v := undef) (by simp only [g8a, g8s, g8z]; rfl) (by kernel_rfl) (by kernel_rfl) (by kernel_rfl) (by exact fun _ _ _ h => h) (Or.inr ⟨by rfl, rfl⟩) (by assumption) ?_
                (try simp only [Act.put]); (try simp only [g8b]); (try simp only [g8c]); (try simp only [g8d])
                refine wpAnyH_take (i := 27) (oi := _) (v := undef) (by simp only [g8a, g8s, g8z]; rfl) (by kernel_rfl) (by kernel_rfl) (by kernel_rfl) (by exact fun _ _ _ h => h) (Or.inr ⟨by rfl, rfl⟩) (by assumption) ?_
                (try simp only [Act.put]); (try simp only [g8b]); (try simp only [g8c]); (try simp only [g8d])
                refine wpAnyH_take (i := 28) (oi := _) (v := undef) (by simp only [g8a, g8s, g8z]; rfl) (by kernel_rfl) (by kernel_rfl) (by kernel_rfl) (by exact fun _ _ _ h => h) (Or.inr ⟨by rfl, rfl⟩) (by assumption) ?_
                (try simp only [Act.put]); (try simp only [g8b]); (try simp only [g8c]); (try simp only [g8d])
                refine wpAnyH_take (i := 29) (oi := _) (v := ?_) (by simp only [g8a, g8s, g8z]; rfl) (by kernel_rfl) (by kernel_rfl) (by kernel_rfl) (by exact fun _ _ _ h => h) (Or.inl ⟨by rfl, ?_⟩) (by assumption) ?_
                rotate_left 1
                · (intro w hSw; (try dsimp only at hSw); go_simp; try with_reducible rfl)
                all_goals ((try simp only [Act.put]); (try simp only [g8b]); (try simp only [g8c]); (try simp only [g8d]))
                refine wpAnyH_take (i := 30) (oi := _) (v := ?_) (by simp only [g8a, g8s, g8z]; rfl) (by kernel_rfl) (by kernel_rfl) (by kernel_rfl) (by exact fun _ _ _ h => h) (Or.inl ⟨by rfl, ?_⟩) (by assumption) ?_
                rotate_left 1
                · (intro w hSw; (try dsimp only at hSw); go_simp; try with_reducible rfl)
                all_goals ((try simp only [Act.put]); (try simp only [g8b]); (try simp only [g8c]); (try simp only [g8d]))
                refine wpAnyH_done (by kernel_rfl) ?_ _
                clear hHeld
                clear s0 s1 s2 hls t0 t1 t2 hlt u0 u1 u2 hlu v0 v1 v2 hlv o0 o1 o2 hlo x0 x1 x2 x3 hlx
                go_wp2_with fail
                go_roundg (go - 1)
                case measure => omega
                case rel => exact ⟨k + 1, by omega, by go_num, E.out.below BI.out, HH.out.below BI.out, ROW.out.below BI.out⟩
              case true =>
                obtain ⟨hr1, hr2⟩ := check_of (HQ1.out.1 rfl) HDC.out
                subst hr1
                have HR2 := Lib.hid hr2
                clear hr2
                replace BI := Lib.hid (Below.drew BI.out)
                obtain ⟨s0, s1, s2, hls⟩ := ((E.out.below BI.out).get 0 rfl).cells
                obtain ⟨t0, t1, t2, hlt⟩ := ((E.out.below BI.out).get 1 rfl).cells
                obtain ⟨u0, u1, u2, hlu⟩ := ((E.out.below BI.out).get 2 rfl).cells
                obtain ⟨v0, v1, v2, hlv⟩ := ((E.out.below BI.out).get 3 rfl).cells
                obtain ⟨o0, o1, o2, hlo⟩ := (HH.out.below BI.out).cells
                obtain ⟨⟨x0, x1, x2, x3⟩, _, hlx⟩ := (LZ.out.below BI.out).blk.c4
                dsimp only at s0 s1 s2 t0 t1 t2 u0 u1 u2 v0 v1 v2 o0 o1 o2 x0 x1 x2 x3
                refine wp_region_held_drew (S := (fun w' => (w'.cell? ⟨W.heap.size + 1, 0, none⟩ = some (.slice A1 n1 c1) ∧ w'.cell? ⟨W.heap.size + 1, 1, none⟩ = some (.int .i64 p1) ∧ w'.cell? ⟨W.heap.size + 1, 2, none⟩ = some (.int .i64 i1)) ∧ (w'.cell? ⟨W.heap.size + 1 + 1, 0, none⟩ = some (.slice A2 n2 c2) ∧ w'.cell? ⟨W.heap.size + 1 + 1, 1, none⟩ = some (.int .i64 p2) ∧ w'.cell? ⟨W.heap.size + 1 + 1, 2, none⟩ = some (.int .i64 i2)) ∧ (w'.cell? ⟨Zf, 0, none⟩ = some (.slice A n c) ∧ w'.cell? ⟨Zf, 1, none⟩ = some (.int .i64 f.per) ∧ w'.cell? ⟨Zf, 2, none⟩ = some (.int .i64 f.inc)) ∧ (w'.cell? ⟨Zg, 0, none⟩ = some (.slice B m d) ∧ w'.cell? ⟨Zg, 1, none⟩ = some (.int .i64 g.per) ∧ w'.cell? ⟨Zg, 2, none⟩ = some (.int .i64 g.inc)) ∧ (w'.cell? ⟨Zh, 0, none⟩ = some (.slice AH nH cH) ∧ w'.cell? ⟨Zh, 1, none⟩ = some (.int .i64 h.per) ∧ w'.cell? ⟨Zh, 2, none⟩ = some (.int .i64 h.inc)) ∧ w'.cell? ⟨ZX, 0, none⟩ = some (.slice ZA zn zc) ∧ w'.cell? ⟨ZX, 1, none⟩ = some (.int .i64 zf.per) ∧ w'.cell? ⟨ZX, 2, none⟩ = some (.int .i64 zf.inc) ∧ w'.cell? ⟨ZX, 3, none⟩ = some (.slice ZB zm zd))) (by kernel_rfl) (by exact ⟨⟨s0, s1, s2⟩, ⟨t0, t1, t2⟩, ⟨u0, u1, u2⟩, ⟨v0, v1, v2⟩, ⟨o0, o1, o2⟩, x0, x1, x2, x3⟩) (fun hHeld => ?_)
                clear s0 s1 s2 hls t0 t1 t2 hlt u0 u1 u2 hlu v0 v1 v2 hlv o0 o1 o2 hlo x0 x1 x2 x3 hlx
                generalize hwd : wa.drew = wd at BI hHeld ⊢
                clear hwd
                obtain ⟨s0, s1, s2, hls⟩ := ((E.out.below BI.out).get 0 rfl).cells
                obtain ⟨t0, t1, t2, hlt⟩ := ((E.out.below BI.out).get 1 rfl).cells
                obtain ⟨u0, u1, u2, hlu⟩ := ((E.out.below BI.out).get 2 rfl).cells
                obtain ⟨v0, v1, v2, hlv⟩ := ((E.out.below BI.out).get 3 rfl).cells
                obtain ⟨o0, o1, o2, hlo⟩ := (HH.out.below BI.out).cells
                obtain ⟨⟨x0, x1, x2, x3⟩, _, hlx⟩ := (LZ.out.below BI.out).blk.c4
                dsimp only at s0 s1 s2 t0 t1 t2 u0 u1 u2 v0 v1 v2 o0 o1 o2 x0 x1 x2 x3
                refine wpAnyH_take (i := 0) (oi := _) (v := ?_) (by simp only [g8a, g8z]; rfl) (by kernel_rfl) (by kernel_rfl) (by kernel_rfl) (by exact fun _ _ _ h => h) (Or.inl ⟨by rfl, ?_⟩) (by assumption) ?_
                rotate_left 1
                · (intro w hSw; (try dsimp only at hSw); go_simp; try with_reducible rfl)
                all_goals ((try simp only [Act.put]); (try simp only [g8b]); (try simp only [g8c]); (try simp only [g8d]))
                refine wpAnyH_take (i := 1) (oi := _) (v := ?_) (by simp only [g8a, g8s, g8z]; rfl) (by kernel_rfl) (by kernel_rfl) (by kernel_rfl) (by exact fun _ _ _ h => h) (Or.inl ⟨by rfl, ?_⟩) (by assumption) ?_
                rotate_left 1
                · (intro w hSw; (try dsimp only at hSw); go_simp; try with_reducible rfl)
                all_goals ((try simp only [Act.put]); (try simp only [g8b]); (try simp only [g8c]); (try simp only [g8d]))
                refine wpAnyH_take (i := 2) (oi := _) (v := ?_) (by simp only [g8a, g8s, g8z]; rfl) (by kernel_rfl) (by kernel_rfl) (by kernel_rfl) (by exact fun _ _ _ h => h) (Or.inl ⟨by rfl, ?_⟩) (by assumption) ?_
                rotate_left 1
                · (intro w hSw; (try dsimp only at hSw); go_simp; try with_reducible rfl)
                all_goals ((try simp only [Act.put]); (try simp only [g8b]); (try simp only [g8c]); (try simp only [g8d]))
                refine wpAnyH_take (i := 3) (oi := _) (v := ?_) (by simp only [g8a, g8s, g8z]; rfl) (by kernel_rfl) (by kernel_rfl) (by kernel_rfl) (by exact fun _ _ _ h => h) (Or.inl ⟨by rfl, ?_⟩) (by assumption) ?_
                rotate_left 1
                · (intro w hSw; (try dsimp only at hSw); go_simp; try with_reducible rfl)
                all_goals ((try simp only [Act.put]); (try simp only [g8b]); (try simp only [g8c]); (try simp only [g8d]))
                refine wpAnyH_ready (rs := [4]) (by kernel_rfl) (by simp) ?_
                refine (AllReadyH.cons (by simp only [g8a, g8s, g8z]; rfl) (fun K hK => ?_) AllReadyH.nil)
                rw [if_pos (by rfl)]
                go_simp
                refine (refChk_any A B ZA ZB n m zn zm c d zc zd f.per f.inc g.per g.inc f.vals g.vals zf zq _ (by exact ((E.out.below BI.out).get 2 rfl).inn.ints) (by exact ((E.out.below BI.out).get 3 rfl).inn.ints) (by exact (LZ.out.below BI.out).inn.x.ints) (by exact (LZ.out.below BI.out).inn.l) (by omega) (by omega) (by omega) (by omega) hcf hcg hf2).mono ?_
                rintro e wb ⟨⟨b2, hb2, rfl⟩, hb⟩
                obtain rfl := Bool.eq_iff_iff.2 (hb2.trans HQ1.out.symm)
                replace BI := Lib.hid (bthen BI.out hb)
                clear hb hb2 hHeld
                clear s0 s1 s2 hls t0 t1 t2 hlt u0 u1 u2 hlu v0 v1 v2 hlv o0 o1 o2 hlo x0 x1 x2 x3 hlx
                obtain ⟨s0, s1, s2, hls⟩ := ((E.out.below BI.out).get 0 rfl).cells
                obtain ⟨t0, t1, t2, hlt⟩ := ((E.out.below BI.out).get 1 rfl).cells
                obtain ⟨u0, u1, u2, hlu⟩ := ((E.out.below BI.out).get 2 rfl).cells
                obtain ⟨v0, v1, v2, hlv⟩ := ((E.out.below BI.out).get 3 rfl).cells
                obtain ⟨o0, o1, o2, hlo⟩ := (HH.out.below BI.out).cells
                obtain ⟨⟨x0, x1, x2, x3⟩, _, hlx⟩ := (LZ.out.below BI.out).blk.c4
                dsimp only at s0 s1 s2 t0 t1 t2 u0 u1 u2 v0 v1 v2 o0 o1 o2 x0 x1 x2 x3
                refine hK.out _ _ (by exact ⟨⟨s0, s1, s2⟩, ⟨t0, t1, t2⟩, ⟨u0, u1, u2⟩, ⟨v0, v1, v2⟩, ⟨o0, o1, o2⟩, x0, x1, x2, x3⟩) (fun hHeld => ?_)
                clear hK K
                (try simp only [Act.put]); (try simp only [g8b]); (try simp only [g8c]); (try simp only [g8d])
                refine wpAnyH_take (i := 5) (oi := _) (v := ?_) (by simp only [g8a, g8s, g8z]; rfl) (by kernel_rfl) (by kernel_rfl) (by kernel_rfl) (by exact fun _ _ _ h => h) (Or.inl ⟨by rfl, ?_⟩) (by assumption) ?_
                rotate_left 1
                · (intro w hSw; (try dsimp only at hSw); go_simp; try with_reducible rfl)
                all_goals ((try simp only [Act.put]); (try simp only [g8b]); (try simp only [g8c]); (try simp only [g8d]))
                refine wpAnyH_take (i := 6) (oi := _) (v := ?_) (by simp only [g8a, g8s, g8z]; rfl) (by kernel_rfl) (by kernel_rfl) (by kernel_rfl) (by exact fun _ _ _ h => h) (Or.inl ⟨by rfl, ?_⟩) (by assumption) ?_
                rotate_left 1
                · (intro w hSw; (try dsimp only at hSw); go_simp; try with_reducible rfl)
                all_goals ((try simp only [Act.put]); (try simp only [g8b]); (try simp only [g8c]); (try simp only [g8d]))
                refine wpAnyH_take (i := 7) (oi := _) (v := ?_) (by simp only [g8a, g8s, g8z]; rfl) (by kernel_rfl) (by kernel_rfl) (by kernel_rfl) (by exact fun _ _ _ h => h) (Or.inl ⟨by rfl, ?_⟩) (by assumption) ?_
                rotate_left 1
                · (intro w hSw; (try dsimp only at hSw); go_simp; try with_reducible rfl)
                all_goals ((try simp only [Act.put]); (try simp only [g8b]); (try simp only [g8c]); (try simp only [g8d]))
                refine wpAnyH_take (i := 8) (oi := _) (v := ?_) (by simp only [g8a, g8s, g8z]; rfl) (by kernel_rfl) (by kernel_rfl) (by kernel_rfl) (by exact fun _ _ _ h => h) (Or.inl ⟨by rfl, ?_⟩) (by assumption) ?_
                rotate_left 1
                · (intro w hSw; (try dsimp only at hSw); go_simp; try with_reducible rfl)
                all_goals ((try simp only [Act.put]); (try simp only [g8b]); (try simp only [g8c]); (try simp only [g8d]))
                refine wpAnyH_take (i := 9) (oi := _) (v := ?_) (by simp only [g8a, g8s, g8z]; rfl) (by kernel_rfl) (by kernel_rfl) (by kernel_rfl) (by exact fun _ _ _ h => h) (Or.inl ⟨by rfl, ?_⟩) (by assumption) ?_
                rotate_left 1
                · (intro w hSw; (try dsimp only at hSw); go_simp; try with_reducible rfl)
                all_goals ((try simp only [Act.put]); (try simp only [g8b]); (try simp only [g8c]); (try simp only [g8d]))
                refine wpAnyH_take (i := 11) (oi := _) (v := ?_) (by simp only [g8a, g8s, g8z]; rfl) (by kernel_rfl) (by kernel_rfl) (by kernel_rfl) (by exact fun _ _ _ h => h) (Or.inl ⟨by rfl, ?_⟩) (by assumption) ?_
                rotate_left 1
                · (intro w hSw; (try dsimp only at hSw); go_simp; try with_reducible rfl)
                all_goals ((try simp only [Act.put]); (try simp only [g8b]); (try simp only [g8c]); (try simp only [g8d]))
                refine wpAnyH_take (i := 12) (oi := _) (v := ?_) (by simp only [g8a, g8s, g8z]; rfl) (by kernel_rfl) (by kernel_rfl) (by kernel_rfl) (by exact fun _ _ _ h => h) (Or.inl ⟨by rfl, ?_⟩) (by assumption) ?_
                rotate_left 1
                · (intro w hSw; (try dsimp only at hSw); go_simp; try with_reducible rfl)
                all_goals ((try simp only [Act.put]); (try simp only [g8b]); (try simp only [g8c]); (try simp only [g8d]))
                refine wpAnyH_take (i := 13) (oi := _) (v := ?_) (by simp only [g8a, g8s, g8z]; rfl) (by kernel_rfl) (by kernel_rfl) (by kernel_rfl) (by exact fun _ _ _ h => h) (Or.inl ⟨by rfl, ?_⟩) (by assumption) ?_
                rotate_left 1
                · (intro w hSw; (try dsimp only at hSw); go_simp; try with_reducible rfl)
                all_goals ((try simp only [Act.put]); (try simp only [g8b]); (try simp only [g8c]); (try simp only [g8d]))
                refine wpAnyH_ready (rs := [10]) (by kernel_rfl) (by simp) ?_
                refine (AllReadyH.cons (by simp only [g8a, g8s, g8z]; rfl) (fun K hK => ?_) AllReadyH.nil)
                rw [if_pos (by rfl)]
                go_simp
                refine (dcchk_any A1 A2 ZA ZB n1 n2 zn zm c1 c2 zc zd p1 i1 p2 i2 L1 L2 zf zq _ (by exact ((E.out.below BI.out).get 0 rfl).inn.ints) (by exact ((E.out.below BI.out).get 1 rfl).inn.ints) (by exact (LZ.out.below BI.out).inn.x.ints) (by exact (LZ.out.below BI.out).inn.l) (by omega) (by omega) (by omega) (by omega)).mono ?_
                rintro e wx ⟨⟨b3, hb3, rfl⟩, hb⟩
                have HQ3 := Lib.hid hb3
                replace BI := Lib.hid (bthen BI.out hb)
                clear hb hb3 hHeld
                clear s0 s1 s2 hls t0 t1 t2 hlt u0 u1 u2 hlu v0 v1 v2 hlv o0 o1 o2 hlo x0 x1 x2 x3 hlx
                obtain ⟨s0, s1, s2, hls⟩ := ((E.out.below BI.out).get 0 rfl).cells
                obtain ⟨t0, t1, t2, hlt⟩ := ((E.out.below BI.out).get 1 rfl).cells
                obtain ⟨u0, u1, u2, hlu⟩ := ((E.out.below BI.out).get 2 rfl).cells
                obtain ⟨v0, v1, v2, hlv⟩ := ((E.out.below BI.out).get 3 rfl).cells
                obtain ⟨o0, o1, o2, hlo⟩ := (HH.out.below BI.out).cells
                obtain ⟨⟨x0, x1, x2, x3⟩, _, hlx⟩ := (LZ.out.below BI.out).blk.c4
                dsimp only at s0 s1 s2 t0 t1 t2 u0 u1 u2 v0 v1 v2 o0 o1 o2 x0 x1 x2 x3
                refine hK.out _ _ (by exact ⟨⟨s0, s1, s2⟩, ⟨t0, t1, t2⟩, ⟨u0, u1, u2⟩, ⟨v0, v1, v2⟩, ⟨o0, o1, o2⟩, x0, x1, x2, x3⟩) (fun hHeld => ?_)
                clear hK K
                (try simp only [Act.put]); (try simp only [g8b]); (try simp only [g8c]); (try simp only [g8d])
                refine wpAnyH_ready (rs := [14]) (by kernel_rfl) (by simp) ?_
                refine (AllReadyH.cons (by simp only [g8a, g8s, g8z]; rfl) (fun K hK => ?_) AllReadyH.nil)
                rw [if_pos (by rfl)]
                go_simp
                refine (refChk_any A1 A2 ZA ZB n1 n2 zn zm c1 c2 zc zd p1 i1 p2 i2 L1 L2 zf zq _ (by exact ((E.out.below BI.out).get 0 rfl).inn.ints) (by exact ((E.out.below BI.out).get 1 rfl).inn.ints) (by exact (LZ.out.below BI.out).inn.x.ints) (by exact (LZ.out.below BI.out).inn.l) (by omega) (by omega) (by omega) (by omega) hf1c hf2c hf2).mono ?_
                rintro e wy ⟨⟨b4, hb4, rfl⟩, hb⟩
                obtain rfl := Bool.eq_iff_iff.2 (hb4.trans HQ3.out.symm)
                replace BI := Lib.hid (bthen BI.out hb)
                clear hb hb4 HQ3 hHeld
                clear s0 s1 s2 hls t0 t1 t2 hlt u0 u1 u2 hlu v0 v1 v2 hlv o0 o1 o2 hlo x0 x1 x2 x3 hlx
                obtain ⟨s0, s1, s2, hls⟩ := ((E.out.below BI.out).get 0 rfl).cells
                obtain ⟨t0, t1, t2, hlt⟩ := ((E.out.below BI.out).get 1 rfl).cells
                obtain ⟨u0, u1, u2, hlu⟩ := ((E.out.below BI.out).get 2 rfl).cells
                obtain ⟨v0, v1, v2, hlv⟩ := ((E.out.below BI.out).get 3 rfl).cells
                obtain ⟨o0, o1, o2, hlo⟩ := (HH.out.below BI.out).cells
                obtain ⟨⟨x0, x1, x2, x3⟩, _, hlx⟩ := (LZ.out.below BI.out).blk.c4
                dsimp only at s0 s1 s2 t0 t1 t2 u0 u1 u2 v0 v1 v2 o0 o1 o2 x0 x1 x2 x3
                refine hK.out _ _ (by exact ⟨⟨s0, s1, s2⟩, ⟨t0, t1, t2⟩, ⟨u0, u1, u2⟩, ⟨v0, v1, v2⟩, ⟨o0, o1, o2⟩, x0, x1, x2, x3⟩) (fun hHeld => ?_)
                clear hK K
                (try simp only [Act.put]); (try simp only [g8b]); (try simp only [g8c]); (try simp only [g8d])
                have g3 : (b4 != b4) = false := by simp
                refine wpAnyH_take (i := 15) (oi := _) (v := ?_) (by simp only [g8a, g8s, g8z]; rfl) (by kernel_rfl) (by kernel_rfl) (by kernel_rfl) (by exact fun _ _ _ h => h) (Or.inl ⟨by rfl, ?_⟩) (by assumption) ?_
                rotate_left 1
                · (intro w hSw; (try dsimp only at hSw); go_simp; try with_reducible rfl)
                all_goals ((try simp only [Act.put]); (try simp only [g8b]); (try simp only [g8c]); (try simp only [g8d]))
                refine wpAnyH_take (i := 16) (oi := _) (v := ?_) (by simp only [g8a, g8s, g8z]; rfl) (by kernel_rfl) (by kernel_rfl) (by kernel_rfl) (by exact fun _ _ _ h => h) (Or.inl ⟨by rfl, ?_⟩) (by assumption) ?_
                rotate_left 1
                · (intro w hSw; (try dsimp only at hSw); go_simp; try with_reducible rfl)
                all_goals ((try simp only [Act.put]); (try simp only [g8b]); (try simp only [g8c]); (try simp only [g8d]))
                refine wpAnyH_take (i := 17) (oi := _) (v := ?_) (by simp only [g8a, g8s, g8z]; rfl) (by kernel_rfl) (by kernel_rfl) (by kernel_rfl) (by exact fun _ _ _ h => h) (Or.inl ⟨by rfl, ?_⟩) (by assumption) ?_
                rotate_left 1
                · (intro w hSw; (try dsimp only at hSw); go_simp; try with_reducible rfl)
                all_goals ((try simp only [Act.put]); (try simp only [g8b]); (try simp only [g8c]); (try simp only [g8d]))
                refine wpAnyH_take (i := 18) (oi := _) (v := ?_) (by simp only [g8a, g8s, g8z]; rfl) (by kernel_rfl) (by kernel_rfl) (by kernel_rfl) (by exact fun _ _ _ h => h) (Or.inl ⟨by rfl, ?_⟩) (by assumption) ?_
                rotate_left 1
                · (intro w hSw; (try dsimp only at hSw); go_simp; try with_reducible rfl)
                all_goals ((try simp only [Act.put]); (try simp only [g8b]); (try simp only [g8c]); (try simp only [g8d]))
                refine wpAnyH_take (i := 19) (oi := _) (v := ?_) (by simp only [g8a, g8s, g8z]; rfl) (by kernel_rfl) (by kernel_rfl) (by kernel_rfl) (by exact fun _ _ _ h => h) (Or.inl ⟨by rfl, ?_⟩) (by assumption) ?_
                rotate_left 1
                · (intro w hSw; (try dsimp only at hSw); go_simp; try with_reducible rfl)
                all_goals ((try simp only [Act.put]); (try simp only [g8b]); (try simp only [g8c]); (try simp only [g8d]))
                refine wpAnyH_take (i := 20) (oi := _) (v := ?_) (by simp only [g8a, g8s, g8z]; rfl) (by kernel_rfl) (by kernel_rfl) (by kernel_rfl) (by exact fun _ _ _ h => h) (Or.inl ⟨by rfl, ?_⟩) (by assumption) ?_
                rotate_left 1
                · (intro w hSw; (try dsimp only at hSw); go_simp; try with_reducible rfl)
                all_goals ((try simp only [Act.put]); (try simp only [g8b]); (try simp only [g8c]); (try simp only [g8d]))
                refine wpAnyH_take (i := 21) (oi := _) (v := ?_) (by simp only [g8a, g8s, g8z]; rfl) (by kernel_rfl) (by kernel_rfl) (by kernel_rfl) (by exact fun _ _ _ h => h) (Or.inl ⟨by rfl, ?_⟩) (by assumption) ?_
                rotate_left 1
                · (intro w hSw; (try dsimp only at hSw); go_simp; try with_reducible rfl)
                all_goals ((try simp only [Act.put]); (try simp only [g8b]); (try simp only [g8c]); (try simp only [g8d]))
                refine wpAnyH_take (i := 22) (oi := _) (v := ?_) (by simp only [g8a, g8s, g8z]; rfl) (by kernel_rfl) (by kernel_rfl) (by kernel_rfl) (by exact fun _ _ _ h => h) (Or.inl ⟨by rfl, ?_⟩) (by assumption) ?_
                rotate_left 1
                · (intro w hSw; (try dsimp only at hSw); go_simp; try with_reducible rfl)
                all_goals ((try simp only [Act.put]); (try simp only [g8b]); (try simp only [g8c]); (try simp only [g8d]))
                refine wpAnyH_take (i := 23) (oi := _) (v := ?_) (by simp only [g8a, g8s, g8z]; rfl) (by kernel_rfl) (by kernel_rfl) (by kernel_rfl) (by exact fun _ _ _ h => h) (Or.inl ⟨by rfl, ?_⟩) (by assumption) ?_
                rotate_left 1
                · (intro w hSw; (try dsimp only at hSw); go_simp; try with_reducible rfl)
                all_goals ((try simp only [Act.put]); (try simp only [g8b]); (try simp only [g8c]); (try simp only [g8d]))
                refine wpAnyH_take (i := 24) (oi := _) (v := ?_) (by simp only [g8a, g8s, g8z]; rfl) (by kernel_rfl) (by kernel_rfl) (by kernel_rfl) (by exact fun _ _ _ h => h) (Or.inl ⟨by rfl, ?_⟩) (by assumption) ?_
                rotate_left 1
                · (intro w hSw; (try dsimp only at hSw); go_simp; try with_reducible rfl)
                all_goals ((try simp only [Act.put]); (try simp only [g8b]); (try simp only [g8c]); (try simp only [g8d]))
                refine wpAnyH_take (i := 25) (oi := _) (v := ?_) (by simp only [g8a, g8s, g8z]; rfl) (by kernel_rfl) (by kernel_rfl) (by kernel_rfl) (by exact fun _ _ _ h => h) (Or.inl ⟨by rfl, ?_⟩) (by assumption) ?_
                rotate_left 1
                · (intro w hSw; (try dsimp only at hSw); go_simp; try with_reducible rfl)
                all_goals ((try simp only [Act.put]); (try simp only [g8b]); (try simp only [g8c]); (try simp only [g8d]))
                refine wpAnyH_ready (rs := [26]) (by kernel_rfl) (by simp) ?_
                refine (AllReadyH.cons (by simp only [g8a, g8s, g8z]; rfl) (fun K hK => ?_) AllReadyH.nil)
                rw [if_pos (by rfl)]
                go_simp
                refine (refSame_any AH ZA nH zn cH zc h.per zf.per h.inc zf.inc h.vals zf.vals _ (by exact (HH.out.below BI.out).inn.ints) (by exact (LZ.out.below BI.out).inn.x.ints) (by omega) (by omega)).mono ?_
                rw [show Cv.same ⟨h.vals, h.per, h.inc⟩ ⟨zf.vals, zf.per, zf.inc⟩ = true from (Cv.same_iff _ _).2 HR2.out]
                rintro e wz ⟨rfl, hb⟩
                replace BI := Lib.hid (bthen BI.out hb)
                clear hb hHeld
                clear s0 s1 s2 hls t0 t1 t2 hlt u0 u1 u2 hlu v0 v1 v2 hlv o0 o1 o2 hlo x0 x1 x2 x3 hlx
                obtain ⟨s0, s1, s2, hls⟩ := ((E.out.below BI.out).get 0 rfl).cells
                obtain ⟨t0, t1, t2, hlt⟩ := ((E.out.below BI.out).get 1 rfl).cells
                obtain ⟨u0, u1, u2, hlu⟩ := ((E.out.below BI.out).get 2 rfl).cells
                obtain ⟨v0, v1, v2, hlv⟩ := ((E.out.below BI.out).get 3 rfl).cells
                obtain ⟨o0, o1, o2, hlo⟩ := (HH.out.below BI.out).cells
                obtain ⟨⟨x0, x1, x2, x3⟩, _, hlx⟩ := (LZ.out.below BI.out).blk.c4
                dsimp only at s0 s1 s2 t0 t1 t2 u0 u1 u2 v0 v1 v2 o0 o1 o2 x0 x1 x2 x3
                refine hK.out _ _ (by exact ⟨⟨s0, s1, s2⟩, ⟨t0, t1, t2⟩, ⟨u0, u1, u2⟩, ⟨v0, v1, v2⟩, ⟨o0, o1, o2⟩, x0, x1, x2, x3⟩) (fun hHeld => ?_)
                clear hK K
                (try simp only [Act.put]); (try simp only [g8b]); (try simp only [g8c]); (try simp only [g8d])
                refine wpAnyH_take (i := 27) (oi := _) (v := ?_) (by simp only [g8a, g8s, g8z]; rfl) (by kernel_rfl) (by kernel_rfl) (by kernel_rfl) (by exact fun _ _ _ h => h) (Or.inl ⟨by rfl, ?_⟩) (by assumption) ?_
                rotate_left 1
                · (intro w hSw; (try dsimp only at hSw); go_simp; try with_reducible rfl)
                all_goals ((try simp only [Act.put]); (try simp only [g8b]); (try simp only [g8c]); (try simp only [g8d]))
                refine wpAnyH_take (i := 28) (oi := _) (v := ?_) (by simp only [g8a, g8s, g8z]; rfl) (by kernel_rfl) (by kernel_rfl) (by kernel_rfl) (by exact fun _ _ _ h => h) (Or.inl ⟨by rfl, ?_⟩) (by assumption) ?_
                rotate_left 1
                · (intro w hSw; (try dsimp only at hSw); go_simp; try with_reducible rfl)
                all_goals ((try simp only [Act.put]); (try simp only [g8b]); (try simp only [g8c]); (try simp only [g8d]))
                refine wpAnyH_take (i := 29) (oi := _) (v := ?_) (by simp only [g8a, g8s, g8z]; rfl) (by kernel_rfl) (by kernel_rfl) (by kernel_rfl) (by exact fun _ _ _ h => h) (Or.inl ⟨by rfl, ?_⟩) (by assumption) ?_
                rotate_left 1
                · (intro w hSw; (try dsimp only at hSw); go_simp; try with_reducible rfl)
                all_goals ((try simp only [Act.put]); (try simp only [g8b]); (try simp only [g8c]); (try simp only [g8d]))
                refine wpAnyH_take (i := 30) (oi := _) (v := ?_) (by simp only [g8a, g8s, g8z]; rfl) (by kernel_rfl) (by kernel_rfl) (by kernel_rfl) (by exact fun _ _ _ h => h) (Or.inl ⟨by rfl, ?_⟩) (by assumption) ?_
                rotate_left 1
                · (intro w hSw; (try dsimp only at hSw); go_simp; try with_reducible rfl)
                all_goals ((try simp only [Act.put]); (try simp only [g8b]); (try simp only [g8c]); (try simp only [g8d]))
                refine wpAnyH_done (by kernel_rfl) ?_ _
                clear hHeld
                clear s0 s1 s2 hls t0 t1 t2 hlt u0 u1 u2 hlu v0 v1 v2 hlv o0 o1 o2 hlo x0 x1 x2 x3 hlx
                go_wp2_with fail
                go_roundg (go - 1)
                case measure => omega
                case rel => exact ⟨k + 1, by omega, by go_num, E.out.below BI.out, HH.out.below BI.out, ROW.out.below BI.out⟩
          · have hk5 : k = 5 := by omega
            subst hk5
            clear hk hkg
            go_wp2_with fail
            refine (awake8_any _).mono ?_
            rintro q wq ⟨rfl, hbq⟩
            have bw := bthen BW.out (E.out.below hbq).fin
            go_wp2_with fail
            go_ret
            exact ⟨rfl, bw⟩
end Go.Proofs.Ythgfmaijoigckaa
