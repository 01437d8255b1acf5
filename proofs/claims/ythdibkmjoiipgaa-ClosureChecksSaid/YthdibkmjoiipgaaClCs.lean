/- The statement ClosureChecks: the walk. -/
import Derived.Test.YthdibkmjoiipgaaClKit
import Derived.Test.YthdibkmjoiipgaaRef9F
import Derived.Test.YthdibkmjoiipgaaShort9
import Derived.Test.YthdibkmjoiipgaaBentP
import Derived.Deep.LoopGhost
import Derived.Deep.DeepCutAuto
namespace Go.Proofs.Ythdibkmjoiipgaa
open Go.RowKit
set_option linter.unusedVariables false
theorem ck_len {f h : Cv} {fr : Int} {cs : List Int} (H : CkC f h fr cs) : cs.length ≤ 1100 := by
  obtain ⟨hf, hh, _, _, a, ha, hl, hA, _, _⟩ := H
  have h1 := cst_le (nf_small hf ha).1; have h2 := cst_le hh
  rw [hA.2.1]
  unfold clF
  omega

theorem pv_cs {f r : Cv} {fr : Int} {cs : List Int} {er : Int} (H : PvC f r fr cs er) : cs.length ≤ 1100 := by
  rcases H with ⟨_, _, _, rfl, _⟩ | ⟨_, a, ha, ⟨_, _, _, rfl, _⟩ | ⟨_, g, e0, hc, ⟨_, _, _, rfl, _⟩ | ⟨_, cs0, hp, ⟨h1, _, _, rfl, _⟩ | ⟨_, _, _, rfl, _⟩⟩⟩⟩
  · exact Nat.zero_le _
  · exact Nat.zero_le _
  · exact Nat.zero_le _
  · exact ck_len h1
  · exact Nat.zero_le _

theorem pv_ln {f r : Cv} {fr : Int} {cs : List Int} {er : Int} (H : PvC f r fr cs er) : r.vals.length ≤ 400 := cl_len (show ClS f r er from ⟨fr, cs, H⟩)
/-- a certificate as it lies in a variable -/
structure CtR where
  x : CR
  fr : Int
  B : Option Addr
  m : Nat
  d : Nat
  cs : List Int
def CtR.cells (g : CtR) : List Value := [.slice g.x.A g.x.n g.x.c, .int .i64 g.x.f.per, .int .i64 g.x.f.inc, .int .i64 g.fr, .slice g.B g.m g.d]
structure CtR.In (g : CtR) (p : Nat) (w : World) : Prop where
  x : g.x.In p w
  l : Ints w w.heap.size g.B g.m g.cs
  lp : 0 < g.m → ∀ b off s, g.B = some ⟨b, off, s⟩ → b ≠ p
def CtR.Fit (g : CtR) : Prop := g.x.n ≤ 1000 ∧ g.x.n ≤ g.x.c ∧ g.m ≤ 1200
section
variable {p F : Nat} {w w' : World} {g : CtR}
theorem CtR.In.below (h : g.In p w) (hb : Below w.heap.size w w') : g.In p w' := ⟨h.x.below hb, h.l.ext hb, h.lp⟩
theorem CtR.In.kept (h : g.In p w) (hk : Kept w.heap.size p w w') : g.In p w' := ⟨h.x.kept hk, h.l.kept0 h.lp hk, h.lp⟩
theorem CtR.In.alloc (h : g.In p w) (o : Obj) : g.In p (w.alloc o) := h.below (balloc w o)
/-- the block F is a variable that holds a certificate -/
structure LcC (p : Nat) (w : World) (F : Nat) (g : CtR) : Prop where
  blk : Blk w F 63 #[.slice g.x.A g.x.n g.x.c, .int .i64 g.x.f.per, .int .i64 g.x.f.inc, .int .i64 g.fr, .slice g.B g.m g.d]
  inn : g.In p w
  ne : F ≠ p
theorem LcC.below (h : LcC p w F g) (hb : Below w.heap.size w w') : LcC p w' F g := ⟨h.blk.below hb h.blk.lt, h.inn.below hb, h.ne⟩
theorem LcC.kept (h : LcC p w F g) (hk : Kept w.heap.size p w w') : LcC p w' F g := ⟨h.blk.kept h.ne hk, h.inn.kept hk, h.ne⟩
theorem LcC.drew (h : LcC p w F g) : LcC p w.drew F g := ⟨h.blk, ⟨h.inn.x.drew, h.inn.l, h.inn.lp⟩, h.ne⟩
theorem LcC.new (h : g.In p w) (hp : p < w.heap.size) : LcC p (w.alloc (.cells #[.slice g.x.A g.x.n g.x.c, .int .i64 g.x.f.per, .int .i64 g.x.f.inc, .int .i64 g.fr, .slice g.B g.m g.d] 63)) w.heap.size g :=
  ⟨Blk.new _ _ _, h.alloc _, by omega⟩
end
theorem flat5_get (xs : List CtR) (k j : Nat) (q : CtR) (hx : xs[k]? = some q) (hj : j < 5) : (xs.flatMap CtR.cells)[k * 5 + j]? = q.cells[j]? := by
  induction xs generalizing k with
  | nil => simp at hx
  | cons y ys ih =>
    rw [List.flatMap_cons]
    have hl : y.cells.length = 5 := rfl
    rcases k with _ | k
    · simp at hx
      subst hx
      rw [Nat.zero_mul, Nat.zero_add, List.getElem?_append_left (by omega)]
    · rw [List.getElem?_append_right (by omega), hl, show (k + 1) * 5 + j - 5 = k * 5 + j by omega]
      exact ih k (by simpa using hx)
/-- block b is a list of certificates -/
structure RowC (p : Nat) (w : World) (b : Nat) (xs : List CtR) : Prop where
  blk : Blk w b 63 (xs.flatMap CtR.cells).toArray
  inn : ∀ q ∈ xs, q.In p w
  ne : b ≠ p
section
variable {p b : Nat} {w w' : World} {xs : List CtR}
theorem RowC.lt (h : RowC p w b xs) : b < w.heap.size := h.blk.lt
theorem RowC.below (h : RowC p w b xs) (hb : Below w.heap.size w w') : RowC p w' b xs := ⟨h.blk.below hb h.blk.lt, fun x hx => (h.inn x hx).below hb, h.ne⟩
theorem RowC.alloc (h : RowC p w b xs) (o : Obj) : RowC p (w.alloc o) b xs := h.below (balloc w o)
theorem RowC.get (h : RowC p w b xs) {k : Nat} (hk : k < xs.length) : ∃ g, g ∈ xs ∧ g.In p w ∧
    w.cell? ⟨b, k * 5, none⟩ = some (.slice g.x.A g.x.n g.x.c) ∧ w.cell? ⟨b, k * 5 + 1, none⟩ = some (.int .i64 g.x.f.per) ∧ w.cell? ⟨b, k * 5 + 2, none⟩ = some (.int .i64 g.x.f.inc) ∧
    w.cell? ⟨b, k * 5 + 3, none⟩ = some (.int .i64 g.fr) ∧ w.cell? ⟨b, k * 5 + 4, none⟩ = some (.slice g.B g.m g.d) := by
  have hx : xs[k]? = some xs[k] := List.getElem?_eq_getElem hk
  have hm := List.getElem_mem hk
  have hc : ∀ j, j < 5 → w.cell? ⟨b, k * 5 + j, none⟩ = xs[k].cells[j]? := fun j hj => by
    have := h.blk.cell (k * 5 + j)
    rw [List.getElem?_toArray, flat5_get xs k j _ hx hj] at this
    exact this
  exact ⟨xs[k], hm, h.inn _ hm, hc 0 (by omega), hc 1 (by omega), hc 2 (by omega), hc 3 (by omega), hc 4 (by omega)⟩
end
theorem ints_keptV {w w' : World} {p n : Nat} {A : Option Addr} {zs : List Int} (h : Ints w w.heap.size A n zs) (ha : ∀ b off s, A = some ⟨b, off, s⟩ → b ≠ p) (k : Kept w.heap.size p w w') : Ints w' w'.heap.size A n zs := h.kept0 (fun _ => ha) k
set_option maxHeartbeats 24000000 in
set_option maxRecDepth 100000 in
theorem clCs_any (A0 : Option Addr) (n0 c0 : Nat) (p0 i0 : Int) (L0 : List Int) (fr0 : Int) (B0 : Option Addr) (m0 d0 : Nat) (cs0 : List Int) (A1 : Option Addr) (n1 c1 : Nat) (p1 i1 : Int) (L1 : List Int) (A3 : Option Addr) (n3 c3 : Nat) (L : List Int) (W : World)
    (hI0 : Ints W W.heap.size A0 n0 L0) (hc0 : n0 ≤ c0) (hn0 : (n0 : Int) ≤ 9223372036854775807) (hJ0 : Ints W W.heap.size B0 m0 cs0) (hd0 : m0 ≤ d0) (hm0 : (m0 : Int) ≤ 9223372036854775807)
    (hI1 : Ints W W.heap.size A1 n1 L1) (hc1 : n1 ≤ c1) (hn1 : (n1 : Int) ≤ 9223372036854775807) (hL0 : Ints W W.heap.size A3 n3 L) (hc3 : n3 ≤ c3) (hn3 : (n3 : Int) ≤ 9223372036854775807) :
    Calls Try.prog 6 #[.agg #[.slice A0 n0 c0, .int .i64 p0, .int .i64 i0, .int .i64 fr0, .slice B0 m0 d0], .agg #[.slice A1 n1 c1, .int .i64 p1, .int .i64 i1], .slice A3 n3 c3] W fun e w' => e = .returned (.bool true) ∧ Below W.heap.size W w' := by
  have bw := bthen (balloc W (.cells #[.slice A0 n0 c0, .int .i64 p0, .int .i64 i0, .int .i64 fr0, .slice B0 m0 d0] 63)) (balloc _ (.cells #[.slice A1 n1 c1, .int .i64 p1, .int .i64 i1] 46))
  have GI := Lib.hid (hI0.ext bw); have GJ := Lib.hid (hJ0.ext bw); have RI := Lib.hid (hI1.ext bw); have LI := Lib.hid (hL0.ext bw)
  have GX := Lib.hid ((Blk.new W 63 #[.slice A0 n0 c0, .int .i64 p0, .int .i64 i0, .int .i64 fr0, .slice B0 m0 d0]).alloc (.cells #[.slice A1 n1 c1, .int .i64 p1, .int .i64 i1] 46))
  have RX := Lib.hid (show Blk ((W.alloc (.cells #[.slice A0 n0 c0, .int .i64 p0, .int .i64 i0, .int .i64 fr0, .slice B0 m0 d0] 63)).alloc (.cells #[.slice A1 n1 c1, .int .i64 p1, .int .i64 i1] 46)) (W.heap.size + 1) 46 #[.slice A1 n1 c1, .int .i64 p1, .int .i64 i1] from by
    have := Blk.new (W.alloc (.cells #[.slice A0 n0 c0, .int .i64 p0, .int .i64 i0, .int .i64 fr0, .slice B0 m0 d0] 63)) 46 #[.slice A1 n1 c1, .int .i64 p1, .int .i64 i1]
    simpa using this)
  have BW := Lib.hid bw
  have HC0 := Lib.hid hc0; have HC1 := Lib.hid hc1; have HM0 := Lib.hid hm0
  clear hI0 hJ0 hI1 hL0 hc0 hc1 hd0 hm0 bw
  go_enter Try.func6, Try.ntmps6
  go_upto_region 1 with fail
  generalize hwe : (W.alloc (.cells #[.slice A0 n0 c0, .int .i64 p0, .int .i64 i0, .int .i64 fr0, .slice B0 m0 d0] 63)).alloc (.cells #[.slice A1 n1 c1, .int .i64 p1, .int .i64 i1] 46) = W2 at *
  clear hwe
  obtain ⟨⟨r0, r1, r2, r3, r4⟩, _, hlr⟩ := GX.out.q5
  obtain ⟨⟨s0, s1, s2⟩, _, hls⟩ := RX.out.c3
  have RW := Lib.hid (show Row (W2.alloc (.cells #[.slice A1 n1 c1, .int .i64 p1, .int .i64 i1, .slice A0 n0 c0, .int .i64 p0, .int .i64 i0] 46)).heap.size (W2.alloc (.cells #[.slice A1 n1 c1, .int .i64 p1, .int .i64 i1, .slice A0 n0 c0, .int .i64 p0, .int .i64 i0] 46)) W2.heap.size [⟨A1, n1, c1, ⟨L1, p1, i1⟩⟩, ⟨A0, n0, c0, ⟨L0, p0, i0⟩⟩] from ⟨Blk.new _ _ _, (by
    intro x hx
    simp only [List.mem_cons, List.not_mem_nil, or_false] at hx
    rcases hx with rfl | rfl
    · exact CR.In.old (RI.out.alloc' _)
    · exact CR.In.old (GI.out.alloc' _)), by rw [World.size_alloc]; omega⟩)
  have hbq := balloc W2 (.cells #[.slice A1 n1 c1, .int .i64 p1, .int .i64 i1, .slice A0 n0 c0, .int .i64 p0, .int .i64 i0] 46)
  replace GI := Lib.hid (GI.out.ext hbq); replace GJ := Lib.hid (GJ.out.ext hbq); replace RI := Lib.hid (RI.out.ext hbq); replace LI := Lib.hid (LI.out.ext hbq)
  replace GX := Lib.hid (GX.out.below hbq GX.out.lt); replace RX := Lib.hid (RX.out.below hbq RX.out.lt); replace BW := Lib.hid (bthen BW.out hbq)
  clear hbq
  go_wp2_with fail
  refine (short9_any W2.heap.size 2 2 _ _ rfl (by omega) RW.out (by
    intro x hx
    simp only [List.mem_cons, List.not_mem_nil, or_false] at hx
    rcases hx with rfl | rfl
    · exact hn1
    · exact hn0)).mono ?_
  rintro e w ⟨z, rfl, hz, hb⟩
  replace GI := Lib.hid (GI.out.ext hb); replace GJ := Lib.hid (GJ.out.ext hb); replace RI := Lib.hid (RI.out.ext hb); replace LI := Lib.hid (LI.out.ext hb)
  replace GX := Lib.hid (GX.out.below hb GX.out.lt); replace RX := Lib.hid (RX.out.below hb RX.out.lt); replace BW := Lib.hid (bthen BW.out hb)
  clear hb RW r0 r1 r2 r3 r4 hlr s0 s1 s2 hls
  cases z
  case false =>
    clear hz
    go_wp2_with fail
    refine (awake9_any _).mono ?_
    rintro q wq ⟨rfl, hbq⟩
    have bw := bthen BW.out hbq
    go_wp2_with fail
    go_ret
    exact ⟨rfl, bw⟩
  case true =>
    have h1 : n1 ≤ 800 := hz rfl _ (List.mem_cons_self ..)
    have h0 : n0 ≤ 800 := hz rfl _ (List.mem_cons_of_mem _ (List.mem_cons_self ..))
    clear hz
    obtain ⟨⟨r0, r1, r2, r3, r4⟩, _, hlr⟩ := GX.out.q5
    by_cases h300 : 1000 < m0
    · have dm : decide ((1000 : Int) < (m0 : Int)) = true := by simp; omega
      have dm' : decide (1000 < m0) = true := by simp; omega
      go_wp2_with fail
      refine (awake9_any _).mono ?_
      rintro q wq ⟨rfl, hbq⟩
      have bw := bthen BW.out hbq
      go_wp2_with fail
      go_ret
      exact ⟨rfl, bw⟩
    · have dm : decide ((1000 : Int) < (m0 : Int)) = false := by simp; omega
      have dm' : decide (1000 < m0) = false := by simp; omega
      have R0 := Lib.hid (show Lc w.heap.size w (W.heap.size + 1) ⟨A1, n1, c1, ⟨L1, p1, i1⟩⟩ from ⟨RX.out, CR.In.old RI.out, Nat.ne_of_lt RX.out.lt⟩)
      have RAW := Lib.hid (show LcC w.heap.size w W.heap.size ⟨⟨A0, n0, c0, ⟨L0, p0, i0⟩⟩, fr0, B0, m0, d0, cs0⟩ from ⟨GX.out, ⟨CR.In.old GI.out, GJ.out, fun hm b off s e => by
        obtain ⟨b', off', e', hb, _⟩ := GJ.out.2 hm
        dsimp only at e
        rw [e] at e'; cases e'; omega⟩, Nat.ne_of_lt GX.out.lt⟩)
      have hL := LI.out
      have FIT1 := Lib.hid (show n1 ≤ 1000 ∧ n1 ≤ c1 from ⟨by omega, HC1.out⟩)
      have FIT0 := Lib.hid (show CtR.Fit ⟨⟨A0, n0, c0, ⟨L0, p0, i0⟩⟩, fr0, B0, m0, d0, cs0⟩ from ⟨by show n0 ≤ 1000; omega, HC0.out, by show m0 ≤ 1200; omega⟩)
      clear GI GJ RI LI GX RX HC0 HC1 HM0 h0 h1 hn0 hn1 h300
      go_wp2_with fail
      refine (new_any A3 n3 c3 L w hL hc3 hn3).mono ?_
      rintro e w1 ⟨rfl, hS1, hb1⟩
      clear dm dm' r0 r1 r2 r3 r4 hlr
      have E := Lib.hid (show EnvL w.heap.size w w1 [(W.heap.size + 1, ⟨A1, n1, c1, ⟨L1, p1, i1⟩⟩)] from ⟨hS1, Kept.of hb1, fun x hx => by
        simp only [List.mem_singleton] at hx
        subst hx
        exact R0.out.below hb1⟩)
      replace RAW := Lib.hid (RAW.out.below hb1)
      clear hL hS1 hb1 R0 hc3 hn3
      go_wp2_with fail
      refine (srcCurve2_any w.heap.size 6 w1 (by exact E.out.s) (by omega) (by omega)).mono ?_
      rintro e w2 ⟨f, A, n, c, hD, hcf, rfl, hI, hA, hS, hk⟩
      have hps := E.out.s.lt
      have E := Lib.hid (show EnvL w.heap.size w _ _ from (E.out.kept hS hk).push (X := ⟨A, n, c, f⟩) (CR.In.new hI hA hps))
      dsimp only [List.cons_append, List.nil_append] at E
      have Hf := Lib.hid (show DrawC 6 f from hD)
      have HCf := Lib.hid hcf
      have hlenf := hI.1
      try simp only at hlenf
      have hnf : n ≤ 20 := by have h1 := Hf.out.len; omega
      clear hlenf
      replace RAW := Lib.hid ((RAW.out.kept hk).below (balloc _ (.cells #[.slice A n c, .int .i64 f.per, .int .i64 f.inc] 46)))
      clear hD hI hA hS hk hps hcf
      have hcf := HCf.out
      have FO := Lib.hid Hf.out.ok
      clear HCf Hf
      go_upto_region 5 with fail
      generalize hwe : w2.alloc (.cells #[.slice A n c, .int .i64 f.per, .int .i64 f.inc] 46) = we at E RAW ⊢
      clear hwe
      generalize w2.heap.size = Zf at E ⊢
      obtain ⟨u0, u1, u2, hlu⟩ := (E.out.get 1 rfl).cells
      dsimp only at u0 u1 u2
      go_wp2_with fail
      refine (prove9_any A n c f _ (by exact (E.out.get 1 rfl).inn.ints) (by omega) hcf).mono ?_
      rintro e wp ⟨fP, rP, qP, eP, hS, AP, nP, cP, BP, mP, dP, hcP, hdP, rfl, hIP, hJP, hAP, hBP, hb⟩
      have hnP : nP ≤ 400 := by have h1 := pv_ln hS; rw [hIP.1] at h1; exact h1
      have hmP : mP ≤ 1100 := by have h1 := pv_cs hS; rw [hJP.1] at h1; exact h1
      have hps := E.out.s.lt
      have HAP := Lib.hid (show ∀ b off s, AP = some ⟨b, off, s⟩ → b ≠ w.heap.size from fun b off s e => by have := hAP b off s e; omega)
      have IP := Lib.hid (show CtR.In ⟨⟨AP, nP, cP, fP⟩, rP, BP, mP, dP, qP⟩ w.heap.size wp from ⟨⟨hIP, fun _ => HAP.out⟩, hJP, fun _ b off s e => by have := hBP b off s e; omega⟩)
      replace E := Lib.hid (E.out.below hb)
      replace RAW := Lib.hid (RAW.out.below hb)
      have hps2 := E.out.s.lt
      have PRV := Lib.hid (LcC.new IP.out hps2)
      have FITP := Lib.hid (show CtR.Fit ⟨⟨AP, nP, cP, fP⟩, rP, BP, mP, dP, qP⟩ from ⟨by show nP ≤ 1000; omega, hcP, by show mP ≤ 1200; omega⟩)
      have hbq := balloc wp (.cells #[.slice AP nP cP, .int .i64 fP.per, .int .i64 fP.inc, .int .i64 rP, .slice BP mP dP] 63)
      replace E := Lib.hid (E.out.below hbq)
      replace RAW := Lib.hid (RAW.out.below hbq)
      clear hS hb hbq hcP hdP hIP hJP hAP hBP hps hps2 IP u0 u1 u2 hlu
      go_upto_region 6 with fail
      try dsimp only at PRV
      generalize hwe : wp.alloc (.cells #[.slice AP nP cP, .int .i64 fP.per, .int .i64 fP.inc, .int .i64 rP, .slice BP mP dP] 63) = wp2 at *
      clear hwe
      generalize wp.heap.size = Zp at *
      obtain ⟨u0, u1, u2, hlu⟩ := (E.out.get 1 rfl).cells
      dsimp only at u0 u1 u2
      go_wp2_with fail
      refine (values9_any A n c f 100 _ (by exact (E.out.get 1 rfl).inn.ints) FO.out (by omega) (by omega)).mono ?_
      obtain ⟨C, hC⟩ : ∃ C, C = clo f.at := ⟨_, rfl⟩
      rw [← hC]
      rintro e wh ⟨AV, cV, rfl, hcV, hIV, hAV, hb⟩
      have HC := Lib.hid hC
      have hps := E.out.s.lt
      have NV := Lib.hid (show ∀ b off s, AV = some ⟨b, off, s⟩ → b ≠ w.heap.size from fun b off s e => by have := hAV b off s e; omega)
      have IV := Lib.hid hIV
      replace E := Lib.hid (E.out.below hb)
      replace RAW := Lib.hid (RAW.out.below hb)
      replace PRV := Lib.hid (PRV.out.below hb)
      clear hb hcV hIV hAV hC hps u0 u1 u2 hlu
      go_upto_region 7 with fail
      go_cut [50, 51, 52] (fun s50 s51 s52 wx => ∃ (b : Nat) (xs : List CtR), s50 = .slice (some ⟨b, 0, none⟩) 4 4 ∧ s51 = .int .i64 4 ∧ s52 = .int .i64 0 ∧ xs.length = 4 ∧ (∀ q ∈ xs, q.Fit) ∧ EnvL w.heap.size w wx [(W.heap.size + 1, ⟨A1, n1, c1, ⟨L1, p1, i1⟩⟩), (Zf, ⟨A, n, c, f⟩)] ∧ Ints wx wx.heap.size AV 100 (tab C 0 100) ∧ RowC w.heap.size wx b xs)
      case first =>
        replace E := Lib.hid E.out.drew
        replace IV := Lib.hid (show Ints wh.drew wh.drew.heap.size AV 100 (tab C 0 100) from IV.out.drew)
        replace RAW := Lib.hid RAW.out.drew
        replace PRV := Lib.hid PRV.out.drew
        obtain ⟨⟨s0, s1, s2, s3, s4⟩, _, hls⟩ := RAW.out.blk.q5
        obtain ⟨⟨t0, t1, t2, t3, t4⟩, _, hlt⟩ := PRV.out.blk.q5
        dsimp only at s0 s1 s2 s3 s4 t0 t1 t2 t3 t4
        refine wp_region_held_drew (S := (fun w' => (w'.cell? ⟨W.heap.size, 0, none⟩ = some (.slice A0 n0 c0) ∧ w'.cell? ⟨W.heap.size, 1, none⟩ = some (.int .i64 p0) ∧ w'.cell? ⟨W.heap.size, 2, none⟩ = some (.int .i64 i0) ∧ w'.cell? ⟨W.heap.size, 3, none⟩ = some (.int .i64 fr0) ∧ w'.cell? ⟨W.heap.size, 4, none⟩ = some (.slice B0 m0 d0)) ∧ w'.cell? ⟨Zp, 0, none⟩ = some (.slice AP nP cP) ∧ w'.cell? ⟨Zp, 1, none⟩ = some (.int .i64 fP.per) ∧ w'.cell? ⟨Zp, 2, none⟩ = some (.int .i64 fP.inc) ∧ w'.cell? ⟨Zp, 3, none⟩ = some (.int .i64 rP) ∧ w'.cell? ⟨Zp, 4, none⟩ = some (.slice BP mP dP))) (by kernel_rfl) (by exact ⟨⟨s0, s1, s2, s3, s4⟩, t0, t1, t2, t3, t4⟩) (fun hHeld => ?_)
        clear s0 s1 s2 s3 s4 hls t0 t1 t2 t3 t4 hlt
        generalize hwd : wh.drew = wd at *
        clear hwd
        obtain ⟨⟨s0, s1, s2, s3, s4⟩, _, hls⟩ := RAW.out.blk.q5
        obtain ⟨⟨t0, t1, t2, t3, t4⟩, _, hlt⟩ := PRV.out.blk.q5
        dsimp only at s0 s1 s2 s3 s4 t0 t1 t2 t3 t4
        refine wpAnyH_take (i := 0) (oi := _) (v := ?_) (by simp only [g8a, g8z]; rfl) (by kernel_rfl) (by kernel_rfl) (by kernel_rfl) (by exact fun _ _ _ h => h) (Or.inl ⟨by rfl, ?_⟩) (by assumption) ?_
        rotate_left 1
        · (intro w hSw; (try dsimp only at hSw); go_simp; try with_reducible rfl)
        all_goals ((try simp only [Act.put]); try simp only [g8b, g8c, g8d])
        refine wpAnyH_take (i := 1) (oi := _) (v := ?_) (by simp only [g8a, g8s, g8z]; rfl) (by kernel_rfl) (by kernel_rfl) (by kernel_rfl) (by exact fun _ _ _ h => h) (Or.inl ⟨by rfl, ?_⟩) (by assumption) ?_
        rotate_left 1
        · (intro w hSw; (try dsimp only at hSw); go_simp; try with_reducible rfl)
        all_goals ((try simp only [Act.put]); try simp only [g8b, g8c, g8d])
        refine wpAnyH_take (i := 2) (oi := _) (v := ?_) (by simp only [g8a, g8s, g8z]; rfl) (by kernel_rfl) (by kernel_rfl) (by kernel_rfl) (by exact fun _ _ _ h => h) (Or.inl ⟨by rfl, ?_⟩) (by assumption) ?_
        rotate_left 1
        · (intro w hSw; (try dsimp only at hSw); go_simp; try with_reducible rfl)
        all_goals ((try simp only [Act.put]); try simp only [g8b, g8c, g8d])
        refine wpAnyH_take (i := 3) (oi := _) (v := ?_) (by simp only [g8a, g8s, g8z]; rfl) (by kernel_rfl) (by kernel_rfl) (by kernel_rfl) (by exact fun _ _ _ h => h) (Or.inl ⟨by rfl, ?_⟩) (by assumption) ?_
        rotate_left 1
        · (intro w hSw; (try dsimp only at hSw); go_simp; try with_reducible rfl)
        all_goals ((try simp only [Act.put]); try simp only [g8b, g8c, g8d])
        refine wpAnyH_take (i := 5) (oi := _) (v := ?_) (by simp only [g8a, g8s, g8z]; rfl) (by kernel_rfl) (by kernel_rfl) (by kernel_rfl) (by exact fun _ _ _ h => h) (Or.inl ⟨by rfl, ?_⟩) (by assumption) ?_
        rotate_left 1
        · (intro w hSw; (try dsimp only at hSw); go_simp; try with_reducible rfl)
        all_goals ((try simp only [Act.put]); try simp only [g8b, g8c, g8d])
        refine wpAnyH_take (i := 6) (oi := _) (v := ?_) (by simp only [g8a, g8s, g8z]; rfl) (by kernel_rfl) (by kernel_rfl) (by kernel_rfl) (by exact fun _ _ _ h => h) (Or.inl ⟨by rfl, ?_⟩) (by assumption) ?_
        rotate_left 1
        · (intro w hSw; (try dsimp only at hSw); go_simp; try with_reducible rfl)
        all_goals ((try simp only [Act.put]); try simp only [g8b, g8c, g8d])
        refine wpAnyH_take (i := 7) (oi := _) (v := ?_) (by simp only [g8a, g8s, g8z]; rfl) (by kernel_rfl) (by kernel_rfl) (by kernel_rfl) (by exact fun _ _ _ h => h) (Or.inl ⟨by rfl, ?_⟩) (by assumption) ?_
        rotate_left 1
        · (intro w hSw; (try dsimp only at hSw); go_simp; try with_reducible rfl)
        all_goals ((try simp only [Act.put]); try simp only [g8b, g8c, g8d])
        refine wpAnyH_take (i := 12) (oi := _) (v := ?_) (by simp only [g8a, g8s, g8z]; rfl) (by kernel_rfl) (by kernel_rfl) (by kernel_rfl) (by exact fun _ _ _ h => h) (Or.inl ⟨by rfl, ?_⟩) (by assumption) ?_
        rotate_left 1
        · (intro w hSw; (try dsimp only at hSw); go_simp; try with_reducible rfl)
        all_goals ((try simp only [Act.put]); try simp only [g8b, g8c, g8d])
        refine wpAnyH_ready (rs := [4]) (by kernel_rfl) (by simp) ?_
        refine (AllReadyH.cons (by simp only [g8a, g8s, g8z]; rfl) (fun K hK => ?_) AllReadyH.nil)
        rw [if_pos (by rfl)]
        go_simp
        refine (bent9_any w.heap.size AP BP nP cP mP dP fP rP qP _ (by exact E.out.s) (by exact PRV.out.inn.x.ints) (by exact PRV.out.inn.l) HAP.out (by omega) FITP.out.2.1 (by omega)).mono ?_
        rintro e wa ⟨ka, ra, qa, Aa, na, ca, Ba, ma, da, hn8, hm8, hc8, rfl, hI8, hJ8, hA8, hB8, hS8, hk8⟩
        replace E := Lib.hid (E.out.kept hS8 hk8)
        replace IV := Lib.hid (ints_keptV IV.out NV.out hk8)
        replace RAW := Lib.hid (RAW.out.kept hk8)
        replace PRV := Lib.hid (PRV.out.kept hk8)
        try (replace V1 := Lib.hid (V1.out.kept hk8))
        try (replace V2 := Lib.hid (V2.out.kept hk8))
        have V1 := Lib.hid (show (CtR.mk ⟨Aa, na, ca, ka⟩ ra Ba ma da qa).In w.heap.size wa from ⟨⟨hI8, fun _ => hA8⟩, hJ8, fun _ => hB8⟩)
        have FV1 := Lib.hid (show (CtR.mk ⟨Aa, na, ca, ka⟩ ra Ba ma da qa).Fit ∧ (∀ b off s, Aa = some ⟨b, off, s⟩ → b ≠ w.heap.size) ∧ ma ≤ 1101 from ⟨⟨hn8, hc8, by show ma ≤ 1200; omega⟩, hA8, by omega⟩)
        clear hI8 hJ8 hS8 hk8 hm8 hc8 hA8 hB8 hn8 hHeld
        clear s0 s1 s2 s3 s4 hls t0 t1 t2 t3 t4 hlt
        obtain ⟨⟨s0, s1, s2, s3, s4⟩, _, hls⟩ := RAW.out.blk.q5
        obtain ⟨⟨t0, t1, t2, t3, t4⟩, _, hlt⟩ := PRV.out.blk.q5
        dsimp only at s0 s1 s2 s3 s4 t0 t1 t2 t3 t4
        refine hK.out _ _ (by exact ⟨⟨s0, s1, s2, s3, s4⟩, t0, t1, t2, t3, t4⟩) (fun hHeld => ?_)
        clear hK K
        (try simp only [Act.put]); try simp only [g8b, g8c, g8d]
        refine wpAnyH_ready (rs := [8]) (by kernel_rfl) (by simp) ?_
        refine (AllReadyH.cons (by simp only [g8a, g8s, g8z]; rfl) (fun K hK => ?_) AllReadyH.nil)
        rw [if_pos (by rfl)]
        go_simp
        refine (bent9_any w.heap.size AP BP nP cP mP dP fP rP qP _ (by exact E.out.s) (by exact PRV.out.inn.x.ints) (by exact PRV.out.inn.l) HAP.out (by omega) FITP.out.2.1 (by omega)).mono ?_
        rintro e wb ⟨kb, rb, qb, Ab, nb, cb, Bb, mb, db, hn8, hm8, hc8, rfl, hI8, hJ8, hA8, hB8, hS8, hk8⟩
        replace E := Lib.hid (E.out.kept hS8 hk8)
        replace IV := Lib.hid (ints_keptV IV.out NV.out hk8)
        replace RAW := Lib.hid (RAW.out.kept hk8)
        replace PRV := Lib.hid (PRV.out.kept hk8)
        try (replace V1 := Lib.hid (V1.out.kept hk8))
        try (replace V2 := Lib.hid (V2.out.kept hk8))
        have V2 := Lib.hid (show (CtR.mk ⟨Ab, nb, cb, kb⟩ rb Bb mb db qb).In w.heap.size wb from ⟨⟨hI8, fun _ => hA8⟩, hJ8, fun _ => hB8⟩)
        have FV2 := Lib.hid (show (CtR.mk ⟨Ab, nb, cb, kb⟩ rb Bb mb db qb).Fit ∧ (∀ b off s, Ab = some ⟨b, off, s⟩ → b ≠ w.heap.size) ∧ mb ≤ 1101 from ⟨⟨hn8, hc8, by show mb ≤ 1200; omega⟩, hA8, by omega⟩)
        clear hI8 hJ8 hS8 hk8 hm8 hc8 hA8 hB8 hn8 hHeld
        clear s0 s1 s2 s3 s4 hls t0 t1 t2 t3 t4 hlt
        obtain ⟨⟨s0, s1, s2, s3, s4⟩, _, hls⟩ := RAW.out.blk.q5
        obtain ⟨⟨t0, t1, t2, t3, t4⟩, _, hlt⟩ := PRV.out.blk.q5
        dsimp only at s0 s1 s2 s3 s4 t0 t1 t2 t3 t4
        refine hK.out _ _ (by exact ⟨⟨s0, s1, s2, s3, s4⟩, t0, t1, t2, t3, t4⟩) (fun hHeld => ?_)
        clear hK K
        (try simp only [Act.put]); try simp only [g8b, g8c, g8d]
        refine wpAnyH_ready (rs := [9]) (by kernel_rfl) (by simp) ?_
        refine (AllReadyH.cons (by simp only [g8a, g8s, g8z]; rfl) (fun K hK => ?_) AllReadyH.nil)
        rw [if_pos (by rfl)]
        go_simp
        have hq1 := FV2.out.2.2; have hq2 := FV2.out.1.1; have hq3 := FV2.out.1.2.1
        dsimp only at hq2 hq3
        refine (bent9_any w.heap.size Ab Bb nb cb mb db kb rb qb _ (by exact E.out.s) (by exact V2.out.x.ints) (by exact V2.out.l) FV2.out.2.1 hq2 hq3 (by omega)).mono ?_
        rintro e wc ⟨kc, rc, qc, Ac, nc, cc, Bc, mc, dc, hn8, hm8, hc8, rfl, hI8, hJ8, hA8, hB8, hS8, hk8⟩
        replace E := Lib.hid (E.out.kept hS8 hk8)
        replace IV := Lib.hid (ints_keptV IV.out NV.out hk8)
        replace RAW := Lib.hid (RAW.out.kept hk8)
        replace PRV := Lib.hid (PRV.out.kept hk8)
        try (replace V1 := Lib.hid (V1.out.kept hk8))
        try (replace V2 := Lib.hid (V2.out.kept hk8))
        have V3 := Lib.hid (show (CtR.mk ⟨Ac, nc, cc, kc⟩ rc Bc mc dc qc).In w.heap.size wc from ⟨⟨hI8, fun _ => hA8⟩, hJ8, fun _ => hB8⟩)
        have FV3 := Lib.hid (show (CtR.mk ⟨Ac, nc, cc, kc⟩ rc Bc mc dc qc).Fit ∧ (∀ b off s, Ac = some ⟨b, off, s⟩ → b ≠ w.heap.size) ∧ mc ≤ 1102 from ⟨⟨hn8, hc8, by show mc ≤ 1200; omega⟩, hA8, by omega⟩)
        clear hI8 hJ8 hS8 hk8 hm8 hc8 hA8 hB8 hn8 hHeld
        clear s0 s1 s2 s3 s4 hls t0 t1 t2 t3 t4 hlt
        obtain ⟨⟨s0, s1, s2, s3, s4⟩, _, hls⟩ := RAW.out.blk.q5
        obtain ⟨⟨t0, t1, t2, t3, t4⟩, _, hlt⟩ := PRV.out.blk.q5
        dsimp only at s0 s1 s2 s3 s4 t0 t1 t2 t3 t4
        refine hK.out _ _ (by exact ⟨⟨s0, s1, s2, s3, s4⟩, t0, t1, t2, t3, t4⟩) (fun hHeld => ?_)
        clear hK K
        (try simp only [Act.put]); try simp only [g8b, g8c, g8d]
        clear hq1 hq2 hq3
        refine wpAnyH_ready (rs := [10]) (by kernel_rfl) (by simp) ?_
        refine (AllReadyH.cons (by simp only [g8a, g8s, g8z]; rfl) (fun K hK => ?_) AllReadyH.nil)
        rw [if_pos (by rfl)]
        go_simp
        clear hHeld
        have hbq := balloc wc (.cells #[.slice AP nP cP, .int .i64 fP.per, .int .i64 fP.inc, .int .i64 rP, .slice BP mP dP, .slice A0 n0 c0, .int .i64 p0, .int .i64 i0, .int .i64 fr0, .slice B0 m0 d0, .slice Aa na ca, .int .i64 ka.per, .int .i64 ka.inc, .int .i64 ra, .slice Ba ma da, .slice Ac nc cc, .int .i64 kc.per, .int .i64 kc.inc, .int .i64 rc, .slice Bc mc dc] 63)
        have VP := Lib.hid (PRV.out.inn.alloc (.cells #[.slice AP nP cP, .int .i64 fP.per, .int .i64 fP.inc, .int .i64 rP, .slice BP mP dP, .slice A0 n0 c0, .int .i64 p0, .int .i64 i0, .int .i64 fr0, .slice B0 m0 d0, .slice Aa na ca, .int .i64 ka.per, .int .i64 ka.inc, .int .i64 ra, .slice Ba ma da, .slice Ac nc cc, .int .i64 kc.per, .int .i64 kc.inc, .int .i64 rc, .slice Bc mc dc] 63)); have VR := Lib.hid (RAW.out.inn.alloc (.cells #[.slice AP nP cP, .int .i64 fP.per, .int .i64 fP.inc, .int .i64 rP, .slice BP mP dP, .slice A0 n0 c0, .int .i64 p0, .int .i64 i0, .int .i64 fr0, .slice B0 m0 d0, .slice Aa na ca, .int .i64 ka.per, .int .i64 ka.inc, .int .i64 ra, .slice Ba ma da, .slice Ac nc cc, .int .i64 kc.per, .int .i64 kc.inc, .int .i64 rc, .slice Bc mc dc] 63))
        replace V1 := Lib.hid (V1.out.alloc (.cells #[.slice AP nP cP, .int .i64 fP.per, .int .i64 fP.inc, .int .i64 rP, .slice BP mP dP, .slice A0 n0 c0, .int .i64 p0, .int .i64 i0, .int .i64 fr0, .slice B0 m0 d0, .slice Aa na ca, .int .i64 ka.per, .int .i64 ka.inc, .int .i64 ra, .slice Ba ma da, .slice Ac nc cc, .int .i64 kc.per, .int .i64 kc.inc, .int .i64 rc, .slice Bc mc dc] 63)); replace V3 := Lib.hid (V3.out.alloc (.cells #[.slice AP nP cP, .int .i64 fP.per, .int .i64 fP.inc, .int .i64 rP, .slice BP mP dP, .slice A0 n0 c0, .int .i64 p0, .int .i64 i0, .int .i64 fr0, .slice B0 m0 d0, .slice Aa na ca, .int .i64 ka.per, .int .i64 ka.inc, .int .i64 ra, .slice Ba ma da, .slice Ac nc cc, .int .i64 kc.per, .int .i64 kc.inc, .int .i64 rc, .slice Bc mc dc] 63))
        have hps := E.out.s.lt
        have ROW := Lib.hid (show RowC w.heap.size (wc.alloc (.cells #[.slice AP nP cP, .int .i64 fP.per, .int .i64 fP.inc, .int .i64 rP, .slice BP mP dP, .slice A0 n0 c0, .int .i64 p0, .int .i64 i0, .int .i64 fr0, .slice B0 m0 d0, .slice Aa na ca, .int .i64 ka.per, .int .i64 ka.inc, .int .i64 ra, .slice Ba ma da, .slice Ac nc cc, .int .i64 kc.per, .int .i64 kc.inc, .int .i64 rc, .slice Bc mc dc] 63)) wc.heap.size [⟨⟨AP, nP, cP, fP⟩, rP, BP, mP, dP, qP⟩, ⟨⟨A0, n0, c0, ⟨L0, p0, i0⟩⟩, fr0, B0, m0, d0, cs0⟩, ⟨⟨Aa, na, ca, ka⟩, ra, Ba, ma, da, qa⟩, ⟨⟨Ac, nc, cc, kc⟩, rc, Bc, mc, dc, qc⟩] from ⟨Blk.new _ _ _, (by
          intro x hx
          simp only [List.mem_cons, List.not_mem_nil, or_false] at hx
          rcases hx with rfl | rfl | rfl | rfl
          · exact VP.out
          · exact VR.out
          · exact V1.out
          · exact V3.out), Nat.ne_of_gt hps⟩)
        clear hps VP VR V1 V2 V3
        replace E := Lib.hid (E.out.below hbq); replace IV := Lib.hid (IV.out.ext hbq); replace RAW := Lib.hid (RAW.out.below hbq); replace PRV := Lib.hid (PRV.out.below hbq)
        generalize wc.alloc (.cells #[.slice AP nP cP, .int .i64 fP.per, .int .i64 fP.inc, .int .i64 rP, .slice BP mP dP, .slice A0 n0 c0, .int .i64 p0, .int .i64 i0, .int .i64 fr0, .slice B0 m0 d0, .slice Aa na ca, .int .i64 ka.per, .int .i64 ka.inc, .int .i64 ra, .slice Ba ma da, .slice Ac nc cc, .int .i64 kc.per, .int .i64 kc.inc, .int .i64 rc, .slice Bc mc dc] 63) = wf at *
        clear hbq
        clear s0 s1 s2 s3 s4 hls t0 t1 t2 t3 t4 hlt
        obtain ⟨⟨s0, s1, s2, s3, s4⟩, _, hls⟩ := RAW.out.blk.q5
        obtain ⟨⟨t0, t1, t2, t3, t4⟩, _, hlt⟩ := PRV.out.blk.q5
        dsimp only at s0 s1 s2 s3 s4 t0 t1 t2 t3 t4
        refine hK.out _ _ (by exact ⟨⟨s0, s1, s2, s3, s4⟩, t0, t1, t2, t3, t4⟩) (fun hHeld => ?_)
        clear hK K
        (try simp only [Act.put]); try simp only [g8b, g8c, g8d]
        refine wpAnyH_take (i := 11) (oi := _) (v := ?_) (by simp only [g8a, g8s, g8z]; rfl) (by kernel_rfl) (by kernel_rfl) (by kernel_rfl) (by exact fun _ _ _ h => h) (Or.inl ⟨by rfl, ?_⟩) (by assumption) ?_
        rotate_left 1
        · (intro w hSw; (try dsimp only at hSw); go_simp; try with_reducible rfl)
        all_goals ((try simp only [Act.put]); try simp only [g8b, g8c, g8d])
        refine wpAnyH_done (by kernel_rfl) ?_ _
        clear s0 s1 s2 s3 s4 hls t0 t1 t2 t3 t4 hlt
        go_wp2_with fail
        go_meet
        exact ⟨_, _, rfl, rfl, rfl, rfl, (by
          intro x hx
          simp only [List.mem_cons, List.not_mem_nil, or_false] at hx
          rcases hx with rfl | rfl | rfl | rfl
          · exact FITP.out
          · exact FIT0.out
          · exact FV1.out.1
          · exact FV3.out.1), E.out, IV.out, ROW.out⟩
      case rest =>
        obtain ⟨b, xs, rfl, rfl, rfl, hxl, hxf, hE, hH, hR⟩ := hcut
        clear E IV RAW PRV FITP HAP FIT0
        have E := Lib.hid hE; have IV := Lib.hid hH; have ROW := Lib.hid hR; have HXL := Lib.hid hxl; have HXF := Lib.hid hxf
        clear hE hH hR hxl hxf
        obtain ⟨bv, ov, hVe, _, _⟩ := IV.out.2 (by omega)
        subst hVe
        have hf1' := FIT1.out.1; have hf1c := FIT1.out.2
        go_wp2_with fail
        go_loopg [52] 4 (fun gg s52 wx => ∃ k : Nat, k + gg = 4 ∧ s52 = .int .i64 k ∧ EnvL w.heap.size w wx [(W.heap.size + 1, ⟨A1, n1, c1, ⟨L1, p1, i1⟩⟩), (Zf, ⟨A, n, c, f⟩)] ∧ Ints wx wx.heap.size (some ⟨bv, ov, none⟩) 100 (tab C 0 100) ∧ RowC w.heap.size wx b xs)
        case atStart => exact ⟨0, rfl, rfl, E.out, IV.out, ROW.out⟩
        case round =>
          clear E IV ROW
          obtain ⟨k, hkg, rfl, hE, hH, hR⟩ := hrel
          have E := Lib.hid hE; have IV := Lib.hid hH; have ROW := Lib.hid hR
          clear hE hH hR
          by_cases hk : k < 4
          case neg =>
            have hk5 : k = 4 := by omega
            subst hk5
            clear hk hkg
            go_wp2_with fail
            refine (awake9_any _).mono ?_
            rintro q wq ⟨rfl, hbq⟩
            have bw := bthen BW.out (E.out.below hbq).fin
            go_wp2_with fail
            go_ret
            exact ⟨rfl, bw⟩
          case pos =>
          have hki : (k : Int) < 4 := by omega
          obtain ⟨⟨⟨ZA, zn, zc, zf⟩, zr, ZB, zm, zd, zq⟩, hZm, hZi, k0, k1, k2, k3, k4⟩ := ROW.out.get (k := k) (by rw [HXL.out]; exact hk)
          dsimp only at k0 k1 k2 k3 k4
          have hlw := ROW.out.lt
          have hps := E.out.s.lt
          have HFZ := Lib.hid (HXF.out _ hZm)
          have hf1 := HFZ.out.1; have hf2 := HFZ.out.2.1; have hf3 := HFZ.out.2.2
          dsimp only at hf1 hf2 hf3
          have LZ := Lib.hid (LcC.new hZi hps)
          replace E := Lib.hid (E.out.alloc (.cells #[.slice ZA zn zc, .int .i64 zf.per, .int .i64 zf.inc, .int .i64 zr, .slice ZB zm zd] 63)); replace IV := Lib.hid (IV.out.alloc' (.cells #[.slice ZA zn zc, .int .i64 zf.per, .int .i64 zf.inc, .int .i64 zr, .slice ZB zm zd] 63)); replace ROW := Lib.hid (ROW.out.alloc (.cells #[.slice ZA zn zc, .int .i64 zf.per, .int .i64 zf.inc, .int .i64 zr, .slice ZB zm zd] 63))
          go_upto_region 10 with fail
          try dsimp only at LZ
          clear k0 k1 k2 k3 k4 hZi hZm hlw
          generalize hwe : wr.alloc (.cells #[.slice ZA zn zc, .int .i64 zf.per, .int .i64 zf.inc, .int .i64 zr, .slice ZB zm zd] 63) = wo at E IV ROW LZ ⊢
          clear hwe
          generalize wr.heap.size = ZX at LZ hps ⊢
          obtain ⟨go, hgo⟩ : ∃ go : Nat, go = gk := ⟨_, rfl⟩
          subst hgo
          obtain ⟨⟨x0, x1, x2, x3, x4⟩, _, hlx⟩ := LZ.out.blk.q5
          dsimp only at x0 x1 x2 x3 x4
          have RW := Lib.hid (show Row (wo.alloc (.cells #[.slice ZA zn zc, .int .i64 zf.per, .int .i64 zf.inc] 46)).heap.size (wo.alloc (.cells #[.slice ZA zn zc, .int .i64 zf.per, .int .i64 zf.inc] 46)) wo.heap.size [⟨ZA, zn, zc, zf⟩] from ⟨Blk.new _ _ _, (by
            intro x hx
            simp only [List.mem_singleton] at hx
            subst hx
            exact CR.In.old (LZ.out.inn.x.ints.alloc' _)), by rw [World.size_alloc]; omega⟩)
          have hbz := balloc wo (.cells #[.slice ZA zn zc, .int .i64 zf.per, .int .i64 zf.inc] 46)
          go_wp2_with fail
          refine (short9_any wo.heap.size 1 1 _ _ rfl (by omega) RW.out (by
            intro x hx
            simp only [List.mem_singleton] at hx
            subst hx
            show (zn : Int) ≤ 9223372036854775807
            omega)).mono ?_
          rintro e wq ⟨z, rfl, hz, hb⟩
          have BI := Lib.hid (bthen hbz hb)
          clear RW hbz hb hz x0 x1 x2 x3 x4 hlx
          cases z
          case false =>
            go_wp2_with fail
            go_roundg (go - 1)
            case measure => omega
            case rel => exact ⟨k + 1, by omega, by go_num, E.out.below BI.out, IV.out.ext BI.out, ROW.out.below BI.out⟩
          case true =>
          obtain ⟨s0, s1, s2, hls⟩ := ((E.out.below BI.out).get 0 rfl).cells
          obtain ⟨u0, u1, u2, hlu⟩ := ((E.out.below BI.out).get 1 rfl).cells
          obtain ⟨⟨x0, x1, x2, x3, x4⟩, _, hlx⟩ := (LZ.out.below BI.out).blk.q5
          dsimp only at s0 s1 s2 u0 u1 u2 x0 x1 x2 x3 x4
          go_wp2_with fail
          refine (clck_any A ZA ZB n c zn zc zm zd f zf zr zq _ (by exact ((E.out.below BI.out).get 1 rfl).inn.ints) (by exact (LZ.out.below BI.out).inn.x.ints) (by exact (LZ.out.below BI.out).inn.l) (by omega) (by omega) (by omega)).mono ?_
          rintro e wa ⟨⟨b1, hb1, rfl⟩, hb⟩
          have HQ1 := Lib.hid hb1
          replace BI := Lib.hid (bthen BI.out hb)
          clear hb
          clear hb1
          clear s0 s1 s2 hls u0 u1 u2 hlu x0 x1 x2 x3 x4 hlx
          go_upto_region 12 with fail
          replace BI := Lib.hid (Below.drew BI.out)
          obtain ⟨s0, s1, s2, hls⟩ := ((E.out.below BI.out).get 0 rfl).cells
          obtain ⟨u0, u1, u2, hlu⟩ := ((E.out.below BI.out).get 1 rfl).cells
          obtain ⟨⟨x0, x1, x2, x3, x4⟩, _, hlx⟩ := (LZ.out.below BI.out).blk.q5
          dsimp only at s0 s1 s2 u0 u1 u2 x0 x1 x2 x3 x4
          refine wp_region_held_drew (S := (fun w' => (w'.cell? ⟨W.heap.size + 1, 0, none⟩ = some (.slice A1 n1 c1) ∧ w'.cell? ⟨W.heap.size + 1, 1, none⟩ = some (.int .i64 p1) ∧ w'.cell? ⟨W.heap.size + 1, 2, none⟩ = some (.int .i64 i1)) ∧ (w'.cell? ⟨Zf, 0, none⟩ = some (.slice A n c) ∧ w'.cell? ⟨Zf, 1, none⟩ = some (.int .i64 f.per) ∧ w'.cell? ⟨Zf, 2, none⟩ = some (.int .i64 f.inc)) ∧ w'.cell? ⟨ZX, 0, none⟩ = some (.slice ZA zn zc) ∧ w'.cell? ⟨ZX, 1, none⟩ = some (.int .i64 zf.per) ∧ w'.cell? ⟨ZX, 2, none⟩ = some (.int .i64 zf.inc) ∧ w'.cell? ⟨ZX, 3, none⟩ = some (.int .i64 zr) ∧ w'.cell? ⟨ZX, 4, none⟩ = some (.slice ZB zm zd))) (by kernel_rfl) (by exact ⟨⟨s0, s1, s2⟩, ⟨u0, u1, u2⟩, x0, x1, x2, x3, x4⟩) (fun hHeld => ?_)
          clear s0 s1 s2 hls u0 u1 u2 hlu x0 x1 x2 x3 x4 hlx
          generalize hwd : wa.drew = wd at BI hHeld ⊢
          clear hwd
          obtain ⟨s0, s1, s2, hls⟩ := ((E.out.below BI.out).get 0 rfl).cells
          obtain ⟨u0, u1, u2, hlu⟩ := ((E.out.below BI.out).get 1 rfl).cells
          obtain ⟨⟨x0, x1, x2, x3, x4⟩, _, hlx⟩ := (LZ.out.below BI.out).blk.q5
          dsimp only at s0 s1 s2 u0 u1 u2 x0 x1 x2 x3 x4
          refine wpAnyH_take (i := 0) (oi := _) (v := ?_) (by simp only [g8a, g8z]; rfl) (by kernel_rfl) (by kernel_rfl) (by kernel_rfl) (by exact fun _ _ _ h => h) (Or.inl ⟨by rfl, ?_⟩) (by assumption) ?_
          rotate_left 1
          · (intro w hSw; (try dsimp only at hSw); go_simp; try with_reducible rfl)
          all_goals ((try simp only [Act.put]); try simp only [g8b, g8c, g8d])
          refine wpAnyH_take (i := 1) (oi := _) (v := ?_) (by simp only [g8a, g8s, g8z]; rfl) (by kernel_rfl) (by kernel_rfl) (by kernel_rfl) (by exact fun _ _ _ h => h) (Or.inl ⟨by rfl, ?_⟩) (by assumption) ?_
          rotate_left 1
          · (intro w hSw; (try dsimp only at hSw); go_simp; try with_reducible rfl)
          all_goals ((try simp only [Act.put]); try simp only [g8b, g8c, g8d])
          refine wpAnyH_take (i := 2) (oi := _) (v := ?_) (by simp only [g8a, g8s, g8z]; rfl) (by kernel_rfl) (by kernel_rfl) (by kernel_rfl) (by exact fun _ _ _ h => h) (Or.inl ⟨by rfl, ?_⟩) (by assumption) ?_
          rotate_left 1
          · (intro w hSw; (try dsimp only at hSw); go_simp; try with_reducible rfl)
          all_goals ((try simp only [Act.put]); try simp only [g8b, g8c, g8d])
          refine wpAnyH_ready (rs := [3]) (by kernel_rfl) (by simp) ?_
          refine (AllReadyH.cons (by simp only [g8a, g8s, g8z]; rfl) (fun K hK => ?_) AllReadyH.nil)
          rw [if_pos (by rfl)]
          go_simp
          refine (check9_any A ZA ZB n c zn zc zm zd f zf zr zq _ (by exact ((E.out.below BI.out).get 1 rfl).inn.ints) (by exact (LZ.out.below BI.out).inn.x.ints) (by exact (LZ.out.below BI.out).inn.l) hcf hf2 (by omega) (by omega) (by omega)).mono ?_
          rintro e wb ⟨⟨b2, hb2, rfl⟩, hb⟩
          obtain rfl := Bool.eq_iff_iff.2 (hb2.trans HQ1.out.symm)
          replace BI := Lib.hid (bthen BI.out hb)
          clear hb
          clear hb2 hHeld
          clear s0 s1 s2 hls u0 u1 u2 hlu x0 x1 x2 x3 x4 hlx
          obtain ⟨s0, s1, s2, hls⟩ := ((E.out.below BI.out).get 0 rfl).cells
          obtain ⟨u0, u1, u2, hlu⟩ := ((E.out.below BI.out).get 1 rfl).cells
          obtain ⟨⟨x0, x1, x2, x3, x4⟩, _, hlx⟩ := (LZ.out.below BI.out).blk.q5
          dsimp only at s0 s1 s2 u0 u1 u2 x0 x1 x2 x3 x4
          refine hK.out _ _ (by exact ⟨⟨s0, s1, s2⟩, ⟨u0, u1, u2⟩, x0, x1, x2, x3, x4⟩) (fun hHeld => ?_)
          clear hK K
          (try simp only [Act.put]); try simp only [g8b, g8c, g8d]
          have g2 : (b2 != b2) = false := by simp
          refine wpAnyH_take (i := 4) (oi := _) (v := ?_) (by simp only [g8a, g8s, g8z]; rfl) (by kernel_rfl) (by kernel_rfl) (by kernel_rfl) (by exact fun _ _ _ h => h) (Or.inl ⟨by rfl, ?_⟩) (by assumption) ?_
          rotate_left 1
          · (intro w hSw; (try dsimp only at hSw); go_simp; try with_reducible rfl)
          all_goals ((try simp only [Act.put]); try simp only [g8b, g8c, g8d])
          refine wpAnyH_take (i := 5) (oi := _) (v := ?_) (by simp only [g8a, g8s, g8z]; rfl) (by kernel_rfl) (by kernel_rfl) (by kernel_rfl) (by exact fun _ _ _ h => h) (Or.inl ⟨by rfl, ?_⟩) (by assumption) ?_
          rotate_left 1
          · (intro w hSw; (try dsimp only at hSw); go_simp; try with_reducible rfl)
          all_goals ((try simp only [Act.put]); try simp only [g8b, g8c, g8d])
          refine wpAnyH_take (i := 6) (oi := _) (v := ?_) (by simp only [g8a, g8s, g8z]; rfl) (by kernel_rfl) (by kernel_rfl) (by kernel_rfl) (by exact fun _ _ _ h => h) (Or.inl ⟨by rfl, ?_⟩) (by assumption) ?_
          rotate_left 1
          · (intro w hSw; (try dsimp only at hSw); go_simp; try with_reducible rfl)
          all_goals ((try simp only [Act.put]); try simp only [g8b, g8c, g8d])
          refine wpAnyH_take (i := 7) (oi := _) (v := ?_) (by simp only [g8a, g8s, g8z]; rfl) (by kernel_rfl) (by kernel_rfl) (by kernel_rfl) (by exact fun _ _ _ h => h) (Or.inl ⟨by rfl, ?_⟩) (by assumption) ?_
          rotate_left 1
          · (intro w hSw; (try dsimp only at hSw); go_simp; try with_reducible rfl)
          all_goals ((try simp only [Act.put]); try simp only [g8b, g8c, g8d])
          refine wpAnyH_take (i := 9) (oi := _) (v := ?_) (by simp only [g8a, g8s, g8z]; rfl) (by kernel_rfl) (by kernel_rfl) (by kernel_rfl) (by exact fun _ _ _ h => h) (Or.inl ⟨by rfl, ?_⟩) (by assumption) ?_
          rotate_left 1
          · (intro w hSw; (try dsimp only at hSw); go_simp; try with_reducible rfl)
          all_goals ((try simp only [Act.put]); try simp only [g8b, g8c, g8d])
          refine wpAnyH_take (i := 10) (oi := _) (v := ?_) (by simp only [g8a, g8s, g8z]; rfl) (by kernel_rfl) (by kernel_rfl) (by kernel_rfl) (by exact fun _ _ _ h => h) (Or.inl ⟨by rfl, ?_⟩) (by assumption) ?_
          rotate_left 1
          · (intro w hSw; (try dsimp only at hSw); go_simp; try with_reducible rfl)
          all_goals ((try simp only [Act.put]); try simp only [g8b, g8c, g8d])
          refine wpAnyH_ready (rs := [8]) (by kernel_rfl) (by simp) ?_
          refine (AllReadyH.cons (by simp only [g8a, g8s, g8z]; rfl) (fun K hK => ?_) AllReadyH.nil)
          rw [if_pos (by rfl)]
          go_simp
          refine (clck_any A1 ZA ZB n1 c1 zn zc zm zd ⟨L1, p1, i1⟩ zf zr zq _ (by exact ((E.out.below BI.out).get 0 rfl).inn.ints) (by exact (LZ.out.below BI.out).inn.x.ints) (by exact (LZ.out.below BI.out).inn.l) (by omega) (by omega) (by omega)).mono ?_
          rintro e wx ⟨⟨b3, hb3, rfl⟩, hb⟩
          have HQ3 := Lib.hid hb3
          replace BI := Lib.hid (bthen BI.out hb)
          clear hb
          clear hb3 hHeld
          clear s0 s1 s2 hls u0 u1 u2 hlu x0 x1 x2 x3 x4 hlx
          obtain ⟨s0, s1, s2, hls⟩ := ((E.out.below BI.out).get 0 rfl).cells
          obtain ⟨u0, u1, u2, hlu⟩ := ((E.out.below BI.out).get 1 rfl).cells
          obtain ⟨⟨x0, x1, x2, x3, x4⟩, _, hlx⟩ := (LZ.out.below BI.out).blk.q5
          dsimp only at s0 s1 s2 u0 u1 u2 x0 x1 x2 x3 x4
          refine hK.out _ _ (by exact ⟨⟨s0, s1, s2⟩, ⟨u0, u1, u2⟩, x0, x1, x2, x3, x4⟩) (fun hHeld => ?_)
          clear hK K
          (try simp only [Act.put]); try simp only [g8b, g8c, g8d]
          refine wpAnyH_ready (rs := [11]) (by kernel_rfl) (by simp) ?_
          refine (AllReadyH.cons (by simp only [g8a, g8s, g8z]; rfl) (fun K hK => ?_) AllReadyH.nil)
          rw [if_pos (by rfl)]
          go_simp
          refine (check9_any A1 ZA ZB n1 c1 zn zc zm zd ⟨L1, p1, i1⟩ zf zr zq _ (by exact ((E.out.below BI.out).get 0 rfl).inn.ints) (by exact (LZ.out.below BI.out).inn.x.ints) (by exact (LZ.out.below BI.out).inn.l) hf1c hf2 (by omega) (by omega) (by omega)).mono ?_
          rintro e wy ⟨⟨b4, hb4, rfl⟩, hb⟩
          obtain rfl := Bool.eq_iff_iff.2 (hb4.trans HQ3.out.symm)
          replace BI := Lib.hid (bthen BI.out hb)
          clear hb
          clear hb4 HQ3 hHeld
          clear s0 s1 s2 hls u0 u1 u2 hlu x0 x1 x2 x3 x4 hlx
          obtain ⟨s0, s1, s2, hls⟩ := ((E.out.below BI.out).get 0 rfl).cells
          obtain ⟨u0, u1, u2, hlu⟩ := ((E.out.below BI.out).get 1 rfl).cells
          obtain ⟨⟨x0, x1, x2, x3, x4⟩, _, hlx⟩ := (LZ.out.below BI.out).blk.q5
          dsimp only at s0 s1 s2 u0 u1 u2 x0 x1 x2 x3 x4
          refine hK.out _ _ (by exact ⟨⟨s0, s1, s2⟩, ⟨u0, u1, u2⟩, x0, x1, x2, x3, x4⟩) (fun hHeld => ?_)
          clear hK K
          (try simp only [Act.put]); try simp only [g8b, g8c, g8d]
          have g4 : (b4 != b4) = false := by simp
          refine wpAnyH_take (i := 12) (oi := _) (v := ?_) (by simp only [g8a, g8s, g8z]; rfl) (by kernel_rfl) (by kernel_rfl) (by kernel_rfl) (by exact fun _ _ _ h => h) (Or.inl ⟨by rfl, ?_⟩) (by assumption) ?_
          rotate_left 1
          · (intro w hSw; (try dsimp only at hSw); go_simp; try with_reducible rfl)
          all_goals ((try simp only [Act.put]); try simp only [g8b, g8c, g8d])
          refine wpAnyH_take (i := 13) (oi := _) (v := ?_) (by simp only [g8a, g8s, g8z]; rfl) (by kernel_rfl) (by kernel_rfl) (by kernel_rfl) (by exact fun _ _ _ h => h) (Or.inl ⟨by rfl, ?_⟩) (by assumption) ?_
          rotate_left 1
          · (intro w hSw; (try dsimp only at hSw); go_simp; try with_reducible rfl)
          all_goals ((try simp only [Act.put]); try simp only [g8b, g8c, g8d])
          refine wpAnyH_done (by kernel_rfl) ?_ _
          clear hHeld g2 g4
          clear s0 s1 s2 hls u0 u1 u2 hlu x0 x1 x2 x3 x4 hlx
          cases b2
          case false =>
            go_wp2_with fail
            go_loopg [15] 0 (fun gg s15 wx => s15 = .int .i64 0 ∧ wx = wy)
            case atStart => exact ⟨rfl, rfl⟩
            case round =>
              obtain ⟨rfl, rfl⟩ := hrel
              go_wp2_with fail
              go_roundg (go - 1)
              case measure => omega
              case rel => exact ⟨k + 1, by omega, by go_num, E.out.below BI.out, IV.out.ext BI.out, ROW.out.below BI.out⟩
          case true =>
            have CKZ := Lib.hid (HQ1.out.1 rfl)
            have ZO := Lib.hid CKZ.out.2.1
            have z1 := ZO.out.p1; have z2 := ZO.out.pn; have z3 := ZO.out.i1; have z4 := ZO.out.i2
            have hzl : zf.vals.length = zn := LZ.out.inn.x.ints.1
            rw [hzl] at z2
            clear hzl
            go_wp2_with fail
            go_loopg [15] 100 (fun gg s15 wx => ∃ t : Nat, t + gg = 100 ∧ s15 = .int .i64 t ∧ Below wo.heap.size wo wx)
            case atStart => exact ⟨0, rfl, rfl, BI.out⟩
            case round =>
              clear BI
              obtain ⟨t, htg, rfl, hBI⟩ := hrel
              have BI := Lib.hid hBI
              clear hBI
              by_cases ht : t < 100
              case neg =>
                have hti : ¬ (t : Int) < 100 := by omega
                go_wp2_with fail
                go_roundg (go - 1)
                case measure => omega
                case rel => exact ⟨k + 1, by omega, by go_num, E.out.below BI.out, IV.out.ext BI.out, ROW.out.below BI.out⟩
              case pos =>
                have hti : (t : Int) < 100 := by omega
                obtain ⟨v, hv⟩ : ∃ v, v = C t := ⟨_, rfl⟩
                have HVZ := Lib.hid (show v = zf.at t from by rw [hv, HC.out]; exact (ck_clo CKZ.out t (by omega)).symm)
                have cv := icell9 (IV.out.ext BI.out) ht
                rw [← hv] at cv
                obtain ⟨cv, hbv⟩ := cv
                have CV := Lib.hid cv
                obtain ⟨⟨x0, x1, x2, x3, x4⟩, _, hlx⟩ := (LZ.out.below BI.out).blk.q5
                dsimp only at x0 x1 x2 x3 x4
                go_upto_region 17 with fail
                replace BI := Lib.hid (Below.drew BI.out)
                refine wp_region_held_drew (S := (fun w' => w'.cell? ⟨ZX, 0, none⟩ = some (.slice ZA zn zc) ∧ w'.cell? ⟨ZX, 1, none⟩ = some (.int .i64 zf.per) ∧ w'.cell? ⟨ZX, 2, none⟩ = some (.int .i64 zf.inc) ∧ w'.cell? ⟨bv, ov + t, none⟩ = some (.int .i64 v))) (by kernel_rfl) (by exact ⟨x0, x1, x2, cv⟩) (fun hHeld => ?_)
                clear x0 x1 x2 x3 x4 hlx cv hv
                have cv : wr.drew.cell? ⟨bv, ov + t, none⟩ = some (.int .i64 v) := CV.out
                have hbv : bv < wr.drew.heap.size := hbv
                clear CV
                generalize hwd : wr.drew = wd at BI hHeld cv hbv ⊢
                clear hwd
                obtain ⟨⟨x0, x1, x2, x3, x4⟩, _, hlx⟩ := (LZ.out.below BI.out).blk.q5
                dsimp only at x0 x1 x2 x3 x4
                refine wpAnyH_take (i := 0) (oi := _) (v := ?_) (by simp only [g8a, g8z]; rfl) (by kernel_rfl) (by kernel_rfl) (by kernel_rfl) (by exact fun _ _ _ h => h) (Or.inl ⟨by rfl, ?_⟩) (by assumption) ?_
                rotate_left 1
                · (intro w hSw; (try dsimp only at hSw); go_simp; try with_reducible rfl)
                all_goals ((try simp only [Act.put]); try simp only [g8b, g8c, g8d])
                refine wpAnyH_take (i := 1) (oi := _) (v := ?_) (by simp only [g8a, g8s, g8z]; rfl) (by kernel_rfl) (by kernel_rfl) (by kernel_rfl) (by exact fun _ _ _ h => h) (Or.inl ⟨by rfl, ?_⟩) (by assumption) ?_
                rotate_left 1
                · (intro w hSw; (try dsimp only at hSw); go_simp; try with_reducible rfl)
                all_goals ((try simp only [Act.put]); try simp only [g8b, g8c, g8d])
                refine wpAnyH_take (i := 2) (oi := _) (v := ?_) (by simp only [g8a, g8s, g8z]; rfl) (by kernel_rfl) (by kernel_rfl) (by kernel_rfl) (by exact fun _ _ _ h => h) (Or.inl ⟨by rfl, ?_⟩) (by assumption) ?_
                rotate_left 1
                · (intro w hSw; (try dsimp only at hSw); go_simp; try with_reducible rfl)
                all_goals ((try simp only [Act.put]); try simp only [g8b, g8c, g8d])
                refine wpAnyH_take (i := 4) (oi := _) (v := ?_) (by simp only [g8a, g8s, g8z]; rfl) (by kernel_rfl) (by kernel_rfl) (by kernel_rfl) (by exact fun _ _ _ h => h) (Or.inl ⟨by rfl, ?_⟩) (by assumption) ?_
                rotate_left 1
                · (intro w hSw; (try dsimp only at hSw); go_simp; try with_reducible rfl)
                all_goals ((try simp only [Act.put]); try simp only [g8b, g8c, g8d])
                refine wpAnyH_take (i := 5) (oi := _) (v := ?_) (by simp only [g8a, g8s, g8z]; rfl) (by kernel_rfl) (by kernel_rfl) (by kernel_rfl) (by exact fun _ _ _ h => h) (Or.inl ⟨by rfl, ?_⟩) (by assumption) ?_
                rotate_left 1
                · (intro w hSw; (try dsimp only at hSw); go_simp; try with_reducible rfl)
                all_goals ((try simp only [Act.put]); try simp only [g8b, g8c, g8d])
                refine wpAnyH_take (i := 6) (oi := _) (v := ?_) (by simp only [g8a, g8s, g8z]; rfl) (by kernel_rfl) (by kernel_rfl) (by kernel_rfl) (by exact fun _ _ _ h => h) (Or.inl ⟨by rfl, ?_⟩) (by assumption) ?_
                rotate_left 1
                · (intro w hSw; (try dsimp only at hSw); go_simp; try with_reducible rfl)
                all_goals ((try simp only [Act.put]); try simp only [g8b, g8c, g8d])
                refine wpAnyH_take (i := 7) (oi := _) (v := ?_) (by simp only [g8a, g8s, g8z]; rfl) (by kernel_rfl) (by kernel_rfl) (by kernel_rfl) (by exact fun _ _ _ h => h) (Or.inl ⟨by rfl, ?_⟩) (by assumption) ?_
                rotate_left 1
                · (intro w hSw; (try dsimp only at hSw); go_simp; try with_reducible rfl)
                all_goals ((try simp only [Act.put]); try simp only [g8b, g8c, g8d])
                refine wpAnyH_ready (rs := [3]) (by kernel_rfl) (by simp) ?_
                refine (AllReadyH.cons (by simp only [g8a, g8s, g8z]; rfl) (fun K hK => ?_) AllReadyH.nil)
                rw [if_pos (by rfl)]
                go_simp
                refine (refAt_any ZA zn zc zf.per zf.inc (t : Int) zf.vals _ (by exact (LZ.out.below BI.out).inn.x.ints) (by omega) (by omega) (by omega) (by omega) (by omega) ZO.out.nn (by omega) (by omega)).mono ?_
                rw [Int.toNat_natCast, ← HVZ.out]
                rintro e wj ⟨rfl, hb⟩
                have cv2 := (hb.cell (p := ⟨bv, ov + t, none⟩) hbv).trans cv
                replace BI := Lib.hid (bthen BI.out hb)
                clear hb
                clear hHeld x0 x1 x2 x3 x4 hlx cv hbv
                obtain ⟨⟨x0, x1, x2, x3, x4⟩, _, hlx⟩ := (LZ.out.below BI.out).blk.q5
                dsimp only at x0 x1 x2 x3 x4
                refine hK.out _ _ (by exact ⟨x0, x1, x2, cv2⟩) (fun hHeld => ?_)
                clear hK K
                (try simp only [Act.put]); try simp only [g8b, g8c, g8d]
                have gv : (v != v) = false := by simp
                refine wpAnyH_take (i := 8) (oi := _) (v := ?_) (by simp only [g8a, g8s, g8z]; rfl) (by kernel_rfl) (by kernel_rfl) (by kernel_rfl) (by exact fun _ _ _ h => h) (Or.inl ⟨by rfl, ?_⟩) (by assumption) ?_
                rotate_left 1
                · (intro w hSw; (try dsimp only at hSw); go_simp; try with_reducible rfl)
                all_goals ((try simp only [Act.put]); try simp only [g8b, g8c, g8d])
                refine wpAnyH_done (by kernel_rfl) ?_ _
                clear hHeld x0 x1 x2 x3 x4 hlx cv2 gv
                go_wp2_with fail
                go_roundg (gk - 1)
                case measure => omega
                case rel => exact ⟨t + 1, by omega, by go_num, BI.out⟩
end Go.Proofs.Ythdibkmjoiipgaa
