/- The statement PointwisePairs: the walk. -/
import Derived.Test.YtmieikfmbnaoaaaAwake5
import Derived.Test.YtmieikfmbnaoaaaEnvL2
import Derived.Test.YtmieikfmbnaoaaaBent
import Derived.Test.YtmieikfmbnaoaaaRefMM
import Derived.Test.YtmieikfmbnaoaaaRefSame
import Derived.Test.YtmieikfmbnaoaaaPwChooseX
import Derived.Deep.LoopGhost
import Derived.Deep.RegionHeld3
import Derived.Deep.DeepCutAuto
namespace Go.Proofs.Ytmieikfmbnaoaaa
open Go.RowKit
set_option linter.unusedVariables false

theorem MadeS.len {h : Nat → Int} {r : Cv} {er : Int} (m : MadeS h r er) : r.vals.length ≤ 400 := by
  obtain ⟨g, hg, ⟨hl, rfl, _⟩ | ⟨_, rfl, _⟩⟩ := m
  · exact hl.1
  · decide
theorem MadeL.len {h : Nat → Int} {r : Cv} {er : Int} (m : MadeL h r er) : r.vals.length ≤ 400 := by
  rcases m with ⟨_, hl, _⟩ | ⟨_, rfl, _⟩
  · exact hl.1
  · decide
theorem SumS.len {f g r : Cv} {er : Int} (h : SumS f g r er) : r.vals.length ≤ 400 := by
  rcases h with ⟨_, rfl, _⟩ | ⟨_, _, a, b, _, _, ⟨_, rfl, _⟩ | ⟨_, h⟩⟩
  · decide
  · decide
  · exact MadeS.len (h := sumV a b) h
theorem ExtS.len {l : Bool} {f g r : Cv} {er : Int} (h : ExtS l f g r er) : r.vals.length ≤ 400 := by
  rcases h with ⟨_, rfl, _⟩ | ⟨_, _, a, b, _, _, ⟨_, rfl, _⟩ | ⟨_, h⟩⟩
  · decide
  · decide
  · exact MadeL.len (h := exV l a b) h
theorem EnvL.add {p F : Nat} {w0 w : World} {vs : List (Nat × CR)} {X : CR} (h : EnvL p w0 w vs) (hx : Lc p w F X) : EnvL p w0 w (vs ++ [(F, X)]) := ⟨h.s, h.k, fun x hx' => by
  rcases List.mem_append.1 hx' with hx' | hx'
  · exact h.v x hx'
  · simp only [List.mem_singleton] at hx'
    subst hx'
    exact hx⟩
theorem Blk.far3d {w : World} {g h : Nat} {t : TypeId} {cs : Array Value} (H : Blk w h t cs) (hne : h ≠ g) (x y z : Value) : Blk (((w.setCell ⟨g, 0, none⟩ x).setCell ⟨g, 1, none⟩ y).setCell ⟨g, 2, none⟩ z) h t cs :=
  ((H.far (p := ⟨g, 0, none⟩) hne x).far (p := ⟨g, 1, none⟩) hne y).far (p := ⟨g, 2, none⟩) hne z
theorem b3sd {B : Nat} {w0 w : World} (h : Below B w0 w) {g : Nat} (hg : B ≤ g) (x y z : Value) : Below B w0 (((w.setCell ⟨g, 0, none⟩ x).setCell ⟨g, 1, none⟩ y).setCell ⟨g, 2, none⟩ z) := ((h.setCell (by simpa using hg) x).setCell (by simpa using hg) y).setCell (by simpa using hg) z
/-- a curve that may be handed on -/
def CR.Fit (x : CR) : Prop := x.n ≤ 1000 ∧ x.n ≤ x.c
theorem long_len {f g : Cv} {v : Int} (hf : f.vals.length ≤ 20) (hp0 : 1 ≤ f.per) (hp : f.per ≤ 20) (hv : v ≤ 30) (h : LongerS f (0 : Int).toNat v.toNat g) : g.vals.length ≤ 1000 := by
  rcases h with ⟨_, rfl⟩ | ⟨_, _, _, h⟩
  · omega
  · rw [h, tab_length]
    have : (v.toNat - 1) * f.per.toNat ≤ 29 * 20 := Nat.mul_le_mul (by omega) (by omega)
    omega
set_option maxHeartbeats 8000000 in
set_option maxRecDepth 100000 in
theorem pairsLaw_any (A1 : Option Addr) (n1 c1 : Nat) (p1 i1 : Int) (L1 : List Int) (A2 : Option Addr) (n2 c2 : Nat) (p2 i2 : Int) (L2 : List Int) (A0 : Option Addr) (n0 c0 : Nat) (L : List Int) (W : World)
    (hI1 : Ints W W.heap.size A1 n1 L1) (hc1 : n1 ≤ c1) (hn1 : (n1 : Int) ≤ 9223372036854775807) (hI2 : Ints W W.heap.size A2 n2 L2) (hc2 : n2 ≤ c2) (hn2 : (n2 : Int) ≤ 9223372036854775807) (hL0 : Ints W W.heap.size A0 n0 L) (hc0 : n0 ≤ c0) (hn0 : (n0 : Int) ≤ 9223372036854775807) :
    Calls Try.prog 7 #[.agg #[.slice A1 n1 c1, .int .i64 p1, .int .i64 i1], .agg #[.slice A2 n2 c2, .int .i64 p2, .int .i64 i2], .slice A0 n0 c0] W fun e w' => e = .returned (.bool true) ∧ Below W.heap.size W w' := by
  have RI := Lib.hid ((hI1.alloc' (.cells #[.slice A1 n1 c1, .int .i64 p1, .int .i64 i1] 41)).alloc' (.cells #[.slice A2 n2 c2, .int .i64 p2, .int .i64 i2] 41))
  have OI := Lib.hid ((hI2.alloc' (.cells #[.slice A1 n1 c1, .int .i64 p1, .int .i64 i1] 41)).alloc' (.cells #[.slice A2 n2 c2, .int .i64 p2, .int .i64 i2] 41))
  have LI := Lib.hid ((hL0.alloc' (.cells #[.slice A1 n1 c1, .int .i64 p1, .int .i64 i1] 41)).alloc' (.cells #[.slice A2 n2 c2, .int .i64 p2, .int .i64 i2] 41))
  have RX := Lib.hid ((Blk.new W 41 #[.slice A1 n1 c1, .int .i64 p1, .int .i64 i1]).alloc (.cells #[.slice A2 n2 c2, .int .i64 p2, .int .i64 i2] 41))
  have OX := Lib.hid (show Blk ((W.alloc (.cells #[.slice A1 n1 c1, .int .i64 p1, .int .i64 i1] 41)).alloc (.cells #[.slice A2 n2 c2, .int .i64 p2, .int .i64 i2] 41)) (W.heap.size + 1) 41 #[.slice A2 n2 c2, .int .i64 p2, .int .i64 i2] from by
    have := Blk.new (W.alloc (.cells #[.slice A1 n1 c1, .int .i64 p1, .int .i64 i1] 41)) 41 #[.slice A2 n2 c2, .int .i64 p2, .int .i64 i2]
    simpa using this)
  have BW := Lib.hid (bthen (balloc W (.cells #[.slice A1 n1 c1, .int .i64 p1, .int .i64 i1] 41)) (balloc _ (.cells #[.slice A2 n2 c2, .int .i64 p2, .int .i64 i2] 41)))
  have HC1 := Lib.hid hc1; have HC2 := Lib.hid hc2
  clear hI1 hI2 hL0 hc1 hc2
  go_enter Try.func7, Try.ntmps7
  go_wp2_with fail
  refine (small_any A1 n1 c1 p1 i1 _ hn1).mono ?_
  rintro e wa ⟨rfl, hb⟩
  have RI := Lib.hid (RI.out.ext hb); have OI := Lib.hid (OI.out.ext hb); have LI := Lib.hid (LI.out.ext hb)
  have RX := Lib.hid (RX.out.below hb RX.out.lt); have OX := Lib.hid (OX.out.below hb OX.out.lt); have BW := Lib.hid (bthen BW.out hb)
  clear hb
  have q0 := OX.out.cell 0; have q1 := OX.out.cell 1; have q2 := OX.out.cell 2
  simp at q0 q1 q2
  have hlq := OX.out.lt
  by_cases h1 : (n1 : Int) ≤ 800
  · rw [decide_eq_true h1]
    go_wp2_with fail
    refine (small_any A2 n2 c2 p2 i2 _ hn2).mono ?_
    rintro e w ⟨rfl, hb⟩
    have RI := Lib.hid (RI.out.ext hb); have OI := Lib.hid (OI.out.ext hb); have LI := Lib.hid (LI.out.ext hb)
    have RX := Lib.hid (RX.out.below hb RX.out.lt); have OX := Lib.hid (OX.out.below hb OX.out.lt); have BW := Lib.hid (bthen BW.out hb)
    clear hb q0 q1 q2 hlq
    by_cases h2 : (n2 : Int) ≤ 800
    · rw [decide_eq_true h2]
      have R0 := Lib.hid (show Lc w.heap.size w W.heap.size ⟨A1, n1, c1, ⟨L1, p1, i1⟩⟩ from ⟨RX.out, CR.In.old RI.out, Nat.ne_of_lt RX.out.lt⟩)
      have O0 := Lib.hid (show Lc w.heap.size w (W.heap.size + 1) ⟨A2, n2, c2, ⟨L2, p2, i2⟩⟩ from ⟨OX.out, CR.In.old OI.out, Nat.ne_of_lt OX.out.lt⟩)
      have hL := LI.out
      have FIT1 := Lib.hid (show (CR.mk A1 n1 c1 ⟨L1, p1, i1⟩).Fit from ⟨by show n1 ≤ 1000; omega, HC1.out⟩)
      have FIT2 := Lib.hid (show (CR.mk A2 n2 c2 ⟨L2, p2, i2⟩).Fit from ⟨by show n2 ≤ 1000; omega, HC2.out⟩)
      clear RI OI LI RX OX HC1 HC2 h1 h2 hn1 hn2
      go_wp2_with fail
      refine (new_any A0 n0 c0 L w hL hc0 hn0).mono ?_
      rintro e w1 ⟨rfl, hS1, hb1⟩
      have E := Lib.hid (show EnvL w.heap.size w w1 [(W.heap.size, ⟨A1, n1, c1, ⟨L1, p1, i1⟩⟩), (W.heap.size + 1, ⟨A2, n2, c2, ⟨L2, p2, i2⟩⟩)] from ((EnvL.start hS1 hb1).add (R0.out.below hb1)).add (O0.out.below hb1))
      clear hL hS1 hb1 R0 O0
      -- a curve drawn, not yet in a variable: srcCurve2_any the contract, 9 most, _ w2 the worlds, f the curve, A n c, DrawC 9 f its facts
      go_wp2_with fail
      refine (srcCurve2_any w.heap.size 9 _ (by exact E.out.s) (by omega) (by omega)).mono ?_
      rintro e w2 ⟨f, A, n, c, hD, hcf, rfl, hI, hA, hS, hk⟩
      have hps := E.out.s.lt
      have E := Lib.hid (E.out.kept hS hk)
      have Vf := Lib.hid (show (CR.mk A n c f).In w.heap.size w2 from CR.In.new hI hA hps)
      have Hf := Lib.hid (show DrawC 9 f from hD)
      have HCf := Lib.hid hcf
      have hlenf := hI.1
      try simp only at hlenf
      have hnf : n ≤ 20 := by have h1 := Hf.out.len; omega
      clear hlenf
      clear hD hI hA hS hk hps hcf
      -- a curve drawn, not yet in a variable: srcCurve2_any the contract, 9 most, _ w3 the worlds, g the curve, B m d, DrawC 9 g its facts
      go_wp2_with fail
      refine (srcCurve2_any w.heap.size 9 _ (by exact E.out.s) (by omega) (by omega)).mono ?_
      rintro e w3 ⟨g, B, m, d, hD, hcf, rfl, hI, hA, hS, hk⟩
      have hps := E.out.s.lt
      have E := Lib.hid (E.out.kept hS hk)
      have Vg := Lib.hid (show (CR.mk B m d g).In w.heap.size w3 from CR.In.new hI hA hps)
      have Hg := Lib.hid (show DrawC 9 g from hD)
      have HCg := Lib.hid hcf
      have hleng := hI.1
      try simp only at hleng
      have hmg : m ≤ 20 := by have h1 := Hg.out.len; omega
      clear hleng
      have Vf := Lib.hid (Vf.out.kept hk)
      clear hD hI hA hS hk hps hcf
      have E := Lib.hid (show EnvL w.heap.size w _ _ from E.out.push (X := ⟨A, n, c, f⟩) Vf.out)
      dsimp only [List.cons_append, List.nil_append] at E
      have Vg := Lib.hid (Vg.out.alloc (.cells #[.slice A n c, .int .i64 f.per, .int .i64 f.inc] 41))
      have E := Lib.hid (show EnvL w.heap.size w _ _ from E.out.push (X := ⟨B, m, d, g⟩) Vg.out)
      dsimp only [List.cons_append, List.nil_append] at E
      clear Vf Vg
      go_upto_region 5 with fail
      generalize hwe : (w3.alloc (.cells #[.slice A n c, .int .i64 f.per, .int .i64 f.inc] 41)).alloc (.cells #[.slice B m d, .int .i64 g.per, .int .i64 g.inc] 41) = we at E ⊢
      clear hwe
      simp only [World.size_alloc] at E
      -- a curve drawn, not yet in a variable: srcCurve2_any the contract, 4 most, _ w4 the worlds, k the curve, D l q, DrawC 4 k its facts
      go_wp2_with fail
      refine (srcCurve2_any w.heap.size 4 _ (by exact E.out.s) (by omega) (by omega)).mono ?_
      rintro e w4 ⟨k, D, l, q, hD, hcf, rfl, hI, hA, hS, hk⟩
      have hps := E.out.s.lt
      have E := Lib.hid (E.out.kept hS hk)
      have Vk := Lib.hid (show (CR.mk D l q k).In w.heap.size w4 from CR.In.new hI hA hps)
      have Hk := Lib.hid (show DrawC 4 k from hD)
      have HCk := Lib.hid hcf
      have hlenk := hI.1
      try simp only at hlenk
      have hlk : l ≤ 20 := by have h1 := Hk.out.len; omega
      clear hlenk
      clear hD hI hA hS hk hps hcf
      have hp4 := E.out.s.lt
      have il := ints_litC w4 [7, 11, 30]
      simp only [List.map_cons, List.map_nil] at il
      have IL := Lib.hid il
      have E := Lib.hid (E.out.alloc (.cells #[.int .i64 7, .int .i64 11, .int .i64 30] 3))
      have Vk := Lib.hid (Vk.out.alloc (.cells #[.int .i64 7, .int .i64 11, .int .i64 30] 3))
      clear il
      go_wp2_with fail
      refine (pick_any w.heap.size (some ⟨w4.heap.size, 0, none⟩) 3 3 [7, 11, 30] _ (by exact E.out.s) (by exact IL.out) (fun b off s e => by cases e; omega) (by omega) (by omega)).mono ?_
      rintro e w5 ⟨⟨jj, hjj, rfl⟩, hS, hk⟩
      have E := Lib.hid (E.out.kept hS hk)
      have Vk := Lib.hid (Vk.out.kept hk)
      have hv : 1 ≤ nth [7, 11, 30] jj ∧ nth [7, 11, 30] jj ≤ 30 := by
        have h : ∀ j, j < 3 → 1 ≤ nth [7, 11, 30] j ∧ nth [7, 11, 30] j ≤ 30 := by decide
        exact h jj hjj
      generalize nth [7, 11, 30] jj = v at hv ⊢
      clear hS hk IL hjj hp4
      go_wp2_with fail
      refine (longer2_any D l q k.per k.inc 0 v k.vals _ (by exact Vk.out.ints) Hk.out.ok (by omega) (by omega) (by omega) (by omega)).mono ?_
      rintro e w6 ⟨h, hLG, A5, n5, c5, rfl, hI, hA5, hb, hcc⟩
      have Vh := Lib.hid (show (CR.mk A5 n5 c5 h).In w.heap.size w6 from ⟨hI, fun hn b off s e => by
        rcases hA5 with h1 | h1
        · exact Vk.out.ap (by have h1 := Hk.out.ok.n1; have h2 : k.vals.length = l := Vk.out.len; show 0 < l; omega) b off s (by rw [← h1]; exact e)
        · have h2 := h1 b off s e; have h3 := E.out.s.lt; omega⟩)
      have FITH := Lib.hid (show (CR.mk A5 n5 c5 h).Fit from ⟨by
        have h1 := long_len (by have := Hk.out.len; omega) Hk.out.ok.p1 (by have := Hk.out.per; omega) hv.2 hLG
        have h2 : h.vals.length = n5 := hI.1
        show n5 ≤ 1000
        omega, hcc HCk.out⟩)
      have E := Lib.hid (E.out.below hb)
      clear hI hA5 hb hcc hLG Vk Hk HCk hv
      have E := Lib.hid (show EnvL w.heap.size w _ _ from E.out.push (X := ⟨A5, n5, c5, h⟩) Vh.out)
      dsimp only [List.cons_append, List.nil_append] at E
      have FITF := Lib.hid (show (CR.mk A n c f).Fit from ⟨by show n ≤ 1000; omega, HCf.out⟩)
      have FITG := Lib.hid (show (CR.mk B m d g).Fit from ⟨by show m ≤ 1000; omega, HCg.out⟩)
      clear Vh HCf HCg
      go_upto_region 6 with fail
      generalize hwe : w6.alloc (.cells #[.slice A5 n5 c5, .int .i64 h.per, .int .i64 h.inc] 41) = wf at E ⊢
      clear hwe
      go_cut [11] (fun s11 wx => ∃ (b : Nat) (xs : List CR), s11 = .slice (some ⟨b, 0, none⟩) 7 7 ∧ xs.length = 7 ∧ (∀ x ∈ xs, x.Fit) ∧ EnvL w.heap.size w wx [(W.heap.size, ⟨A1, n1, c1, ⟨L1, p1, i1⟩⟩), (W.heap.size + 1, ⟨A2, n2, c2, ⟨L2, p2, i2⟩⟩), (w3.heap.size, ⟨A, n, c, f⟩), (w3.heap.size + 1, ⟨B, m, d, g⟩), (w6.heap.size, ⟨A5, n5, c5, h⟩)] ∧ Row w.heap.size wx b xs)
      case first =>
        obtain ⟨f0, f1, f2, hlf⟩ := (E.out.get 2 rfl).cells
        obtain ⟨g0, g1, g2, hlg⟩ := (E.out.get 3 rfl).cells
        obtain ⟨v0, v1, v2, hlv⟩ := (E.out.get 1 rfl).cells
        obtain ⟨h0, h1, h2, hlh⟩ := (E.out.get 4 rfl).cells
        obtain ⟨u0, u1, u2, hlu⟩ := (E.out.get 0 rfl).cells
        go_region_held3 (fun w' => (w'.cell? ⟨w3.heap.size, 0, none⟩ = some (.slice A n c) ∧ w'.cell? ⟨w3.heap.size, 1, none⟩ = some (.int .i64 f.per) ∧ w'.cell? ⟨w3.heap.size, 2, none⟩ = some (.int .i64 f.inc)) ∧ (w'.cell? ⟨w3.heap.size + 1, 0, none⟩ = some (.slice B m d) ∧ w'.cell? ⟨w3.heap.size + 1, 1, none⟩ = some (.int .i64 g.per) ∧ w'.cell? ⟨w3.heap.size + 1, 2, none⟩ = some (.int .i64 g.inc)) ∧ (w'.cell? ⟨W.heap.size + 1, 0, none⟩ = some (.slice A2 n2 c2) ∧ w'.cell? ⟨W.heap.size + 1, 1, none⟩ = some (.int .i64 p2) ∧ w'.cell? ⟨W.heap.size + 1, 2, none⟩ = some (.int .i64 i2)) ∧ (w'.cell? ⟨w6.heap.size, 0, none⟩ = some (.slice A5 n5 c5) ∧ w'.cell? ⟨w6.heap.size, 1, none⟩ = some (.int .i64 h.per) ∧ w'.cell? ⟨w6.heap.size, 2, none⟩ = some (.int .i64 h.inc)) ∧ w'.cell? ⟨W.heap.size, 0, none⟩ = some (.slice A1 n1 c1) ∧ w'.cell? ⟨W.heap.size, 1, none⟩ = some (.int .i64 p1) ∧ w'.cell? ⟨W.heap.size, 2, none⟩ = some (.int .i64 i1)) (first | go_keep)
          (first
            | (go_at_call 35
               refine (srcBent2_any w.heap.size A n c f.per f.inc f.vals _ (by exact E.out.s.drew) (by exact (E.out.get 2 rfl).inn.drew.ints) (by omega)).mono ?_
               rintro e w7 ⟨k, AB, nB, cB, hlB, hcB, rfl, hIB, hBB, hSB, hkB⟩
               have hkB := kofdrew hkB
               have hps := E.out.s.lt
               have E := Lib.hid (E.out.kept hSB hkB)
               have VB := Lib.hid (show (CR.mk AB nB cB k).In w.heap.size w7 from CR.In.new hIB hBB (by simpa using hps))
               have FITB := Lib.hid (show (CR.mk AB nB cB k).Fit from ⟨by have h2 : k.vals.length = nB := hIB.1; show nB ≤ 1000; omega, hcB⟩)
               clear hIB hBB hSB hkB hlB hcB hps
               clear f0 f1 f2 hlf g0 g1 g2 hlg v0 v1 v2 hlv h0 h1 h2 hlh
               clear u0 u1 u2 hlu
               obtain ⟨f0, f1, f2, hlf⟩ := (E.out.get 2 rfl).cells
               obtain ⟨g0, g1, g2, hlg⟩ := (E.out.get 3 rfl).cells
               obtain ⟨v0, v1, v2, hlv⟩ := (E.out.get 1 rfl).cells
               obtain ⟨h0, h1, h2, hlh⟩ := (E.out.get 4 rfl).cells
               obtain ⟨u0, u1, u2, hlu⟩ := (E.out.get 0 rfl).cells
               dsimp only)
            | (go_at_call 37
               refine (srcSteps_any w.heap.size _ (by exact E.out.s)).mono ?_
               rintro e w8 ⟨z, AS, nS, cS, hlS, hcS, rfl, hIS, hBS, hSS, hkS⟩
               have hps := E.out.s.lt
               have E := Lib.hid (E.out.kept hSS hkS); have VB := Lib.hid (VB.out.kept hkS)
               have VS := Lib.hid (show (CR.mk AS nS cS z).In w.heap.size w8 from CR.In.new hIS hBS hps)
               have FITS := Lib.hid (show (CR.mk AS nS cS z).Fit from ⟨by have h2 : z.vals.length = nS := hIS.1; show nS ≤ 1000; omega, hcS⟩)
               clear hIS hBS hSS hkS hlS hcS hps
               clear f0 f1 f2 hlf g0 g1 g2 hlg v0 v1 v2 hlv h0 h1 h2 hlh
               clear u0 u1 u2 hlu
               obtain ⟨f0, f1, f2, hlf⟩ := (E.out.get 2 rfl).cells
               obtain ⟨g0, g1, g2, hlg⟩ := (E.out.get 3 rfl).cells
               obtain ⟨v0, v1, v2, hlv⟩ := (E.out.get 1 rfl).cells
               obtain ⟨h0, h1, h2, hlh⟩ := (E.out.get 4 rfl).cells
               obtain ⟨u0, u1, u2, hlu⟩ := (E.out.get 0 rfl).cells
               dsimp only))
        all_goals
          go_wp2_with fail
          go_meet
          exact ⟨w8.heap.size, [⟨A1, n1, c1, ⟨L1, p1, i1⟩⟩, ⟨A2, n2, c2, ⟨L2, p2, i2⟩⟩, ⟨A, n, c, f⟩, ⟨B, m, d, g⟩, ⟨AB, nB, cB, k⟩, ⟨A5, n5, c5, h⟩, ⟨AS, nS, cS, z⟩], rfl, rfl, (by
            intro x hx
            simp only [List.mem_cons, List.not_mem_nil, or_false] at hx
            rcases hx with rfl | rfl | rfl | rfl | rfl | rfl | rfl
            · exact FIT1.out
            · exact FIT2.out
            · exact FITF.out
            · exact FITG.out
            · exact FITB.out
            · exact FITH.out
            · exact FITS.out), E.out.alloc _, Blk.new _ _ _, (by
            intro x hx
            simp only [List.mem_cons, List.not_mem_nil, or_false] at hx
            rcases hx with rfl | rfl | rfl | rfl | rfl | rfl | rfl
            · exact (E.out.get 0 rfl).inn.alloc _
            · exact (E.out.get 1 rfl).inn.alloc _
            · exact (E.out.get 2 rfl).inn.alloc _
            · exact (E.out.get 3 rfl).inn.alloc _
            · exact VB.out.alloc _
            · exact (E.out.get 4 rfl).inn.alloc _
            · exact VS.out.alloc _), Nat.ne_of_gt E.out.s.lt⟩
      case rest =>
        obtain ⟨b, xs, rfl, hxl, hxf, hE, hR⟩ := hcut
        clear E
        have E := Lib.hid hE; have ROW := Lib.hid hR; have HXL := Lib.hid hxl; have HXF := Lib.hid hxf
        clear hE hR hxl hxf
        go_wp2_with fail
        go_loopg [54] 7 (fun gg s54 wx => ∃ k : Nat, k + gg = 7 ∧ s54 = .int .i64 k ∧ EnvL w.heap.size w wx [(W.heap.size, ⟨A1, n1, c1, ⟨L1, p1, i1⟩⟩), (W.heap.size + 1, ⟨A2, n2, c2, ⟨L2, p2, i2⟩⟩), (w3.heap.size, ⟨A, n, c, f⟩), (w3.heap.size + 1, ⟨B, m, d, g⟩), (w6.heap.size, ⟨A5, n5, c5, h⟩)] ∧ Row w.heap.size wx b xs)
        case atStart => exact ⟨0, rfl, rfl, E.out, ROW.out⟩
        case round =>
          clear E ROW
          obtain ⟨k, hkg, rfl, hE, hR⟩ := hrel
          have E := Lib.hid hE; have ROW := Lib.hid hR
          clear hE hR
          by_cases hk : k < 7
          · have hki : (k : Int) < 7 := by omega
            obtain ⟨X, hXm, hXi, k0, k1, k2⟩ := ROW.out.get (k := k) (by rw [HXL.out]; exact hk)
            have hlw := ROW.out.lt
            have LX := Lib.hid (Lc.new hXi E.out.s.lt)
            have FX := Lib.hid (HXF.out X hXm)
            have E := Lib.hid (E.out.alloc (.cells #[.slice X.A X.n X.c, .int .i64 X.f.per, .int .i64 X.f.inc] 41))
            have ROW := Lib.hid (ROW.out.alloc (.cells #[.slice X.A X.n X.c, .int .i64 X.f.per, .int .i64 X.f.inc] 41))
            go_upto_region 10 with fail
            clear k0 k1 k2 hXi hXm hlw
            generalize hwe : wr.alloc (.cells #[.slice X.A X.n X.c, .int .i64 X.f.per, .int .i64 X.f.inc] 41) = wo at E ROW LX ⊢
            clear hwe
            generalize wr.heap.size = ZX at LX ⊢
            obtain ⟨go, hgo⟩ : ∃ go : Nat, go = gk := ⟨_, rfl⟩
            subst hgo
            go_cut [64, 65, 66] (fun s64 s65 s66 wx => ∃ (b2 : Nat) (ys : List CR), s64 = .slice (some ⟨b2, 0, none⟩) 5 5 ∧ s65 = .int .i64 5 ∧ s66 = .int .i64 0 ∧ ys.length = 5 ∧ (∀ x ∈ ys, x.Fit) ∧ EnvL w.heap.size w wx [(W.heap.size, ⟨A1, n1, c1, ⟨L1, p1, i1⟩⟩), (W.heap.size + 1, ⟨A2, n2, c2, ⟨L2, p2, i2⟩⟩), (w3.heap.size, ⟨A, n, c, f⟩), (w3.heap.size + 1, ⟨B, m, d, g⟩), (w6.heap.size, ⟨A5, n5, c5, h⟩)] ∧ Row w.heap.size wx b xs ∧ Row w.heap.size wx b2 ys ∧ Lc w.heap.size wx ZX X)
            case first =>
              obtain ⟨f0, f1, f2, hlf⟩ := (E.out.get 2 rfl).cells
              obtain ⟨g0, g1, g2, hlg⟩ := (E.out.get 3 rfl).cells
              obtain ⟨v0, v1, v2, hlv⟩ := (E.out.get 1 rfl).cells
              obtain ⟨h0, h1, h2, hlh⟩ := (E.out.get 4 rfl).cells
              go_region_held3 (fun w' => (w'.cell? ⟨w3.heap.size, 0, none⟩ = some (.slice A n c) ∧ w'.cell? ⟨w3.heap.size, 1, none⟩ = some (.int .i64 f.per) ∧ w'.cell? ⟨w3.heap.size, 2, none⟩ = some (.int .i64 f.inc)) ∧ (w'.cell? ⟨w3.heap.size + 1, 0, none⟩ = some (.slice B m d) ∧ w'.cell? ⟨w3.heap.size + 1, 1, none⟩ = some (.int .i64 g.per) ∧ w'.cell? ⟨w3.heap.size + 1, 2, none⟩ = some (.int .i64 g.inc)) ∧ (w'.cell? ⟨W.heap.size + 1, 0, none⟩ = some (.slice A2 n2 c2) ∧ w'.cell? ⟨W.heap.size + 1, 1, none⟩ = some (.int .i64 p2) ∧ w'.cell? ⟨W.heap.size + 1, 2, none⟩ = some (.int .i64 i2)) ∧ (w'.cell? ⟨w6.heap.size, 0, none⟩ = some (.slice A5 n5 c5) ∧ w'.cell? ⟨w6.heap.size, 1, none⟩ = some (.int .i64 h.per) ∧ w'.cell? ⟨w6.heap.size, 2, none⟩ = some (.int .i64 h.inc))) (first | go_keep)
                (first
                  | (go_at_call 37
                     refine (srcSteps_any w.heap.size _ (by exact E.out.s.drew)).mono ?_
                     rintro e w8 ⟨z, AS, nS, cS, hlS, hcS, rfl, hIS, hBS, hSS, hkS⟩
                     have hkS := kofdrew hkS
                     have hps := E.out.s.lt
                     have E := Lib.hid (E.out.kept hSS hkS); have ROW := Lib.hid (ROW.out.kept hkS); have LX := Lib.hid (LX.out.kept hkS)
                     have VS := Lib.hid (show (CR.mk AS nS cS z).In w.heap.size w8 from CR.In.new hIS hBS (by simpa using hps))
                     have FITS := Lib.hid (show (CR.mk AS nS cS z).Fit from ⟨by have h2 : z.vals.length = nS := hIS.1; show nS ≤ 1000; omega, hcS⟩)
                     clear hIS hBS hSS hkS hlS hcS hps
                     clear f0 f1 f2 hlf g0 g1 g2 hlg v0 v1 v2 hlv h0 h1 h2 hlh
                     obtain ⟨f0, f1, f2, hlf⟩ := (E.out.get 2 rfl).cells
                     obtain ⟨g0, g1, g2, hlg⟩ := (E.out.get 3 rfl).cells
                     obtain ⟨v0, v1, v2, hlv⟩ := (E.out.get 1 rfl).cells
                     obtain ⟨h0, h1, h2, hlh⟩ := (E.out.get 4 rfl).cells
                     dsimp only))
              all_goals
                go_wp2_with fail
                go_meet
                exact ⟨w8.heap.size, [⟨A, n, c, f⟩, ⟨B, m, d, g⟩, ⟨A2, n2, c2, ⟨L2, p2, i2⟩⟩, ⟨A5, n5, c5, h⟩, ⟨AS, nS, cS, z⟩], rfl, rfl, rfl, rfl, (by
                  intro x hx
                  simp only [List.mem_cons, List.not_mem_nil, or_false] at hx
                  rcases hx with rfl | rfl | rfl | rfl | rfl
                  · exact FITF.out
                  · exact FITG.out
                  · exact FIT2.out
                  · exact FITH.out
                  · exact FITS.out), E.out.alloc _, ROW.out.alloc _, ⟨Blk.new _ _ _, (by
                  intro x hx
                  simp only [List.mem_cons, List.not_mem_nil, or_false] at hx
                  rcases hx with rfl | rfl | rfl | rfl | rfl
                  · exact (E.out.get 2 rfl).inn.alloc _
                  · exact (E.out.get 3 rfl).inn.alloc _
                  · exact (E.out.get 1 rfl).inn.alloc _
                  · exact (E.out.get 4 rfl).inn.alloc _
                  · exact VS.out.alloc _), Nat.ne_of_gt E.out.s.lt⟩, LX.out.alloc _⟩
            case rest =>
              as_aux_lemma =>
              obtain ⟨b2, ys, rfl, rfl, rfl, hyl, hyf, hE, hR, hR2, hLX⟩ := hcut
              clear E ROW LX
              have E := Lib.hid hE; have ROW := Lib.hid hR; have ROW2 := Lib.hid hR2; have LX := Lib.hid hLX; have HYL := Lib.hid hyl; have HYF := Lib.hid hyf
              clear hE hR hR2 hLX hyl hyf
              go_wp2_with fail
              go_loopg [66] 5 (fun gg s66 wy => ∃ j : Nat, j + gg = 5 ∧ s66 = .int .i64 j ∧ EnvL w.heap.size w wy [(W.heap.size, ⟨A1, n1, c1, ⟨L1, p1, i1⟩⟩), (W.heap.size + 1, ⟨A2, n2, c2, ⟨L2, p2, i2⟩⟩), (w3.heap.size, ⟨A, n, c, f⟩), (w3.heap.size + 1, ⟨B, m, d, g⟩), (w6.heap.size, ⟨A5, n5, c5, h⟩)] ∧ Row w.heap.size wy b xs ∧ Row w.heap.size wy b2 ys ∧ Lc w.heap.size wy ZX X)
              case atStart => exact ⟨0, rfl, rfl, E.out, ROW.out, ROW2.out, LX.out⟩
              case round =>
                clear E ROW ROW2 LX
                as_aux_lemma =>
                obtain ⟨j, hjg, rfl, hE, hR, hR2, hLX⟩ := hrel
                have E := Lib.hid hE; have ROW := Lib.hid hR; have ROW2 := Lib.hid hR2; have LX := Lib.hid hLX
                clear hE hR hR2 hLX
                by_cases hj : j < 5
                · have hji : (j : Int) < 5 := by omega
                  obtain ⟨Y, hYm, hYi, k0, k1, k2⟩ := ROW2.out.get (k := j) (by rw [HYL.out]; exact hj)
                  have hlw := ROW2.out.lt
                  have LY := Lib.hid (Lc.new hYi E.out.s.lt)
                  have FY := Lib.hid (HYF.out Y hYm)
                  have E := Lib.hid (E.out.alloc (.cells #[.slice Y.A Y.n Y.c, .int .i64 Y.f.per, .int .i64 Y.f.inc] 41))
                  have ROW := Lib.hid (ROW.out.alloc (.cells #[.slice Y.A Y.n Y.c, .int .i64 Y.f.per, .int .i64 Y.f.inc] 41))
                  have ROW2 := Lib.hid (ROW2.out.alloc (.cells #[.slice Y.A Y.n Y.c, .int .i64 Y.f.per, .int .i64 Y.f.inc] 41))
                  have LX := Lib.hid (LX.out.alloc (.cells #[.slice Y.A Y.n Y.c, .int .i64 Y.f.per, .int .i64 Y.f.inc] 41))
                  go_upto_region 13 with fail
                  clear k0 k1 k2 hYi hYm hlw
                  generalize hwe : wr.alloc (.cells #[.slice Y.A Y.n Y.c, .int .i64 Y.f.per, .int .i64 Y.f.inc] 41) = wi at E ROW ROW2 LX LY ⊢
                  clear hwe
                  generalize wr.heap.size = ZY at LY ⊢
                  have BI := Lib.hid (Below.refl wi.heap.size wi)
                  have hfx := FX.out.1; have hfy := FY.out.1; have hfx2 := FX.out.2; have hfy2 := FY.out.2
                  -- the first pair of calls: the results are laid in new variables. psum_any refSum_any the contracts, SumS.unique uniqueness, SumS.len len, 14 15 {6} regions
                  obtain ⟨x0, x1, x2, hlx⟩ := (LX.out.below BI.out).cells
                  obtain ⟨y0, y1, y2, hly⟩ := (LY.out.below BI.out).cells
                  go_wp2_with fail
                  refine (psum_any X.A Y.A X.n Y.n X.c Y.c X.f.per X.f.inc Y.f.per Y.f.inc X.f.vals Y.f.vals _ (by exact (LX.out.below BI.out).inn.ints) (by exact (LY.out.below BI.out).inn.ints) (by omega) (by omega)).mono ?_
                  rintro e wa ⟨r, er, hS, A3, n3, c3, rfl, hI, hA, hb⟩
                  have HS := Lib.hid hS
                  have hn3 : n3 ≤ 400 := by have h1 := SumS.len hS; have h2 : r.vals.length = n3 := hI.1; omega
                  have hz1 := (bthen BI.out hb).size
                  have BI := Lib.hid (bthen (bthen BI.out hb) (balloc _ (.cells #[.slice A3 n3 c3, .int .i64 r.per, .int .i64 r.inc] 41)))
                  have B1 := Lib.hid (Blk.new wa 41 #[.slice A3 n3 c3, .int .i64 r.per, .int .i64 r.inc])
                  have I1 := Lib.hid (hI.alloc' (.cells #[.slice A3 n3 c3, .int .i64 r.per, .int .i64 r.inc] 41))
                  clear hS hI hA hb
                  go_upto_region 14 with fail
                  clear x0 x1 x2 hlx y0 y1 y2 hly
                  generalize hwe : wa.alloc (.cells #[.slice A3 n3 c3, .int .i64 r.per, .int .i64 r.inc] 41) = wc at BI B1 I1 ⊢
                  clear hwe
                  generalize wa.heap.size = Z1 at hz1 B1 ⊢
                  obtain ⟨x0, x1, x2, hlx⟩ := (LX.out.below BI.out).cells
                  obtain ⟨y0, y1, y2, hly⟩ := (LY.out.below BI.out).cells
                  go_wp2_with fail
                  refine (refSum_any X.A Y.A X.n Y.n X.c Y.c X.f.per X.f.inc Y.f.per Y.f.inc X.f.vals Y.f.vals _ (by exact (LX.out.below BI.out).inn.ints) (by exact (LY.out.below BI.out).inn.ints) (by omega) (by omega) hfx2 hfy2).mono ?_
                  rintro e wd ⟨r2, er2, A4, n4, c4, hS, hc4, rfl, hI, hA, hb⟩
                  obtain ⟨e1, e2⟩ := SumS.unique HS.out hS
                  subst e1 e2
                  have hn4 : n4 ≤ 400 := by have h1 := SumS.len hS; have h2 : r.vals.length = n4 := hI.1; omega
                  have hz2 := (B1.out.below hb B1.out.lt).lt
                  have BI := Lib.hid (bthen (bthen BI.out hb) (balloc _ (.cells #[.slice A4 n4 c4, .int .i64 r.per, .int .i64 r.inc] 41)))
                  have B1 := Lib.hid ((B1.out.below hb B1.out.lt).alloc (.cells #[.slice A4 n4 c4, .int .i64 r.per, .int .i64 r.inc] 41))
                  have I1 := Lib.hid ((I1.out.ext hb).alloc' (.cells #[.slice A4 n4 c4, .int .i64 r.per, .int .i64 r.inc] 41))
                  have B2 := Lib.hid (Blk.new wd 41 #[.slice A4 n4 c4, .int .i64 r.per, .int .i64 r.inc])
                  have I2 := Lib.hid (hI.alloc' (.cells #[.slice A4 n4 c4, .int .i64 r.per, .int .i64 r.inc] 41))
                  clear hS hI hA hb HS
                  go_upto_region 15 with fail
                  clear x0 x1 x2 hlx y0 y1 y2 hly
                  generalize hwe : wd.alloc (.cells #[.slice A4 n4 c4, .int .i64 r.per, .int .i64 r.inc] 41) = we at BI B1 I1 B2 I2 ⊢
                  clear hwe
                  generalize wd.heap.size = Z2 at hz2 B2 ⊢
                  obtain ⟨⟨k0, k1, k2⟩, ⟨k3, k4, k5⟩, hlk1⟩ := B1.out.c3
                  obtain ⟨⟨l0, l1, l2⟩, ⟨l3, l4, l5⟩, hlk2⟩ := B2.out.c3
                  have h9 : (er != er) = false := by simp
                  go_wp2_with fail
                  refine (refSame_any A3 A4 n3 n4 c3 c4 r.per r.per r.inc r.inc r.vals r.vals _ (by exact I1.out) (by exact I2.out) (by omega) (by omega)).mono ?_
                  rw [(Cv.same_iff _ _).2 rfl]
                  rintro e wg ⟨rfl, hb⟩
                  have BI := Lib.hid (bthen BI.out hb); have B1 := Lib.hid (B1.out.below hb B1.out.lt); have B2 := Lib.hid (B2.out.below hb B2.out.lt)
                  clear k0 k1 k2 k3 k4 k5 hlk1 l0 l1 l2 l3 l4 l5 hlk2
                  clear hb I1 I2 h9
                  clear hn3 hn4
                  -- a further pair of calls: the results are laid in the variables
                  obtain ⟨x0, x1, x2, hlx⟩ := (LX.out.below BI.out).cells
                  obtain ⟨y0, y1, y2, hly⟩ := (LY.out.below BI.out).cells
                  obtain ⟨⟨k0, k1, k2⟩, ⟨k3, k4, k5⟩, hlk1⟩ := B1.out.c3
                  obtain ⟨⟨l0, l1, l2⟩, ⟨l3, l4, l5⟩, hlk2⟩ := B2.out.c3
                  go_wp2_with fail
                  refine (pmin_any X.A Y.A X.n Y.n X.c Y.c X.f.per X.f.inc Y.f.per Y.f.inc X.f.vals Y.f.vals _ (by exact (LX.out.below BI.out).inn.ints) (by exact (LY.out.below BI.out).inn.ints) (by omega) (by omega)).mono ?_
                  rintro e wa ⟨r, er, hS, A3, n3, c3, rfl, hI, hA, hb⟩
                  have HS := Lib.hid hS
                  have hn3 : n3 ≤ 400 := by have h1 := ExtS.len hS; have h2 : r.vals.length = n3 := hI.1; omega
                  have O3 := Lib.hid (show ∀ b off s, A3 = some ⟨b, off, s⟩ → Z2 < b from fun b off s e => by have := hA b off s e; omega)
                  clear k0 k1 k2 k3 k4 k5 hlk1 l0 l1 l2 l3 l4 l5 hlk2
                  clear x0 x1 x2 hlx y0 y1 y2 hly
                  have BI := Lib.hid (bthen BI.out hb); have B1 := Lib.hid (B1.out.below hb B1.out.lt); have B2 := Lib.hid (B2.out.below hb B2.out.lt)
                  have I1 := Lib.hid hI
                  clear hS hI hA hb
                  obtain ⟨⟨k0, k1, k2⟩, ⟨k3, k4, k5⟩, hlk1⟩ := B1.out.c3
                  obtain ⟨⟨l0, l1, l2⟩, ⟨l3, l4, l5⟩, hlk2⟩ := B2.out.c3
                  go_upto_region 18 with fail
                  clear k0 k1 k2 k3 k4 k5 hlk1 l0 l1 l2 l3 l4 l5 hlk2
                  have I1 := Lib.hid (I1.out.sto0 (Sto.three Z1 _ (.slice A3 n3 c3) (.int .i64 r.per) (.int .i64 r.inc)) (fun hn b off s e => by have := O3.out b off s e; omega))
                  have B1 := Lib.hid (B1.out.store3 (.slice A3 n3 c3) (.int .i64 r.per) (.int .i64 r.inc))
                  have B2 := Lib.hid (B2.out.far3d (g := Z1) (by omega) (.slice A3 n3 c3) (.int .i64 r.per) (.int .i64 r.inc))
                  have BI := Lib.hid (b3sd BI.out (g := Z1) hz1 (.slice A3 n3 c3) (.int .i64 r.per) (.int .i64 r.inc))
                  generalize hwe : ((wa.setCell ⟨Z1, 0, none⟩ (.slice A3 n3 c3)).setCell ⟨Z1, 1, none⟩ (.int .i64 r.per)).setCell ⟨Z1, 2, none⟩ (.int .i64 r.inc) = wc at BI B1 I1 B2 ⊢
                  clear hwe
                  obtain ⟨x0, x1, x2, hlx⟩ := (LX.out.below BI.out).cells
                  obtain ⟨y0, y1, y2, hly⟩ := (LY.out.below BI.out).cells
                  obtain ⟨⟨k0, k1, k2⟩, ⟨k3, k4, k5⟩, hlk1⟩ := B1.out.c3
                  obtain ⟨⟨l0, l1, l2⟩, ⟨l3, l4, l5⟩, hlk2⟩ := B2.out.c3
                  go_wp2_with fail
                  refine (refMin_any X.A Y.A X.n Y.n X.c Y.c X.f.per X.f.inc Y.f.per Y.f.inc X.f.vals Y.f.vals _ (by exact (LX.out.below BI.out).inn.ints) (by exact (LY.out.below BI.out).inn.ints) (by omega) (by omega) hfx2 hfy2).mono ?_
                  rintro e wd ⟨r2, er2, A4, n4, c4, hS, hc4, rfl, hI, hA, hb⟩
                  obtain ⟨e1, e2⟩ := ExtS.unique HS.out hS
                  subst e1 e2
                  have hn4 : n4 ≤ 400 := by have h1 := ExtS.len hS; have h2 : r.vals.length = n4 := hI.1; omega
                  have O4 := Lib.hid (show ∀ b off s, A4 = some ⟨b, off, s⟩ → Z2 < b from fun b off s e => by have := hA b off s e; omega)
                  clear k0 k1 k2 k3 k4 k5 hlk1 l0 l1 l2 l3 l4 l5 hlk2
                  clear x0 x1 x2 hlx y0 y1 y2 hly
                  have BI := Lib.hid (bthen BI.out hb); have B1 := Lib.hid (B1.out.below hb B1.out.lt); have B2 := Lib.hid (B2.out.below hb B2.out.lt); have I1 := Lib.hid (I1.out.ext hb)
                  have I2 := Lib.hid hI
                  clear hS hI hA hb HS
                  obtain ⟨⟨k0, k1, k2⟩, ⟨k3, k4, k5⟩, hlk1⟩ := B1.out.c3
                  obtain ⟨⟨l0, l1, l2⟩, ⟨l3, l4, l5⟩, hlk2⟩ := B2.out.c3
                  go_upto_region 19 with fail
                  clear k0 k1 k2 k3 k4 k5 hlk1 l0 l1 l2 l3 l4 l5 hlk2
                  have I1 := Lib.hid (I1.out.sto0 (Sto.three Z2 _ (.slice A4 n4 c4) (.int .i64 r.per) (.int .i64 r.inc)) (fun hn b off s e => by have := O3.out b off s e; omega))
                  have I2 := Lib.hid (I2.out.sto0 (Sto.three Z2 _ (.slice A4 n4 c4) (.int .i64 r.per) (.int .i64 r.inc)) (fun hn b off s e => by have := O4.out b off s e; omega))
                  have B2 := Lib.hid (B2.out.store3 (.slice A4 n4 c4) (.int .i64 r.per) (.int .i64 r.inc))
                  have B1 := Lib.hid (B1.out.far3d (g := Z2) (by omega) (.slice A4 n4 c4) (.int .i64 r.per) (.int .i64 r.inc))
                  have BI := Lib.hid (b3sd BI.out (g := Z2) (by omega) (.slice A4 n4 c4) (.int .i64 r.per) (.int .i64 r.inc))
                  generalize hwe : ((wd.setCell ⟨Z2, 0, none⟩ (.slice A4 n4 c4)).setCell ⟨Z2, 1, none⟩ (.int .i64 r.per)).setCell ⟨Z2, 2, none⟩ (.int .i64 r.inc) = we at BI B1 I1 B2 I2 ⊢
                  clear hwe O3 O4
                  obtain ⟨⟨k0, k1, k2⟩, ⟨k3, k4, k5⟩, hlk1⟩ := B1.out.c3
                  obtain ⟨⟨l0, l1, l2⟩, ⟨l3, l4, l5⟩, hlk2⟩ := B2.out.c3
                  have h9 : (er != er) = false := by simp
                  go_wp2_with fail
                  refine (refSame_any A3 A4 n3 n4 c3 c4 r.per r.per r.inc r.inc r.vals r.vals _ (by exact I1.out) (by exact I2.out) (by omega) (by omega)).mono ?_
                  rw [(Cv.same_iff _ _).2 rfl]
                  rintro e wg ⟨rfl, hb⟩
                  have BI := Lib.hid (bthen BI.out hb); have B1 := Lib.hid (B1.out.below hb B1.out.lt); have B2 := Lib.hid (B2.out.below hb B2.out.lt)
                  clear k0 k1 k2 k3 k4 k5 hlk1 l0 l1 l2 l3 l4 l5 hlk2
                  clear hb I1 I2 h9
                  clear hn3 hn4
                  -- a further pair of calls: the results are laid in the variables
                  obtain ⟨x0, x1, x2, hlx⟩ := (LX.out.below BI.out).cells
                  obtain ⟨y0, y1, y2, hly⟩ := (LY.out.below BI.out).cells
                  obtain ⟨⟨k0, k1, k2⟩, ⟨k3, k4, k5⟩, hlk1⟩ := B1.out.c3
                  obtain ⟨⟨l0, l1, l2⟩, ⟨l3, l4, l5⟩, hlk2⟩ := B2.out.c3
                  go_wp2_with fail
                  refine (pmax_any X.A Y.A X.n Y.n X.c Y.c X.f.per X.f.inc Y.f.per Y.f.inc X.f.vals Y.f.vals _ (by exact (LX.out.below BI.out).inn.ints) (by exact (LY.out.below BI.out).inn.ints) (by omega) (by omega)).mono ?_
                  rintro e wa ⟨r, er, hS, A3, n3, c3, rfl, hI, hA, hb⟩
                  have HS := Lib.hid hS
                  have hn3 : n3 ≤ 400 := by have h1 := ExtS.len hS; have h2 : r.vals.length = n3 := hI.1; omega
                  have O3 := Lib.hid (show ∀ b off s, A3 = some ⟨b, off, s⟩ → Z2 < b from fun b off s e => by have := hA b off s e; omega)
                  clear k0 k1 k2 k3 k4 k5 hlk1 l0 l1 l2 l3 l4 l5 hlk2
                  clear x0 x1 x2 hlx y0 y1 y2 hly
                  have BI := Lib.hid (bthen BI.out hb); have B1 := Lib.hid (B1.out.below hb B1.out.lt); have B2 := Lib.hid (B2.out.below hb B2.out.lt)
                  have I1 := Lib.hid hI
                  clear hS hI hA hb
                  obtain ⟨⟨k0, k1, k2⟩, ⟨k3, k4, k5⟩, hlk1⟩ := B1.out.c3
                  obtain ⟨⟨l0, l1, l2⟩, ⟨l3, l4, l5⟩, hlk2⟩ := B2.out.c3
                  go_upto_region 22 with fail
                  clear k0 k1 k2 k3 k4 k5 hlk1 l0 l1 l2 l3 l4 l5 hlk2
                  have I1 := Lib.hid (I1.out.sto0 (Sto.three Z1 _ (.slice A3 n3 c3) (.int .i64 r.per) (.int .i64 r.inc)) (fun hn b off s e => by have := O3.out b off s e; omega))
                  have B1 := Lib.hid (B1.out.store3 (.slice A3 n3 c3) (.int .i64 r.per) (.int .i64 r.inc))
                  have B2 := Lib.hid (B2.out.far3d (g := Z1) (by omega) (.slice A3 n3 c3) (.int .i64 r.per) (.int .i64 r.inc))
                  have BI := Lib.hid (b3sd BI.out (g := Z1) hz1 (.slice A3 n3 c3) (.int .i64 r.per) (.int .i64 r.inc))
                  generalize hwe : ((wa.setCell ⟨Z1, 0, none⟩ (.slice A3 n3 c3)).setCell ⟨Z1, 1, none⟩ (.int .i64 r.per)).setCell ⟨Z1, 2, none⟩ (.int .i64 r.inc) = wc at BI B1 I1 B2 ⊢
                  clear hwe
                  obtain ⟨x0, x1, x2, hlx⟩ := (LX.out.below BI.out).cells
                  obtain ⟨y0, y1, y2, hly⟩ := (LY.out.below BI.out).cells
                  obtain ⟨⟨k0, k1, k2⟩, ⟨k3, k4, k5⟩, hlk1⟩ := B1.out.c3
                  obtain ⟨⟨l0, l1, l2⟩, ⟨l3, l4, l5⟩, hlk2⟩ := B2.out.c3
                  go_wp2_with fail
                  refine (refMax_any X.A Y.A X.n Y.n X.c Y.c X.f.per X.f.inc Y.f.per Y.f.inc X.f.vals Y.f.vals _ (by exact (LX.out.below BI.out).inn.ints) (by exact (LY.out.below BI.out).inn.ints) (by omega) (by omega) hfx2 hfy2).mono ?_
                  rintro e wd ⟨r2, er2, A4, n4, c4, hS, hc4, rfl, hI, hA, hb⟩
                  obtain ⟨e1, e2⟩ := ExtS.unique HS.out hS
                  subst e1 e2
                  have hn4 : n4 ≤ 400 := by have h1 := ExtS.len hS; have h2 : r.vals.length = n4 := hI.1; omega
                  have O4 := Lib.hid (show ∀ b off s, A4 = some ⟨b, off, s⟩ → Z2 < b from fun b off s e => by have := hA b off s e; omega)
                  clear k0 k1 k2 k3 k4 k5 hlk1 l0 l1 l2 l3 l4 l5 hlk2
                  clear x0 x1 x2 hlx y0 y1 y2 hly
                  have BI := Lib.hid (bthen BI.out hb); have B1 := Lib.hid (B1.out.below hb B1.out.lt); have B2 := Lib.hid (B2.out.below hb B2.out.lt); have I1 := Lib.hid (I1.out.ext hb)
                  have I2 := Lib.hid hI
                  clear hS hI hA hb HS
                  obtain ⟨⟨k0, k1, k2⟩, ⟨k3, k4, k5⟩, hlk1⟩ := B1.out.c3
                  obtain ⟨⟨l0, l1, l2⟩, ⟨l3, l4, l5⟩, hlk2⟩ := B2.out.c3
                  go_upto_region 23 with fail
                  clear k0 k1 k2 k3 k4 k5 hlk1 l0 l1 l2 l3 l4 l5 hlk2
                  have I1 := Lib.hid (I1.out.sto0 (Sto.three Z2 _ (.slice A4 n4 c4) (.int .i64 r.per) (.int .i64 r.inc)) (fun hn b off s e => by have := O3.out b off s e; omega))
                  have I2 := Lib.hid (I2.out.sto0 (Sto.three Z2 _ (.slice A4 n4 c4) (.int .i64 r.per) (.int .i64 r.inc)) (fun hn b off s e => by have := O4.out b off s e; omega))
                  have B2 := Lib.hid (B2.out.store3 (.slice A4 n4 c4) (.int .i64 r.per) (.int .i64 r.inc))
                  have B1 := Lib.hid (B1.out.far3d (g := Z2) (by omega) (.slice A4 n4 c4) (.int .i64 r.per) (.int .i64 r.inc))
                  have BI := Lib.hid (b3sd BI.out (g := Z2) (by omega) (.slice A4 n4 c4) (.int .i64 r.per) (.int .i64 r.inc))
                  generalize hwe : ((wd.setCell ⟨Z2, 0, none⟩ (.slice A4 n4 c4)).setCell ⟨Z2, 1, none⟩ (.int .i64 r.per)).setCell ⟨Z2, 2, none⟩ (.int .i64 r.inc) = we at BI B1 I1 B2 I2 ⊢
                  clear hwe O3 O4
                  obtain ⟨⟨k0, k1, k2⟩, ⟨k3, k4, k5⟩, hlk1⟩ := B1.out.c3
                  obtain ⟨⟨l0, l1, l2⟩, ⟨l3, l4, l5⟩, hlk2⟩ := B2.out.c3
                  have h9 : (er != er) = false := by simp
                  go_wp2_with fail
                  refine (refSame_any A3 A4 n3 n4 c3 c4 r.per r.per r.inc r.inc r.vals r.vals _ (by exact I1.out) (by exact I2.out) (by omega) (by omega)).mono ?_
                  rw [(Cv.same_iff _ _).2 rfl]
                  rintro e wg ⟨rfl, hb⟩
                  have BI := Lib.hid (bthen BI.out hb); have B1 := Lib.hid (B1.out.below hb B1.out.lt); have B2 := Lib.hid (B2.out.below hb B2.out.lt)
                  clear k0 k1 k2 k3 k4 k5 hlk1 l0 l1 l2 l3 l4 l5 hlk2
                  clear hb I1 I2 h9
                  clear hn3 hn4
                  go_wp2_with fail
                  go_roundg (gk - 1)
                  case measure => omega
                  case rel => exact ⟨j + 1, by omega, by go_num, E.out.below BI.out, ROW.out.below BI.out, ROW2.out.below BI.out, LX.out.below BI.out⟩
                · have hj5 : j = 5 := by omega
                  subst hj5
                  clear hj hjg
                  go_wp2_with fail
                  go_roundg (go - 1)
                  case measure => omega
                  case rel => exact ⟨k + 1, by omega, by go_num, E.out, ROW.out⟩
          · have hk7 : k = 7 := by omega
            subst hk7
            clear hk hkg
            go_wp2_with fail
            refine (awake5_any _).mono ?_
            rintro q wq ⟨rfl, hbq⟩
            have bw := bthen BW.out (E.out.below hbq).fin
            go_wp2_with fail
            go_ret
            exact ⟨rfl, bw⟩
    · rw [decide_eq_false h2]
      go_wp2_with fail
      refine (awake5_any _).mono ?_
      rintro q wq ⟨rfl, hbq⟩
      have bw := bthen BW.out hbq
      go_wp2_with fail
      go_ret
      exact ⟨rfl, bw⟩
  · rw [decide_eq_false h1]
    go_wp2_with fail
    refine (awake5_any _).mono ?_
    rintro q wq ⟨rfl, hbq⟩
    have bw := bthen BW.out hbq
    go_wp2_with fail
    go_ret
    exact ⟨rfl, bw⟩
end Go.Proofs.Ytmieikfmbnaoaaa
