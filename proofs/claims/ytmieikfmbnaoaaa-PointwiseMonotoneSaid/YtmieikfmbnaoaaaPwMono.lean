/- The statement PointwiseMonotone: the walk. -/
import Derived.Test.YtmieikfmbnaoaaaAwake5
import Derived.Test.YtmieikfmbnaoaaaEnvL2
import Derived.Test.YtmieikfmbnaoaaaRefExc
import Derived.Test.YtmieikfmbnaoaaaMonoPw
import Derived.Deep.DeepCutAuto
namespace Go.Proofs.Ytmieikfmbnaoaaa
open Go.RowKit
set_option linter.unusedVariables false

theorem Blk.far3c {w : World} {g h : Nat} {t : TypeId} {cs : Array Value} (H : Blk w h t cs) (hne : h ≠ g) (x y z : Value) : Blk (((w.setCell ⟨g, 0, none⟩ x).setCell ⟨g, 1, none⟩ y).setCell ⟨g, 2, none⟩ z) h t cs :=
  ((H.far (p := ⟨g, 0, none⟩) hne x).far (p := ⟨g, 1, none⟩) hne y).far (p := ⟨g, 2, none⟩) hne z
theorem atM_of {f g : Cv} (hf : f.Ok) (hg : g.Ok) (h : LEC f g) : AtM f g true := .inl ⟨hf, hg, ⟨fun _ => h.up, fun _ => rfl⟩⟩
set_option maxHeartbeats 4000000 in
set_option maxRecDepth 100000 in
theorem monoLaw_any (A0 : Option Addr) (n0 c0 : Nat) (L : List Int) (w : World) (hL : Ints w w.heap.size A0 n0 L) (hc0 : n0 ≤ c0) (hn0 : (n0 : Int) ≤ 9223372036854775807) :
    Calls Try.prog 12 #[.slice A0 n0 c0] w fun e w' => e = .returned (.bool true) ∧ Below w.heap.size w w' := by
  go_enter Try.func12, Try.ntmps12
  go_wp2_with fail
  refine (new_any A0 n0 c0 L w hL hc0 hn0).mono ?_
  rintro e w1 ⟨rfl, hS1, hb1⟩
  have E := Lib.hid (EnvL.start hS1 hb1)
  clear hL hS1 hb1
  -- a curve drawn, not yet in a variable: srcCurve2_any the contract, 5 most, _ w2 the worlds, f the curve, A n c, DrawC 5 f its facts
  go_wp2_with fail
  refine (srcCurve2_any w.heap.size 5 _ (by exact E.out.s) (by omega) (by omega)).mono ?_
  rintro e w2 ⟨f, A, n, c, hD, hcf, rfl, hI, hA, hS, hk⟩
  have hps := E.out.s.lt
  have E := Lib.hid (E.out.kept hS hk)
  have Vf := Lib.hid (show (CR.mk A n c f).In w.heap.size w2 from CR.In.new hI hA hps)
  have Hf := Lib.hid (show DrawC 5 f from hD)
  have HCf := Lib.hid hcf
  have hlenf := hI.1
  try simp only at hlenf
  have hnf : n ≤ 20 := by have h1 := Hf.out.len; omega
  clear hlenf
  clear hD hI hA hS hk hps hcf
  -- a curve drawn, not yet in a variable: srcCurve2_any the contract, 5 most, _ w3 the worlds, g the curve, B m d, DrawC 5 g its facts
  go_wp2_with fail
  refine (srcCurve2_any w.heap.size 5 _ (by exact E.out.s) (by omega) (by omega)).mono ?_
  rintro e w3 ⟨g, B, m, d, hD, hcf, rfl, hI, hA, hS, hk⟩
  have hps := E.out.s.lt
  have E := Lib.hid (E.out.kept hS hk)
  have Vg := Lib.hid (show (CR.mk B m d g).In w.heap.size w3 from CR.In.new hI hA hps)
  have Hg := Lib.hid (show DrawC 5 g from hD)
  have HCg := Lib.hid hcf
  have hleng := hI.1
  try simp only at hleng
  have hmg : m ≤ 20 := by have h1 := Hg.out.len; omega
  clear hleng
  have Vf := Lib.hid (Vf.out.kept hk)
  clear hD hI hA hS hk hps hcf
  -- a curve drawn, not yet in a variable: srcCurve2_any the contract, 3 most, _ w4 the worlds, h the curve, D k q, DrawC 3 h its facts
  go_wp2_with fail
  refine (srcCurve2_any w.heap.size 3 _ (by exact E.out.s) (by omega) (by omega)).mono ?_
  rintro e w4 ⟨h, D, k, q, hD, hcf, rfl, hI, hA, hS, hk⟩
  have hps := E.out.s.lt
  have E := Lib.hid (E.out.kept hS hk)
  have Vh := Lib.hid (show (CR.mk D k q h).In w.heap.size w4 from CR.In.new hI hA hps)
  have Hh := Lib.hid (show DrawC 3 h from hD)
  have HCh := Lib.hid hcf
  have hlenh := hI.1
  try simp only at hlenh
  have hkh : k ≤ 20 := by have h1 := Hh.out.len; omega
  clear hlenh
  have Vf := Lib.hid (Vf.out.kept hk)
  have Vg := Lib.hid (Vg.out.kept hk)
  clear hD hI hA hS hk hps hcf
  have E := Lib.hid (show EnvL w.heap.size w _ _ from E.out.push (X := ⟨A, n, c, f⟩) Vf.out)
  dsimp only [List.cons_append, List.nil_append] at E
  have Vg := Lib.hid (Vg.out.alloc (.cells #[.slice A n c, .int .i64 f.per, .int .i64 f.inc] 41))
  have Vh := Lib.hid (Vh.out.alloc (.cells #[.slice A n c, .int .i64 f.per, .int .i64 f.inc] 41))
  have E := Lib.hid (show EnvL w.heap.size w _ _ from E.out.push (X := ⟨B, m, d, g⟩) Vg.out)
  dsimp only [List.cons_append, List.nil_append] at E
  have Vh := Lib.hid (Vh.out.alloc (.cells #[.slice B m d, .int .i64 g.per, .int .i64 g.inc] 41))
  have E := Lib.hid (show EnvL w.heap.size w _ _ from E.out.push (X := ⟨D, k, q, h⟩) Vh.out)
  dsimp only [List.cons_append, List.nil_append] at E
  clear Vf Vg Vh
  go_upto_region 3 with fail
  generalize hwe : ((w4.alloc (.cells #[.slice A n c, .int .i64 f.per, .int .i64 f.inc] 41)).alloc (.cells #[.slice B m d, .int .i64 g.per, .int .i64 g.inc] 41)).alloc (.cells #[.slice D k q, .int .i64 h.per, .int .i64 h.inc] 41) = we at *
  clear hwe
  simp only [World.size_alloc] at E
  obtain ⟨x0, x1, x2, hlx⟩ := (E.out.get 0 rfl).cells
  obtain ⟨y0, y1, y2, hly⟩ := (E.out.get 2 rfl).cells
  go_wp2_with fail
  refine (psum_any A D n k c q f.per f.inc h.per h.inc f.vals h.vals _ (by exact (E.out.get 0 rfl).inn.ints) (by exact (E.out.get 2 rfl).inn.ints) (by omega) (by omega)).mono ?_
  -- a curve is returned and laid into a new variable: w5 the world, mo the curve, er its error, A1 n1 c1
  rintro e w5 ⟨mo, er, hSS, A1, n1, c1, rfl, hI, hA, hb⟩
  obtain ⟨rfl, htm, hem, hnm⟩ := sum_tame (by omega) (by omega) Hf.out Hh.out hSS
  have hn1 : n1 ≤ 400 := by have h1 := htm.ok.n2; have h2 : mo.vals.length = n1 := hI.1; omega
  have HTM := Lib.hid htm; have HLE := Lib.hid (sum_more Hf.out.ok Hh.out.ok htm.ok hem)
  have HTF := Lib.hid (Hf.out.tame (by omega))
  clear htm hem hnm
  have hps := E.out.s.lt
  have E := Lib.hid (show EnvL w.heap.size w _ _ from (E.out.below hb).push (X := ⟨A1, n1, c1, mo⟩) (CR.In.new hI hA hps))
  dsimp only [List.cons_append, List.nil_append] at E
  clear hSS hI hA hb hps
  clear x0 x1 x2 hlx
  clear y0 y1 y2 hly
  -- 20 the bound, _ the world before, w6 the world behind, N the number
  go_wp2_with fail
  refine (n_any w.heap.size 20 _ (by exact E.out.s) (by omega) (by omega)).mono ?_
  rintro e w6 ⟨z, hz0, hz1, rfl, hS, hk⟩
  have E := Lib.hid (E.out.kept hS hk)
  obtain ⟨N, rfl⟩ := Int.eq_ofNat_of_zero_le hz0
  have hbN : N < 20 := by omega
  clear hz0 hz1 hS hk
  obtain ⟨x0, x1, x2, hlx⟩ := (E.out.get 0 rfl).cells
  obtain ⟨y0, y1, y2, hly⟩ := (E.out.get 1 rfl).cells
  go_wp2_with fail
  refine (pmin_any A B n m c d f.per f.inc g.per g.inc f.vals g.vals _ (by exact (E.out.get 0 rfl).inn.ints) (by exact (E.out.get 1 rfl).inn.ints) (by omega) (by omega)).mono ?_
  -- a curve is returned and laid into a new variable: w7 the world, a the curve, er1 its error, A2 n2 c2
  rintro e w7 ⟨a, er1, hSS, A2, n2, c2, rfl, hI, hA, hb⟩
  have sf := nf_pair Hf.out.ok Hg.out.ok (n := 12) (by omega) (by omega) (fun a ha => Hf.out.dvd ha) (fun b hb => Hg.out.dvd hb)
  have M1 := Lib.hid ((ExtS.made Hf.out.ok Hg.out.ok sf hSS).get (exV_up Hf.out.ok Hg.out.ok))
  have hn2 : n2 ≤ 400 := by
    have h2 : a.vals.length = n2 := hI.1
    rcases M1.out with ⟨_, h1, _⟩ | ⟨_, rfl⟩
    · have := h1.n2; omega
    · rw [← h2]; decide
  have hps := E.out.s.lt
  have E := Lib.hid (E.out.below hb)
  have hz1 := E.out.s.lt
  have HA1 := Lib.hid E.out.apart
  have Va := Lib.hid (show (CR.mk A2 n2 c2 a).In w.heap.size _ from (CR.In.new (x := ⟨A2, n2, c2, a⟩) hI hA hps).alloc (.cells #[.slice A2 n2 c2, .int .i64 a.per, .int .i64 a.inc] 41))
  have Ba := Lib.hid (Blk.new w7 41 #[.slice A2 n2 c2, .int .i64 a.per, .int .i64 a.inc])
  have E := Lib.hid (E.out.alloc (.cells #[.slice A2 n2 c2, .int .i64 a.per, .int .i64 a.inc] 41))
  clear hSS hI hA hb hps sf
  go_upto_region 8 with fail
  generalize hwe : w7.alloc (.cells #[.slice A2 n2 c2, .int .i64 a.per, .int .i64 a.inc] 41) = wf at *
  clear hwe
  generalize w7.heap.size = Z1 at *
  clear x0 x1 x2 hlx
  clear y0 y1 y2 hly
  obtain ⟨x0, x1, x2, hlx⟩ := (E.out.get 3 rfl).cells
  obtain ⟨y0, y1, y2, hly⟩ := (E.out.get 1 rfl).cells
  go_wp2_with fail
  refine (pmin_any A1 B n1 m c1 d mo.per mo.inc g.per g.inc mo.vals g.vals _ (by exact (E.out.get 3 rfl).inn.ints) (by exact (E.out.get 1 rfl).inn.ints) (by omega) (by omega)).mono ?_
  -- a curve is returned and laid into a new variable: w8 the world, b the curve, er2 its error, A3 n3 c3
  rintro e w8 ⟨b, er2, hSS, A3, n3, c3, rfl, hI, hA, hb⟩
  have M2 := Lib.hid (show (er2 = 0 ∧ b.Ok ∧ NF (exV true mo g) b) ∨ (er2 = 3 ∧ b = Cv.none) from by
    rcases hSS with ⟨h1, h2, h3⟩ | ⟨h1, h2, a', b', ha', hb', h3⟩
    · exact absurd ⟨HTM.out.ok, Hg.out.ok⟩ h1
    · rcases h3 with ⟨_, h4, h5⟩ | ⟨_, h4⟩
      · exact .inr ⟨h5, h4⟩
      · have h5 : MadeL (exV true a' b') b er2 := h4
        rw [exV_nf h1 h2 ha' hb'] at h5
        exact h5.get (exV_up h1 h2))
  have hn3 : n3 ≤ 400 := by
    have h2 : b.vals.length = n3 := hI.1
    rcases M2.out with ⟨_, h1, _⟩ | ⟨_, rfl⟩
    · have := h1.n2; omega
    · rw [← h2]; decide
  have hps := E.out.s.lt
  have E := Lib.hid (E.out.below hb)
  have hz2 := E.out.s.lt
  have HA2 := Lib.hid E.out.apart
  have hz12 : Z1 < w8.heap.size := (Ba.out.below hb Ba.out.lt).lt
  have Vb := Lib.hid (show (CR.mk A3 n3 c3 b).In w.heap.size _ from (CR.In.new (x := ⟨A3, n3, c3, b⟩) hI hA hps).alloc (.cells #[.slice A3 n3 c3, .int .i64 b.per, .int .i64 b.inc] 41))
  have Bb := Lib.hid (Blk.new w8 41 #[.slice A3 n3 c3, .int .i64 b.per, .int .i64 b.inc])
  have Ba := Lib.hid ((Ba.out.below hb Ba.out.lt).alloc (.cells #[.slice A3 n3 c3, .int .i64 b.per, .int .i64 b.inc] 41))
  have Va := Lib.hid ((Va.out.below hb).alloc (.cells #[.slice A3 n3 c3, .int .i64 b.per, .int .i64 b.inc] 41))
  have E := Lib.hid (E.out.alloc (.cells #[.slice A3 n3 c3, .int .i64 b.per, .int .i64 b.inc] 41))
  clear hSS hI hA hb hps
  go_upto_region 9 with fail
  generalize hwe : w8.alloc (.cells #[.slice A3 n3 c3, .int .i64 b.per, .int .i64 b.inc] 41) = wg at *
  clear hwe
  generalize w8.heap.size = Z2 at *
  clear x0 x1 x2 hlx
  clear y0 y1 y2 hly
  go_cut [63] (fun s63 wx => s63 = .bool false ∧ EnvL w.heap.size w wx [(w4.heap.size, ⟨A, n, c, f⟩), (w4.heap.size + 1, ⟨B, m, d, g⟩), (w4.heap.size + 1 + 1, ⟨D, k, q, h⟩), (w5.heap.size, ⟨A1, n1, c1, mo⟩)] ∧
    Blk wx Z1 41 #[.slice A2 n2 c2, .int .i64 a.per, .int .i64 a.inc] ∧ Blk wx Z2 41 #[.slice A3 n3 c3, .int .i64 b.per, .int .i64 b.inc])
  case first =>
    -- the cells of the variable a (block fact Ba)
    obtain ⟨⟨x0, x1, x2⟩, ⟨x3, x4, x5⟩, hlx⟩ := Ba.out.c3
    -- the cells of the variable b (block fact Bb)
    obtain ⟨⟨y0, y1, y2⟩, ⟨y3, y4, y5⟩, hly⟩ := Bb.out.c3
    rcases M1.out with ⟨rfl, ho1, hx1⟩ | ⟨rfl, _⟩
    · rcases M2.out with ⟨rfl, ho2, hx2⟩ | ⟨rfl, _⟩
      · have HAM := Lib.hid (atM_of ho1 ho2 (min_mono Hf.out.ok HTM.out.ok Hg.out.ok ho1 ho2 hx1.ats hx2.ats HLE.out))
        clear ho1 hx1 ho2 hx2
        go_wp2_with fail
        refine (refAtMost_any A2 A3 n2 n3 c2 c3 a.per a.inc b.per b.inc a.vals b.vals _ (by exact Va.out.ints) (by exact Vb.out.ints) (by omega) (by omega)).mono ?_
        intro e wq hr
        obtain ⟨rfl, hb⟩ := RetM.of HAM.out hr
        have E := Lib.hid (E.out.below hb)
        have Ba := Lib.hid (Ba.out.below hb Ba.out.lt); have Bb := Lib.hid (Bb.out.below hb Bb.out.lt)
        clear hr hb
        go_wp2_with fail
        go_meet
        exact ⟨rfl, E.out, Ba.out, Bb.out⟩
      · clear ho1 hx1
        go_wp2_with fail
        go_meet
        exact ⟨rfl, E.out, Ba.out, Bb.out⟩
    · go_wp2_with fail
      go_meet
      exact ⟨rfl, E.out, Ba.out, Bb.out⟩
  case rest =>
  clear E Ba Bb Va Vb
  obtain ⟨rfl, hE, hBa, hBb⟩ := hcut
  have E := Lib.hid hE; have Ba := Lib.hid hBa; have Bb := Lib.hid hBb
  clear hE hBa hBb
  obtain ⟨x0, x1, x2, hlx⟩ := (E.out.get 0 rfl).cells
  go_wp2_with fail
  refine (platerF_any A n c f.per f.inc (N : Int) f.vals _ (by exact (E.out.get 0 rfl).inn.ints) (by omega)).mono ?_
  -- a curve is returned and laid into a new variable: w9 the world, la the curve, er its error, A2 n2 c2
  rintro e w9 ⟨la, er, hSS, A2, n2, c2, rfl, hI, hA, hb⟩
  obtain ⟨rfl, hol, hal⟩ := tame_later HTF.out (by omega) hSS
  have hn2 : n2 ≤ 400 := by have h1 := hol.n2; have h2 : la.vals.length = n2 := hI.1; omega
  have HOL := Lib.hid hol; have HAL := Lib.hid hal
  have hq1 := Ba.out.lt; have hq2 := Bb.out.lt; have hps := E.out.s.lt
  have XO1 := Lib.hid (CR.Off.of_ge (x := ⟨A2, n2, c2, la⟩) hA hq1); have XO2 := Lib.hid (CR.Off.of_ge (x := ⟨A2, n2, c2, la⟩) hA hq2)
  have Va := Lib.hid (show (CR.mk A2 n2 c2 la).In w.heap.size w9 from CR.In.new hI hA hps)
  have E := Lib.hid (E.out.below hb)
  have Ba := Lib.hid (Ba.out.below hb Ba.out.lt); have Bb := Lib.hid (Bb.out.below hb Bb.out.lt)
  clear hSS hI hA hb hol hal hps hq1 hq2
  clear x0 x1 x2 hlx
  -- the cells of the variable a (block fact Ba)
  obtain ⟨⟨x0, x1, x2⟩, ⟨x3, x4, x5⟩, hlx⟩ := Ba.out.c3
  go_upto_region 12 with fail
  clear x0 x1 x2 x3 x4 x5 hlx
  have E := Lib.hid (E.out.far3 (Nat.le_of_lt hz1) hz1 HA1.out (.slice A2 n2 c2) (.int .i64 la.per) (.int .i64 la.inc))
  have Ba := Lib.hid (Ba.out.store3 (.slice A2 n2 c2) (.int .i64 la.per) (.int .i64 la.inc))
  have Bb := Lib.hid (Bb.out.far3c (g := Z1) (by omega) (.slice A2 n2 c2) (.int .i64 la.per) (.int .i64 la.inc))
  have Va := Lib.hid (Va.out.far3 XO1.out (.slice A2 n2 c2) (.int .i64 la.per) (.int .i64 la.inc))
  generalize hwe : ((w9.setCell ⟨Z1, 0, none⟩ (.slice A2 n2 c2)).setCell ⟨Z1, 1, none⟩ (.int .i64 la.per)).setCell ⟨Z1, 2, none⟩ (.int .i64 la.inc) = wh at *
  clear hwe XO1
  obtain ⟨x0, x1, x2, hlx⟩ := (E.out.get 3 rfl).cells
  go_wp2_with fail
  refine (platerF_any A1 n1 c1 mo.per mo.inc (N : Int) mo.vals _ (by exact (E.out.get 3 rfl).inn.ints) (by omega)).mono ?_
  -- a curve is returned and laid into a new variable: w10 the world, lb the curve, er its error, A3 n3 c3
  rintro e w10 ⟨lb, er, hSS, A3, n3, c3, rfl, hI, hA, hb⟩
  obtain ⟨rfl, hol, hal⟩ := tame_later HTM.out (by omega) hSS
  have hn3 : n3 ≤ 400 := by have h1 := hol.n2; have h2 : lb.vals.length = n3 := hI.1; omega
  have HLL := Lib.hid (atM_of HOL.out hol (later_mono (by omega) Hf.out.ok HTM.out.ok HOL.out hol HAL.out hal HLE.out))
  have hq2 := Bb.out.lt; have hps := E.out.s.lt
  have XO3 := Lib.hid (CR.Off.of_ge (x := ⟨A3, n3, c3, lb⟩) hA hq2)
  have Vb := Lib.hid (show (CR.mk A3 n3 c3 lb).In w.heap.size w10 from CR.In.new hI hA hps)
  have E := Lib.hid (E.out.below hb)
  have Va := Lib.hid (Va.out.below hb)
  have Ba := Lib.hid (Ba.out.below hb Ba.out.lt); have Bb := Lib.hid (Bb.out.below hb Bb.out.lt)
  clear hSS hI hA hb hol hal hps hq2 HOL HAL
  clear x0 x1 x2 hlx
  -- the cells of the variable b (block fact Bb)
  obtain ⟨⟨x0, x1, x2⟩, ⟨x3, x4, x5⟩, hlx⟩ := Bb.out.c3
  go_upto_region 13 with fail
  clear x0 x1 x2 x3 x4 x5 hlx
  have E := Lib.hid (E.out.far3 (Nat.le_of_lt hz2) hz2 HA2.out (.slice A3 n3 c3) (.int .i64 lb.per) (.int .i64 lb.inc))
  have Bb := Lib.hid (Bb.out.store3 (.slice A3 n3 c3) (.int .i64 lb.per) (.int .i64 lb.inc))
  have Ba := Lib.hid (Ba.out.far3c (g := Z2) (by omega) (.slice A3 n3 c3) (.int .i64 lb.per) (.int .i64 lb.inc))
  have Va := Lib.hid (Va.out.far3 XO2.out (.slice A3 n3 c3) (.int .i64 lb.per) (.int .i64 lb.inc))
  have Vb := Lib.hid (Vb.out.far3 XO3.out (.slice A3 n3 c3) (.int .i64 lb.per) (.int .i64 lb.inc))
  generalize hwe : ((w10.setCell ⟨Z2, 0, none⟩ (.slice A3 n3 c3)).setCell ⟨Z2, 1, none⟩ (.int .i64 lb.per)).setCell ⟨Z2, 2, none⟩ (.int .i64 lb.inc) = wi at *
  clear hwe XO2 XO3 HA1 HA2 hz1 hz2
  obtain ⟨x0, x1, x2, hlx⟩ := (E.out.get 0 rfl).cells
  go_wp2_with fail
  refine (plower_any A n c f.per f.inc (N : Int) f.vals _ (by exact (E.out.get 0 rfl).inn.ints) (by omega)).mono ?_
  -- a curve is returned and laid into a new variable: w11 the world, ua the curve, er its error, A4 n4 c4
  rintro e w11 ⟨ua, er, hSS, A4, n4, c4, rfl, hI, hA, hb⟩
  obtain ⟨rfl, hol, hal⟩ := tame_lower HTF.out (by omega) (by omega) hSS
  have hn4 : n4 ≤ 400 := by have h1 := hol.n2; have h2 : ua.vals.length = n4 := hI.1; omega
  have HOL := Lib.hid hol; have HAL := Lib.hid hal
  clear hol hal
  -- the variables a and b stay behind a call and a new variable with the curve ua
  have Ba := Lib.hid ((Ba.out.below hb Ba.out.lt).alloc (.cells #[.slice A4 n4 c4, .int .i64 ua.per, .int .i64 ua.inc] 41))
  have Bb := Lib.hid ((Bb.out.below hb Bb.out.lt).alloc (.cells #[.slice A4 n4 c4, .int .i64 ua.per, .int .i64 ua.inc] 41))
  have Va := Lib.hid ((Va.out.below hb).alloc (.cells #[.slice A4 n4 c4, .int .i64 ua.per, .int .i64 ua.inc] 41))
  have Vb := Lib.hid ((Vb.out.below hb).alloc (.cells #[.slice A4 n4 c4, .int .i64 ua.per, .int .i64 ua.inc] 41))
  have hps := E.out.s.lt
  have E := Lib.hid (show EnvL w.heap.size w _ _ from (E.out.below hb).push (X := ⟨A4, n4, c4, ua⟩) (CR.In.new hI hA hps))
  dsimp only [List.cons_append, List.nil_append] at E
  clear hSS hI hA hb hps
  clear x0 x1 x2 hlx
  obtain ⟨x0, x1, x2, hlx⟩ := (E.out.get 3 rfl).cells
  go_wp2_with fail
  refine (plower_any A1 n1 c1 mo.per mo.inc (N : Int) mo.vals _ (by exact (E.out.get 3 rfl).inn.ints) (by omega)).mono ?_
  -- a curve is returned and laid into a new variable: w12 the world, ub the curve, er its error, A5 n5 c5
  rintro e w12 ⟨ub, er, hSS, A5, n5, c5, rfl, hI, hA, hb⟩
  obtain ⟨rfl, hol, hal⟩ := tame_lower HTM.out (by omega) (by omega) hSS
  have hn5 : n5 ≤ 400 := by have h1 := hol.n2; have h2 : ub.vals.length = n5 := hI.1; omega
  have HUU := Lib.hid (atM_of HOL.out hol (lower_mono (by omega) Hf.out.ok HTM.out.ok HOL.out hol HAL.out hal HLE.out))
  clear hol hal HOL HAL
  -- the variables a and b stay behind a call and a new variable with the curve ub
  have Ba := Lib.hid ((Ba.out.below hb Ba.out.lt).alloc (.cells #[.slice A5 n5 c5, .int .i64 ub.per, .int .i64 ub.inc] 41))
  have Bb := Lib.hid ((Bb.out.below hb Bb.out.lt).alloc (.cells #[.slice A5 n5 c5, .int .i64 ub.per, .int .i64 ub.inc] 41))
  have Va := Lib.hid ((Va.out.below hb).alloc (.cells #[.slice A5 n5 c5, .int .i64 ub.per, .int .i64 ub.inc] 41))
  have Vb := Lib.hid ((Vb.out.below hb).alloc (.cells #[.slice A5 n5 c5, .int .i64 ub.per, .int .i64 ub.inc] 41))
  have hps := E.out.s.lt
  have E := Lib.hid (show EnvL w.heap.size w _ _ from (E.out.below hb).push (X := ⟨A5, n5, c5, ub⟩) (CR.In.new hI hA hps))
  dsimp only [List.cons_append, List.nil_append] at E
  clear hSS hI hA hb hps
  clear x0 x1 x2 hlx
  obtain ⟨x0, x1, x2, hlx⟩ := (E.out.get 0 rfl).cells
  go_wp2_with fail
  refine (paheadF_any A n c f.per f.inc (N : Int) f.vals _ (by exact (E.out.get 0 rfl).inn.ints) (by omega)).mono ?_
  -- a curve is returned and laid into a new variable: w13 the world, va the curve, er its error, A6 n6 c6
  rintro e w13 ⟨va, er, hSS, A6, n6, c6, rfl, hI, hA, hb⟩
  obtain ⟨rfl, hol, hal⟩ := tame_ahead HTF.out (by omega) hSS
  have hn6 : n6 ≤ 400 := by have h1 := hol.n2; have h2 : va.vals.length = n6 := hI.1; omega
  have HOL := Lib.hid hol; have HAL := Lib.hid hal
  clear hol hal
  -- the variables a and b stay behind a call and a new variable with the curve va
  have Ba := Lib.hid ((Ba.out.below hb Ba.out.lt).alloc (.cells #[.slice A6 n6 c6, .int .i64 va.per, .int .i64 va.inc] 41))
  have Bb := Lib.hid ((Bb.out.below hb Bb.out.lt).alloc (.cells #[.slice A6 n6 c6, .int .i64 va.per, .int .i64 va.inc] 41))
  have Va := Lib.hid ((Va.out.below hb).alloc (.cells #[.slice A6 n6 c6, .int .i64 va.per, .int .i64 va.inc] 41))
  have Vb := Lib.hid ((Vb.out.below hb).alloc (.cells #[.slice A6 n6 c6, .int .i64 va.per, .int .i64 va.inc] 41))
  have hps := E.out.s.lt
  have E := Lib.hid (show EnvL w.heap.size w _ _ from (E.out.below hb).push (X := ⟨A6, n6, c6, va⟩) (CR.In.new hI hA hps))
  dsimp only [List.cons_append, List.nil_append] at E
  clear hSS hI hA hb hps
  clear x0 x1 x2 hlx
  obtain ⟨x0, x1, x2, hlx⟩ := (E.out.get 3 rfl).cells
  go_wp2_with fail
  refine (paheadF_any A1 n1 c1 mo.per mo.inc (N : Int) mo.vals _ (by exact (E.out.get 3 rfl).inn.ints) (by omega)).mono ?_
  -- a curve is returned and laid into a new variable: w14 the world, vb the curve, er its error, A7 n7 c7
  rintro e w14 ⟨vb, er, hSS, A7, n7, c7, rfl, hI, hA, hb⟩
  obtain ⟨rfl, hol, hal⟩ := tame_ahead HTM.out (by omega) hSS
  have hn7 : n7 ≤ 400 := by have h1 := hol.n2; have h2 : vb.vals.length = n7 := hI.1; omega
  have HVV := Lib.hid (atM_of HOL.out hol (ahead_mono (by omega) Hf.out.ok HTM.out.ok HOL.out hol HAL.out hal HLE.out))
  clear hol hal HOL HAL
  -- the variables a and b stay behind a call and a new variable with the curve vb
  have Ba := Lib.hid ((Ba.out.below hb Ba.out.lt).alloc (.cells #[.slice A7 n7 c7, .int .i64 vb.per, .int .i64 vb.inc] 41))
  have Bb := Lib.hid ((Bb.out.below hb Bb.out.lt).alloc (.cells #[.slice A7 n7 c7, .int .i64 vb.per, .int .i64 vb.inc] 41))
  have Va := Lib.hid ((Va.out.below hb).alloc (.cells #[.slice A7 n7 c7, .int .i64 vb.per, .int .i64 vb.inc] 41))
  have Vb := Lib.hid ((Vb.out.below hb).alloc (.cells #[.slice A7 n7 c7, .int .i64 vb.per, .int .i64 vb.inc] 41))
  have hps := E.out.s.lt
  have E := Lib.hid (show EnvL w.heap.size w _ _ from (E.out.below hb).push (X := ⟨A7, n7, c7, vb⟩) (CR.In.new hI hA hps))
  dsimp only [List.cons_append, List.nil_append] at E
  clear hSS hI hA hb hps
  clear x0 x1 x2 hlx
  -- the cells of the variable a (block fact Ba)
  obtain ⟨⟨x0, x1, x2⟩, ⟨x3, x4, x5⟩, hlx⟩ := Ba.out.c3
  -- the cells of the variable b (block fact Bb)
  obtain ⟨⟨y0, y1, y2⟩, ⟨y3, y4, y5⟩, hly⟩ := Bb.out.c3
  go_wp2_with fail
  refine (refAtMost_any A2 A3 n2 n3 c2 c3 la.per la.inc lb.per lb.inc la.vals lb.vals _ (by exact Va.out.ints) (by exact Vb.out.ints) (by omega) (by omega)).mono ?_
  intro e wq hr
  obtain ⟨rfl, hb⟩ := RetM.of HLL.out hr
  have E := Lib.hid (E.out.below hb)
  clear hr hb Ba Bb Va Vb
  clear x0 x1 x2 x3 x4 x5 hlx
  clear y0 y1 y2 y3 y4 y5 hly
  obtain ⟨x0, x1, x2, hlx⟩ := (E.out.get 4 rfl).cells
  obtain ⟨y0, y1, y2, hly⟩ := (E.out.get 5 rfl).cells
  go_wp2_with fail
  refine (refAtMost_any A4 A5 n4 n5 c4 c5 ua.per ua.inc ub.per ub.inc ua.vals ub.vals _ (by exact (E.out.get 4 rfl).inn.ints) (by exact (E.out.get 5 rfl).inn.ints) (by omega) (by omega)).mono ?_
  intro e wr hr
  obtain ⟨rfl, hb⟩ := RetM.of HUU.out hr
  have E := Lib.hid (E.out.below hb)
  clear hr hb
  clear x0 x1 x2 hlx
  clear y0 y1 y2 hly
  obtain ⟨x0, x1, x2, hlx⟩ := (E.out.get 6 rfl).cells
  obtain ⟨y0, y1, y2, hly⟩ := (E.out.get 7 rfl).cells
  go_wp2_with fail
  refine (refAtMost_any A6 A7 n6 n7 c6 c7 va.per va.inc vb.per vb.inc va.vals vb.vals _ (by exact (E.out.get 6 rfl).inn.ints) (by exact (E.out.get 7 rfl).inn.ints) (by omega) (by omega)).mono ?_
  intro e ws hr
  obtain ⟨rfl, hb⟩ := RetM.of HVV.out hr
  have E := Lib.hid (E.out.below hb)
  clear hr hb
  clear x0 x1 x2 hlx
  clear y0 y1 y2 hly
  go_wp2_with fail
  refine (awake5_any _).mono ?_
  rintro e wq ⟨rfl, hb⟩
  have bw := (E.out.below hb).fin
  go_wp2_with fail
  go_ret
  exact ⟨rfl, bw⟩
end Go.Proofs.Ytmieikfmbnaoaaa
