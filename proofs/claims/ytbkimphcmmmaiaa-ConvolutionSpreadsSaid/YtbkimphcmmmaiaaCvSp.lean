/- The statement ConvolutionSpreads: the walk. -/
import Derived.Test.YtbkimphcmmmaiaaAwake7
import Derived.Test.YtbkimphcmmmaiaaEnvL2
import Derived.Test.YtbkimphcmmmaiaaRefMn
import Derived.Test.YtbkimphcmmmaiaaSpLaw
import Derived.Test.YtbkimphcmmmaiaaRefLater
import Derived.Test.YtbkimphcmmmaiaaZero
import Derived.BigRegion
namespace Go.Proofs.Ytbkimphcmmmaiaa
open Go.RowKit
set_option linter.unusedVariables false
attribute [local go_sem ↓] app_fold
theorem EnvL.bare {p : Nat} {w0 w : World} {vs : List (Nat × CR)} (h : EnvL p w0 w vs) : EnvL p w0 w [] := ⟨h.s, h.k, fun x hx => by cases hx⟩
theorem EnvL.front {p : Nat} {w0 w : World} {vs us : List (Nat × CR)} (h : EnvL p w0 w (vs ++ us)) : EnvL p w0 w vs := ⟨h.s, h.k, fun x hx => h.v x (List.mem_append_left _ hx)⟩
set_option maxHeartbeats 4000000 in
set_option maxRecDepth 100000 in
theorem cvSp_any (A0 : Option Addr) (n0 c0 : Nat) (L : List Int) (w : World) (hL : Ints w w.heap.size A0 n0 L) (hc0 : n0 ≤ c0) (hn0 : (n0 : Int) ≤ 9223372036854775807) :
    Calls Try.prog 6 #[.slice A0 n0 c0] w fun e w' => e = .returned (.bool true) ∧ Below w.heap.size w w' := by
  go_enter Try.func6, Try.ntmps6
  go_wp2_with fail
  refine (new_any A0 n0 c0 L w hL hc0 hn0).mono ?_
  rintro e w1 ⟨rfl, hS1, hb1⟩
  have E := Lib.hid (EnvL.start hS1 hb1)
  clear hL hS1 hb1
  -- a curve drawn, not yet in a variable: srcCurve2_any the contract, 4 most, _ w2 the worlds, f the curve, A n c, DrawC 4 f its facts
  go_wp2_with fail
  refine (srcCurve2_any w.heap.size 4 _ (by exact E.out.s) (by omega) (by omega)).mono ?_
  rintro e w2 ⟨f, A, n, c, hD, hcf, rfl, hI, hA, hS, hk⟩
  have hps := E.out.s.lt
  have E := Lib.hid (E.out.kept hS hk)
  have Vf := Lib.hid (show (CR.mk A n c f).In w.heap.size w2 from CR.In.new hI hA hps)
  have Hf := Lib.hid (show DrawC 4 f from hD)
  have HCf := Lib.hid hcf
  have hlenf := hI.1
  try simp only at hlenf
  have hnl : n ≤ 20 := by have h1 := Hf.out.len; omega
  clear hlenf
  clear hD hI hA hS hk hps hcf
  -- a curve drawn, not yet in a variable: srcCurve2_any the contract, 4 most, _ w3 the worlds, g the curve, B m d, DrawC 4 g its facts
  go_wp2_with fail
  refine (srcCurve2_any w.heap.size 4 _ (by exact E.out.s) (by omega) (by omega)).mono ?_
  rintro e w3 ⟨g, B, m, d, hD, hcf, rfl, hI, hA, hS, hk⟩
  have hps := E.out.s.lt
  have E := Lib.hid (E.out.kept hS hk)
  have Vg := Lib.hid (show (CR.mk B m d g).In w.heap.size w3 from CR.In.new hI hA hps)
  have Hg := Lib.hid (show DrawC 4 g from hD)
  have HCg := Lib.hid hcf
  have hleng := hI.1
  try simp only at hleng
  have hml : m ≤ 20 := by have h1 := Hg.out.len; omega
  clear hleng
  have Vf := Lib.hid (Vf.out.kept hk)
  clear hD hI hA hS hk hps hcf
  -- a curve drawn, not yet in a variable: srcCurve2_any the contract, 4 most, _ w4 the worlds, h the curve, C l k, DrawC 4 h its facts
  go_wp2_with fail
  refine (srcCurve2_any w.heap.size 4 _ (by exact E.out.s) (by omega) (by omega)).mono ?_
  rintro e w4 ⟨h, C, l, k, hD, hcf, rfl, hI, hA, hS, hk⟩
  have hps := E.out.s.lt
  have E := Lib.hid (E.out.kept hS hk)
  have Vh := Lib.hid (show (CR.mk C l k h).In w.heap.size w4 from CR.In.new hI hA hps)
  have Hh := Lib.hid (show DrawC 4 h from hD)
  have HCh := Lib.hid hcf
  have hlenh := hI.1
  try simp only at hlenh
  have hll : l ≤ 20 := by have h1 := Hh.out.len; omega
  clear hlenh
  have Vf := Lib.hid (Vf.out.kept hk)
  have Vg := Lib.hid (Vg.out.kept hk)
  clear hD hI hA hS hk hps hcf
  have hpf := E.out.s.lt
  have E := Lib.hid (show EnvL w.heap.size w _ _ from E.out.push (X := ⟨A, n, c, f⟩) Vf.out)
  dsimp only [List.cons_append, List.nil_append] at E
  have Vg := Lib.hid (Vg.out.alloc (.cells #[.slice A n c, .int .i64 f.per, .int .i64 f.inc] 31))
  have Vh := Lib.hid (Vh.out.alloc (.cells #[.slice A n c, .int .i64 f.per, .int .i64 f.inc] 31))
  have E := Lib.hid (show EnvL w.heap.size w _ _ from E.out.push (X := ⟨B, m, d, g⟩) Vg.out)
  dsimp only [List.cons_append, List.nil_append] at E
  have Vh := Lib.hid (Vh.out.alloc (.cells #[.slice B m d, .int .i64 g.per, .int .i64 g.inc] 31))
  have E := Lib.hid (show EnvL w.heap.size w _ _ from E.out.push (X := ⟨C, l, k, h⟩) Vh.out)
  dsimp only [List.cons_append, List.nil_append] at E
  clear Vf Vg Vh
  go_upto_region 3 with fail
  simp only [World.size_alloc] at E
  generalize hwe : ((w4.alloc (.cells #[.slice A n c, .int .i64 f.per, .int .i64 f.inc] 31)).alloc (.cells #[.slice B m d, .int .i64 g.per, .int .i64 g.inc] 31)).alloc (.cells #[.slice C l k, .int .i64 h.per, .int .i64 h.inc] 31) = we at *
  clear hwe
  have hfg : w4.heap.size < w4.heap.size + 1 := by omega
  generalize w4.heap.size + 1 + 1 = ZH at *
  generalize w4.heap.size + 1 = ZG at *
  generalize w4.heap.size = ZF at *
  have OKF := Lib.hid Hf.out.ok; have OKG := Lib.hid Hg.out.ok; have OKH := Lib.hid Hh.out.ok
  -- Minimum: g .. d the first curve and its slice, h .. k the second one, 1 2 places, w5 .. c3 the result: world, curve, A n c; 4 the next region; em the error's name; HCg.out HCh.out n <= c
  obtain ⟨x0, x1, x2, hlx⟩ := (E.out.get 1 rfl).cells
  obtain ⟨y0, y1, y2, hly⟩ := (E.out.get 2 rfl).cells
  go_wp2_with fail
  refine (refMin_any B C m l d k g.per g.inc h.per h.inc g.vals h.vals _ (by exact (E.out.get 1 rfl).inn.ints) (by exact (E.out.get 2 rfl).inn.ints) (by omega) (by omega) HCg.out HCh.out).mono ?_
  rintro e w5 ⟨mm, em, A3, n3, c3, hSS, hle, rfl, hI, hA, hb⟩
  have Smm := Lib.hid (show ExtS true g h mm em from hSS)
  have HCmm := Lib.hid hle
  have hps := E.out.s.lt
  have E := Lib.hid (show EnvL w.heap.size w _ _ from (E.out.below hb).push (X := ⟨A3, n3, c3, mm⟩) (CR.In.new hI hA hps))
  dsimp only [List.cons_append, List.nil_append] at E
  clear hSS hI hA hb hps hle x0 x1 x2 hlx y0 y1 y2 hly
  go_upto_region 4 with fail
  generalize hwe : w5.alloc (.cells #[.slice A3 n3 c3, .int .i64 mm.per, .int .i64 mm.inc] 31) = we at *
  clear hwe
  generalize w5.heap.size = Zmm at *
  have hl3 : n3 ≤ 400 := by
    have h2 : mm.vals.length = n3 := (E.out.get 3 rfl).inn.ints.1
    rcases ext_er2 OKG.out OKH.out Smm.out with ⟨_, h1⟩ | ⟨_, h1⟩
    · have := h1.n2; omega
    · have h3 : mm.vals.length = 0 := by rw [h1]; rfl
      omega
  -- convolution.Of: f .. c the first curve and its slice, g .. d the second one, 0 1 places, w6 .. c4 the result: world, curve, A n c; 5 the next region; ea the error's name
  obtain ⟨x0, x1, x2, hlx⟩ := (E.out.get 0 rfl).cells
  obtain ⟨y0, y1, y2, hly⟩ := (E.out.get 1 rfl).cells
  go_wp2_with fail
  refine (cvfn_any A B n m c d f.per f.inc g.per g.inc f.vals g.vals _ (by exact (E.out.get 0 rfl).inn.ints) (by exact (E.out.get 1 rfl).inn.ints) (by omega) (by omega)).mono ?_
  rintro e w6 ⟨a, ea, hSS, A4, n4, c4, hle, rfl, hI, hA, hb⟩
  have Sa := Lib.hid (show CvS f g a ea from hSS)
  have HCa := Lib.hid hle
  have hps := E.out.s.lt
  have E := Lib.hid (show EnvL w.heap.size w _ _ from (E.out.below hb).push (X := ⟨A4, n4, c4, a⟩) (CR.In.new hI hA hps))
  dsimp only [List.cons_append, List.nil_append] at E
  clear hSS hI hA hb hps hle x0 x1 x2 hlx y0 y1 y2 hly
  go_upto_region 5 with fail
  generalize hwe : w6.alloc (.cells #[.slice A4 n4 c4, .int .i64 a.per, .int .i64 a.inc] 31) = we at *
  clear hwe
  generalize w6.heap.size = Za at *
  have hl4 : n4 ≤ 400 := by have h1 := cvS_len OKF.out OKG.out Sa.out; have h2 : a.vals.length = n4 := (E.out.get 4 rfl).inn.ints.1; omega
  -- convolution.Of: f .. c the first curve and its slice, h .. k the second one, 0 2 places, w7 .. c5 the result: world, curve, A n c; 6 the next region; eb the error's name
  obtain ⟨x0, x1, x2, hlx⟩ := (E.out.get 0 rfl).cells
  obtain ⟨y0, y1, y2, hly⟩ := (E.out.get 2 rfl).cells
  go_wp2_with fail
  refine (cvfn_any A C n l c k f.per f.inc h.per h.inc f.vals h.vals _ (by exact (E.out.get 0 rfl).inn.ints) (by exact (E.out.get 2 rfl).inn.ints) (by omega) (by omega)).mono ?_
  rintro e w7 ⟨b, eb, hSS, A5, n5, c5, hle, rfl, hI, hA, hb⟩
  have Sb := Lib.hid (show CvS f h b eb from hSS)
  have HCb := Lib.hid hle
  have hps := E.out.s.lt
  have hzb := ((E.out.below hb).get 1 rfl).lt
  have E := Lib.hid (show EnvL w.heap.size w _ _ from (E.out.below hb).push (X := ⟨A5, n5, c5, b⟩) (CR.In.new hI hA hps))
  dsimp only [List.cons_append, List.nil_append] at E
  clear hSS hI hA hb hps hle x0 x1 x2 hlx y0 y1 y2 hly
  go_upto_region 6 with fail
  generalize hwe : w7.alloc (.cells #[.slice A5 n5 c5, .int .i64 b.per, .int .i64 b.inc] 31) = we at *
  clear hwe
  generalize w7.heap.size = Zb at *
  have hl5 : n5 ≤ 400 := by have h1 := cvS_len OKF.out OKH.out Sb.out; have h2 : b.vals.length = n5 := (E.out.get 5 rfl).inn.ints.1; omega
  have em3 := Lib.hid (ext_er2 OKG.out OKH.out Smm.out); have ea3 := Lib.hid (cv_er2 OKF.out OKG.out Sa.out); have eb3 := Lib.hid (cv_er2 OKF.out OKH.out Sb.out)
  go_cut [59] (fun s59 wx => ∃ z : Bool, s59 = .bool z ∧ Hid (z = true → em = 0 ∧ ea = 0 ∧ eb = 0) ∧ EnvL w.heap.size w wx [(ZF, ⟨A, n, c, f⟩), (ZG, ⟨B, m, d, g⟩), (ZH, ⟨C, l, k, h⟩), (Zmm, ⟨A3, n3, c3, mm⟩), (Za, ⟨A4, n4, c4, a⟩), (Zb, ⟨A5, n5, c5, b⟩)])
  case first =>
    rcases em3.out with ⟨rfl, _⟩ | ⟨rfl, _⟩
    case inr =>
      go_wp2_with fail
      go_meet
      exact ⟨_, rfl, Lib.hid (fun h => by cases h), E.out⟩
    case inl =>
    rcases ea3.out with ⟨rfl, _⟩ | ⟨rfl, _⟩
    case inr =>
      go_wp2_with fail
      go_meet
      exact ⟨_, rfl, Lib.hid (fun h => by cases h), E.out⟩
    case inl =>
    rcases eb3.out with ⟨rfl, _⟩ | ⟨rfl, _⟩
    case inr =>
      go_wp2_with fail
      go_meet
      exact ⟨_, rfl, Lib.hid (fun h => by cases h), E.out⟩
    case inl =>
    go_wp2_with fail
    go_meet
    exact ⟨_, rfl, Lib.hid (fun _ => by simp), E.out⟩
  case rest =>
  obtain ⟨z, rfl, hz, hE⟩ := hcut
  clear E
  have E := Lib.hid hE
  clear hE
  go_upto_if 59 with (fail)
  go_cut [] (fun wx => EnvL w.heap.size w wx [(ZF, ⟨A, n, c, f⟩), (ZG, ⟨B, m, d, g⟩), (ZH, ⟨C, l, k, h⟩), (Zmm, ⟨A3, n3, c3, mm⟩), (Za, ⟨A4, n4, c4, a⟩), (Zb, ⟨A5, n5, c5, b⟩)])
  case first =>
    cases z
    case false =>
      go_wp2_with fail
      go_meet
      exact E.out
    case true =>
    obtain ⟨rfl, rfl, rfl⟩ := hz.out rfl
    have OKM := Lib.hid (ext_get Smm.out).2.2.1; have OKa := Lib.hid (cv_get Sa.out).2.2.1; have OKb := Lib.hid (cv_get Sb.out).2.2.1
    clear hz em3 ea3 eb3
    go_upto_region 7 with fail
    -- convolution.Of: f .. c the first curve and its slice, mm .. c3 the second one, 0 3 places, w8 .. c6 the result: world, curve, A n c; 8 the next region; ep the error's name
    obtain ⟨x0, x1, x2, hlx⟩ := (E.out.get 0 rfl).cells
    obtain ⟨y0, y1, y2, hly⟩ := (E.out.get 3 rfl).cells
    go_wp2_with fail
    refine (cvfn_any A A3 n n3 c c3 f.per f.inc mm.per mm.inc f.vals mm.vals _ (by exact (E.out.get 0 rfl).inn.ints) (by exact (E.out.get 3 rfl).inn.ints) (by omega) (by omega)).mono ?_
    rintro e w8 ⟨x, ep, hSS, A6, n6, c6, hle, rfl, hI, hA, hb⟩
    have Sx := Lib.hid (show CvS f mm x ep from hSS)
    have HCx := Lib.hid hle
    have hps := E.out.s.lt
    have E := Lib.hid (show EnvL w.heap.size w _ _ from (E.out.below hb).push (X := ⟨A6, n6, c6, x⟩) (CR.In.new hI hA hps))
    dsimp only [List.cons_append, List.nil_append] at E
    clear hSS hI hA hb hps hle x0 x1 x2 hlx y0 y1 y2 hly
    go_upto_region 8 with fail
    generalize hwe : w8.alloc (.cells #[.slice A6 n6 c6, .int .i64 x.per, .int .i64 x.inc] 31) = we at *
    clear hwe
    generalize w8.heap.size = Zx at *
    have hl6 : n6 ≤ 400 := by have h1 := cvS_len OKF.out OKM.out Sx.out; have h2 : x.vals.length = n6 := (E.out.get 6 rfl).inn.ints.1; omega
    -- Minimum: a .. c4 the first curve and its slice, b .. c5 the second one, 4 5 places, w9 .. c7 the result: world, curve, A n c; 9 the next region; eq the error's name; HCa.out HCb.out n <= c
    obtain ⟨x0, x1, x2, hlx⟩ := (E.out.get 4 rfl).cells
    obtain ⟨y0, y1, y2, hly⟩ := (E.out.get 5 rfl).cells
    go_wp2_with fail
    refine (refMin_any A4 A5 n4 n5 c4 c5 a.per a.inc b.per b.inc a.vals b.vals _ (by exact (E.out.get 4 rfl).inn.ints) (by exact (E.out.get 5 rfl).inn.ints) (by omega) (by omega) HCa.out HCb.out).mono ?_
    rintro e w9 ⟨y, eq, A7, n7, c7, hSS, hle, rfl, hI, hA, hb⟩
    have Sy := Lib.hid (show ExtS true a b y eq from hSS)
    have HCy := Lib.hid hle
    have hps := E.out.s.lt
    have E := Lib.hid (show EnvL w.heap.size w _ _ from (E.out.below hb).push (X := ⟨A7, n7, c7, y⟩) (CR.In.new hI hA hps))
    dsimp only [List.cons_append, List.nil_append] at E
    clear hSS hI hA hb hps hle x0 x1 x2 hlx y0 y1 y2 hly
    go_upto_region 9 with fail
    generalize hwe : w9.alloc (.cells #[.slice A7 n7 c7, .int .i64 y.per, .int .i64 y.inc] 31) = we at *
    clear hwe
    generalize w9.heap.size = Zy at *
    have fin := E.out
    have back : EnvL w.heap.size w we [(ZF, ⟨A, n, c, f⟩), (ZG, ⟨B, m, d, g⟩), (ZH, ⟨C, l, k, h⟩), (Zmm, ⟨A3, n3, c3, mm⟩), (Za, ⟨A4, n4, c4, a⟩), (Zb, ⟨A5, n5, c5, b⟩)] := EnvL.front (vs := [(ZF, ⟨A, n, c, f⟩), (ZG, ⟨B, m, d, g⟩), (ZH, ⟨C, l, k, h⟩), (Zmm, ⟨A3, n3, c3, mm⟩), (Za, ⟨A4, n4, c4, a⟩), (Zb, ⟨A5, n5, c5, b⟩)]) (us := [(Zx, ⟨A6, n6, c6, x⟩), (Zy, ⟨A7, n7, c7, y⟩)]) fin
    have BK := Lib.hid back
    clear fin back
    rcases cv_er2 OKF.out OKM.out Sx.out with ⟨rfl, _⟩ | ⟨rfl, _⟩
    case inr =>
      rcases ext_er2 OKa.out OKb.out Sy.out with ⟨rfl, _⟩ | ⟨rfl, _⟩
      all_goals
        go_wp2_with fail
        go_meet
        exact BK.out
    case inl =>
    rcases ext_er2 OKa.out OKb.out Sy.out with ⟨rfl, hyo⟩ | ⟨rfl, _⟩
    case inr =>
      go_wp2_with fail
      go_meet
      exact BK.out
    case inl =>
    have OKy := Lib.hid hyo
    clear hyo
    have hl7 : n7 ≤ 400 := by have h1 := OKy.out.n2; have h2 : y.vals.length = n7 := (E.out.get 7 rfl).inn.ints.1; omega
    have EXY := Lib.hid (cv_spread Smm.out Sa.out Sb.out Sx.out Sy.out)
    -- Same: x .. c6 the first curve and its slice, y .. c7 the second one, 6 7 places, EXY.out the equation of the curves
    obtain ⟨x0, x1, x2, hlx⟩ := (E.out.get 6 rfl).cells
    obtain ⟨y0, y1, y2, hly⟩ := (E.out.get 7 rfl).cells
    go_wp2_with fail
    refine (refSame_any A6 A7 n6 n7 c6 c7 x.per y.per x.inc y.inc x.vals y.vals _ (by exact (E.out.get 6 rfl).inn.ints) (by exact (E.out.get 7 rfl).inn.ints) (by omega) (by omega)).mono ?_
    rw [show Cv.same ⟨x.vals, x.per, x.inc⟩ ⟨y.vals, y.per, y.inc⟩ = true from (Cv.same_iff _ _).2 EXY.out]
    rintro e wq ⟨rfl, hb⟩
    have E := Lib.hid (E.out.below hb)
    clear hb x0 x1 x2 hlx y0 y1 y2 hly
    go_wp2_with fail
    go_meet
    exact EnvL.front (vs := [(ZF, ⟨A, n, c, f⟩), (ZG, ⟨B, m, d, g⟩), (ZH, ⟨C, l, k, h⟩), (Zmm, ⟨A3, n3, c3, mm⟩), (Za, ⟨A4, n4, c4, a⟩), (Zb, ⟨A5, n5, c5, b⟩)]) (us := [(Zx, ⟨A6, n6, c6, x⟩), (Zy, ⟨A7, n7, c7, y⟩)]) E.out
  case rest =>
  clear E hz em3 ea3 eb3
  have E := Lib.hid hcut
  clear hcut
  clear OKF OKG OKH Hf Hg Hh HCf HCg HCh Smm Sa Sb HCmm HCa HCb hnl hml hll hl3 hl4 hl5
  -- 12 the bound, _ the world before, v1 the world behind, dd the number
  go_wp2_with fail
  refine (n_any w.heap.size 12 _ (by exact E.out.s) (by omega) (by omega)).mono ?_
  rintro e v1 ⟨z, hz0, hz1, rfl, hS, hk⟩
  have E := Lib.hid (E.out.kept hS hk)
  obtain ⟨dd, rfl⟩ := Int.eq_ofNat_of_zero_le hz0
  have hbdd : dd < 12 := by omega
  clear hz0 hz1 hS hk
  have hbz : Zb < v1.heap.size := (E.out.get 5 rfl).lt
  -- a curve drawn, not yet in a variable: srcZero3_any the contract, 4 most, _ v2 the worlds, u the curve, P nu cu, (DrawC 4 u ∧ u.Fin) ∧ nth u.vals 0 = 0 its facts
  go_wp2_with fail
  refine (srcZero3_any w.heap.size 4 _ (by exact E.out.s) (by omega) (by omega)).mono ?_
  rintro e v2 ⟨u, P, nu, cu, hD, hcf, rfl, hI, hA, hS, hk⟩
  have hps := E.out.s.lt
  have E := Lib.hid (E.out.kept hS hk)
  have Vu := Lib.hid (show (CR.mk P nu cu u).In w.heap.size v2 from CR.In.new hI hA hps)
  have Hu := Lib.hid (show (DrawC 4 u ∧ u.Fin) ∧ nth u.vals 0 = 0 from hD)
  have HCu := Lib.hid hcf
  have hlenu := hI.1
  try simp only at hlenu
  have AU := Lib.hid (show ∀ b off s, P = some ⟨b, off, s⟩ → Zb < b from fun b off s e => by have := hA b off s e; omega)
  have hnu : nu ≤ 20 := by have h1 := Hu.out.1.1.len; omega
  have hbz2 : Zb < v2.heap.size := (E.out.get 5 rfl).lt
  clear hlenu
  clear hD hI hA hS hk hps hcf
  -- a curve drawn, not yet in a variable: srcZero3_any the contract, 4 most, _ v3 the worlds, v the curve, Q nv cv, (DrawC 4 v ∧ v.Fin) ∧ nth v.vals 0 = 0 its facts
  go_wp2_with fail
  refine (srcZero3_any w.heap.size 4 _ (by exact E.out.s) (by omega) (by omega)).mono ?_
  rintro e v3 ⟨v, Q, nv, cv, hD, hcf, rfl, hI, hA, hS, hk⟩
  have hps := E.out.s.lt
  have E := Lib.hid (E.out.kept hS hk)
  have Vv := Lib.hid (show (CR.mk Q nv cv v).In w.heap.size v3 from CR.In.new hI hA hps)
  have Hv := Lib.hid (show (DrawC 4 v ∧ v.Fin) ∧ nth v.vals 0 = 0 from hD)
  have HCv := Lib.hid hcf
  have hlenv := hI.1
  try simp only at hlenv
  have AV := Lib.hid (show ∀ b off s, Q = some ⟨b, off, s⟩ → Zb < b from fun b off s e => by have := hA b off s e; omega)
  have hnv : nv ≤ 20 := by have h1 := Hv.out.1.1.len; omega
  clear hlenv hbz
  have Vu := Lib.hid (Vu.out.kept hk)
  clear hD hI hA hS hk hps hcf
  have BF := Lib.hid (E.out.get 0 rfl).blk
  have BG := Lib.hid (E.out.get 1 rfl).blk
  have BB := Lib.hid (E.out.get 5 rfl).blk
  have E := Lib.hid E.out.bare
  dsimp only at BF BG BB
  obtain ⟨⟨x0, x1, x2⟩, ⟨y0, y1, y2⟩, hlx⟩ := BF.out.c3
  obtain ⟨⟨z0, z1, z2⟩, ⟨q0, q1, q2⟩, hlz⟩ := BG.out.c3
  go_upto_region 13 with fail
  have ouF : CR.Off ⟨P, nu, cu, u⟩ ZF := fun _ b off s e => by have := AU.out b off s e; omega
  have ovF : CR.Off ⟨Q, nv, cv, v⟩ ZF := fun _ b off s e => by have := AV.out b off s e; omega
  have ouG : CR.Off ⟨P, nu, cu, u⟩ ZG := fun _ b off s e => by have := AU.out b off s e; omega
  have ovG : CR.Off ⟨Q, nv, cv, v⟩ ZG := fun _ b off s e => by have := AV.out b off s e; omega
  have hw0 : w.heap.size ≤ ZF := Nat.le_of_lt hpf
  have hw1 : w.heap.size ≤ ZG := by omega
  have hw2 : w.heap.size < ZG := by omega
  have hne : ZG ≠ ZF := by omega
  have e1 := E.out.sto BF.out hw0 hpf (fun x hx => by cases hx) Vu.out ouF
  have e2 := e1.sto (Z := ZG) (X := ⟨Q, nv, cv, v⟩) (((BG.out.far (p := ⟨ZF, 0, none⟩) hne _).far (p := ⟨ZF, 1, none⟩) hne _).far (p := ⟨ZF, 2, none⟩) hne _) hw1 hw2 (fun x hx => by
    simp only [List.nil_append, List.mem_singleton] at hx
    subst hx
    exact ⟨hne.symm, ouG⟩) (Vv.out.far3 ovF _ _ _) ovG
  have hnB : Zb ≠ ZF := by omega
  have hnC : Zb ≠ ZG := by omega
  have b1 := ((((((BB.out.far (p := ⟨ZF, 0, none⟩) hnB (.slice P nu cu)).far (p := ⟨ZF, 1, none⟩) hnB (.int .i64 u.per)).far (p := ⟨ZF, 2, none⟩) hnB (.int .i64 u.inc)).far (p := ⟨ZG, 0, none⟩) hnC (.slice Q nv cv)).far (p := ⟨ZG, 1, none⟩) hnC (.int .i64 v.per)).far (p := ⟨ZG, 2, none⟩) hnC (.int .i64 v.inc))
  have E := Lib.hid e2
  have BB := Lib.hid b1
  dsimp only [List.cons_append, List.nil_append] at E
  clear e1 e2 b1 ouF ovF ouG ovG hw0 hw1 hw2 hne hnB hnC x0 x1 x2 y0 y1 y2 hlx z0 z1 z2 q0 q1 q2 hlz Vu Vv BF BG
  generalize hwe : (((((v3.setCell ⟨ZF, 0, none⟩ (.slice P nu cu)).setCell ⟨ZF, 1, none⟩ (.int .i64 u.per)).setCell ⟨ZF, 2, none⟩ (.int .i64 u.inc)).setCell ⟨ZG, 0, none⟩ (.slice Q nv cv)).setCell ⟨ZG, 1, none⟩ (.int .i64 v.per)).setCell ⟨ZG, 2, none⟩ (.int .i64 v.inc) = ws at *
  clear hwe
  have hpz := E.out.s.lt
  obtain ⟨x0, x1, x2, hlx⟩ := (E.out.get 0 rfl).cells
  go_wp2_with fail
  refine (refLater_any P nu cu u.per u.inc dd u.vals _ (by exact (E.out.get 0 rfl).inn.ints) (by omega) HCu.out).mono ?_
  rintro e w8 ⟨late, ek, A8, n8, c8, hSS, hle, rfl, hI, hA, hb⟩
  obtain ⟨rfl, hlo, hlv⟩ := later_made Hu.out.1.1.ok (by have := Hu.out.1.1.len; omega) (show LaterS u dd late ek from hSS)
  have OKL := Lib.hid hlo; have LV := Lib.hid hlv
  have hbl := BB.out.lt
  have AL := Lib.hid (show ∀ b off s, A8 = some ⟨b, off, s⟩ → Zb < b from fun b off s e => by have := hA b off s e; omega)
  have hl8 : n8 ≤ 400 := by have h1 := hlo.n2; have h2 := hI.1; omega
  have hzl := (BB.out.below hb BB.out.lt).lt
  have BB := Lib.hid ((BB.out.below hb BB.out.lt).alloc (.cells #[.slice A8 n8 c8, .int .i64 late.per, .int .i64 late.inc] 31))
  have E := Lib.hid (show EnvL w.heap.size w _ _ from (E.out.below hb).push (X := ⟨A8, n8, c8, late⟩) (CR.In.new hI hA hpz))
  dsimp only [List.cons_append, List.nil_append] at E
  clear hSS hI hA hb hle hlo hlv hpz hbl x0 x1 x2 hlx
  go_upto_region 14 with fail
  generalize hwe : w8.alloc (.cells #[.slice A8 n8 c8, .int .i64 late.per, .int .i64 late.inc] 31) = wl at *
  clear hwe
  generalize w8.heap.size = Zl at *
  obtain ⟨x0, x1, x2, hlx⟩ := (E.out.get 2 rfl).cells
  obtain ⟨y0, y1, y2, hly⟩ := (E.out.get 1 rfl).cells
  go_wp2_with fail
  refine (cvfn_any A8 Q n8 nv c8 cv late.per late.inc v.per v.inc late.vals v.vals _ (by exact (E.out.get 2 rfl).inn.ints) (by exact (E.out.get 1 rfl).inn.ints) (by omega) (by omega)).mono ?_
  rintro e w9 ⟨r, ej, hSS, A9, n9, c9, hle, rfl, hI, hA, hb⟩
  have Sr := Lib.hid (show CvS late v r ej from hSS)
  have hps := E.out.s.lt
  have hbl := BB.out.lt
  have BB := Lib.hid (BB.out.below hb BB.out.lt)
  clear x0 x1 x2 hlx y0 y1 y2 hly
  obtain ⟨⟨z0, z1, z2⟩, ⟨q0, q1, q2⟩, hlz⟩ := BB.out.c3
  have IR := Lib.hid (show (CR.mk A9 n9 c9 r).In w.heap.size w9 from CR.In.new hI hA hps)
  have AR := Lib.hid hA
  have E := Lib.hid (E.out.below hb)
  clear hI hA hb hSS hle
  go_upto_region 15 with fail
  have hw1 : w.heap.size ≤ Zb := by omega
  have hw2 : w.heap.size < Zb := by omega
  have e1 := E.out.sto BB.out hw1 hw2 (fun x hx => by
    simp only [List.mem_cons, List.not_mem_nil, or_false] at hx
    rcases hx with rfl | rfl | rfl
    · exact ⟨by show ZF ≠ Zb; omega, fun _ b off s e => by have := AU.out b off s e; omega⟩
    · exact ⟨by show ZG ≠ Zb; omega, fun _ b off s e => by have := AV.out b off s e; omega⟩
    · exact ⟨by show Zl ≠ Zb; omega, fun _ b off s e => by have := AL.out b off s e; omega⟩) IR.out (fun _ b off s e => by have := AR.out b off s e; omega)
  have E := Lib.hid e1
  dsimp only [List.cons_append, List.nil_append] at E
  clear e1 z0 z1 z2 q0 q1 q2 hlz BB IR AR hps hbl hw1 hw2
  generalize hwe : ((w9.setCell ⟨Zb, 0, none⟩ (.slice A9 n9 c9)).setCell ⟨Zb, 1, none⟩ (.int .i64 r.per)).setCell ⟨Zb, 2, none⟩ (.int .i64 r.inc) = wm at *
  clear hwe
  -- convolution.Of: u .. cu the first curve and its slice, v .. cv the second one, 0 1 places, w10 .. c10 the result: world, curve, A n c; 16 the next region; en the error's name
  obtain ⟨x0, x1, x2, hlx⟩ := (E.out.get 0 rfl).cells
  obtain ⟨y0, y1, y2, hly⟩ := (E.out.get 1 rfl).cells
  go_wp2_with fail
  refine (cvfn_any P Q nu nv cu cv u.per u.inc v.per v.inc u.vals v.vals _ (by exact (E.out.get 0 rfl).inn.ints) (by exact (E.out.get 1 rfl).inn.ints) (by omega) (by omega)).mono ?_
  rintro e w10 ⟨cc, en, hSS, A10, n10, c10, hle, rfl, hI, hA, hb⟩
  have Scc := Lib.hid (show CvS u v cc en from hSS)
  have HCcc := Lib.hid hle
  have hps := E.out.s.lt
  have E := Lib.hid (show EnvL w.heap.size w _ _ from (E.out.below hb).push (X := ⟨A10, n10, c10, cc⟩) (CR.In.new hI hA hps))
  dsimp only [List.cons_append, List.nil_append] at E
  clear hSS hI hA hb hps hle x0 x1 x2 hlx y0 y1 y2 hly
  go_upto_region 16 with fail
  generalize hwe : w10.alloc (.cells #[.slice A10 n10 c10, .int .i64 cc.per, .int .i64 cc.inc] 31) = we at *
  clear hwe
  generalize w10.heap.size = Zcc at *
  rcases cv_er2 OKL.out Hv.out.1.1.ok Sr.out with ⟨rfl, hro⟩ | ⟨rfl, _⟩
  case inr =>
    rcases cv_er2 Hu.out.1.1.ok Hv.out.1.1.ok Scc.out with ⟨rfl, _⟩ | ⟨rfl, _⟩
    all_goals
      go_wp2_with fail
      refine (awake7_any _).mono ?_
      rintro e wq ⟨rfl, hb⟩
      have bw := (E.out.below hb).fin
      go_wp2_with fail
      go_ret
      exact ⟨rfl, bw⟩
  case inl =>
  rcases cv_er2 Hu.out.1.1.ok Hv.out.1.1.ok Scc.out with ⟨rfl, hco⟩ | ⟨rfl, _⟩
  case inr =>
    go_wp2_with fail
    refine (awake7_any _).mono ?_
    rintro e wq ⟨rfl, hb⟩
    have bw := (E.out.below hb).fin
    go_wp2_with fail
    go_ret
    exact ⟨rfl, bw⟩
  case inl =>
  have OKR := Lib.hid hro; have OKC := Lib.hid hco
  clear hro hco
  have hl9 : n9 ≤ 400 := by have h1 := OKR.out.n2; have h2 : r.vals.length = n9 := (E.out.get 3 rfl).inn.ints.1; omega
  have hl10 : n10 ≤ 400 := by have h1 := OKC.out.n2; have h2 : cc.vals.length = n10 := (E.out.get 4 rfl).inn.ints.1; omega
  obtain ⟨x0, x1, x2, hlx⟩ := (E.out.get 4 rfl).cells
  go_wp2_with fail
  refine (refValid_any A10 n10 c10 cc.per cc.inc cc.vals _ (by exact (E.out.get 4 rfl).inn.ints) (by omega)).mono ?_
  rw [show Cv.okB ⟨cc.vals, cc.per, cc.inc⟩ = true from Cv.okB_true OKC.out]
  rintro e wq ⟨rfl, hb⟩
  have E := Lib.hid (E.out.below hb)
  clear hb x0 x1 x2 hlx
  go_upto_region 18 with fail
  obtain ⟨x0, x1, x2, hlx⟩ := (E.out.get 4 rfl).cells
  go_wp2_with fail
  refine (refLater_any A10 n10 c10 cc.per cc.inc dd cc.vals _ (by exact (E.out.get 4 rfl).inn.ints) (by omega) HCcc.out).mono ?_
  rintro e w11 ⟨x, ep, A11, n11, c11, hSS, hle, rfl, hI, hA, hb⟩
  have SX := Lib.hid (show LaterS cc dd x ep from hSS)
  have hps := E.out.s.lt
  have E := Lib.hid (show EnvL w.heap.size w _ _ from (E.out.below hb).push (X := ⟨A11, n11, c11, x⟩) (CR.In.new hI hA hps))
  dsimp only [List.cons_append, List.nil_append] at E
  clear hSS hI hA hb hle hps x0 x1 x2 hlx
  go_upto_region 19 with fail
  generalize hwe : w11.alloc (.cells #[.slice A11 n11 c11, .int .i64 x.per, .int .i64 x.inc] 31) = wx at *
  clear hwe
  generalize w11.heap.size = Zx at *
  rcases later_er OKC.out (by omega) SX.out with rfl | rfl
  case inr =>
    go_wp2_with fail
    refine (awake7_any _).mono ?_
    rintro e wq ⟨rfl, hb⟩
    have bw := (E.out.below hb).fin
    go_wp2_with fail
    go_ret
    exact ⟨rfl, bw⟩
  case inl =>
  have z0 : ∀ {f : Cv}, f.Ok → nth f.vals 0 = 0 → f.at 0 = 0 := fun hf h => by rw [Cv.at_lt (by have := hf.n1; omega)]; exact h
  have EXR := Lib.hid (cv_delay Hu.out.1.2 Hv.out.1.2 (z0 Hu.out.1.1.ok Hu.out.2) (z0 Hv.out.1.1.ok Hv.out.2) OKL.out LV.out Sr.out Scc.out SX.out)
  clear z0
  have hl11 : n11 ≤ 400 := by have h1 := OKR.out.n2; have h2 : x.vals.length = n11 := (E.out.get 5 rfl).inn.ints.1; rw [EXR.out] at h2; omega
  -- Same: x .. c11 the first curve and its slice, r .. c9 the second one, 5 3 places, EXR.out the equation of the curves
  obtain ⟨x0, x1, x2, hlx⟩ := (E.out.get 5 rfl).cells
  obtain ⟨y0, y1, y2, hly⟩ := (E.out.get 3 rfl).cells
  go_wp2_with fail
  refine (refSame_any A11 A9 n11 n9 c11 c9 x.per r.per x.inc r.inc x.vals r.vals _ (by exact (E.out.get 5 rfl).inn.ints) (by exact (E.out.get 3 rfl).inn.ints) (by omega) (by omega)).mono ?_
  rw [show Cv.same ⟨x.vals, x.per, x.inc⟩ ⟨r.vals, r.per, r.inc⟩ = true from (Cv.same_iff _ _).2 EXR.out]
  rintro e wq ⟨rfl, hb⟩
  have E := Lib.hid (E.out.below hb)
  clear hb x0 x1 x2 hlx y0 y1 y2 hly
  go_wp2_with fail
  refine (awake7_any _).mono ?_
  rintro e wq ⟨rfl, hb⟩
  have bw := (E.out.below hb).fin
  go_wp2_with fail
  go_ret
  exact ⟨rfl, bw⟩
end Go.Proofs.Ytbkimphcmmmaiaa
