/- The statement ConvolutionAlgebra: the walk. -/
import Derived.Test.YtbkimphcmmmaiaaAwake7
import Derived.Test.YtbkimphcmmmaiaaEnvL
import Derived.Test.YtbkimphcmmmaiaaRefWt
import Derived.Test.YtbkimphcmmmaiaaRefNormal
import Derived.Test.YtbkimphcmmmaiaaAlgLaw
namespace Go.Proofs.Ytbkimphcmmmaiaa
open Go.RowKit
set_option linter.unusedVariables false

set_option maxHeartbeats 4000000 in
set_option maxRecDepth 100000 in
theorem cvAl_any (A0 : Option Addr) (n0 c0 : Nat) (L : List Int) (w : World) (hL : Ints w w.heap.size A0 n0 L) (hc0 : n0 ≤ c0) (hn0 : (n0 : Int) ≤ 9223372036854775807) :
    Calls Try.prog 5 #[.slice A0 n0 c0] w fun e w' => e = .returned (.bool true) ∧ Below w.heap.size w w' := by
  go_enter Try.func5, Try.ntmps5
  go_wp2_with fail
  refine (new_any A0 n0 c0 L w hL hc0 hn0).mono ?_
  rintro e w1 ⟨rfl, hS1, hb1⟩
  have E := Lib.hid (EnvL.start hS1 hb1)
  clear hL hS1 hb1
  go_wp2_with fail
  refine (srcCurve2_any w.heap.size 4 _ (by exact E.out.s) (by omega) (by omega)).mono ?_
  rintro e w2 ⟨f, A, n, c, hD, hcf, rfl, hI, hA, hS, hk⟩
  have hps := E.out.s.lt
  have E := Lib.hid (E.out.kept hS hk)
  have Vf := Lib.hid (show (CR.mk A n c f).In w.heap.size w2 from CR.In.new hI hA hps)
  have Hf := Lib.hid (show DrawC 4 f from hD)
  have HCf := Lib.hid hcf
  have hlenf := hI.1
  try simp only at hlenf
  have hnl : n ≤ 20 := by have h1 := Hf.out.len; omega
  clear hlenf
  clear hD hI hA hS hk hps hcf
  go_wp2_with fail
  refine (srcCurve2_any w.heap.size 4 _ (by exact E.out.s) (by omega) (by omega)).mono ?_
  rintro e w3 ⟨g, B, m, d, hD, hcf, rfl, hI, hA, hS, hk⟩
  have hps := E.out.s.lt
  have E := Lib.hid (E.out.kept hS hk)
  have Vg := Lib.hid (show (CR.mk B m d g).In w.heap.size w3 from CR.In.new hI hA hps)
  have Hg := Lib.hid (show DrawC 4 g from hD)
  have HCg := Lib.hid hcf
  have hleng := hI.1
  try simp only at hleng
  have hml : m ≤ 20 := by have h1 := Hg.out.len; omega
  clear hleng
  have Vf := Lib.hid (Vf.out.kept hk)
  clear hD hI hA hS hk hps hcf
  go_wp2_with fail
  refine (srcCurve2_any w.heap.size 4 _ (by exact E.out.s) (by omega) (by omega)).mono ?_
  rintro e w4 ⟨h, C, l, k, hD, hcf, rfl, hI, hA, hS, hk⟩
  have hps := E.out.s.lt
  have E := Lib.hid (E.out.kept hS hk)
  have Vh := Lib.hid (show (CR.mk C l k h).In w.heap.size w4 from CR.In.new hI hA hps)
  have Hh := Lib.hid (show DrawC 4 h from hD)
  have HCh := Lib.hid hcf
  have hlenh := hI.1
  try simp only at hlenh
  have hll : l ≤ 20 := by have h1 := Hh.out.len; omega
  clear hlenh
  have Vf := Lib.hid (Vf.out.kept hk)
  have Vg := Lib.hid (Vg.out.kept hk)
  clear hD hI hA hS hk hps hcf
  have E := Lib.hid (show EnvL w.heap.size w _ _ from E.out.push (X := ⟨A, n, c, f⟩) Vf.out)
  dsimp only [List.cons_append, List.nil_append] at E
  have Vg := Lib.hid (Vg.out.alloc (.cells #[.slice A n c, .int .i64 f.per, .int .i64 f.inc] 31))
  have Vh := Lib.hid (Vh.out.alloc (.cells #[.slice A n c, .int .i64 f.per, .int .i64 f.inc] 31))
  have E := Lib.hid (show EnvL w.heap.size w _ _ from E.out.push (X := ⟨B, m, d, g⟩) Vg.out)
  dsimp only [List.cons_append, List.nil_append] at E
  have Vh := Lib.hid (Vh.out.alloc (.cells #[.slice B m d, .int .i64 g.per, .int .i64 g.inc] 31))
  have E := Lib.hid (show EnvL w.heap.size w _ _ from E.out.push (X := ⟨C, l, k, h⟩) Vh.out)
  dsimp only [List.cons_append, List.nil_append] at E
  clear Vf Vg Vh HCg HCh
  go_upto_region 3 with fail
  simp only [World.size_alloc] at E
  generalize hwe : ((w4.alloc (.cells #[.slice A n c, .int .i64 f.per, .int .i64 f.inc] 31)).alloc (.cells #[.slice B m d, .int .i64 g.per, .int .i64 g.inc] 31)).alloc (.cells #[.slice C l k, .int .i64 h.per, .int .i64 h.inc] 31) = we at *
  clear hwe
  generalize w4.heap.size + 1 + 1 = ZH at *
  generalize w4.heap.size + 1 = ZG at *
  generalize w4.heap.size = ZF at *
  have OKF := Lib.hid Hf.out.ok; have OKG := Lib.hid Hg.out.ok; have OKH := Lib.hid Hh.out.ok
  obtain ⟨x0, x1, x2, hlx⟩ := (E.out.get 0 rfl).cells
  obtain ⟨y0, y1, y2, hly⟩ := (E.out.get 1 rfl).cells
  go_wp2_with fail
  refine (cvfn_any A B n m c d f.per f.inc g.per g.inc f.vals g.vals _ (by exact (E.out.get 0 rfl).inn.ints) (by exact (E.out.get 1 rfl).inn.ints) (by omega) (by omega)).mono ?_
  rintro e w5 ⟨a, er, hSS, A4, n4, c4, hle, rfl, hI, hA, hb⟩
  have Sa := Lib.hid (show CvS f g a er from hSS)
  have HCa := Lib.hid hle
  have hps := E.out.s.lt
  have E := Lib.hid (show EnvL w.heap.size w _ _ from (E.out.below hb).push (X := ⟨A4, n4, c4, a⟩) (CR.In.new hI hA hps))
  dsimp only [List.cons_append, List.nil_append] at E
  clear hSS hI hA hb hps hle x0 x1 x2 hlx y0 y1 y2 hly
  go_upto_region 4 with fail
  generalize hwe : w5.alloc (.cells #[.slice A4 n4 c4, .int .i64 a.per, .int .i64 a.inc] 31) = we at *
  clear hwe
  generalize w5.heap.size = Za at *
  have hl4 : n4 ≤ 400 := by have h1 := cvS_len OKF.out OKG.out Sa.out; have h2 : a.vals.length = n4 := (E.out.get 3 rfl).inn.ints.1; omega
  obtain ⟨x0, x1, x2, hlx⟩ := (E.out.get 1 rfl).cells
  obtain ⟨y0, y1, y2, hly⟩ := (E.out.get 0 rfl).cells
  go_wp2_with fail
  refine (cvfn_any B A m n d c g.per g.inc f.per f.inc g.vals f.vals _ (by exact (E.out.get 1 rfl).inn.ints) (by exact (E.out.get 0 rfl).inn.ints) (by omega) (by omega)).mono ?_
  rintro e w6 ⟨b, eb, hSS, A5, n5, c5, hle, rfl, hI, hA, hb⟩
  have Sb := Lib.hid (show CvS g f b eb from hSS)
  have HCb := Lib.hid hle
  have hps := E.out.s.lt
  have E := Lib.hid (show EnvL w.heap.size w _ _ from (E.out.below hb).push (X := ⟨A5, n5, c5, b⟩) (CR.In.new hI hA hps))
  dsimp only [List.cons_append, List.nil_append] at E
  clear hSS hI hA hb hps hle x0 x1 x2 hlx y0 y1 y2 hly
  go_upto_region 5 with fail
  generalize hwe : w6.alloc (.cells #[.slice A5 n5 c5, .int .i64 b.per, .int .i64 b.inc] 31) = we at *
  clear hwe
  generalize w6.heap.size = Zb at *
  obtain ⟨hba, hbe⟩ := CvS.unique Sb.out Sa.out.symm
  subst hbe
  have hl5 : n5 ≤ 400 := by have h1 := cvS_len OKG.out OKF.out Sb.out; have h2 : b.vals.length = n5 := (E.out.get 4 rfl).inn.ints.1; omega
  have EB := Lib.hid hba
  clear hba Sb
  have de : (eb != eb) = false := by simp
  obtain ⟨x0, x1, x2, hlx⟩ := (E.out.get 3 rfl).cells
  obtain ⟨y0, y1, y2, hly⟩ := (E.out.get 4 rfl).cells
  go_wp2_with fail
  refine (refSame_any A4 A5 n4 n5 c4 c5 a.per b.per a.inc b.inc a.vals b.vals _ (by exact (E.out.get 3 rfl).inn.ints) (by exact (E.out.get 4 rfl).inn.ints) (by omega) (by omega)).mono ?_
  rw [show Cv.same ⟨a.vals, a.per, a.inc⟩ ⟨b.vals, b.per, b.inc⟩ = true from (Cv.same_iff _ _).2 EB.out.symm]
  rintro e wq ⟨rfl, hb⟩
  have E := Lib.hid (E.out.below hb)
  clear hb x0 x1 x2 hlx y0 y1 y2 hly
  clear de
  go_wp2_with fail
  refine (refWait_any 0 (by omega) _).mono ?_
  rintro e w7 ⟨W, ew, A6, n6, c6, ⟨hW, rfl⟩, hle, rfl, hI, hA, hb⟩
  have HW := Lib.hid hW
  have hps := E.out.s.lt
  have hn6 : n6 ≤ 2 := by have h1 := hI.1; rw [hW, waitC_len] at h1; omega
  have E := Lib.hid (show EnvL w.heap.size w _ _ from (E.out.below hb).push (X := ⟨A6, n6, c6, W⟩) (CR.In.new hI hA hps))
  dsimp only [List.cons_append, List.nil_append] at E
  clear hW hI hA hb hps hle
  go_upto_region 8 with fail
  generalize hwe : w7.alloc (.cells #[.slice A6 n6 c6, .int .i64 W.per, .int .i64 W.inc] 31) = wf at *
  clear hwe
  generalize w7.heap.size = ZW at *
  obtain ⟨x0, x1, x2, hlx⟩ := (E.out.get 0 rfl).cells
  go_wp2_with fail
  refine (refNormal_any A n c f.per f.inc f.vals _ (by exact (E.out.get 0 rfl).inn.ints) HCf.out (by omega)).mono ?_
  rintro e w8 ⟨nn, ej, hN, A7, n7, c7, rfl, hI, hA, hb⟩
  have HN := Lib.hid (show NF f.at nn ∧ nn.Ok from by
    rcases hN with ⟨_, h1, h2, _⟩ | ⟨h1, _⟩
    · exact ⟨h1, h2⟩
    · exact absurd Hf.out.ok h1)
  have hps := E.out.s.lt
  have hn7 : n7 ≤ 400 := by have h1 := HN.out.2.n2; have h2 := hI.1; omega
  have E := Lib.hid (show EnvL w.heap.size w _ _ from (E.out.below hb).push (X := ⟨A7, n7, c7, nn⟩) (CR.In.new hI hA hps))
  dsimp only [List.cons_append, List.nil_append] at E
  clear hN hI hA hb hps x0 x1 x2 hlx
  go_upto_region 9 with fail
  generalize hwe : w8.alloc (.cells #[.slice A7 n7 c7, .int .i64 nn.per, .int .i64 nn.inc] 31) = wg at *
  clear hwe
  generalize w8.heap.size = ZN at *
  obtain ⟨x0, x1, x2, hlx⟩ := (E.out.get 0 rfl).cells
  obtain ⟨y0, y1, y2, hly⟩ := (E.out.get 5 rfl).cells
  go_wp2_with fail
  refine (cvfn_any A A6 n n6 c c6 f.per f.inc W.per W.inc f.vals W.vals _ (by exact (E.out.get 0 rfl).inn.ints) (by exact (E.out.get 5 rfl).inn.ints) (by omega) (by omega)).mono ?_
  rintro e w9 ⟨z, ez, hSS, A8, n8, c8, hle, rfl, hI, hA, hb⟩
  have Sz := Lib.hid (show CvS f W z ez from hSS)
  have HCz := Lib.hid hle
  have hps := E.out.s.lt
  have E := Lib.hid (show EnvL w.heap.size w _ _ from (E.out.below hb).push (X := ⟨A8, n8, c8, z⟩) (CR.In.new hI hA hps))
  dsimp only [List.cons_append, List.nil_append] at E
  clear hSS hI hA hb hps hle x0 x1 x2 hlx y0 y1 y2 hly
  go_upto_region 10 with fail
  generalize hwe : w9.alloc (.cells #[.slice A8 n8 c8, .int .i64 z.per, .int .i64 z.inc] 31) = we at *
  clear hwe
  generalize w9.heap.size = Zz at *
  obtain ⟨hzn, rfl⟩ := CvS.unique Sz.out (by
    have hw0 : W.at = waitV 0 := by rw [HW.out]; exact waitC_at 0
    have hwo : W.Ok := by rw [HW.out]; exact waitC_ok (by omega)
    refine cv_wait OKF.out HN.out.1 HN.out.2 hwo ?_ (by rw [HW.out]; rfl) (by rw [hw0]; rfl) (fun t => wait_inf hwo hw0 t)
    rw [hw0, HW.out]; exact waitC_nf 0)
  have EZ := Lib.hid hzn
  have hl8 : n8 ≤ 400 := by have h1 := HN.out.2.n2; have h2 : z.vals.length = n8 := (E.out.get 7 rfl).inn.ints.1; rw [hzn] at h2; omega
  clear hzn Sz
  obtain ⟨x0, x1, x2, hlx⟩ := (E.out.get 7 rfl).cells
  obtain ⟨y0, y1, y2, hly⟩ := (E.out.get 6 rfl).cells
  go_wp2_with fail
  refine (refSame_any A8 A7 n8 n7 c8 c7 z.per nn.per z.inc nn.inc z.vals nn.vals _ (by exact (E.out.get 7 rfl).inn.ints) (by exact (E.out.get 6 rfl).inn.ints) (by omega) (by omega)).mono ?_
  rw [show Cv.same ⟨z.vals, z.per, z.inc⟩ ⟨nn.vals, nn.per, nn.inc⟩ = true from (Cv.same_iff _ _).2 EZ.out]
  rintro e wq ⟨rfl, hb⟩
  have E := Lib.hid (E.out.below hb)
  clear hb x0 x1 x2 hlx y0 y1 y2 hly
  obtain ⟨x0, x1, x2, hlx⟩ := (E.out.get 1 rfl).cells
  obtain ⟨y0, y1, y2, hly⟩ := (E.out.get 2 rfl).cells
  go_wp2_with fail
  refine (cvfn_any B C m l d k g.per g.inc h.per h.inc g.vals h.vals _ (by exact (E.out.get 1 rfl).inn.ints) (by exact (E.out.get 2 rfl).inn.ints) (by omega) (by omega)).mono ?_
  rintro e wh ⟨v, ek, hSS, A9, n9, c9, hle, rfl, hI, hA, hb⟩
  have Sv := Lib.hid (show CvS g h v ek from hSS)
  have HCv := Lib.hid hle
  have hps := E.out.s.lt
  have E := Lib.hid (show EnvL w.heap.size w _ _ from (E.out.below hb).push (X := ⟨A9, n9, c9, v⟩) (CR.In.new hI hA hps))
  dsimp only [List.cons_append, List.nil_append] at E
  clear hSS hI hA hb hps hle x0 x1 x2 hlx y0 y1 y2 hly
  go_upto_region 13 with fail
  generalize hwe : wh.alloc (.cells #[.slice A9 n9 c9, .int .i64 v.per, .int .i64 v.inc] 31) = we at *
  clear hwe
  generalize wh.heap.size = Zv at *
  rcases cv_er2 OKF.out OKG.out Sa.out with ⟨rfl, hao⟩ | ⟨rfl, _⟩
  case inr =>
    go_wp2_with fail
    refine (awake7_any _).mono ?_
    rintro e wq ⟨rfl, hb⟩
    have bw := (E.out.below hb).fin
    go_wp2_with fail
    go_ret
    exact ⟨rfl, bw⟩
  case inl =>
  have OKA := Lib.hid hao
  clear hao
  rcases cv_er2 OKG.out OKH.out Sv.out with ⟨rfl, hvo⟩ | ⟨rfl, _⟩
  case inr =>
    go_wp2_with fail
    refine (awake7_any _).mono ?_
    rintro e wq ⟨rfl, hb⟩
    have bw := (E.out.below hb).fin
    go_wp2_with fail
    go_ret
    exact ⟨rfl, bw⟩
  case inl =>
  have OKV := Lib.hid hvo
  clear hvo
  have hl9 : n9 ≤ 400 := by have h1 := OKV.out.n2; have h2 : v.vals.length = n9 := (E.out.get 8 rfl).inn.ints.1; omega
  obtain ⟨x0, x1, x2, hlx⟩ := (E.out.get 3 rfl).cells
  obtain ⟨y0, y1, y2, hly⟩ := (E.out.get 2 rfl).cells
  go_wp2_with fail
  refine (cvfn_any A4 C n4 l c4 k a.per a.inc h.per h.inc a.vals h.vals _ (by exact (E.out.get 3 rfl).inn.ints) (by exact (E.out.get 2 rfl).inn.ints) (by omega) (by omega)).mono ?_
  rintro e wi ⟨x, ex, hSS, D1, o1, q1, hle, rfl, hI, hA, hb⟩
  have Sx := Lib.hid (show CvS a h x ex from hSS)
  have HCx := Lib.hid hle
  have hps := E.out.s.lt
  have E := Lib.hid (show EnvL w.heap.size w _ _ from (E.out.below hb).push (X := ⟨D1, o1, q1, x⟩) (CR.In.new hI hA hps))
  dsimp only [List.cons_append, List.nil_append] at E
  clear hSS hI hA hb hps hle x0 x1 x2 hlx y0 y1 y2 hly
  go_upto_region 16 with fail
  generalize hwe : wi.alloc (.cells #[.slice D1 o1 q1, .int .i64 x.per, .int .i64 x.inc] 31) = we at *
  clear hwe
  generalize wi.heap.size = Zx at *
  obtain ⟨x0, x1, x2, hlx⟩ := (E.out.get 0 rfl).cells
  obtain ⟨y0, y1, y2, hly⟩ := (E.out.get 8 rfl).cells
  go_wp2_with fail
  refine (cvfn_any A A9 n n9 c c9 f.per f.inc v.per v.inc f.vals v.vals _ (by exact (E.out.get 0 rfl).inn.ints) (by exact (E.out.get 8 rfl).inn.ints) (by omega) (by omega)).mono ?_
  rintro e wj ⟨y, ey, hSS, D2, o2, q2, hle, rfl, hI, hA, hb⟩
  have Sy := Lib.hid (show CvS f v y ey from hSS)
  have HCy := Lib.hid hle
  have hps := E.out.s.lt
  have E := Lib.hid (show EnvL w.heap.size w _ _ from (E.out.below hb).push (X := ⟨D2, o2, q2, y⟩) (CR.In.new hI hA hps))
  dsimp only [List.cons_append, List.nil_append] at E
  clear hSS hI hA hb hps hle x0 x1 x2 hlx y0 y1 y2 hly
  go_upto_region 17 with fail
  generalize hwe : wj.alloc (.cells #[.slice D2 o2 q2, .int .i64 y.per, .int .i64 y.inc] 31) = we at *
  clear hwe
  generalize wj.heap.size = Zy at *
  rcases cv_er2 OKA.out OKH.out Sx.out with ⟨rfl, hxo⟩ | ⟨rfl, _⟩
  case inr =>
    go_wp2_with fail
    refine (awake7_any _).mono ?_
    rintro e wq ⟨rfl, hb⟩
    have bw := (E.out.below hb).fin
    go_wp2_with fail
    go_ret
    exact ⟨rfl, bw⟩
  case inl =>
  have hlo1 : o1 ≤ 400 := by have h1 := hxo.n2; have h2 : x.vals.length = o1 := (E.out.get 9 rfl).inn.ints.1; omega
  clear hxo
  rcases cv_er2 OKF.out OKV.out Sy.out with ⟨rfl, hyo⟩ | ⟨rfl, _⟩
  case inr =>
    go_wp2_with fail
    refine (awake7_any _).mono ?_
    rintro e wq ⟨rfl, hb⟩
    have bw := (E.out.below hb).fin
    go_wp2_with fail
    go_ret
    exact ⟨rfl, bw⟩
  case inl =>
  have hlo2 : o2 ≤ 400 := by have h1 := hyo.n2; have h2 : y.vals.length = o2 := (E.out.get 10 rfl).inn.ints.1; omega
  clear hyo
  have EXY := Lib.hid (cv_assoc Sa.out Sv.out Sx.out Sy.out)
  obtain ⟨x0, x1, x2, hlx⟩ := (E.out.get 9 rfl).cells
  obtain ⟨y0, y1, y2, hly⟩ := (E.out.get 10 rfl).cells
  go_wp2_with fail
  refine (refSame_any D1 D2 o1 o2 q1 q2 x.per y.per x.inc y.inc x.vals y.vals _ (by exact (E.out.get 9 rfl).inn.ints) (by exact (E.out.get 10 rfl).inn.ints) (by omega) (by omega)).mono ?_
  rw [show Cv.same ⟨x.vals, x.per, x.inc⟩ ⟨y.vals, y.per, y.inc⟩ = true from (Cv.same_iff _ _).2 EXY.out]
  rintro e wq ⟨rfl, hb⟩
  have E := Lib.hid (E.out.below hb)
  clear hb x0 x1 x2 hlx y0 y1 y2 hly
  go_wp2_with fail
  refine (awake7_any _).mono ?_
  rintro e wq ⟨rfl, hb⟩
  have bw := (E.out.below hb).fin
  go_wp2_with fail
  go_ret
  exact ⟨rfl, bw⟩
end Go.Proofs.Ytbkimphcmmmaiaa
