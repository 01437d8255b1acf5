/- The statement DeconvolutionTwice: the walk. -/
import Derived.Test.YtbkimphcmmmaiaaAwake8
import Derived.Test.YtbkimphcmmmaiaaSecond
import Derived.Test.YtbkimphcmmmaiaaEnvL
import Derived.Test.YtbkimphcmmmaiaaRefExc
import Derived.Test.YtbkimphcmmmaiaaDcFn
import Derived.Test.YtbkimphcmmmaiaaRef7O
import Derived.Test.YtbkimphcmmmaiaaTwLaw
namespace Go.Proofs.Ytbkimphcmmmaiaa
open Go.RowKit
set_option linter.unusedVariables false

set_option maxHeartbeats 4000000 in
set_option maxRecDepth 100000 in
theorem dcTw_any (A0 : Option Addr) (n0 c0 : Nat) (L : List Int) (w : World) (hL : Ints w w.heap.size A0 n0 L) (hc0 : n0 ≤ c0) (hn0 : (n0 : Int) ≤ 9223372036854775807) :
    Calls Try.prog 4 #[.slice A0 n0 c0] w fun e w' => e = .returned (.bool true) ∧ Below w.heap.size w w' := by
  go_enter Try.func4, Try.ntmps4
  go_wp2_with fail
  refine (new_any A0 n0 c0 L w hL hc0 hn0).mono ?_
  rintro e w1 ⟨rfl, hS1, hb1⟩
  have E := Lib.hid (EnvL.start hS1 hb1)
  clear hL hS1 hb1
  go_wp2_with fail
  refine (srcCurve2_any w.heap.size 4 _ (by exact E.out.s) (by omega) (by omega)).mono ?_
  rintro e w2 ⟨f, A, n, c, hD, hcf, rfl, hI, hA, hS, hk⟩
  have hps := E.out.s.lt
  have E := Lib.hid (E.out.kept hS hk)
  have Vf := Lib.hid (show (CR.mk A n c f).In w.heap.size w2 from CR.In.new hI hA hps)
  have Hf := Lib.hid (show DrawC 4 f from hD)
  have HCf := Lib.hid hcf
  have hlenf := hI.1
  try simp only at hlenf
  have hnl : n ≤ 13 := by have h1 := Hf.out.len; omega
  clear hlenf
  clear hD hI hA hS hk hps hcf
  go_wp2_with fail
  refine (second_any w.heap.size 4 _ (by exact E.out.s) (by omega) (by omega)).mono ?_
  rintro e w3 ⟨g, B, m, d, hD, hcf, rfl, hI, hA, hS, hk⟩
  have hps := E.out.s.lt
  have E := Lib.hid (E.out.kept hS hk)
  have Vf := Lib.hid (Vf.out.kept hk)
  try (have Vg := Lib.hid (Vg.out.kept hk))
  have Vg := Lib.hid (show (CR.mk B m d g).In w.heap.size w3 from CR.In.new hI hA hps)
  have Hg := Lib.hid (show DrawC 5 g ∧ nth g.vals 0 = 0 from hD)
  have HCg := Lib.hid hcf
  have hlg : m ≤ 13 := by have h1 := Hg.out.1.len; have h2 : g.vals.length = m := hI.1; omega
  clear hD hI hA hS hk hps hcf
  go_wp2_with fail
  refine (second_any w.heap.size 3 _ (by exact E.out.s) (by omega) (by omega)).mono ?_
  rintro e w4 ⟨h, C, l, k, hD, hcf, rfl, hI, hA, hS, hk⟩
  have hps := E.out.s.lt
  have E := Lib.hid (E.out.kept hS hk)
  have Vf := Lib.hid (Vf.out.kept hk)
  try (have Vg := Lib.hid (Vg.out.kept hk))
  have Vh := Lib.hid (show (CR.mk C l k h).In w.heap.size w4 from CR.In.new hI hA hps)
  have Hh := Lib.hid (show DrawC 4 h ∧ nth h.vals 0 = 0 from hD)
  have HCh := Lib.hid hcf
  have hlh : l ≤ 13 := by have h1 := Hh.out.1.len; have h2 : h.vals.length = l := hI.1; omega
  clear hD hI hA hS hk hps hcf
  have E := Lib.hid (show EnvL w.heap.size w _ _ from E.out.push (X := ⟨A, n, c, f⟩) Vf.out)
  dsimp only [List.cons_append, List.nil_append] at E
  have Vg := Lib.hid (Vg.out.alloc (.cells #[.slice A n c, .int .i64 f.per, .int .i64 f.inc] 31))
  have Vh := Lib.hid (Vh.out.alloc (.cells #[.slice A n c, .int .i64 f.per, .int .i64 f.inc] 31))
  have E := Lib.hid (show EnvL w.heap.size w _ _ from E.out.push (X := ⟨B, m, d, g⟩) Vg.out)
  dsimp only [List.cons_append, List.nil_append] at E
  have Vh := Lib.hid (Vh.out.alloc (.cells #[.slice B m d, .int .i64 g.per, .int .i64 g.inc] 31))
  have E := Lib.hid (show EnvL w.heap.size w _ _ from E.out.push (X := ⟨C, l, k, h⟩) Vh.out)
  dsimp only [List.cons_append, List.nil_append] at E
  clear Vf Vg Vh HCf
  go_upto_region 3 with fail
  simp only [World.size_alloc] at E
  generalize hwe : ((w4.alloc (.cells #[.slice A n c, .int .i64 f.per, .int .i64 f.inc] 31)).alloc (.cells #[.slice B m d, .int .i64 g.per, .int .i64 g.inc] 31)).alloc (.cells #[.slice C l k, .int .i64 h.per, .int .i64 h.inc] 31) = we at *
  clear hwe
  generalize w4.heap.size + 1 + 1 = H at *
  generalize w4.heap.size + 1 = G at *
  generalize w4.heap.size = F at *
  have GZ := Lib.hid (show g.at 0 = 0 from by rw [Cv.at_lt (by have := Hg.out.1.ok.n1; omega)]; exact Hg.out.2)
  have HZ := Lib.hid (show h.at 0 = 0 from by rw [Cv.at_lt (by have := Hh.out.1.ok.n1; omega)]; exact Hh.out.2)
  obtain ⟨x0, x1, x2, hlx⟩ := (E.out.get 0 rfl).cells
  obtain ⟨y0, y1, y2, hly⟩ := (E.out.get 1 rfl).cells
  go_wp2_with fail
  refine (dcfn_any A B n m c d f.per f.inc g.per g.inc f.vals g.vals _ (by exact (E.out.get 0 rfl).inn.ints) (by exact (E.out.get 1 rfl).inn.ints) (by omega) (by omega)).mono ?_
  rintro e w5 ⟨a, er, hSS, A4, n4, c4, hle, rfl, hI, hA, hb⟩
  have Sa := Lib.hid (show DcS f g a er from hSS)
  have hps := E.out.s.lt
  have E := Lib.hid (show EnvL w.heap.size w _ _ from (E.out.below hb).push (X := ⟨A4, n4, c4, a⟩) (CR.In.new hI hA hps))
  dsimp only [List.cons_append, List.nil_append] at E
  clear hSS hI hA hb hps hle x0 x1 x2 hlx y0 y1 y2 hly
  go_upto_region 4 with fail
  generalize hwe : w5.alloc (.cells #[.slice A4 n4 c4, .int .i64 a.per, .int .i64 a.inc] 31) = we at *
  clear hwe
  generalize w5.heap.size = Za at *
  rcases dcS_er Hf.out.ok Hg.out.1.ok GZ.out Sa.out with rfl | rfl
  case inr =>
    go_wp2_with fail
    refine (awake8_any _).mono ?_
    rintro e wq ⟨rfl, hb⟩
    have bw := (E.out.below hb).fin
    go_wp2_with fail
    go_ret
    exact ⟨rfl, bw⟩
  case inl =>
  have HX := Lib.hid (dcS_ok Sa.out).1
  have hn4 : n4 ≤ 400 := by have h1 := HX.out.n2; have h2 : a.vals.length = n4 := (E.out.get 3 rfl).inn.ints.1; omega
  have T1 := Lib.hid (show AtM f a true from .inl ⟨Hf.out.ok, HX.out, ⟨fun _ => (dc_above Sa.out GZ.out).up, fun _ => rfl⟩⟩)
  obtain ⟨x0, x1, x2, hlx⟩ := (E.out.get 0 rfl).cells
  obtain ⟨y0, y1, y2, hly⟩ := (E.out.get 3 rfl).cells
  go_wp2_with fail
  refine (refAtMost_any A A4 n n4 c c4 f.per f.inc a.per a.inc f.vals a.vals _ (by exact (E.out.get 0 rfl).inn.ints) (by exact (E.out.get 3 rfl).inn.ints) (by omega) (by omega)).mono ?_
  intro e wq hr
  obtain ⟨rfl, hb⟩ := RetM.of T1.out hr
  have E := Lib.hid (E.out.below hb)
  clear hr hb x0 x1 x2 hlx y0 y1 y2 hly
  obtain ⟨x0, x1, x2, hlx⟩ := (E.out.get 3 rfl).cells
  obtain ⟨y0, y1, y2, hly⟩ := (E.out.get 2 rfl).cells
  go_wp2_with fail
  refine (dcfn_any A4 C n4 l c4 k a.per a.inc h.per h.inc a.vals h.vals _ (by exact (E.out.get 3 rfl).inn.ints) (by exact (E.out.get 2 rfl).inn.ints) (by omega) (by omega)).mono ?_
  rintro e w6 ⟨b, er, hSS, A5, n5, c5, hle, rfl, hI, hA, hb⟩
  have Sb := Lib.hid (show DcS a h b er from hSS)
  have hps := E.out.s.lt
  have E := Lib.hid (show EnvL w.heap.size w _ _ from (E.out.below hb).push (X := ⟨A5, n5, c5, b⟩) (CR.In.new hI hA hps))
  dsimp only [List.cons_append, List.nil_append] at E
  clear hSS hI hA hb hps hle x0 x1 x2 hlx y0 y1 y2 hly
  go_upto_region 9 with fail
  generalize hwe : w6.alloc (.cells #[.slice A5 n5 c5, .int .i64 b.per, .int .i64 b.inc] 31) = we at *
  clear hwe
  generalize w6.heap.size = Zb at *
  obtain ⟨x0, x1, x2, hlx⟩ := (E.out.get 1 rfl).cells
  obtain ⟨y0, y1, y2, hly⟩ := (E.out.get 2 rfl).cells
  go_wp2_with fail
  refine (refCv7_any B C m l d k g.per g.inc h.per h.inc g.vals h.vals _ (by exact (E.out.get 1 rfl).inn.ints) (by exact (E.out.get 2 rfl).inn.ints) (by omega) (by omega) HCg.out HCh.out).mono ?_
  rintro e w7 ⟨v, ej, A6, n6, c6, hSS, hle, rfl, hI, hA, hb⟩
  have Sv := Lib.hid (show CvS g h v ej from hSS)
  have hps := E.out.s.lt
  have E := Lib.hid (show EnvL w.heap.size w _ _ from (E.out.below hb).push (X := ⟨A6, n6, c6, v⟩) (CR.In.new hI hA hps))
  dsimp only [List.cons_append, List.nil_append] at E
  clear hSS hI hA hb hps hle x0 x1 x2 hlx y0 y1 y2 hly
  go_upto_region 10 with fail
  generalize hwe : w7.alloc (.cells #[.slice A6 n6 c6, .int .i64 v.per, .int .i64 v.inc] 31) = wf at *
  clear hwe
  generalize w7.heap.size = ZV at *
  rcases dcS_er HX.out Hh.out.1.ok HZ.out Sb.out with rfl | rfl
  case inr =>
    go_wp2_with fail
    refine (awake8_any _).mono ?_
    rintro e wq ⟨rfl, hb⟩
    have bw := (E.out.below hb).fin
    go_wp2_with fail
    go_ret
    exact ⟨rfl, bw⟩
  case inl =>
  rcases cvS_er Hg.out.1.ok Hh.out.1.ok Sv.out with rfl | rfl
  case inr =>
    go_wp2_with fail
    refine (awake8_any _).mono ?_
    rintro e wq ⟨rfl, hb⟩
    have bw := (E.out.below hb).fin
    go_wp2_with fail
    go_ret
    exact ⟨rfl, bw⟩
  case inl =>
  have HVO := Lib.hid (cvS_get Sv.out).2.2.1
  have hn6 : n6 ≤ 400 := by have h1 := HVO.out.n2; have h2 : v.vals.length = n6 := (E.out.get 5 rfl).inn.ints.1; omega
  have HBO := Lib.hid (dcS_ok Sb.out).1
  have hn5 : n5 ≤ 400 := by have h1 := HBO.out.n2; have h2 : b.vals.length = n5 := (E.out.get 4 rfl).inn.ints.1; omega
  obtain ⟨x0, x1, x2, hlx⟩ := (E.out.get 0 rfl).cells
  obtain ⟨y0, y1, y2, hly⟩ := (E.out.get 5 rfl).cells
  go_wp2_with fail
  refine (dcfn_any A A6 n n6 c c6 f.per f.inc v.per v.inc f.vals v.vals _ (by exact (E.out.get 0 rfl).inn.ints) (by exact (E.out.get 5 rfl).inn.ints) (by omega) (by omega)).mono ?_
  rintro e w8 ⟨y, er, hSS, A7, n7, c7, hle, rfl, hI, hA, hb⟩
  have Sy := Lib.hid (show DcS f v y er from hSS)
  have hps := E.out.s.lt
  have E := Lib.hid (show EnvL w.heap.size w _ _ from (E.out.below hb).push (X := ⟨A7, n7, c7, y⟩) (CR.In.new hI hA hps))
  dsimp only [List.cons_append, List.nil_append] at E
  clear hSS hI hA hb hps hle x0 x1 x2 hlx y0 y1 y2 hly
  go_upto_region 13 with fail
  generalize hwe : w8.alloc (.cells #[.slice A7 n7 c7, .int .i64 y.per, .int .i64 y.inc] 31) = we at *
  clear hwe
  generalize w8.heap.size = Zy at *
  by_cases he : er = 0
  case neg =>
    have de : (er != 0) = true := by simpa using he
    clear he
    go_wp2_with fail
    refine (awake8_any _).mono ?_
    rintro e wq ⟨rfl, hb⟩
    have bw := (E.out.below hb).fin
    go_wp2_with fail
    go_ret
    exact ⟨rfl, bw⟩
  case pos =>
    subst he
    have EQ := Lib.hid (show b = y from dc_twice Sa.out Sb.out Sv.out Sy.out)
    have hn7 : n7 ≤ 400 := by have h1 := HBO.out.n2; have h2 : y.vals.length = n7 := (E.out.get 6 rfl).inn.ints.1; rw [EQ.out] at h1; omega
    obtain ⟨x0, x1, x2, hlx⟩ := (E.out.get 4 rfl).cells
    obtain ⟨y0, y1, y2, hly⟩ := (E.out.get 6 rfl).cells
    go_wp2_with fail
    refine (refSame_any A5 A7 n5 n7 c5 c7 b.per y.per b.inc y.inc b.vals y.vals _ (by exact (E.out.get 4 rfl).inn.ints) (by exact (E.out.get 6 rfl).inn.ints) (by omega) (by omega)).mono ?_
    rw [show Cv.same ⟨b.vals, b.per, b.inc⟩ ⟨y.vals, y.per, y.inc⟩ = true from (Cv.same_iff _ _).2 (by rw [EQ.out])]
    rintro e w9 ⟨rfl, hb⟩
    have E := Lib.hid (E.out.below hb)
    clear hb x0 x1 x2 hlx y0 y1 y2 hly
    go_wp2_with fail
    refine (awake8_any _).mono ?_
    rintro e wq ⟨rfl, hb⟩
    have bw := (E.out.below hb).fin
    go_wp2_with fail
    go_ret
    exact ⟨rfl, bw⟩
end Go.Proofs.Ytbkimphcmmmaiaa
