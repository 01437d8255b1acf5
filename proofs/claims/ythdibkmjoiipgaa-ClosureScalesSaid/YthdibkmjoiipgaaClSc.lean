/- The statement ClosureScales: the walk. -/
import Derived.Test.YthdibkmjoiipgaaClKit
import Derived.Test.YthdibkmjoiipgaaClScP
import Derived.Test.YthdibkmjoiipgaaZero
import Derived.Test.YthdibkmjoiipgaaRefScale
import Derived.Test.YthdibkmjoiipgaaRefMx
import Derived.Deep.DeepCutAuto
namespace Go.Proofs.Ythdibkmjoiipgaa
open Go.RowKit
set_option linter.unusedVariables false
set_option maxHeartbeats 4000000 in
set_option maxRecDepth 100000 in
theorem clSc_any (A0 : Option Addr) (n0 c0 : Nat) (L : List Int) (w : World) (hL : Ints w w.heap.size A0 n0 L) (hc0 : n0 ≤ c0) (hn0 : (n0 : Int) ≤ 9223372036854775807) :
    Calls Try.prog 10 #[.slice A0 n0 c0] w fun e w' => e = .returned (.bool true) ∧ Below w.heap.size w w' := by
  go_enter Try.func10, Try.ntmps10
  go_wp2_with fail
  refine (new_any A0 n0 c0 L w hL hc0 hn0).mono ?_
  rintro e w1 ⟨rfl, hS1, hb1⟩
  have E := Lib.hid (EnvL.start hS1 hb1)
  clear hL hS1 hb1
  go_wp2_with fail
  refine (srcZero2_any w.heap.size 5 w1 (by exact E.out.s) (by omega) (by omega)).mono ?_
  rintro e w2 ⟨f, A, n, c, hD, hcf, rfl, hI, hA, hS, hk⟩
  have hps := E.out.s.lt
  have E := Lib.hid (E.out.kept hS hk)
  have Vf := Lib.hid (show (CR.mk A n c f).In w.heap.size w2 from CR.In.new hI hA hps)
  have Hf := Lib.hid (show DrawC 5 f ∧ f.Fin from hD)
  have HCf := Lib.hid hcf
  have hlenf := hI.1
  try simp only at hlenf
  have hnf : n ≤ 20 := by have h1 := Hf.out.1.len; omega
  clear hlenf
  clear hD hI hA hS hk hps hcf
  go_wp2_with fail
  refine (srcZero2_any w.heap.size 4 w2 (by exact E.out.s) (by omega) (by omega)).mono ?_
  rintro e w3 ⟨g, B, m, d, hD, hcf, rfl, hI, hA, hS, hk⟩
  have hps := E.out.s.lt
  have E := Lib.hid (E.out.kept hS hk)
  have Vg := Lib.hid (show (CR.mk B m d g).In w.heap.size w3 from CR.In.new hI hA hps)
  have Hg := Lib.hid (show DrawC 4 g ∧ g.Fin from hD)
  have HCg := Lib.hid hcf
  have hleng := hI.1
  try simp only at hleng
  have hmg : m ≤ 20 := by have h1 := Hg.out.1.len; omega
  clear hleng
  have Vf := Lib.hid (Vf.out.kept hk)
  clear hD hI hA hS hk hps hcf
  go_wp2_with fail
  refine (n_any w.heap.size 7 w3 (by exact E.out.s) (by omega) (by omega)).mono ?_
  rintro e w4 ⟨z, hz0, hz1, rfl, hS, hk⟩
  have E := Lib.hid (E.out.kept hS hk)
  have Vf := Lib.hid (Vf.out.kept hk)
  have Vg := Lib.hid (Vg.out.kept hk)
  clear hS hk
  have E := Lib.hid (show EnvL w.heap.size w _ _ from E.out.push (X := ⟨A, n, c, f⟩) Vf.out)
  dsimp only [List.cons_append, List.nil_append] at E
  have Vg := Lib.hid (Vg.out.alloc (.cells #[.slice A n c, .int .i64 f.per, .int .i64 f.inc] 46))
  have E := Lib.hid (show EnvL w.heap.size w _ _ from E.out.push (X := ⟨B, m, d, g⟩) Vg.out)
  dsimp only [List.cons_append, List.nil_append] at E
  have DF := Lib.hid Hf.out; have DG := Lib.hid Hg.out
  have HNF := Lib.hid HCf.out; have HNG := Lib.hid HCg.out
  clear Vf Vg HCf HCg Hf Hg
  go_upto_region 3 with fail
  generalize hwe : (w4.alloc (.cells #[.slice A n c, .int .i64 f.per, .int .i64 f.inc] 46)).alloc (.cells #[.slice B m d, .int .i64 g.per, .int .i64 g.inc] 46) = we at *
  clear hwe
  simp only [World.size_alloc] at E
  generalize hkk : (1 : Int) + z = kk at *
  have hK1 : 1 ≤ kk := by omega
  have hK9 : kk ≤ 7 := by omega
  clear hkk hz0 hz1
  obtain ⟨x0, x1, x2, hlx⟩ := (E.out.get 0 rfl).cells
  go_wp2_with fail
  refine (clof_any A n c f _ (by exact (E.out.get 0 rfl).inn.ints) (by omega)).mono ?_
  rintro e w5 ⟨a, e4, hSS, A4, n4, c4, hle, rfl, hI, hA, hb⟩
  have Sa := Lib.hid (show ClS f a e4 from hSS)
  have HCa := Lib.hid hle
  have hps := E.out.s.lt
  have E := Lib.hid (show EnvL w.heap.size w _ _ from (E.out.below hb).push (X := ⟨A4, n4, c4, a⟩) (CR.In.new hI hA hps))
  dsimp only [List.cons_append, List.nil_append] at E
  clear hSS hI hA hb hps hle x0 x1 x2 hlx
  go_upto_region 4 with fail
  generalize hwe : w5.alloc (.cells #[.slice A4 n4 c4, .int .i64 a.per, .int .i64 a.inc] 46) = we at *
  clear hwe
  generalize w5.heap.size = Za at *
  have hl4 : n4 ≤ 400 := by have h1 := cl_len Sa.out; have h2 : a.vals.length = n4 := (E.out.get 2 rfl).inn.ints.1; omega
  obtain ⟨x0, x1, x2, hlx⟩ := (E.out.get 0 rfl).cells
  go_wp2_with fail
  refine (refScale_any A n c f.per f.inc kk f.vals _ (by exact (E.out.get 0 rfl).inn.ints) (by omega) HNF.out).mono ?_
  rintro e w6 ⟨x, ex, A5, n5, c5, hSS, hle, rfl, hI, hA, hb⟩
  have SX := Lib.hid (show ScaleS f kk x ex from hSS)
  obtain ⟨an, han, hSc, hnx, hat⟩ := sc_x DF.out.1 DF.out.2 (by omega) hK1 (by omega) SX.out
  have hl5 : n5 ≤ 400 := by have h1 := hSc.fx.1.n2; have h2 : x.vals.length = n5 := hI.1; omega
  have hps := E.out.s.lt
  have E := Lib.hid (show EnvL w.heap.size w _ _ from (E.out.below hb).push (X := ⟨A5, n5, c5, x⟩) (CR.In.new hI hA hps))
  dsimp only [List.cons_append, List.nil_append] at E
  clear hSS hI hA hb hps hle x0 x1 x2 hlx han hSc hnx hat
  go_upto_region 5 with fail
  generalize hwe : w6.alloc (.cells #[.slice A5 n5 c5, .int .i64 x.per, .int .i64 x.inc] 46) = we at *
  clear hwe
  generalize w6.heap.size = ZX at *
  obtain ⟨x0, x1, x2, hlx⟩ := (E.out.get 3 rfl).cells
  go_wp2_with fail
  refine (clof_any A5 n5 c5 x _ (by exact (E.out.get 3 rfl).inn.ints) (by omega)).mono ?_
  rintro e w7 ⟨b, e6, hSS, A6, n6, c6, hle, rfl, hI, hA, hb⟩
  have Sb := Lib.hid (show ClS x b e6 from hSS)
  have HCb := Lib.hid hle
  have hps := E.out.s.lt
  have E := Lib.hid (show EnvL w.heap.size w _ _ from (E.out.below hb).push (X := ⟨A6, n6, c6, b⟩) (CR.In.new hI hA hps))
  dsimp only [List.cons_append, List.nil_append] at E
  clear hSS hI hA hb hps hle x0 x1 x2 hlx
  go_upto_region 6 with fail
  generalize hwe : w7.alloc (.cells #[.slice A6 n6 c6, .int .i64 b.per, .int .i64 b.inc] 46) = we at *
  clear hwe
  generalize w7.heap.size = Zb at *
  have hl6 : n6 ≤ 400 := by have h1 := cl_len Sb.out; have h2 : b.vals.length = n6 := (E.out.get 4 rfl).inn.ints.1; omega
  rcases sc_law DF.out.1 DF.out.2 (by omega) hK1 (by omega) SX.out Sa.out Sb.out with ⟨rfl, rfl, hao, hbo, hcc⟩ | ⟨rfl, rfl⟩
  case inr =>
    go_wp2_with fail
    refine (awake9_any _).mono ?_
    rintro e wq ⟨rfl, hb⟩
    have bw := (E.out.below hb).fin
    go_wp2_with fail
    go_ret
    exact ⟨rfl, bw⟩
  case inl =>
    have AO := Lib.hid hao; have BO := Lib.hid hbo; have CC := Lib.hid hcc
    clear hao hbo hcc
    obtain ⟨x0, x1, x2, hlx⟩ := (E.out.get 2 rfl).cells
    go_wp2_with fail
    refine (refScale_any A4 n4 c4 a.per a.inc kk a.vals _ (by exact (E.out.get 2 rfl).inn.ints) (by omega) HCa.out).mono ?_
    rintro e w8 ⟨y, ey, A7, n7, c7, hSS, hle, rfl, hI, hA, hb⟩
    obtain ⟨rfl, rfl⟩ := CC.out y ey hSS
    have hl7 : n7 ≤ 400 := by have h1 := BO.out.n2; have h2 : y.vals.length = n7 := hI.1; omega
    have hps := E.out.s.lt
    have E := Lib.hid (show EnvL w.heap.size w _ _ from (E.out.below hb).push (X := ⟨A7, n7, c7, y⟩) (CR.In.new hI hA hps))
    dsimp only [List.cons_append, List.nil_append] at E
    clear hSS hI hA hb hps hle x0 x1 x2 hlx
    go_upto_region 11 with fail
    generalize hwe : w8.alloc (.cells #[.slice A7 n7 c7, .int .i64 y.per, .int .i64 y.inc] 46) = we at *
    clear hwe
    generalize w8.heap.size = ZY at *
    obtain ⟨x0, x1, x2, hlx⟩ := (E.out.get 4 rfl).cells
    obtain ⟨y0, y1, y2, hly⟩ := (E.out.get 5 rfl).cells
    go_wp2_with fail
    refine (refSame_any A6 A7 n6 n7 c6 c7 y.per y.per y.inc y.inc y.vals y.vals _ (by exact (E.out.get 4 rfl).inn.ints) (by exact (E.out.get 5 rfl).inn.ints) (by omega) (by omega)).mono ?_
    rw [show Cv.same ⟨y.vals, y.per, y.inc⟩ ⟨y.vals, y.per, y.inc⟩ = true from (Cv.same_iff _ _).2 rfl]
    rintro e wq ⟨rfl, hb⟩
    have E := Lib.hid (E.out.below hb)
    clear hb x0 x1 x2 hlx y0 y1 y2 hly
    go_upto_region 13 with fail
    obtain ⟨x0, x1, x2, hlx⟩ := (E.out.get 0 rfl).cells
    obtain ⟨y0, y1, y2, hly⟩ := (E.out.get 1 rfl).cells
    go_wp2_with fail
    refine (refMax_any A B n m c d f.per f.inc g.per g.inc f.vals g.vals _ (by exact (E.out.get 0 rfl).inn.ints) (by exact (E.out.get 1 rfl).inn.ints) (by omega) (by omega) HNF.out HNG.out).mono ?_
    rintro e w9 ⟨r, er, A8, n8, c8, hSS, hle, rfl, hI, hA, hb⟩
    have MX := Lib.hid (ext_get DF.out.2.1 DG.out.2.1 (show ExtS false f g r er from hSS))
    have hl8 : n8 ≤ 400 := by
      have h2 : r.vals.length = n8 := hI.1
      rcases MX.out with ⟨_, h, _⟩ | ⟨_, rfl⟩
      · have := h.n2; omega
      · have h3 : (0 : Nat) = n8 := h2
        omega
    have hps := E.out.s.lt
    have E := Lib.hid (show EnvL w.heap.size w _ _ from (E.out.below hb).push (X := ⟨A8, n8, c8, r⟩) (CR.In.new hI hA hps))
    dsimp only [List.cons_append, List.nil_append] at E
    clear hSS hI hA hb hps hle x0 x1 x2 hlx y0 y1 y2 hly
    go_upto_region 14 with fail
    generalize hwe : w9.alloc (.cells #[.slice A8 n8 c8, .int .i64 r.per, .int .i64 r.inc] 46) = we at *
    clear hwe
    generalize w9.heap.size = ZM at *
    obtain ⟨x0, x1, x2, hlx⟩ := (E.out.get 6 rfl).cells
    go_wp2_with fail
    refine (clof_any A8 n8 c8 r _ (by exact (E.out.get 6 rfl).inn.ints) (by omega)).mono ?_
    rintro e wa ⟨o, eo, hSS, A9, n9, c9, hle, rfl, hI, hA, hb⟩
    have So := Lib.hid (show ClS r o eo from hSS)
    have HCo := Lib.hid hle
    have hps := E.out.s.lt
    have E := Lib.hid (show EnvL w.heap.size w _ _ from (E.out.below hb).push (X := ⟨A9, n9, c9, o⟩) (CR.In.new hI hA hps))
    dsimp only [List.cons_append, List.nil_append] at E
    clear hSS hI hA hb hps hle x0 x1 x2 hlx
    go_upto_region 15 with fail
    generalize hwe : wa.alloc (.cells #[.slice A9 n9 c9, .int .i64 o.per, .int .i64 o.inc] 46) = we at *
    clear hwe
    generalize wa.heap.size = Zo at *
    have hl9 : n9 ≤ 400 := by have h1 := cl_len So.out; have h2 : o.vals.length = n9 := (E.out.get 7 rfl).inn.ints.1; omega
    rcases MX.out with ⟨hr0, hmo, hme⟩ | ⟨hr3, hrn⟩
    case inr =>
      subst hr3
      clear hrn
      go_wp2_with fail
      refine (awake9_any _).mono ?_
      rintro e wq ⟨rfl, hb⟩
      have bw := (E.out.below hb).fin
      go_wp2_with fail
      go_ret
      exact ⟨rfl, bw⟩
    case inl =>
      subst hr0
      rcases cl_er hmo So.out with ⟨ho, fr, cs, hCK⟩ | ⟨ho, hon⟩
      case inr =>
        subst ho
        clear hmo hme hon
        go_wp2_with fail
        refine (awake9_any _).mono ?_
        rintro e wq ⟨rfl, hb⟩
        have bw := (E.out.below hb).fin
        go_wp2_with fail
        go_ret
        exact ⟨rfl, bw⟩
      case inl =>
        subst ho
        obtain ⟨fr2, cs2, hCA⟩ := cl_ck Sa.out
        have LE := Lib.hid (sc_max DF.out.2 DG.out.2 hme hCA hCK)
        have OO := Lib.hid (ck_add hCK).1
        clear hmo hme hCK hCA
        obtain ⟨x0, x1, x2, hlx⟩ := (E.out.get 2 rfl).cells
        obtain ⟨y0, y1, y2, hly⟩ := (E.out.get 7 rfl).cells
        go_wp2_with fail
        refine (refAtMost_any A4 A9 n4 n9 c4 c9 a.per a.inc o.per o.inc a.vals o.vals _ (by exact (E.out.get 2 rfl).inn.ints) (by exact (E.out.get 7 rfl).inn.ints) (by omega) (by omega)).mono ?_
        rintro e wq ⟨bm, hbm, rfl, hb⟩
        obtain rfl : bm = true := atm_true AO.out OO.out LE.out hbm
        have E := Lib.hid (E.out.below hb)
        clear hb hbm x0 x1 x2 hlx y0 y1 y2 hly
        go_wp2_with fail
        refine (awake9_any _).mono ?_
        rintro e wq ⟨rfl, hb⟩
        have bw := (E.out.below hb).fin
        go_wp2_with fail
        go_ret
        exact ⟨rfl, bw⟩
end Go.Proofs.Ythdibkmjoiipgaa
