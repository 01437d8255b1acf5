/- The statement ClosureConvolves: the walk. -/
import Derived.Test.YthdibkmjoiipgaaClKit
import Derived.Test.YthdibkmjoiipgaaClCvLaw
import Derived.Test.YthdibkmjoiipgaaCvFn
import Derived.Test.YthdibkmjoiipgaaRefMn
import Derived.Test.YthdibkmjoiipgaaZero
import Derived.Deep.DeepCutAuto
namespace Go.Proofs.Ythdibkmjoiipgaa
open Go.RowKit
set_option linter.unusedVariables false
set_option maxHeartbeats 4000000 in
set_option maxRecDepth 100000 in
theorem clCv_any (A0 : Option Addr) (n0 c0 : Nat) (L : List Int) (w : World) (hL : Ints w w.heap.size A0 n0 L) (hc0 : n0 ≤ c0) (hn0 : (n0 : Int) ≤ 9223372036854775807) :
    Calls Try.prog 12 #[.slice A0 n0 c0] w fun e w' => e = .returned (.bool true) ∧ Below w.heap.size w w' := by
  go_enter Try.func12, Try.ntmps12
  go_wp2_with fail
  refine (new_any A0 n0 c0 L w hL hc0 hn0).mono ?_
  rintro e w1 ⟨rfl, hS1, hb1⟩
  have E := Lib.hid (EnvL.start hS1 hb1)
  clear hL hS1 hb1
  go_wp2_with fail
  refine (srcZero2_any w.heap.size 4 w1 (by exact E.out.s) (by omega) (by omega)).mono ?_
  rintro e w2 ⟨x, A, n, c, hD, hcf, rfl, hI, hA, hS, hk⟩
  have hps := E.out.s.lt
  have E := Lib.hid (E.out.kept hS hk)
  have Vx := Lib.hid (show (CR.mk A n c x).In w.heap.size w2 from CR.In.new hI hA hps)
  have Hx := Lib.hid (show DrawC 4 x ∧ x.Fin from hD)
  have HCx := Lib.hid hcf
  have hlenx := hI.1
  try simp only at hlenx
  have hnx : n ≤ 20 := by have h1 := Hx.out.1.len; omega
  clear hlenx
  clear hD hI hA hS hk hps hcf
  go_wp2_with fail
  refine (clof_any A n c x _ (by exact Vx.out.ints) (by omega)).mono ?_
  rintro e w3 ⟨f, e4, hSS, A4, n4, c4, hle, rfl, hI, hA, hb⟩
  have Sf := Lib.hid (cl_er Hx.out.1.ok (show ClS x f e4 from hSS))
  have hlf : n4 ≤ 400 := by have h1 := cl_len (show ClS x f e4 from hSS); have h2 : f.vals.length = n4 := hI.1; omega
  have HCf := Lib.hid hle
  have hps := E.out.s.lt
  have E := Lib.hid (show EnvL w.heap.size w _ _ from (E.out.below hb).push (X := ⟨A4, n4, c4, f⟩) (CR.In.new hI hA hps))
  dsimp only [List.cons_append, List.nil_append] at E
  clear hSS hI hA hb hps hle Vx Hx HCx hnx
  go_upto_region 3 with fail
  generalize hwe : w3.alloc (.cells #[.slice A4 n4 c4, .int .i64 f.per, .int .i64 f.inc] 46) = we at *
  clear hwe
  generalize w3.heap.size = Zf at *
  go_wp2_with fail
  refine (srcZero2_any w.heap.size 4 _ (by exact E.out.s) (by omega) (by omega)).mono ?_
  rintro e w5 ⟨y, B, m, d, hD, hcf, rfl, hI, hA, hS, hk⟩
  have hps := E.out.s.lt
  have E := Lib.hid (E.out.kept hS hk)
  have Vy := Lib.hid (show (CR.mk B m d y).In w.heap.size w5 from CR.In.new hI hA hps)
  have Hy := Lib.hid (show DrawC 4 y ∧ y.Fin from hD)
  have HCy := Lib.hid hcf
  have hleny := hI.1
  try simp only at hleny
  have hny : m ≤ 20 := by have h1 := Hy.out.1.len; omega
  clear hleny
  clear hD hI hA hS hk hps hcf
  go_wp2_with fail
  refine (clof_any B m d y _ (by exact Vy.out.ints) (by omega)).mono ?_
  rintro e w6 ⟨g, e5, hSS, A5, n5, c5, hle, rfl, hI, hA, hb⟩
  have Sg := Lib.hid (cl_er Hy.out.1.ok (show ClS y g e5 from hSS))
  have hlg : n5 ≤ 400 := by have h1 := cl_len (show ClS y g e5 from hSS); have h2 : g.vals.length = n5 := hI.1; omega
  have HCg := Lib.hid hle
  have hps := E.out.s.lt
  have E := Lib.hid (show EnvL w.heap.size w _ _ from (E.out.below hb).push (X := ⟨A5, n5, c5, g⟩) (CR.In.new hI hA hps))
  dsimp only [List.cons_append, List.nil_append] at E
  clear hSS hI hA hb hps hle Vy Hy HCy hny
  go_upto_region 4 with fail
  generalize hwe : w6.alloc (.cells #[.slice A5 n5 c5, .int .i64 g.per, .int .i64 g.inc] 46) = we at *
  clear hwe
  generalize w6.heap.size = Zg at *
  rcases Sf.out with ⟨he4, hf⟩ | ⟨he4, hf⟩
  case inr =>
    subst he4
    clear hf
    rcases Sg.out with ⟨he5, hg⟩ | ⟨he5, hg⟩
    all_goals
      subst he5
      clear hg
      go_wp2_with fail
      refine (awake9_any _).mono ?_
      rintro e wq ⟨rfl, hb⟩
      have bw := (E.out.below hb).fin
      go_wp2_with fail
      go_ret
      exact ⟨rfl, bw⟩
  case inl =>
  rcases Sg.out with ⟨he5, hg⟩ | ⟨he5, hg⟩
  case inr =>
    subst he4 he5
    clear hf hg
    go_wp2_with fail
    refine (awake9_any _).mono ?_
    rintro e wq ⟨rfl, hb⟩
    have bw := (E.out.below hb).fin
    go_wp2_with fail
    go_ret
    exact ⟨rfl, bw⟩
  case inl =>
  subst he4 he5
  have GF := Lib.hid (show f.Ok ∧ SubA f ∧ f.at 0 = 0 from by obtain ⟨_, _, h⟩ := hf; have k := ck_get h; exact ⟨k.1, k.2.2.2.2.1, k.2.2.1⟩)
  have GG := Lib.hid (show g.Ok ∧ SubA g ∧ g.at 0 = 0 from by obtain ⟨_, _, h⟩ := hg; have k := ck_get h; exact ⟨k.1, k.2.2.2.2.1, k.2.2.1⟩)
  clear hf hg Sf Sg
  obtain ⟨x0, x1, x2, hlx⟩ := (E.out.get 0 rfl).cells
  obtain ⟨y0, y1, y2, hly⟩ := (E.out.get 1 rfl).cells
  go_wp2_with fail
  refine (refMin_any A4 A5 n4 n5 c4 c5 f.per f.inc g.per g.inc f.vals g.vals _ (by exact (E.out.get 0 rfl).inn.ints) (by exact (E.out.get 1 rfl).inn.ints) (by omega) (by omega) HCf.out HCg.out).mono ?_
  rintro e w7 ⟨r, er, A6, n6, c6, hSS, hle, rfl, hI, hA, hb⟩
  have MX := Lib.hid (ext_get GF.out.1 GG.out.1 (show ExtS true f g r er from hSS))
  have hl6 : n6 ≤ 400 := by
    have h2 : r.vals.length = n6 := hI.1
    rcases MX.out with ⟨_, h, _⟩ | ⟨_, rfl⟩
    · have := h.n2; omega
    · have h3 : (0 : Nat) = n6 := h2
      omega
  have hps := E.out.s.lt
  have E := Lib.hid (show EnvL w.heap.size w _ _ from (E.out.below hb).push (X := ⟨A6, n6, c6, r⟩) (CR.In.new hI hA hps))
  dsimp only [List.cons_append, List.nil_append] at E
  clear hSS hI hA hb hps hle x0 x1 x2 hlx y0 y1 y2 hly
  go_upto_region 7 with fail
  generalize hwe : w7.alloc (.cells #[.slice A6 n6 c6, .int .i64 r.per, .int .i64 r.inc] 46) = we at *
  clear hwe
  generalize w7.heap.size = ZM at *
  obtain ⟨x0, x1, x2, hlx⟩ := (E.out.get 0 rfl).cells
  obtain ⟨y0, y1, y2, hly⟩ := (E.out.get 1 rfl).cells
  go_wp2_with fail
  refine (cvfn_any A4 A5 n4 n5 c4 c5 f.per f.inc g.per g.inc f.vals g.vals _ (by exact (E.out.get 0 rfl).inn.ints) (by exact (E.out.get 1 rfl).inn.ints) (by omega) (by omega)).mono ?_
  rintro e w8 ⟨q, eq, hSS, A7, n7, c7, hle, rfl, hI, hA, hb⟩
  have SQ := Lib.hid (show CvS f g q eq from hSS)
  have hl7 : n7 ≤ 400 := by have h1 := cvS_len GF.out.1 GG.out.1 SQ.out; have h2 : q.vals.length = n7 := hI.1; omega
  have hps := E.out.s.lt
  have E := Lib.hid (show EnvL w.heap.size w _ _ from (E.out.below hb).push (X := ⟨A7, n7, c7, q⟩) (CR.In.new hI hA hps))
  dsimp only [List.cons_append, List.nil_append] at E
  clear hSS hI hA hb hps hle x0 x1 x2 hlx y0 y1 y2 hly
  go_upto_region 8 with fail
  generalize hwe : w8.alloc (.cells #[.slice A7 n7 c7, .int .i64 q.per, .int .i64 q.inc] 46) = we at *
  clear hwe
  generalize w8.heap.size = ZQ at *
  rcases MX.out with ⟨hr0, hmo, hme⟩ | ⟨hr3, hrn⟩
  case inr =>
    subst hr3
    clear hrn
    rcases cv_er2 GF.out.1 GG.out.1 SQ.out with ⟨hq, _⟩ | ⟨hq, hqn⟩
    case inl =>
      subst hq
      go_wp2_with fail
      refine (awake9_any _).mono ?_
      rintro e wq ⟨rfl, hb⟩
      have bw := (E.out.below hb).fin
      go_wp2_with fail
      go_ret
      exact ⟨rfl, bw⟩
    case inr =>
      subst hq
      clear hqn
      go_wp2_with fail
      refine (awake9_any _).mono ?_
      rintro e wq ⟨rfl, hb⟩
      have bw := (E.out.below hb).fin
      go_wp2_with fail
      go_ret
      exact ⟨rfl, bw⟩
  case inl =>
  rcases cv_er2 GF.out.1 GG.out.1 SQ.out with ⟨hq, _⟩ | ⟨hq, hqn⟩
  case inr =>
    subst hr0 hq
    clear hqn hmo hme
    go_wp2_with fail
    refine (awake9_any _).mono ?_
    rintro e wq ⟨rfl, hb⟩
    have bw := (E.out.below hb).fin
    go_wp2_with fail
    go_ret
    exact ⟨rfl, bw⟩
  case inl =>
  subst hr0 hq
  have MO := Lib.hid hmo; have ME := Lib.hid hme
  clear hmo hme
  obtain ⟨x0, x1, x2, hlx⟩ := (E.out.get 2 rfl).cells
  go_wp2_with fail
  refine (clof_any A6 n6 c6 r _ (by exact (E.out.get 2 rfl).inn.ints) (by omega)).mono ?_
  rintro e w9 ⟨h, e8, hSS, A8, n8, c8, hle, rfl, hI, hA, hb⟩
  have Sh := Lib.hid (show ClS r h e8 from hSS)
  have HCh := Lib.hid hle
  have hps := E.out.s.lt
  have E := Lib.hid (show EnvL w.heap.size w _ _ from (E.out.below hb).push (X := ⟨A8, n8, c8, h⟩) (CR.In.new hI hA hps))
  dsimp only [List.cons_append, List.nil_append] at E
  clear hSS hI hA hb hps hle x0 x1 x2 hlx
  go_upto_region 11 with fail
  generalize hwe : w9.alloc (.cells #[.slice A8 n8 c8, .int .i64 h.per, .int .i64 h.inc] 46) = we at *
  clear hwe
  generalize w9.heap.size = Zh at *
  have hl8 : n8 ≤ 400 := by have h1 := cl_len Sh.out; have h2 : h.vals.length = n8 := (E.out.get 4 rfl).inn.ints.1; omega
  rcases cl_er MO.out Sh.out with ⟨he8, fr, cs, hCK⟩ | ⟨he8, hhn⟩
  case inr =>
    subst he8
    clear hhn
    go_wp2_with fail
    refine (awake9_any _).mono ?_
    rintro e wq ⟨rfl, hb⟩
    have bw := (E.out.below hb).fin
    go_wp2_with fail
    go_ret
    exact ⟨rfl, bw⟩
  case inl =>
    subst he8
    have EQ := Lib.hid (cl_conv GF.out.1 GG.out.1 GF.out.2.1 GG.out.2.1 GF.out.2.2 GG.out.2.2 MO.out ME.out SQ.out hCK)
    clear hCK
    obtain ⟨x0, x1, x2, hlx⟩ := (E.out.get 4 rfl).cells
    obtain ⟨y0, y1, y2, hly⟩ := (E.out.get 3 rfl).cells
    go_wp2_with fail
    refine (refSame_any A8 A7 n8 n7 c8 c7 h.per q.per h.inc q.inc h.vals q.vals _ (by exact (E.out.get 4 rfl).inn.ints) (by exact (E.out.get 3 rfl).inn.ints) (by omega) (by omega)).mono ?_
    rw [show Cv.same ⟨h.vals, h.per, h.inc⟩ ⟨q.vals, q.per, q.inc⟩ = true from (Cv.same_iff _ _).2 EQ.out]
    rintro e wq ⟨rfl, hb⟩
    have E := Lib.hid (E.out.below hb)
    clear hb x0 x1 x2 hlx y0 y1 y2 hly
    go_wp2_with fail
    refine (awake9_any _).mono ?_
    rintro e wq ⟨rfl, hb⟩
    have bw := (E.out.below hb).fin
    go_wp2_with fail
    go_ret
    exact ⟨rfl, bw⟩
end Go.Proofs.Ythdibkmjoiipgaa
