/- The statement ConvolutionProves: the walk. -/
import Derived.Test.YtbkimphcmmmaiaaAwake7
import Derived.Test.YtbkimphcmmmaiaaEnvL
import Derived.Test.YtbkimphcmmmaiaaRef7A
namespace Go.Proofs.Ytbkimphcmmmaiaa
open Go.RowKit
set_option linter.unusedVariables false

theorem cv_er {f g r : Cv} {er : Int} (hf : f.Ok) (hg : g.Ok) (H : CvS f g r er) : er = 0 ∨ er = 3 := by
  rcases H with ⟨h, _⟩ | ⟨hf, hg, a, b, ha, hb, H⟩
  · exact absurd ⟨hf, hg⟩ h
  · rcases H with ⟨_, _, h⟩ | ⟨hc, h, h1, h2⟩
    · exact .inr h
    · obtain ⟨hao, _⟩ := nf_small hf ha
      obtain ⟨hbo, _⟩ := nf_small hg hb
      rcases h2.get (cv_up hao hbo h1) with h3 | h3
      · exact .inl h3.1
      · exact .inr h3.1
set_option maxHeartbeats 4000000 in
set_option maxRecDepth 100000 in
theorem cvPv_any (A0 : Option Addr) (n0 c0 : Nat) (L : List Int) (at' : Int) (w : World) (hL : Ints w w.heap.size A0 n0 L) (hc0 : n0 ≤ c0) (hn0 : (n0 : Int) ≤ 9223372036854775807) :
    Calls Try.prog 9 #[.slice A0 n0 c0, .int .i64 at'] w fun e w' => e = .returned (.bool true) ∧ Below w.heap.size w w' := by
  go_enter Try.func9, Try.ntmps9
  go_wp2_with fail
  refine (new_any A0 n0 c0 L w hL hc0 hn0).mono ?_
  rintro e w1 ⟨rfl, hS1, hb1⟩
  have E := Lib.hid (EnvL.start hS1 hb1)
  clear hL hS1 hb1
  go_wp2_with fail
  refine (srcCurve2_any w.heap.size 8 _ (by exact E.out.s) (by omega) (by omega)).mono ?_
  rintro e w2 ⟨f, A, n, c, hD, hcf, rfl, hI, hA, hS, hk⟩
  have hps := E.out.s.lt
  have E := Lib.hid (E.out.kept hS hk)
  have Vf := Lib.hid (show (CR.mk A n c f).In w.heap.size w2 from CR.In.new hI hA hps)
  have Hf := Lib.hid (show DrawC 8 f from hD)
  have HCf := Lib.hid hcf
  have hlenf := hI.1
  try simp only at hlenf
  have hnl : n ≤ 20 := by have h1 := Hf.out.len; omega
  clear hlenf
  clear hD hI hA hS hk hps hcf
  go_wp2_with fail
  refine (srcCurve2_any w.heap.size 8 _ (by exact E.out.s) (by omega) (by omega)).mono ?_
  rintro e w3 ⟨g, B, m, d, hD, hcf, rfl, hI, hA, hS, hk⟩
  have hps := E.out.s.lt
  have E := Lib.hid (E.out.kept hS hk)
  have Vg := Lib.hid (show (CR.mk B m d g).In w.heap.size w3 from CR.In.new hI hA hps)
  have Hg := Lib.hid (show DrawC 8 g from hD)
  have HCg := Lib.hid hcf
  have hleng := hI.1
  try simp only at hleng
  have hml : m ≤ 20 := by have h1 := Hg.out.len; omega
  clear hleng
  have Vf := Lib.hid (Vf.out.kept hk)
  clear hD hI hA hS hk hps hcf
  have E := Lib.hid (show EnvL w.heap.size w _ _ from E.out.push (X := ⟨A, n, c, f⟩) Vf.out)
  dsimp only [List.cons_append, List.nil_append] at E
  have Vg := Lib.hid (Vg.out.alloc (.cells #[.slice A n c, .int .i64 f.per, .int .i64 f.inc] 31))
  have E := Lib.hid (show EnvL w.heap.size w _ _ from E.out.push (X := ⟨B, m, d, g⟩) Vg.out)
  dsimp only [List.cons_append, List.nil_append] at E
  clear Vf Vg HCf HCg
  go_upto_region 3 with fail
  simp only [World.size_alloc] at E
  generalize hwe : (w3.alloc (.cells #[.slice A n c, .int .i64 f.per, .int .i64 f.inc] 31)).alloc (.cells #[.slice B m d, .int .i64 g.per, .int .i64 g.inc] 31) = we at *
  clear hwe
  generalize w3.heap.size + 1 = G at *
  generalize w3.heap.size = F at *
  obtain ⟨x0, x1, x2, hlx⟩ := (E.out.get 0 rfl).cells
  obtain ⟨y0, y1, y2, hly⟩ := (E.out.get 1 rfl).cells
  go_wp2_with fail
  refine (cpprv_any A B n m c d f.per f.inc g.per g.inc f.vals g.vals _ (by exact (E.out.get 0 rfl).inn.ints) (by exact (E.out.get 1 rfl).inn.ints) (by omega) (by omega)).mono ?_
  rintro e w4 ⟨r, fr, cs, er, hS, A5, n5, c5, B6, m6, d6, hc6, hd6, rfl, hI6, hJ6, hA6, hB6, hb⟩
  have SP := Lib.hid (show PvS f g r fr cs er from hS)
  have CB := Lib.hid (Blk.new w4 56 #[.slice A5 n5 c5, .int .i64 r.per, .int .i64 r.inc, .int .i64 fr, .slice B6 m6 d6])
  have CI := Lib.hid (hI6.alloc' (.cells #[.slice A5 n5 c5, .int .i64 r.per, .int .i64 r.inc, .int .i64 fr, .slice B6 m6 d6] 56)); have CJ := Lib.hid (hJ6.alloc' (.cells #[.slice A5 n5 c5, .int .i64 r.per, .int .i64 r.inc, .int .i64 fr, .slice B6 m6 d6] 56))
  have E := Lib.hid ((E.out.below hb).alloc (.cells #[.slice A5 n5 c5, .int .i64 r.per, .int .i64 r.inc, .int .i64 fr, .slice B6 m6 d6] 56))
  clear hS hc6 hd6 hI6 hJ6 hA6 hB6 hb x0 x1 x2 hlx y0 y1 y2 hly
  go_upto_region 4 with fail
  generalize hwe : w4.alloc (.cells #[.slice A5 n5 c5, .int .i64 r.per, .int .i64 r.inc, .int .i64 fr, .slice B6 m6 d6] 56) = wf at *
  clear hwe
  generalize w4.heap.size = Q at *
  obtain ⟨x0, x1, x2, hlx⟩ := (E.out.get 0 rfl).cells
  obtain ⟨y0, y1, y2, hly⟩ := (E.out.get 1 rfl).cells
  go_wp2_with fail
  refine (cvfn_any A B n m c d f.per f.inc g.per g.inc f.vals g.vals _ (by exact (E.out.get 0 rfl).inn.ints) (by exact (E.out.get 1 rfl).inn.ints) (by omega) (by omega)).mono ?_
  rintro e w5 ⟨v, ev, hSS, A7, n7, c7, hle, rfl, hI, hA, hb⟩
  obtain ⟨rfl, rfl⟩ := CvS.unique (show CvS f g v ev from hSS) SP.out.1
  have hps := E.out.s.lt
  have CB := Lib.hid ((CB.out.below hb CB.out.lt).alloc (.cells #[.slice A7 n7 c7, .int .i64 v.per, .int .i64 v.inc] 31))
  have CI := Lib.hid ((CI.out.ext hb).alloc' (.cells #[.slice A7 n7 c7, .int .i64 v.per, .int .i64 v.inc] 31)); have CJ := Lib.hid ((CJ.out.ext hb).alloc' (.cells #[.slice A7 n7 c7, .int .i64 v.per, .int .i64 v.inc] 31))
  have E := Lib.hid (show EnvL w.heap.size w _ _ from (E.out.below hb).push (X := ⟨A7, n7, c7, v⟩) (CR.In.new hI hA hps))
  dsimp only [List.cons_append, List.nil_append] at E
  clear hSS hI hA hb hps hle x0 x1 x2 hlx y0 y1 y2 hly
  go_upto_region 5 with fail
  generalize hwe : w5.alloc (.cells #[.slice A7 n7 c7, .int .i64 v.per, .int .i64 v.inc] 31) = wg at *
  clear hwe
  generalize w5.heap.size = V at *
  rcases cv_er Hf.out.ok Hg.out.ok SP.out.1 with rfl | rfl
  case inr =>
    go_wp2_with fail
    refine (awake7_any _).mono ?_
    rintro e wq ⟨rfl, hb⟩
    have bw := (E.out.below hb).fin
    go_wp2_with fail
    go_ret
    exact ⟨rfl, bw⟩
  case inl =>
  have CK := Lib.hid (pv_check SP.out)
  have NFS := Lib.hid (cvS_nf SP.out.1)
  have HVO := Lib.hid (show v.Ok from by obtain ⟨_, _, _, _, _, _, _, _, _, h, _⟩ := NFS.out; exact h)
  have HCV := Lib.hid (show CvF f g v.at from by obtain ⟨_, _, _, _, _, _, _, _, _, _, _, _, h⟩ := NFS.out; exact h)
  have hn7 : n7 ≤ 400 := by have h1 := HVO.out.n2; have h2 : v.vals.length = n7 := (E.out.get 2 rfl).inn.ints.1; omega
  have hn5 : n5 ≤ 400 := by have h1 := HVO.out.n2; have h2 : v.vals.length = n5 := CI.out.1; omega
  have hm6 : m6 ≤ 2000 := by
    obtain ⟨_, _, a, b, ha, hb, hc, hh, _, hC⟩ := CK.out
    obtain ⟨hao, _⟩ := nf_small Hf.out.ok ha
    obtain ⟨hbo, _⟩ := nf_small Hg.out.ok hb
    have h1 := hC.2.1.2.1
    have h2 : cs.length = m6 := CJ.out.1
    have s1 := cst_le hao; have s2 := cst_le hbo; have s3 := cst_le hh
    have hc' : ordC a b ≤ 120 := hc
    unfold cvH at h1
    omega
  clear NFS
  go_wp2_with fail
  refine (mod_any at' 400 _ (by omega) (by omega)).mono ?_
  rintro e w6 ⟨⟨tt, ht0, ht1, rfl⟩, rfl⟩
  obtain ⟨t, rfl⟩ := Int.eq_ofNat_of_zero_le ht0
  obtain ⟨vt, hvt⟩ : ∃ vt, vt = v.at t := ⟨_, rfl⟩
  have HVT := Lib.hid hvt
  clear hvt ht0
  obtain ⟨x0, x1, x2, hlx⟩ := (E.out.get 2 rfl).cells
  go_wp2_with fail
  refine (cval_any A7 n7 c7 v.per v.inc (t : Int) v.vals _ (by exact (E.out.get 2 rfl).inn.ints) HVO.out (by omega) (by omega)).mono ?_
  rw [Int.toNat_natCast, ← HVT.out]
  rintro e w7 ⟨rfl, hb⟩
  clear x0 x1 x2 hlx
  have E := Lib.hid (E.out.below hb)
  have CB := Lib.hid (CB.out.below hb CB.out.lt)
  have CI := Lib.hid (CI.out.ext hb); have CJ := Lib.hid (CJ.out.ext hb)
  clear hb
  obtain ⟨x0, x1, x2, hlx⟩ := (E.out.get 0 rfl).cells
  obtain ⟨y0, y1, y2, hly⟩ := (E.out.get 1 rfl).cells
  obtain ⟨⟨c0', c1, c2, c3, c4⟩, _, hlc⟩ := CB.out.d5
  go_wp2_with fail
  refine (cpchk_any A B A5 B6 n m n5 m6 c d c5 d6 f.per f.inc g.per g.inc fr f.vals g.vals v cs _ (by exact (E.out.get 0 rfl).inn.ints) (by exact (E.out.get 1 rfl).inn.ints) CI.out CJ.out (by omega) (by omega) (by omega) (by omega)).mono ?_
  rintro e w8 ⟨⟨z, hz, rfl⟩, hb⟩
  obtain rfl : z = true := hz.2 CK.out
  clear hz x0 x1 x2 hlx y0 y1 y2 hly c0' c1 c2 c3 c4 hlc
  have E := Lib.hid (E.out.below hb)
  have CB := Lib.hid (CB.out.below hb CB.out.lt)
  have CI := Lib.hid (CI.out.ext hb); have CJ := Lib.hid (CJ.out.ext hb)
  clear hb
  obtain ⟨⟨c0', c1, c2, c3, c4⟩, _, hlc⟩ := CB.out.d5
  obtain ⟨y0, y1, y2, hly⟩ := (E.out.get 2 rfl).cells
  go_wp2_with fail
  refine (refSame_any A5 A7 n5 n7 c5 c7 v.per v.per v.inc v.inc v.vals v.vals _ CI.out (by exact (E.out.get 2 rfl).inn.ints) (by omega) (by omega)).mono ?_
  rw [show Cv.same ⟨v.vals, v.per, v.inc⟩ ⟨v.vals, v.per, v.inc⟩ = true from (Cv.same_iff _ _).2 rfl]
  rintro e w9 ⟨rfl, hb⟩
  clear c0' c1 c2 c3 c4 hlc y0 y1 y2 hly
  have E := Lib.hid (E.out.below hb)
  have CB := Lib.hid (CB.out.below hb CB.out.lt)
  have CI := Lib.hid (CI.out.ext hb); have CJ := Lib.hid (CJ.out.ext hb)
  clear hb
  obtain ⟨x0, x1, x2, hlx⟩ := (E.out.get 0 rfl).cells
  obtain ⟨y0, y1, y2, hly⟩ := (E.out.get 1 rfl).cells
  go_wp2_with fail
  refine (least7_any A B n m c d f g t _ (by exact (E.out.get 0 rfl).inn.ints) (by exact (E.out.get 1 rfl).inn.ints) Hf.out.ok Hg.out.ok (by omega)).mono ?_
  rintro e wx ⟨v', hv', rfl, hb⟩
  obtain rfl : vt = v' := by rw [HVT.out]; exact (HCV.out t).unique hv'
  clear hv' x0 x1 x2 hlx y0 y1 y2 hly
  have E := Lib.hid (E.out.below hb)
  have CB := Lib.hid (CB.out.below hb CB.out.lt)
  have CI := Lib.hid (CI.out.ext hb); have CJ := Lib.hid (CJ.out.ext hb)
  clear hb
  have dv : (vt == vt) = true := by simp
  go_wp2_with fail
  refine (awake7_any _).mono ?_
  rintro e wq ⟨rfl, hb⟩
  have bw := (E.out.below hb).fin
  go_wp2_with fail
  go_ret
  exact ⟨rfl, bw⟩
end Go.Proofs.Ytbkimphcmmmaiaa
