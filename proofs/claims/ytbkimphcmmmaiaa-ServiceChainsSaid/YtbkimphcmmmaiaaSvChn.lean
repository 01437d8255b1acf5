/- The statement ServiceChains: the walk. -/
import Derived.Test.YtbkimphcmmmaiaaChLaw
import Derived.Test.YtbkimphcmmmaiaaCvFn
import Derived.Test.YtbkimphcmmmaiaaAwake12
import Derived.Test.YtbkimphcmmmaiaaSrcF1
import Derived.Test.YtbkimphcmmmaiaaEnvL
import Derived.Test.YtbkimphcmmmaiaaRefExc
namespace Go.Proofs.Ytbkimphcmmmaiaa
open Go.RowKit
set_option linter.unusedVariables false

set_option maxHeartbeats 4000000 in
set_option maxRecDepth 100000 in
theorem svChn_any (A0 : Option Addr) (n0 c0 : Nat) (L0 : List Int) (w : World) (hL : Ints w w.heap.size A0 n0 L0) (hc0 : n0 ≤ c0) (hn0 : (n0 : Int) ≤ 9223372036854775807) :
    Calls Try.prog 14 #[.slice A0 n0 c0] w fun e w' => e = .returned (.bool true) ∧ Below w.heap.size w w' := by
  go_enter Try.func14, Try.ntmps14
  go_wp2_with fail
  refine (new_any A0 n0 c0 L0 w hL hc0 hn0).mono ?_
  rintro e w1 ⟨rfl, hS1, hb1⟩
  have E := Lib.hid (EnvL.start hS1 hb1)
  clear hL hS1 hb1
  go_wp2_with fail
  refine (srcFr_any w.heap.size 9 3 _ (by exact E.out.s) (by omega) (by omega) (by omega) (by omega)).mono ?_
  rintro e w2 ⟨R, r, hF1, rfl, hS, hk⟩
  have hps := E.out.s.lt
  have E := Lib.hid (E.out.kept hS hk)
  try (have AB := Lib.hid (AB.out.kept (by omega) hk))
  clear hS hk hps
  go_wp2_with fail
  refine (srcFr_any w.heap.size 6 3 _ (by exact E.out.s) (by omega) (by omega) (by omega) (by omega)).mono ?_
  rintro e w3 ⟨L, l, hF2, rfl, hS, hk⟩
  have hps := E.out.s.lt
  have E := Lib.hid (E.out.kept hS hk)
  try (have AB := Lib.hid (AB.out.kept (by omega) hk))
  clear hS hk hps
  obtain ⟨hR, hr1, hR1⟩ := hF1
  obtain ⟨hL, hl1, hL1⟩ := hF2
  obtain ⟨a, ha⟩ : ∃ a : PN, a = ⟨R, r, L, l⟩ := ⟨_, rfl⟩
  obtain rfl : a.R = R := by rw [ha]
  obtain rfl : a.r = r := by rw [ha]
  obtain rfl : a.L = L := by rw [ha]
  obtain rfl : a.l = l := by rw [ha]
  clear ha
  have aG := Lib.hid (show a.Good from ⟨hR, hL⟩)
  clear hR hL
  have hp3 := E.out.s.lt
  replace E := Lib.hid (E.out.alloc (.cells #[.int .i64 a.R, .int .i64 a.r, .int .i64 a.L, .int .i64 a.l] 80))
  have AB := Lib.hid (Blk.new w3 80 #[.int .i64 a.R, .int .i64 a.r, .int .i64 a.L, .int .i64 a.l])
  go_upto_region 3 with fail
  generalize hwe : w3.alloc (.cells #[.int .i64 a.R, .int .i64 a.r, .int .i64 a.L, .int .i64 a.l] 80) = w4 at *
  clear hwe
  generalize w3.heap.size = PA at *
  go_wp2_with fail
  refine (srcFr_any w.heap.size 9 4 _ (by exact E.out.s) (by omega) (by omega) (by omega) (by omega)).mono ?_
  rintro e w5 ⟨R, r, hF1, rfl, hS, hk⟩
  have hps := E.out.s.lt
  have E := Lib.hid (E.out.kept hS hk)
  try (have AB := Lib.hid (AB.out.kept (by omega) hk))
  clear hS hk hps
  go_wp2_with fail
  refine (srcFr_any w.heap.size 6 2 _ (by exact E.out.s) (by omega) (by omega) (by omega) (by omega)).mono ?_
  rintro e w6 ⟨L, l, hF2, rfl, hS, hk⟩
  have hps := E.out.s.lt
  have E := Lib.hid (E.out.kept hS hk)
  try (have AB := Lib.hid (AB.out.kept (by omega) hk))
  clear hS hk hps
  obtain ⟨hR, hr2, hR2⟩ := hF1
  obtain ⟨hL, hl2, hL2⟩ := hF2
  obtain ⟨b, hb⟩ : ∃ b : PN, b = ⟨R, r, L, l⟩ := ⟨_, rfl⟩
  obtain rfl : b.R = R := by rw [hb]
  obtain rfl : b.r = r := by rw [hb]
  obtain rfl : b.L = L := by rw [hb]
  obtain rfl : b.l = l := by rw [hb]
  clear hb
  have bG := Lib.hid (show b.Good from ⟨hR, hL⟩)
  clear hR hL
  replace E := Lib.hid (E.out.alloc (.cells #[.int .i64 b.R, .int .i64 b.r, .int .i64 b.L, .int .i64 b.l] 80))
  replace AB := Lib.hid (AB.out.alloc (.cells #[.int .i64 b.R, .int .i64 b.r, .int .i64 b.L, .int .i64 b.l] 80))
  have BB := Lib.hid (Blk.new w6 80 #[.int .i64 b.R, .int .i64 b.r, .int .i64 b.L, .int .i64 b.l])
  go_upto_region 4 with fail
  generalize hwe : w6.alloc (.cells #[.int .i64 b.R, .int .i64 b.r, .int .i64 b.L, .int .i64 b.l] 80) = w7 at *
  clear hwe
  generalize w6.heap.size = PB at *
  obtain ⟨k, hfold, hkG, kR, kr, kL, kl, hlaw⟩ := chain_two aG.out bG.out (by omega) (by omega) (by omega) (by omega) (by omega) (by omega) (by omega) (by omega)
  have kG := Lib.hid hkG; have LAW := Lib.hid hlaw
  clear hkG hlaw
  obtain ⟨x0, x1, x2, x3⟩ : _ ∧ _ ∧ _ ∧ _ := ⟨AB.out.cell 0, AB.out.cell 1, AB.out.cell 2, AB.out.cell 3⟩
  simp at x0 x1 x2 x3
  have hlx := AB.out.lt
  obtain ⟨y0, y1, y2, y3⟩ : _ ∧ _ ∧ _ ∧ _ := ⟨BB.out.cell 0, BB.out.cell 1, BB.out.cell 2, BB.out.cell 3⟩
  simp at y0 y1 y2 y3
  have hly := BB.out.lt
  have BL := balloc w7 (.cells #[.int .i64 a.R, .int .i64 a.r, .int .i64 a.L, .int .i64 a.l, .int .i64 b.R, .int .i64 b.r, .int .i64 b.L, .int .i64 b.l] 80)
  have LB := Blk.new w7 80 #[.int .i64 a.R, .int .i64 a.r, .int .i64 a.L, .int .i64 a.l, .int .i64 b.R, .int .i64 b.r, .int .i64 b.L, .int .i64 b.l]
  have ROW := Lib.hid (show RowQ (w7.alloc (.cells #[.int .i64 a.R, .int .i64 a.r, .int .i64 a.L, .int .i64 a.l, .int .i64 b.R, .int .i64 b.r, .int .i64 b.L, .int .i64 b.l] 80)) w7.heap.size 0 [a, b] from ⟨LB.lt, fun i j z hz hj => by
    rw [LB.cell]
    have hj' : j = 0 ∨ j = 1 ∨ j = 2 ∨ j = 3 := by omega
    match i, hz with
    | 0, hz => simp at hz; subst hz; rcases hj' with rfl | rfl | rfl | rfl <;> rfl
    | 1, hz => simp at hz; subst hz; rcases hj' with rfl | rfl | rfl | rfl <;> rfl⟩)
  replace E := Lib.hid (E.out.below BL); replace AB := Lib.hid (AB.out.below BL AB.out.lt); replace BB := Lib.hid (BB.out.below BL BB.out.lt)
  clear BL LB
  go_wp2_with fail
  refine (chain_any (some ⟨w7.heap.size, 0, none⟩) 2 2 [a, b] _ rfl (by omega) (by omega) (fun _ => ⟨_, 0, rfl, ROW.out⟩)).mono ?_
  rintro e w8 ⟨k', er, hS, rfl, hb⟩
  obtain ⟨rfl, rfl⟩ : k = k' ∧ er = 0 := by
    rcases hS with ⟨h, _⟩ | ⟨_, hd, tl, h1, h2⟩
    · exfalso
      rcases h with h | ⟨x, hx, hn⟩
      · cases h
      · simp only [List.mem_cons, List.not_mem_nil, or_false] at hx
        rcases hx with rfl | rfl
        · exact hn aG.out
        · exact hn bG.out
    · injection h1 with h1 h3
      subst h1
      subst h3
      rw [hfold] at h2
      injection h2 with h2 h3
      exact ⟨h2, h3.symm⟩
  have CB := Lib.hid (Blk.new w8 80 #[.int .i64 k.R, .int .i64 k.r, .int .i64 k.L, .int .i64 k.l])
  replace E := Lib.hid ((E.out.below hb).alloc (.cells #[.int .i64 k.R, .int .i64 k.r, .int .i64 k.L, .int .i64 k.l] 80)); replace AB := Lib.hid ((AB.out.below hb AB.out.lt).alloc (.cells #[.int .i64 k.R, .int .i64 k.r, .int .i64 k.L, .int .i64 k.l] 80)); replace BB := Lib.hid ((BB.out.below hb BB.out.lt).alloc (.cells #[.int .i64 k.R, .int .i64 k.r, .int .i64 k.L, .int .i64 k.l] 80))
  clear hS hb hfold ROW
  clear x0 x1 x2 x3 hlx
  clear y0 y1 y2 y3 hly
  go_upto_region 5 with fail
  generalize hwe : w8.alloc (.cells #[.int .i64 k.R, .int .i64 k.r, .int .i64 k.L, .int .i64 k.l] 80) = w9 at *
  clear hwe
  generalize w8.heap.size = PK at *
  -- a the pace, AB its block, f the curve, wa the world behind, 6 the next region, A n c the slice
  obtain ⟨⟨f, h1, h2, h3⟩, h4⟩ := pace_cur aG.out.1 (by omega) (by omega) aG.out.2 (by omega)
  have Nf := Lib.hid h1; have Of := Lib.hid h3
  have Ff := Lib.hid (show f.Fin from nf_fin h1 h3 (fun t ht => small_ne (by have := pc_bd aG.out.1 aG.out.2 (k := t) (by omega); omega)))
  have LM := Lib.hid h2; have CD := Lib.hid h4
  have nf := h3.n2
  clear h1 h2 h3 h4
  obtain ⟨z0, z1, z2, z3⟩ : _ ∧ _ ∧ _ ∧ _ := ⟨AB.out.cell 0, AB.out.cell 1, AB.out.cell 2, AB.out.cell 3⟩
  simp at z0 z1 z2 z3
  have hlz := AB.out.lt
  go_wp2_with fail
  refine (paceK_any a.R a.r a.L a.l _).mono ?_
  rintro e wa ⟨f', er, hS, A, n, c, hle, rfl, hI, hA, hb⟩
  obtain ⟨rfl, rfl⟩ : f = f' ∧ er = 0 := (fun h => ⟨h.1.symm, h.2⟩) <| pace_made aG.out.1 (by omega) aG.out.2 CD.out hS Nf.out LM.out
  have hl := hI.1
  rw [hl] at nf
  have hps := E.out.s.lt
  have E := Lib.hid (show EnvL w.heap.size w _ _ from (E.out.below hb).push (X := ⟨A, n, c, f⟩) (CR.In.new hI hA hps))
  dsimp only [List.cons_append, List.nil_append] at E
  replace AB := Lib.hid (AB.out.below hb AB.out.lt); replace BB := Lib.hid (BB.out.below hb BB.out.lt); replace CB := Lib.hid (CB.out.below hb CB.out.lt)
  replace AB := Lib.hid (AB.out.alloc (.cells #[.slice A n c, .int .i64 f.per, .int .i64 f.inc] 31)); replace BB := Lib.hid (BB.out.alloc (.cells #[.slice A n c, .int .i64 f.per, .int .i64 f.inc] 31)); replace CB := Lib.hid (CB.out.alloc (.cells #[.slice A n c, .int .i64 f.per, .int .i64 f.inc] 31))
  clear hS hI hA hb hps hl LM CD hle
  clear z0 z1 z2 z3 hlz
  go_upto_region 6 with fail
  generalize hwe : wa.alloc (.cells #[.slice A n c, .int .i64 f.per, .int .i64 f.inc] 31) = we at *
  clear hwe
  generalize wa.heap.size = Zf at *
  -- b the pace, BB its block, g the curve, wb the world behind, 7 the next region, B m d the slice
  obtain ⟨⟨g, h1, h2, h3⟩, h4⟩ := pace_cur bG.out.1 (by omega) (by omega) bG.out.2 (by omega)
  have Ng := Lib.hid h1; have Og := Lib.hid h3
  have Fg := Lib.hid (show g.Fin from nf_fin h1 h3 (fun t ht => small_ne (by have := pc_bd bG.out.1 bG.out.2 (k := t) (by omega); omega)))
  have LM := Lib.hid h2; have CD := Lib.hid h4
  have ng := h3.n2
  clear h1 h2 h3 h4
  obtain ⟨z0, z1, z2, z3⟩ : _ ∧ _ ∧ _ ∧ _ := ⟨BB.out.cell 0, BB.out.cell 1, BB.out.cell 2, BB.out.cell 3⟩
  simp at z0 z1 z2 z3
  have hlz := BB.out.lt
  go_wp2_with fail
  refine (paceK_any b.R b.r b.L b.l _).mono ?_
  rintro e wb ⟨f', er, hS, B, m, d, hle, rfl, hI, hA, hb⟩
  obtain ⟨rfl, rfl⟩ : g = f' ∧ er = 0 := (fun h => ⟨h.1.symm, h.2⟩) <| pace_made bG.out.1 (by omega) bG.out.2 CD.out hS Ng.out LM.out
  have hl := hI.1
  rw [hl] at ng
  have hps := E.out.s.lt
  have E := Lib.hid (show EnvL w.heap.size w _ _ from (E.out.below hb).push (X := ⟨B, m, d, g⟩) (CR.In.new hI hA hps))
  dsimp only [List.cons_append, List.nil_append] at E
  replace AB := Lib.hid (AB.out.below hb AB.out.lt); replace BB := Lib.hid (BB.out.below hb BB.out.lt); replace CB := Lib.hid (CB.out.below hb CB.out.lt)
  replace AB := Lib.hid (AB.out.alloc (.cells #[.slice B m d, .int .i64 g.per, .int .i64 g.inc] 31)); replace BB := Lib.hid (BB.out.alloc (.cells #[.slice B m d, .int .i64 g.per, .int .i64 g.inc] 31)); replace CB := Lib.hid (CB.out.alloc (.cells #[.slice B m d, .int .i64 g.per, .int .i64 g.inc] 31))
  clear hS hI hA hb hps hl LM CD hle
  clear z0 z1 z2 z3 hlz
  go_upto_region 7 with fail
  generalize hwe : wb.alloc (.cells #[.slice B m d, .int .i64 g.per, .int .i64 g.inc] 31) = we at *
  clear hwe
  generalize wb.heap.size = Zg at *
  -- k the pace, CB its block, v the curve, wc the world behind, 8 the next region, C o q the slice
  obtain ⟨⟨v, h1, h2, h3⟩, h4⟩ := pace_cur kG.out.1 (by omega) (by omega) kG.out.2 (by omega)
  have Nv := Lib.hid h1; have Ov := Lib.hid h3
  have Fv := Lib.hid (show v.Fin from nf_fin h1 h3 (fun t ht => small_ne (by have := pc_bd kG.out.1 kG.out.2 (k := t) (by omega); omega)))
  have LM := Lib.hid h2; have CD := Lib.hid h4
  have nv := h3.n2
  clear h1 h2 h3 h4
  obtain ⟨z0, z1, z2, z3⟩ : _ ∧ _ ∧ _ ∧ _ := ⟨CB.out.cell 0, CB.out.cell 1, CB.out.cell 2, CB.out.cell 3⟩
  simp at z0 z1 z2 z3
  have hlz := CB.out.lt
  go_wp2_with fail
  refine (paceK_any k.R k.r k.L k.l _).mono ?_
  rintro e wc ⟨f', er, hS, C, o, q, hle, rfl, hI, hA, hb⟩
  obtain ⟨rfl, rfl⟩ : v = f' ∧ er = 0 := (fun h => ⟨h.1.symm, h.2⟩) <| pace_made kG.out.1 (by omega) kG.out.2 CD.out hS Nv.out LM.out
  have hl := hI.1
  rw [hl] at nv
  have hps := E.out.s.lt
  have E := Lib.hid (show EnvL w.heap.size w _ _ from (E.out.below hb).push (X := ⟨C, o, q, v⟩) (CR.In.new hI hA hps))
  dsimp only [List.cons_append, List.nil_append] at E
  replace AB := Lib.hid (AB.out.below hb AB.out.lt); replace BB := Lib.hid (BB.out.below hb BB.out.lt); replace CB := Lib.hid (CB.out.below hb CB.out.lt)
  replace AB := Lib.hid (AB.out.alloc (.cells #[.slice C o q, .int .i64 v.per, .int .i64 v.inc] 31)); replace BB := Lib.hid (BB.out.alloc (.cells #[.slice C o q, .int .i64 v.per, .int .i64 v.inc] 31)); replace CB := Lib.hid (CB.out.alloc (.cells #[.slice C o q, .int .i64 v.per, .int .i64 v.inc] 31))
  clear hS hI hA hb hps hl LM CD hle
  clear z0 z1 z2 z3 hlz
  go_upto_region 8 with fail
  generalize hwe : wc.alloc (.cells #[.slice C o q, .int .i64 v.per, .int .i64 v.inc] 31) = we at *
  clear hwe
  generalize wc.heap.size = Zv at *
  obtain ⟨x0, x1, x2, hlx⟩ := (E.out.get 0 rfl).cells
  obtain ⟨y0, y1, y2, hly⟩ := (E.out.get 1 rfl).cells
  go_wp2_with fail
  refine (cvfn_any A B n m c d f.per f.inc g.per g.inc f.vals g.vals _ (by exact (E.out.get 0 rfl).inn.ints) (by exact (E.out.get 1 rfl).inn.ints) (by omega) (by omega)).mono ?_
  rintro e wd ⟨x, er, hSS, A5, n5, c5, hle, rfl, hI, hA, hb⟩
  have SX := Lib.hid (show CvS f g x er from hSS)
  have hl5 := hI.1
  have hps := E.out.s.lt
  have E := Lib.hid (show EnvL w.heap.size w _ _ from (E.out.below hb).push (X := ⟨A5, n5, c5, x⟩) (CR.In.new hI hA hps))
  dsimp only [List.cons_append, List.nil_append] at E
  clear hSS hI hA hb hps hle x0 x1 x2 hlx y0 y1 y2 hly
  go_upto_region 11 with fail
  generalize hwe : wd.alloc (.cells #[.slice A5 n5 c5, .int .i64 x.per, .int .i64 x.inc] 31) = we at *
  clear hwe
  generalize wd.heap.size = ZX at *
  rcases cvS_er Of.out Og.out SX.out with rfl | rfl
  · have T1 := Lib.hid (show AtM v x true from .inl ⟨Ov.out, (cvS_ok Ff.out Fg.out SX.out).1.1, ⟨fun _ => (chain_lec Nf.out Ng.out Nv.out Ff.out Fg.out Fv.out SX.out LAW.out).up, fun _ => rfl⟩⟩)
    have hn5 : n5 ≤ 400 := by have h1 := (cvS_ok Ff.out Fg.out SX.out).1.1.n2; omega
    obtain ⟨x0, x1, x2, hlx⟩ := (E.out.get 2 rfl).cells
    obtain ⟨y0, y1, y2, hly⟩ := (E.out.get 3 rfl).cells
    go_wp2_with fail
    refine (refAtMost_any C A5 o n5 q c5 v.per v.inc x.per x.inc v.vals x.vals _ (by exact (E.out.get 2 rfl).inn.ints) (by exact (E.out.get 3 rfl).inn.ints) (by omega) (by omega)).mono ?_
    intro e wq hr
    obtain ⟨rfl, hb⟩ := RetM.of T1.out hr
    have E := Lib.hid (E.out.below hb)
    clear hr hb
    go_wp2_with fail
    refine (awake12_any _).mono ?_
    rintro e wz ⟨rfl, hb⟩
    have bw := (E.out.below hb).fin
    go_wp2_with fail
    go_ret
    exact ⟨rfl, bw⟩
  · go_wp2_with fail
    refine (awake12_any _).mono ?_
    rintro e wz ⟨rfl, hb⟩
    have bw := (E.out.below hb).fin
    go_wp2_with fail
    go_ret
    exact ⟨rfl, bw⟩
end Go.Proofs.Ytbkimphcmmmaiaa
