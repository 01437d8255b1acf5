/- The statement BucketAdds: the walk. -/
import Derived.Test.YtbkimphcmmmaiaaAwake11
import Derived.Test.YtbkimphcmmmaiaaSrcF1
import Derived.Test.YtbkimphcmmmaiaaEnvL2
import Derived.Test.YtbkimphcmmmaiaaHeldT
import Derived.Test.YtbkimphcmmmaiaaRefExc
import Derived.Test.YtbkimphcmmmaiaaRefSum
import Derived.Test.YtbkimphcmmmaiaaAdd
import Derived.Test.YtbkimphcmmmaiaaBaLaw
import Derived.Deep.LoopGhost
namespace Go.Proofs.Ytbkimphcmmmaiaa
open Go.RowKit
set_option linter.unusedVariables false
attribute [local go_sem ↓] app_fold
theorem sub_pl {h : Nat → Int} {f : Cv} (hf : NF h f) (hs : ∀ s u, h (s + u) ≤ h s + h u) (hb : ∀ k, k ≤ 1000 → h k ≤ 1000000000000000000) : ∀ s u, s < 400 → u < 400 → f.at (s + u) ≤ pl (f.at s) (f.at u) := fun s u h1 h2 => by
  rw [hf.at, hf.at, hf.at]
  unfold pl
  rw [if_neg (fun h => h.elim (small_ne (hb s (by omega))) (small_ne (hb u (by omega))))]
  exact hs s u
set_option maxHeartbeats 4000000 in
set_option maxRecDepth 100000 in
theorem baAd_any (A0 : Option Addr) (n0 c0 : Nat) (L : List Int) (w : World) (hL : Ints w w.heap.size A0 n0 L) (hc0 : n0 ≤ c0) (hn0 : (n0 : Int) ≤ 9223372036854775807) :
    Calls Try.prog 3 #[.slice A0 n0 c0] w fun e w' => e = .returned (.bool true) ∧ Below w.heap.size w w' := by
  go_enter Try.func3, Try.ntmps3
  go_wp2_with fail
  refine (new_any A0 n0 c0 L w hL hc0 hn0).mono ?_
  rintro e w1 ⟨rfl, hS1, hb1⟩
  have E := Lib.hid (EnvL.start hS1 hb1)
  clear hL hS1 hb1
  -- a fraction is drawn: 30 3 top, most; w2 world; B1 b1 the fraction; hF1 its facts
  go_wp2_with fail
  refine (srcFr_any w.heap.size 30 3 _ (by exact E.out.s) (by omega) (by omega) (by omega) (by omega)).mono ?_
  rintro e w2 ⟨B1, b1, hF1, rfl, hS, hk⟩
  have hps := E.out.s.lt
  try replace AB := Lib.hid (AB.out.kept (by omega) hk)
  try replace BB := Lib.hid (BB.out.kept (by omega) hk)
  try replace DB := Lib.hid (DB.out.kept (by omega) hk)
  have E := Lib.hid (E.out.kept hS hk)
  have HhF1 := Lib.hid hF1
  clear hS hk hps hF1
  -- a fraction is drawn: 6 4 top, most; w3 world; R1 r1 the fraction; hF2 its facts
  go_wp2_with fail
  refine (srcFr_any w.heap.size 6 4 _ (by exact E.out.s) (by omega) (by omega) (by omega) (by omega)).mono ?_
  rintro e w3 ⟨R1, r1, hF2, rfl, hS, hk⟩
  have hps := E.out.s.lt
  try replace AB := Lib.hid (AB.out.kept (by omega) hk)
  try replace BB := Lib.hid (BB.out.kept (by omega) hk)
  try replace DB := Lib.hid (DB.out.kept (by omega) hk)
  have E := Lib.hid (E.out.kept hS hk)
  have HhF2 := Lib.hid hF2
  clear hS hk hps hF2
  go_upto_region 3 with fail
  have hpa := E.out.s.lt
  have AB := Lib.hid (Blk.new w3 29 #[.int .i64 B1, .int .i64 b1, .int .i64 R1, .int .i64 r1])
  replace E := Lib.hid (E.out.alloc (.cells #[.int .i64 B1, .int .i64 b1, .int .i64 R1, .int .i64 r1] 29))
  generalize hwe : w3.alloc (.cells #[.int .i64 B1, .int .i64 b1, .int .i64 R1, .int .i64 r1] 29) = wa at *
  clear hwe
  generalize w3.heap.size = PA at *
  -- a fraction is drawn: 30 2 top, most; w4 world; B2 b2 the fraction; hF3 its facts
  go_wp2_with fail
  refine (srcFr_any w.heap.size 30 2 _ (by exact E.out.s) (by omega) (by omega) (by omega) (by omega)).mono ?_
  rintro e w4 ⟨B2, b2, hF3, rfl, hS, hk⟩
  have hps := E.out.s.lt
  try replace AB := Lib.hid (AB.out.kept (by omega) hk)
  try replace BB := Lib.hid (BB.out.kept (by omega) hk)
  try replace DB := Lib.hid (DB.out.kept (by omega) hk)
  have E := Lib.hid (E.out.kept hS hk)
  have HhF3 := Lib.hid hF3
  clear hS hk hps hF3
  -- a fraction is drawn: 6 3 top, most; w5 world; R2 r2 the fraction; hF4 its facts
  go_wp2_with fail
  refine (srcFr_any w.heap.size 6 3 _ (by exact E.out.s) (by omega) (by omega) (by omega) (by omega)).mono ?_
  rintro e w5 ⟨R2, r2, hF4, rfl, hS, hk⟩
  have hps := E.out.s.lt
  try replace AB := Lib.hid (AB.out.kept (by omega) hk)
  try replace BB := Lib.hid (BB.out.kept (by omega) hk)
  try replace DB := Lib.hid (DB.out.kept (by omega) hk)
  have E := Lib.hid (E.out.kept hS hk)
  have HhF4 := Lib.hid hF4
  clear hS hk hps hF4
  go_upto_region 4 with fail
  have hpb := E.out.s.lt
  have hab := AB.out.lt
  have BB := Lib.hid (Blk.new w5 29 #[.int .i64 B2, .int .i64 b2, .int .i64 R2, .int .i64 r2])
  replace E := Lib.hid (E.out.alloc (.cells #[.int .i64 B2, .int .i64 b2, .int .i64 R2, .int .i64 r2] 29))
  replace AB := Lib.hid (AB.out.alloc (.cells #[.int .i64 B2, .int .i64 b2, .int .i64 R2, .int .i64 r2] 29))
  generalize hwe : w5.alloc (.cells #[.int .i64 B2, .int .i64 b2, .int .i64 R2, .int .i64 r2] 29) = wb at *
  clear hwe
  generalize w5.heap.size = PB at *
  obtain ⟨hG1, hv1, hu1⟩ := HhF1.out
  obtain ⟨hG2, hv2, hu2⟩ := HhF2.out
  obtain ⟨hG3, hv3, hu3⟩ := HhF3.out
  obtain ⟨hG4, hv4, hu4⟩ := HhF4.out
  obtain ⟨f, hf1, hf2, hf3⟩ := tokc_cur hG1 hG2 (by omega) (by omega) (by omega)
  obtain ⟨g, hg1, hg2, hg3⟩ := tokc_cur hG3 hG4 (by omega) (by omega) (by omega)
  have G1 := Lib.hid hG1; have G2 := Lib.hid hG2; have G3 := Lib.hid hG3; have G4 := Lib.hid hG4
  have NF1 := Lib.hid hf1; have LF1 := Lib.hid hf2; have OF1 := Lib.hid hf3
  have NG1 := Lib.hid hg1; have LG1 := Lib.hid hg2; have OG1 := Lib.hid hg3
  have nf := hf3.n2; have ng := hg3.n2
  clear hG1 hG2 hG3 hG4 hf1 hf2 hf3 hg1 hg2 hg3
  obtain ⟨x0, x1, x2, x3⟩ : _ ∧ _ ∧ _ ∧ _ := ⟨AB.out.cell 0, AB.out.cell 1, AB.out.cell 2, AB.out.cell 3⟩
  simp at x0 x1 x2 x3
  have hlx := AB.out.lt
  go_wp2_with fail
  refine (tokenK_any B1 b1 R1 r1 _).mono ?_
  rintro e w6 ⟨f', er, hS, A1, n1, c1, hle, rfl, hI, hA, hb⟩
  obtain ⟨rfl, rfl⟩ : f = f' ∧ er = 0 := (fun h => ⟨h.1.symm, h.2⟩) <| tokc_made G1.out G2.out (by omega) hS NF1.out LF1.out
  have HCf := Lib.hid hle
  have hl1 : n1 ≤ 400 := by have h1 := hI.1; omega
  clear hS hle x0 x1 x2 x3 hlx
  -- the curve f : A1 n1 c1 of world w6 goes to a new variable PF; 5 the next region
  have hps := E.out.s.lt
  have E := Lib.hid (show EnvL w.heap.size w _ _ from (E.out.below hb).push (X := ⟨A1, n1, c1, f⟩) (CR.In.new hI hA hps))
  dsimp only [List.cons_append, List.nil_append] at E
  try replace AB := Lib.hid ((AB.out.below hb AB.out.lt).alloc (.cells #[.slice A1 n1 c1, .int .i64 f.per, .int .i64 f.inc] 31))
  try replace BB := Lib.hid ((BB.out.below hb BB.out.lt).alloc (.cells #[.slice A1 n1 c1, .int .i64 f.per, .int .i64 f.inc] 31))
  clear hI hA hb hps
  go_upto_region 5 with fail
  generalize hwe : w6.alloc (.cells #[.slice A1 n1 c1, .int .i64 f.per, .int .i64 f.inc] 31) = we at *
  clear hwe
  generalize w6.heap.size = PF at *
  obtain ⟨x0, x1, x2, x3⟩ : _ ∧ _ ∧ _ ∧ _ := ⟨BB.out.cell 0, BB.out.cell 1, BB.out.cell 2, BB.out.cell 3⟩
  simp at x0 x1 x2 x3
  have hlx := BB.out.lt
  go_wp2_with fail
  refine (tokenK_any B2 b2 R2 r2 _).mono ?_
  rintro e w7 ⟨g', er, hS, A2, n2, c2, hle, rfl, hI, hA, hb⟩
  obtain ⟨rfl, rfl⟩ : g = g' ∧ er = 0 := (fun h => ⟨h.1.symm, h.2⟩) <| tokc_made G3.out G4.out (by omega) hS NG1.out LG1.out
  have HCg := Lib.hid hle
  have hl2 : n2 ≤ 400 := by have h1 := hI.1; omega
  clear hS hle x0 x1 x2 x3 hlx
  -- the curve g : A2 n2 c2 of world w7 goes to a new variable PG; 6 the next region
  have hps := E.out.s.lt
  have E := Lib.hid (show EnvL w.heap.size w _ _ from (E.out.below hb).push (X := ⟨A2, n2, c2, g⟩) (CR.In.new hI hA hps))
  dsimp only [List.cons_append, List.nil_append] at E
  try replace AB := Lib.hid ((AB.out.below hb AB.out.lt).alloc (.cells #[.slice A2 n2 c2, .int .i64 g.per, .int .i64 g.inc] 31))
  try replace BB := Lib.hid ((BB.out.below hb BB.out.lt).alloc (.cells #[.slice A2 n2 c2, .int .i64 g.per, .int .i64 g.inc] 31))
  clear hI hA hb hps
  go_upto_region 6 with fail
  generalize hwe : w7.alloc (.cells #[.slice A2 n2 c2, .int .i64 g.per, .int .i64 g.inc] 31) = we at *
  clear hwe
  generalize w7.heap.size = PG at *
  -- a number is drawn: 30 bound, w8 world, sn the number
  go_wp2_with fail
  refine (n_any w.heap.size 30 _ (by exact E.out.s) (by omega) (by omega)).mono ?_
  rintro e w8 ⟨z, hz0, hz1, rfl, hS, hk⟩
  try replace AB := Lib.hid (AB.out.kept (by omega) hk)
  try replace BB := Lib.hid (BB.out.kept (by omega) hk)
  try replace DB := Lib.hid (DB.out.kept (by omega) hk)
  have E := Lib.hid (E.out.kept hS hk)
  obtain ⟨sn, rfl⟩ := Int.eq_ofNat_of_zero_le hz0
  have hbsn : sn < 30 := by omega
  clear hz0 hz1 hS hk
  -- a number is drawn: 6 bound, w9 world, en the number
  go_wp2_with fail
  refine (n_any w.heap.size 6 _ (by exact E.out.s) (by omega) (by omega)).mono ?_
  rintro e w9 ⟨z, hz0, hz1, rfl, hS, hk⟩
  try replace AB := Lib.hid (AB.out.kept (by omega) hk)
  try replace BB := Lib.hid (BB.out.kept (by omega) hk)
  try replace DB := Lib.hid (DB.out.kept (by omega) hk)
  have E := Lib.hid (E.out.kept hS hk)
  obtain ⟨en, rfl⟩ := Int.eq_ofNat_of_zero_le hz0
  have hben : en < 6 := by omega
  clear hz0 hz1 hS hk
  obtain ⟨En, hEn⟩ : ∃ En : Int, En = 1 + (en : Int) := ⟨_, rfl⟩
  have es1 : IntKind.i64.wrap (1 + (en : Int)) = En := by rw [IntWalk.i64_in _ (by omega)]; omega
  have es2 : 1 + (en : Int) = En := by omega
  have he0 : 1 ≤ En := by omega
  have he1 : En ≤ 6 := by omega
  clear hEn
  -- a number is drawn: 9 bound, wc world, an the number
  go_wp2_with fail
  refine (n_any w.heap.size 9 _ (by exact E.out.s) (by omega) (by omega)).mono ?_
  rintro e wc ⟨z, hz0, hz1, rfl, hS, hk⟩
  try replace AB := Lib.hid (AB.out.kept (by omega) hk)
  try replace BB := Lib.hid (BB.out.kept (by omega) hk)
  try replace DB := Lib.hid (DB.out.kept (by omega) hk)
  have E := Lib.hid (E.out.kept hS hk)
  obtain ⟨an, rfl⟩ := Int.eq_ofNat_of_zero_le hz0
  have hban : an < 9 := by omega
  clear hz0 hz1 hS hk
  have OKS := Lib.hid (show StOk sn En an from by unfold StOk; omega)
  obtain ⟨st, hs1, hs2, hs3⟩ := stc_cur (S := sn) (E := En) (A := an) (by omega) (by omega) he0 (by omega) (by omega) (by omega)
  have NS1 := Lib.hid hs1; have LS1 := Lib.hid hs2; have OS1 := Lib.hid hs3
  clear hs1 hs2 hs3
  go_wp2_with fail
  clear es1 es2
  refine (steps_any sn En an _).mono ?_
  rintro e w10 ⟨st', er, hS, A3, n3, c3, rfl, hI, hA, hb⟩
  obtain ⟨rfl, rfl⟩ : st = st' ∧ er = 0 := by
    rcases hS with ⟨h, _⟩ | ⟨_, h⟩
    · exact absurd OKS.out h
    · have h' := h.eq NS1.out LS1.out
      exact ⟨h'.1.symm, h'.2⟩
  have hl3 : n3 ≤ 400 := by have h1 := hI.1; have h2 := OS1.out.n2; omega
  clear hS
  -- the curve st : A3 n3 c3 of world w10 goes to a new variable PS; 7 the next region
  have hps := E.out.s.lt
  have E := Lib.hid (show EnvL w.heap.size w _ _ from (E.out.below hb).push (X := ⟨A3, n3, c3, st⟩) (CR.In.new hI hA hps))
  dsimp only [List.cons_append, List.nil_append] at E
  try replace AB := Lib.hid ((AB.out.below hb AB.out.lt).alloc (.cells #[.slice A3 n3 c3, .int .i64 st.per, .int .i64 st.inc] 31))
  try replace BB := Lib.hid ((BB.out.below hb BB.out.lt).alloc (.cells #[.slice A3 n3 c3, .int .i64 st.per, .int .i64 st.inc] 31))
  clear hI hA hb hps
  go_upto_region 7 with fail
  generalize hwe : w10.alloc (.cells #[.slice A3 n3 c3, .int .i64 st.per, .int .i64 st.inc] 31) = we at *
  clear hwe
  generalize w10.heap.size = PS at *
  go_upto_region 9 with fail
  obtain ⟨x0, x1, x2, x3⟩ : _ ∧ _ ∧ _ ∧ _ := ⟨AB.out.cell 0, AB.out.cell 1, AB.out.cell 2, AB.out.cell 3⟩
  simp at x0 x1 x2 x3
  have hlx := AB.out.lt
  go_upto_region 10 with fail
  have hpd := E.out.s.lt
  have hbd := BB.out.lt
  have APD := Lib.hid E.out.apart
  have DB := Lib.hid (Blk.new we 29 #[.int .i64 B1, .int .i64 b1, .int .i64 R1, .int .i64 r1])
  replace E := Lib.hid (E.out.alloc (.cells #[.int .i64 B1, .int .i64 b1, .int .i64 R1, .int .i64 r1] 29))
  replace AB := Lib.hid (AB.out.alloc (.cells #[.int .i64 B1, .int .i64 b1, .int .i64 R1, .int .i64 r1] 29))
  replace BB := Lib.hid (BB.out.alloc (.cells #[.int .i64 B1, .int .i64 b1, .int .i64 R1, .int .i64 r1] 29))
  clear x0 x1 x2 x3
  generalize hwe : we.alloc (.cells #[.int .i64 B1, .int .i64 b1, .int .i64 R1, .int .i64 r1] 29) = wd at *
  clear hwe
  generalize we.heap.size = PD at *
  obtain ⟨x2, x3⟩ : _ ∧ _ := ⟨AB.out.cell 2, AB.out.cell 3⟩
  simp at x2 x3
  go_wp2_with fail
  refine (radd_any R1 r1 1 1 _).mono ?_
  rintro e w11 ⟨rfl, hb⟩
  have one : GOk 1 1 := ⟨by decide, by omega⟩
  obtain ⟨f1, f2, f3, f4, f5⟩ := fadd_fit2 G2.out one (by omega) (by omega) (by omega) (by omega)
  generalize fadd R1 r1 1 1 = q at *
  obtain ⟨D, d, z⟩ := q
  dsimp only at *
  have GD := Lib.hid f2
  have LD := Lib.hid (show (R1 + r1) * d ≤ D * r1 from by grind)
  have hD1 : D ≤ 100 := by omega
  have hd1 : d ≤ 12 := by omega
  clear one f1 f2 f3 f4 f5 x2 x3 hlx
  have E := Lib.hid (E.out.below hb)
  replace AB := Lib.hid (AB.out.below hb AB.out.lt)
  replace BB := Lib.hid (BB.out.below hb BB.out.lt)
  replace DB := Lib.hid (DB.out.below hb DB.out.lt)
  clear hb
  obtain ⟨z0, z1⟩ : _ ∧ _ := ⟨DB.out.cell 0, DB.out.cell 1⟩
  simp at z0 z1
  have v0 := DB.out.frozen 0; have v1 := DB.out.frozen 1
  have hlz := DB.out.lt
  go_upto_region 11 with fail
  -- w11 the world, D d the new burst
  have E := Lib.hid ((E.out.far (Nat.le_of_lt hpd) hpd APD.out 0 (.int .i64 D)).far (Nat.le_of_lt hpd) hpd APD.out 1 (.int .i64 d))
  replace AB := Lib.hid ((AB.out.far (p := ⟨PD, 0, none⟩) (show PA ≠ PD by omega) (.int .i64 D)).far (p := ⟨PD, 1, none⟩) (show PA ≠ PD by omega) (.int .i64 d))
  replace BB := Lib.hid ((BB.out.far (p := ⟨PD, 0, none⟩) (show PB ≠ PD by omega) (.int .i64 D)).far (p := ⟨PD, 1, none⟩) (show PB ≠ PD by omega) (.int .i64 d))
  replace DB := Lib.hid (show Blk _ PD 29 #[.int .i64 D, .int .i64 d, .int .i64 R1, .int .i64 r1] from (DB.out.set_ 0 (.int .i64 D)).set_ 1 (.int .i64 d))
  clear z0 z1 v0 v1 hlz
  generalize hwe : (w11.setCell ⟨PD, 0, none⟩ (.int .i64 D)).setCell ⟨PD, 1, none⟩ (.int .i64 d) = wv at *
  clear hwe
  -- a number is drawn: 2 bound, w12 world, kn the number
  go_wp2_with fail
  refine (n_any w.heap.size 2 _ (by exact E.out.s) (by omega) (by omega)).mono ?_
  rintro e w12 ⟨z, hz0, hz1, rfl, hS, hk⟩
  try replace AB := Lib.hid (AB.out.kept (by omega) hk)
  try replace BB := Lib.hid (BB.out.kept (by omega) hk)
  try replace DB := Lib.hid (DB.out.kept (by omega) hk)
  have E := Lib.hid (E.out.kept hS hk)
  obtain ⟨kn, rfl⟩ := Int.eq_ofNat_of_zero_le hz0
  have hbkn : kn < 2 := by omega
  clear hz0 hz1 hS hk
  go_upto_if 82 with (fail)
  go_cut [] (fun wx => ∃ D d : Int, Hid (GOk D d) ∧ D ≤ 1000 ∧ Hid ((R1 + r1) * d ≤ D * r1) ∧ EnvL w.heap.size w wx [(PF, ⟨A1, n1, c1, f⟩), (PG, ⟨A2, n2, c2, g⟩), (PS, ⟨A3, n3, c3, st⟩)] ∧ Blk wx PA 29 #[.int .i64 B1, .int .i64 b1, .int .i64 R1, .int .i64 r1] ∧ Blk wx PB 29 #[.int .i64 B2, .int .i64 b2, .int .i64 R2, .int .i64 r2] ∧ Blk wx PD 29 #[.int .i64 D, .int .i64 d, .int .i64 R1, .int .i64 r1])
  case first =>
    by_cases hk : (kn : Int) = 0
    case neg =>
      have dk : ((kn : Int) == 0) = false := by simpa using hk
      clear hk
      go_wp2_with fail
      go_meet
      exact ⟨D, d, GD, by omega, LD, E.out, AB.out, BB.out, DB.out⟩
    case pos =>
      have dk : ((kn : Int) == 0) = true := by simpa using hk
      clear hk
      go_upto_region 12 with fail
      have E := Lib.hid E.out.drew
      replace AB := Lib.hid AB.out.drew; replace BB := Lib.hid BB.out.drew; replace DB := Lib.hid DB.out.drew
      have hz : w12.drew.cell? ⟨PD, 0, none⟩ = some (.int .i64 D) ∧ w12.drew.cell? ⟨PD, 1, none⟩ = some (.int .i64 d) := ⟨DB.out.cell 0, DB.out.cell 1⟩
      have hlz := DB.out.lt
      have hF : True := trivial
      refine wp_region_T (fun _ => True) (fun w' => w'.cell? ⟨PD, 0, none⟩ = some (.int .i64 D) ∧ w'.cell? ⟨PD, 1, none⟩ = some (.int .i64 d)) 9 (by kernel_rfl) (by exact hF) (by exact hz) (fun _ => ?_)
      generalize hwq : w12.drew = wq at *
      clear hwq
      have hG := hz
      refine wpAnyT_take (i := 0) (oi := _) (v := ?_) (by simp only [List.getElem?_toArray, List.getElem?_cons_zero]; rfl) (by kernel_rfl) (by kernel_rfl) (by kernel_rfl) (by rfl) (by exact fun _ _ _ h => h) (Or.inl ⟨by rfl, ?_⟩) ⟨(by exact hF), fun _ => (by exact hG)⟩ (fun _ => ?_)
      rotate_left 1
      · (intro w hSw; (try dsimp only at hSw); go_simp; try with_reducible rfl)
      all_goals try simp only [Act.put]
      all_goals try simp only [List.setIfInBounds_toArray]
      all_goals try simp only [List.set_cons_succ]
      all_goals try simp only [List.set_cons_zero]
      refine wpAnyT_takeG (i := 1) (oi := _) (v := ?_) (by simp only [List.getElem?_toArray, List.getElem?_cons_succ, List.getElem?_cons_zero]; rfl) (by kernel_rfl) (by kernel_rfl) (by kernel_rfl) (by rfl) (by kernel_rfl) (by kernel_rfl) (by exact fun _ _ _ h => h) (Or.inl ⟨by rfl, ?_⟩) ⟨(by exact hF), fun _ => (by exact hG)⟩ (fun _ => ?_)
      rotate_left 1
      · (intro w hSw; (try dsimp only at hSw); go_simp; try with_reducible rfl)
      all_goals try simp only [Act.put]
      all_goals try simp only [List.setIfInBounds_toArray]
      all_goals try simp only [List.set_cons_succ]
      all_goals try simp only [List.set_cons_zero]
      refine wpAnyT_take (i := 2) (oi := _) (v := ?_) (by simp only [List.getElem?_toArray, List.getElem?_cons_succ, List.getElem?_cons_zero]; rfl) (by kernel_rfl) (by kernel_rfl) (by kernel_rfl) (by rfl) (by exact fun _ _ _ h => h) (Or.inl ⟨by rfl, ?_⟩) ⟨(by exact hF), fun _ => (by exact hG)⟩ (fun _ => ?_)
      rotate_left 1
      · (intro w hSw; (try dsimp only at hSw); go_simp; try with_reducible rfl)
      all_goals try simp only [Act.put]
      all_goals try simp only [List.setIfInBounds_toArray]
      all_goals try simp only [List.set_cons_succ]
      all_goals try simp only [List.set_cons_zero]
      refine wpAnyT_ready (rs := [3]) (by kernel_rfl) (by simp) ?_
      refine (AllReadyT.cons (by simp only [List.getElem?_toArray, List.getElem?_cons_succ, List.getElem?_cons_zero]; rfl) (fun K hK => ?_) AllReadyT.nil)
      rw [if_pos (by rfl)]
      go_simp
      refine (srcFr_any w.heap.size 9 3 _ (by exact E.out.s) (by omega) (by omega) (by omega) (by omega)).mono ?_
      rintro e w13 ⟨X, x, hX, rfl, hS, hk⟩
      have hps := E.out.s.lt
      replace AB := Lib.hid (AB.out.kept (by omega) hk)
      replace BB := Lib.hid (BB.out.kept (by omega) hk)
      replace DB := Lib.hid (DB.out.kept (by omega) hk)
      have E := Lib.hid (E.out.kept hS hk)
      have HX := Lib.hid hX
      have hz2 : w13.cell? ⟨PD, 0, none⟩ = some (.int .i64 D) ∧ w13.cell? ⟨PD, 1, none⟩ = some (.int .i64 d) := ⟨DB.out.cell 0, DB.out.cell 1⟩
      clear hS hk hps hX hz hG
      have hG := hz2
      refine hK.out _ _ ⟨(by exact hF), fun _ => (by exact hG)⟩ (fun _ => ?_)
      clear hK K
      try simp only [Act.put]
      try simp only [List.setIfInBounds_toArray]
      try simp only [List.set_cons_succ]
      try simp only [List.set_cons_zero]
      refine wpAnyT_ready (rs := [4]) (by kernel_rfl) (by simp) ?_
      refine (AllReadyT.cons (by simp only [List.getElem?_toArray, List.getElem?_cons_succ, List.getElem?_cons_zero]; rfl) (fun K hK => ?_) AllReadyT.nil)
      rw [if_pos (by rfl)]
      go_simp
      refine (radd_any D d X x _).mono ?_
      rintro e w14 ⟨rfl, hb⟩
      obtain ⟨hX1, hX2, hX3⟩ := HX.out
      obtain ⟨f1, f2, f3, f4, f5⟩ := fadd_fit2 GD.out hX1 (by omega) (by omega) (by omega) (by omega)
      have f6 : D * x ≤ 100 * 3 := Int.mul_le_mul hD1 hX2 (by have := hX1.1.1; omega) (by omega)
      have f7 : X * d ≤ 27 * 12 := Int.mul_le_mul (by omega) hd1 (by have := GD.out.1.1; omega) (by omega)
      have f8 : 0 ≤ X * d * r1 := Int.mul_nonneg (Int.mul_nonneg hX1.2 (by have := GD.out.1.1; omega)) (by have := G2.out.1.1; omega)
      have g1 := hX1.1.1; have g2 := GD.out.1.1
      generalize fadd D d X x = q at *
      obtain ⟨D', d', z⟩ := q
      dsimp only at *
      have GD2 := Lib.hid f2
      have f9 := f2.1.1
      have LD2 := Lib.hid (show (R1 + r1) * d' ≤ D' * r1 from by
        have h0 : 1 * 1 ≤ d * x := Int.mul_le_mul g2 g1 (by omega) (by omega)
        refine (mul_le_iff (show 1 ≤ d * x by omega)).1 ?_
        have h1 := Int.mul_le_mul_of_nonneg_right LD.out (show 0 ≤ x * d' from Int.mul_nonneg (by omega) (by omega))
        have h2 : 0 ≤ X * d * r1 * d' := Int.mul_nonneg f8 (by omega)
        have e1 : D' * r1 * (d * x) = D * r1 * (x * d') + X * d * r1 * d' := by grind
        have e2 : (R1 + r1) * d' * (d * x) = (R1 + r1) * d * (x * d') := by grind
        rw [e1, e2]; omega)
      have hD2 : D' ≤ 1000 := by omega
      have E := Lib.hid (E.out.below hb)
      replace AB := Lib.hid (AB.out.below hb AB.out.lt)
      replace BB := Lib.hid (BB.out.below hb BB.out.lt)
      replace DB := Lib.hid (DB.out.below hb DB.out.lt)
      have hz3 : w14.cell? ⟨PD, 0, none⟩ = some (.int .i64 D) ∧ w14.cell? ⟨PD, 1, none⟩ = some (.int .i64 d) := ⟨DB.out.cell 0, DB.out.cell 1⟩
      clear f1 f2 f3 f4 f5 f6 f7 f8 f9 g1 g2 hX1 hX2 hX3 hz2 hb
      clear hG
      have hG := hz3
      refine hK.out _ _ ⟨(by exact hF), fun _ => (by exact hG)⟩ (fun _ => ?_)
      clear hK K
      try simp only [Act.put]
      try simp only [List.setIfInBounds_toArray]
      try simp only [List.set_cons_succ]
      try simp only [List.set_cons_zero]
      refine wpAnyT_take (i := 5) (oi := _) (v := ?_) (by simp only [List.getElem?_toArray, List.getElem?_cons_succ, List.getElem?_cons_zero]; rfl) (by kernel_rfl) (by kernel_rfl) (by kernel_rfl) (by rfl) (by exact fun _ _ _ h => h) (Or.inl ⟨by rfl, ?_⟩) ⟨(by exact hF), fun _ => (by exact hG)⟩ (fun _ => ?_)
      rotate_left 1
      · (intro w hSw; (try dsimp only at hSw); go_simp; try with_reducible rfl)
      all_goals try simp only [Act.put]
      all_goals try simp only [List.setIfInBounds_toArray]
      all_goals try simp only [List.set_cons_succ]
      all_goals try simp only [List.set_cons_zero]
      refine wpAnyT_take (i := 6) (oi := _) (v := ?_) (by simp only [List.getElem?_toArray, List.getElem?_cons_succ, List.getElem?_cons_zero]; rfl) (by kernel_rfl) (by kernel_rfl) (by kernel_rfl) (by rfl) (by exact fun _ _ _ h => h) (Or.inl ⟨by rfl, ?_⟩) ⟨(by exact hF), fun _ => (by exact hG)⟩ (fun _ => ?_)
      rotate_left 1
      · (intro w hSw; (try dsimp only at hSw); go_simp; try with_reducible rfl)
      all_goals try simp only [Act.put]
      all_goals try simp only [List.setIfInBounds_toArray]
      all_goals try simp only [List.set_cons_succ]
      all_goals try simp only [List.set_cons_zero]
      refine wpAnyT_take (i := 7) (oi := _) (v := ?_) (by simp only [List.getElem?_toArray, List.getElem?_cons_succ, List.getElem?_cons_zero]; rfl) (by kernel_rfl) (by kernel_rfl) (by kernel_rfl) (by rfl) (by exact fun _ _ _ h => h) (Or.inl ⟨by rfl, ?_⟩) ⟨(by exact hF), fun _ => (by exact hG)⟩ (fun _ => ?_)
      rotate_left 1
      · (intro w hSw; (try dsimp only at hSw); go_simp; try with_reducible rfl)
      all_goals try simp only [Act.put]
      all_goals try simp only [List.setIfInBounds_toArray]
      all_goals try simp only [List.set_cons_succ]
      all_goals try simp only [List.set_cons_zero]
      refine wpAnyT_take (i := 8) (oi := _) (v := ?_) (by simp only [List.getElem?_toArray, List.getElem?_cons_succ, List.getElem?_cons_zero]; rfl) (by kernel_rfl) (by kernel_rfl) (by kernel_rfl) (by rfl) (by exact fun _ _ _ h => h) (Or.inl ⟨by rfl, ?_⟩) ⟨(by exact hF), fun _ => (by exact hG)⟩ (fun _ => ?_)
      rotate_left 1
      · (intro w hSw; (try dsimp only at hSw); go_simp; try with_reducible rfl)
      all_goals try simp only [Act.put]
      all_goals try simp only [List.setIfInBounds_toArray]
      all_goals try simp only [List.set_cons_succ]
      all_goals try simp only [List.set_cons_zero]
      obtain ⟨z0, z1⟩ := hz3
      have v0 := DB.out.frozen 0; have v1 := DB.out.frozen 1
      have hlz := DB.out.lt
      refine wpAnyT_ready (rs := [9]) (by kernel_rfl) (by simp) ?_
      refine (AllReadyT.cons (by simp only [List.getElem?_toArray, List.getElem?_cons_succ, List.getElem?_cons_zero]; rfl) (fun K hK => ?_) AllReadyT.nil)
      rw [if_pos (by rfl)]
      go_simp
      clear hG
      -- w14 the world, D' d' the new burst
      have E := Lib.hid ((E.out.far (Nat.le_of_lt hpd) hpd APD.out 0 (.int .i64 D')).far (Nat.le_of_lt hpd) hpd APD.out 1 (.int .i64 d'))
      replace AB := Lib.hid ((AB.out.far (p := ⟨PD, 0, none⟩) (show PA ≠ PD by omega) (.int .i64 D')).far (p := ⟨PD, 1, none⟩) (show PA ≠ PD by omega) (.int .i64 d'))
      replace BB := Lib.hid ((BB.out.far (p := ⟨PD, 0, none⟩) (show PB ≠ PD by omega) (.int .i64 D')).far (p := ⟨PD, 1, none⟩) (show PB ≠ PD by omega) (.int .i64 d'))
      replace DB := Lib.hid (show Blk _ PD 29 #[.int .i64 D', .int .i64 d', .int .i64 R1, .int .i64 r1] from (DB.out.set_ 0 (.int .i64 D')).set_ 1 (.int .i64 d'))
      clear z0 z1 v0 v1 hlz
      generalize hwe : (w14.setCell ⟨PD, 0, none⟩ (.int .i64 D')).setCell ⟨PD, 1, none⟩ (.int .i64 d') = wv at *
      clear hwe
      refine hK.out _ _ ⟨(by exact hF), fun h => Bool.noConfusion (show true = false from h)⟩ (fun _ => ?_)
      clear hK K
      try simp only [Act.put]
      try simp only [List.setIfInBounds_toArray]
      try simp only [List.set_cons_succ]
      try simp only [List.set_cons_zero]
      refine wpAnyT_done (by kernel_rfl) ?_ _
      go_wp2_with fail
      go_meet
      exact ⟨D', d', GD2, hD2, LD2, E.out, AB.out, BB.out, DB.out⟩
  case rest =>
  clear E AB BB DB GD LD hD1 hd1
  obtain ⟨D', d', hGD, hD1, hLD, hE, hA, hB, hD⟩ := hcut
  have GD := Lib.hid hGD.out; have LD := Lib.hid hLD.out
  have E := Lib.hid hE; have AB := Lib.hid hA; have BB := Lib.hid hB; have DB := Lib.hid hD
  clear hGD hLD hE hA hB hD APD
  obtain ⟨dc, hd1, hd2, hd3⟩ := tokc_cur GD.out G2.out hD1 (by omega) (by omega)
  have ND1 := Lib.hid hd1; have LD1 := Lib.hid hd2; have OD1 := Lib.hid hd3
  clear hd1 hd2 hd3
  obtain ⟨x0, x1, x2, x3⟩ : _ ∧ _ ∧ _ ∧ _ := ⟨DB.out.cell 0, DB.out.cell 1, DB.out.cell 2, DB.out.cell 3⟩
  simp at x0 x1 x2 x3
  have hlx := DB.out.lt
  go_wp2_with fail
  refine (token_any D' d' R1 r1 _).mono ?_
  rintro e w15 ⟨dc', er, hS, A4, n4, c4, rfl, hI, hA, hb⟩
  obtain ⟨rfl, rfl⟩ : dc = dc' ∧ er = 0 := (fun h => ⟨h.1.symm, h.2⟩) <| tokc_made GD.out G2.out (by omega) hS ND1.out LD1.out
  have hl4 : n4 ≤ 400 := by have h1 := hI.1; have h2 := OD1.out.n2; omega
  clear hS x0 x1 x2 x3 hlx DB
  -- the curve dc : A4 n4 c4 of world w15 goes to a new variable PC; 14 the next region
  have hps := E.out.s.lt
  have E := Lib.hid (show EnvL w.heap.size w _ _ from (E.out.below hb).push (X := ⟨A4, n4, c4, dc⟩) (CR.In.new hI hA hps))
  dsimp only [List.cons_append, List.nil_append] at E
  try replace AB := Lib.hid ((AB.out.below hb AB.out.lt).alloc (.cells #[.slice A4 n4 c4, .int .i64 dc.per, .int .i64 dc.inc] 31))
  try replace BB := Lib.hid ((BB.out.below hb BB.out.lt).alloc (.cells #[.slice A4 n4 c4, .int .i64 dc.per, .int .i64 dc.inc] 31))
  clear hI hA hb hps
  go_upto_region 14 with fail
  generalize hwe : w15.alloc (.cells #[.slice A4 n4 c4, .int .i64 dc.per, .int .i64 dc.inc] 31) = we at *
  clear hwe
  generalize w15.heap.size = PC at *
  go_upto_region 16 with fail
  have hsp := E.out.s.lt
  obtain ⟨x0, x1, x2, hlx⟩ := (E.out.get 3 rfl).cells
  obtain ⟨y0, y1, y2, hly⟩ := (E.out.get 2 rfl).cells
  go_wp2_with fail
  have RB := Lib.hid (Blk.new we 31 #[.slice A4 n4 c4, .int .i64 dc.per, .int .i64 dc.inc, .slice A3 n3 c3, .int .i64 st.per, .int .i64 st.inc])
  have E := Lib.hid (E.out.alloc (.cells #[.slice A4 n4 c4, .int .i64 dc.per, .int .i64 dc.inc, .slice A3 n3 c3, .int .i64 st.per, .int .i64 st.inc] 31))
  replace AB := Lib.hid (AB.out.alloc (.cells #[.slice A4 n4 c4, .int .i64 dc.per, .int .i64 dc.inc, .slice A3 n3 c3, .int .i64 st.per, .int .i64 st.inc] 31))
  replace BB := Lib.hid (BB.out.alloc (.cells #[.slice A4 n4 c4, .int .i64 dc.per, .int .i64 dc.inc, .slice A3 n3 c3, .int .i64 st.per, .int .i64 st.inc] 31))
  clear x0 x1 x2 hlx y0 y1 y2 hly hsp
  generalize hwe : we.alloc (.cells #[.slice A4 n4 c4, .int .i64 dc.per, .int .i64 dc.inc, .slice A3 n3 c3, .int .i64 st.per, .int .i64 st.inc] 31) = ww at *
  clear hwe
  generalize we.heap.size = PR at *
  have SD := Lib.hid (sub_pl ND1.out (fun s u => tok_sub GD.out.2 GD.out.1.1 G2.out.2 G2.out.1.1 LD.out s u) (fun k hk => by have := tok_bd GD.out G2.out (k := k) hk; omega))
  have SS := Lib.hid (sub_pl NS1.out (fun s u => st_sub (S := sn) (E := En) (A := an) (by omega) he0 (by omega) s u) (fun k hk => by have := st_bd OKS.out (k := k) hk; omega))
  go_loopg [16, 17, 18, 103] 2 (fun gg s16 s17 s18 s103 wx => ∃ k : Nat, k + gg = 2 ∧ s103 = .int .i64 k ∧ EnvL w.heap.size w wx [(PF, ⟨A1, n1, c1, f⟩), (PG, ⟨A2, n2, c2, g⟩), (PS, ⟨A3, n3, c3, st⟩), (PC, ⟨A4, n4, c4, dc⟩)] ∧ Blk wx PA 29 #[.int .i64 B1, .int .i64 b1, .int .i64 R1, .int .i64 r1] ∧ Blk wx PB 29 #[.int .i64 B2, .int .i64 b2, .int .i64 R2, .int .i64 r2] ∧ Blk wx PR 31 #[.slice A4 n4 c4, .int .i64 dc.per, .int .i64 dc.inc, .slice A3 n3 c3, .int .i64 st.per, .int .i64 st.inc])
  case atStart => exact ⟨0, by omega, rfl, E.out, AB.out, BB.out, RB.out⟩
  case round =>
    clear E AB BB RB
    obtain ⟨kk, hkg, rfl, hE, hA, hB, hR⟩ := hrel
    have E := Lib.hid hE; have AB := Lib.hid hA; have BB := Lib.hid hB; have RB := Lib.hid hR
    clear hE hA hB hR
    have h3 : kk = 0 ∨ kk = 1 ∨ kk = 2 := by omega
    rcases h3 with rfl | rfl | rfl
    · -- one round: 0 1 2 the cells, dc the curve, A4 n4 c4, 3 its place, OD1 valid, SD sub-additive, 1 the next index
      obtain ⟨x0, x1, x2⟩ : _ ∧ _ ∧ _ := ⟨RB.out.cell 0, RB.out.cell 1, RB.out.cell 2⟩
      simp at x0 x1 x2
      have hlx := RB.out.lt
      have hsp := E.out.s.lt
      go_upto_region 19 with fail
      have XB := Lib.hid (Blk.new wr 31 #[.slice A4 n4 c4, .int .i64 dc.per, .int .i64 dc.inc])
      have E := Lib.hid (E.out.alloc (.cells #[.slice A4 n4 c4, .int .i64 dc.per, .int .i64 dc.inc] 31))
      replace AB := Lib.hid (AB.out.alloc (.cells #[.slice A4 n4 c4, .int .i64 dc.per, .int .i64 dc.inc] 31))
      replace BB := Lib.hid (BB.out.alloc (.cells #[.slice A4 n4 c4, .int .i64 dc.per, .int .i64 dc.inc] 31))
      replace RB := Lib.hid (RB.out.alloc (.cells #[.slice A4 n4 c4, .int .i64 dc.per, .int .i64 dc.inc] 31))
      clear x0 x1 x2 hlx hsp
      generalize hwe : wr.alloc (.cells #[.slice A4 n4 c4, .int .i64 dc.per, .int .i64 dc.inc] 31) = wy at *
      clear hwe
      generalize wr.heap.size = PX at *
      obtain ⟨⟨x0, x1, x2⟩, _, hlx⟩ := XB.out.c3
      go_wp2_with fail
      refine (subadd_any A4 n4 c4 dc _ (by exact (E.out.get 3 rfl).inn.ints) OD1.out SD.out).mono ?_
      rintro e wq ⟨rfl, hb⟩
      have E := Lib.hid (E.out.below hb)
      replace AB := Lib.hid (AB.out.below hb AB.out.lt)
      replace BB := Lib.hid (BB.out.below hb BB.out.lt)
      replace RB := Lib.hid (RB.out.below hb RB.out.lt)
      clear hb x0 x1 x2 hlx XB
      go_wp2_with fail
      go_roundg (gk - 1)
      case measure => omega
      case rel => exact ⟨1, by omega, rfl, E.out, AB.out, BB.out, RB.out⟩
    · -- one round: 3 4 5 the cells, st the curve, A3 n3 c3, 2 its place, OS1 valid, SS sub-additive, 2 the next index
      obtain ⟨x0, x1, x2⟩ : _ ∧ _ ∧ _ := ⟨RB.out.cell 3, RB.out.cell 4, RB.out.cell 5⟩
      simp at x0 x1 x2
      have hlx := RB.out.lt
      have hsp := E.out.s.lt
      go_upto_region 19 with fail
      have XB := Lib.hid (Blk.new wr 31 #[.slice A3 n3 c3, .int .i64 st.per, .int .i64 st.inc])
      have E := Lib.hid (E.out.alloc (.cells #[.slice A3 n3 c3, .int .i64 st.per, .int .i64 st.inc] 31))
      replace AB := Lib.hid (AB.out.alloc (.cells #[.slice A3 n3 c3, .int .i64 st.per, .int .i64 st.inc] 31))
      replace BB := Lib.hid (BB.out.alloc (.cells #[.slice A3 n3 c3, .int .i64 st.per, .int .i64 st.inc] 31))
      replace RB := Lib.hid (RB.out.alloc (.cells #[.slice A3 n3 c3, .int .i64 st.per, .int .i64 st.inc] 31))
      clear x0 x1 x2 hlx hsp
      generalize hwe : wr.alloc (.cells #[.slice A3 n3 c3, .int .i64 st.per, .int .i64 st.inc] 31) = wy at *
      clear hwe
      generalize wr.heap.size = PX at *
      obtain ⟨⟨x0, x1, x2⟩, _, hlx⟩ := XB.out.c3
      go_wp2_with fail
      refine (subadd_any A3 n3 c3 st _ (by exact (E.out.get 2 rfl).inn.ints) OS1.out SS.out).mono ?_
      rintro e wq ⟨rfl, hb⟩
      have E := Lib.hid (E.out.below hb)
      replace AB := Lib.hid (AB.out.below hb AB.out.lt)
      replace BB := Lib.hid (BB.out.below hb BB.out.lt)
      replace RB := Lib.hid (RB.out.below hb RB.out.lt)
      clear hb x0 x1 x2 hlx XB
      go_wp2_with fail
      go_roundg (gk - 1)
      case measure => omega
      case rel => exact ⟨2, by omega, rfl, E.out, AB.out, BB.out, RB.out⟩
    · go_upto_region 23 with fail
      clear RB SD SS
      obtain ⟨x0, x1⟩ : _ ∧ _ := ⟨AB.out.cell 0, AB.out.cell 1⟩
      obtain ⟨y0, y1⟩ : _ ∧ _ := ⟨BB.out.cell 0, BB.out.cell 1⟩
      simp at x0 x1 y0 y1
      have hlx := AB.out.lt; have hly := BB.out.lt
      go_wp2_with fail
      refine (radd_any B1 b1 B2 b2 _).mono ?_
      rintro e wu ⟨rfl, hb⟩
      obtain ⟨f1, f2, f3, f4, f5⟩ := fadd_fit2 G1.out G3.out (by omega) (by omega) (by omega) (by omega)
      have m1 : B1 * b2 ≤ 90 * 2 := Int.mul_le_mul (by omega) (by omega) (by have := G3.out.1.1; omega) (by omega)
      have m2 : B2 * b1 ≤ 60 * 3 := Int.mul_le_mul (by omega) (by omega) (by have := G1.out.1.1; omega) (by omega)
      generalize fadd B1 b1 B2 b2 = q at *
      obtain ⟨W, wd', zu⟩ := q
      dsimp only at *
      have GW := Lib.hid f2; have EW := Lib.hid f3
      have hW1 : W ≤ 1000 := by omega
      clear f1 f2 f3 f4 f5 m1 m2 x0 x1 y0 y1 hlx hly
      -- a fraction goes to a new variable: wu world, W wd' the fraction, 24 region, PU the variable, UB its block's fact
      replace E := Lib.hid ((E.out.below hb).alloc (.cells #[.int .i64 W, .int .i64 wd'] 26))
      replace AB := Lib.hid ((AB.out.below hb AB.out.lt).alloc (.cells #[.int .i64 W, .int .i64 wd'] 26))
      replace BB := Lib.hid ((BB.out.below hb BB.out.lt).alloc (.cells #[.int .i64 W, .int .i64 wd'] 26))
      try replace UB := Lib.hid ((UB.out.below hb UB.out.lt).alloc (.cells #[.int .i64 W, .int .i64 wd'] 26))
      have UB := Lib.hid (Blk.new wu 26 #[.int .i64 W, .int .i64 wd'])
      clear hb
      go_upto_region 24 with fail
      generalize hwe : wu.alloc (.cells #[.int .i64 W, .int .i64 wd'] 26) = we at *
      clear hwe
      generalize wu.heap.size = PU at *
      obtain ⟨x0, x1⟩ : _ ∧ _ := ⟨AB.out.cell 2, AB.out.cell 3⟩
      obtain ⟨y0, y1⟩ : _ ∧ _ := ⟨BB.out.cell 2, BB.out.cell 3⟩
      simp at x0 x1 y0 y1
      have hlx := AB.out.lt; have hly := BB.out.lt
      go_wp2_with fail
      refine (radd_any R1 r1 R2 r2 _).mono ?_
      rintro e wu ⟨rfl, hb⟩
      obtain ⟨f1, f2, f3, f4, f5⟩ := fadd_fit2 G2.out G4.out (by omega) (by omega) (by omega) (by omega)
      have m1 : R1 * r2 ≤ 24 * 3 := Int.mul_le_mul (by omega) (by omega) (by have := G4.out.1.1; omega) (by omega)
      have m2 : R2 * r1 ≤ 18 * 4 := Int.mul_le_mul (by omega) (by omega) (by have := G2.out.1.1; omega) (by omega)
      have m3 : r1 * r2 ≤ 4 * 3 := Int.mul_le_mul (by omega) (by omega) (by have := G4.out.1.1; omega) (by omega)
      generalize fadd R1 r1 R2 r2 = q at *
      obtain ⟨V, vd', zv⟩ := q
      dsimp only at *
      have GV := Lib.hid f2; have EV := Lib.hid f3
      have hV1 : V ≤ 1000 := by omega
      have hV2 : vd' ≤ 120 := by omega
      clear f1 f2 f3 f4 f5 m1 m2 m3 x0 x1 y0 y1 hlx hly
      -- a fraction goes to a new variable: wu world, V vd' the fraction, 25 region, PV the variable, VV its block's fact
      replace E := Lib.hid ((E.out.below hb).alloc (.cells #[.int .i64 V, .int .i64 vd'] 26))
      replace AB := Lib.hid ((AB.out.below hb AB.out.lt).alloc (.cells #[.int .i64 V, .int .i64 vd'] 26))
      replace BB := Lib.hid ((BB.out.below hb BB.out.lt).alloc (.cells #[.int .i64 V, .int .i64 vd'] 26))
      try replace UB := Lib.hid ((UB.out.below hb UB.out.lt).alloc (.cells #[.int .i64 V, .int .i64 vd'] 26))
      have VV := Lib.hid (Blk.new wu 26 #[.int .i64 V, .int .i64 vd'])
      clear hb
      go_upto_region 25 with fail
      generalize hwe : wu.alloc (.cells #[.int .i64 V, .int .i64 vd'] 26) = we at *
      clear hwe
      generalize wu.heap.size = PV at *
      obtain ⟨wh, hh1, hh2, hh3⟩ := tokc_cur GW.out GV.out hW1 hV2 hV1
      have NW := Lib.hid hh1; have LW := Lib.hid hh2; have OW := Lib.hid hh3
      clear hh1 hh2 hh3
      obtain ⟨x0, x1⟩ : _ ∧ _ := ⟨UB.out.cell 0, UB.out.cell 1⟩
      obtain ⟨y0, y1⟩ : _ ∧ _ := ⟨VV.out.cell 0, VV.out.cell 1⟩
      simp at x0 x1 y0 y1
      have hlx := UB.out.lt; have hly := VV.out.lt
      go_wp2_with fail
      refine (token_any W wd' V vd' _).mono ?_
      rintro e w20 ⟨wh', er, hS, A5, n5, c5, rfl, hI, hA, hb⟩
      obtain ⟨rfl, rfl⟩ : wh = wh' ∧ er = 0 := (fun h => ⟨h.1.symm, h.2⟩) <| tokc_made GW.out GV.out hV2 hS NW.out LW.out
      have hl5 : n5 ≤ 400 := by have h1 := hI.1; have h2 := OW.out.n2; omega
      clear hS x0 x1 y0 y1 hlx hly UB VV AB BB
      -- the curve wh : A5 n5 c5 of world w20 goes to a new variable PW; 26 the next region
      have hps := E.out.s.lt
      have E := Lib.hid (show EnvL w.heap.size w _ _ from (E.out.below hb).push (X := ⟨A5, n5, c5, wh⟩) (CR.In.new hI hA hps))
      dsimp only [List.cons_append, List.nil_append] at E
      try replace AB := Lib.hid ((AB.out.below hb AB.out.lt).alloc (.cells #[.slice A5 n5 c5, .int .i64 wh.per, .int .i64 wh.inc] 31))
      try replace BB := Lib.hid ((BB.out.below hb BB.out.lt).alloc (.cells #[.slice A5 n5 c5, .int .i64 wh.per, .int .i64 wh.inc] 31))
      clear hI hA hb hps
      go_upto_region 26 with fail
      generalize hwe : w20.alloc (.cells #[.slice A5 n5 c5, .int .i64 wh.per, .int .i64 wh.inc] 31) = we at *
      clear hwe
      generalize w20.heap.size = PW at *
      obtain ⟨x0, x1, x2, hlx⟩ := (E.out.get 0 rfl).cells
      obtain ⟨y0, y1, y2, hly⟩ := (E.out.get 1 rfl).cells
      go_wp2_with fail
      refine (refSum_any A1 A2 n1 n2 c1 c2 f.per f.inc g.per g.inc f.vals g.vals _ (by exact (E.out.get 0 rfl).inn.ints) (by exact (E.out.get 1 rfl).inn.ints) (by omega) (by omega) HCf.out HCg.out).mono ?_
      rintro e w21 ⟨sm, es, A6, n6, c6, hSS, hle, rfl, hI, hA, hb⟩
      obtain ⟨rfl, hsf, hsn⟩ := tok_plus G1.out G2.out G3.out G4.out (by omega) (by omega) (by omega) (by omega) (by omega) (by omega) NF1.out OF1.out NG1.out OG1.out (show SumS f g sm es from hSS)
      have hl6 : n6 ≤ 400 := by have h1 := hsf.1.n2; have h2 := hI.1; omega
      have T1 := Lib.hid (atmc hsf.1 OW.out (lecc hsn NW.out hsf (fun t => tok_sum G1.out.1.1 G2.out.1.1 G3.out.1.1 G4.out.1.1 GW.out.1.1 GV.out.1.1 EW.out EV.out t)))
      clear hSS hle hsf hsn x0 x1 x2 hlx y0 y1 y2 hly
      -- the curve sm : A6 n6 c6 of world w21 goes to a new variable PM; 27 the next region
      have hps := E.out.s.lt
      have E := Lib.hid (show EnvL w.heap.size w _ _ from (E.out.below hb).push (X := ⟨A6, n6, c6, sm⟩) (CR.In.new hI hA hps))
      dsimp only [List.cons_append, List.nil_append] at E
      try replace AB := Lib.hid ((AB.out.below hb AB.out.lt).alloc (.cells #[.slice A6 n6 c6, .int .i64 sm.per, .int .i64 sm.inc] 31))
      try replace BB := Lib.hid ((BB.out.below hb BB.out.lt).alloc (.cells #[.slice A6 n6 c6, .int .i64 sm.per, .int .i64 sm.inc] 31))
      clear hI hA hb hps
      go_upto_region 27 with fail
      generalize hwe : w21.alloc (.cells #[.slice A6 n6 c6, .int .i64 sm.per, .int .i64 sm.inc] 31) = we at *
      clear hwe
      generalize w21.heap.size = PM at *
      obtain ⟨x0, x1, x2, hlx⟩ := (E.out.get 5 rfl).cells
      obtain ⟨y0, y1, y2, hly⟩ := (E.out.get 4 rfl).cells
      go_wp2_with fail
      refine (refAtMost_any A6 A5 n6 n5 c6 c5 sm.per sm.inc wh.per wh.inc sm.vals wh.vals _ (by exact (E.out.get 5 rfl).inn.ints) (by exact (E.out.get 4 rfl).inn.ints) (by omega) (by omega)).mono ?_
      intro e wq hr
      obtain ⟨rfl, hb⟩ := RetM.of T1.out hr
      have E := Lib.hid (E.out.below hb)
      clear hr hb x0 x1 x2 hlx y0 y1 y2 hly
      go_wp2_with fail
      refine (awake11_any _).mono ?_
      rintro e wz ⟨rfl, hb⟩
      have bw := (E.out.below hb).fin
      go_wp2_with fail
      go_ret
      exact ⟨rfl, bw⟩
end Go.Proofs.Ytbkimphcmmmaiaa
