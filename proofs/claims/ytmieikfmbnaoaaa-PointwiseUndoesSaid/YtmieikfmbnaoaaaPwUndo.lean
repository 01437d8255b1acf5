/- The statement PointwiseUndoes: the walk. -/
import Derived.Test.YtmieikfmbnaoaaaAwake5
import Derived.Test.YtmieikfmbnaoaaaEnvL2
import Derived.Test.YtmieikfmbnaoaaaZero
import Derived.Test.YtmieikfmbnaoaaaMadeOk
namespace Go.Proofs.Ytmieikfmbnaoaaa
open Go.RowKit
set_option linter.unusedVariables false

set_option maxHeartbeats 4000000 in
set_option maxRecDepth 100000 in
theorem undoLaw_any (A0 : Option Addr) (n0 c0 : Nat) (L : List Int) (w : World) (hL : Ints w w.heap.size A0 n0 L) (hc0 : n0 ≤ c0) (hn0 : (n0 : Int) ≤ 9223372036854775807) :
    Calls Try.prog 13 #[.slice A0 n0 c0] w fun e w' => e = .returned (.bool true) ∧ Below w.heap.size w w' := by
  go_enter Try.func13, Try.ntmps13
  go_wp2_with fail
  refine (new_any A0 n0 c0 L w hL hc0 hn0).mono ?_
  rintro e w1 ⟨rfl, hS1, hb1⟩
  have E := Lib.hid (EnvL.start hS1 hb1)
  clear hL hS1 hb1
  -- srcZero3_any the contract, 9 most, w1 the world before, w2 the world behind; the curve f: A n c; (DrawC 9 f ∧ f.Fin) ∧ nth f.vals 0 = 0 its facts
  go_wp2_with fail
  refine (srcZero3_any w.heap.size 9 w1 (by exact E.out.s) (by omega) (by omega)).mono ?_
  rintro e w2 ⟨f, A, n, c, hD, hcf, rfl, hI, hA, hS, hk⟩
  have hps := E.out.s.lt
  have E := Lib.hid (show EnvL w.heap.size w _ _ from (E.out.kept hS hk).push (X := ⟨A, n, c, f⟩) (CR.In.new hI hA hps))
  dsimp only [List.cons_append, List.nil_append] at E
  have Hf := Lib.hid (show (DrawC 9 f ∧ f.Fin) ∧ nth f.vals 0 = 0 from hD)
  have HCf := Lib.hid hcf
  have hlenf := hI.1
  try simp only at hlenf
  have hn17 : n ≤ 17 := by have h1 := Hf.out.1.1.len; omega
  clear hlenf
  clear hD hI hA hS hk hps hcf
  -- 30 the bound, _ the world before, w3 the world behind, N the number
  go_wp2_with fail
  refine (n_any w.heap.size 30 _ (by exact E.out.s) (by omega) (by omega)).mono ?_
  rintro e w3 ⟨z, hz0, hz1, rfl, hS, hk⟩
  have E := Lib.hid (E.out.kept hS hk)
  obtain ⟨N, rfl⟩ := Int.eq_ofNat_of_zero_le hz0
  have hbN : N < 30 := by omega
  clear hz0 hz1 hS hk
  -- 30 the bound, _ the world before, w4 the world behind, M the number
  go_wp2_with fail
  refine (n_any w.heap.size 30 _ (by exact E.out.s) (by omega) (by omega)).mono ?_
  rintro e w4 ⟨z, hz0, hz1, rfl, hS, hk⟩
  have E := Lib.hid (E.out.kept hS hk)
  obtain ⟨M, rfl⟩ := Int.eq_ofNat_of_zero_le hz0
  have hbM : M < 30 := by omega
  clear hz0 hz1 hS hk
  obtain ⟨x0, x1, x2, hlx⟩ := (E.out.get 0 rfl).cells
  go_wp2_with fail
  refine (praise_any A n c f.per f.inc (N : Int) f.vals _ (by exact (E.out.get 0 rfl).inn.ints) (by omega)).mono ?_
  -- a curve is returned and laid into a new variable: w5 the world, a the curve, er its error, A1 n1 c1
  rintro e w5 ⟨a, er, hSS, A1, n1, c1, rfl, hI, hA, hb⟩
  obtain ⟨rfl, hoa, hata, hfa⟩ := undo_raise Hf.out.1.1 Hf.out.1.2 (by omega) (by omega) hSS
  have hnn1 : n1 ≤ 400 := by have h1 := hoa.n2; have h2 : a.vals.length = n1 := hI.1; omega
  have HATA := Lib.hid hata; have HFA := Lib.hid hfa
  clear hoa hata hfa
  have hps := E.out.s.lt
  have E := Lib.hid (show EnvL w.heap.size w _ _ from (E.out.below hb).push (X := ⟨A1, n1, c1, a⟩) (CR.In.new hI hA hps))
  dsimp only [List.cons_append, List.nil_append] at E
  clear hSS hI hA hb hps
  clear x0 x1 x2 hlx
  obtain ⟨y0, y1, y2, hly⟩ := (E.out.get 1 rfl).cells
  go_wp2_with fail
  refine (plower_any A1 n1 c1 a.per a.inc (N : Int) a.vals _ (by exact (E.out.get 1 rfl).inn.ints) (by omega)).mono ?_
  -- a curve is returned and laid into a new variable: w6 the world, b the curve, er its error, A2 n2 c2
  rintro e w6 ⟨b, er, hSS, A2, n2, c2, rfl, hI, hA, hb⟩
  obtain ⟨rfl, hob, hnb⟩ := undo_lower Hf.out.1.2 Hf.out.2 (by omega) (by omega) HFA.out HATA.out hSS
  have hnn2 : n2 ≤ 400 := by have h1 := hob.n2; have h2 : b.vals.length = n2 := hI.1; omega
  have HNB := Lib.hid hnb
  clear hob hnb
  have hps := E.out.s.lt
  have E := Lib.hid (show EnvL w.heap.size w _ _ from (E.out.below hb).push (X := ⟨A2, n2, c2, b⟩) (CR.In.new hI hA hps))
  dsimp only [List.cons_append, List.nil_append] at E
  clear hSS hI hA hb hps
  clear y0 y1 y2 hly
  obtain ⟨x0, x1, x2, hlx⟩ := (E.out.get 0 rfl).cells
  go_wp2_with fail
  refine (platerF_any A n c f.per f.inc (N : Int) f.vals _ (by exact (E.out.get 0 rfl).inn.ints) (by omega)).mono ?_
  -- a curve is returned and laid into a new variable: w7 the world, cc the curve, er its error, A3 n3 c3
  rintro e w7 ⟨cc, er, hSS, A3, n3, c3, rfl, hI, hA, hb⟩
  obtain ⟨rfl, hoc, hatc, hfc⟩ := undo_later Hf.out.1.1 Hf.out.1.2 (by omega) hSS
  have hnn3 : n3 ≤ 400 := by have h1 := hoc.n2; have h2 : cc.vals.length = n3 := hI.1; omega
  have HATC := Lib.hid hatc; have HFC := Lib.hid hfc
  clear hoc hatc hfc
  have hps := E.out.s.lt
  have E := Lib.hid (show EnvL w.heap.size w _ _ from (E.out.below hb).push (X := ⟨A3, n3, c3, cc⟩) (CR.In.new hI hA hps))
  dsimp only [List.cons_append, List.nil_append] at E
  clear hSS hI hA hb hps
  clear x0 x1 x2 hlx
  obtain ⟨y0, y1, y2, hly⟩ := (E.out.get 3 rfl).cells
  go_wp2_with fail
  refine (paheadF_any A3 n3 c3 cc.per cc.inc (N : Int) cc.vals _ (by exact (E.out.get 3 rfl).inn.ints) (by omega)).mono ?_
  -- a curve is returned and laid into a new variable: w8 the world, dd the curve, er its error, A4 n4 c4
  rintro e w8 ⟨dd, er, hSS, A4, n4, c4, rfl, hI, hA, hb⟩
  obtain ⟨rfl, hod, hnd⟩ := undo_ahead Hf.out.1.2 Hf.out.2 (by omega) HFC.out HATC.out hSS
  have hnn4 : n4 ≤ 400 := by have h1 := hod.n2; have h2 : dd.vals.length = n4 := hI.1; omega
  have HND := Lib.hid hnd
  clear hod hnd
  have hps := E.out.s.lt
  have E := Lib.hid (show EnvL w.heap.size w _ _ from (E.out.below hb).push (X := ⟨A4, n4, c4, dd⟩) (CR.In.new hI hA hps))
  dsimp only [List.cons_append, List.nil_append] at E
  clear hSS hI hA hb hps
  clear y0 y1 y2 hly
  obtain ⟨y0, y1, y2, hly⟩ := (E.out.get 3 rfl).cells
  go_wp2_with fail
  refine (platerF_any A3 n3 c3 cc.per cc.inc (M : Int) cc.vals _ (by exact (E.out.get 3 rfl).inn.ints) (by omega)).mono ?_
  -- a curve is returned and laid into a new variable: w9 the world, pp the curve, j its error, A5 n5 c5
  rintro e w9 ⟨pp, j, hSS, A5, n5, c5, rfl, hI, hA, hb⟩
  have HSP := Lib.hid hSS
  have hIp := hI.1
  try simp only at hIp
  have hps := E.out.s.lt
  have E := Lib.hid (show EnvL w.heap.size w _ _ from (E.out.below hb).push (X := ⟨A5, n5, c5, pp⟩) (CR.In.new hI hA hps))
  dsimp only [List.cons_append, List.nil_append] at E
  clear hSS hI hA hb hps
  clear y0 y1 y2 hly
  obtain ⟨x0, x1, x2, hlx⟩ := (E.out.get 0 rfl).cells
  obtain ⟨NM, hNM⟩ : ∃ NM, NM = N + M := ⟨_, rfl⟩
  have e1 : IntKind.i64.wrap ((N : Int) + (M : Int)) = (NM : Int) := by rw [IntWalk.i64_in _ (by omega)]; omega
  have e1' : (N : Int) + (M : Int) = (NM : Int) := by omega
  have HNM := Lib.hid hNM
  clear hNM
  go_wp2_with fail
  refine (platerF_any A n c f.per f.inc (NM : Int) f.vals _ (by exact (E.out.get 0 rfl).inn.ints) (by omega)).mono ?_
  -- a curve is returned and laid into a new variable: w10 the world, qq the curve, k its error, A6 n6 c6
  rintro e w10 ⟨qq, k, hSS, A6, n6, c6, rfl, hI, hA, hb⟩
  obtain ⟨rfl, rfl⟩ := undo_two Hf.out.1.2 (by omega) (by omega) HFC.out HATC.out HSP.out (by rw [← HNM.out]; exact hSS)
  obtain ⟨rfl, hoq, hatq, hfq⟩ := undo_later Hf.out.1.1 Hf.out.1.2 (N := NM) (by have := HNM.out; omega) hSS
  have hnn6 : n6 ≤ 400 := by have h1 := hoq.n2; have h2 : pp.vals.length = n6 := hI.1; omega
  have hn5 : n5 ≤ 400 := by have h1 := hoq.n2; omega
  clear hoq hatq hfq hIp e1 e1'
  have hps := E.out.s.lt
  have E := Lib.hid (show EnvL w.heap.size w _ _ from (E.out.below hb).push (X := ⟨A6, n6, c6, pp⟩) (CR.In.new hI hA hps))
  dsimp only [List.cons_append, List.nil_append] at E
  clear hSS hI hA hb hps
  clear x0 x1 x2 hlx
  obtain ⟨x0, x1, x2, hlx⟩ := (E.out.get 0 rfl).cells
  go_wp2_with fail
  refine (normal_any A n c f.per f.inc f.vals _ (by exact (E.out.get 0 rfl).inn.ints) (by omega)).mono ?_
  -- a curve is returned and laid into a new variable: w11 the world, xx the curve, er its error, A7 n7 c7
  rintro e w11 ⟨xx, er, hSS, A7, n7, c7, rfl, hI, hA, hb⟩
  obtain ⟨rfl, hnx, hox, _⟩ := normal_ok Hf.out.1.2.1 hSS
  obtain rfl : b = xx := HNB.out.unique hnx
  obtain rfl : dd = b := HND.out.unique hnx
  have hnn7 : n7 ≤ 400 := by have h1 := hox.n2; have h2 : dd.vals.length = n7 := hI.1; omega
  clear hnx hox HNB HND
  have hps := E.out.s.lt
  have E := Lib.hid (show EnvL w.heap.size w _ _ from (E.out.below hb).push (X := ⟨A7, n7, c7, dd⟩) (CR.In.new hI hA hps))
  dsimp only [List.cons_append, List.nil_append] at E
  clear hSS hI hA hb hps
  clear x0 x1 x2 hlx
  obtain ⟨y0, y1, y2, hly⟩ := (E.out.get 2 rfl).cells
  obtain ⟨x0, x1, x2, hlx⟩ := (E.out.get 7 rfl).cells
  go_wp2_with fail
  refine (refSame_any A2 A7 n2 n7 c2 c7 dd.per dd.per dd.inc dd.inc dd.vals dd.vals _ (by exact (E.out.get 2 rfl).inn.ints) (by exact (E.out.get 7 rfl).inn.ints) (by omega) (by omega)).mono ?_
  rw [(Cv.same_iff _ _).2 rfl]
  rintro e wa ⟨rfl, hb⟩
  have E := Lib.hid (E.out.below hb)
  clear hb
  clear y0 y1 y2 hly
  clear x0 x1 x2 hlx
  obtain ⟨y0, y1, y2, hly⟩ := (E.out.get 4 rfl).cells
  obtain ⟨x0, x1, x2, hlx⟩ := (E.out.get 7 rfl).cells
  go_wp2_with fail
  refine (refSame_any A4 A7 n4 n7 c4 c7 dd.per dd.per dd.inc dd.inc dd.vals dd.vals _ (by exact (E.out.get 4 rfl).inn.ints) (by exact (E.out.get 7 rfl).inn.ints) (by omega) (by omega)).mono ?_
  rw [(Cv.same_iff _ _).2 rfl]
  rintro e wb ⟨rfl, hb⟩
  have E := Lib.hid (E.out.below hb)
  clear hb
  clear y0 y1 y2 hly
  clear x0 x1 x2 hlx
  obtain ⟨y0, y1, y2, hly⟩ := (E.out.get 5 rfl).cells
  obtain ⟨x0, x1, x2, hlx⟩ := (E.out.get 6 rfl).cells
  go_wp2_with fail
  refine (refSame_any A5 A6 n5 n6 c5 c6 pp.per pp.per pp.inc pp.inc pp.vals pp.vals _ (by exact (E.out.get 5 rfl).inn.ints) (by exact (E.out.get 6 rfl).inn.ints) (by omega) (by omega)).mono ?_
  rw [(Cv.same_iff _ _).2 rfl]
  rintro e wc ⟨rfl, hb⟩
  have E := Lib.hid (E.out.below hb)
  clear hb
  clear y0 y1 y2 hly
  clear x0 x1 x2 hlx
  go_wp2_with fail
  refine (awake5_any _).mono ?_
  rintro e wq ⟨rfl, hb⟩
  have bw := (E.out.below hb).fin
  go_wp2_with fail
  go_ret
  exact ⟨rfl, bw⟩
end Go.Proofs.Ytmieikfmbnaoaaa
