/- The statement PointwiseScales: the walk. -/
import Derived.Test.YtmieikfmbnaoaaaAwake5
import Derived.Test.YtmieikfmbnaoaaaEnvL2
import Derived.Test.YtmieikfmbnaoaaaSclPw
import Derived.Test.YtmieikfmbnaoaaaPwScale
import Derived.Deep.DeepCutAuto
namespace Go.Proofs.Ytmieikfmbnaoaaa
open Go.RowKit
set_option linter.unusedVariables false

theorem Blk.far3d {w : World} {g h : Nat} {t : TypeId} {cs : Array Value} (H : Blk w h t cs) (hne : h ≠ g) (x y z : Value) : Blk (((w.setCell ⟨g, 0, none⟩ x).setCell ⟨g, 1, none⟩ y).setCell ⟨g, 2, none⟩ z) h t cs :=
  ((H.far (p := ⟨g, 0, none⟩) hne x).far (p := ⟨g, 1, none⟩) hne y).far (p := ⟨g, 2, none⟩) hne z
theorem EnvL.sub {p : Nat} {w0 w : World} {vs us : List (Nat × CR)} (h : EnvL p w0 w vs) (hs : ∀ x ∈ us, x ∈ vs) : EnvL p w0 w us := ⟨h.s, h.k, fun x hx => h.v x (hs x hx)⟩
theorem Apart.sub {Z : Nat} {vs us : List (Nat × CR)} (h : Apart vs Z) (hs : ∀ x ∈ us, x ∈ vs) : Apart us Z := fun x hx => h x (hs x hx)
set_option maxHeartbeats 4000000 in
set_option maxRecDepth 100000 in
theorem sclLaw_any (A0 : Option Addr) (n0 c0 : Nat) (L : List Int) (w : World) (hL : Ints w w.heap.size A0 n0 L) (hc0 : n0 ≤ c0) (hn0 : (n0 : Int) ≤ 9223372036854775807) :
    Calls Try.prog 11 #[.slice A0 n0 c0] w fun e w' => e = .returned (.bool true) ∧ Below w.heap.size w w' := by
  go_enter Try.func11, Try.ntmps11
  go_wp2_with fail
  refine (new_any A0 n0 c0 L w hL hc0 hn0).mono ?_
  rintro e w1 ⟨rfl, hS1, hb1⟩
  have E := Lib.hid (EnvL.start hS1 hb1)
  clear hL hS1 hb1
  -- a curve drawn, not yet in a variable: srcCurve2_any the contract, 5 most, _ w2 the worlds, f the curve, A n c, DrawC 5 f its facts
  go_wp2_with fail
  refine (srcCurve2_any w.heap.size 5 _ (by exact E.out.s) (by omega) (by omega)).mono ?_
  rintro e w2 ⟨f, A, n, c, hD, hcf, rfl, hI, hA, hS, hk⟩
  have hps := E.out.s.lt
  have E := Lib.hid (E.out.kept hS hk)
  have Vf := Lib.hid (show (CR.mk A n c f).In w.heap.size w2 from CR.In.new hI hA hps)
  have Hf := Lib.hid (show DrawC 5 f from hD)
  have HCf := Lib.hid hcf
  have hlenf := hI.1
  try simp only at hlenf
  have hnf : n ≤ 20 := by have h1 := Hf.out.len; omega
  clear hlenf
  clear hD hI hA hS hk hps hcf
  -- a curve drawn, not yet in a variable: srcCurve2_any the contract, 5 most, _ w3 the worlds, g the curve, B m d, DrawC 5 g its facts
  go_wp2_with fail
  refine (srcCurve2_any w.heap.size 5 _ (by exact E.out.s) (by omega) (by omega)).mono ?_
  rintro e w3 ⟨g, B, m, d, hD, hcf, rfl, hI, hA, hS, hk⟩
  have hps := E.out.s.lt
  have E := Lib.hid (E.out.kept hS hk)
  have Vg := Lib.hid (show (CR.mk B m d g).In w.heap.size w3 from CR.In.new hI hA hps)
  have Hg := Lib.hid (show DrawC 5 g from hD)
  have HCg := Lib.hid hcf
  have hleng := hI.1
  try simp only at hleng
  have hmg : m ≤ 20 := by have h1 := Hg.out.len; omega
  clear hleng
  have Vf := Lib.hid (Vf.out.kept hk)
  clear hD hI hA hS hk hps hcf
  go_wp2_with fail
  refine (n_any w.heap.size 9 _ (by exact E.out.s) (by omega) (by omega)).mono ?_
  rintro e w4 ⟨z, hz0, hz1, rfl, hS, hk⟩
  have E := Lib.hid (E.out.kept hS hk)
  have Vf := Lib.hid (Vf.out.kept hk)
  have Vg := Lib.hid (Vg.out.kept hk)
  clear hS hk
  have E := Lib.hid (show EnvL w.heap.size w _ _ from E.out.push (X := ⟨A, n, c, f⟩) Vf.out)
  dsimp only [List.cons_append, List.nil_append] at E
  have Vg := Lib.hid (Vg.out.alloc (.cells #[.slice A n c, .int .i64 f.per, .int .i64 f.inc] 41))
  have E := Lib.hid (show EnvL w.heap.size w _ _ from E.out.push (X := ⟨B, m, d, g⟩) Vg.out)
  dsimp only [List.cons_append, List.nil_append] at E
  clear Vf Vg
  go_upto_region 3 with fail
  generalize hkk : (1 : Int) + z = K at *
  have hK1 : 1 ≤ K := by omega
  have hK9 : K ≤ 9 := by omega
  clear hkk hz0 hz1
  generalize hwe : (w4.alloc (.cells #[.slice A n c, .int .i64 f.per, .int .i64 f.inc] 41)).alloc (.cells #[.slice B m d, .int .i64 g.per, .int .i64 g.inc] 41) = we at *
  clear hwe
  simp only [World.size_alloc] at E
  have TF := Lib.hid (Hf.out.tame (by omega)); have TG := Lib.hid (Hg.out.tame (by omega))
  have SF := Lib.hid (show Short f g from nf_pair Hf.out.ok Hg.out.ok (n := 12) (by omega) (by omega) (fun a ha => Hf.out.dvd ha) (fun b hb => Hg.out.dvd hb))
  obtain ⟨x0, x1, x2, hlx⟩ := (E.out.get 0 rfl).cells
  go_wp2_with fail
  refine (pscale_any A n c f.per f.inc K f.vals _ (by exact (E.out.get 0 rfl).inn.ints) (by omega)).mono ?_
  -- a curve is returned and laid into a new variable: w5 the world, a the curve, er its error, A1 n1 c1
  rintro e w5 ⟨a, er, hSS, A1, n1, c1, rfl, hI, hA, hb⟩
  obtain ⟨rfl, hoa, hna, hpa⟩ := tame_scale TF.out hK1 hK9 hSS
  have hn1 : n1 ≤ 400 := by have h1 := hoa.n2; have h2 : a.vals.length = n1 := hI.1; omega
  have OA := Lib.hid hoa; have NA := Lib.hid hna; have PA := Lib.hid hpa
  clear hoa hna hpa
  have hps := E.out.s.lt
  have E := Lib.hid (show EnvL w.heap.size w _ _ from (E.out.below hb).push (X := ⟨A1, n1, c1, a⟩) (CR.In.new hI hA hps))
  dsimp only [List.cons_append, List.nil_append] at E
  clear hSS hI hA hb hps
  clear x0 x1 x2 hlx
  obtain ⟨x0, x1, x2, hlx⟩ := (E.out.get 1 rfl).cells
  go_wp2_with fail
  refine (pscale_any B m d g.per g.inc K g.vals _ (by exact (E.out.get 1 rfl).inn.ints) (by omega)).mono ?_
  -- a curve is returned and laid into a new variable: w6 the world, b the curve, er its error, A2 n2 c2
  rintro e w6 ⟨b, er, hSS, A2, n2, c2, rfl, hI, hA, hb⟩
  obtain ⟨rfl, hoa, hna, hpa⟩ := tame_scale TG.out hK1 hK9 hSS
  have hn2 : n2 ≤ 400 := by have h1 := hoa.n2; have h2 : b.vals.length = n2 := hI.1; omega
  have OB := Lib.hid hoa; have NB := Lib.hid hna
  have SAB := Lib.hid (scl_short Hf.out Hg.out NA.out hna PA.out hpa)
  clear hoa hna hpa
  have hps := E.out.s.lt
  have E := Lib.hid (show EnvL w.heap.size w _ _ from (E.out.below hb).push (X := ⟨A2, n2, c2, b⟩) (CR.In.new hI hA hps))
  dsimp only [List.cons_append, List.nil_append] at E
  clear hSS hI hA hb hps
  clear x0 x1 x2 hlx
  obtain ⟨x0, x1, x2, hlx⟩ := (E.out.get 0 rfl).cells
  obtain ⟨y0, y1, y2, hly⟩ := (E.out.get 1 rfl).cells
  go_wp2_with fail
  refine (psum_any A B n m c d f.per f.inc g.per g.inc f.vals g.vals _ (by exact (E.out.get 0 rfl).inn.ints) (by exact (E.out.get 1 rfl).inn.ints) (by omega) (by omega)).mono ?_
  -- a curve is returned and laid into a new variable: w7 the world, x the curve, er its error, A3 n3 c3
  rintro e w7 ⟨x, er, hSS, A3, n3, c3, rfl, hI, hA, hb⟩
  obtain ⟨rfl, htx, hex, hnx⟩ := sum_tame (by omega) (by omega) Hf.out Hg.out hSS
  have hn3 : n3 ≤ 400 := by have h1 := htx.ok.n2; have h2 : x.vals.length = n3 := hI.1; omega
  have TX := Lib.hid htx; have EX := Lib.hid hex
  clear htx hex hnx
  have hps := E.out.s.lt
  have APx := Lib.hid (E.out.below hb).apart
  have hpx := (E.out.below hb).s.lt
  have hps := E.out.s.lt
  have E := Lib.hid (show EnvL w.heap.size w _ _ from (E.out.below hb).push (X := ⟨A3, n3, c3, x⟩) (CR.In.new hI hA hps))
  dsimp only [List.cons_append, List.nil_append] at E
  clear hSS hI hA hb hps
  clear x0 x1 x2 hlx
  clear y0 y1 y2 hly
  obtain ⟨x0, x1, x2, hlx⟩ := (E.out.get 2 rfl).cells
  obtain ⟨y0, y1, y2, hly⟩ := (E.out.get 3 rfl).cells
  go_wp2_with fail
  refine (psum_any A1 A2 n1 n2 c1 c2 a.per a.inc b.per b.inc a.vals b.vals _ (by exact (E.out.get 2 rfl).inn.ints) (by exact (E.out.get 3 rfl).inn.ints) (by omega) (by omega)).mono ?_
  -- a curve is returned and laid into a new variable: w8 the world, y the curve, j its error, A4 n4 c4
  rintro e w8 ⟨y, j, hSS, A4, n4, c4, rfl, hI, hA, hb⟩
  have S1 := Lib.hid hSS
  have hIy := hI.1
  try simp only at hIy
  have hps := E.out.s.lt
  have APy := Lib.hid (E.out.below hb).apart
  have hpy := (E.out.below hb).s.lt
  have hzxy := ((E.out.below hb).get 4 rfl).lt
  have hps := E.out.s.lt
  have E := Lib.hid (show EnvL w.heap.size w _ _ from (E.out.below hb).push (X := ⟨A4, n4, c4, y⟩) (CR.In.new hI hA hps))
  dsimp only [List.cons_append, List.nil_append] at E
  clear hSS hI hA hb hps
  clear x0 x1 x2 hlx
  clear y0 y1 y2 hly
  obtain ⟨x0, x1, x2, hlx⟩ := (E.out.get 4 rfl).cells
  go_wp2_with fail
  refine (pscale_any A3 n3 c3 x.per x.inc K x.vals _ (by exact (E.out.get 4 rfl).inn.ints) (by omega)).mono ?_
  -- a curve is returned and laid into a new variable: w9 the world, z the curve, mm its error, A5 n5 c5
  rintro e w9 ⟨z, mm, hSS, A5, n5, c5, rfl, hI, hA, hb⟩
  obtain ⟨rfl, hoz, hnz, _⟩ := tame_scale TX.out hK1 hK9 hSS
  obtain ⟨hyz, rfl⟩ := scl_sum (by omega) (by omega) Hf.out Hg.out hK1 hK9 OA.out OB.out NA.out NB.out SAB.out TX.out EX.out S1.out hSS
  subst hyz
  have hn5 : n5 ≤ 400 := by have h1 := hoz.n2; have h2 : y.vals.length = n5 := hI.1; omega
  have hn4 : n4 ≤ 400 := by have h1 := hoz.n2; omega
  clear hoz hnz hIy S1
  have hps := E.out.s.lt
  have APz := Lib.hid (E.out.below hb).apart
  have hpz := (E.out.below hb).s.lt
  have hzyz := ((E.out.below hb).get 5 rfl).lt
  have hps := E.out.s.lt
  have E := Lib.hid (show EnvL w.heap.size w _ _ from (E.out.below hb).push (X := ⟨A5, n5, c5, y⟩) (CR.In.new hI hA hps))
  dsimp only [List.cons_append, List.nil_append] at E
  clear hSS hI hA hb hps
  clear x0 x1 x2 hlx
  obtain ⟨x0, x1, x2, hlx⟩ := (E.out.get 0 rfl).cells
  go_wp2_with fail
  refine (psum_any A A n n c c f.per f.inc f.per f.inc f.vals f.vals _ (by exact (E.out.get 0 rfl).inn.ints) (by exact (E.out.get 0 rfl).inn.ints) (by omega) (by omega)).mono ?_
  -- a curve is returned and laid into a new variable: w10 the world, u the curve, er its error, A6 n6 c6
  rintro e w10 ⟨u, er, hSS, A6, n6, c6, rfl, hI, hA, hb⟩
  obtain ⟨rfl, htu, heu, hnu⟩ := sum_tame (by omega) (by omega) Hf.out Hf.out hSS
  have hn6 : n6 ≤ 400 := by have h1 := htu.ok.n2; have h2 : u.vals.length = n6 := hI.1; omega
  have NU := Lib.hid hnu
  clear htu heu hnu
  have hps := E.out.s.lt
  have E := Lib.hid (show EnvL w.heap.size w _ _ from (E.out.below hb).push (X := ⟨A6, n6, c6, u⟩) (CR.In.new hI hA hps))
  dsimp only [List.cons_append, List.nil_append] at E
  clear hSS hI hA hb hps
  clear x0 x1 x2 hlx
  obtain ⟨x0, x1, x2, hlx⟩ := (E.out.get 0 rfl).cells
  go_wp2_with fail
  refine (pscale_any A n c f.per f.inc 2 f.vals _ (by exact (E.out.get 0 rfl).inn.ints) (by omega)).mono ?_
  -- a curve is returned and laid into a new variable: w11 the world, v the curve, er its error, A7 n7 c7
  rintro e w11 ⟨v, er, hSS, A7, n7, c7, rfl, hI, hA, hb⟩
  obtain ⟨rfl, hov, hnv, _⟩ := tame_scale TF.out (by omega) (by omega) hSS
  obtain rfl := scl_two Hf.out NU.out hnv
  have hn7 : n7 ≤ 400 := by have h1 := hov.n2; have h2 : u.vals.length = n7 := hI.1; omega
  clear hov hnv NU
  have hps := E.out.s.lt
  have E := Lib.hid (show EnvL w.heap.size w _ _ from (E.out.below hb).push (X := ⟨A7, n7, c7, u⟩) (CR.In.new hI hA hps))
  dsimp only [List.cons_append, List.nil_append] at E
  clear hSS hI hA hb hps
  clear x0 x1 x2 hlx
  obtain ⟨x0, x1, x2, hlx⟩ := (E.out.get 5 rfl).cells
  obtain ⟨y0, y1, y2, hly⟩ := (E.out.get 6 rfl).cells
  go_wp2_with fail
  refine (refSame_any A4 A5 n4 n5 c4 c5 y.per y.per y.inc y.inc y.vals y.vals _ (by exact (E.out.get 5 rfl).inn.ints) (by exact (E.out.get 6 rfl).inn.ints) (by omega) (by omega)).mono ?_
  rw [(Cv.same_iff _ _).2 rfl]
  rintro e ws ⟨rfl, hb⟩
  have E := Lib.hid (E.out.below hb)
  clear hb
  clear x0 x1 x2 hlx
  clear y0 y1 y2 hly
  obtain ⟨x0, x1, x2, hlx⟩ := (E.out.get 7 rfl).cells
  obtain ⟨y0, y1, y2, hly⟩ := (E.out.get 8 rfl).cells
  go_wp2_with fail
  refine (refSame_any A6 A7 n6 n7 c6 c7 u.per u.per u.inc u.inc u.vals u.vals _ (by exact (E.out.get 7 rfl).inn.ints) (by exact (E.out.get 8 rfl).inn.ints) (by omega) (by omega)).mono ?_
  rw [(Cv.same_iff _ _).2 rfl]
  rintro e ws ⟨rfl, hb⟩
  have E := Lib.hid (E.out.below hb)
  clear hb
  clear x0 x1 x2 hlx
  clear y0 y1 y2 hly
  have Bx := Lib.hid (E.out.get 4 rfl).blk; have By := Lib.hid (E.out.get 5 rfl).blk; have Bz := Lib.hid (E.out.get 6 rfl).blk
  replace E := Lib.hid (show EnvL w.heap.size w _ [(w4.heap.size, ⟨A, n, c, f⟩), (w4.heap.size + 1, ⟨B, m, d, g⟩), (w5.heap.size, ⟨A1, n1, c1, a⟩), (w6.heap.size, ⟨A2, n2, c2, b⟩)] from E.out.sub (fun q hq => by simp only [List.mem_cons, List.not_mem_nil, or_false] at hq ⊢; rcases hq with h | h | h | h <;> simp [h]))
  replace APx := Lib.hid (show Apart [(w4.heap.size, ⟨A, n, c, f⟩), (w4.heap.size + 1, ⟨B, m, d, g⟩), (w5.heap.size, ⟨A1, n1, c1, a⟩), (w6.heap.size, ⟨A2, n2, c2, b⟩)] w7.heap.size from APx.out)
  replace APy := Lib.hid (show Apart [(w4.heap.size, ⟨A, n, c, f⟩), (w4.heap.size + 1, ⟨B, m, d, g⟩), (w5.heap.size, ⟨A1, n1, c1, a⟩), (w6.heap.size, ⟨A2, n2, c2, b⟩)] w8.heap.size from APy.out.sub (fun q hq => by simp only [List.mem_cons, List.not_mem_nil, or_false] at hq ⊢; rcases hq with h | h | h | h <;> simp [h]))
  replace APz := Lib.hid (show Apart [(w4.heap.size, ⟨A, n, c, f⟩), (w4.heap.size + 1, ⟨B, m, d, g⟩), (w5.heap.size, ⟨A1, n1, c1, a⟩), (w6.heap.size, ⟨A2, n2, c2, b⟩)] w9.heap.size from APz.out.sub (fun q hq => by simp only [List.mem_cons, List.not_mem_nil, or_false] at hq ⊢; rcases hq with h | h | h | h <;> simp [h]))
  generalize w7.heap.size = Zx at Bx By Bz APx APy APz hpx hpy hpz hzxy hzyz ⊢
  generalize w8.heap.size = Zy at Bx By Bz APx APy APz hpx hpy hpz hzxy hzyz ⊢
  generalize w9.heap.size = Zz at Bx By Bz APx APy APz hpx hpy hpz hzxy hzyz ⊢
  clear TX EX
  obtain ⟨x0, x1, x2, hlx⟩ := (E.out.get 0 rfl).cells
  obtain ⟨y0, y1, y2, hly⟩ := (E.out.get 1 rfl).cells
  go_wp2_with fail
  refine (pmin_any A B n m c d f.per f.inc g.per g.inc f.vals g.vals _ (by exact (E.out.get 0 rfl).inn.ints) (by exact (E.out.get 1 rfl).inn.ints) (by omega) (by omega)).mono ?_
  -- a curve is returned and laid into a new variable: wa the world, xq the curve, i2 its error, A8 n8 c8
  rintro e wa ⟨xq, i2, hSS, A8, n8, c8, rfl, hI, hA, hb⟩
  have S1 := Lib.hid hSS
  have hn8 : n8 ≤ 400 := by
    have h2 : xq.vals.length = n8 := hI.1
    rcases (ExtS.made TF.out.ok TG.out.ok SF.out hSS).get (exV_up TF.out.ok TG.out.ok) with ⟨_, h1, _⟩ | ⟨_, rfl⟩
    · have := h1.n2; omega
    · rw [← h2]; decide
  have hq1 := Bx.out.lt; have hq2 := By.out.lt; have hq3 := Bz.out.lt; have hps := E.out.s.lt
  have XO1 := Lib.hid (CR.Off.of_ge (x := ⟨A8, n8, c8, xq⟩) hA hq1); have XO2 := Lib.hid (CR.Off.of_ge (x := ⟨A8, n8, c8, xq⟩) hA hq2); have XO3 := Lib.hid (CR.Off.of_ge (x := ⟨A8, n8, c8, xq⟩) hA hq3)
  have Vx := Lib.hid (show (CR.mk A8 n8 c8 xq).In w.heap.size wa from CR.In.new hI hA hps)
  have E := Lib.hid (E.out.below hb)
  have Bx := Lib.hid (Bx.out.below hb Bx.out.lt); have By := Lib.hid (By.out.below hb By.out.lt); have Bz := Lib.hid (Bz.out.below hb Bz.out.lt)
  clear hSS hI hA hb hps hq1 hq2 hq3
  clear x0 x1 x2 hlx
  clear y0 y1 y2 hly
  obtain ⟨⟨x0, x1, x2⟩, ⟨x3, x4, x5⟩, hlx⟩ := Bx.out.c3
  go_upto_region 13 with fail
  clear x0 x1 x2 x3 x4 x5 hlx
  have E := Lib.hid (E.out.far3 (Nat.le_of_lt hpx) hpx APx.out (.slice A8 n8 c8) (.int .i64 xq.per) (.int .i64 xq.inc))
  have Bx := Lib.hid (Bx.out.store3 (.slice A8 n8 c8) (.int .i64 xq.per) (.int .i64 xq.inc))
  have By := Lib.hid (By.out.far3d (g := Zx) (by omega) (.slice A8 n8 c8) (.int .i64 xq.per) (.int .i64 xq.inc))
  have Bz := Lib.hid (Bz.out.far3d (g := Zx) (by omega) (.slice A8 n8 c8) (.int .i64 xq.per) (.int .i64 xq.inc))
  have Vx := Lib.hid (Vx.out.far3 XO1.out (.slice A8 n8 c8) (.int .i64 xq.per) (.int .i64 xq.inc))
  generalize hwe : ((wa.setCell ⟨Zx, 0, none⟩ (.slice A8 n8 c8)).setCell ⟨Zx, 1, none⟩ (.int .i64 xq.per)).setCell ⟨Zx, 2, none⟩ (.int .i64 xq.inc) = wb at *
  clear hwe XO1
  obtain ⟨x0, x1, x2, hlx⟩ := (E.out.get 2 rfl).cells
  obtain ⟨y0, y1, y2, hly⟩ := (E.out.get 3 rfl).cells
  go_wp2_with fail
  refine (pmin_any A1 A2 n1 n2 c1 c2 a.per a.inc b.per b.inc a.vals b.vals _ (by exact (E.out.get 2 rfl).inn.ints) (by exact (E.out.get 3 rfl).inn.ints) (by omega) (by omega)).mono ?_
  -- a curve is returned and laid into a new variable: wc the world, yq the curve, j2 its error, A9 n9 c9
  rintro e wc ⟨yq, j2, hSS, A9, n9, c9, rfl, hI, hA, hb⟩
  have RES := Lib.hid (scl_min TF.out TG.out hK1 hK9 OA.out OB.out NA.out NB.out SAB.out SF.out S1.out hSS)
  have hn9 : n9 ≤ 400 := by
    have h2 : yq.vals.length = n9 := hI.1
    rcases RES.out with ⟨_, _, _, h1, _⟩ | ⟨_, _, _, rfl⟩
    · have := h1.n2; omega
    · rw [← h2]; decide
  have hq2 := By.out.lt; have hq3 := Bz.out.lt; have hps := E.out.s.lt
  have YO2 := Lib.hid (CR.Off.of_ge (x := ⟨A9, n9, c9, yq⟩) hA hq2); have YO3 := Lib.hid (CR.Off.of_ge (x := ⟨A9, n9, c9, yq⟩) hA hq3)
  have Vy := Lib.hid (show (CR.mk A9 n9 c9 yq).In w.heap.size wc from CR.In.new hI hA hps)
  have E := Lib.hid (E.out.below hb)
  have Vx := Lib.hid (Vx.out.below hb)
  have Bx := Lib.hid (Bx.out.below hb Bx.out.lt); have By := Lib.hid (By.out.below hb By.out.lt); have Bz := Lib.hid (Bz.out.below hb Bz.out.lt)
  clear hSS hI hA hb hps hq2 hq3 S1
  clear x0 x1 x2 hlx
  clear y0 y1 y2 hly
  obtain ⟨⟨x0, x1, x2⟩, ⟨x3, x4, x5⟩, hlx⟩ := By.out.c3
  go_upto_region 14 with fail
  clear x0 x1 x2 x3 x4 x5 hlx
  have E := Lib.hid (E.out.far3 (Nat.le_of_lt hpy) hpy APy.out (.slice A9 n9 c9) (.int .i64 yq.per) (.int .i64 yq.inc))
  have By := Lib.hid (By.out.store3 (.slice A9 n9 c9) (.int .i64 yq.per) (.int .i64 yq.inc))
  have Bx := Lib.hid (Bx.out.far3d (g := Zy) (by omega) (.slice A9 n9 c9) (.int .i64 yq.per) (.int .i64 yq.inc))
  have Bz := Lib.hid (Bz.out.far3d (g := Zy) (by omega) (.slice A9 n9 c9) (.int .i64 yq.per) (.int .i64 yq.inc))
  have Vx := Lib.hid (Vx.out.far3 XO2.out (.slice A9 n9 c9) (.int .i64 yq.per) (.int .i64 yq.inc))
  have Vy := Lib.hid (Vy.out.far3 YO2.out (.slice A9 n9 c9) (.int .i64 yq.per) (.int .i64 yq.inc))
  generalize hwe : ((wc.setCell ⟨Zy, 0, none⟩ (.slice A9 n9 c9)).setCell ⟨Zy, 1, none⟩ (.int .i64 yq.per)).setCell ⟨Zy, 2, none⟩ (.int .i64 yq.inc) = wd at *
  clear hwe XO2 YO2
  rcases RES.out with ⟨rfl, rfl, ox, oy, hres⟩ | ⟨rfl, rfl, _, _⟩
  · have HRES := Lib.hid hres
    clear ox oy hres RES
    obtain ⟨⟨x0, x1, x2⟩, ⟨x3, x4, x5⟩, hlx⟩ := Bx.out.c3
    go_wp2_with fail
    refine (pscale_any A8 n8 c8 xq.per xq.inc K xq.vals _ (by exact Vx.out.ints) (by omega)).mono ?_
    -- a curve is returned and laid into a new variable: wf the world, zq the curve, m2 its error, AA nn cc
    rintro e wf ⟨zq, m2, hSS, AA, nn, cc, rfl, hI, hA, hb⟩
    obtain ⟨rfl, rfl⟩ := HRES.out _ _ hSS
    have hnn : nn = n9 := by
      have h1 : zq.vals.length = n9 := Vy.out.ints.1
      have h2 : zq.vals.length = nn := hI.1
      omega
    have hq3 := Bz.out.lt; have hps := E.out.s.lt
    have ZO3 := Lib.hid (CR.Off.of_ge (x := ⟨AA, nn, cc, zq⟩) hA hq3)
    have Vz := Lib.hid (show (CR.mk AA nn cc zq).In w.heap.size wf from CR.In.new hI hA hps)
    have E := Lib.hid (E.out.below hb)
    have Vy := Lib.hid (Vy.out.below hb)
    have By := Lib.hid (By.out.below hb By.out.lt); have Bz := Lib.hid (Bz.out.below hb Bz.out.lt)
    have hnn2 : nn ≤ 400 := by omega
    clear hSS hI hA hb hps hq3 hnn Bx
    clear x0 x1 x2 x3 x4 x5 hlx
    obtain ⟨⟨x0, x1, x2⟩, ⟨x3, x4, x5⟩, hlx⟩ := Bz.out.c3
    go_upto_region 17 with fail
    clear x0 x1 x2 x3 x4 x5 hlx
    have E := Lib.hid (E.out.far3 (Nat.le_of_lt hpz) hpz APz.out (.slice AA nn cc) (.int .i64 zq.per) (.int .i64 zq.inc))
    have Bz := Lib.hid (Bz.out.store3 (.slice AA nn cc) (.int .i64 zq.per) (.int .i64 zq.inc))
    have By := Lib.hid (By.out.far3d (g := Zz) (by omega) (.slice AA nn cc) (.int .i64 zq.per) (.int .i64 zq.inc))
    have Vy := Lib.hid (Vy.out.far3 YO3.out (.slice AA nn cc) (.int .i64 zq.per) (.int .i64 zq.inc))
    have Vz := Lib.hid (Vz.out.far3 ZO3.out (.slice AA nn cc) (.int .i64 zq.per) (.int .i64 zq.inc))
    generalize hwe : ((wf.setCell ⟨Zz, 0, none⟩ (.slice AA nn cc)).setCell ⟨Zz, 1, none⟩ (.int .i64 zq.per)).setCell ⟨Zz, 2, none⟩ (.int .i64 zq.inc) = wg at *
    clear hwe ZO3 YO3
    obtain ⟨⟨y0, y1, y2⟩, ⟨y3, y4, y5⟩, hly⟩ := By.out.c3
    obtain ⟨⟨x0, x1, x2⟩, ⟨x3, x4, x5⟩, hlx⟩ := Bz.out.c3
    go_wp2_with fail
    refine (refSame_any A9 AA n9 nn c9 cc zq.per zq.per zq.inc zq.inc zq.vals zq.vals _ (by exact Vy.out.ints) (by exact Vz.out.ints) (by omega) (by omega)).mono ?_
    rw [(Cv.same_iff _ _).2 rfl]
    rintro e wh ⟨rfl, hb⟩
    have E := Lib.hid (E.out.below hb)
    clear hb By Bz
    clear x0 x1 x2 x3 x4 x5 hlx
    clear y0 y1 y2 y3 y4 y5 hly
    go_wp2_with fail
    refine (awake5_any _).mono ?_
    rintro e wq ⟨rfl, hb⟩
    have bw := (E.out.below hb).fin
    go_wp2_with fail
    go_ret
    exact ⟨rfl, bw⟩
  · clear RES
    go_wp2_with fail
    refine (awake5_any _).mono ?_
    rintro e wq ⟨rfl, hb⟩
    have bw := (E.out.below hb).fin
    go_wp2_with fail
    go_ret
    exact ⟨rfl, bw⟩
end Go.Proofs.Ytmieikfmbnaoaaa
