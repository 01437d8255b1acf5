/- The statement PointwiseLattice: the walk. -/
import Derived.Test.YtmieikfmbnaoaaaAwake5
import Derived.Test.YtmieikfmbnaoaaaEnvL2
import Derived.Test.YtmieikfmbnaoaaaRefExc
import Derived.Test.YtmieikfmbnaoaaaLatPw
import Derived.Deep.LoopGhost
import Derived.Deep.DeepCutAuto
namespace Go.Proofs.Ytmieikfmbnaoaaa
open Go.RowKit
set_option linter.unusedVariables false

theorem EnvL.take_ {p : Nat} {w0 w : World} {vs us : List (Nat × CR)} (h : EnvL p w0 w (vs ++ us)) : EnvL p w0 w vs := ⟨h.s, h.k, fun x hx => h.v x (List.mem_append_left _ hx)⟩
theorem EnvL.add {p : Nat} {w0 w : World} {vs : List (Nat × CR)} {F : Nat} {X : CR} (h : EnvL p w0 w vs) (hl : Lc p w F X) : EnvL p w0 w (vs ++ [(F, X)]) := ⟨h.s, h.k, fun x hx => by
  rcases List.mem_append.1 hx with hx | hx
  · exact h.v x hx
  · simp only [List.mem_singleton] at hx
    subst hx
    exact hl⟩
theorem atM_of' {f g : Cv} (hf : f.Ok) (hg : g.Ok) (h : LEC f g) : AtM f g true := .inl ⟨hf, hg, ⟨fun _ => h.up, fun _ => rfl⟩⟩
set_option maxHeartbeats 8000000 in
set_option maxRecDepth 100000 in
theorem latLaw_any (A0 : Option Addr) (n0 c0 : Nat) (L : List Int) (w : World) (hL : Ints w w.heap.size A0 n0 L) (hc0 : n0 ≤ c0) (hn0 : (n0 : Int) ≤ 9223372036854775807) :
    Calls Try.prog 9 #[.slice A0 n0 c0] w fun e w' => e = .returned (.bool true) ∧ Below w.heap.size w w' := by
  go_enter Try.func9, Try.ntmps9
  go_wp2_with fail
  refine (new_any A0 n0 c0 L w hL hc0 hn0).mono ?_
  rintro e w1 ⟨rfl, hS1, hb1⟩
  have E := Lib.hid (EnvL.start hS1 hb1)
  clear hL hS1 hb1
  -- a curve drawn, not yet in a variable: srcCurve2_any the contract, 4 most, _ w2 the worlds, f the curve, A n c, DrawC 4 f its facts
  go_wp2_with fail
  refine (srcCurve2_any w.heap.size 4 _ (by exact E.out.s) (by omega) (by omega)).mono ?_
  rintro e w2 ⟨f, A, n, c, hD, hcf, rfl, hI, hA, hS, hk⟩
  have hps := E.out.s.lt
  have E := Lib.hid (E.out.kept hS hk)
  have Vf := Lib.hid (show (CR.mk A n c f).In w.heap.size w2 from CR.In.new hI hA hps)
  have Hf := Lib.hid (show DrawC 4 f from hD)
  have HCf := Lib.hid hcf
  have hlenf := hI.1
  try simp only at hlenf
  have hnf : n ≤ 20 := by have h1 := Hf.out.len; omega
  clear hlenf
  clear hD hI hA hS hk hps hcf
  -- a curve drawn, not yet in a variable: srcCurve2_any the contract, 4 most, _ w3 the worlds, g the curve, B m d, DrawC 4 g its facts
  go_wp2_with fail
  refine (srcCurve2_any w.heap.size 4 _ (by exact E.out.s) (by omega) (by omega)).mono ?_
  rintro e w3 ⟨g, B, m, d, hD, hcf, rfl, hI, hA, hS, hk⟩
  have hps := E.out.s.lt
  have E := Lib.hid (E.out.kept hS hk)
  have Vg := Lib.hid (show (CR.mk B m d g).In w.heap.size w3 from CR.In.new hI hA hps)
  have Hg := Lib.hid (show DrawC 4 g from hD)
  have HCg := Lib.hid hcf
  have hleng := hI.1
  try simp only at hleng
  have hmg : m ≤ 20 := by have h1 := Hg.out.len; omega
  clear hleng
  have Vf := Lib.hid (Vf.out.kept hk)
  clear hD hI hA hS hk hps hcf
  -- a curve drawn, not yet in a variable: srcCurve2_any the contract, 4 most, _ w4 the worlds, h the curve, D k q, DrawC 4 h its facts
  go_wp2_with fail
  refine (srcCurve2_any w.heap.size 4 _ (by exact E.out.s) (by omega) (by omega)).mono ?_
  rintro e w4 ⟨h, D, k, q, hD, hcf, rfl, hI, hA, hS, hk⟩
  have hps := E.out.s.lt
  have E := Lib.hid (E.out.kept hS hk)
  have Vh := Lib.hid (show (CR.mk D k q h).In w.heap.size w4 from CR.In.new hI hA hps)
  have Hh := Lib.hid (show DrawC 4 h from hD)
  have HCh := Lib.hid hcf
  have hlenh := hI.1
  try simp only at hlenh
  have hkh : k ≤ 20 := by have h1 := Hh.out.len; omega
  clear hlenh
  have Vf := Lib.hid (Vf.out.kept hk)
  have Vg := Lib.hid (Vg.out.kept hk)
  clear hD hI hA hS hk hps hcf
  have E := Lib.hid (show EnvL w.heap.size w _ _ from E.out.push (X := ⟨A, n, c, f⟩) Vf.out)
  dsimp only [List.cons_append, List.nil_append] at E
  have Vg := Lib.hid (Vg.out.alloc (.cells #[.slice A n c, .int .i64 f.per, .int .i64 f.inc] 41))
  have Vh := Lib.hid (Vh.out.alloc (.cells #[.slice A n c, .int .i64 f.per, .int .i64 f.inc] 41))
  have E := Lib.hid (show EnvL w.heap.size w _ _ from E.out.push (X := ⟨B, m, d, g⟩) Vg.out)
  dsimp only [List.cons_append, List.nil_append] at E
  have Vh := Lib.hid (Vh.out.alloc (.cells #[.slice B m d, .int .i64 g.per, .int .i64 g.inc] 41))
  have E := Lib.hid (show EnvL w.heap.size w _ _ from E.out.push (X := ⟨D, k, q, h⟩) Vh.out)
  dsimp only [List.cons_append, List.nil_append] at E
  clear Vf Vg Vh
  go_upto_region 3 with fail
  generalize hwe : ((w4.alloc (.cells #[.slice A n c, .int .i64 f.per, .int .i64 f.inc] 41)).alloc (.cells #[.slice B m d, .int .i64 g.per, .int .i64 g.inc] 41)).alloc (.cells #[.slice D k q, .int .i64 h.per, .int .i64 h.inc] 41) = we at *
  clear hwe
  simp only [World.size_alloc] at E
  have SF := Lib.hid (show Short f g from nf_pair Hf.out.ok Hg.out.ok (n := 12) (by omega) (by omega) (fun a ha => Hf.out.dvd ha) (fun b hb => Hg.out.dvd hb))
  have SG := Lib.hid (show Short g f from nf_pair Hg.out.ok Hf.out.ok (n := 12) (by omega) (by omega) (fun a ha => Hg.out.dvd ha) (fun b hb => Hf.out.dvd hb))
  -- pmin_any: pmin_any or pmax_any
  obtain ⟨x0, x1, x2, hlx⟩ := (E.out.get 0 rfl).cells
  obtain ⟨y0, y1, y2, hly⟩ := (E.out.get 1 rfl).cells
  go_wp2_with fail
  refine (pmin_any A B n m c d f.per f.inc g.per g.inc f.vals g.vals _ (by exact (E.out.get 0 rfl).inn.ints) (by exact (E.out.get 1 rfl).inn.ints) (by omega) (by omega)).mono ?_
  -- a curve is returned and laid into a new variable: w5 the world, a the curve, er1 its error, A1 n1 c1
  rintro e w5 ⟨a, er1, hSS, A1, n1, c1, rfl, hI, hA, hb⟩
  have S1 := Lib.hid hSS
  have hn1 : n1 ≤ 400 := by have h1 := hSS.len; have h2 : a.vals.length = n1 := hI.1; omega
  have M1 := Lib.hid ((ExtS.made Hf.out.ok Hg.out.ok SF.out hSS).get (exV_up Hf.out.ok Hg.out.ok))
  have hps := E.out.s.lt
  have E := Lib.hid (show EnvL w.heap.size w _ _ from (E.out.below hb).push (X := ⟨A1, n1, c1, a⟩) (CR.In.new hI hA hps))
  dsimp only [List.cons_append, List.nil_append] at E
  clear hSS hI hA hb hps
  clear x0 x1 x2 hlx
  clear y0 y1 y2 hly
  -- pmin_any: pmin_any or pmax_any
  obtain ⟨x0, x1, x2, hlx⟩ := (E.out.get 1 rfl).cells
  obtain ⟨y0, y1, y2, hly⟩ := (E.out.get 0 rfl).cells
  go_wp2_with fail
  refine (pmin_any B A m n d c g.per g.inc f.per f.inc g.vals f.vals _ (by exact (E.out.get 1 rfl).inn.ints) (by exact (E.out.get 0 rfl).inn.ints) (by omega) (by omega)).mono ?_
  -- a curve is returned and laid into a new variable: w6 the world, b the curve, er2 its error, A2 n2 c2
  rintro e w6 ⟨b, er2, hSS, A2, n2, c2, rfl, hI, hA, hb⟩
  have S2 := Lib.hid hSS
  have hn2 : n2 ≤ 400 := by have h1 := hSS.len; have h2 : b.vals.length = n2 := hI.1; omega
  have EQ := Lib.hid ((ExtS.made Hf.out.ok Hg.out.ok SF.out S1.out).unique (by have h1 := ExtS.made Hg.out.ok Hf.out.ok SG.out hSS; rw [exV_comm] at h1; exact h1))
  have hps := E.out.s.lt
  have E := Lib.hid (show EnvL w.heap.size w _ _ from (E.out.below hb).push (X := ⟨A2, n2, c2, b⟩) (CR.In.new hI hA hps))
  dsimp only [List.cons_append, List.nil_append] at E
  clear hSS hI hA hb hps
  clear x0 x1 x2 hlx
  clear y0 y1 y2 hly
  obtain ⟨hab, hee⟩ := EQ.out
  subst hab
  subst hee
  clear S2 EQ
  -- pmax_any: pmin_any or pmax_any
  obtain ⟨x0, x1, x2, hlx⟩ := (E.out.get 0 rfl).cells
  obtain ⟨y0, y1, y2, hly⟩ := (E.out.get 1 rfl).cells
  go_wp2_with fail
  refine (pmax_any A B n m c d f.per f.inc g.per g.inc f.vals g.vals _ (by exact (E.out.get 0 rfl).inn.ints) (by exact (E.out.get 1 rfl).inn.ints) (by omega) (by omega)).mono ?_
  -- a curve is returned and laid into a new variable: w7 the world, cc the curve, er3 its error, A3 n3 c3
  rintro e w7 ⟨cc, er3, hSS, A3, n3, c3, rfl, hI, hA, hb⟩
  have S3 := Lib.hid hSS
  have hn3 : n3 ≤ 400 := by have h1 := hSS.len; have h2 : cc.vals.length = n3 := hI.1; omega
  have M3 := Lib.hid ((ExtS.made Hf.out.ok Hg.out.ok SF.out hSS).get (exV_up Hf.out.ok Hg.out.ok))
  have hps := E.out.s.lt
  have E := Lib.hid (show EnvL w.heap.size w _ _ from (E.out.below hb).push (X := ⟨A3, n3, c3, cc⟩) (CR.In.new hI hA hps))
  dsimp only [List.cons_append, List.nil_append] at E
  clear hSS hI hA hb hps
  clear x0 x1 x2 hlx
  clear y0 y1 y2 hly
  obtain ⟨x0, x1, x2, hlx⟩ := (E.out.get 3 rfl).cells
  obtain ⟨y0, y1, y2, hly⟩ := (E.out.get 4 rfl).cells
  go_wp2_with fail
  refine (refSame_any A1 A2 n1 n2 c1 c2 a.per a.per a.inc a.inc a.vals a.vals _ (by exact (E.out.get 3 rfl).inn.ints) (by exact (E.out.get 4 rfl).inn.ints) (by omega) (by omega)).mono ?_
  rw [(Cv.same_iff _ _).2 rfl]
  rintro e ws ⟨rfl, hb⟩
  have E := Lib.hid (E.out.below hb)
  clear hb
  clear x0 x1 x2 hlx
  clear y0 y1 y2 hly
  have hr1 : er1 = 0 ∨ er1 = 3 := M1.out.elim (fun h => .inl h.1) (fun h => .inr h.1)
  have hr3 : er3 = 0 ∨ er3 = 3 := M3.out.elim (fun h => .inl h.1) (fun h => .inr h.1)
  by_cases hok : er1 = 0 ∧ er3 = 0
  · obtain ⟨rfl, rfl⟩ := hok
    have K1 := Lib.hid S1.out.ok0; have K3 := Lib.hid S3.out.ok0
    have T1 := Lib.hid (atM_of' K1.out.2.2.1 Hf.out.ok (min_le1 Hf.out.ok Hg.out.ok K1.out.2.2.1 K1.out.2.2.2.ats))
    have T2 := Lib.hid (atM_of' K1.out.2.2.1 Hg.out.ok (min_le2 Hf.out.ok Hg.out.ok K1.out.2.2.1 K1.out.2.2.2.ats))
    have T3 := Lib.hid (atM_of' Hf.out.ok K3.out.2.2.1 (le_max1 Hf.out.ok Hg.out.ok K3.out.2.2.1 K3.out.2.2.2.ats))
    have T4 := Lib.hid (atM_of' Hg.out.ok K3.out.2.2.1 (le_max2 Hf.out.ok Hg.out.ok K3.out.2.2.1 K3.out.2.2.2.ats))
    clear hr1 hr3 M1 M3 S1 S3 K1 K3
    obtain ⟨x0, x1, x2, hlx⟩ := (E.out.get 3 rfl).cells
    obtain ⟨y0, y1, y2, hly⟩ := (E.out.get 0 rfl).cells
    go_wp2_with fail
    -- AtMost of two variables that is known to be true: A1 n1 c1 a the first, A n c f the second, 3 0 their places, T1 the fact
    refine (refAtMost_any A1 A n1 n c1 c a.per a.inc f.per f.inc a.vals f.vals _ (by exact (E.out.get 3 rfl).inn.ints) (by exact (E.out.get 0 rfl).inn.ints) (by omega) (by omega)).mono ?_
    intro e wz hr
    obtain ⟨rfl, hb⟩ := RetM.of T1.out hr
    have E := Lib.hid (E.out.below hb)
    clear hr hb
    clear x0 x1 x2 hlx
    clear y0 y1 y2 hly
    obtain ⟨x0, x1, x2, hlx⟩ := (E.out.get 3 rfl).cells
    obtain ⟨y0, y1, y2, hly⟩ := (E.out.get 1 rfl).cells
    go_wp2_with fail
    -- AtMost of two variables that is known to be true: A1 n1 c1 a the first, B m d g the second, 3 1 their places, T2 the fact
    refine (refAtMost_any A1 B n1 m c1 d a.per a.inc g.per g.inc a.vals g.vals _ (by exact (E.out.get 3 rfl).inn.ints) (by exact (E.out.get 1 rfl).inn.ints) (by omega) (by omega)).mono ?_
    intro e wz hr
    obtain ⟨rfl, hb⟩ := RetM.of T2.out hr
    have E := Lib.hid (E.out.below hb)
    clear hr hb
    clear x0 x1 x2 hlx
    clear y0 y1 y2 hly
    obtain ⟨x0, x1, x2, hlx⟩ := (E.out.get 0 rfl).cells
    obtain ⟨y0, y1, y2, hly⟩ := (E.out.get 5 rfl).cells
    go_wp2_with fail
    -- AtMost of two variables that is known to be true: A n c f the first, A3 n3 c3 cc the second, 0 5 their places, T3 the fact
    refine (refAtMost_any A A3 n n3 c c3 f.per f.inc cc.per cc.inc f.vals cc.vals _ (by exact (E.out.get 0 rfl).inn.ints) (by exact (E.out.get 5 rfl).inn.ints) (by omega) (by omega)).mono ?_
    intro e wz hr
    obtain ⟨rfl, hb⟩ := RetM.of T3.out hr
    have E := Lib.hid (E.out.below hb)
    clear hr hb
    clear x0 x1 x2 hlx
    clear y0 y1 y2 hly
    obtain ⟨x0, x1, x2, hlx⟩ := (E.out.get 1 rfl).cells
    obtain ⟨y0, y1, y2, hly⟩ := (E.out.get 5 rfl).cells
    go_wp2_with fail
    -- AtMost of two variables that is known to be true: B m d g the first, A3 n3 c3 cc the second, 1 5 their places, T4 the fact
    refine (refAtMost_any B A3 m n3 d c3 g.per g.inc cc.per cc.inc g.vals cc.vals _ (by exact (E.out.get 1 rfl).inn.ints) (by exact (E.out.get 5 rfl).inn.ints) (by omega) (by omega)).mono ?_
    intro e wz hr
    obtain ⟨rfl, hb⟩ := RetM.of T4.out hr
    have E := Lib.hid (E.out.below hb)
    clear hr hb
    clear x0 x1 x2 hlx
    clear y0 y1 y2 hly
    clear T1 T2 T3 T4
    have hT0 := E.out.s.lt
    have TB := Lib.hid (Blk.new wz 4 #[.bool true, .bool false])
    have E := Lib.hid (E.out.alloc (.cells #[.bool true, .bool false] 4))
    go_wp2_with fail
    generalize hwe : wz.alloc (.cells #[.bool true, .bool false] 4) = wl at *
    clear hwe
    generalize wz.heap.size = T0 at TB ⊢
    go_loopg [14, 15, 16, 17, 18, 19, 20, 21, 22, 23, 24, 117] 2 (fun gg s14 s15 s16 s17 s18 s19 s20 s21 s22 s23 s24 s117 wx => ∃ i : Nat, i + gg = 2 ∧ s117 = .int .i64 i ∧ EnvL w.heap.size w wx [(w4.heap.size, ⟨A, n, c, f⟩), (w4.heap.size + 1, ⟨B, m, d, g⟩), (w4.heap.size + 1 + 1, ⟨D, k, q, h⟩), (w5.heap.size, ⟨A1, n1, c1, a⟩), (w6.heap.size, ⟨A2, n2, c2, a⟩), (w7.heap.size, ⟨A3, n3, c3, cc⟩)] ∧ Blk wx T0 4 #[.bool true, .bool false])
    case atStart => exact ⟨0, by omega, rfl, E.out, TB.out⟩
    case round =>
      clear E TB
      obtain ⟨i, hig, rfl, hE, hTB⟩ := hrel
      have E := Lib.hid hE; have TB := Lib.hid hTB
      clear hE hTB
      by_cases hi : i < 2
      · have hii : (i : Int) < 2 := by omega
        obtain ⟨l, hl⟩ : ∃ l : Bool, wr.cell? ⟨T0, i, none⟩ = some (.bool l) := by
          have : i = 0 ∨ i = 1 := by omega
          rcases this with rfl | rfl
          · exact ⟨true, by have := TB.out.cell 0; simpa using this⟩
          · exact ⟨false, by have := TB.out.cell 1; simpa using this⟩
        have htl := TB.out.lt
        -- pmax_any: pmin_any or pmax_any
        obtain ⟨x0, x1, x2, hlx⟩ := (E.out.get 1 rfl).cells
        obtain ⟨y0, y1, y2, hly⟩ := (E.out.get 2 rfl).cells
        go_wp2_with fail
        refine (pmax_any B D m k d q g.per g.inc h.per h.inc g.vals h.vals _ (by exact (E.out.get 1 rfl).inn.ints) (by exact (E.out.get 2 rfl).inn.ints) (by omega) (by omega)).mono ?_
        -- a curve is returned and laid into a new variable: w8 the world, xa the curve, p0 its error, A5 n5 c5
        rintro e w8 ⟨xa, p0, hSS, A5, n5, c5, rfl, hI, hA, hb⟩
        have S4 := Lib.hid hSS
        have hn5 : n5 ≤ 400 := by have h1 := hSS.len; have h2 : xa.vals.length = n5 := hI.1; omega
        -- the curve xa (A5 n5 c5) is returned in w8 and laid into a new variable that is to be overwritten
        have hps := E.out.s.lt
        have E := Lib.hid (E.out.below hb)
        have hzp := E.out.s.lt
        have AP1 := Lib.hid E.out.apart
        have hTZ0 : T0 < w8.heap.size := (TB.out.below hb TB.out.lt).lt
        have VX := Lib.hid (show (CR.mk A5 n5 c5 xa).In w.heap.size _ from (CR.In.new (x := ⟨A5, n5, c5, xa⟩) hI hA hps).alloc (.cells #[.slice A5 n5 c5, .int .i64 xa.per, .int .i64 xa.inc] 41))
        have BX := Lib.hid (Blk.new w8 41 #[.slice A5 n5 c5, .int .i64 xa.per, .int .i64 xa.inc])
        have TB := Lib.hid ((TB.out.below hb TB.out.lt).alloc (.cells #[.slice A5 n5 c5, .int .i64 xa.per, .int .i64 xa.inc] 41))
        have E := Lib.hid (E.out.alloc (.cells #[.slice A5 n5 c5, .int .i64 xa.per, .int .i64 xa.inc] 41))
        clear hSS hI hA hb hps
        go_upto_region 16 with fail
        clear x0 x1 x2 hlx
        clear y0 y1 y2 hly
        generalize hwe : w8.alloc (.cells #[.slice A5 n5 c5, .int .i64 xa.per, .int .i64 xa.inc] 41) = wf at *
        clear hwe
        go_upto_if 127 with fail
        go_cut [16] (fun s16 wx => ∃ (x : Cv) (A6 : Option Addr) (n6 c6 : Nat) (p : Int), s16 = .int .i64 p ∧ ExtS l g h x p ∧ n6 ≤ 400 ∧ EnvL w.heap.size w wx ([(w4.heap.size, ⟨A, n, c, f⟩), (w4.heap.size + 1, ⟨B, m, d, g⟩), (w4.heap.size + 1 + 1, ⟨D, k, q, h⟩), (w5.heap.size, ⟨A1, n1, c1, a⟩), (w6.heap.size, ⟨A2, n2, c2, a⟩), (w7.heap.size, ⟨A3, n3, c3, cc⟩)] ++ [(w8.heap.size, ⟨A6, n6, c6, x⟩)]) ∧ Blk wx T0 4 #[.bool true, .bool false])
        case first =>
          cases l
          case false =>
            go_wp2_with fail
            go_meet
            exact ⟨xa, A5, n5, c5, p0, rfl, S4.out, hn5, E.out.add ⟨BX.out, VX.out, by show w8.heap.size ≠ w.heap.size; omega⟩, TB.out⟩
          case true =>
            clear VX
            -- pmin_any: pmin_any or pmax_any
            obtain ⟨x0, x1, x2, hlx⟩ := (E.out.get 1 rfl).cells
            obtain ⟨y0, y1, y2, hly⟩ := (E.out.get 2 rfl).cells
            go_wp2_with fail
            refine (pmin_any B D m k d q g.per g.inc h.per h.inc g.vals h.vals _ (by exact (E.out.get 1 rfl).inn.ints) (by exact (E.out.get 2 rfl).inn.ints) (by omega) (by omega)).mono ?_
            -- a curve is returned and laid into a new variable: w9 the world, xb the curve, p1 its error, A7 n7 c7
            rintro e w9 ⟨xb, p1, hSS, A7, n7, c7, rfl, hI, hA, hb⟩
            have S5 := Lib.hid hSS
            have hn7 : n7 ≤ 400 := by have h1 := hSS.len; have h2 : xb.vals.length = n7 := hI.1; omega
            -- the curve xb (A7 n7 c7) is returned in w9 and stored to the variable that was made in w8
            have hps := E.out.s.lt
            have hq1 := BX.out.lt
            have XO := CR.Off.of_ge (x := ⟨A7, n7, c7, xb⟩) hA hq1
            have VX := Lib.hid (show (CR.mk A7 n7 c7 xb).In w.heap.size w9 from CR.In.new hI hA hps)
            have E := Lib.hid (E.out.below hb)
            have BX := Lib.hid (BX.out.below hb BX.out.lt)
            have TB := Lib.hid (TB.out.below hb TB.out.lt)
            have hTZ : T0 ≠ w8.heap.size := by omega
            have E := Lib.hid (E.out.sto BX.out (Nat.le_of_lt hzp) hzp AP1.out VX.out XO)
            have TB := Lib.hid (((TB.out.far (p := ⟨w8.heap.size, 0, none⟩) hTZ (.slice A7 n7 c7)).far (p := ⟨w8.heap.size, 1, none⟩) hTZ (.int .i64 xb.per)).far (p := ⟨w8.heap.size, 2, none⟩) hTZ (.int .i64 xb.inc))
            clear hSS hI hA hb hps hq1
            clear x0 x1 x2 hlx
            clear y0 y1 y2 hly
            obtain ⟨⟨x0', x1', x2'⟩, ⟨x3', x4', x5'⟩, hlx'⟩ := BX.out.c3
            go_wp2_with fail
            go_meet
            exact ⟨xb, A7, n7, c7, p1, rfl, S5.out, hn7, E.out, TB.out⟩
        case rest =>
        clear E TB BX VX AP1 S4
        obtain ⟨x, A6, n6, c6, p, rfl, hS4, hn6, hE, hTB⟩ := hcut
        dsimp only [List.cons_append, List.nil_append] at hE
        have E := Lib.hid hE; have TB := Lib.hid hTB; have S4 := Lib.hid hS4
        clear hE hTB hS4
        -- Sum of the variables 0 and 6: A n c f; A6 n6 c6 x; the result left er6: A7 n7 c7 in wA; its fact is kept as S6
        obtain ⟨x0, x1, x2, hlx⟩ := (E.out.get 0 rfl).cells
        obtain ⟨y0, y1, y2, hly⟩ := (E.out.get 6 rfl).cells
        go_wp2_with fail
        refine (psum_any A A6 n n6 c c6 f.per f.inc x.per x.inc f.vals x.vals _ (by exact (E.out.get 0 rfl).inn.ints) (by exact (E.out.get 6 rfl).inn.ints) (by omega) (by omega)).mono ?_
        -- a curve is returned and laid into a new variable: wA the world, left the curve, er6 its error, A7 n7 c7
        rintro e wA ⟨left, er6, hSS, A7, n7, c7, rfl, hI, hA, hb⟩
        have S6 := Lib.hid hSS
        have hn7 : n7 ≤ 400 := by have h1 := hSS.len; have h2 : left.vals.length = n7 := hI.1; omega
        have TB := Lib.hid ((TB.out.below hb TB.out.lt).alloc (.cells #[.slice A7 n7 c7, .int .i64 left.per, .int .i64 left.inc] 41))
        have hps := E.out.s.lt
        have E := Lib.hid (show EnvL w.heap.size w _ _ from (E.out.below hb).push (X := ⟨A7, n7, c7, left⟩) (CR.In.new hI hA hps))
        dsimp only [List.cons_append, List.nil_append] at E
        clear hSS hI hA hb hps
        clear x0 x1 x2 hlx
        clear y0 y1 y2 hly
        -- Sum of the variables 0 and 1: A n c f; B m d g; the result u er7: A8 n8 c8 in wB; its fact is kept as S7
        obtain ⟨x0, x1, x2, hlx⟩ := (E.out.get 0 rfl).cells
        obtain ⟨y0, y1, y2, hly⟩ := (E.out.get 1 rfl).cells
        go_wp2_with fail
        refine (psum_any A B n m c d f.per f.inc g.per g.inc f.vals g.vals _ (by exact (E.out.get 0 rfl).inn.ints) (by exact (E.out.get 1 rfl).inn.ints) (by omega) (by omega)).mono ?_
        -- a curve is returned and laid into a new variable: wB the world, u the curve, er7 its error, A8 n8 c8
        rintro e wB ⟨u, er7, hSS, A8, n8, c8, rfl, hI, hA, hb⟩
        have S7 := Lib.hid hSS
        have hn8 : n8 ≤ 400 := by have h1 := hSS.len; have h2 : u.vals.length = n8 := hI.1; omega
        obtain ⟨rfl, _, _, _⟩ := sum_tame (by omega) (by omega) Hf.out Hg.out hSS
        have TB := Lib.hid ((TB.out.below hb TB.out.lt).alloc (.cells #[.slice A8 n8 c8, .int .i64 u.per, .int .i64 u.inc] 41))
        have hps := E.out.s.lt
        have E := Lib.hid (show EnvL w.heap.size w _ _ from (E.out.below hb).push (X := ⟨A8, n8, c8, u⟩) (CR.In.new hI hA hps))
        dsimp only [List.cons_append, List.nil_append] at E
        clear hSS hI hA hb hps
        clear x0 x1 x2 hlx
        clear y0 y1 y2 hly
        -- Sum of the variables 0 and 2: A n c f; D k q h; the result v er8: A9 n9 c9 in wC; its fact is kept as S8
        obtain ⟨x0, x1, x2, hlx⟩ := (E.out.get 0 rfl).cells
        obtain ⟨y0, y1, y2, hly⟩ := (E.out.get 2 rfl).cells
        go_wp2_with fail
        refine (psum_any A D n k c q f.per f.inc h.per h.inc f.vals h.vals _ (by exact (E.out.get 0 rfl).inn.ints) (by exact (E.out.get 2 rfl).inn.ints) (by omega) (by omega)).mono ?_
        -- a curve is returned and laid into a new variable: wC the world, v the curve, er8 its error, A9 n9 c9
        rintro e wC ⟨v, er8, hSS, A9, n9, c9, rfl, hI, hA, hb⟩
        have S8 := Lib.hid hSS
        have hn9 : n9 ≤ 400 := by have h1 := hSS.len; have h2 : v.vals.length = n9 := hI.1; omega
        obtain ⟨rfl, _, _, _⟩ := sum_tame (by omega) (by omega) Hf.out Hh.out hSS
        have TB := Lib.hid ((TB.out.below hb TB.out.lt).alloc (.cells #[.slice A9 n9 c9, .int .i64 v.per, .int .i64 v.inc] 41))
        have hps := E.out.s.lt
        have E := Lib.hid (show EnvL w.heap.size w _ _ from (E.out.below hb).push (X := ⟨A9, n9, c9, v⟩) (CR.In.new hI hA hps))
        dsimp only [List.cons_append, List.nil_append] at E
        clear hSS hI hA hb hps
        clear x0 x1 x2 hlx
        clear y0 y1 y2 hly
        -- pmax_any: pmin_any or pmax_any
        obtain ⟨x0, x1, x2, hlx⟩ := (E.out.get 8 rfl).cells
        obtain ⟨y0, y1, y2, hly⟩ := (E.out.get 9 rfl).cells
        go_wp2_with fail
        refine (pmax_any A8 A9 n8 n9 c8 c9 u.per u.inc v.per v.inc u.vals v.vals _ (by exact (E.out.get 8 rfl).inn.ints) (by exact (E.out.get 9 rfl).inn.ints) (by omega) (by omega)).mono ?_
        -- a curve is returned and laid into a new variable: wD the world, xa the curve, p0 its error, A5 n5 c5
        rintro e wD ⟨xa, p0, hSS, A5, n5, c5, rfl, hI, hA, hb⟩
        have S9 := Lib.hid hSS
        have hn5 : n5 ≤ 400 := by have h1 := hSS.len; have h2 : xa.vals.length = n5 := hI.1; omega
        -- the curve xa (A5 n5 c5) is returned in wD and laid into a new variable that is to be overwritten
        have hps := E.out.s.lt
        have E := Lib.hid (E.out.below hb)
        have hzp := E.out.s.lt
        have AP1 := Lib.hid E.out.apart
        have hTZ0 : T0 < wD.heap.size := (TB.out.below hb TB.out.lt).lt
        have VX := Lib.hid (show (CR.mk A5 n5 c5 xa).In w.heap.size _ from (CR.In.new (x := ⟨A5, n5, c5, xa⟩) hI hA hps).alloc (.cells #[.slice A5 n5 c5, .int .i64 xa.per, .int .i64 xa.inc] 41))
        have BX := Lib.hid (Blk.new wD 41 #[.slice A5 n5 c5, .int .i64 xa.per, .int .i64 xa.inc])
        have TB := Lib.hid ((TB.out.below hb TB.out.lt).alloc (.cells #[.slice A5 n5 c5, .int .i64 xa.per, .int .i64 xa.inc] 41))
        have E := Lib.hid (E.out.alloc (.cells #[.slice A5 n5 c5, .int .i64 xa.per, .int .i64 xa.inc] 41))
        clear hSS hI hA hb hps
        go_upto_region 22 with fail
        clear x0 x1 x2 hlx
        clear y0 y1 y2 hly
        generalize hwe : wD.alloc (.cells #[.slice A5 n5 c5, .int .i64 xa.per, .int .i64 xa.inc] 41) = wg at *
        clear hwe
        go_upto_if 158 with fail
        go_cut [24] (fun s24 wx => ∃ (r : Cv) (Aa : Option Addr) (na ca : Nat) (p : Int), s24 = .int .i64 p ∧ ExtS l u v r p ∧ na ≤ 400 ∧ EnvL w.heap.size w wx ([(w4.heap.size, ⟨A, n, c, f⟩), (w4.heap.size + 1, ⟨B, m, d, g⟩), (w4.heap.size + 1 + 1, ⟨D, k, q, h⟩), (w5.heap.size, ⟨A1, n1, c1, a⟩), (w6.heap.size, ⟨A2, n2, c2, a⟩), (w7.heap.size, ⟨A3, n3, c3, cc⟩), (w8.heap.size, ⟨A6, n6, c6, x⟩), (wA.heap.size, ⟨A7, n7, c7, left⟩), (wB.heap.size, ⟨A8, n8, c8, u⟩), (wC.heap.size, ⟨A9, n9, c9, v⟩)] ++ [(wD.heap.size, ⟨Aa, na, ca, r⟩)]) ∧ Blk wx T0 4 #[.bool true, .bool false])
        case first =>
          cases l
          case false =>
            go_wp2_with fail
            go_meet
            exact ⟨xa, A5, n5, c5, p0, rfl, S9.out, hn5, E.out.add ⟨BX.out, VX.out, by show wD.heap.size ≠ w.heap.size; omega⟩, TB.out⟩
          case true =>
            clear VX
            -- pmin_any: pmin_any or pmax_any
            obtain ⟨x0, x1, x2, hlx⟩ := (E.out.get 8 rfl).cells
            obtain ⟨y0, y1, y2, hly⟩ := (E.out.get 9 rfl).cells
            go_wp2_with fail
            refine (pmin_any A8 A9 n8 n9 c8 c9 u.per u.inc v.per v.inc u.vals v.vals _ (by exact (E.out.get 8 rfl).inn.ints) (by exact (E.out.get 9 rfl).inn.ints) (by omega) (by omega)).mono ?_
            -- a curve is returned and laid into a new variable: wE the world, xb the curve, p1 its error, Aa na ca
            rintro e wE ⟨xb, p1, hSS, Aa, na, ca, rfl, hI, hA, hb⟩
            have S5 := Lib.hid hSS
            have hna : na ≤ 400 := by have h1 := hSS.len; have h2 : xb.vals.length = na := hI.1; omega
            -- the curve xb (Aa na ca) is returned in wE and stored to the variable that was made in wD
            have hps := E.out.s.lt
            have hq1 := BX.out.lt
            have XO := CR.Off.of_ge (x := ⟨Aa, na, ca, xb⟩) hA hq1
            have VX := Lib.hid (show (CR.mk Aa na ca xb).In w.heap.size wE from CR.In.new hI hA hps)
            have E := Lib.hid (E.out.below hb)
            have BX := Lib.hid (BX.out.below hb BX.out.lt)
            have TB := Lib.hid (TB.out.below hb TB.out.lt)
            have hTZ : T0 ≠ wD.heap.size := by omega
            have E := Lib.hid (E.out.sto BX.out (Nat.le_of_lt hzp) hzp AP1.out VX.out XO)
            have TB := Lib.hid (((TB.out.far (p := ⟨wD.heap.size, 0, none⟩) hTZ (.slice Aa na ca)).far (p := ⟨wD.heap.size, 1, none⟩) hTZ (.int .i64 xb.per)).far (p := ⟨wD.heap.size, 2, none⟩) hTZ (.int .i64 xb.inc))
            clear hSS hI hA hb hps hq1
            clear x0 x1 x2 hlx
            clear y0 y1 y2 hly
            obtain ⟨⟨x0', x1', x2'⟩, ⟨x3', x4', x5'⟩, hlx'⟩ := BX.out.c3
            go_wp2_with fail
            go_meet
            exact ⟨xb, Aa, na, ca, p1, rfl, S5.out, hna, E.out, TB.out⟩
        case rest =>
        clear E TB BX VX AP1 S9
        obtain ⟨right, Aa, na, ca, p9, rfl, hS9, hna, hE, hTB⟩ := hcut
        dsimp only [List.cons_append, List.nil_append] at hE
        have E := Lib.hid hE; have TB := Lib.hid hTB; have S9 := Lib.hid hS9
        clear hE hTB hS9
        go_upto_region 24 with fail
        go_cut [188] (fun s188 wx => s188 = .bool false ∧ EnvL w.heap.size w wx [(w4.heap.size, ⟨A, n, c, f⟩), (w4.heap.size + 1, ⟨B, m, d, g⟩), (w4.heap.size + 1 + 1, ⟨D, k, q, h⟩), (w5.heap.size, ⟨A1, n1, c1, a⟩), (w6.heap.size, ⟨A2, n2, c2, a⟩), (w7.heap.size, ⟨A3, n3, c3, cc⟩)] ∧ Blk wx T0 4 #[.bool true, .bool false])
        case first =>
          by_cases hp : p = 0
          · subst hp
            by_cases hq : er6 = 0
            · subst hq
              by_cases hw : p9 = 0
              · subst hw
                have k4 := S4.out.ok0; have k6 := S6.out.ok0; have k7 := S7.out.ok0; have k8 := S8.out.ok0; have k9 := S9.out.ok0
                obtain rfl := lat_sum Hf.out.ok Hg.out.ok Hh.out.ok k4.2.2.1 k7.2.2.1 k8.2.2.1 k4.2.2.2.ats k7.2.2.2.ats k8.2.2.2.ats k6.2.2.2 k9.2.2.2
                clear k4 k6 k7 k8 k9 S4 S6 S7 S8 S9
                obtain ⟨x0, x1, x2, hlx⟩ := (E.out.get 7 rfl).cells
                obtain ⟨y0, y1, y2, hly⟩ := (E.out.get 10 rfl).cells
                go_wp2_with fail
                refine (refSame_any A7 Aa n7 na c7 ca left.per left.per left.inc left.inc left.vals left.vals _ (by exact (E.out.get 7 rfl).inn.ints) (by exact (E.out.get 10 rfl).inn.ints) (by omega) (by omega)).mono ?_
                rw [(Cv.same_iff _ _).2 rfl]
                rintro e ws ⟨rfl, hb⟩
                have E := Lib.hid (E.out.below hb)
                have TB := Lib.hid (TB.out.below hb TB.out.lt)
                clear hb
                clear x0 x1 x2 hlx
                clear y0 y1 y2 hly
                go_wp2_with fail
                go_meet
                exact ⟨rfl, EnvL.take_ (vs := [(w4.heap.size, ⟨A, n, c, f⟩), (w4.heap.size + 1, ⟨B, m, d, g⟩), (w4.heap.size + 1 + 1, ⟨D, k, q, h⟩), (w5.heap.size, ⟨A1, n1, c1, a⟩), (w6.heap.size, ⟨A2, n2, c2, a⟩), (w7.heap.size, ⟨A3, n3, c3, cc⟩)]) E.out, TB.out⟩
              · have g3 : (p9 == 0) = false := by simpa using hw
                clear hw
                go_wp2_with fail
                go_meet
                exact ⟨rfl, EnvL.take_ (vs := [(w4.heap.size, ⟨A, n, c, f⟩), (w4.heap.size + 1, ⟨B, m, d, g⟩), (w4.heap.size + 1 + 1, ⟨D, k, q, h⟩), (w5.heap.size, ⟨A1, n1, c1, a⟩), (w6.heap.size, ⟨A2, n2, c2, a⟩), (w7.heap.size, ⟨A3, n3, c3, cc⟩)]) E.out, TB.out⟩
            · have g2 : (er6 == 0) = false := by simpa using hq
              clear hq
              go_wp2_with fail
              go_meet
              exact ⟨rfl, EnvL.take_ (vs := [(w4.heap.size, ⟨A, n, c, f⟩), (w4.heap.size + 1, ⟨B, m, d, g⟩), (w4.heap.size + 1 + 1, ⟨D, k, q, h⟩), (w5.heap.size, ⟨A1, n1, c1, a⟩), (w6.heap.size, ⟨A2, n2, c2, a⟩), (w7.heap.size, ⟨A3, n3, c3, cc⟩)]) E.out, TB.out⟩
          · have g1 : (p == 0) = false := by simpa using hp
            clear hp
            go_wp2_with fail
            go_meet
            exact ⟨rfl, EnvL.take_ (vs := [(w4.heap.size, ⟨A, n, c, f⟩), (w4.heap.size + 1, ⟨B, m, d, g⟩), (w4.heap.size + 1 + 1, ⟨D, k, q, h⟩), (w5.heap.size, ⟨A1, n1, c1, a⟩), (w6.heap.size, ⟨A2, n2, c2, a⟩), (w7.heap.size, ⟨A3, n3, c3, cc⟩)]) E.out, TB.out⟩
        case rest =>
        clear E TB S4 S6 S7 S8 S9
        obtain ⟨rfl, hE, hTB⟩ := hcut
        have E := Lib.hid hE; have TB := Lib.hid hTB
        clear hE hTB
        go_wp2_with fail
        go_roundg (gk - 1)
        case measure => omega
        case rel => exact ⟨i + 1, by omega, by go_num, E.out, TB.out⟩
      · have hi2 : i = 2 := by omega
        subst hi2
        clear hi hig
        -- pmax_any: pmin_any or pmax_any
        obtain ⟨x0, x1, x2, hlx⟩ := (E.out.get 1 rfl).cells
        obtain ⟨y0, y1, y2, hly⟩ := (E.out.get 2 rfl).cells
        go_wp2_with fail
        refine (pmax_any B D m k d q g.per g.inc h.per h.inc g.vals h.vals _ (by exact (E.out.get 1 rfl).inn.ints) (by exact (E.out.get 2 rfl).inn.ints) (by omega) (by omega)).mono ?_
        -- a curve is returned and laid into a new variable: w8 the world, x the curve, p1 its error, A4 n4 c4
        rintro e w8 ⟨x, p1, hSS, A4, n4, c4, rfl, hI, hA, hb⟩
        have S1 := Lib.hid hSS
        have hn4 : n4 ≤ 400 := by have h1 := hSS.len; have h2 : x.vals.length = n4 := hI.1; omega
        have hps := E.out.s.lt
        have E := Lib.hid (show EnvL w.heap.size w _ _ from (E.out.below hb).push (X := ⟨A4, n4, c4, x⟩) (CR.In.new hI hA hps))
        dsimp only [List.cons_append, List.nil_append] at E
        clear hSS hI hA hb hps
        clear x0 x1 x2 hlx
        clear y0 y1 y2 hly
        -- pmin_any: pmin_any or pmax_any
        obtain ⟨x0, x1, x2, hlx⟩ := (E.out.get 0 rfl).cells
        obtain ⟨y0, y1, y2, hly⟩ := (E.out.get 6 rfl).cells
        go_wp2_with fail
        refine (pmin_any A A4 n n4 c c4 f.per f.inc x.per x.inc f.vals x.vals _ (by exact (E.out.get 0 rfl).inn.ints) (by exact (E.out.get 6 rfl).inn.ints) (by omega) (by omega)).mono ?_
        -- a curve is returned and laid into a new variable: w9 the world, left the curve, p2 its error, A5 n5 c5
        rintro e w9 ⟨left, p2, hSS, A5, n5, c5, rfl, hI, hA, hb⟩
        have S2 := Lib.hid hSS
        have hn5 : n5 ≤ 400 := by have h1 := hSS.len; have h2 : left.vals.length = n5 := hI.1; omega
        have hps := E.out.s.lt
        have E := Lib.hid (show EnvL w.heap.size w _ _ from (E.out.below hb).push (X := ⟨A5, n5, c5, left⟩) (CR.In.new hI hA hps))
        dsimp only [List.cons_append, List.nil_append] at E
        clear hSS hI hA hb hps
        clear x0 x1 x2 hlx
        clear y0 y1 y2 hly
        -- pmin_any: pmin_any or pmax_any
        obtain ⟨x0, x1, x2, hlx⟩ := (E.out.get 0 rfl).cells
        obtain ⟨y0, y1, y2, hly⟩ := (E.out.get 1 rfl).cells
        go_wp2_with fail
        refine (pmin_any A B n m c d f.per f.inc g.per g.inc f.vals g.vals _ (by exact (E.out.get 0 rfl).inn.ints) (by exact (E.out.get 1 rfl).inn.ints) (by omega) (by omega)).mono ?_
        -- a curve is returned and laid into a new variable: wA the world, u the curve, p3 its error, A6 n6 c6
        rintro e wA ⟨u, p3, hSS, A6, n6, c6, rfl, hI, hA, hb⟩
        have S3 := Lib.hid hSS
        have hn6 : n6 ≤ 400 := by have h1 := hSS.len; have h2 : u.vals.length = n6 := hI.1; omega
        have hps := E.out.s.lt
        have E := Lib.hid (show EnvL w.heap.size w _ _ from (E.out.below hb).push (X := ⟨A6, n6, c6, u⟩) (CR.In.new hI hA hps))
        dsimp only [List.cons_append, List.nil_append] at E
        clear hSS hI hA hb hps
        clear x0 x1 x2 hlx
        clear y0 y1 y2 hly
        -- pmin_any: pmin_any or pmax_any
        obtain ⟨x0, x1, x2, hlx⟩ := (E.out.get 0 rfl).cells
        obtain ⟨y0, y1, y2, hly⟩ := (E.out.get 2 rfl).cells
        go_wp2_with fail
        refine (pmin_any A D n k c q f.per f.inc h.per h.inc f.vals h.vals _ (by exact (E.out.get 0 rfl).inn.ints) (by exact (E.out.get 2 rfl).inn.ints) (by omega) (by omega)).mono ?_
        -- a curve is returned and laid into a new variable: wB the world, v the curve, p4 its error, A7 n7 c7
        rintro e wB ⟨v, p4, hSS, A7, n7, c7, rfl, hI, hA, hb⟩
        have S4 := Lib.hid hSS
        have hn7 : n7 ≤ 400 := by have h1 := hSS.len; have h2 : v.vals.length = n7 := hI.1; omega
        have hps := E.out.s.lt
        have E := Lib.hid (show EnvL w.heap.size w _ _ from (E.out.below hb).push (X := ⟨A7, n7, c7, v⟩) (CR.In.new hI hA hps))
        dsimp only [List.cons_append, List.nil_append] at E
        clear hSS hI hA hb hps
        clear x0 x1 x2 hlx
        clear y0 y1 y2 hly
        -- pmax_any: pmin_any or pmax_any
        obtain ⟨x0, x1, x2, hlx⟩ := (E.out.get 8 rfl).cells
        obtain ⟨y0, y1, y2, hly⟩ := (E.out.get 9 rfl).cells
        go_wp2_with fail
        refine (pmax_any A6 A7 n6 n7 c6 c7 u.per u.inc v.per v.inc u.vals v.vals _ (by exact (E.out.get 8 rfl).inn.ints) (by exact (E.out.get 9 rfl).inn.ints) (by omega) (by omega)).mono ?_
        -- a curve is returned and laid into a new variable: wC the world, right the curve, p5 its error, A8 n8 c8
        rintro e wC ⟨right, p5, hSS, A8, n8, c8, rfl, hI, hA, hb⟩
        have S5 := Lib.hid hSS
        have hn8 : n8 ≤ 400 := by have h1 := hSS.len; have h2 : right.vals.length = n8 := hI.1; omega
        have hps := E.out.s.lt
        have E := Lib.hid (show EnvL w.heap.size w _ _ from (E.out.below hb).push (X := ⟨A8, n8, c8, right⟩) (CR.In.new hI hA hps))
        dsimp only [List.cons_append, List.nil_append] at E
        clear hSS hI hA hb hps
        clear x0 x1 x2 hlx
        clear y0 y1 y2 hly
        by_cases h1 : p1 = 0
        · subst h1
          by_cases h2 : p2 = 0
          · subst h2
            by_cases h3 : p3 = 0
            · subst h3
              by_cases h4 : p4 = 0
              · subst h4
                by_cases h5 : p5 = 0
                · subst h5
                  have k1 := S1.out.ok0; have k2 := S2.out.ok0; have k3 := S3.out.ok0; have k4 := S4.out.ok0; have k5 := S5.out.ok0
                  obtain rfl := lat_min Hf.out.ok Hg.out.ok Hh.out.ok k1.2.2.1 k3.2.2.1 k4.2.2.1 k1.2.2.2.ats k3.2.2.2.ats k4.2.2.2.ats k2.2.2.2 k5.2.2.2
                  clear k1 k2 k3 k4 k5 S1 S2 S3 S4 S5
                  obtain ⟨x0, x1, x2, hlx⟩ := (E.out.get 7 rfl).cells
                  obtain ⟨y0, y1, y2, hly⟩ := (E.out.get 10 rfl).cells
                  go_wp2_with fail
                  refine (refSame_any A5 A8 n5 n8 c5 c8 left.per left.per left.inc left.inc left.vals left.vals _ (by exact (E.out.get 7 rfl).inn.ints) (by exact (E.out.get 10 rfl).inn.ints) (by omega) (by omega)).mono ?_
                  rw [(Cv.same_iff _ _).2 rfl]
                  rintro e ws ⟨rfl, hb⟩
                  have E := Lib.hid (E.out.below hb)
                  clear hb
                  clear x0 x1 x2 hlx
                  clear y0 y1 y2 hly
                  go_wp2_with fail
                  refine (awake5_any _).mono ?_
                  rintro e wq ⟨rfl, hb⟩
                  have bw := (E.out.below hb).fin
                  go_wp2_with fail
                  go_ret
                  exact ⟨rfl, bw⟩
                · have g : (p5 != 0) = true := by simpa using h5
                  clear h5
                  go_wp2_with fail
                  refine (awake5_any _).mono ?_
                  rintro e wq ⟨rfl, hb⟩
                  have bw := (E.out.below hb).fin
                  go_wp2_with fail
                  go_ret
                  exact ⟨rfl, bw⟩
              · have g : (p4 != 0) = true := by simpa using h4
                clear h4
                go_wp2_with fail
                refine (awake5_any _).mono ?_
                rintro e wq ⟨rfl, hb⟩
                have bw := (E.out.below hb).fin
                go_wp2_with fail
                go_ret
                exact ⟨rfl, bw⟩
            · have g : (p3 != 0) = true := by simpa using h3
              clear h3
              go_wp2_with fail
              refine (awake5_any _).mono ?_
              rintro e wq ⟨rfl, hb⟩
              have bw := (E.out.below hb).fin
              go_wp2_with fail
              go_ret
              exact ⟨rfl, bw⟩
          · have g : (p2 != 0) = true := by simpa using h2
            clear h2
            go_wp2_with fail
            refine (awake5_any _).mono ?_
            rintro e wq ⟨rfl, hb⟩
            have bw := (E.out.below hb).fin
            go_wp2_with fail
            go_ret
            exact ⟨rfl, bw⟩
        · have g : (p1 != 0) = true := by simpa using h1
          clear h1
          go_wp2_with fail
          refine (awake5_any _).mono ?_
          rintro e wq ⟨rfl, hb⟩
          have bw := (E.out.below hb).fin
          go_wp2_with fail
          go_ret
          exact ⟨rfl, bw⟩
  · have hb' : (er1 = 0 ∧ er3 = 3) ∨ er1 = 3 := by omega
    clear M1 M3
    rcases hb' with ⟨rfl, rfl⟩ | rfl
    · go_wp2_with fail
      refine (awake5_any _).mono ?_
      rintro e wq ⟨rfl, hb⟩
      have bw := (E.out.below hb).fin
      go_wp2_with fail
      go_ret
      exact ⟨rfl, bw⟩
    · rcases hr3 with rfl | rfl
      all_goals
        go_wp2_with fail
        refine (awake5_any _).mono ?_
        rintro e wq ⟨rfl, hb⟩
        have bw := (E.out.below hb).fin
        go_wp2_with fail
        go_ret
        exact ⟨rfl, bw⟩
end Go.Proofs.Ytmieikfmbnaoaaa
