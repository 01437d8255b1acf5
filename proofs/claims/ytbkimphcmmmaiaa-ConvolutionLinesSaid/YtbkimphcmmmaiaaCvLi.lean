/- The statement ConvolutionLines: the walk. -/
import Derived.Test.YtbkimphcmmmaiaaAwake7
import Derived.Test.YtbkimphcmmmaiaaEnvL
import Derived.Test.YtbkimphcmmmaiaaRefMn
import Derived.Test.YtbkimphcmmmaiaaRefLn
import Derived.Test.YtbkimphcmmmaiaaRefLater
import Derived.Test.YtbkimphcmmmaiaaZero
import Derived.BigRegion
namespace Go.Proofs.Ytbkimphcmmmaiaa
open Go.RowKit
set_option linter.unusedVariables false
attribute [local go_sem ↓] app_fold
/-- block Z is none of the curves' -/
def CR.Off (x : CR) (Z : Nat) : Prop := 0 < x.n → ∀ b off s, x.A = some ⟨b, off, s⟩ → b ≠ Z
def Apart (vs : List (Nat × CR)) (Z : Nat) : Prop := ∀ x ∈ vs, x.1 ≠ Z ∧ x.2.Off Z
section
variable {p : Nat} {w0 w w' : World} {vs : List (Nat × CR)} {x : CR} {Z : Nat}
theorem CR.In.off (h : x.In p w) : x.Off w.heap.size := fun hn b off s e => by
  obtain ⟨b', off', e', hb, _⟩ := h.ints.2 hn
  rw [e] at e'; cases e'; omega
theorem CR.Off.of_ge {B : Nat} (h : ∀ b off s, x.A = some ⟨b, off, s⟩ → B ≤ b) (hZ : Z < B) : x.Off Z := fun _ b off s e => by have := h b off s e; omega
theorem CR.In.far (h : x.In p w) (hz : x.Off Z) (k : Nat) (u : Value) : x.In p (w.setCell ⟨Z, k, none⟩ u) := by
  refine ⟨?_, h.ap⟩
  rcases Nat.eq_zero_or_pos x.n with e | e
  · exact ⟨h.ints.1, fun hn => by omega⟩
  · have := h.ints.setCell (p := ⟨Z, k, none⟩) (fun b off s e' => hz e b off s e') u
    simpa using this
theorem EnvL.apart (h : EnvL p w0 w vs) : Apart vs w.heap.size := fun x hx => ⟨Nat.ne_of_lt (h.v x hx).lt, (h.v x hx).inn.off⟩
theorem Lc.far {F : Nat} (h : Lc p w F x) (hF : F ≠ Z) (hz : x.Off Z) (k : Nat) (u : Value) : Lc p (w.setCell ⟨Z, k, none⟩ u) F x := ⟨h.blk.far hF u, h.inn.far hz k u, h.ne⟩
theorem EnvL.far (h : EnvL p w0 w vs) (hZ : w0.heap.size ≤ Z) (hp : p < Z) (ha : Apart vs Z) (k : Nat) (u : Value) : EnvL p w0 (w.setCell ⟨Z, k, none⟩ u) vs :=
  ⟨h.s.far hp u, h.k.setCell (.inr hZ) u, fun x hx => (h.v x hx).far (ha x hx).1 (ha x hx).2 k u⟩
theorem EnvL.far3 (h : EnvL p w0 w vs) (hZ : w0.heap.size ≤ Z) (hp : p < Z) (ha : Apart vs Z) (x y z : Value) : EnvL p w0 (((w.setCell ⟨Z, 0, none⟩ x).setCell ⟨Z, 1, none⟩ y).setCell ⟨Z, 2, none⟩ z) vs :=
  ((h.far hZ hp ha 0 x).far hZ hp ha 1 y).far hZ hp ha 2 z
theorem CR.In.far3 (h : x.In p w) (hz : x.Off Z) (a b c : Value) : x.In p (((w.setCell ⟨Z, 0, none⟩ a).setCell ⟨Z, 1, none⟩ b).setCell ⟨Z, 2, none⟩ c) := ((h.far hz 0 a).far hz 1 b).far hz 2 c
/-- a curve is stored to a variable that lies apart -/
theorem EnvL.sto (h : EnvL p w0 w vs) {a b c : Value} (hb : Blk w Z 31 #[a, b, c]) (hZ : w0.heap.size ≤ Z) (hp : p < Z) (ha : Apart vs Z) {X : CR} (hX : X.In p w) (hXZ : X.Off Z) :
    EnvL p w0 (((w.setCell ⟨Z, 0, none⟩ (.slice X.A X.n X.c)).setCell ⟨Z, 1, none⟩ (.int .i64 X.f.per)).setCell ⟨Z, 2, none⟩ (.int .i64 X.f.inc)) (vs ++ [(Z, X)]) := by
  have h1 := h.far3 hZ hp ha (.slice X.A X.n X.c) (.int .i64 X.f.per) (.int .i64 X.f.inc)
  refine ⟨h1.s, h1.k, fun x hx => ?_⟩
  rcases List.mem_append.1 hx with hx | hx
  · exact h1.v x hx
  · simp only [List.mem_singleton] at hx
    subst hx
    exact ⟨hb.store3 _ _ _, hX.far3 hXZ _ _ _, by show Z ≠ p; omega⟩
end
theorem EnvL.bare {p : Nat} {w0 w : World} {vs : List (Nat × CR)} (h : EnvL p w0 w vs) : EnvL p w0 w [] := ⟨h.s, h.k, fun x hx => by cases hx⟩
theorem EnvL.tail {p : Nat} {w0 w : World} {x : Nat × CR} {vs : List (Nat × CR)} (h : EnvL p w0 w (x :: vs)) : EnvL p w0 w vs := ⟨h.s, h.k, fun y hy => h.v y (List.mem_cons_of_mem _ hy)⟩
theorem EnvL.front {p : Nat} {w0 w : World} {vs us : List (Nat × CR)} (h : EnvL p w0 w (vs ++ us)) : EnvL p w0 w vs := ⟨h.s, h.k, fun x hx => h.v x (List.mem_append_left _ hx)⟩
theorem CR.off0 {A : Option Addr} {n c : Nat} {f : Cv} {Z : Nat} (h : ∀ b off s, A = some ⟨b, off, s⟩ → Z < b) : CR.Off ⟨A, n, c, f⟩ Z := fun _ b off s e => by have := h b off s e; omega
set_option maxHeartbeats 4000000 in
set_option maxRecDepth 100000 in
theorem cvLi_any (A0 : Option Addr) (n0 c0 : Nat) (L : List Int) (w : World) (hL : Ints w w.heap.size A0 n0 L) (hc0 : n0 ≤ c0) (hn0 : (n0 : Int) ≤ 9223372036854775807) :
    Calls Try.prog 7 #[.slice A0 n0 c0] w fun e w' => e = .returned (.bool true) ∧ Below w.heap.size w w' := by
  go_enter Try.func7, Try.ntmps7
  go_wp2_with fail
  refine (new_any A0 n0 c0 L w hL hc0 hn0).mono ?_
  rintro e w1 ⟨rfl, hS1, hb1⟩
  have E := Lib.hid (EnvL.start hS1 hb1)
  clear hL hS1 hb1
  -- 40 the bound, _ the world before, v1 the world behind, aa the number
  go_wp2_with fail
  refine (n_any w.heap.size 40 _ (by exact E.out.s) (by omega) (by omega)).mono ?_
  rintro e v1 ⟨z, hz0, hz1, rfl, hS, hk⟩
  have E := Lib.hid (E.out.kept hS hk)
  obtain ⟨aa, rfl⟩ := Int.eq_ofNat_of_zero_le hz0
  have hbaa : aa < 40 := by omega
  clear hz0 hz1 hS hk
  -- 40 the bound, _ the world before, v2 the world behind, bb the number
  go_wp2_with fail
  refine (n_any w.heap.size 40 _ (by exact E.out.s) (by omega) (by omega)).mono ?_
  rintro e v2 ⟨z, hz0, hz1, rfl, hS, hk⟩
  have E := Lib.hid (E.out.kept hS hk)
  obtain ⟨bb, rfl⟩ := Int.eq_ofNat_of_zero_le hz0
  have hbbb : bb < 40 := by omega
  clear hz0 hz1 hS hk
  -- 20 the bound, _ the world before, v3 the world behind, mm the number
  go_wp2_with fail
  refine (n_any w.heap.size 20 _ (by exact E.out.s) (by omega) (by omega)).mono ?_
  rintro e v3 ⟨z, hz0, hz1, rfl, hS, hk⟩
  have E := Lib.hid (E.out.kept hS hk)
  obtain ⟨mm, rfl⟩ := Int.eq_ofNat_of_zero_le hz0
  have hbmm : mm < 20 := by omega
  clear hz0 hz1 hS hk
  -- 20 the bound, _ the world before, v4 the world behind, nn the number
  go_wp2_with fail
  refine (n_any w.heap.size 20 _ (by exact E.out.s) (by omega) (by omega)).mono ?_
  rintro e v4 ⟨z, hz0, hz1, rfl, hS, hk⟩
  have E := Lib.hid (E.out.kept hS hk)
  obtain ⟨nn, rfl⟩ := Int.eq_ofNat_of_zero_le hz0
  have hbnn : nn < 20 := by omega
  clear hz0 hz1 hS hk
  go_upto_region 3 with fail
  go_wp2_with fail
  -- Line: aa the rate, w1 world, f curve, A1 n1 c1, ea er, 4 next region
  refine (refLine_any aa (by omega) (by omega) _).mono ?_
  rintro e w1 ⟨f, ea, A1, n1, c1, hSS, hle, rfl, hI, hA, hb⟩
  have Mf := Lib.hid (made_line (r := aa) (by omega) (by omega) hSS).1
  have HCf := Lib.hid hle
  have hlen : n1 = 1 := by have h1 := hI.1; rw [Mf.out] at h1; exact h1.symm
  have hnf : n1 ≤ 1 := by omega
  clear hSS hle hlen
  have hpf : w.heap.size < w1.heap.size := by have := (E.out.below hb).s.lt; omega
  -- the result goes to a new variable: w1 world, f curve, A1 n1 c1, 4 region, {6} the variable
  have hps := E.out.s.lt
  have E := Lib.hid (show EnvL w.heap.size w _ _ from (E.out.below hb).push (X := ⟨A1, n1, c1, f⟩) (CR.In.new hI hA hps))
  dsimp only [List.cons_append, List.nil_append] at E
  clear hI hA hb hps
  go_upto_region 4 with fail
  generalize hwe : w1.alloc (.cells #[.slice A1 n1 c1, .int .i64 f.per, .int .i64 f.inc] 31) = we at *
  clear hwe
  generalize w1.heap.size = ZF at *
  go_wp2_with fail
  -- Line: bb the rate, w2 world, g curve, A2 n2 c2, eb er, 5 next region
  refine (refLine_any bb (by omega) (by omega) _).mono ?_
  rintro e w2 ⟨g, eb, A2, n2, c2, hSS, hle, rfl, hI, hA, hb⟩
  have Mg := Lib.hid (made_line (r := bb) (by omega) (by omega) hSS).1
  have HCg := Lib.hid hle
  have hlen : n2 = 1 := by have h1 := hI.1; rw [Mg.out] at h1; exact h1.symm
  have hng : n2 ≤ 1 := by omega
  clear hSS hle hlen
  have hfl := (E.out.get 0 rfl).lt
  have hfg : ZF < w2.heap.size := by have := hb.size; omega
  have AG := Lib.hid (show ∀ b off s, A2 = some ⟨b, off, s⟩ → ZF < b from fun b off s e => by have := hA b off s e; omega)
  clear hfl
  -- the result goes to a new variable: w2 world, g curve, A2 n2 c2, 5 region, {6} the variable
  have hps := E.out.s.lt
  have E := Lib.hid (show EnvL w.heap.size w _ _ from (E.out.below hb).push (X := ⟨A2, n2, c2, g⟩) (CR.In.new hI hA hps))
  dsimp only [List.cons_append, List.nil_append] at E
  clear hI hA hb hps
  go_upto_region 5 with fail
  generalize hwe : w2.alloc (.cells #[.slice A2 n2 c2, .int .i64 g.per, .int .i64 g.inc] 31) = we at *
  clear hwe
  generalize w2.heap.size = ZG at *
  -- Later: f .. c1 the curve and its slice, mm d, 0 its place, w3 world, f' result, ef er, A3 n3 c3
  obtain ⟨x0, x1, x2, hlx⟩ := (E.out.get 0 rfl).cells
  go_wp2_with fail
  refine (refLater_any A1 n1 c1 f.per f.inc mm f.vals _ (by exact (E.out.get 0 rfl).inn.ints) (by omega) HCf.out).mono ?_
  rintro e w3 ⟨f', ef, A3, n3, c3, hSS, hle, rfl, hI, hA, hb⟩
  have Sf' := Lib.hid (show LaterS f mm f' ef from hSS)
  have HCf' := Lib.hid hle
  clear x0 x1 x2 hlx hSS hle
  have AF := Lib.hid (show ∀ b off s, A3 = some ⟨b, off, s⟩ → ZG < b from fun b off s e => by have := hA b off s e; have := (E.out.get 1 rfl).lt; omega)
  have LF := Lib.hid (line_later (r := aa) (d := mm) (by omega) (by omega) (by omega) (by rw [← Mf.out]; exact Sf'.out)).2
  have hl3 : n3 ≤ 400 := by have h1 := LF.out.fin.1.n2; have h2 := hI.1; omega
  -- the result is stored: w3 world, f' curve, A3 n3 c3; ZF the variable, 0 its place, 6 next region, E.out.tail the rest of E, fun x hx => by simp only [List.mem_singleton] at hx; subst hx; exact ⟨by show ZG ≠ ZF; omega, CR.off0 AG.out⟩ apart
  have hps := E.out.s.lt
  have AX := Lib.hid (show ∀ b off s, A3 = some ⟨b, off, s⟩ → ZF < b from fun b off s e => by have := hA b off s e; have := (E.out.get 0 rfl).lt; omega)
  have E := Lib.hid (E.out.below hb)
  have BZ := Lib.hid (E.out.get 0 rfl).blk
  dsimp only at BZ
  obtain ⟨⟨z0, z1, z2⟩, ⟨q0, q1, q2⟩, hlz⟩ := BZ.out.c3
  have IX := Lib.hid (show (CR.mk A3 n3 c3 f').In w.heap.size w3 from CR.In.new hI hA hps)
  clear hI hA hb hps
  go_upto_region 6 with fail
  have e1 := (E.out.tail).sto BZ.out (by omega) (by omega) (fun x hx => by simp only [List.mem_singleton] at hx; subst hx; exact ⟨by show ZG ≠ ZF; omega, CR.off0 AG.out⟩) IX.out (CR.off0 AX.out)
  have E := Lib.hid e1
  dsimp only [List.cons_append, List.nil_append] at E
  clear e1 z0 z1 z2 q0 q1 q2 hlz BZ IX AX
  generalize hwe : ((w3.setCell ⟨ZF, 0, none⟩ (.slice A3 n3 c3)).setCell ⟨ZF, 1, none⟩ (.int .i64 f'.per)).setCell ⟨ZF, 2, none⟩ (.int .i64 f'.inc) = we at *
  clear hwe
  -- Later: g .. c2 the curve and its slice, nn d, 0 its place, w4 world, g' result, eg er, A4 n4 c4
  obtain ⟨x0, x1, x2, hlx⟩ := (E.out.get 0 rfl).cells
  go_wp2_with fail
  refine (refLater_any A2 n2 c2 g.per g.inc nn g.vals _ (by exact (E.out.get 0 rfl).inn.ints) (by omega) HCg.out).mono ?_
  rintro e w4 ⟨g', eg, A4, n4, c4, hSS, hle, rfl, hI, hA, hb⟩
  have Sg' := Lib.hid (show LaterS g nn g' eg from hSS)
  have HCg' := Lib.hid hle
  clear x0 x1 x2 hlx hSS hle
  have LG := Lib.hid (line_later (r := bb) (d := nn) (by omega) (by omega) (by omega) (by rw [← Mg.out]; exact Sg'.out)).2
  have hl4 : n4 ≤ 400 := by have h1 := LG.out.fin.1.n2; have h2 := hI.1; omega
  -- the result is stored: w4 world, g' curve, A4 n4 c4; ZG the variable, 0 its place, 7 next region, E.out.tail the rest of E, fun x hx => by simp only [List.mem_singleton] at hx; subst hx; exact ⟨by show ZF ≠ ZG; omega, CR.off0 AF.out⟩ apart
  have hps := E.out.s.lt
  have AX := Lib.hid (show ∀ b off s, A4 = some ⟨b, off, s⟩ → ZG < b from fun b off s e => by have := hA b off s e; have := (E.out.get 0 rfl).lt; omega)
  have E := Lib.hid (E.out.below hb)
  have BZ := Lib.hid (E.out.get 0 rfl).blk
  dsimp only at BZ
  obtain ⟨⟨z0, z1, z2⟩, ⟨q0, q1, q2⟩, hlz⟩ := BZ.out.c3
  have IX := Lib.hid (show (CR.mk A4 n4 c4 g').In w.heap.size w4 from CR.In.new hI hA hps)
  clear hI hA hb hps
  go_upto_region 7 with fail
  have e1 := (E.out.tail).sto BZ.out (by omega) (by omega) (fun x hx => by simp only [List.mem_singleton] at hx; subst hx; exact ⟨by show ZF ≠ ZG; omega, CR.off0 AF.out⟩) IX.out (CR.off0 AX.out)
  have E := Lib.hid e1
  dsimp only [List.cons_append, List.nil_append] at E
  clear e1 z0 z1 z2 q0 q1 q2 hlz BZ IX AX
  generalize hwe : ((w4.setCell ⟨ZG, 0, none⟩ (.slice A4 n4 c4)).setCell ⟨ZG, 1, none⟩ (.int .i64 g'.per)).setCell ⟨ZG, 2, none⟩ (.int .i64 g'.inc) = we at *
  clear hwe
  -- convolution.Of: f' .. c3 the first curve and its slice, g' .. c4 the second one, 0 1 places, w5 .. c5 the result: world, curve, A n c; 8 the next region; eh the error's name
  obtain ⟨x0, x1, x2, hlx⟩ := (E.out.get 0 rfl).cells
  obtain ⟨y0, y1, y2, hly⟩ := (E.out.get 1 rfl).cells
  go_wp2_with fail
  refine (cvfn_any A3 A4 n3 n4 c3 c4 f'.per f'.inc g'.per g'.inc f'.vals g'.vals _ (by exact (E.out.get 0 rfl).inn.ints) (by exact (E.out.get 1 rfl).inn.ints) (by omega) (by omega)).mono ?_
  rintro e w5 ⟨hv, eh, hSS, A5, n5, c5, hle, rfl, hI, hA, hb⟩
  have Shv := Lib.hid (show CvS f' g' hv eh from hSS)
  have HChv := Lib.hid hle
  have hps := E.out.s.lt
  have E := Lib.hid (show EnvL w.heap.size w _ _ from (E.out.below hb).push (X := ⟨A5, n5, c5, hv⟩) (CR.In.new hI hA hps))
  dsimp only [List.cons_append, List.nil_append] at E
  clear hSS hI hA hb hps hle x0 x1 x2 hlx y0 y1 y2 hly
  go_upto_region 8 with fail
  generalize hwe : w5.alloc (.cells #[.slice A5 n5 c5, .int .i64 hv.per, .int .i64 hv.inc] 31) = we at *
  clear hwe
  generalize w5.heap.size = Zhv at *
  clear AF AG
  go_wp2_with fail
  all_goals
    refine (refLine_any _ (by omega) (by omega) _).mono ?_
    rintro e w6 ⟨x, ex, A6, n6, c6, hSS, hle, rfl, hI, hA, hb⟩
    have Mx := Lib.hid (show x = lnC (min (aa : Int) bb) from by
      have h1 := (made_line (by omega) (by omega) hSS).1
      rw [h1]; congr 1; omega)
    have HCx := Lib.hid hle
    have hlen : n6 = 1 := by have h1 := hI.1; rw [Mx.out] at h1; exact h1.symm
    have hnx : n6 ≤ 1 := by omega
    clear hSS hle hlen h
    have AP := Lib.hid (E.out.below hb).apart
    have hpx : w.heap.size < w6.heap.size := by have := (E.out.below hb).s.lt; omega
    -- the result goes to a new variable: w6 world, x curve, A6 n6 c6, 9 region, {6} the variable
    have hps := E.out.s.lt
    have E := Lib.hid (show EnvL w.heap.size w _ _ from (E.out.below hb).push (X := ⟨A6, n6, c6, x⟩) (CR.In.new hI hA hps))
    dsimp only [List.cons_append, List.nil_append] at E
    clear hI hA hb hps
    go_upto_region 9 with fail
    generalize hwe : w6.alloc (.cells #[.slice A6 n6 c6, .int .i64 x.per, .int .i64 x.inc] 31) = we at *
    clear hwe
    generalize w6.heap.size = Zx at *
    obtain ⟨tt, htt⟩ : ∃ tt : Nat, tt = mm + nn := ⟨_, rfl⟩
    have es1 : IntKind.i64.wrap ((mm : Int) + nn) = (tt : Int) := by rw [IntWalk.i64_in _ (by omega)]; omega
    have es2 : (mm : Int) + nn = (tt : Int) := by omega
    have ht3 : tt ≤ 60 := by omega
    have HT := Lib.hid htt
    clear htt
    obtain ⟨x0, x1, x2, hlx⟩ := (E.out.get 3 rfl).cells
    go_wp2_with fail
    clear es1 es2
    refine (refLater_any A6 n6 c6 x.per x.inc tt x.vals _ (by exact (E.out.get 3 rfl).inn.ints) (by omega) HCx.out).mono ?_
    rintro e w7 ⟨x', ei, A7, n7, c7, hSS, hle, rfl, hI, hA, hb⟩
    obtain ⟨rfl, hLX⟩ := line_later (r := min (aa : Int) bb) (d := tt) (by omega) (by omega) (by omega) (by rw [← Mx.out]; exact (show LaterS x tt x' ei from hSS))
    have LX := Lib.hid hLX
    have hl7 : n7 ≤ 400 := by have h1 := hLX.fin.1.n2; have h2 := hI.1; omega
    clear hSS hle hLX x0 x1 x2 hlx
    -- the result is stored: w7 world, x' curve, A7 n7 c7; Zx the variable, 3 its place, 10 next region, E.out.front (vs := [(ZF, ⟨A3, n3, c3, f'⟩), (ZG, ⟨A4, n4, c4, g'⟩), (Zhv, ⟨A5, n5, c5, hv⟩)]) (us := [(Zx, ⟨A6, n6, c6, x⟩)]) the rest of E, AP.out apart
    have hps := E.out.s.lt
    have AX := Lib.hid (show ∀ b off s, A7 = some ⟨b, off, s⟩ → Zx < b from fun b off s e => by have := hA b off s e; have := (E.out.get 3 rfl).lt; omega)
    have E := Lib.hid (E.out.below hb)
    have BZ := Lib.hid (E.out.get 3 rfl).blk
    dsimp only at BZ
    obtain ⟨⟨z0, z1, z2⟩, ⟨q0, q1, q2⟩, hlz⟩ := BZ.out.c3
    have IX := Lib.hid (show (CR.mk A7 n7 c7 x').In w.heap.size w7 from CR.In.new hI hA hps)
    clear hI hA hb hps
    go_upto_region 10 with fail
    have e1 := (E.out.front (vs := [(ZF, ⟨A3, n3, c3, f'⟩), (ZG, ⟨A4, n4, c4, g'⟩), (Zhv, ⟨A5, n5, c5, hv⟩)]) (us := [(Zx, ⟨A6, n6, c6, x⟩)])).sto BZ.out (by omega) (by omega) (AP.out) IX.out (CR.off0 AX.out)
    have E := Lib.hid e1
    dsimp only [List.cons_append, List.nil_append] at E
    clear e1 z0 z1 z2 q0 q1 q2 hlz BZ IX AX
    generalize hwe : ((w7.setCell ⟨Zx, 0, none⟩ (.slice A7 n7 c7)).setCell ⟨Zx, 1, none⟩ (.int .i64 x'.per)).setCell ⟨Zx, 2, none⟩ (.int .i64 x'.inc) = we at *
    clear hwe
    obtain ⟨rfl, hhx⟩ := line_law (by omega) (by omega) LF.out LG.out (by rw [← HT.out]; exact LX.out) Shv.out
    have EHX := Lib.hid hhx
    clear hhx AP
    have hl5 : n5 ≤ 400 := by have h1 := LX.out.fin.1.n2; have h2 : hv.vals.length = n5 := (E.out.get 2 rfl).inn.ints.1; rw [EHX.out] at h2; omega
    -- Same: hv .. c5 the first curve and its slice, x' .. c7 the second one, 2 3 places, EHX.out the equation of the curves
    obtain ⟨x0, x1, x2, hlx⟩ := (E.out.get 2 rfl).cells
    obtain ⟨y0, y1, y2, hly⟩ := (E.out.get 3 rfl).cells
    go_wp2_with fail
    refine (refSame_any A5 A7 n5 n7 c5 c7 hv.per x'.per hv.inc x'.inc hv.vals x'.vals _ (by exact (E.out.get 2 rfl).inn.ints) (by exact (E.out.get 3 rfl).inn.ints) (by omega) (by omega)).mono ?_
    rw [show Cv.same ⟨hv.vals, hv.per, hv.inc⟩ ⟨x'.vals, x'.per, x'.inc⟩ = true from (Cv.same_iff _ _).2 EHX.out]
    rintro e wq ⟨rfl, hb⟩
    have E := Lib.hid (E.out.below hb)
    clear hb x0 x1 x2 hlx y0 y1 y2 hly
    go_upto_region 12 with fail
    -- 60 the bound, _ the world before, v5 the world behind, top the number
    go_wp2_with fail
    refine (n_any w.heap.size 60 _ (by exact E.out.s) (by omega) (by omega)).mono ?_
    rintro e v5 ⟨z, hz0, hz1, rfl, hS, hk⟩
    have E := Lib.hid (E.out.kept hS hk)
    obtain ⟨top, rfl⟩ := Int.eq_ofNat_of_zero_le hz0
    have hbtop : top < 60 := by omega
    clear hz0 hz1 hS hk
    go_upto_region 13 with fail
    go_wp2_with fail
    refine (refFlat_any top (by omega) (by omega) _).mono ?_
    rintro e w8 ⟨fl, efl, A8, n8, c8, hSS, hle, rfl, hI, hA, hb⟩
    have MF := Lib.hid (show MadeS (flC top).at fl efl from hSS)
    have HCfl := Lib.hid hle
    have OKFL := Lib.hid (made_ok (fl_ok (by omega) (by omega)) hSS).2.1
    have hl8 : n8 ≤ 2 := by have h1 := (made_ok (fl_ok (by omega) (by omega)) hSS).2.2.2.2; have h2 := hI.1; have h3 : (flC top).vals.length = 2 := rfl; omega
    clear hSS hle
    -- the result goes to a new variable: w8 world, fl curve, A8 n8 c8, 14 region, {6} the variable
    have hps := E.out.s.lt
    have E := Lib.hid (show EnvL w.heap.size w _ _ from (E.out.below hb).push (X := ⟨A8, n8, c8, fl⟩) (CR.In.new hI hA hps))
    dsimp only [List.cons_append, List.nil_append] at E
    clear hI hA hb hps
    go_upto_region 14 with fail
    generalize hwe : w8.alloc (.cells #[.slice A8 n8 c8, .int .i64 fl.per, .int .i64 fl.inc] 31) = we at *
    clear hwe
    generalize w8.heap.size = Zfl at *
    -- a curve drawn, not yet in a variable: srcZero3_any the contract, 6 most, _ w9 the worlds, k the curve, A9 n9 c9, (DrawC 6 k ∧ k.Fin) ∧ nth k.vals 0 = 0 its facts
    go_wp2_with fail
    refine (srcZero3_any w.heap.size 6 _ (by exact E.out.s) (by omega) (by omega)).mono ?_
    rintro e w9 ⟨k, A9, n9, c9, hD, hcf, rfl, hI, hA, hS, hk⟩
    have hps := E.out.s.lt
    have E := Lib.hid (E.out.kept hS hk)
    have Vk := Lib.hid (show (CR.mk A9 n9 c9 k).In w.heap.size w9 from CR.In.new hI hA hps)
    have Hk := Lib.hid (show (DrawC 6 k ∧ k.Fin) ∧ nth k.vals 0 = 0 from hD)
    have HCk := Lib.hid hcf
    have hlenk := hI.1
    try simp only at hlenk
    have hl9 : n9 ≤ 20 := by have h1 := Hk.out.1.1.len; omega
    clear hlenk
    clear hD hI hA hS hk hps hcf
    have E := Lib.hid (show EnvL w.heap.size w _ _ from E.out.push (X := ⟨A9, n9, c9, k⟩) Vk.out)
    dsimp only [List.cons_append, List.nil_append] at E
    clear Vk
    go_upto_region 15 with fail
    generalize hwe : w9.alloc (.cells #[.slice A9 n9 c9, .int .i64 k.per, .int .i64 k.inc] 31) = wk at *
    clear hwe
    generalize w9.heap.size = Zk at *
    -- convolution.Of: k .. c9 the first curve and its slice, fl .. c8 the second one, 5 4 places, w10 .. c10 the result: world, curve, A n c; 16 the next region; ey the error's name
    obtain ⟨x0, x1, x2, hlx⟩ := (E.out.get 5 rfl).cells
    obtain ⟨y0, y1, y2, hly⟩ := (E.out.get 4 rfl).cells
    go_wp2_with fail
    refine (cvfn_any A9 A8 n9 n8 c9 c8 k.per k.inc fl.per fl.inc k.vals fl.vals _ (by exact (E.out.get 5 rfl).inn.ints) (by exact (E.out.get 4 rfl).inn.ints) (by omega) (by omega)).mono ?_
    rintro e w10 ⟨y, ey, hSS, A10, n10, c10, hle, rfl, hI, hA, hb⟩
    have Sy := Lib.hid (show CvS k fl y ey from hSS)
    have HCy := Lib.hid hle
    have hps := E.out.s.lt
    have E := Lib.hid (show EnvL w.heap.size w _ _ from (E.out.below hb).push (X := ⟨A10, n10, c10, y⟩) (CR.In.new hI hA hps))
    dsimp only [List.cons_append, List.nil_append] at E
    clear hSS hI hA hb hps hle x0 x1 x2 hlx y0 y1 y2 hly
    go_upto_region 16 with fail
    generalize hwe : w10.alloc (.cells #[.slice A10 n10 c10, .int .i64 y.per, .int .i64 y.inc] 31) = we at *
    clear hwe
    generalize w10.heap.size = Zy at *
    have hl10 : n10 ≤ 400 := by have h1 := cvS_len Hk.out.1.1.ok OKFL.out Sy.out; have h2 : y.vals.length = n10 := (E.out.get 6 rfl).inn.ints.1; omega
    -- Minimum: k .. c9 the first curve and its slice, fl .. c8 the second one, 5 4 places, w11 .. c11 the result: world, curve, A n c; 17 the next region; ez the error's name; HCk.out HCfl.out n <= c
    obtain ⟨x0, x1, x2, hlx⟩ := (E.out.get 5 rfl).cells
    obtain ⟨y0, y1, y2, hly⟩ := (E.out.get 4 rfl).cells
    go_wp2_with fail
    refine (refMin_any A9 A8 n9 n8 c9 c8 k.per k.inc fl.per fl.inc k.vals fl.vals _ (by exact (E.out.get 5 rfl).inn.ints) (by exact (E.out.get 4 rfl).inn.ints) (by omega) (by omega) HCk.out HCfl.out).mono ?_
    rintro e w11 ⟨z, ez, A11, n11, c11, hSS, hle, rfl, hI, hA, hb⟩
    have Sz := Lib.hid (show ExtS true k fl z ez from hSS)
    have HCz := Lib.hid hle
    have hps := E.out.s.lt
    have E := Lib.hid (show EnvL w.heap.size w _ _ from (E.out.below hb).push (X := ⟨A11, n11, c11, z⟩) (CR.In.new hI hA hps))
    dsimp only [List.cons_append, List.nil_append] at E
    clear hSS hI hA hb hps hle x0 x1 x2 hlx y0 y1 y2 hly
    go_upto_region 17 with fail
    generalize hwe : w11.alloc (.cells #[.slice A11 n11 c11, .int .i64 z.per, .int .i64 z.inc] 31) = we at *
    clear hwe
    generalize w11.heap.size = Zz at *
    rcases cv_er2 Hk.out.1.1.ok OKFL.out Sy.out with ⟨rfl, _⟩ | ⟨rfl, _⟩
    case inr =>
      rcases ext_er2 Hk.out.1.1.ok OKFL.out Sz.out with ⟨rfl, _⟩ | ⟨rfl, _⟩
      all_goals
        go_wp2_with fail
        refine (awake7_any _).mono ?_
        rintro e wq ⟨rfl, hb⟩
        have bw := (E.out.below hb).fin
        go_wp2_with fail
        go_ret
        exact ⟨rfl, bw⟩
    case inl =>
    rcases ext_er2 Hk.out.1.1.ok OKFL.out Sz.out with ⟨rfl, hzo⟩ | ⟨rfl, _⟩
    case inr =>
      go_wp2_with fail
      refine (awake7_any _).mono ?_
      rintro e wq ⟨rfl, hb⟩
      have bw := (E.out.below hb).fin
      go_wp2_with fail
      go_ret
      exact ⟨rfl, bw⟩
    case inl =>
    have OKZ := Lib.hid hzo
    clear hzo
    have hl11 : n11 ≤ 400 := by have h1 := OKZ.out.n2; have h2 : z.vals.length = n11 := (E.out.get 7 rfl).inn.ints.1; omega
    have z0 : k.at 0 = 0 := by rw [Cv.at_lt (by have := Hk.out.1.1.ok.n1; omega)]; exact Hk.out.2
    have EYZ := Lib.hid (flat_law (v := top) (by omega) (by omega) Hk.out.1.2 z0 MF.out Sy.out Sz.out)
    clear z0
    -- Same: y .. c10 the first curve and its slice, z .. c11 the second one, 6 7 places, EYZ.out the equation of the curves
    obtain ⟨x0, x1, x2, hlx⟩ := (E.out.get 6 rfl).cells
    obtain ⟨y0, y1, y2, hly⟩ := (E.out.get 7 rfl).cells
    go_wp2_with fail
    refine (refSame_any A10 A11 n10 n11 c10 c11 y.per z.per y.inc z.inc y.vals z.vals _ (by exact (E.out.get 6 rfl).inn.ints) (by exact (E.out.get 7 rfl).inn.ints) (by omega) (by omega)).mono ?_
    rw [show Cv.same ⟨y.vals, y.per, y.inc⟩ ⟨z.vals, z.per, z.inc⟩ = true from (Cv.same_iff _ _).2 EYZ.out]
    rintro e wq ⟨rfl, hb⟩
    have E := Lib.hid (E.out.below hb)
    clear hb x0 x1 x2 hlx y0 y1 y2 hly
    go_wp2_with fail
    refine (awake7_any _).mono ?_
    rintro e wq ⟨rfl, hb⟩
    have bw := (E.out.below hb).fin
    go_wp2_with fail
    go_ret
    exact ⟨rfl, bw⟩
end Go.Proofs.Ytbkimphcmmmaiaa
