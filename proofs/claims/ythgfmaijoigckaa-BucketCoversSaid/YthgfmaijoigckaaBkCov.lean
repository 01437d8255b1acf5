/- The statement BucketCovers: the plain law and the walk. -/
import Derived.Test.YthgfmaijoigckaaBkLeast
import Derived.Test.YthgfmaijoigckaaAwake11
import Derived.Test.YthgfmaijoigckaaSrcFr
import Derived.Test.YthgfmaijoigckaaEnvL
import Derived.Test.YthgfmaijoigckaaRefExc
import Derived.Test.YthgfmaijoigckaaLatPw
import Derived.Test.YthgfmaijoigckaaFrSum
import Derived.Deep.LoopGhost
namespace Go.Proofs.Ythgfmaijoigckaa
open Go.RowKit
set_option linter.unusedVariables false

theorem tokc_cur {B b R r : Int} (hB : GOk B b) (hR : GOk R r) (hB1 : B ≤ 1000) (hr : r ≤ 120) (hR1 : R ≤ 1000) : ∃ g, NF (tokV B b R r) g ∧ Lim g ∧ g.Ok := by
  have hb0 := hB.1.1; have hB0 := hB.2; have hr0 := hR.1.1; have hR0 := hR.2
  refine lim_of (tok_up hB0 hb0 hR0 hr0) (p := r.toNat) (i := R) (by omega) (by omega) (tok_per hb0 hr0) (fun t ht => ?_) (by omega)
  by_cases h0 : t = 0
  · rw [h0, tok_zero]; omega
  · have h1 := tok_le hB0 hb0 hR0 hr0 (t := t) (by omega)
    have h2 : R * ((t : Int) - 1) ≤ 1000 * 120 := Int.mul_le_mul hR1 (by omega) (by omega) (by omega)
    omega
theorem tokc_made {B b R r : Int} (hB : GOk B b) (hR : GOk R r) (hr : r ≤ 120) {f g : Cv} {er : Int} (h : TokS B b R r f er) (hg : NF (tokV B b R r) g) (hl : Lim g) : f = g ∧ er = 0 := by
  rcases h with ⟨h, _⟩ | ⟨_, _, h, _⟩ | ⟨_, _, _, h⟩
  · exact absurd ⟨hB, hR⟩ h
  · omega
  · exact h.eq hg hl
theorem tokc_fin {B b R r : Int} (hB : GOk B b) (hR : GOk R r) {g : Cv} (hg : NF (tokV B b R r) g) (ho : g.Ok) : g.Fin :=
  nf_fin hg ho (fun t ht => small_ne (by have := tok_bd hB hR (k := t) (by omega); omega))
theorem stc_cur {S E A : Int} (hS : 0 ≤ S) (hS1 : S ≤ 100) (hE : 1 ≤ E) (hE1 : E ≤ 120) (hA : 0 ≤ A) (hA1 : A ≤ 100) : ∃ g, NF (stV S E A) g ∧ Lim g ∧ g.Ok := by
  refine lim_of (st_up hS hE hA) (p := E.toNat) (i := S) (by omega) (by omega) (st_per hE) (fun t ht => ?_) (by omega)
  by_cases h0 : t = 0
  · rw [h0, st_zero]; omega
  · have h1 := st_le hS hE hA (t := t) (by omega)
    have h2 : S * ((t : Int) + A) ≤ 100 * 220 := Int.mul_le_mul hS1 (by omega) (by omega) (by omega)
    omega
/-- a staircase is at most its token -/
theorem st_tok {S E A B b R r : Int} (hS : 0 ≤ S) (hE : 1 ≤ E) (hA : 0 ≤ A) (hb : 1 ≤ b) (hr : 1 ≤ r) (e1 : B * E = S * (E + A) * b) (e2 : R * E = S * r) (t : Nat) : stV S E A t ≤ tokV B b R r t := by
  by_cases h0 : t = 0
  · subst h0; rw [st_zero, tok_zero]; omega
  · rw [st_pos _ _ _ (by omega), tok_pos _ _ _ _ (by omega)]
    obtain ⟨q, hq⟩ : ∃ q, q = ((t : Int) + A + E - 1) / E := ⟨_, rfl⟩
    have h1 : q * E ≤ (t : Int) + A + E - 1 := by rw [hq]; exact Int.ediv_mul_le _ (by omega)
    rw [← hq]
    have hbr : 1 * 1 ≤ b * r := Int.mul_le_mul hb hr (by omega) (by omega)
    refine (Int.le_ediv_iff_mul_le (by omega)).2 ?_
    refine (mul_le_iff hE).1 ?_
    generalize (t : Int) = T at *
    have k := Int.mul_le_mul_of_nonneg_left h1 (show 0 ≤ S * (b * r) from Int.mul_nonneg hS (by omega))
    have a1 : S * q * (b * r) * E = S * (b * r) * (q * E) := by grind
    have a2 : (B * r + R * (T - 1) * b) * E = S * (b * r) * (T + A + E - 1) := by
      have : (B * r + R * (T - 1) * b) * E = B * E * r + R * E * (T - 1) * b := by grind
      rw [this, e1, e2]; grind
    rw [a1, a2]; exact k
theorem st_one {S E A : Int} (hS : 0 ≤ S) (hE : 1 ≤ E) (hA : 0 ≤ A) : S ≤ stV S E A 1 := by
  rw [st_pos _ _ _ (by omega)]
  have : 1 ≤ (((1 : Nat) : Int) + A + E - 1) / E := (Int.le_ediv_iff_mul_le (by omega)).2 (by omega)
  have h2 : S * 1 ≤ S * ((((1 : Nat) : Int) + A + E - 1) / E) := Int.mul_le_mul_of_nonneg_left this hS
  omega
theorem lecc {h k : Nat → Int} {f g : Cv} (hf : NF h f) (hg : NF k g) (of : f.Fin) (h1 : ∀ t, h t ≤ k t) : LEC f g := fun n => .inr ⟨of.not_infAt n, by rw [hf.at, hg.at]; exact h1 n⟩
theorem atmc {f g : Cv} (hf : f.Ok) (hg : g.Ok) (h : LEC f g) : AtM f g true := .inl ⟨hf, hg, ⟨fun _ n => h.up n, fun _ => rfl⟩⟩
theorem ble_two {x y : PN} {f g m : Cv} {er : Int} (hx : x.Good) (hy : y.Good) (px : TokS x.R x.r x.L x.l f 0) (py : TokS y.R y.r y.L y.l g 0) (of : f.Ok) (og : g.Ok) (h : BLeS [x, y] m er) : er = 3 ∨ (er = 0 ∧ m.Ok ∧ LEC m f ∧ LEC m g) := by
  rcases h with ⟨h, _⟩ | ⟨h, _⟩ | ⟨_, _, ⟨p, hp, hn⟩, _⟩ | ⟨_, _, p, qs, hpq, s, e, h1, h2⟩
  · cases h
  · exact absurd h (by simp)
  · exfalso
    simp only [List.mem_cons, List.not_mem_nil, or_false] at hp
    rcases hp with rfl | rfl
    · exact hn hx
    · exact hn hy
  · injection hpq with e1 e2
    subst e1 e2
    obtain ⟨rfl, rfl⟩ := h1.unique px
    rcases h2 with ⟨h2, _⟩ | ⟨_, k, i, k1, k2⟩
    · exact absurd rfl h2
    · obtain ⟨rfl, rfl⟩ := k1.unique py
      rcases k2 with ⟨k2, _⟩ | ⟨_, t, j, k3, k4⟩
      · exact absurd rfl k2
      · rcases k4 with ⟨rfl, rfl, rfl⟩ | ⟨h0, rfl, rfl⟩
        · obtain ⟨o1, o2, o3, o4⟩ := k3.ok0
          have ea : m.at = exV true s k := funext o4.at
          exact .inr ⟨rfl, o3, min_le1 o1 o2 o3 ea, min_le2 o1 o2 o3 ea⟩
        · left
          rcases k3 with ⟨h, _⟩ | ⟨_, _, a, b, _, _, ⟨_, _, h⟩ | ⟨_, h⟩⟩
          · exact absurd ⟨of, og⟩ h
          · exact h
          · rcases h with ⟨_, _, h⟩ | ⟨_, _, h⟩
            · exact absurd h h0
            · exact h
theorem EnvL.take1 {p : Nat} {w0 w : World} {vs : List (Nat × CR)} {x : Nat × CR} (h : EnvL p w0 w (vs ++ [x])) : EnvL p w0 w vs := ⟨h.s, h.k, fun y hy => h.v y (List.mem_append_left _ hy)⟩
set_option maxHeartbeats 4000000 in
set_option maxRecDepth 100000 in
theorem bkCov_any (A0 : Option Addr) (n0 c0 : Nat) (L0 : List Int) (w : World) (hL : Ints w w.heap.size A0 n0 L0) (hc0 : n0 ≤ c0) (hn0 : (n0 : Int) ≤ 9223372036854775807) :
    Calls Try.prog 10 #[.slice A0 n0 c0] w fun e w' => e = .returned (.bool true) ∧ Below w.heap.size w w' := by
  go_enter Try.func10, Try.ntmps10
  go_wp2_with fail
  refine (new_any A0 n0 c0 L0 w hL hc0 hn0).mono ?_
  rintro e w1 ⟨rfl, hS1, hb1⟩
  have E := Lib.hid (EnvL.start hS1 hb1)
  clear hL hS1 hb1
  -- 30 the bound, _ the world before, w2 the world behind, sn the number
  go_wp2_with fail
  refine (n_any w.heap.size 30 _ (by exact E.out.s) (by omega) (by omega)).mono ?_
  rintro e w2 ⟨z, hz0, hz1, rfl, hS, hk⟩
  have E := Lib.hid (E.out.kept hS hk)
  obtain ⟨sn, rfl⟩ := Int.eq_ofNat_of_zero_le hz0
  have hbsn : sn < 30 := by omega
  clear hz0 hz1 hS hk
  -- 6 the bound, _ the world before, w3 the world behind, en the number
  go_wp2_with fail
  refine (n_any w.heap.size 6 _ (by exact E.out.s) (by omega) (by omega)).mono ?_
  rintro e w3 ⟨z, hz0, hz1, rfl, hS, hk⟩
  have E := Lib.hid (E.out.kept hS hk)
  obtain ⟨en, rfl⟩ := Int.eq_ofNat_of_zero_le hz0
  have hben : en < 6 := by omega
  clear hz0 hz1 hS hk
  -- 9 the bound, _ the world before, w4 the world behind, an the number
  go_wp2_with fail
  refine (n_any w.heap.size 9 _ (by exact E.out.s) (by omega) (by omega)).mono ?_
  rintro e w4 ⟨z, hz0, hz1, rfl, hS, hk⟩
  have E := Lib.hid (E.out.kept hS hk)
  obtain ⟨an, rfl⟩ := Int.eq_ofNat_of_zero_le hz0
  have hban : an < 9 := by omega
  clear hz0 hz1 hS hk
  obtain ⟨S, hS⟩ : ∃ S : Int, S = sn := ⟨_, rfl⟩
  obtain ⟨A, hA⟩ : ∃ A : Int, A = an := ⟨_, rfl⟩
  obtain ⟨En, hEn⟩ : ∃ En : Int, En = 1 + (en : Int) := ⟨_, rfl⟩
  go_upto_region 3 with fail
  rw [← hS, ← hA, ← hEn]
  have hs0 : 0 ≤ S := by omega
  have hs1 : S ≤ 29 := by omega
  have ha0 : 0 ≤ A := by omega
  have ha1 : A ≤ 8 := by omega
  have he0 : 1 ≤ En := by omega
  have he1 : En ≤ 6 := by omega
  clear hS hA hEn hbsn hben hban
  have hp4 := E.out.s.lt
  replace E := Lib.hid (E.out.alloc (.cells #[.int .i64 S, .int .i64 En, .int .i64 A] 76))
  have SB := Lib.hid (Blk.new w4 76 #[.int .i64 S, .int .i64 En, .int .i64 A])
  generalize hwe : w4.alloc (.cells #[.int .i64 S, .int .i64 En, .int .i64 A] 76) = w5 at *
  clear hwe
  generalize w4.heap.size = PS at *
  have OK := Lib.hid (show StOk S En A from by unfold StOk; omega)
  obtain ⟨f, hf1, hf2, hf3⟩ := stc_cur hs0 (by omega) he0 (by omega) ha0 (by omega : A ≤ 100)
  have nf := hf3.n2
  have N1 := Lib.hid hf1; have LM := Lib.hid hf2; have O1 := Lib.hid hf3
  have F1 := Lib.hid (show f.Fin from nf_fin hf1 hf3 (fun t ht => small_ne (by have := st_bd OK.out (k := t) (by omega); omega)))
  clear hf1 hf2 hf3
  obtain ⟨⟨s0, s1, s2⟩, _, hls⟩ := SB.out.c3
  go_wp2_with fail
  refine (steps_any S En A _).mono ?_
  rintro e w6 ⟨f', er, hS, A1, n1, c1, rfl, hI, hA, hb⟩
  obtain ⟨rfl, rfl⟩ : f = f' ∧ er = 0 := by
    rcases hS with ⟨h, _⟩ | ⟨_, h⟩
    · exact absurd OK.out h
    · have h' := h.eq N1.out LM.out
      exact ⟨h'.1.symm, h'.2⟩
  have hl := hI.1
  rw [hl] at nf
  have hps := E.out.s.lt
  have E := Lib.hid (show EnvL w.heap.size w _ _ from (E.out.below hb).push (X := ⟨A1, n1, c1, f⟩) (CR.In.new hI hA hps))
  dsimp only [List.cons_append, List.nil_append] at E
  replace SB := Lib.hid ((SB.out.below hb SB.out.lt).alloc (.cells #[.slice A1 n1 c1, .int .i64 f.per, .int .i64 f.inc] 44))
  clear hS hI hA hb hps hl LM
  clear s0 s1 s2 hls
  go_upto_region 4 with fail
  generalize hwe : w6.alloc (.cells #[.slice A1 n1 c1, .int .i64 f.per, .int .i64 f.inc] 44) = w7 at *
  clear hwe
  generalize w6.heap.size = PF at *
  obtain ⟨X, hX⟩ : ∃ X, X = S * (En + A) := ⟨_, rfl⟩
  have hX0 : 0 ≤ X := by rw [hX]; exact Int.mul_nonneg hs0 (by omega)
  have hX1 : X ≤ 29 * 14 := by rw [hX]; exact Int.mul_le_mul hs1 (by omega) (by omega) (by omega)
  have e1 : IntKind.i64.wrap (S * (En + A)) = X := by rw [← hX]; exact IntWalk.i64_in _ (by omega)
  have HX := Lib.hid hX
  have e2 : S * (En + A) = X := hX.symm
  clear hX
  -- New: X numerator En denominator B b the fraction w8 world behind 5 region
  obtain ⟨⟨s0, s1, s2⟩, _, hls⟩ := SB.out.c3
  go_wp2_with fail
  refine (rnewI_any X En _ (by omega) (by omega) (by omega) (by omega)).mono ?_
  rintro e w8 ⟨rfl, hb⟩
  dsimp only
  have oB := fnew_small2 (n := X) (d := En) (by omega) (by omega) (by omega) (by omega)
  have kB := fnew_ok (n := X) (d := En) (by omega) oB.1
  obtain ⟨iB, jB, mB, nB⟩ := oB
  have mB := mB (by omega)
  generalize fnew X En = qB at *
  obtain ⟨B, b, zB⟩ := qB
  dsimp only at *
  have GB := Lib.hid (show GOk B b from ⟨kB, mB.1⟩); have JB := Lib.hid jB
  obtain ⟨h1B, h2B⟩ := mB
  replace SB := Lib.hid ((SB.out.below hb SB.out.lt).alloc (.cells #[.int .i64 B, .int .i64 b] 23)); replace E := Lib.hid ((E.out.below hb).alloc (.cells #[.int .i64 B, .int .i64 b] 23))
  try (replace UB := Lib.hid ((UB.out.below hb UB.out.lt).alloc (.cells #[.int .i64 B, .int .i64 b] 23)))
  clear hb iB jB kB
  clear s0 s1 s2 hls
  clear e1 e2
  have UB := Lib.hid (Blk.new w8 23 #[.int .i64 B, .int .i64 b])
  go_upto_region 5 with fail
  generalize hwe : w8.alloc (.cells #[.int .i64 B, .int .i64 b] 23) = w9 at *
  clear hwe
  generalize w8.heap.size = PU at *
  -- New: S numerator En denominator R r the fraction w10 world behind 6 region
  obtain ⟨⟨s0, s1, s2⟩, _, hls⟩ := SB.out.c3
  go_wp2_with fail
  refine (rnewI_any S En _ (by omega) (by omega) (by omega) (by omega)).mono ?_
  rintro e w10 ⟨rfl, hb⟩
  dsimp only
  have oR := fnew_small2 (n := S) (d := En) (by omega) (by omega) (by omega) (by omega)
  have kR := fnew_ok (n := S) (d := En) (by omega) oR.1
  obtain ⟨iR, jR, mR, nR⟩ := oR
  have mR := mR (by omega)
  generalize fnew S En = qR at *
  obtain ⟨R, r, zR⟩ := qR
  dsimp only at *
  have GR := Lib.hid (show GOk R r from ⟨kR, mR.1⟩); have JR := Lib.hid jR
  obtain ⟨h1R, h2R⟩ := mR
  replace SB := Lib.hid ((SB.out.below hb SB.out.lt).alloc (.cells #[.int .i64 R, .int .i64 r] 23)); replace E := Lib.hid ((E.out.below hb).alloc (.cells #[.int .i64 R, .int .i64 r] 23))
  try (replace UB := Lib.hid ((UB.out.below hb UB.out.lt).alloc (.cells #[.int .i64 R, .int .i64 r] 23)))
  clear hb iR jR kR
  clear s0 s1 s2 hls
  have VB := Lib.hid (Blk.new w10 23 #[.int .i64 R, .int .i64 r])
  go_upto_region 6 with fail
  generalize hwe : w10.alloc (.cells #[.int .i64 R, .int .i64 r] 23) = w11 at *
  clear hwe
  generalize w10.heap.size = PV at *
  obtain ⟨g, hg1, hg2, hg3⟩ := tokc_cur GB.out GR.out (by omega) (by omega) (by omega)
  have ng := hg3.n2
  have N2 := Lib.hid hg1; have LM := Lib.hid hg2; have O2 := Lib.hid hg3
  clear hg1 hg2 hg3
  obtain ⟨x0, x1⟩ : _ ∧ _ := ⟨UB.out.cell 0, UB.out.cell 1⟩
  obtain ⟨y0, y1⟩ : _ ∧ _ := ⟨VB.out.cell 0, VB.out.cell 1⟩
  simp at x0 x1 y0 y1
  have hlu := UB.out.lt; have hlv := VB.out.lt
  go_wp2_with fail
  refine (token_any B b R r _).mono ?_
  rintro e w12 ⟨g', er, hS, A2, n2, c2, rfl, hI, hA, hb⟩
  obtain ⟨rfl, rfl⟩ : g = g' ∧ er = 0 := (fun h => ⟨h.1.symm, h.2⟩) <| tokc_made GB.out GR.out (by omega) hS N2.out LM.out
  have hl := hI.1
  rw [hl] at ng
  have hps := E.out.s.lt
  have E := Lib.hid (show EnvL w.heap.size w _ _ from (E.out.below hb).push (X := ⟨A2, n2, c2, g⟩) (CR.In.new hI hA hps))
  dsimp only [List.cons_append, List.nil_append] at E
  replace SB := Lib.hid ((SB.out.below hb SB.out.lt).alloc (.cells #[.slice A2 n2 c2, .int .i64 g.per, .int .i64 g.inc] 44))
  clear hS hI hA hb hps hl LM UB VB x0 x1 y0 y1 hlu hlv
  go_upto_region 7 with fail
  generalize hwe : w12.alloc (.cells #[.slice A2 n2 c2, .int .i64 g.per, .int .i64 g.inc] 44) = w13 at *
  clear hwe
  generalize w12.heap.size = PG at *
  have T1 := Lib.hid (atmc O1.out O2.out (lecc N1.out N2.out F1.out (fun t => st_tok hs0 he0 ha0 GB.out.1.1 GR.out.1.1 (by rw [← HX.out]; exact JB.out) JR.out t)))
  obtain ⟨x0, x1, x2, hlx⟩ := (E.out.get 0 rfl).cells
  obtain ⟨y0, y1, y2, hly⟩ := (E.out.get 1 rfl).cells
  go_wp2_with fail
  refine (refAtMost_any A1 A2 n1 n2 c1 c2 f.per f.inc g.per g.inc f.vals g.vals _ (by exact (E.out.get 0 rfl).inn.ints) (by exact (E.out.get 1 rfl).inn.ints) (by omega) (by omega)).mono ?_
  intro e wq hr
  obtain ⟨rfl, hb⟩ := RetM.of T1.out hr
  have E := Lib.hid (E.out.below hb)
  replace SB := Lib.hid (SB.out.below hb SB.out.lt)
  clear hr hb
  clear x0 x1 x2 hlx
  clear y0 y1 y2 hly
  obtain ⟨x0, x1, x2, hlx⟩ := (E.out.get 0 rfl).cells
  go_wp2_with fail
  refine (cval_any A1 n1 c1 f.per f.inc 1 f.vals _ (by exact (E.out.get 0 rfl).inn.ints) (by exact O1.out) (by omega) (by omega)).mono ?_
  obtain ⟨V, hV⟩ : ∃ V, V = Cv.at ⟨f.vals, f.per, f.inc⟩ (1 : Int).toNat := ⟨_, rfl⟩
  have hVS : S ≤ V := by
    rw [hV]
    show S ≤ f.at 1
    rw [N1.out.at]
    exact st_one hs0 he0 ha0
  rw [← hV]
  rintro e wr ⟨rfl, hb⟩
  have E := Lib.hid (E.out.below hb)
  replace SB := Lib.hid (SB.out.below hb SB.out.lt)
  clear hV hb
  clear x0 x1 x2 hlx
  go_upto_region 10 with fail
  go_wp2_with fail
  refine (srcFr_any w.heap.size 30 2 _ (by exact E.out.s) (by omega) (by omega) (by omega) (by omega)).mono ?_
  rintro e wa ⟨u1, v1, hF1, rfl, hS, hk⟩
  have hps := E.out.s.lt
  replace SB := Lib.hid (SB.out.kept (by omega) hk)
  have E := Lib.hid (E.out.kept hS hk)
  clear hS hk hps
  go_wp2_with fail
  refine (srcFr_any w.heap.size 6 2 _ (by exact E.out.s) (by omega) (by omega) (by omega) (by omega)).mono ?_
  rintro e wb ⟨u2, v2, hF2, rfl, hS, hk⟩
  have hps := E.out.s.lt
  replace SB := Lib.hid (SB.out.kept (by omega) hk)
  have E := Lib.hid (E.out.kept hS hk)
  clear hS hk hps
  go_wp2_with fail
  refine (srcFr_any w.heap.size 30 2 _ (by exact E.out.s) (by omega) (by omega) (by omega) (by omega)).mono ?_
  rintro e wc ⟨u3, v3, hF3, rfl, hS, hk⟩
  have hps := E.out.s.lt
  replace SB := Lib.hid (SB.out.kept (by omega) hk)
  have E := Lib.hid (E.out.kept hS hk)
  clear hS hk hps
  go_wp2_with fail
  refine (srcFr_any w.heap.size 6 3 _ (by exact E.out.s) (by omega) (by omega) (by omega) (by omega)).mono ?_
  rintro e wd ⟨u4, v4, hF4, rfl, hS, hk⟩
  have hps := E.out.s.lt
  replace SB := Lib.hid (SB.out.kept (by omega) hk)
  have E := Lib.hid (E.out.kept hS hk)
  clear hS hk hps
  obtain ⟨hG1, hv1, hu1⟩ := hF1
  obtain ⟨hG2, hv2, hu2⟩ := hF2
  obtain ⟨hG3, hv3, hu3⟩ := hF3
  obtain ⟨hG4, hv4, hu4⟩ := hF4
  obtain ⟨p, hp1, hp2, hp3⟩ := tokc_cur hG1 hG2 (by omega) (by omega) (by omega)
  obtain ⟨q, hq1, hq2, hq3⟩ := tokc_cur hG3 hG4 (by omega) (by omega) (by omega)
  have px : TokS u1 v1 u2 v2 p 0 := .inr (.inr ⟨hG1, hG2, by omega, p, hp1, .inl ⟨hp2, rfl, rfl⟩⟩)
  have py : TokS u3 v3 u4 v4 q 0 := .inr (.inr ⟨hG3, hG4, by omega, q, hq1, .inl ⟨hq2, rfl, rfl⟩⟩)
  have BL2 := Lib.hid (show ∀ (m : Cv) (er : Int), BLeS [⟨u1, v1, u2, v2⟩, ⟨u3, v3, u4, v4⟩] m er → er = 3 ∨ (er = 0 ∧ m.Ok ∧ LEC m p ∧ LEC m q) from fun m er h => ble_two (x := ⟨u1, v1, u2, v2⟩) (y := ⟨u3, v3, u4, v4⟩) ⟨hG1, hG2⟩ ⟨hG3, hG4⟩ px py hp3 hq3 h)
  have P1 := Lib.hid px; have P2 := Lib.hid py; have OP := Lib.hid hp3; have OQ := Lib.hid hq3
  clear hG1 hG2 hG3 hG4 hp1 hp2 hp3 hq1 hq2 hq3 px py hv1 hv2 hv3 hv4 hu1 hu2 hu3 hu4
  have BLw := balloc wd (.cells #[.int .i64 u1, .int .i64 v1, .int .i64 u2, .int .i64 v2, .int .i64 u3, .int .i64 v3, .int .i64 u4, .int .i64 v4] 27)
  have LB := Blk.new wd 27 #[.int .i64 u1, .int .i64 v1, .int .i64 u2, .int .i64 v2, .int .i64 u3, .int .i64 v3, .int .i64 u4, .int .i64 v4]
  have ROW := Lib.hid (show RowQ (wd.alloc (.cells #[.int .i64 u1, .int .i64 v1, .int .i64 u2, .int .i64 v2, .int .i64 u3, .int .i64 v3, .int .i64 u4, .int .i64 v4] 27)) wd.heap.size 0 [⟨u1, v1, u2, v2⟩, ⟨u3, v3, u4, v4⟩] from ⟨LB.lt, fun i j z hz hj => by
    rw [LB.cell]
    have hj' : j = 0 ∨ j = 1 ∨ j = 2 ∨ j = 3 := by omega
    match i, hz with
    | 0, hz => injection hz with hz; subst hz; rcases hj' with rfl | rfl | rfl | rfl <;> rfl
    | 1, hz => injection hz with hz; subst hz; rcases hj' with rfl | rfl | rfl | rfl <;> rfl
    | i + 2, hz => simp at hz⟩)
  have E := Lib.hid (E.out.below BLw)
  replace SB := Lib.hid (SB.out.below BLw SB.out.lt)
  clear BLw LB
  go_upto_region 11 with fail
  generalize hwe : wd.alloc (.cells #[.int .i64 u1, .int .i64 v1, .int .i64 u2, .int .i64 v2, .int .i64 u3, .int .i64 v3, .int .i64 u4, .int .i64 v4] 27) = we at *
  clear hwe
  generalize wd.heap.size = PL at *
  go_wp2_with fail
  refine (bkLeast_any _ 2 2 [⟨u1, v1, u2, v2⟩, ⟨u3, v3, u4, v4⟩] _ rfl (by omega) (by omega) (fun _ => ⟨_, _, rfl, ROW.out⟩)).mono ?_
  rintro e wm ⟨m, er, hS, A3, n3, c3, rfl, hI, hA, hb⟩
  have HB := Lib.hid (BL2.out _ _ hS)
  have hps := E.out.s.lt
  have ROW := Lib.hid ((ROW.out.below hb).below (balloc _ (.cells #[.slice A3 n3 c3, .int .i64 m.per, .int .i64 m.inc] 44)))
  have E := Lib.hid (show EnvL w.heap.size w _ _ from (E.out.below hb).push (X := ⟨A3, n3, c3, m⟩) (CR.In.new hI hA hps))
  dsimp only [List.cons_append, List.nil_append] at E
  replace SB := Lib.hid ((SB.out.below hb SB.out.lt).alloc (.cells #[.slice A3 n3 c3, .int .i64 m.per, .int .i64 m.inc] 44))
  have HLI := Lib.hid hI.1
  clear hS hI hA hb hps BL2
  go_upto_region 12 with fail
  generalize hwe : wm.alloc (.cells #[.slice A3 n3 c3, .int .i64 m.per, .int .i64 m.inc] 44) = wn at *
  clear hwe
  generalize wm.heap.size = PM at *
  have dV : decide (V < S) = false := by simp; omega
  obtain ⟨⟨s0, s1, s2⟩, _, hls⟩ := SB.out.c3
  rcases HB.out with he | ⟨he, hmo, hl1, hl2⟩
  · subst he
    go_wp2_with fail
    refine (awake11_any _).mono ?_
    rintro e wz ⟨rfl, hb⟩
    have bw := (E.out.below hb).fin
    go_wp2_with fail
    try rw [Exit.noGoto_ret]
    go_ret
    exact ⟨rfl, bw⟩
  · subst he
    have hm4 : n3 ≤ 400 := by have h1 := hmo.n2; have h2 := HLI.out; omega
    have ALL := Lib.hid (show ∀ x ∈ [(⟨u1, v1, u2, v2⟩ : PN), ⟨u3, v3, u4, v4⟩], ∃ k : Cv, k.Ok ∧ TokS x.R x.r x.L x.l k 0 ∧ AtM m k true from fun x hx => by
      simp only [List.mem_cons, List.not_mem_nil, or_false] at hx
      rcases hx with rfl | rfl
      · exact ⟨p, OP.out, P1.out, atmc hmo OP.out hl1⟩
      · exact ⟨q, OQ.out, P2.out, atmc hmo OQ.out hl2⟩)
    clear hmo hl1 hl2 HB P1 P2 OP OQ
    go_upto_region 14 with fail
    clear s0 s1 s2 hls
    clear SB dV
    go_wp2_with fail
    go_loopg [128] 2 (fun gg s128 wx => ∃ k : Nat, k + gg = 2 ∧ s128 = .int .i64 k ∧ EnvL w.heap.size w wx [(PF, ⟨A1, n1, c1, f⟩), (PG, ⟨A2, n2, c2, g⟩), (PM, ⟨A3, n3, c3, m⟩)] ∧ RowQ wx PL 0 [⟨u1, v1, u2, v2⟩, ⟨u3, v3, u4, v4⟩])
    case atStart => exact ⟨0, by omega, rfl, E.out, ROW.out⟩
    case round =>
      clear E ROW
      obtain ⟨k, hkg, rfl, hE, hROW⟩ := hrel
      have E := Lib.hid hE; have ROW := Lib.hid hROW
      clear hE hROW
      by_cases hk : k < 2
      · have hki : (k : Int) < 2 := by omega
        obtain ⟨x, hx, x0, x1, x2, x3⟩ := ROW.out.get (k := k) (by exact hk)
        obtain ⟨z, hzo, hzs, hza⟩ := ALL.out x (List.mem_of_getElem? hx)
        have OZ := Lib.hid hzo; have ZS := Lib.hid hzs; have ZA := Lib.hid hza
        have nz := hzo.n2
        have hgl := ROW.out.lt
        simp only [Nat.zero_add] at x0 x1 x2 x3
        have XB := Lib.hid (Blk.new wr 27 #[.int .i64 x.R, .int .i64 x.r, .int .i64 x.L, .int .i64 x.l])
        replace E := Lib.hid (E.out.alloc (.cells #[.int .i64 x.R, .int .i64 x.r, .int .i64 x.L, .int .i64 x.l] 27)); replace ROW := Lib.hid (ROW.out.below (balloc wr (.cells #[.int .i64 x.R, .int .i64 x.r, .int .i64 x.L, .int .i64 x.l] 27)))
        clear hx hzo hzs hza
        go_upto_region 17 with fail
        clear x0 x1 x2 x3 hgl
        generalize hwe : wr.alloc (.cells #[.int .i64 x.R, .int .i64 x.r, .int .i64 x.L, .int .i64 x.l] 27) = wf at *
        clear hwe
        generalize wr.heap.size = PX at *
        obtain ⟨x0, x1, x2, x3⟩ : _ ∧ _ ∧ _ ∧ _ := ⟨XB.out.cell 0, XB.out.cell 1, XB.out.cell 2, XB.out.cell 3⟩
        simp at x0 x1 x2 x3
        have hlx := XB.out.lt
        go_wp2_with fail
        refine (token_any x.R x.r x.L x.l _).mono ?_
        rintro e wg ⟨z', er, hS, A4, n4, c4, rfl, hI, hA, hb⟩
        obtain ⟨rfl, rfl⟩ : z = z' ∧ er = 0 := by
          have h := hS.unique ZS.out
          exact ⟨h.1.symm, h.2⟩
        have hl := hI.1
        rw [hl] at nz
        have hps := E.out.s.lt
        replace ROW := Lib.hid ((ROW.out.below hb).below (balloc _ (.cells #[.slice A4 n4 c4, .int .i64 z.per, .int .i64 z.inc] 44)))
        have E := Lib.hid (show EnvL w.heap.size w _ _ from (E.out.below hb).push (X := ⟨A4, n4, c4, z⟩) (CR.In.new hI hA hps))
        dsimp only [List.cons_append, List.nil_append] at E
        clear hS hI hA hb hps hl XB x0 x1 x2 x3 hlx
        go_upto_region 18 with fail
        generalize hwe : wg.alloc (.cells #[.slice A4 n4 c4, .int .i64 z.per, .int .i64 z.inc] 44) = wh at *
        clear hwe
        generalize wg.heap.size = PZ at *
        obtain ⟨x0, x1, x2, hlx⟩ := (E.out.get 2 rfl).cells
        obtain ⟨y0, y1, y2, hly⟩ := (E.out.get 3 rfl).cells
        go_wp2_with fail
        refine (refAtMost_any A3 A4 n3 n4 c3 c4 m.per m.inc z.per z.inc m.vals z.vals _ (by exact (E.out.get 2 rfl).inn.ints) (by exact (E.out.get 3 rfl).inn.ints) (by omega) (by omega)).mono ?_
        intro e wq hr
        obtain ⟨rfl, hb⟩ := RetM.of ZA.out hr
        have E := Lib.hid (E.out.below hb)
        replace ROW := Lib.hid (ROW.out.below hb)
        clear hr hb
        clear x0 x1 x2 hlx
        clear y0 y1 y2 hly
        go_wp2_with fail
        go_roundg (gk - 1)
        case measure => omega
        case rel => exact ⟨k + 1, by omega, by go_num, EnvL.take1 (vs := [_, _, _]) E.out, ROW.out⟩
      · have hki : ¬ (k : Int) < 2 := by omega
        go_wp2_with fail
        refine (awake11_any _).mono ?_
        rintro e wz ⟨rfl, hb⟩
        have bw := (E.out.below hb).fin
        go_wp2_with fail
        try rw [Exit.noGoto_ret]
        go_ret
        exact ⟨rfl, bw⟩
end Go.Proofs.Ythgfmaijoigckaa
