/- bucket.Token and Steps: what they return. -/
import Derived.Test.YthdibkmjoiipgaaBk
import Derived.Test.YthdibkmjoiipgaaTokLaw
import Derived.Test.YthdibkmjoiipgaaFlat
namespace Go.Proofs.Ythdibkmjoiipgaa
open Go.RowKit
set_option linter.unusedVariables false

def RetQ (a b : Int) (w : World) (e : Ending) (w' : World) : Prop :=
  ∃ q m : Int, Hid (q = a / b) ∧ Hid (m = a % b) ∧ (0 ≤ q ∧ q ≤ a ∧ 0 ≤ m ∧ m < b) ∧ e = .returned (.tuple #[.int .i64 q, .int .i64 m]) ∧ Below w.heap.size w w'
theorem split_any (a b : Int) (w : World) (ha0 : 0 ≤ a) (ha : a ≤ 4611686018427387904) (hb1 : 1 ≤ b) (hb : b ≤ 4611686018427387904) :
    Calls Try.prog 78 #[.int .i64 a, .int .i64 b] w (RetQ a b w) := by
  obtain ⟨q, hq⟩ : ∃ q, q = a / b := ⟨_, rfl⟩
  obtain ⟨m, hm⟩ : ∃ m, m = a % b := ⟨_, rfl⟩
  have hq0 : 0 ≤ q := by rw [hq]; exact Int.ediv_nonneg ha0 (by omega)
  have hqa : q ≤ a := by rw [hq]; exact Int.ediv_le_self _ ha0
  have hm0 : 0 ≤ m := by rw [hm]; exact Int.emod_nonneg _ (by omega)
  have hmb : m < b := by rw [hm]; exact Int.emod_lt_of_pos _ (by omega)
  have e1 : a.tdiv b = q := by rw [Int.tdiv_eq_ediv_of_nonneg ha0]; exact hq.symm
  have e2 : a.tmod b = m := by rw [Int.tmod_eq_emod_of_nonneg ha0]; exact hm.symm
  have e3 : a / b = q := hq.symm
  have e4 : a % b = m := hm.symm
  have e5 : IntKind.i64.wrap q = q := IntWalk.i64_in _ (by omega)
  have e6 : IntKind.i64.wrap m = m := IntWalk.i64_in _ (by omega)
  have hbn : b ≠ 0 := by omega
  have HQ := Lib.hid hq; have HM := Lib.hid hm
  clear hq hm
  go_enter Try.func78, Try.ntmps78
  go_wp2_with fail
  go_quiet (fail)
  clear e1 e2 e3 e4 e5 e6
  go_wp2_with fail
  go_ret2
  exact ⟨q, m, HQ, HM, ⟨hq0, hqa, hm0, hmb⟩, rfl, bdrewN (Below.refl _ _)⟩
set_option maxHeartbeats 1000000 in
theorem token1_any (P1 P2 P3 : Nat) (B b R r : Int) (t : Nat) (w : World) (h1 : Blk w P1 27 #[.int .i64 B, .int .i64 b, .int .i64 R, .int .i64 r]) (h2 : Blk w P2 3 #[.int .i64 (B % b)]) (h3 : Blk w P3 3 #[.int .i64 (B / b)])
    (hB0 : 0 ≤ B) (hB1 : B ≤ 1073741824) (hb0 : 1 ≤ b) (hb1 : b ≤ 1073741824) (hR0 : 0 ≤ R) (hR1 : R ≤ 1073741824) (hr0 : 1 ≤ r) (hr1 : r ≤ 120) (ht : t ≤ 1000) :
    Calls Try.prog 79 (#[.int .i64 t] ++ #[.pointer (some ⟨P1, 0, none⟩), .pointer (some ⟨P2, 0, none⟩), .pointer (some ⟨P3, 0, none⟩)]) w fun e w' => e = .returned (.int .i64 (tokV B b R r t)) ∧ Below w.heap.size w w' := by
  show Calls _ _ #[.int .i64 t, .pointer (some ⟨P1, 0, none⟩), .pointer (some ⟨P2, 0, none⟩), .pointer (some ⟨P3, 0, none⟩)] _ _
  by_cases h0 : t = 0
  · subst h0
    rw [tok_zero]
    go_enter Try.func79, Try.ntmps79
    go_wp2_with fail
    go_ret
    exact ⟨rfl, Below.refl _ _⟩
  · have hti : ((t : Int) == 0) = false := by simp; omega
    have hti2 : (t == 0) = false := by simp; omega
    have ht1 : 1 ≤ (t : Int) := by omega
    have hX0 : 0 ≤ R * ((t : Int) - 1) := Int.mul_nonneg hR0 (by omega)
    have hX1 : R * ((t : Int) - 1) ≤ 1073741824 * 1000 := Int.mul_le_mul hR1 (by omega) (by omega) (by omega)
    have FT := Lib.hid (show tokV B b R r t = B / b + R * ((t : Int) - 1) / r + (B % b * r + R * ((t : Int) - 1) % r * b) / (b * r) from by
      rw [tok_pos _ _ _ _ (by omega)]; exact tok_parts hb0 hr0)
    obtain ⟨W, hW⟩ : ∃ W, W = B / b := ⟨_, rfl⟩
    obtain ⟨V, hV⟩ : ∃ V, V = B % b := ⟨_, rfl⟩
    rw [← hV] at h2
    rw [← hW] at h3
    have hW0 : 0 ≤ W := by rw [hW]; exact Int.ediv_nonneg hB0 (by omega)
    have hW1 : W ≤ B := by rw [hW]; exact Int.ediv_le_self _ hB0
    have hV0 : 0 ≤ V := by rw [hV]; exact Int.emod_nonneg _ (by omega)
    have hV1 : V < b := by rw [hV]; exact Int.emod_lt_of_pos _ (by omega)
    have HW := Lib.hid hW; have HV := Lib.hid hV
    have H1 := Lib.hid h1; have H2 := Lib.hid h2; have H3 := Lib.hid h3
    have BW := Lib.hid (Below.refl w.heap.size w)
    clear hW hV h1 h2 h3 h0
    go_enter Try.func79, Try.ntmps79
    obtain ⟨x0, x1, x2, x3⟩ : _ ∧ _ ∧ _ ∧ _ := ⟨H1.out.cell 0, H1.out.cell 1, H1.out.cell 2, H1.out.cell 3⟩
    obtain ⟨y0, y1⟩ : _ ∧ _ := ⟨H2.out.cell 0, H3.out.cell 0⟩
    simp at x0 x1 x2 x3 y0 y1
    go_wp2_with fail
    refine (split_any (R * ((t : Int) - 1)) r _ hX0 (by omega) hr0 (by omega)).mono ?_
    rintro e w1 ⟨q, m, hq, hm, ⟨hq0, hq1, hm0, hm1⟩, rfl, hb⟩
    replace H1 := Lib.hid (H1.out.below hb H1.out.lt); replace H2 := Lib.hid (H2.out.below hb H2.out.lt); replace H3 := Lib.hid (H3.out.below hb H3.out.lt); replace BW := Lib.hid (bthen BW.out hb)
    clear hb x0 x1 x2 x3 y0 y1
    obtain ⟨x0, x1, x2, x3⟩ : _ ∧ _ ∧ _ ∧ _ := ⟨H1.out.cell 0, H1.out.cell 1, H1.out.cell 2, H1.out.cell 3⟩
    obtain ⟨y0, y1⟩ : _ ∧ _ := ⟨H2.out.cell 0, H3.out.cell 0⟩
    simp at x0 x1 x2 x3 y0 y1
    have hp1 : 0 ≤ V * r := Int.mul_nonneg hV0 (by omega)
    have hp2 : V * r ≤ 1073741824 * 120 := Int.mul_le_mul (by omega) hr1 (by omega) (by omega)
    have hp3 : 0 ≤ m * b := Int.mul_nonneg hm0 (by omega)
    have hp4 : m * b ≤ 120 * 1073741824 := Int.mul_le_mul (by omega) hb1 (by omega) (by omega)
    have hp5 : 1 ≤ b * r := by
      have : 1 * 1 ≤ b * r := Int.mul_le_mul hb0 hr0 (by omega) (by omega)
      omega
    have hp6 : b * r ≤ 1073741824 * 120 := Int.mul_le_mul hb1 hr1 (by omega) (by omega)
    go_wp2_with fail
    refine (split_any (V * r + m * b) (b * r) _ (by omega) (by omega) hp5 (by omega)).mono ?_
    rintro e w2 ⟨q2, m2, hq', hm', ⟨hq20, hq21, hm20, hm21⟩, rfl, hb⟩
    replace H1 := Lib.hid (H1.out.below hb H1.out.lt); replace H2 := Lib.hid (H2.out.below hb H2.out.lt); replace H3 := Lib.hid (H3.out.below hb H3.out.lt); replace BW := Lib.hid (bthen BW.out hb)
    clear hb x0 x1 x2 x3 y0 y1
    obtain ⟨x0, x1, x2, x3⟩ : _ ∧ _ ∧ _ ∧ _ := ⟨H1.out.cell 0, H1.out.cell 1, H1.out.cell 2, H1.out.cell 3⟩
    obtain ⟨y0, y1⟩ : _ ∧ _ := ⟨H2.out.cell 0, H3.out.cell 0⟩
    simp at x0 x1 x2 x3 y0 y1
    have F := Lib.hid (show tokV B b R r t = W + q + q2 from by rw [FT.out, HW.out, hq.out, hq'.out, HV.out, hm.out])
    clear hq hm hq' hm'
    go_wp2_with fail
    go_ret
    exact ⟨ret_int F.out.symm, BW.out⟩
/-- what Token returns -/
def TokS (B b R r : Int) (f : Cv) (er : Int) : Prop :=
  (¬ (GOk B b ∧ GOk R r) ∧ f = Cv.none ∧ er = 2) ∨ (GOk B b ∧ GOk R r ∧ 120 < r ∧ f = Cv.none ∧ er = 3) ∨ (GOk B b ∧ GOk R r ∧ r ≤ 120 ∧ MadeS (tokV B b R r) f er)
theorem TokS.unique {B b R r : Int} {f g : Cv} {e e' : Int} (h : TokS B b R r f e) (k : TokS B b R r g e') : f = g ∧ e = e' := by
  rcases h with ⟨h0, rfl, rfl⟩ | ⟨h0, h1, h2, rfl, rfl⟩ | ⟨h0, h1, h2, h3⟩ <;> rcases k with ⟨k0, rfl, rfl⟩ | ⟨k0, k1, k2, rfl, rfl⟩ | ⟨k0, k1, k2, k3⟩
  · exact ⟨rfl, rfl⟩
  · exact absurd ⟨k0, k1⟩ h0
  · exact absurd ⟨k0, k1⟩ h0
  · exact absurd ⟨h0, h1⟩ k0
  · exact ⟨rfl, rfl⟩
  · omega
  · exact absurd ⟨h0, h1⟩ k0
  · omega
  · exact MadeS.unique h3 k3
theorem tok_bd {B b R r : Int} (hB : GOk B b) (hR : GOk R r) {k : Nat} (hk : k ≤ 1000) : 0 ≤ tokV B b R r k ∧ tokV B b R r k ≤ 2000000000000 := by
  refine ⟨(tok_up hB.2 hB.1.1 hR.2 hR.1.1).nn k, ?_⟩
  by_cases h0 : k = 0
  · rw [h0, tok_zero]; omega
  · have h1 := tok_le hB.2 hB.1.1 hR.2 hR.1.1 (t := k) (by omega)
    have h2 : R * ((k : Int) - 1) ≤ 1073741824 * 1000 := Int.mul_le_mul hR.1.2.2.2.1 (by omega) (by omega) (by omega)
    have := hB.1.2.2.2.1
    omega
theorem small_ne {x : Int} (h : x ≤ 1000000000000000000) : x ≠ inf := by unfold inf; omega
set_option maxHeartbeats 1000000 in
theorem tokenK_any (B b R r : Int) (w : World) :
    Calls Try.prog 23 #[.agg #[.int .i64 B, .int .i64 b, .int .i64 R, .int .i64 r]] w (RetSK (TokS B b R r) w) := by
  have E := Lib.hid ((BE.new w B b R r).alloc (.cells #[.slice none 0 0, .int .i64 0, .int .i64 0] 46))
  have rb := Blk.new (w.alloc (.cells #[.int .i64 B, .int .i64 b, .int .i64 R, .int .i64 r] 27)) 46 #[.slice none 0 0, .int .i64 0, .int .i64 0]
  rw [World.size_alloc] at rb
  have RB := Lib.hid rb
  clear rb
  go_enter Try.func23, Try.ntmps23
  obtain ⟨f0, f1, f2, f3, hlf⟩ := E.out.cells
  go_wp2_with fail
  refine (bvalid_any B b R r _).mono ?_
  by_cases hok : GOk B b ∧ GOk R r
  · rw [bokB_t hok]
    rintro e w1 ⟨rfl, hb⟩
    replace RB := Lib.hid (RB.out.below hb RB.out.lt)
    have E := Lib.hid (E.out.below hb)
    clear hb
    clear f0 f1 f2 f3 hlf
    obtain ⟨f0, f1, f2, f3, hlf⟩ := E.out.cells
    have hB0 := hok.1.2; have hB1 := hok.1.1.2.2.2.1; have hb0 := hok.1.1.1; have hb1 := hok.1.1.2.1
    have hR0 := hok.2.2; have hR1 := hok.2.1.2.2.2.1; have hr0 := hok.2.1.1; have hr1 := hok.2.1.2.1
    have OK := Lib.hid hok
    clear hok
    by_cases hr : 120 < r
    · have F := Lib.hid (show TokS B b R r Cv.none 3 from .inr (.inl ⟨OK.out.1, OK.out.2, hr, rfl, rfl⟩))
      have BW := Lib.hid E.out.bw
      -- no curve: netcalculus/bucket.Token the function, 3 the error
      obtain ⟨⟨r0, r1, r2⟩, ⟨y0, y1, y2⟩, hlr⟩ := RB.out.c3
      go_wp2_with fail
      have rb := RB.out.store3 (.slice none 0 0) (.int .i64 0) (.int .i64 0)
      exact bodyPost_ret (v := .tuple #[.agg #[.slice none 0 0, .int .i64 0, .int .i64 0], .int .i64 3]) (by simp [results, Try.results23, go_sem, rb.cell]) rfl
        ⟨Cv.none, 3, F.out, none, 0, 0, Nat.le_refl 0, rfl, Ints.none_, (fun b off s h => by cases h), ((BW.out.setCell (by simp) _).setCell (by simp) _).setCell (by simp) _⟩
    · go_wp2_with fail
      refine (split_any B b _ hB0 (by omega) hb0 (by omega)).mono ?_
      rintro e w2 ⟨q, m, hq, hm, _, rfl, hb⟩
      replace RB := Lib.hid (RB.out.below hb RB.out.lt)
      have E := Lib.hid (E.out.below hb)
      clear hb
      clear f0 f1 f2 f3 hlf
      have hs0 := RB.out.lt
      replace RB := Lib.hid ((RB.out.alloc (.cells #[.int .i64 q] 3)).alloc (.cells #[.int .i64 m] 3))
      have E := Lib.hid ((E.out.alloc (.cells #[.int .i64 q] 3)).alloc (.cells #[.int .i64 m] 3))
      have Q1 := Lib.hid ((Blk.new w2 3 #[.int .i64 q]).alloc (.cells #[.int .i64 m] 3))
      have q2 := Blk.new (w2.alloc (.cells #[.int .i64 q] 3)) 3 #[.int .i64 m]
      rw [World.size_alloc] at q2
      have Q2 := Lib.hid q2
      clear q2
      go_upto_region 6 with fail
      generalize hwe : (w2.alloc (.cells #[.int .i64 q] 3)).alloc (.cells #[.int .i64 m] 3) = w3 at *
      clear hwe
      have hs1 : w.heap.size + 1 < w3.heap.size := RB.out.lt
      obtain ⟨f0, f1, f2, f3, hlf⟩ := E.out.cells
      go_wp2_with fail
      refine (buildK_any 79 #[.pointer (some ⟨w.heap.size, 0, none⟩), .pointer (some ⟨w2.heap.size + 1, 0, none⟩), .pointer (some ⟨w2.heap.size, 0, none⟩)] 1 r R (tokV B b R r) _ (by omega) (by omega) hr0 (by omega) hR0 (by omega)
        (fun k hk => by have := tok_bd OK.out.1 OK.out.2 (k := k) (by omega); omega)
        (fun t w4 ht hb => token1_any w.heap.size (w2.heap.size + 1) w2.heap.size B b R r t w4 (E.out.bb.below hb E.out.bb.lt) (by rw [← hm.out]; exact Q2.out.below hb Q2.out.lt) (by rw [← hq.out]; exact Q1.out.below hb Q1.out.lt) hB0 hB1 hb0 hb1 hR0 hR1 hr0 (by omega) (by omega)) (fun x w => by kernel_rfl)).mono ?_
      rintro e w5 ⟨f, er, hS, A5, n5, c5, hc5, rfl, hI5, hA5, hb⟩
      have hM := build_made (h := tokV B b R r) (s := 1) (p := r.toNat) (i := R) (by omega) (fun t u h1 _ h => absurd h (small_ne (by have := tok_bd OK.out.1 OK.out.2 (k := t) (by omega); omega))) (fun _ => tok_per hb0 hr0) hS
      have F := Lib.hid (show TokS B b R r f er from .inr (.inr ⟨OK.out.1, OK.out.2, by omega, hM⟩))
      replace RB := Lib.hid (RB.out.below hb RB.out.lt)
      have BW := Lib.hid (bthen E.out.bw hb)
      have HI5 := Lib.hid hI5; have HA5 := Lib.hid hA5
      clear hS hI5 hA5 hb hM E Q1 Q2 hq hm hs0
      have hs0 := hs1
      clear f0 f1 f2 f3 hlf
      -- the curve f with the error er: netcalculus/bucket.Token the function
      obtain ⟨⟨r0, r1, r2⟩, ⟨y0, y1, y2⟩, hlr⟩ := RB.out.c3
      go_wp2_with fail
      have rb := RB.out.store3 (.slice A5 n5 c5) (.int .i64 f.per) (.int .i64 f.inc)
      exact bodyPost_ret (v := .tuple #[.agg #[.slice A5 n5 c5, .int .i64 f.per, .int .i64 f.inc], .int .i64 er]) (by simp [results, Try.results23, go_sem, rb.cell]) rfl
        ⟨f, er, F.out, retK_store3' hc5 HA5.out (by omega) hs0 HI5.out BW.out⟩
  · rw [bokB_f hok]
    have F := Lib.hid (show TokS B b R r Cv.none 2 from .inl ⟨hok, rfl, rfl⟩)
    clear hok
    rintro e w1 ⟨rfl, hb⟩
    replace RB := Lib.hid (RB.out.below hb RB.out.lt)
    have BW := Lib.hid (bthen E.out.bw hb)
    clear hb
    clear f0 f1 f2 f3 hlf
    -- no curve: netcalculus/bucket.Token the function, 2 the error
    obtain ⟨⟨r0, r1, r2⟩, ⟨y0, y1, y2⟩, hlr⟩ := RB.out.c3
    go_wp2_with fail
    have rb := RB.out.store3 (.slice none 0 0) (.int .i64 0) (.int .i64 0)
    exact bodyPost_ret (v := .tuple #[.agg #[.slice none 0 0, .int .i64 0, .int .i64 0], .int .i64 2]) (by simp [results, Try.results23, go_sem, rb.cell]) rfl
      ⟨Cv.none, 2, F.out, none, 0, 0, Nat.le_refl 0, rfl, Ints.none_, (fun b off s h => by cases h), ((BW.out.setCell (by simp) _).setCell (by simp) _).setCell (by simp) _⟩
set_option maxHeartbeats 1000000 in
theorem steps1_any (P : Nat) (S E A : Int) (t : Nat) (w : World) (h1 : Blk w P 44 #[.int .i64 S, .int .i64 E, .int .i64 A])
    (hS0 : 0 ≤ S) (hS1 : S ≤ 1073741824) (hE0 : 1 ≤ E) (hE1 : E ≤ 120) (hA0 : 0 ≤ A) (hA1 : A ≤ 1048576) (ht : t ≤ 1000) :
    Calls Try.prog 86 (#[.int .i64 t] ++ #[.pointer (some ⟨P, 0, none⟩)]) w fun e w' => e = .returned (.int .i64 (stV S E A t)) ∧ Below w.heap.size w w' := by
  show Calls _ _ #[.int .i64 t, .pointer (some ⟨P, 0, none⟩)] _ _
  by_cases h0 : t = 0
  · subst h0
    rw [st_zero]
    go_enter Try.func86, Try.ntmps86
    go_wp2_with fail
    go_ret
    exact ⟨rfl, Below.refl _ _⟩
  · have hti : ((t : Int) == 0) = false := by simp; omega
    have hti2 : (t == 0) = false := by simp; omega
    have FT := Lib.hid (st_pos S E A (t := t) (by omega))
    obtain ⟨q, hq⟩ : ∃ q, q = ((t : Int) + A + E - 1) / E := ⟨_, rfl⟩
    have hq0 : 0 ≤ q := by rw [hq]; exact Int.ediv_nonneg (by omega) (by omega)
    have hq1 : q ≤ (t : Int) + A + E - 1 := by rw [hq]; exact Int.ediv_le_self _ (by omega)
    have hp0 : 0 ≤ S * q := Int.mul_nonneg hS0 hq0
    have hp1 : S * q ≤ 1073741824 * 1050000 := Int.mul_le_mul hS1 (by omega) hq0 (by omega)
    have e1 : IntKind.i64.wrap ((t : Int) + A) = (t : Int) + A := IntWalk.i64_in _ (by omega)
    have e2 : IntKind.i64.wrap ((t : Int) + A + E) = (t : Int) + A + E := IntWalk.i64_in _ (by omega)
    have e3 : IntKind.i64.wrap ((t : Int) + A + E - 1) = (t : Int) + A + E - 1 := IntWalk.i64_in _ (by omega)
    have e4 : ((t : Int) + A + E - 1).tdiv E = q := by rw [Int.tdiv_eq_ediv_of_nonneg (by omega)]; exact hq.symm
    have e5 : ((t : Int) + A + E - 1) / E = q := hq.symm
    have e6 : IntKind.i64.wrap q = q := IntWalk.i64_in _ (by omega)
    have e7 : IntKind.i64.wrap (S * q) = S * q := IntWalk.i64_in _ (by omega)
    have hEn : E ≠ 0 := by omega
    have HQ := Lib.hid hq
    have x0 := h1.cell 0; have x1 := h1.cell 1; have x2 := h1.cell 2
    simp at x0 x1 x2
    have hlx := h1.lt
    clear hq h1 h0
    go_enter Try.func86, Try.ntmps86
    go_wp2_with fail
    go_quiet (fail)
    clear e1 e2 e3 e4 e5 e6 e7
    go_wp2_with fail
    go_ret
    exact ⟨ret_int (by rw [FT.out, ← HQ.out]), bdrewN (Below.refl _ _)⟩
def StOk (S E A : Int) : Prop := 0 ≤ S ∧ S ≤ 1073741824 ∧ 1 ≤ E ∧ E ≤ 120 ∧ 0 ≤ A ∧ A ≤ 1048576
/-- what Steps returns -/
def StS (S E A : Int) (f : Cv) (er : Int) : Prop := (¬ StOk S E A ∧ f = Cv.none ∧ er = 2) ∨ (StOk S E A ∧ MadeS (stV S E A) f er)
theorem StS.unique {S E A : Int} {f g : Cv} {e e' : Int} (h : StS S E A f e) (k : StS S E A g e') : f = g ∧ e = e' := by
  rcases h with ⟨h0, rfl, rfl⟩ | ⟨h0, h3⟩ <;> rcases k with ⟨k0, rfl, rfl⟩ | ⟨k0, k3⟩
  · exact ⟨rfl, rfl⟩
  · exact absurd k0 h0
  · exact absurd h0 k0
  · exact MadeS.unique h3 k3
theorem st_bd {S E A : Int} (h : StOk S E A) {k : Nat} (hk : k ≤ 1000) : 0 ≤ stV S E A k ∧ stV S E A k ≤ 2000000000000000 := by
  obtain ⟨h1, h2, h3, h4, h5, h6⟩ := h
  refine ⟨(st_up h1 h3 h5).nn k, ?_⟩
  by_cases h0 : k = 0
  · rw [h0, st_zero]; omega
  · have h7 := st_le h1 h3 h5 (t := k) (by omega)
    have h8 : S * ((k : Int) + A) ≤ 1073741824 * 1050000 := Int.mul_le_mul h2 (by omega) (by omega) (by omega)
    omega
theorem st_none (E A : Int) : stV 0 E A = fun _ => 0 := by
  funext t
  unfold stV
  split
  · rfl
  · exact Int.zero_mul _
set_option maxHeartbeats 1000000 in
theorem stepsK_any (S E A : Int) (w : World) :
    Calls Try.prog 28 #[.agg #[.int .i64 S, .int .i64 E, .int .i64 A]] w (RetSK (StS S E A) w) := by
  have SB := Lib.hid ((Blk.new w 44 #[.int .i64 S, .int .i64 E, .int .i64 A]).alloc (.cells #[.slice none 0 0, .int .i64 0, .int .i64 0] 46))
  have rb := Blk.new (w.alloc (.cells #[.int .i64 S, .int .i64 E, .int .i64 A] 44)) 46 #[.slice none 0 0, .int .i64 0, .int .i64 0]
  rw [World.size_alloc] at rb
  have RB := Lib.hid rb
  have BW := Lib.hid (bthen (balloc w (.cells #[.int .i64 S, .int .i64 E, .int .i64 A] 44)) (balloc _ (.cells #[.slice none 0 0, .int .i64 0, .int .i64 0] 46)))
  clear rb
  obtain ⟨⟨x0, x1, x2⟩, _, hlx⟩ := SB.out.c3
  by_cases h1 : S < 0
  · -- a number out of its range
    have F := Lib.hid (show StS S E A Cv.none 2 from .inl ⟨fun h => by unfold StOk at h; omega, rfl, rfl⟩)
    go_enter Try.func28, Try.ntmps28
    obtain ⟨⟨r0, r1, r2⟩, ⟨y0, y1, y2⟩, hlr⟩ := RB.out.c3
    go_wp2_with fail
    have rb := RB.out
    exact bodyPost_ret (v := .tuple #[.agg #[.slice none 0 0, .int .i64 0, .int .i64 0], .int .i64 2]) (by simp [results, Try.results28, go_sem, rb.cell]) rfl
      ⟨Cv.none, 2, F.out, none, 0, 0, Nat.le_refl 0, rfl, Ints.none_, (fun b off s h => by cases h), BW.out⟩
  · by_cases h2 : 1073741824 < S
    · -- a number out of its range
      have F := Lib.hid (show StS S E A Cv.none 2 from .inl ⟨fun h => by unfold StOk at h; omega, rfl, rfl⟩)
      go_enter Try.func28, Try.ntmps28
      obtain ⟨⟨r0, r1, r2⟩, ⟨y0, y1, y2⟩, hlr⟩ := RB.out.c3
      go_wp2_with fail
      have rb := RB.out
      exact bodyPost_ret (v := .tuple #[.agg #[.slice none 0 0, .int .i64 0, .int .i64 0], .int .i64 2]) (by simp [results, Try.results28, go_sem, rb.cell]) rfl
        ⟨Cv.none, 2, F.out, none, 0, 0, Nat.le_refl 0, rfl, Ints.none_, (fun b off s h => by cases h), BW.out⟩
    · by_cases h3 : E < 1
      · -- a number out of its range
        have F := Lib.hid (show StS S E A Cv.none 2 from .inl ⟨fun h => by unfold StOk at h; omega, rfl, rfl⟩)
        go_enter Try.func28, Try.ntmps28
        obtain ⟨⟨r0, r1, r2⟩, ⟨y0, y1, y2⟩, hlr⟩ := RB.out.c3
        go_wp2_with fail
        have rb := RB.out
        exact bodyPost_ret (v := .tuple #[.agg #[.slice none 0 0, .int .i64 0, .int .i64 0], .int .i64 2]) (by simp [results, Try.results28, go_sem, rb.cell]) rfl
          ⟨Cv.none, 2, F.out, none, 0, 0, Nat.le_refl 0, rfl, Ints.none_, (fun b off s h => by cases h), BW.out⟩
      · by_cases h4 : 120 < E
        · -- a number out of its range
          have F := Lib.hid (show StS S E A Cv.none 2 from .inl ⟨fun h => by unfold StOk at h; omega, rfl, rfl⟩)
          go_enter Try.func28, Try.ntmps28
          obtain ⟨⟨r0, r1, r2⟩, ⟨y0, y1, y2⟩, hlr⟩ := RB.out.c3
          go_wp2_with fail
          have rb := RB.out
          exact bodyPost_ret (v := .tuple #[.agg #[.slice none 0 0, .int .i64 0, .int .i64 0], .int .i64 2]) (by simp [results, Try.results28, go_sem, rb.cell]) rfl
            ⟨Cv.none, 2, F.out, none, 0, 0, Nat.le_refl 0, rfl, Ints.none_, (fun b off s h => by cases h), BW.out⟩
        · by_cases h5 : A < 0
          · -- a number out of its range
            have F := Lib.hid (show StS S E A Cv.none 2 from .inl ⟨fun h => by unfold StOk at h; omega, rfl, rfl⟩)
            go_enter Try.func28, Try.ntmps28
            obtain ⟨⟨r0, r1, r2⟩, ⟨y0, y1, y2⟩, hlr⟩ := RB.out.c3
            go_wp2_with fail
            have rb := RB.out
            exact bodyPost_ret (v := .tuple #[.agg #[.slice none 0 0, .int .i64 0, .int .i64 0], .int .i64 2]) (by simp [results, Try.results28, go_sem, rb.cell]) rfl
              ⟨Cv.none, 2, F.out, none, 0, 0, Nat.le_refl 0, rfl, Ints.none_, (fun b off s h => by cases h), BW.out⟩
          · by_cases h6 : 1048576 < A
            · -- a number out of its range
              have F := Lib.hid (show StS S E A Cv.none 2 from .inl ⟨fun h => by unfold StOk at h; omega, rfl, rfl⟩)
              go_enter Try.func28, Try.ntmps28
              obtain ⟨⟨r0, r1, r2⟩, ⟨y0, y1, y2⟩, hlr⟩ := RB.out.c3
              go_wp2_with fail
              have rb := RB.out
              exact bodyPost_ret (v := .tuple #[.agg #[.slice none 0 0, .int .i64 0, .int .i64 0], .int .i64 2]) (by simp [results, Try.results28, go_sem, rb.cell]) rfl
                ⟨Cv.none, 2, F.out, none, 0, 0, Nat.le_refl 0, rfl, Ints.none_, (fun b off s h => by cases h), BW.out⟩
            · have hok : StOk S E A := ⟨by omega, by omega, by omega, by omega, by omega, by omega⟩
              have OK := Lib.hid hok
              have hs0 := RB.out.lt
              go_enter Try.func28, Try.ntmps28
              by_cases h0 : S = 0
              · have d1 : (S == 0) = true := by simpa using h0
                have HS := Lib.hid (show StS S E A cvZ 0 from .inr ⟨hok, by rw [h0, st_none]; exact ⟨_, zero_nf, .inl ⟨cvZ_lim, rfl, rfl⟩⟩⟩)
                clear h0 hok
                go_wp2_with fail
                refine (flat0K_any _).mono ?_
                rintro e w5 ⟨A5, n5, c5, hc5, rfl, hI5, hA5, hb⟩
                obtain ⟨f, hf⟩ : ∃ f, f = cvZ := ⟨_, rfl⟩
                have F := HS
                rw [← hf] at F hI5
                rw [show cvZ.per = f.per by rw [hf], show cvZ.inc = f.inc by rw [hf]]
                obtain ⟨er, her⟩ : ∃ er : Int, er = 0 := ⟨_, rfl⟩
                rw [← her] at F ⊢
                replace RB := Lib.hid (RB.out.below hb RB.out.lt); replace BW := Lib.hid (bthen BW.out hb)
                have HI5 := Lib.hid hI5; have HA5 := Lib.hid hA5
                clear hI5 hA5 hb her hf HS x0 x1 x2 hlx
                -- the curve f with the error er: netcalculus/bucket.Steps the function
                obtain ⟨⟨r0, r1, r2⟩, ⟨y0, y1, y2⟩, hlr⟩ := RB.out.c3
                go_wp2_with fail
                have rb := RB.out.store3 (.slice A5 n5 c5) (.int .i64 f.per) (.int .i64 f.inc)
                exact bodyPost_ret (v := .tuple #[.agg #[.slice A5 n5 c5, .int .i64 f.per, .int .i64 f.inc], .int .i64 er]) (by simp [results, Try.results28, go_sem, rb.cell]) rfl
                  ⟨f, er, F.out, retK_store3' hc5 HA5.out (by omega) hs0 HI5.out BW.out⟩
              · have d1 : (S == 0) = false := by simpa using h0
                clear h0 hok
                go_wp2_with fail
                refine (buildK_any 86 #[.pointer (some ⟨w.heap.size, 0, none⟩)] 1 E S (stV S E A) _ (by omega) (by omega) (by omega) (by omega) (by omega) (by omega)
                  (fun k hk => by have := st_bd OK.out (k := k) (by omega); omega)
                  (fun t w4 ht hb => steps1_any w.heap.size S E A t w4 (SB.out.below hb SB.out.lt) (by omega) (by omega) (by omega) (by omega) (by omega) (by omega) (by omega)) (fun x w => by kernel_rfl)).mono ?_
                rintro e w5 ⟨f, er, hS, A5, n5, c5, hc5, rfl, hI5, hA5, hb⟩
                have hM := build_made (h := stV S E A) (s := 1) (p := E.toNat) (i := S) (by omega) (fun t u h1 _ h => absurd h (small_ne (by have := st_bd OK.out (k := t) (by omega); omega))) (fun _ => st_per (by omega)) hS
                have F := Lib.hid (show StS S E A f er from .inr ⟨OK.out, hM⟩)
                replace RB := Lib.hid (RB.out.below hb RB.out.lt); replace BW := Lib.hid (bthen BW.out hb)
                have HI5 := Lib.hid hI5; have HA5 := Lib.hid hA5
                clear hS hI5 hA5 hb hM SB x0 x1 x2 hlx
                -- the curve f with the error er: netcalculus/bucket.Steps the function
                obtain ⟨⟨r0, r1, r2⟩, ⟨y0, y1, y2⟩, hlr⟩ := RB.out.c3
                go_wp2_with fail
                have rb := RB.out.store3 (.slice A5 n5 c5) (.int .i64 f.per) (.int .i64 f.inc)
                exact bodyPost_ret (v := .tuple #[.agg #[.slice A5 n5 c5, .int .i64 f.per, .int .i64 f.inc], .int .i64 er]) (by simp [results, Try.results28, go_sem, rb.cell]) rfl
                  ⟨f, er, F.out, retK_store3' hc5 HA5.out (by omega) hs0 HI5.out BW.out⟩
theorem token_any (B b R r : Int) (w : World) :
    Calls Try.prog 23 #[.agg #[.int .i64 B, .int .i64 b, .int .i64 R, .int .i64 r]] w (RetS (TokS B b R r) w) := (tokenK_any B b R r w).mono fun _ _ h => h.to
theorem steps_any (S E A : Int) (w : World) :
    Calls Try.prog 28 #[.agg #[.int .i64 S, .int .i64 E, .int .i64 A]] w (RetS (StS S E A) w) := (stepsK_any S E A w).mono fun _ _ h => h.to
end Go.Proofs.Ythdibkmjoiipgaa
