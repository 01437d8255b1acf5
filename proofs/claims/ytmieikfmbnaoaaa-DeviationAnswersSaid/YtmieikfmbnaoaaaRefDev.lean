/- netcalculusref10's Reach, Delay, above, Backlog and Peak. -/
import Derived.Test.YtmieikfmbnaoaaaRefFst
import Derived.Test.YtmieikfmbnaoaaaDev2
import Derived.Test.YtmieikfmbnaoaaaRefPair
import Derived.Deep.DeepCutAuto
namespace Go.Proofs.Ytmieikfmbnaoaaa
open Go.RowKit
set_option linter.unusedVariables false

theorem geq_nf {f g : Cv} (hf : f.Ok) (hg : NF f.at g) (v : Int) : Geq g v = Geq f v := by
  funext n
  unfold Geq
  rw [hg.at n, propext (hg.inf_iff hf n)]
theorem fin10_t {a : Cv} (h : a.Fin) : Cv.finB ⟨a.vals, a.per, a.inc⟩ = true := by
  show Cv.finB a = true
  unfold Cv.finB
  rw [Cv.okB_true h.1, Bool.true_and, bne_iff_ne]
  exact h.2
theorem fin10_f {a : Cv} (ha : a.Ok) (h : ¬ a.Fin) : Cv.finB ⟨a.vals, a.per, a.inc⟩ = false := by
  show Cv.finB a = false
  unfold Cv.finB
  rw [Cv.okB_true ha, Bool.true_and, bne_eq_false_iff_eq]
  rcases ha.fin_or with h' | h'
  · exact absurd h' h
  · exact h'

set_option maxHeartbeats 1000000 in
theorem refReach_any (A : Option Addr) (n c : Nat) (p i v : Int) (zs : List Int) (w : World) (hA : Ints w w.heap.size A n zs) (hc : n ≤ c) (hn : (n : Int) ≤ 1000000) :
    Calls Try.prog 45 #[.agg #[.slice A n c, .int .i64 p, .int .i64 i], .int .i64 v] w (RetR3 ⟨zs, p, i⟩ v w) := by
  have E := Lib.hid (L1.new (c := c) (p := p) (i := i) hA)
  have HC := Lib.hid hc
  clear hA hc
  go_enter Try.func45, Try.ntmps45
  obtain ⟨f0, f1, f2, hlf⟩ := E.out.cells
  go_wp2_with fail
  refine (refNormal_any A n c p i zs _ E.out.ints HC.out hn).mono ?_
  rintro e w1 ⟨g, er, hN, A1, n1, c1, rfl, hI1, hA1, hb⟩
  simp only [World.size_alloc] at hA1
  have hs1 : w.heap.size + 1 ≤ w1.heap.size := by have := hb.size; simp only [World.size_alloc] at this; exact this
  have BW := Lib.hid (bthen (bthen E.out.bw hb) (balloc _ (.cells #[.slice A1 n1 c1, .int .i64 g.per, .int .i64 g.inc] 41)))
  have GB := Lib.hid (By.new (L := w.heap.size + 1) (c := c1) hI1 hA1 (Nat.le_refl _) hs1)
  clear hI1 hA1 hb E
  clear f0 f1 f2 hlf
  rcases hN with ⟨ok, hnf, okg, rfl⟩ | ⟨nok, rfl, rfl⟩
  · have HNF := Lib.hid hnf; have OK := Lib.hid ok; have OKG := Lib.hid okg
    clear hnf ok okg
    by_cases hr : v ≠ inf ∧ (v < 0 ∨ 1125899906842624 < v)
    · have F := Lib.hid (show ReachS ⟨zs, p, i⟩ v 0 false 2 from .inr (.inl ⟨OK.out, hr.1, hr.2, rfl, rfl, rfl⟩))
      have d1 : (v != 4611686018427387904) = true := by have h := hr.1; unfold inf at h; simpa using h
      obtain ⟨_, h | h⟩ := hr
      all_goals
        go_wp2_with fail
        refine bodyPost_ret (v := .tuple #[.int .i64 0, .bool false, .int .i64 2]) (by simp [results, Try.results45, go_sem]) rfl ?_
        exact ⟨0, false, 2, F.out, rfl, BW.out⟩
    · have hv : v = inf ∨ (0 ≤ v ∧ v ≤ 1125899906842624) := by
        by_cases h : v = inf
        · exact .inl h
        · exact .inr (by
            have h2 : ¬ (v < 0 ∨ 1125899906842624 < v) := fun h3 => hr ⟨h, h3⟩
            omega)
      have hv0 : 0 ≤ v := by rcases hv with h | h; rw [h]; unfold inf; omega; exact h.1
      have hv1 : v = inf ∨ v ≤ 1125899906842624 := hv.imp id (fun h => h.2)
      have HV := Lib.hid hv
      have HV1 := Lib.hid hv1
      obtain ⟨g0, g1, g2, hlg⟩ := GB.out.cells
      by_cases hi : v = 4611686018427387904
      · have d1 : (v != 4611686018427387904) = false := by simpa using hi
        clear hv hv1 hr hi
        go_wp2_with fail
        refine (refFirst_any A1 n1 c1 g.per g.inc v g.vals _ GB.out.ints OKG.out hv0 HV1.out).mono ?_
        rintro e w2 ⟨t, ok, hS, _, _, rfl, hb⟩
        have F := Lib.hid (show ReachS ⟨zs, p, i⟩ v t ok 0 from .inr (.inr ⟨OK.out, HV.out, by rw [← geq_nf OK.out HNF.out]; exact hS, rfl⟩))
        have BW := Lib.hid (bthen BW.out hb)
        clear hS hb g0 g1 g2 hlg
        go_wp2_with fail
        refine bodyPost_ret (v := .tuple #[.int .i64 t, .bool ok, .int .i64 0]) (by simp [results, Try.results45, go_sem]) rfl ?_
        exact ⟨t, ok, 0, F.out, rfl, BW.out⟩
      · have d1 : (v != 4611686018427387904) = true := by simpa using hi
        have h2 : 0 ≤ v ∧ v ≤ 1125899906842624 := hv.resolve_left hi
        have d2 : decide (v < 0) = false := by simp; omega
        have d3 : decide (1125899906842624 < v) = false := by simp; omega
        clear hv hv1 hr hi h2
        go_wp2_with fail
        refine (refFirst_any A1 n1 c1 g.per g.inc v g.vals _ GB.out.ints OKG.out hv0 HV1.out).mono ?_
        rintro e w2 ⟨t, ok, hS, _, _, rfl, hb⟩
        have F := Lib.hid (show ReachS ⟨zs, p, i⟩ v t ok 0 from .inr (.inr ⟨OK.out, HV.out, by rw [← geq_nf OK.out HNF.out]; exact hS, rfl⟩))
        have BW := Lib.hid (bthen BW.out hb)
        clear hS hb g0 g1 g2 hlg
        go_wp2_with fail
        refine bodyPost_ret (v := .tuple #[.int .i64 t, .bool ok, .int .i64 0]) (by simp [results, Try.results45, go_sem]) rfl ?_
        exact ⟨t, ok, 0, F.out, rfl, BW.out⟩
  · have F := Lib.hid (show ReachS ⟨zs, p, i⟩ v 0 false 1 from .inl ⟨nok, rfl, rfl, rfl⟩)
    clear nok
    go_wp2_with fail
    refine bodyPost_ret (v := .tuple #[.int .i64 0, .bool false, .int .i64 1]) (by simp [results, Try.results45, go_sem]) rfl ?_
    exact ⟨0, false, 1, F.out, rfl, BW.out⟩

theorem slp10_any (A B : Option Addr) (n c m d : Nat) (p i q j : Int) (C : Nat) (w : World) (hp : 1 ≤ p) (hi : 0 ≤ i) (hi2 : i ≤ 1073741824) (hq : 1 ≤ q) (hj : 0 ≤ j) (hj2 : j ≤ 1073741824) (hC : C ≤ 1000000) :
    Calls Try.prog 145 #[.agg #[.slice A n c, .int .i64 p, .int .i64 i], .agg #[.slice B m d, .int .i64 q, .int .i64 j], .int .i64 C] w fun e w' => e = .returned (.int .i64 ((C / p.toNat : Nat) * i - (C / q.toNat : Nat) * j)) ∧ Below w.heap.size w w' := by
  obtain ⟨p, rfl⟩ := Int.eq_ofNat_of_zero_le (show 0 ≤ p by omega)
  obtain ⟨q, rfl⟩ := Int.eq_ofNat_of_zero_le (show 0 ≤ q by omega)
  simp only [Int.toNat_natCast]
  obtain ⟨u, hu⟩ : ∃ u, u = C / p := ⟨_, rfl⟩
  obtain ⟨v, hv⟩ : ∃ v, v = C / q := ⟨_, rfl⟩
  have hut : u ≤ C := by rw [hu]; exact Nat.div_le_self _ _
  have hvt : v ≤ C := by rw [hv]; exact Nat.div_le_self _ _
  have e1 : ((C : Int).tdiv (p : Int)) = (u : Int) := by rw [hu]; rfl
  have e1' : ((C : Int) / (p : Int)) = (u : Int) := by rw [hu]; rfl
  have e2 : ((C : Int).tdiv (q : Int)) = (v : Int) := by rw [hv]; rfl
  have e2' : ((C : Int) / (q : Int)) = (v : Int) := by rw [hv]; rfl
  have hui : (u : Int) * i ≤ 1000000 * 1073741824 := Int.mul_le_mul (by omega) hi2 hi (by omega)
  have hui0 : 0 ≤ (u : Int) * i := Int.mul_nonneg (by omega) hi
  have hvi : (v : Int) * j ≤ 1000000 * 1073741824 := Int.mul_le_mul (by omega) hj2 hj (by omega)
  have hvi0 : 0 ≤ (v : Int) * j := Int.mul_nonneg (by omega) hj
  rw [← hu, ← hv]
  obtain ⟨X, hX⟩ : ∃ X, X = (u : Int) * i := ⟨_, rfl⟩
  obtain ⟨Y, hY⟩ : ∃ Y, Y = (v : Int) * j := ⟨_, rfl⟩
  rw [← hX] at hui hui0
  rw [← hY] at hvi hvi0
  have e3 : IntKind.i64.wrap (i * (u : Int)) = X := by rw [Int.mul_comm, ← hX]; exact IntWalk.i64_in _ (by omega)
  have e4 : IntKind.i64.wrap (j * (v : Int)) = Y := by rw [Int.mul_comm, ← hY]; exact IntWalk.i64_in _ (by omega)
  have e6 : IntKind.i64.wrap (u : Int) = (u : Int) := IntWalk.i64_in _ (by omega)
  have e7 : IntKind.i64.wrap (v : Int) = (v : Int) := IntWalk.i64_in _ (by omega)
  rw [← hX, ← hY]
  have hpn : (p : Int) ≠ 0 := by omega
  have hpn2 : p ≠ 0 := by omega
  have hqn : (q : Int) ≠ 0 := by omega
  have hqn2 : q ≠ 0 := by omega
  have PB := (Blk.new w 41 #[.slice A n c, .int .i64 p, .int .i64 i]).alloc (.cells #[.slice B m d, .int .i64 q, .int .i64 j] 41)
  have QB := Blk.new (w.alloc (.cells #[.slice A n c, .int .i64 p, .int .i64 i] 41)) 41 #[.slice B m d, .int .i64 q, .int .i64 j]
  have q1 := PB.cell 1
  have q2 := PB.cell 2
  have q3 := QB.cell 1
  have q4 := QB.cell 2
  simp at q1 q2 q3 q4
  clear hu hv hX hY PB QB
  go_enter Try.func145, Try.ntmps145
  go_wp2_with fail
  go_quiet (fail)
  go_wp2_with fail
  go_ret
  exact ⟨rfl, bdrewN (bthen (balloc w _) (balloc _ _))⟩
/-- a grows more than b -/
theorem grows_any (A B : Option Addr) (n c m d : Nat) (p i q j : Int) (C : Nat) (w : World) (hp : 1 ≤ p) (hi : 0 ≤ i) (hi2 : i ≤ 1073741824) (hq : 1 ≤ q) (hj : 0 ≤ j) (hj2 : j ≤ 1073741824) (hC : C ≤ 1000000) :
    Calls Try.prog 97 #[.agg #[.slice A n c, .int .i64 p, .int .i64 i], .agg #[.slice B m d, .int .i64 q, .int .i64 j], .int .i64 C] w fun e w' => e = .returned (.bool (decide (0 < ((C / p.toNat : Nat) : Int) * i - ((C / q.toNat : Nat) : Int) * j))) ∧ Below w.heap.size w w' := by
  have PB := (Blk.new w 41 #[.slice A n c, .int .i64 p, .int .i64 i]).alloc (.cells #[.slice B m d, .int .i64 q, .int .i64 j] 41)
  have QB := Blk.new (w.alloc (.cells #[.slice A n c, .int .i64 p, .int .i64 i] 41)) 41 #[.slice B m d, .int .i64 q, .int .i64 j]
  have q0 := PB.cell 0
  have q1 := PB.cell 1
  have q2 := PB.cell 2
  have q3 := QB.cell 0
  have q4 := QB.cell 1
  have q5 := QB.cell 2
  simp at q0 q1 q2 q3 q4 q5
  clear PB QB
  obtain ⟨X, hX⟩ : ∃ X, X = ((C / p.toNat : Nat) : Int) * i - ((C / q.toNat : Nat) : Int) * j := ⟨_, rfl⟩
  rw [← hX]
  have HX := Lib.hid hX
  clear hX
  go_enter Try.func97, Try.ntmps97
  go_wp2_with fail
  refine (slp10_any A B n c m d p i q j C _ hp hi hi2 hq hj hj2 hC).mono ?_
  rw [← HX.out]
  rintro e wq ⟨rfl, hb⟩
  have bw := bthen (bthen (balloc w _) (balloc _ _)) hb
  clear hb q0 q1 q2 q3 q4 q5
  go_wp2_with fail
  go_ret
  exact ⟨rfl, bw⟩
theorem window_any (A B : Option Addr) (n c m d : Nat) (p i q j : Int) (C : Nat) (w : World) (hn : n ≤ 1000) (hm : m ≤ 1000) (hC : C ≤ 1000) :
    Calls Try.prog 98 #[.agg #[.slice A n c, .int .i64 p, .int .i64 i], .agg #[.slice B m d, .int .i64 q, .int .i64 j], .int .i64 C] w fun e w' => e = .returned (.int .i64 ((max n m + C : Nat) : Int)) ∧ Below w.heap.size w w' := by
  obtain ⟨N, hN⟩ : ∃ N, N = max n m + C := ⟨_, rfl⟩
  have hmx : (if (n : Int) < (m : Int) then (m : Int) else (n : Int)) = (N : Int) - C := by rw [hN]; split <;> omega
  have hmx2 : (if n < m then (m : Int) else (n : Int)) = (N : Int) - C := by rw [hN]; split <;> omega
  have hNb : N ≤ 2000 := by omega
  have hNC : C ≤ N := by omega
  rw [← hN]
  clear hN
  have PB := (Blk.new w 41 #[.slice A n c, .int .i64 p, .int .i64 i]).alloc (.cells #[.slice B m d, .int .i64 q, .int .i64 j] 41)
  have QB := Blk.new (w.alloc (.cells #[.slice A n c, .int .i64 p, .int .i64 i] 41)) 41 #[.slice B m d, .int .i64 q, .int .i64 j]
  have q0 := PB.cell 0
  have q3 := QB.cell 0
  simp at q0 q3
  clear PB QB
  go_enter Try.func98, Try.ntmps98
  go_wp2_with fail
  go_ret
  exact ⟨ret_int (by omega), bthen (balloc w _) (balloc _ _)⟩

/-- both are finite and a grows more -/
def GrB (l : Bool) (a b : Cv) : Prop := l = true ↔ (a.Fin ∧ b.Fin ∧ 0 < ordD a b)
/-- nothing that was looked at has no answer: then there is a greatest distance -/
theorem del_tight {a b : Cv} (ha : a.Ok) (hb : b.Ok) {T v A : Nat} (hT : a.vals.length ≤ T) (h : DelI a b T v A) (hg : GrB false a b) : ¬ Loose a b := by
  rintro ⟨fb, h1⟩
  have hn := ha.n1
  by_cases fa : a.Fin
  · exact absurd (hg.2 ⟨fa, fb, h1.resolve_left (fun h => h fa)⟩) (by decide)
  · have ia : nth a.vals (a.vals.length - 1) = inf := by
      rcases ha.fin_or with h' | h'
      · exact absurd h' fa
      · exact h'
    rcases h.le (a.vals.length - 1) (by omega) with h2 | h2
    · exact fb.not_infAt _ h2
    · exact h2.1 ⟨ia, ha.at_inf ia (by omega)⟩
theorem ah_tight {a b : Cv} (ha : a.Ok) (hb : b.Ok) {K T v A : Nat} (hT : a.vals.length ≤ T) (h : AhI a b K T v A) (hg : GrB false a b) : ¬ Loose a b := by
  rintro ⟨fb, h1⟩
  have hn := ha.n1
  by_cases fa : a.Fin
  · exact absurd (hg.2 ⟨fa, fb, h1.resolve_left (fun h => h fa)⟩) (by decide)
  · have ia : nth a.vals (a.vals.length - 1) = inf := by
      rcases ha.fin_or with h' | h'
      · exact absurd h' fa
      · exact h'
    rcases h.le (a.vals.length - 1) (by omega) with h2 | h2
    · exact fb.not_infAt _ h2
    · exact h2.1 ⟨ia, ha.at_inf ia (by omega)⟩

set_option maxHeartbeats 4000000 in
set_option maxRecDepth 100000 in
theorem refDelay_any (A B : Option Addr) (n m c d : Nat) (p i q j : Int) (xs ys : List Int) (w : World) (hA : Ints w w.heap.size A n xs) (hB : Ints w w.heap.size B m ys) (hn : (n : Int) ≤ 1000000) (hm : (m : Int) ≤ 1000000) (hnc : n ≤ c) (hmd : m ≤ d) :
    Calls Try.prog 39 #[.agg #[.slice A n c, .int .i64 p, .int .i64 i], .agg #[.slice B m d, .int .i64 q, .int .i64 j]] w (RetDv (DelayS ⟨xs, p, i⟩ ⟨ys, q, j⟩) ⟨xs, p, i⟩ ⟨ys, q, j⟩ w) := by
-- netcalculus/netcalculusref10.Delay the function, (DelayS ⟨xs, p, i⟩ ⟨ys, q, j⟩) S, 37 the slot of the test
  have rb := Blk.new ((w.alloc (.cells #[.slice A n c, .int .i64 p, .int .i64 i] 41)).alloc (.cells #[.slice B m d, .int .i64 q, .int .i64 j] 41)) 60 #[.bool false, .int .i64 0, .int .i64 0]
  have P := Lib.hid ((PS.new (c := c) (p := p) (i := i) (d := d) (q := q) (j := j) hA hB).alloc (.cells #[.bool false, .int .i64 0, .int .i64 0] 60))
  rw [World.size_alloc, World.size_alloc] at rb
  have RB := Lib.hid rb
  have HNC := Lib.hid hnc; have HMD := Lib.hid hmd
  clear hA hB rb hnc hmd
  go_enter Try.func39, Try.ntmps39
  go_wp2_with fail
  refine (refPair_any A B n m c d p i q j xs ys _ P.out.ia P.out.ib hn hm HNC.out HMD.out).mono ?_
  rintro e w1 ⟨a, b, l, er, A1, n1, c1, A2, n2, c2, hR, rfl, hI1, hI2, hA1, hA2, hb⟩
  simp only [World.size_alloc] at hA1 hA2
  have HR := Lib.hid hR
  have RB := Lib.hid (((RB.out.below hb RB.out.lt).alloc (.cells #[.slice A1 n1 c1, .int .i64 a.per, .int .i64 a.inc] 41)).alloc (.cells #[.slice A2 n2 c2, .int .i64 b.per, .int .i64 b.inc] 41))
  have BW := Lib.hid (bthen (bthen (bthen P.out.bw hb) (balloc _ (.cells #[.slice A1 n1 c1, .int .i64 a.per, .int .i64 a.inc] 41))) (balloc _ (.cells #[.slice A2 n2 c2, .int .i64 b.per, .int .i64 b.inc] 41)))
  have hs1 : w.heap.size + 1 + 1 < w1.heap.size := by have := hb.size; simp only [World.size_alloc] at this; omega
  have FA := Lib.hid ((By.new (L := w.heap.size + 1 + 1 + 1) (c := c1) hI1 hA1 (Nat.le_refl _) (by omega)).alloc (.cells #[.slice A2 n2 c2, .int .i64 b.per, .int .i64 b.inc] 41))
  have fb := By.new (L := w.heap.size + 1 + 1 + 1) (f := b) (c := c2) (hI2.alloc' (.cells #[.slice A1 n1 c1, .int .i64 a.per, .int .i64 a.inc] 41)) hA2 (Nat.le_refl _) (by simp only [World.size_alloc]; omega)
  simp only [World.size_alloc] at fb
  have FB := Lib.hid fb
  clear hR hI1 hI2 hA1 hA2 hb fb P
  go_upto_region 2 with fail
  generalize hwz : (w1.alloc (.cells #[.slice A1 n1 c1, .int .i64 a.per, .int .i64 a.inc] 41)).alloc (.cells #[.slice A2 n2 c2, .int .i64 b.per, .int .i64 b.inc] 41) = wz at *
  clear hwz
  rcases HR.out with ⟨hbad, rfl⟩ | ⟨hf, hg, hna, hnb, hao, hbo, ⟨hcc, rfl⟩ | ⟨hcc, hle, rfl⟩⟩
  · have F := Lib.hid (show DevE (DelayS ⟨xs, p, i⟩ ⟨ys, q, j⟩) ⟨xs, p, i⟩ ⟨ys, q, j⟩ false 0 0 1 from .inl ⟨.inl ⟨hbad, rfl⟩, rfl, rfl, rfl⟩)
    clear HR hbad
    -- the results false 0 0 1 of function netcalculus/netcalculusref10.Delay are stored
    obtain ⟨r0, r1, r2⟩ : _ ∧ _ ∧ _ := ⟨RB.out.cell 0, RB.out.cell 1, RB.out.cell 2⟩
    simp at r0 r1 r2
    have y0 := RB.out.frozen 0; have y1 := RB.out.frozen 1; have y2 := RB.out.frozen 2
    have hlr := RB.out.lt
    go_wp2_with fail
    have rb := RB.out.store3 (.bool false) (.int .i64 0) (.int .i64 0)
    exact bodyPost_ret (v := .tuple #[.agg #[.bool false, .int .i64 0, .int .i64 0], .int .i64 1]) (by simp [results, Try.results39, go_sem, rb.cell]) rfl ⟨_, _, _, _, F.out, rfl, b3store BW.out (by omega)⟩
  · have F := Lib.hid (show DevE (DelayS ⟨xs, p, i⟩ ⟨ys, q, j⟩) ⟨xs, p, i⟩ ⟨ys, q, j⟩ false 0 0 3 from .inl ⟨.inr ⟨hf, hg, rfl, a, b, hna, hnb, hcc⟩, rfl, rfl, rfl⟩)
    clear HR hf hg hna hnb hao hbo hcc
    -- the results false 0 0 3 of function netcalculus/netcalculusref10.Delay are stored
    obtain ⟨r0, r1, r2⟩ : _ ∧ _ ∧ _ := ⟨RB.out.cell 0, RB.out.cell 1, RB.out.cell 2⟩
    simp at r0 r1 r2
    have y0 := RB.out.frozen 0; have y1 := RB.out.frozen 1; have y2 := RB.out.frozen 2
    have hlr := RB.out.lt
    go_wp2_with fail
    have rb := RB.out.store3 (.bool false) (.int .i64 0) (.int .i64 0)
    exact bodyPost_ret (v := .tuple #[.agg #[.bool false, .int .i64 0, .int .i64 0], .int .i64 3]) (by simp [results, Try.results39, go_sem, rb.cell]) rfl ⟨_, _, _, _, F.out, rfl, b3store BW.out (by omega)⟩
  · have hp1 := hao.p1; have hp2 := hao.p2; have hq1 := hbo.p1; have hq2 := hbo.p2; have hi1 := hao.i1; have hi2 := hao.i2; have hj1 := hbo.i1; have hj2 := hbo.i2
    have hna2 := hao.n2; have hnb2 := hbo.n2; have hpn := hao.pn; have hqn := hbo.pn
    have hl1 : a.vals.length = n1 := FA.out.ints.1
    have hl2 : b.vals.length = n2 := FB.out.ints.1
    rw [hl1] at hna2 hpn
    rw [hl2] at hnb2 hqn
    have EX := Lib.hid (show ∃ a b, NF (Cv.at ⟨xs, p, i⟩) a ∧ NF (Cv.at ⟨ys, q, j⟩) b ∧ comm a.per.toNat b.per.toNat ≤ 120 from ⟨a, b, hna, hnb, hcc⟩)
    obtain ⟨C, hC⟩ : ∃ C, C = comm a.per.toNat b.per.toNat := ⟨_, rfl⟩
    rw [← hC] at hle hcc
    obtain rfl := hle
    have hk := comm_facts (p := a.per.toNat) (q := b.per.toNat) (by omega) (by omega)
    rw [← hC] at hk
    have hC1 : 1 ≤ C := hk.2.2.1
    have hC2 : C ≤ 120 := hcc
    obtain ⟨T, hT⟩ : ∃ T, T = max n1 n2 + C := ⟨_, rfl⟩
    have hTb : T ≤ 520 := by omega
    have HT := Lib.hid hT
    have HTO := Lib.hid (show ordF a b + ordC a b ≤ T from by
      unfold ordF
      rw [show ordC a b = C from hC.symm, hl1, hl2, hT]
      omega)
    have HTA := Lib.hid (show a.vals.length ≤ T from by rw [hl1, hT]; omega)
    have HU := Lib.hid (show ((C / a.per.toNat : Nat) : Int) * a.inc - ((C / b.per.toNat : Nat) : Int) * b.inc = ordD a b from by rw [hC]; rfl)
    have HF := Lib.hid hf; have HG := Lib.hid hg; have HNA := Lib.hid hna; have HNB := Lib.hid hnb; have HAO := Lib.hid hao; have HBO := Lib.hid hbo
    clear HR hf hg hna hnb hao hbo hC hk hl1 hl2 hcc hT
    go_upto_region 4 with fail
    go_cut [37] (fun s37 wx => ∃ bb : Bool, s37 = .bool bb ∧ GrB bb a b ∧ By (w.heap.size + 1 + 1 + 1) wx w1.heap.size A1 n1 c1 a ∧ By (w.heap.size + 1 + 1 + 1) wx (w1.heap.size + 1) A2 n2 c2 b ∧ Blk wx (w.heap.size + 1 + 1) 60 #[.bool false, .int .i64 0, .int .i64 0] ∧ Below w.heap.size w wx)
    case first =>
      obtain ⟨a0, a1, a2, hla⟩ := FA.out.cells
      obtain ⟨b0, b1, b2, hlb⟩ := FB.out.cells
      go_wp2_with fail
      refine (refFinite_any A1 n1 c1 a.per a.inc a.vals _ (by exact FA.out.ints) (by omega)).mono ?_
      by_cases hfa : a.Fin
      · rw [fin10_t hfa]
        rintro e wq ⟨rfl, hbq⟩
        have HFA := Lib.hid hfa
        clear hfa
        have FA := Lib.hid (FA.out.below hbq); have FB := Lib.hid (FB.out.below hbq); have RB := Lib.hid (RB.out.below hbq RB.out.lt); have BW := Lib.hid (bthen BW.out hbq)
        try (have OB := Lib.hid (OB.out.below hbq OB.out.lt))
        clear hbq
        clear a0 a1 a2 hla b0 b1 b2 hlb
        obtain ⟨a0, a1, a2, hla⟩ := FA.out.cells
        obtain ⟨b0, b1, b2, hlb⟩ := FB.out.cells
        go_wp2_with fail
        refine (refFinite_any A2 n2 c2 b.per b.inc b.vals _ (by exact FB.out.ints) (by omega)).mono ?_
        by_cases hfb : b.Fin
        · rw [fin10_t hfb]
          rintro e wq ⟨rfl, hbq⟩
          have HFB := Lib.hid hfb
          clear hfb
          have FA := Lib.hid (FA.out.below hbq); have FB := Lib.hid (FB.out.below hbq); have RB := Lib.hid (RB.out.below hbq RB.out.lt); have BW := Lib.hid (bthen BW.out hbq)
          try (have OB := Lib.hid (OB.out.below hbq OB.out.lt))
          clear hbq
          clear a0 a1 a2 hla b0 b1 b2 hlb
          obtain ⟨a0, a1, a2, hla⟩ := FA.out.cells
          obtain ⟨b0, b1, b2, hlb⟩ := FB.out.cells
          go_wp2_with fail
          refine (grows_any A1 A2 n1 c1 n2 c2 a.per a.inc b.per b.inc C _ (by omega) (by omega) (by omega) (by omega) (by omega) (by omega) (by omega)).mono ?_
          rw [HU.out]
          by_cases hd : 0 < ordD a b
          · rw [decide_eq_true hd]
            have F := Lib.hid (show GrB true a b from ⟨fun _ => ⟨HFA.out, HFB.out, hd⟩, fun _ => rfl⟩)
            rintro e wq ⟨rfl, hbq⟩
            clear hd
            have FA := Lib.hid (FA.out.below hbq); have FB := Lib.hid (FB.out.below hbq); have RB := Lib.hid (RB.out.below hbq RB.out.lt); have BW := Lib.hid (bthen BW.out hbq)
            try (have OB := Lib.hid (OB.out.below hbq OB.out.lt))
            clear hbq
            clear a0 a1 a2 hla b0 b1 b2 hlb
            obtain ⟨a0, a1, a2, hla⟩ := FA.out.cells
            obtain ⟨b0, b1, b2, hlb⟩ := FB.out.cells
            go_wp2_with fail
            go_meet
            exact ⟨_, rfl, F.out, FA.out, FB.out, RB.out, BW.out⟩
          · rw [decide_eq_false hd]
            have F := Lib.hid (show GrB false a b from ⟨(fun h => by cases h), fun h => absurd h.2.2 hd⟩)
            rintro e wq ⟨rfl, hbq⟩
            clear hd
            have FA := Lib.hid (FA.out.below hbq); have FB := Lib.hid (FB.out.below hbq); have RB := Lib.hid (RB.out.below hbq RB.out.lt); have BW := Lib.hid (bthen BW.out hbq)
            try (have OB := Lib.hid (OB.out.below hbq OB.out.lt))
            clear hbq
            clear a0 a1 a2 hla b0 b1 b2 hlb
            obtain ⟨a0, a1, a2, hla⟩ := FA.out.cells
            obtain ⟨b0, b1, b2, hlb⟩ := FB.out.cells
            go_wp2_with fail
            go_meet
            exact ⟨_, rfl, F.out, FA.out, FB.out, RB.out, BW.out⟩
        · rw [fin10_f HBO.out hfb]
          have F := Lib.hid (show GrB false a b from ⟨(fun h => by cases h), fun h => absurd h.2.1 hfb⟩)
          rintro e wq ⟨rfl, hbq⟩
          clear hfb
          have FA := Lib.hid (FA.out.below hbq); have FB := Lib.hid (FB.out.below hbq); have RB := Lib.hid (RB.out.below hbq RB.out.lt); have BW := Lib.hid (bthen BW.out hbq)
          try (have OB := Lib.hid (OB.out.below hbq OB.out.lt))
          clear hbq
          clear a0 a1 a2 hla b0 b1 b2 hlb
          obtain ⟨a0, a1, a2, hla⟩ := FA.out.cells
          obtain ⟨b0, b1, b2, hlb⟩ := FB.out.cells
          go_wp2_with fail
          go_meet
          exact ⟨_, rfl, F.out, FA.out, FB.out, RB.out, BW.out⟩
      · rw [fin10_f HAO.out hfa]
        have F := Lib.hid (show GrB false a b from ⟨(fun h => by cases h), fun h => absurd h.1 hfa⟩)
        rintro e wq ⟨rfl, hbq⟩
        clear hfa
        have FA := Lib.hid (FA.out.below hbq); have FB := Lib.hid (FB.out.below hbq); have RB := Lib.hid (RB.out.below hbq RB.out.lt); have BW := Lib.hid (bthen BW.out hbq)
        try (have OB := Lib.hid (OB.out.below hbq OB.out.lt))
        clear hbq
        clear a0 a1 a2 hla b0 b1 b2 hlb
        obtain ⟨a0, a1, a2, hla⟩ := FA.out.cells
        obtain ⟨b0, b1, b2, hlb⟩ := FB.out.cells
        go_wp2_with fail
        go_meet
        exact ⟨_, rfl, F.out, FA.out, FB.out, RB.out, BW.out⟩
    case rest =>
      clear FA FB RB BW HU
      obtain ⟨bb, rfl, hgr, fa, fb, rb, bw⟩ := hcut
      have FA := Lib.hid fa; have FB := Lib.hid fb; have RB := Lib.hid rb; have BW := Lib.hid bw; have HGR := Lib.hid hgr
      clear fa fb rb bw hgr
      cases bb
      case true =>
        have F := Lib.hid (show DevE (DelayS ⟨xs, p, i⟩ ⟨ys, q, j⟩) ⟨xs, p, i⟩ ⟨ys, q, j⟩ true 0 0 0 from .inr ⟨HF.out, HG.out, EX.out, rfl, 0, 0, rfl, rfl, (loose_del HAO.out ⟨(HGR.out.1 rfl).2.1, .inr (HGR.out.1 rfl).2.2⟩).nf HF.out HG.out HNA.out HNB.out⟩)
        -- the results true 0 0 0 of function netcalculus/netcalculusref10.Delay are stored
        obtain ⟨r0, r1, r2⟩ : _ ∧ _ ∧ _ := ⟨RB.out.cell 0, RB.out.cell 1, RB.out.cell 2⟩
        simp at r0 r1 r2
        have y0 := RB.out.frozen 0; have y1 := RB.out.frozen 1; have y2 := RB.out.frozen 2
        have hlr := RB.out.lt
        go_wp2_with fail
        have rb := RB.out.store3 (.bool true) (.int .i64 0) (.int .i64 0)
        exact bodyPost_ret (v := .tuple #[.agg #[.bool true, .int .i64 0, .int .i64 0], .int .i64 0]) (by simp [results, Try.results39, go_sem, rb.cell]) rfl ⟨_, _, _, _, F.out, rfl, b3store BW.out (by omega)⟩
      case false =>
        obtain ⟨P, hP⟩ : ∃ P, P = wc.heap.size := ⟨_, rfl⟩
        have hPA := FA.out.lt; have hPB := FB.out.lt; have hPR := RB.out.lt
        rw [← hP] at hPA hPB hPR
        have OB := Lib.hid (show Blk (wc.alloc (.cells #[.bool false, .int .i64 0, .int .i64 0] 60)) P 60 #[.bool false, .int .i64 0, .int .i64 0] from by rw [hP]; exact Blk.new _ _ _)
        have FA := Lib.hid (FA.out.alloc (.cells #[.bool false, .int .i64 0, .int .i64 0] 60)); have FB := Lib.hid (FB.out.alloc (.cells #[.bool false, .int .i64 0, .int .i64 0] 60)); have RB := Lib.hid (RB.out.alloc (.cells #[.bool false, .int .i64 0, .int .i64 0] 60)); have BW := Lib.hid (bthen BW.out (balloc _ (.cells #[.bool false, .int .i64 0, .int .i64 0] 60)))
        go_upto_region 7 with fail
        rw [← hP]
        clear hP
        generalize hwe : wc.alloc (.cells #[.bool false, .int .i64 0, .int .i64 0] 60) = we at *
        clear hwe
        have hls := FA.out.lf
        go_wp2_with fail
        go_loopg [11, 12, 13] T (fun gg s11 s12 s13 wx => ∃ (k : Nat) (v A' : Int), k + gg = T ∧ s11 = .int .i64 k ∧ DelII a b k v A' ∧ Blk wx P 60 #[.bool false, .int .i64 v, .int .i64 A'] ∧ By (w.heap.size + 1 + 1 + 1) wx w1.heap.size A1 n1 c1 a ∧ By (w.heap.size + 1 + 1 + 1) wx (w1.heap.size + 1) A2 n2 c2 b ∧ Blk wx (w.heap.size + 1 + 1) 60 #[.bool false, .int .i64 0, .int .i64 0] ∧ Below w.heap.size w wx)
        case atStart => exact ⟨0, 0, 0, by omega, rfl, ⟨0, 0, rfl, rfl, DelI.zero a b⟩, OB.out, FA.out, FB.out, RB.out, BW.out⟩
        case round =>
          clear OB FA FB RB BW
          obtain ⟨k, v, A', hkg, rfl, hI, ob, fa, fb, rb, bw⟩ := hrel
          have HI := Lib.hid hI; have OB := Lib.hid ob; have FA := Lib.hid fa; have FB := Lib.hid fb; have RB := Lib.hid rb; have BW := Lib.hid bw
          clear hI ob fa fb rb bw
          obtain ⟨a0, a1, a2, hla⟩ := FA.out.cells
          obtain ⟨b0, b1, b2, hlb⟩ := FB.out.cells
          go_wp2_with fail
          refine (window_any A1 A2 n1 c1 n2 c2 a.per a.inc b.per b.inc C _ (by omega) (by omega) (by omega)).mono ?_
          rw [← HT.out]
          rintro e wq ⟨rfl, hbq⟩
          have FA := Lib.hid (FA.out.below hbq); have FB := Lib.hid (FB.out.below hbq); have RB := Lib.hid (RB.out.below hbq RB.out.lt); have BW := Lib.hid (bthen BW.out hbq)
          try (have OB := Lib.hid (OB.out.below hbq OB.out.lt))
          clear hbq
          clear a0 a1 a2 hla b0 b1 b2 hlb
          obtain ⟨a0, a1, a2, hla⟩ := FA.out.cells
          obtain ⟨b0, b1, b2, hlb⟩ := FB.out.cells
          by_cases hk : k < T
          · have hki : (k : Int) < T := by omega
            obtain ⟨x, hx⟩ : ∃ x, x = a.at k := ⟨_, rfl⟩
            have HS := Lib.hid (at_small HAO.out (t := k) (by omega))
            have HX := Lib.hid hx
            clear hx hk
            go_upto_region 10 with fail
            go_region_held3 (fun w' => w'.cell? ⟨w1.heap.size, 0, none⟩ = some (.slice A1 n1 c1) ∧ w'.cell? ⟨w1.heap.size, 1, none⟩ = some (.int .i64 a.per) ∧ w'.cell? ⟨w1.heap.size, 2, none⟩ = some (.int .i64 a.inc) ∧ w'.cell? ⟨w1.heap.size + 1, 0, none⟩ = some (.slice A2 n2 c2) ∧ w'.cell? ⟨w1.heap.size + 1, 1, none⟩ = some (.int .i64 b.per) ∧ w'.cell? ⟨w1.heap.size + 1, 2, none⟩ = some (.int .i64 b.inc)) (first | go_keep)
              (first
                | (go_at_call 55
                   refine (refAt_any A1 n1 c1 a.per a.inc (k : Int) a.vals _ (by exact FA.out.ints.drew) (by omega) (by omega) (by omega) (by omega) (by omega) HAO.out.nn (by omega) (by omega)).mono ?_
                   rw [Int.toNat_natCast, show Cv.at ⟨a.vals, a.per, a.inc⟩ k = x from HX.out.symm]
                   rintro e wq ⟨rfl, hbq⟩
                   have hbq := bofdrew hbq
                   have FA := Lib.hid (FA.out.below hbq); have FB := Lib.hid (FB.out.below hbq); have RB := Lib.hid (RB.out.below hbq RB.out.lt); have BW := Lib.hid (bthen BW.out hbq)
                   try (have OB := Lib.hid (OB.out.below hbq OB.out.lt))
                   clear hbq
                   clear a0 a1 a2 hla b0 b1 b2 hlb
                   obtain ⟨a0, a1, a2, hla⟩ := FA.out.cells
                   obtain ⟨b0, b1, b2, hlb⟩ := FB.out.cells
                   skip)
                | (go_at_call 99
                   refine (refFirst_any A2 n2 c2 b.per b.inc x b.vals _ (by exact FB.out.ints) HBO.out (by rw [HX.out]; exact HS.out.1) (by rw [HX.out]; exact HS.out.2)).mono ?_
                   rintro e wq ⟨r, ok, hR, hr0, hr1, rfl, hbq⟩
                   have HR := Lib.hid hR
                   clear hR
                   have FA := Lib.hid (FA.out.below hbq); have FB := Lib.hid (FB.out.below hbq); have RB := Lib.hid (RB.out.below hbq RB.out.lt); have BW := Lib.hid (bthen BW.out hbq)
                   try (have OB := Lib.hid (OB.out.below hbq OB.out.lt))
                   clear hbq
                   clear a0 a1 a2 hla b0 b1 b2 hlb
                   obtain ⟨a0, a1, a2, hla⟩ := FA.out.cells
                   obtain ⟨b0, b1, b2, hlb⟩ := FB.out.cells
                   skip))
            all_goals
              clear a0 a1 a2 hla b0 b1 b2 hlb
              have hdr := Lib.hid (show DelR a b k (r - k) ok from ⟨r, by rw [← HX.out]; exact HR.out, rfl⟩)
              clear HR
              cases ok
              case false =>
                have F := Lib.hid (show DevE (DelayS ⟨xs, p, i⟩ ⟨ys, q, j⟩) ⟨xs, p, i⟩ ⟨ys, q, j⟩ true 0 0 0 from .inr ⟨HF.out, HG.out, EX.out, rfl, 0, 0, rfl, rfl, (del_bad HAO.out (by omega) hdr.out).nf HF.out HG.out HNA.out HNB.out⟩)
                -- the results true 0 0 0 of function netcalculus/netcalculusref10.Delay are stored
                obtain ⟨r0, r1, r2⟩ : _ ∧ _ ∧ _ := ⟨RB.out.cell 0, RB.out.cell 1, RB.out.cell 2⟩
                simp at r0 r1 r2
                have y0 := RB.out.frozen 0; have y1 := RB.out.frozen 1; have y2 := RB.out.frozen 2
                have hlr := RB.out.lt
                go_wp2_with fail
                have rb := RB.out.store3 (.bool true) (.int .i64 0) (.int .i64 0)
                exact bodyPost_ret (v := .tuple #[.agg #[.bool true, .int .i64 0, .int .i64 0], .int .i64 0]) (by simp [results, Try.results39, go_sem, rb.cell]) rfl ⟨_, _, _, _, F.out, rfl, b3store BW.out (by omega)⟩
              case true =>
                have ST := Lib.hid (del_step HAO.out HBO.out (show k ≤ 1000 by omega) HI.out hdr.out)
                clear hdr HI
                obtain ⟨o0, o1, o2⟩ : _ ∧ _ ∧ _ := ⟨OB.out.cell 0, OB.out.cell 1, OB.out.cell 2⟩
                simp at o0 o1 o2
                have z1 := OB.out.frozen 1; have z2 := OB.out.frozen 2
                have hlo := OB.out.lt
                by_cases hvd : v < r - k
                · have F := Lib.hid (ST.out.1 hvd)
                  go_wp2_with fail
                  clear hvd
                  clear o0 o1 o2 z1 z2 hlo
                  -- the cells 1 and 2 of block P hold (.int .i64 (r - k)) and (.int .i64 k)
                  have FA := Lib.hid ((FA.out.set1 (g := P) (.inl (by omega)) 1 (.int .i64 (r - k))).set1 (g := P) (.inl (by omega)) 2 (.int .i64 k)); have FB := Lib.hid ((FB.out.set1 (g := P) (.inl (by omega)) 1 (.int .i64 (r - k))).set1 (g := P) (.inl (by omega)) 2 (.int .i64 k))
                  have RB := Lib.hid ((RB.out.far (p := ⟨P, 1, none⟩) (by simp; omega) (.int .i64 (r - k))).far (p := ⟨P, 2, none⟩) (by simp; omega) (.int .i64 k))
                  have BW := Lib.hid ((BW.out.setCell (p := ⟨P, 1, none⟩) (by simp; omega) (.int .i64 (r - k))).setCell (p := ⟨P, 2, none⟩) (by simp; omega) (.int .i64 k))
                  have OB := Lib.hid ((OB.out.set_ 1 (.int .i64 (r - k))).set_ 2 (.int .i64 k))
                  simp only [List.setIfInBounds_toArray, List.set_cons_zero, List.set_cons_succ] at OB
                  go_roundg (gk - 1)
                  case measure => omega
                  case rel => exact ⟨k + 1, _, _, by omega, by go_num, F.out, OB.out, FA.out, FB.out, RB.out, BW.out⟩
                · have F := Lib.hid (ST.out.2 hvd)
                  go_wp2_with fail
                  go_roundg (gk - 1)
                  case measure => omega
                  case rel => exact ⟨k + 1, _, _, by omega, by go_num, F.out, OB.out, FA.out, FB.out, RB.out, BW.out⟩
          · have hkT : k = T := by omega
            subst hkT
            clear hk hkg
            clear a0 a1 a2 hla b0 b1 b2 hlb
            have F := Lib.hid (show DevE (DelayS ⟨xs, p, i⟩ ⟨ys, q, j⟩) ⟨xs, p, i⟩ ⟨ys, q, j⟩ false v A' 0 from .inr ⟨HF.out, HG.out, EX.out, rfl, by
              obtain ⟨v', A'', rfl, rfl, h⟩ := HI.out
              exact ⟨v', A'', rfl, rfl, (h.done HAO.out HBO.out (del_tight HAO.out HBO.out HTA.out h HGR.out) HTO.out).nf HF.out HG.out HNA.out HNB.out⟩⟩)
            obtain ⟨o0, o1, o2⟩ : _ ∧ _ ∧ _ := ⟨OB.out.cell 0, OB.out.cell 1, OB.out.cell 2⟩
            simp at o0 o1 o2
            have z1 := OB.out.frozen 1; have z2 := OB.out.frozen 2
            have hlo := OB.out.lt
            -- the results false v A' 0 of function netcalculus/netcalculusref10.Delay are stored
            obtain ⟨r0, r1, r2⟩ : _ ∧ _ ∧ _ := ⟨RB.out.cell 0, RB.out.cell 1, RB.out.cell 2⟩
            simp at r0 r1 r2
            have y0 := RB.out.frozen 0; have y1 := RB.out.frozen 1; have y2 := RB.out.frozen 2
            have hlr := RB.out.lt
            go_wp2_with fail
            have rb := RB.out.store3 (.bool false) (.int .i64 v) (.int .i64 A')
            exact bodyPost_ret (v := .tuple #[.agg #[.bool false, .int .i64 v, .int .i64 A'], .int .i64 0]) (by simp [results, Try.results39, go_sem, rb.cell]) rfl ⟨_, _, _, _, F.out, rfl, b3store BW.out (by omega)⟩
set_option maxHeartbeats 4000000 in
set_option maxRecDepth 100000 in
theorem refAbove_any (K : Nat) (hK : K ≤ 1) (A B : Option Addr) (n m c d : Nat) (p i q j : Int) (xs ys : List Int) (w : World) (hA : Ints w w.heap.size A n xs) (hB : Ints w w.heap.size B m ys) (hn : (n : Int) ≤ 1000000) (hm : (m : Int) ≤ 1000000) (hnc : n ≤ c) (hmd : m ≤ d) :
    Calls Try.prog 101 #[.agg #[.slice A n c, .int .i64 p, .int .i64 i], .agg #[.slice B m d, .int .i64 q, .int .i64 j], .int .i64 K] w (RetDv (AheadS ⟨xs, p, i⟩ ⟨ys, q, j⟩ K) ⟨xs, p, i⟩ ⟨ys, q, j⟩ w) := by
-- netcalculus/netcalculusref10.above the function, (AheadS ⟨xs, p, i⟩ ⟨ys, q, j⟩ K) S, 39 the slot of the test
  have rb := Blk.new ((w.alloc (.cells #[.slice A n c, .int .i64 p, .int .i64 i] 41)).alloc (.cells #[.slice B m d, .int .i64 q, .int .i64 j] 41)) 60 #[.bool false, .int .i64 0, .int .i64 0]
  have P := Lib.hid ((PS.new (c := c) (p := p) (i := i) (d := d) (q := q) (j := j) hA hB).alloc (.cells #[.bool false, .int .i64 0, .int .i64 0] 60))
  rw [World.size_alloc, World.size_alloc] at rb
  have RB := Lib.hid rb
  have HNC := Lib.hid hnc; have HMD := Lib.hid hmd
  clear hA hB rb hnc hmd
  go_enter Try.func101, Try.ntmps101
  go_wp2_with fail
  refine (refPair_any A B n m c d p i q j xs ys _ P.out.ia P.out.ib hn hm HNC.out HMD.out).mono ?_
  rintro e w1 ⟨a, b, l, er, A1, n1, c1, A2, n2, c2, hR, rfl, hI1, hI2, hA1, hA2, hb⟩
  simp only [World.size_alloc] at hA1 hA2
  have HR := Lib.hid hR
  have RB := Lib.hid (((RB.out.below hb RB.out.lt).alloc (.cells #[.slice A1 n1 c1, .int .i64 a.per, .int .i64 a.inc] 41)).alloc (.cells #[.slice A2 n2 c2, .int .i64 b.per, .int .i64 b.inc] 41))
  have BW := Lib.hid (bthen (bthen (bthen P.out.bw hb) (balloc _ (.cells #[.slice A1 n1 c1, .int .i64 a.per, .int .i64 a.inc] 41))) (balloc _ (.cells #[.slice A2 n2 c2, .int .i64 b.per, .int .i64 b.inc] 41)))
  have hs1 : w.heap.size + 1 + 1 < w1.heap.size := by have := hb.size; simp only [World.size_alloc] at this; omega
  have FA := Lib.hid ((By.new (L := w.heap.size + 1 + 1 + 1) (c := c1) hI1 hA1 (Nat.le_refl _) (by omega)).alloc (.cells #[.slice A2 n2 c2, .int .i64 b.per, .int .i64 b.inc] 41))
  have fb := By.new (L := w.heap.size + 1 + 1 + 1) (f := b) (c := c2) (hI2.alloc' (.cells #[.slice A1 n1 c1, .int .i64 a.per, .int .i64 a.inc] 41)) hA2 (Nat.le_refl _) (by simp only [World.size_alloc]; omega)
  simp only [World.size_alloc] at fb
  have FB := Lib.hid fb
  clear hR hI1 hI2 hA1 hA2 hb fb P
  go_upto_region 2 with fail
  generalize hwz : (w1.alloc (.cells #[.slice A1 n1 c1, .int .i64 a.per, .int .i64 a.inc] 41)).alloc (.cells #[.slice A2 n2 c2, .int .i64 b.per, .int .i64 b.inc] 41) = wz at *
  clear hwz
  rcases HR.out with ⟨hbad, rfl⟩ | ⟨hf, hg, hna, hnb, hao, hbo, ⟨hcc, rfl⟩ | ⟨hcc, hle, rfl⟩⟩
  · have F := Lib.hid (show DevE (AheadS ⟨xs, p, i⟩ ⟨ys, q, j⟩ K) ⟨xs, p, i⟩ ⟨ys, q, j⟩ false 0 0 1 from .inl ⟨.inl ⟨hbad, rfl⟩, rfl, rfl, rfl⟩)
    clear HR hbad
    -- the results false 0 0 1 of function netcalculus/netcalculusref10.above are stored
    obtain ⟨r0, r1, r2⟩ : _ ∧ _ ∧ _ := ⟨RB.out.cell 0, RB.out.cell 1, RB.out.cell 2⟩
    simp at r0 r1 r2
    have y0 := RB.out.frozen 0; have y1 := RB.out.frozen 1; have y2 := RB.out.frozen 2
    have hlr := RB.out.lt
    go_wp2_with fail
    have rb := RB.out.store3 (.bool false) (.int .i64 0) (.int .i64 0)
    exact bodyPost_ret (v := .tuple #[.agg #[.bool false, .int .i64 0, .int .i64 0], .int .i64 1]) (by simp [results, Try.results101, go_sem, rb.cell]) rfl ⟨_, _, _, _, F.out, rfl, b3store BW.out (by omega)⟩
  · have F := Lib.hid (show DevE (AheadS ⟨xs, p, i⟩ ⟨ys, q, j⟩ K) ⟨xs, p, i⟩ ⟨ys, q, j⟩ false 0 0 3 from .inl ⟨.inr ⟨hf, hg, rfl, a, b, hna, hnb, hcc⟩, rfl, rfl, rfl⟩)
    clear HR hf hg hna hnb hao hbo hcc
    -- the results false 0 0 3 of function netcalculus/netcalculusref10.above are stored
    obtain ⟨r0, r1, r2⟩ : _ ∧ _ ∧ _ := ⟨RB.out.cell 0, RB.out.cell 1, RB.out.cell 2⟩
    simp at r0 r1 r2
    have y0 := RB.out.frozen 0; have y1 := RB.out.frozen 1; have y2 := RB.out.frozen 2
    have hlr := RB.out.lt
    go_wp2_with fail
    have rb := RB.out.store3 (.bool false) (.int .i64 0) (.int .i64 0)
    exact bodyPost_ret (v := .tuple #[.agg #[.bool false, .int .i64 0, .int .i64 0], .int .i64 3]) (by simp [results, Try.results101, go_sem, rb.cell]) rfl ⟨_, _, _, _, F.out, rfl, b3store BW.out (by omega)⟩
  · have hp1 := hao.p1; have hp2 := hao.p2; have hq1 := hbo.p1; have hq2 := hbo.p2; have hi1 := hao.i1; have hi2 := hao.i2; have hj1 := hbo.i1; have hj2 := hbo.i2
    have hna2 := hao.n2; have hnb2 := hbo.n2; have hpn := hao.pn; have hqn := hbo.pn
    have hl1 : a.vals.length = n1 := FA.out.ints.1
    have hl2 : b.vals.length = n2 := FB.out.ints.1
    rw [hl1] at hna2 hpn
    rw [hl2] at hnb2 hqn
    have EX := Lib.hid (show ∃ a b, NF (Cv.at ⟨xs, p, i⟩) a ∧ NF (Cv.at ⟨ys, q, j⟩) b ∧ comm a.per.toNat b.per.toNat ≤ 120 from ⟨a, b, hna, hnb, hcc⟩)
    obtain ⟨C, hC⟩ : ∃ C, C = comm a.per.toNat b.per.toNat := ⟨_, rfl⟩
    rw [← hC] at hle hcc
    obtain rfl := hle
    have hk := comm_facts (p := a.per.toNat) (q := b.per.toNat) (by omega) (by omega)
    rw [← hC] at hk
    have hC1 : 1 ≤ C := hk.2.2.1
    have hC2 : C ≤ 120 := hcc
    obtain ⟨T, hT⟩ : ∃ T, T = max n1 n2 + C := ⟨_, rfl⟩
    have hTb : T ≤ 520 := by omega
    have HT := Lib.hid hT
    have HTO := Lib.hid (show ordF a b + ordC a b ≤ T from by
      unfold ordF
      rw [show ordC a b = C from hC.symm, hl1, hl2, hT]
      omega)
    have HTA := Lib.hid (show a.vals.length ≤ T from by rw [hl1, hT]; omega)
    have HU := Lib.hid (show ((C / a.per.toNat : Nat) : Int) * a.inc - ((C / b.per.toNat : Nat) : Int) * b.inc = ordD a b from by rw [hC]; rfl)
    have HF := Lib.hid hf; have HG := Lib.hid hg; have HNA := Lib.hid hna; have HNB := Lib.hid hnb; have HAO := Lib.hid hao; have HBO := Lib.hid hbo
    clear HR hf hg hna hnb hao hbo hC hk hl1 hl2 hcc hT
    go_upto_region 4 with fail
    go_cut [39] (fun s37 wx => ∃ bb : Bool, s37 = .bool bb ∧ GrB bb a b ∧ By (w.heap.size + 1 + 1 + 1) wx w1.heap.size A1 n1 c1 a ∧ By (w.heap.size + 1 + 1 + 1) wx (w1.heap.size + 1) A2 n2 c2 b ∧ Blk wx (w.heap.size + 1 + 1) 60 #[.bool false, .int .i64 0, .int .i64 0] ∧ Below w.heap.size w wx)
    case first =>
      obtain ⟨a0, a1, a2, hla⟩ := FA.out.cells
      obtain ⟨b0, b1, b2, hlb⟩ := FB.out.cells
      go_wp2_with fail
      refine (refFinite_any A1 n1 c1 a.per a.inc a.vals _ (by exact FA.out.ints) (by omega)).mono ?_
      by_cases hfa : a.Fin
      · rw [fin10_t hfa]
        rintro e wq ⟨rfl, hbq⟩
        have HFA := Lib.hid hfa
        clear hfa
        have FA := Lib.hid (FA.out.below hbq); have FB := Lib.hid (FB.out.below hbq); have RB := Lib.hid (RB.out.below hbq RB.out.lt); have BW := Lib.hid (bthen BW.out hbq)
        try (have OB := Lib.hid (OB.out.below hbq OB.out.lt))
        clear hbq
        clear a0 a1 a2 hla b0 b1 b2 hlb
        obtain ⟨a0, a1, a2, hla⟩ := FA.out.cells
        obtain ⟨b0, b1, b2, hlb⟩ := FB.out.cells
        go_wp2_with fail
        refine (refFinite_any A2 n2 c2 b.per b.inc b.vals _ (by exact FB.out.ints) (by omega)).mono ?_
        by_cases hfb : b.Fin
        · rw [fin10_t hfb]
          rintro e wq ⟨rfl, hbq⟩
          have HFB := Lib.hid hfb
          clear hfb
          have FA := Lib.hid (FA.out.below hbq); have FB := Lib.hid (FB.out.below hbq); have RB := Lib.hid (RB.out.below hbq RB.out.lt); have BW := Lib.hid (bthen BW.out hbq)
          try (have OB := Lib.hid (OB.out.below hbq OB.out.lt))
          clear hbq
          clear a0 a1 a2 hla b0 b1 b2 hlb
          obtain ⟨a0, a1, a2, hla⟩ := FA.out.cells
          obtain ⟨b0, b1, b2, hlb⟩ := FB.out.cells
          go_wp2_with fail
          refine (grows_any A1 A2 n1 c1 n2 c2 a.per a.inc b.per b.inc C _ (by omega) (by omega) (by omega) (by omega) (by omega) (by omega) (by omega)).mono ?_
          rw [HU.out]
          by_cases hd : 0 < ordD a b
          · rw [decide_eq_true hd]
            have F := Lib.hid (show GrB true a b from ⟨fun _ => ⟨HFA.out, HFB.out, hd⟩, fun _ => rfl⟩)
            rintro e wq ⟨rfl, hbq⟩
            clear hd
            have FA := Lib.hid (FA.out.below hbq); have FB := Lib.hid (FB.out.below hbq); have RB := Lib.hid (RB.out.below hbq RB.out.lt); have BW := Lib.hid (bthen BW.out hbq)
            try (have OB := Lib.hid (OB.out.below hbq OB.out.lt))
            clear hbq
            clear a0 a1 a2 hla b0 b1 b2 hlb
            obtain ⟨a0, a1, a2, hla⟩ := FA.out.cells
            obtain ⟨b0, b1, b2, hlb⟩ := FB.out.cells
            go_wp2_with fail
            go_meet
            exact ⟨_, rfl, F.out, FA.out, FB.out, RB.out, BW.out⟩
          · rw [decide_eq_false hd]
            have F := Lib.hid (show GrB false a b from ⟨(fun h => by cases h), fun h => absurd h.2.2 hd⟩)
            rintro e wq ⟨rfl, hbq⟩
            clear hd
            have FA := Lib.hid (FA.out.below hbq); have FB := Lib.hid (FB.out.below hbq); have RB := Lib.hid (RB.out.below hbq RB.out.lt); have BW := Lib.hid (bthen BW.out hbq)
            try (have OB := Lib.hid (OB.out.below hbq OB.out.lt))
            clear hbq
            clear a0 a1 a2 hla b0 b1 b2 hlb
            obtain ⟨a0, a1, a2, hla⟩ := FA.out.cells
            obtain ⟨b0, b1, b2, hlb⟩ := FB.out.cells
            go_wp2_with fail
            go_meet
            exact ⟨_, rfl, F.out, FA.out, FB.out, RB.out, BW.out⟩
        · rw [fin10_f HBO.out hfb]
          have F := Lib.hid (show GrB false a b from ⟨(fun h => by cases h), fun h => absurd h.2.1 hfb⟩)
          rintro e wq ⟨rfl, hbq⟩
          clear hfb
          have FA := Lib.hid (FA.out.below hbq); have FB := Lib.hid (FB.out.below hbq); have RB := Lib.hid (RB.out.below hbq RB.out.lt); have BW := Lib.hid (bthen BW.out hbq)
          try (have OB := Lib.hid (OB.out.below hbq OB.out.lt))
          clear hbq
          clear a0 a1 a2 hla b0 b1 b2 hlb
          obtain ⟨a0, a1, a2, hla⟩ := FA.out.cells
          obtain ⟨b0, b1, b2, hlb⟩ := FB.out.cells
          go_wp2_with fail
          go_meet
          exact ⟨_, rfl, F.out, FA.out, FB.out, RB.out, BW.out⟩
      · rw [fin10_f HAO.out hfa]
        have F := Lib.hid (show GrB false a b from ⟨(fun h => by cases h), fun h => absurd h.1 hfa⟩)
        rintro e wq ⟨rfl, hbq⟩
        clear hfa
        have FA := Lib.hid (FA.out.below hbq); have FB := Lib.hid (FB.out.below hbq); have RB := Lib.hid (RB.out.below hbq RB.out.lt); have BW := Lib.hid (bthen BW.out hbq)
        try (have OB := Lib.hid (OB.out.below hbq OB.out.lt))
        clear hbq
        clear a0 a1 a2 hla b0 b1 b2 hlb
        obtain ⟨a0, a1, a2, hla⟩ := FA.out.cells
        obtain ⟨b0, b1, b2, hlb⟩ := FB.out.cells
        go_wp2_with fail
        go_meet
        exact ⟨_, rfl, F.out, FA.out, FB.out, RB.out, BW.out⟩
    case rest =>
      clear FA FB RB BW HU
      obtain ⟨bb, rfl, hgr, fa, fb, rb, bw⟩ := hcut
      have FA := Lib.hid fa; have FB := Lib.hid fb; have RB := Lib.hid rb; have BW := Lib.hid bw; have HGR := Lib.hid hgr
      clear fa fb rb bw hgr
      cases bb
      case true =>
        have F := Lib.hid (show DevE (AheadS ⟨xs, p, i⟩ ⟨ys, q, j⟩ K) ⟨xs, p, i⟩ ⟨ys, q, j⟩ true 0 0 0 from .inr ⟨HF.out, HG.out, EX.out, rfl, 0, 0, rfl, rfl, (loose_ahead HAO.out K ⟨(HGR.out.1 rfl).2.1, .inr (HGR.out.1 rfl).2.2⟩).nf HF.out HG.out HNA.out HNB.out⟩)
        -- the results true 0 0 0 of function netcalculus/netcalculusref10.above are stored
        obtain ⟨r0, r1, r2⟩ : _ ∧ _ ∧ _ := ⟨RB.out.cell 0, RB.out.cell 1, RB.out.cell 2⟩
        simp at r0 r1 r2
        have y0 := RB.out.frozen 0; have y1 := RB.out.frozen 1; have y2 := RB.out.frozen 2
        have hlr := RB.out.lt
        go_wp2_with fail
        have rb := RB.out.store3 (.bool true) (.int .i64 0) (.int .i64 0)
        exact bodyPost_ret (v := .tuple #[.agg #[.bool true, .int .i64 0, .int .i64 0], .int .i64 0]) (by simp [results, Try.results101, go_sem, rb.cell]) rfl ⟨_, _, _, _, F.out, rfl, b3store BW.out (by omega)⟩
      case false =>
        obtain ⟨P, hP⟩ : ∃ P, P = wc.heap.size := ⟨_, rfl⟩
        have hPA := FA.out.lt; have hPB := FB.out.lt; have hPR := RB.out.lt
        rw [← hP] at hPA hPB hPR
        have OB := Lib.hid (show Blk (wc.alloc (.cells #[.bool false, .int .i64 0, .int .i64 0] 60)) P 60 #[.bool false, .int .i64 0, .int .i64 0] from by rw [hP]; exact Blk.new _ _ _)
        have FA := Lib.hid (FA.out.alloc (.cells #[.bool false, .int .i64 0, .int .i64 0] 60)); have FB := Lib.hid (FB.out.alloc (.cells #[.bool false, .int .i64 0, .int .i64 0] 60)); have RB := Lib.hid (RB.out.alloc (.cells #[.bool false, .int .i64 0, .int .i64 0] 60)); have BW := Lib.hid (bthen BW.out (balloc _ (.cells #[.bool false, .int .i64 0, .int .i64 0] 60)))
        go_upto_region 7 with fail
        rw [← hP]
        clear hP
        generalize hwe : wc.alloc (.cells #[.bool false, .int .i64 0, .int .i64 0] 60) = we at *
        clear hwe
        have hls := FA.out.lf
        go_wp2_with fail
        go_loopg [13, 14, 15] T (fun gg s13 s14 s15 wx => ∃ (k : Nat) (v A' : Int), k + gg = T ∧ s13 = .int .i64 k ∧ AhII a b K k v A' ∧ Blk wx P 60 #[.bool false, .int .i64 v, .int .i64 A'] ∧ By (w.heap.size + 1 + 1 + 1) wx w1.heap.size A1 n1 c1 a ∧ By (w.heap.size + 1 + 1 + 1) wx (w1.heap.size + 1) A2 n2 c2 b ∧ Blk wx (w.heap.size + 1 + 1) 60 #[.bool false, .int .i64 0, .int .i64 0] ∧ Below w.heap.size w wx)
        case atStart => exact ⟨0, 0, 0, by omega, rfl, ⟨0, 0, rfl, rfl, AhI.zero a b K⟩, OB.out, FA.out, FB.out, RB.out, BW.out⟩
        case round =>
          clear OB FA FB RB BW
          obtain ⟨k, v, A', hkg, rfl, hI, ob, fa, fb, rb, bw⟩ := hrel
          have HI := Lib.hid hI; have OB := Lib.hid ob; have FA := Lib.hid fa; have FB := Lib.hid fb; have RB := Lib.hid rb; have BW := Lib.hid bw
          clear hI ob fa fb rb bw
          obtain ⟨a0, a1, a2, hla⟩ := FA.out.cells
          obtain ⟨b0, b1, b2, hlb⟩ := FB.out.cells
          go_wp2_with fail
          refine (window_any A1 A2 n1 c1 n2 c2 a.per a.inc b.per b.inc C _ (by omega) (by omega) (by omega)).mono ?_
          rw [← HT.out]
          rintro e wq ⟨rfl, hbq⟩
          have FA := Lib.hid (FA.out.below hbq); have FB := Lib.hid (FB.out.below hbq); have RB := Lib.hid (RB.out.below hbq RB.out.lt); have BW := Lib.hid (bthen BW.out hbq)
          try (have OB := Lib.hid (OB.out.below hbq OB.out.lt))
          clear hbq
          clear a0 a1 a2 hla b0 b1 b2 hlb
          obtain ⟨a0, a1, a2, hla⟩ := FA.out.cells
          obtain ⟨b0, b1, b2, hlb⟩ := FB.out.cells
          by_cases hk : k < T
          · have hki : (k : Int) < T := by omega
            have hs1 := HAO.out.at_bd (n := k + K) (by omega); have hs2 := HBO.out.at_bd (n := k) (by omega)
            have hx0 := hs1.1; have hx1 := hs1.2.1; have hy0 := hs2.1; have hy1 := hs2.2.1
            obtain ⟨x, hx⟩ : ∃ x, x = a.at (k + K) := ⟨_, rfl⟩
            obtain ⟨y, hy⟩ : ∃ y, y = b.at k := ⟨_, rfl⟩
            rw [← hx] at hx0 hx1
            rw [← hy] at hy0 hy1
            unfold inf at hx1 hy1
            have HX := Lib.hid hx; have HY := Lib.hid hy
            have e1 : IntKind.i64.wrap ((k : Int) + (K : Int)) = (k : Int) + (K : Int) := IntWalk.i64_in _ (by omega)
            clear hx hy hs1 hs2 hk
            go_upto_region 10 with fail
            go_region_held3 (fun w' => w'.cell? ⟨w1.heap.size, 0, none⟩ = some (.slice A1 n1 c1) ∧ w'.cell? ⟨w1.heap.size, 1, none⟩ = some (.int .i64 a.per) ∧ w'.cell? ⟨w1.heap.size, 2, none⟩ = some (.int .i64 a.inc) ∧ w'.cell? ⟨w1.heap.size + 1, 0, none⟩ = some (.slice A2 n2 c2) ∧ w'.cell? ⟨w1.heap.size + 1, 1, none⟩ = some (.int .i64 b.per) ∧ w'.cell? ⟨w1.heap.size + 1, 2, none⟩ = some (.int .i64 b.inc)) (first | go_keep)
              (first
                | (go_at_call_of 55 (Value.agg #[.slice A1 n1 c1, .int .i64 a.per, .int .i64 a.inc])
                   refine (refAt_any A1 n1 c1 a.per a.inc ((k : Int) + (K : Int)) a.vals _ (by first | exact FA.out.ints.drew | exact FA.out.ints) (by omega) (by omega) (by omega) (by omega) (by omega) HAO.out.nn (by omega) (by omega)).mono ?_
                   rw [show ((k : Int) + (K : Int)).toNat = k + K by omega, show Cv.at ⟨a.vals, a.per, a.inc⟩ (k + K) = x from HX.out.symm]
                   rintro e wq ⟨rfl, hbq⟩
                   try (have hbq := bofdrew hbq)
                   have FA := Lib.hid (FA.out.below hbq); have FB := Lib.hid (FB.out.below hbq); have RB := Lib.hid (RB.out.below hbq RB.out.lt); have BW := Lib.hid (bthen BW.out hbq)
                   try (have OB := Lib.hid (OB.out.below hbq OB.out.lt))
                   clear hbq
                   clear a0 a1 a2 hla b0 b1 b2 hlb
                   obtain ⟨a0, a1, a2, hla⟩ := FA.out.cells
                   obtain ⟨b0, b1, b2, hlb⟩ := FB.out.cells
                   skip)
                | (go_at_call_of 55 (Value.agg #[.slice A2 n2 c2, .int .i64 b.per, .int .i64 b.inc])
                   refine (refAt_any A2 n2 c2 b.per b.inc (k : Int) b.vals _ (by first | exact FB.out.ints.drew | exact FB.out.ints) (by omega) (by omega) (by omega) (by omega) (by omega) HBO.out.nn (by omega) (by omega)).mono ?_
                   rw [Int.toNat_natCast, show Cv.at ⟨b.vals, b.per, b.inc⟩ k = y from HY.out.symm]
                   rintro e wq ⟨rfl, hbq⟩
                   try (have hbq := bofdrew hbq)
                   have FA := Lib.hid (FA.out.below hbq); have FB := Lib.hid (FB.out.below hbq); have RB := Lib.hid (RB.out.below hbq RB.out.lt); have BW := Lib.hid (bthen BW.out hbq)
                   try (have OB := Lib.hid (OB.out.below hbq OB.out.lt))
                   clear hbq
                   clear a0 a1 a2 hla b0 b1 b2 hlb
                   obtain ⟨a0, a1, a2, hla⟩ := FA.out.cells
                   obtain ⟨b0, b1, b2, hlb⟩ := FB.out.cells
                   skip))
            all_goals
              clear a0 a1 a2 hla b0 b1 b2 hlb
              clear e1
              by_cases hyi : y = 4611686018427387904
              case pos =>
                have c1 : (y == 4611686018427387904) = true := by simpa using hyi
                have F := Lib.hid ((ah_step HAO.out HBO.out hK (show k ≤ 1000 by omega) HI.out (show AhR a b K k 0 true from .inl ⟨by rw [← HY.out]; exact hyi, rfl, rfl⟩)).2 (by obtain ⟨v', _, rfl, _⟩ := HI.out; omega))
                clear hyi
                go_wp2_with fail
                go_roundg (gk - 1)
                case measure => omega
                case rel => exact ⟨k + 1, _, _, by omega, by go_num, F.out, OB.out, FA.out, FB.out, RB.out, BW.out⟩
              case neg =>
                have c1 : (y == 4611686018427387904) = false := by simpa using hyi
                by_cases hxi : x = 4611686018427387904
                case pos =>
                  have c2 : (x == 4611686018427387904) = true := by simpa using hxi
                  have F := Lib.hid (show DevE (AheadS ⟨xs, p, i⟩ ⟨ys, q, j⟩ K) ⟨xs, p, i⟩ ⟨ys, q, j⟩ true 0 0 0 from .inr ⟨HF.out, HG.out, EX.out, rfl, 0, 0, rfl, rfl, (ah_bad HAO.out HBO.out hK (by omega) (show AhR a b K k (x - y) false from .inr ⟨by rw [← HY.out]; exact hyi, by rw [HX.out, HY.out], by rw [← HX.out]; exact (by simp only [inf, hxi, bne_self_eq_false])⟩)).nf HF.out HG.out HNA.out HNB.out⟩)
                  clear hyi hxi
                  -- the results true 0 0 0 of function netcalculus/netcalculusref10.above are stored
                  obtain ⟨r0, r1, r2⟩ : _ ∧ _ ∧ _ := ⟨RB.out.cell 0, RB.out.cell 1, RB.out.cell 2⟩
                  simp at r0 r1 r2
                  have y0 := RB.out.frozen 0; have y1 := RB.out.frozen 1; have y2 := RB.out.frozen 2
                  have hlr := RB.out.lt
                  go_wp2_with fail
                  have rb := RB.out.store3 (.bool true) (.int .i64 0) (.int .i64 0)
                  exact bodyPost_ret (v := .tuple #[.agg #[.bool true, .int .i64 0, .int .i64 0], .int .i64 0]) (by simp [results, Try.results101, go_sem, rb.cell]) rfl ⟨_, _, _, _, F.out, rfl, b3store BW.out (by omega)⟩
                case neg =>
                  have c2 : (x == 4611686018427387904) = false := by simpa using hxi
                  have ST := Lib.hid (ah_step HAO.out HBO.out hK (show k ≤ 1000 by omega) HI.out (show AhR a b K k (x - y) true from .inr ⟨by rw [← HY.out]; exact hyi, by rw [HX.out, HY.out], by rw [← HX.out]; exact (bne_iff_ne.2 hxi).symm⟩))
                  clear hyi hxi HI
                  obtain ⟨o0, o1, o2⟩ : _ ∧ _ ∧ _ := ⟨OB.out.cell 0, OB.out.cell 1, OB.out.cell 2⟩
                  simp at o0 o1 o2
                  have z1 := OB.out.frozen 1; have z2 := OB.out.frozen 2
                  have hlo := OB.out.lt
                  by_cases hvd : v < x - y
                  · have F := Lib.hid (ST.out.1 hvd)
                    go_wp2_with fail
                    clear hvd
                    clear o0 o1 o2 z1 z2 hlo
                    -- the cells 1 and 2 of block P hold (.int .i64 (x - y)) and (.int .i64 k)
                    have FA := Lib.hid ((FA.out.set1 (g := P) (.inl (by omega)) 1 (.int .i64 (x - y))).set1 (g := P) (.inl (by omega)) 2 (.int .i64 k)); have FB := Lib.hid ((FB.out.set1 (g := P) (.inl (by omega)) 1 (.int .i64 (x - y))).set1 (g := P) (.inl (by omega)) 2 (.int .i64 k))
                    have RB := Lib.hid ((RB.out.far (p := ⟨P, 1, none⟩) (by simp; omega) (.int .i64 (x - y))).far (p := ⟨P, 2, none⟩) (by simp; omega) (.int .i64 k))
                    have BW := Lib.hid ((BW.out.setCell (p := ⟨P, 1, none⟩) (by simp; omega) (.int .i64 (x - y))).setCell (p := ⟨P, 2, none⟩) (by simp; omega) (.int .i64 k))
                    have OB := Lib.hid ((OB.out.set_ 1 (.int .i64 (x - y))).set_ 2 (.int .i64 k))
                    simp only [List.setIfInBounds_toArray, List.set_cons_zero, List.set_cons_succ] at OB
                    go_roundg (gk - 1)
                    case measure => omega
                    case rel => exact ⟨k + 1, _, _, by omega, by go_num, F.out, OB.out, FA.out, FB.out, RB.out, BW.out⟩
                  · have F := Lib.hid (ST.out.2 hvd)
                    go_wp2_with fail
                    go_roundg (gk - 1)
                    case measure => omega
                    case rel => exact ⟨k + 1, _, _, by omega, by go_num, F.out, OB.out, FA.out, FB.out, RB.out, BW.out⟩
          · have hkT : k = T := by omega
            subst hkT
            clear hk hkg
            clear a0 a1 a2 hla b0 b1 b2 hlb
            have F := Lib.hid (show DevE (AheadS ⟨xs, p, i⟩ ⟨ys, q, j⟩ K) ⟨xs, p, i⟩ ⟨ys, q, j⟩ false v A' 0 from .inr ⟨HF.out, HG.out, EX.out, rfl, by
              obtain ⟨v', A'', rfl, rfl, h⟩ := HI.out
              exact ⟨v', A'', rfl, rfl, (h.done HAO.out HBO.out (ah_tight HAO.out HBO.out HTA.out h HGR.out) HTO.out).nf HF.out HG.out HNA.out HNB.out⟩⟩)
            obtain ⟨o0, o1, o2⟩ : _ ∧ _ ∧ _ := ⟨OB.out.cell 0, OB.out.cell 1, OB.out.cell 2⟩
            simp at o0 o1 o2
            have z1 := OB.out.frozen 1; have z2 := OB.out.frozen 2
            have hlo := OB.out.lt
            -- the results false v A' 0 of function netcalculus/netcalculusref10.above are stored
            obtain ⟨r0, r1, r2⟩ : _ ∧ _ ∧ _ := ⟨RB.out.cell 0, RB.out.cell 1, RB.out.cell 2⟩
            simp at r0 r1 r2
            have y0 := RB.out.frozen 0; have y1 := RB.out.frozen 1; have y2 := RB.out.frozen 2
            have hlr := RB.out.lt
            go_wp2_with fail
            have rb := RB.out.store3 (.bool false) (.int .i64 v) (.int .i64 A')
            exact bodyPost_ret (v := .tuple #[.agg #[.bool false, .int .i64 v, .int .i64 A'], .int .i64 0]) (by simp [results, Try.results101, go_sem, rb.cell]) rfl ⟨_, _, _, _, F.out, rfl, b3store BW.out (by omega)⟩
theorem refBacklog_any (A B : Option Addr) (n m c d : Nat) (p i q j : Int) (xs ys : List Int) (w : World) (hA : Ints w w.heap.size A n xs) (hB : Ints w w.heap.size B m ys) (hn : (n : Int) ≤ 1000000) (hm : (m : Int) ≤ 1000000) (hnc : n ≤ c) (hmd : m ≤ d) :
    Calls Try.prog 41 #[.agg #[.slice A n c, .int .i64 p, .int .i64 i], .agg #[.slice B m d, .int .i64 q, .int .i64 j]] w (RetDv (AheadS ⟨xs, p, i⟩ ⟨ys, q, j⟩ 0) ⟨xs, p, i⟩ ⟨ys, q, j⟩ w) := by
  have P := Lib.hid ((PS.new (c := c) (p := p) (i := i) (d := d) (q := q) (j := j) hA hB).alloc (.cells #[.bool false, .int .i64 0, .int .i64 0] 60))
  have rb := Blk.new ((w.alloc (.cells #[.slice A n c, .int .i64 p, .int .i64 i] 41)).alloc (.cells #[.slice B m d, .int .i64 q, .int .i64 j] 41)) 60 #[.bool false, .int .i64 0, .int .i64 0]
  rw [World.size_alloc, World.size_alloc] at rb
  have RB := Lib.hid rb
  clear hA hB rb
  go_enter Try.func41, Try.ntmps41
  go_wp2_with fail
  refine (refAbove_any 0 (by omega) A B n m c d p i q j xs ys _ P.out.ia P.out.ib hn hm hnc hmd).mono ?_
  rintro e w1 ⟨I, V, W, er, hE, rfl, hb⟩
  have RB := Lib.hid (RB.out.below hb RB.out.lt); have BW := Lib.hid (bthen P.out.bw hb)
  have F := Lib.hid hE
  clear hE hb
  obtain ⟨r0, r1, r2⟩ : _ ∧ _ ∧ _ := ⟨RB.out.cell 0, RB.out.cell 1, RB.out.cell 2⟩
  simp at r0 r1 r2
  have y0 := RB.out.frozen 0; have y1 := RB.out.frozen 1; have y2 := RB.out.frozen 2
  have hlr := RB.out.lt
  go_wp2_with fail
  have rb := RB.out.store3 (.bool I) (.int .i64 V) (.int .i64 W)
  exact bodyPost_ret (v := .tuple #[.agg #[.bool I, .int .i64 V, .int .i64 W], .int .i64 er]) (by simp [results, Try.results41, go_sem, rb.cell]) rfl ⟨_, _, _, _, F.out, rfl, b3store BW.out (by omega)⟩

theorem refPeak_any (A B : Option Addr) (n m c d : Nat) (p i q j : Int) (xs ys : List Int) (w : World) (hA : Ints w w.heap.size A n xs) (hB : Ints w w.heap.size B m ys) (hn : (n : Int) ≤ 1000000) (hm : (m : Int) ≤ 1000000) (hnc : n ≤ c) (hmd : m ≤ d) :
    Calls Try.prog 43 #[.agg #[.slice A n c, .int .i64 p, .int .i64 i], .agg #[.slice B m d, .int .i64 q, .int .i64 j]] w (RetDv (AheadS ⟨xs, p, i⟩ ⟨ys, q, j⟩ 1) ⟨xs, p, i⟩ ⟨ys, q, j⟩ w) := by
  have P := Lib.hid ((PS.new (c := c) (p := p) (i := i) (d := d) (q := q) (j := j) hA hB).alloc (.cells #[.bool false, .int .i64 0, .int .i64 0] 60))
  have rb := Blk.new ((w.alloc (.cells #[.slice A n c, .int .i64 p, .int .i64 i] 41)).alloc (.cells #[.slice B m d, .int .i64 q, .int .i64 j] 41)) 60 #[.bool false, .int .i64 0, .int .i64 0]
  rw [World.size_alloc, World.size_alloc] at rb
  have RB := Lib.hid rb
  clear hA hB rb
  go_enter Try.func43, Try.ntmps43
  go_wp2_with fail
  refine (refAbove_any 1 (by omega) A B n m c d p i q j xs ys _ P.out.ia P.out.ib hn hm hnc hmd).mono ?_
  rintro e w1 ⟨I, V, W, er, hE, rfl, hb⟩
  have RB := Lib.hid (RB.out.below hb RB.out.lt); have BW := Lib.hid (bthen P.out.bw hb)
  have F := Lib.hid hE
  clear hE hb
  obtain ⟨r0, r1, r2⟩ : _ ∧ _ ∧ _ := ⟨RB.out.cell 0, RB.out.cell 1, RB.out.cell 2⟩
  simp at r0 r1 r2
  have y0 := RB.out.frozen 0; have y1 := RB.out.frozen 1; have y2 := RB.out.frozen 2
  have hlr := RB.out.lt
  go_wp2_with fail
  have rb := RB.out.store3 (.bool I) (.int .i64 V) (.int .i64 W)
  exact bodyPost_ret (v := .tuple #[.agg #[.bool I, .int .i64 V, .int .i64 W], .int .i64 er]) (by simp [results, Try.results43, go_sem, rb.cell]) rfl ⟨_, _, _, _, F.out, rfl, b3store BW.out (by omega)⟩
end Go.Proofs.Ytmieikfmbnaoaaa
