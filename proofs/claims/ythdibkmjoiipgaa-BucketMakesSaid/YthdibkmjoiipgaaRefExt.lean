/- netcalculusref05.Minimum and Maximum: what they return. -/
import Derived.Test.YthdibkmjoiipgaaRefSg
import Derived.Test.YthdibkmjoiipgaaRefPair
import Derived.Test.YthdibkmjoiipgaaRefMade
import Derived.Test.YthdibkmjoiipgaaHeldT
import Derived.Test.YthdibkmjoiipgaaExtLaw
import Derived.BigRegion
import Derived.BigQuiet
import Derived.Deep.QuietTactic
import Derived.Deep.LoopGhost
import Derived.Deep.DeepCutAuto
namespace Go.Proofs.Ythdibkmjoiipgaa
open Go.RowKit
set_option linter.unusedVariables false

theorem lesser_any (x y : Int) (l : Bool) (w : World) : Calls Try.prog 148 #[.int .i64 x, .int .i64 y, .bool l] w (RetI (pk l x y) w) := by
  cases l
  · rw [pk_false]
    go_enter Try.func148, Try.ntmps148
    go_wp2_with fail
    all_goals
      go_ret
      exact ⟨ret_int (by omega), rfl⟩
  · rw [pk_true]
    go_enter Try.func148, Try.ntmps148
    go_wp2_with fail
    all_goals
      go_ret
      exact ⟨ret_int (by omega), rfl⟩
theorem refSlopes_any (A B : Option Addr) (n c m d : Nat) (p i q j : Int) (C : Nat) (w : World) (hp : 1 ≤ p) (hi : 0 ≤ i) (hi2 : i ≤ 1073741824) (hq : 1 ≤ q) (hj : 0 ≤ j) (hj2 : j ≤ 1073741824) (hC : C ≤ 1000000) :
    Calls Try.prog 149 #[.agg #[.slice A n c, .int .i64 p, .int .i64 i], .agg #[.slice B m d, .int .i64 q, .int .i64 j], .int .i64 C] w fun e w' => e = .returned (.int .i64 ((C / p.toNat : Nat) * i - (C / q.toNat : Nat) * j)) ∧ Below w.heap.size w w' := by
  obtain ⟨p, rfl⟩ := Int.eq_ofNat_of_zero_le (show 0 ≤ p by omega)
  obtain ⟨q, rfl⟩ := Int.eq_ofNat_of_zero_le (show 0 ≤ q by omega)
  simp only [Int.toNat_natCast]
  obtain ⟨u, hu⟩ : ∃ u, u = C / p := ⟨_, rfl⟩
  obtain ⟨v, hv⟩ : ∃ v, v = C / q := ⟨_, rfl⟩
  have hut : u ≤ C := by rw [hu]; exact Nat.div_le_self _ _
  have hvt : v ≤ C := by rw [hv]; exact Nat.div_le_self _ _
  have e1 : ((C : Int).tdiv (p : Int)) = (u : Int) := by rw [hu]; rfl
  have e1' : ((C : Int) / (p : Int)) = (u : Int) := by rw [hu]; rfl
  have e2 : ((C : Int).tdiv (q : Int)) = (v : Int) := by rw [hv]; rfl
  have e2' : ((C : Int) / (q : Int)) = (v : Int) := by rw [hv]; rfl
  have hui : (u : Int) * i ≤ 1000000 * 1073741824 := Int.mul_le_mul (by omega) hi2 hi (by omega)
  have hui0 : 0 ≤ (u : Int) * i := Int.mul_nonneg (by omega) hi
  have hvi : (v : Int) * j ≤ 1000000 * 1073741824 := Int.mul_le_mul (by omega) hj2 hj (by omega)
  have hvi0 : 0 ≤ (v : Int) * j := Int.mul_nonneg (by omega) hj
  rw [← hu, ← hv]
  obtain ⟨X, hX⟩ : ∃ X, X = (u : Int) * i := ⟨_, rfl⟩
  obtain ⟨Y, hY⟩ : ∃ Y, Y = (v : Int) * j := ⟨_, rfl⟩
  rw [← hX] at hui hui0
  rw [← hY] at hvi hvi0
  have e3 : IntKind.i64.wrap (i * (u : Int)) = X := by rw [Int.mul_comm, ← hX]; exact IntWalk.i64_in _ (by omega)
  have e4 : IntKind.i64.wrap (j * (v : Int)) = Y := by rw [Int.mul_comm, ← hY]; exact IntWalk.i64_in _ (by omega)
  have e6 : IntKind.i64.wrap (u : Int) = (u : Int) := IntWalk.i64_in _ (by omega)
  have e7 : IntKind.i64.wrap (v : Int) = (v : Int) := IntWalk.i64_in _ (by omega)
  rw [← hX, ← hY]
  have hpn : (p : Int) ≠ 0 := by omega
  have hpn2 : p ≠ 0 := by omega
  have hqn : (q : Int) ≠ 0 := by omega
  have hqn2 : q ≠ 0 := by omega
  have PB := (Blk.new w 46 #[.slice A n c, .int .i64 p, .int .i64 i]).alloc (.cells #[.slice B m d, .int .i64 q, .int .i64 j] 46)
  have QB := Blk.new (w.alloc (.cells #[.slice A n c, .int .i64 p, .int .i64 i] 46)) 46 #[.slice B m d, .int .i64 q, .int .i64 j]
  have q1 := PB.cell 1
  have q2 := PB.cell 2
  have q3 := QB.cell 1
  have q4 := QB.cell 2
  simp at q1 q2 q3 q4
  clear hu hv hX hY PB QB
  go_enter Try.func149, Try.ntmps149
  go_wp2_with fail
  go_quiet (fail)
  go_wp2_with fail
  go_ret
  exact ⟨rfl, bdrewN (bthen (balloc w _) (balloc _ _))⟩
theorem ext_pre {l : Bool} {a b : Cv} {C N : Nat} {J : Int} (ha : a.Ok) (hb : b.Ok) (hc : 1 ≤ C) (hc2 : C ≤ 120) (hN : N = 400 + C) (hJ : ExtJ l a b C J) :
    Pre ⟨tab (exV l a b) 0 N, C, J⟩ ∧ Up0 (Cv.at ⟨tab (exV l a b) 0 N, C, J⟩) ∧ (∀ m t, m < (tab (exV l a b) 0 N).length → nth (tab (exV l a b) 0 N) m = inf → m ≤ t → Cv.at ⟨tab (exV l a b) 0 N, C, J⟩ t = inf) ∧ ∀ t, Cv.at ⟨tab (exV l a b) 0 N, C, J⟩ t = exV l a b t := by
  subst hN
  have TAB := exV_tab (l := l) (i := J) ha hb hc (by omega) hJ.per
  have hlk : (tab (exV l a b) 0 (400 + C)).length = 400 + C := tab_length _ _ _
  refine ⟨⟨by show (1 : Int) ≤ C; omega, by show (C : Int) ≤ ((tab (exV l a b) 0 (400 + C)).length : Nat); rw [hlk]; omega, hJ.j0, hJ.j1, by show (tab (exV l a b) 0 (400 + C)).length ≤ 100000; rw [hlk]; omega, fun r => ?_⟩, Up0.congr (exV_up ha hb) TAB, fun m t hm h hmt => ?_, TAB⟩
  · show 0 ≤ nth (tab (exV l a b) 0 (400 + C)) r ∧ nth (tab (exV l a b) 0 (400 + C)) r ≤ 4611686018427387904
    by_cases hr : r < 400 + C
    · rw [tab_nth _ _ _ _ hr, Nat.zero_add]; exact exV_small ha hb (by omega)
    · rw [nth_out _ _ (by rw [hlk]; omega)]; omega
  · rw [hlk] at hm
    rw [tab_nth _ _ _ _ hm, Nat.zero_add] at h
    rw [TAB t]
    exact exV_inf ha hb (by omega) h hmt
set_option maxHeartbeats 8000000 in
set_option maxRecDepth 100000 in
theorem refExt_any (A B : Option Addr) (n m c d : Nat) (p i q j : Int) (lb : Bool) (xs ys : List Int) (w : World) (hA : Ints w w.heap.size A n xs) (hB : Ints w w.heap.size B m ys) (hn : (n : Int) ≤ 1000000) (hm : (m : Int) ≤ 1000000) (hnc : n ≤ c) (hmd : m ≤ d) :
    Calls Try.prog 106 #[.agg #[.slice A n c, .int .i64 p, .int .i64 i], .agg #[.slice B m d, .int .i64 q, .int .i64 j], .bool lb] w (RetS2 (ExtS lb ⟨xs, p, i⟩ ⟨ys, q, j⟩) w) := by
  have P := Lib.hid ((PS.new (c := c) (p := p) (i := i) (d := d) (q := q) (j := j) hA hB).alloc (.cells #[.slice none 0 0, .int .i64 0, .int .i64 0] 46))
  have rb := Blk.new ((w.alloc (.cells #[.slice A n c, .int .i64 p, .int .i64 i] 46)).alloc (.cells #[.slice B m d, .int .i64 q, .int .i64 j] 46)) 46 #[.slice none 0 0, .int .i64 0, .int .i64 0]
  rw [World.size_alloc, World.size_alloc] at rb
  have RB := Lib.hid rb
  have HNC := Lib.hid hnc; have HMD := Lib.hid hmd
  clear hA hB rb hnc hmd
  go_enter Try.func106, Try.ntmps106
  go_wp2_with fail
  refine (refPair_any A B n m c d p i q j xs ys _ P.out.ia P.out.ib hn hm HNC.out HMD.out).mono ?_
  rintro e w1 ⟨a, b, l, er, A1, n1, c1, A2, n2, c2, hR, rfl, hI1, hI2, hA1, hA2, hb⟩
  simp only [World.size_alloc] at hA1 hA2
  have HR := Lib.hid hR
  have RB := Lib.hid (((RB.out.below hb RB.out.lt).alloc (.cells #[.slice A1 n1 c1, .int .i64 a.per, .int .i64 a.inc] 46)).alloc (.cells #[.slice A2 n2 c2, .int .i64 b.per, .int .i64 b.inc] 46))
  have BW := Lib.hid (bthen (bthen (bthen P.out.bw hb) (balloc _ (.cells #[.slice A1 n1 c1, .int .i64 a.per, .int .i64 a.inc] 46))) (balloc _ (.cells #[.slice A2 n2 c2, .int .i64 b.per, .int .i64 b.inc] 46)))
  have hs1 : w.heap.size + 1 + 1 < w1.heap.size := by have := hb.size; simp only [World.size_alloc] at this; omega
  have FA := Lib.hid ((By.new (L := w.heap.size + 1 + 1 + 1) (c := c1) hI1 hA1 (Nat.le_refl _) (by omega)).alloc (.cells #[.slice A2 n2 c2, .int .i64 b.per, .int .i64 b.inc] 46))
  have fb := By.new (L := w.heap.size + 1 + 1 + 1) (f := b) (c := c2) (hI2.alloc' (.cells #[.slice A1 n1 c1, .int .i64 a.per, .int .i64 a.inc] 46)) hA2 (Nat.le_refl _) (by simp only [World.size_alloc]; omega)
  simp only [World.size_alloc] at fb
  have FB := Lib.hid fb
  clear hR hI1 hI2 hA1 hA2 hb fb P
  go_upto_region 2 with fail
  generalize hwz : (w1.alloc (.cells #[.slice A1 n1 c1, .int .i64 a.per, .int .i64 a.inc] 46)).alloc (.cells #[.slice A2 n2 c2, .int .i64 b.per, .int .i64 b.inc] 46) = wz at *
  clear hwz
  obtain ⟨r0, r1, r2⟩ : _ ∧ _ ∧ _ := ⟨RB.out.cell 0, RB.out.cell 1, RB.out.cell 2⟩
  simp at r0 r1 r2
  have y0 := RB.out.frozen 0; have y1 := RB.out.frozen 1; have y2 := RB.out.frozen 2
  have hlr := RB.out.lt
  rcases HR.out with ⟨hbad, rfl⟩ | ⟨hf, hg, hna, hnb, hao, hbo, ⟨hcc, rfl⟩ | ⟨hcc, hle, rfl⟩⟩
  · have F := Lib.hid (show ExtS lb ⟨xs, p, i⟩ ⟨ys, q, j⟩ Cv.none 1 from .inl ⟨hbad, rfl, rfl⟩)
    clear HR hbad
    go_wp2_with fail
    have rb := RB.out.store3 (.slice none 0 0) (.int .i64 0) (.int .i64 0)
    exact bodyPost_ret (v := .tuple #[.agg #[.slice none 0 0, .int .i64 0, .int .i64 0], .int .i64 1]) (by simp [results, Try.results106, go_sem, rb.cell]) rfl (retS2_store0 F.out (by omega) BW.out)
  · have F := Lib.hid (show ExtS lb ⟨xs, p, i⟩ ⟨ys, q, j⟩ Cv.none 3 from .inr ⟨hf, hg, a, b, hna, hnb, .inl ⟨hcc, rfl, rfl⟩⟩)
    clear HR hf hg hna hnb hao hbo hcc
    go_wp2_with fail
    have rb := RB.out.store3 (.slice none 0 0) (.int .i64 0) (.int .i64 0)
    exact bodyPost_ret (v := .tuple #[.agg #[.slice none 0 0, .int .i64 0, .int .i64 0], .int .i64 3]) (by simp [results, Try.results106, go_sem, rb.cell]) rfl (retS2_store0 F.out (by omega) BW.out)
  · clear r0 r1 r2 y0 y1 y2 hlr
    have hp1 := hao.p1; have hp2 := hao.p2; have hq1 := hbo.p1; have hq2 := hbo.p2; have hi1 := hao.i1; have hi2 := hao.i2; have hj1 := hbo.i1; have hj2 := hbo.i2
    have hna2 := hao.n2; have hnb2 := hbo.n2; have hpn := hao.pn; have hqn := hbo.pn
    have hl1 : a.vals.length = n1 := FA.out.ints.1
    have hl2 : b.vals.length = n2 := FB.out.ints.1
    rw [hl1] at hna2 hpn
    rw [hl2] at hnb2 hqn
    have hgn := gn_b hao hbo hcc
    obtain ⟨C, hC⟩ : ∃ C, C = comm a.per.toNat b.per.toNat := ⟨_, rfl⟩
    rw [← hC] at hle hcc
    obtain rfl := hle
    have hk := comm_facts (p := a.per.toNat) (q := b.per.toNat) (by omega) (by omega)
    rw [← hC] at hk
    obtain ⟨u, hu⟩ : ∃ u, u = C / a.per.toNat := ⟨_, rfl⟩
    obtain ⟨v, hv⟩ : ∃ v, v = C / b.per.toNat := ⟨_, rfl⟩
    rw [← hu, ← hv] at hk
    have hu2 : u ≤ 120 := by have := hk.2.2.2.2.1; omega
    have hv2 : v ≤ 120 := by have := hk.2.2.2.2.2; omega
    obtain ⟨IA, hIA⟩ : ∃ IA, IA = gnA a b := ⟨_, rfl⟩
    obtain ⟨IB, hIB⟩ : ∃ IB, IB = gnB a b := ⟨_, rfl⟩
    have hIAu : IA = (u : Int) * a.inc := by rw [hIA, hu, hC]; rfl
    have hIBv : IB = (v : Int) * b.inc := by rw [hIB, hv, hC]; rfl
    have hIA0 : 0 ≤ IA := by omega
    have hIB0 : 0 ≤ IB := by omega
    have hIA1 : IA ≤ 1099511627776 := by omega
    have hIB1 : IB ≤ 1099511627776 := by omega
    have e1 : ((C : Int).tdiv a.per) = (u : Int) := by
      rw [hu]; obtain ⟨pn, hpe⟩ := Int.eq_ofNat_of_zero_le (show 0 ≤ a.per by omega); rw [hpe, Int.toNat_natCast]; rfl
    have e2 : ((C : Int).tdiv b.per) = (v : Int) := by
      rw [hv]; obtain ⟨pn, hpe⟩ := Int.eq_ofNat_of_zero_le (show 0 ≤ b.per by omega); rw [hpe, Int.toNat_natCast]; rfl
    have e1' : ((C : Int) / a.per) = (u : Int) := by
      rw [hu]; obtain ⟨pn, hpe⟩ := Int.eq_ofNat_of_zero_le (show 0 ≤ a.per by omega); rw [hpe, Int.toNat_natCast]; rfl
    have e2' : ((C : Int) / b.per) = (v : Int) := by
      rw [hv]; obtain ⟨pn, hpe⟩ := Int.eq_ofNat_of_zero_le (show 0 ≤ b.per by omega); rw [hpe, Int.toNat_natCast]; rfl
    have e6 : IntKind.i64.wrap (u : Int) = (u : Int) := IntWalk.i64_in _ (by omega)
    have e7 : IntKind.i64.wrap (v : Int) = (v : Int) := IntWalk.i64_in _ (by omega)
    have e3 : IntKind.i64.wrap (a.inc * (u : Int)) = IA := by rw [Int.mul_comm, ← hIAu]; exact IntWalk.i64_in _ (by omega)
    have e4 : IntKind.i64.wrap (b.inc * (v : Int)) = IB := by rw [Int.mul_comm, ← hIBv]; exact IntWalk.i64_in _ (by omega)
    have hpn0 : a.per ≠ 0 := by omega
    have hqn0 : b.per ≠ 0 := by omega
    have E2 := Lib.hid e2; have E2' := Lib.hid e2'; have E4 := Lib.hid e4; have E7 := Lib.hid e7
    have HIA := Lib.hid hIA; have HIB := Lib.hid hIB
    have HF := Lib.hid hf; have HG := Lib.hid hg; have HNA := Lib.hid hna; have HNB := Lib.hid hnb; have HAO := Lib.hid hao; have HBO := Lib.hid hbo; have HC := Lib.hid hC
    have hC1 : 1 ≤ C := hk.2.2.1
    have hC2 : C ≤ 120 := hcc
    have HU := Lib.hid (show ((C / a.per.toNat : Nat) : Int) * a.inc - ((C / b.per.toNat : Nat) : Int) * b.inc = ordD a b from by rw [hC]; rfl)
    clear HR hf hg hna hnb hao hbo hC hIA hIB hIAu hIBv hu hv hk hl1 hl2 hgn hcc
    go_upto_region 4 with fail
    go_cut [12] (fun s12 wx => ∃ P : Nat, s12 = .pointer (some ⟨P, 0, none⟩) ∧ w1.heap.size + 1 < P ∧ Blk wx P 46 #[.slice none 0 0, .int .i64 C, .int .i64 IA] ∧ By (w.heap.size + 1 + 1 + 1) wx w1.heap.size A1 n1 c1 a ∧ By (w.heap.size + 1 + 1 + 1) wx (w1.heap.size + 1) A2 n2 c2 b ∧ Blk wx (w.heap.size + 1 + 1) 46 #[.slice none 0 0, .int .i64 0, .int .i64 0] ∧ Below w.heap.size w wx)
    case first =>
      obtain ⟨a0, a1, a2, hla⟩ := FA.out.cells
      obtain ⟨b0, b1, b2, hlb⟩ := FB.out.cells
      go_wp2_with fail
      go_region_held3 (fun w' => w'.cell? ⟨w1.heap.size, 1, none⟩ = some (.int .i64 a.per) ∧ w'.cell? ⟨w1.heap.size, 2, none⟩ = some (.int .i64 a.inc)) (first | go_keep) (fail)
      all_goals
        go_wp2_with fail
        go_meet
        exact ⟨_, rfl, FB.out.lt, Blk.drew (Blk.new _ _ _), (FA.out.alloc _).drew, (FB.out.alloc _).drew, Blk.drew (RB.out.alloc _), Below.drew (bthen BW.out (balloc _ _))⟩
    case rest =>
      as_aux_lemma =>
      clear FA FB RB BW e1 e2 e1' e2' e3 e4 e6 e7
      obtain ⟨P, rfl, hP, ob, fa, fb, rb, bw⟩ := hcut
      have OB := Lib.hid ob; have FA := Lib.hid fa; have FB := Lib.hid fb; have RB := Lib.hid rb; have BW := Lib.hid bw
      clear ob fa fb rb bw
      obtain ⟨N, hN⟩ : ∃ N, N = 400 + C := ⟨_, rfl⟩
      have hN1 : N ≤ 520 := by omega
      have hmx : 400 + (C : Int) = (N : Int) := by rw [hN]; omega
      have HN := Lib.hid hN
      have hls := FA.out.lf
      have hCN : C ≤ N := by omega
      clear hN
      go_wp2_with fail
      go_loopg [13] N (fun gg s13 wx => ∃ (k : Nat) (Am : Option Addr) (cm : Nat), k + gg = N ∧ s13 = .int .i64 k ∧ Blk wx P 46 #[.slice Am k cm, .int .i64 C, .int .i64 IA] ∧ Own wx (P + 1) (.slice Am k cm) k (tab (exV lb a b) 0 k) ∧
        By (w.heap.size + 1 + 1 + 1) wx w1.heap.size A1 n1 c1 a ∧ By (w.heap.size + 1 + 1 + 1) wx (w1.heap.size + 1) A2 n2 c2 b ∧ Blk wx (w.heap.size + 1 + 1) 46 #[.slice none 0 0, .int .i64 0, .int .i64 0] ∧ Below w.heap.size w wx)
      case atStart => exact ⟨0, none, 0, by omega, rfl, OB.out, Own.nil_ _ _, FA.out, FB.out, RB.out, BW.out⟩
      case round =>
        clear OB FA FB RB BW
        obtain ⟨k, Am, cm, hkg, rfl, ob, own, fa, fb, rb, bw⟩ := hrel
        have OB := Lib.hid ob; have OWN := Lib.hid own; have FA := Lib.hid fa; have FB := Lib.hid fb; have RB := Lib.hid rb; have BW := Lib.hid bw
        clear ob own fa fb rb bw
        obtain ⟨a0, a1, a2, hla⟩ := FA.out.cells
        obtain ⟨b0, b1, b2, hlb⟩ := FB.out.cells
        obtain ⟨o0, o1, o2⟩ : _ ∧ _ ∧ _ := ⟨OB.out.cell 0, OB.out.cell 1, OB.out.cell 2⟩
        simp at o0 o1 o2
        have z0 := OB.out.frozen 0
        have hlo := OB.out.lt
        by_cases hk : k < N
        · have hki : (k : Int) < N := by omega
          have hkb : k ≤ 520 := by omega
          obtain ⟨x, hx⟩ : ∃ x, x = a.at k := ⟨_, rfl⟩
          obtain ⟨y, hy⟩ : ∃ y, y = b.at k := ⟨_, rfl⟩
          have HX := Lib.hid hx; have HY := Lib.hid hy
          have HZ := Lib.hid (show pk lb x y = exV lb a b k from by rw [hx, hy]; exact (exV_pk HAO.out HBO.out (by omega)).symm)
          clear hx hy hk
          go_wp2_with fail
          have FA := Lib.hid FA.out.drew; have FB := Lib.hid FB.out.drew; have RB := Lib.hid (Blk.drew RB.out); have BW := Lib.hid (Below.drew BW.out); have OB := Lib.hid (Blk.drew OB.out); have OWN := Lib.hid OWN.out.drew
          clear a0 a1 a2 hla b0 b1 b2 hlb
          clear o0 o1 o2 z0 hlo
          obtain ⟨a0, a1, a2, hla⟩ := FA.out.cells
          obtain ⟨b0, b1, b2, hlb⟩ := FB.out.cells
          obtain ⟨o0, o1, o2⟩ : _ ∧ _ ∧ _ := ⟨OB.out.cell 0, OB.out.cell 1, OB.out.cell 2⟩
          simp at o0 o1 o2
          have z0 := OB.out.frozen 0
          have hlo := OB.out.lt
          have hF := And.intro a0 (And.intro a1 (And.intro a2 (And.intro b0 (And.intro b1 b2))))
          have hG := o0
          refine wp_region_T (fun w' => w'.cell? ⟨w1.heap.size, 0, none⟩ = some (.slice A1 n1 c1) ∧ w'.cell? ⟨w1.heap.size, 1, none⟩ = some (.int .i64 a.per) ∧ w'.cell? ⟨w1.heap.size, 2, none⟩ = some (.int .i64 a.inc) ∧ w'.cell? ⟨w1.heap.size + 1, 0, none⟩ = some (.slice A2 n2 c2) ∧ w'.cell? ⟨w1.heap.size + 1, 1, none⟩ = some (.int .i64 b.per) ∧ w'.cell? ⟨w1.heap.size + 1, 2, none⟩ = some (.int .i64 b.inc)) (fun w' => w'.cell? ⟨P, 0, none⟩ = some (.slice Am k cm)) 11 (by kernel_rfl) (by exact hF) (by exact hG) (fun _ => ?_)
          generalize hwd : wr.drew = wd at *
          clear hwd hF hG
          clear a0 a1 a2 hla b0 b1 b2 hlb
          clear o0 o1 o2 z0 hlo
          obtain ⟨a0, a1, a2, hla⟩ := FA.out.cells
          obtain ⟨b0, b1, b2, hlb⟩ := FB.out.cells
          obtain ⟨o0, o1, o2⟩ : _ ∧ _ ∧ _ := ⟨OB.out.cell 0, OB.out.cell 1, OB.out.cell 2⟩
          simp at o0 o1 o2
          have z0 := OB.out.frozen 0
          have hlo := OB.out.lt
          have hF := And.intro a0 (And.intro a1 (And.intro a2 (And.intro b0 (And.intro b1 b2))))
          have hG := o0
          refine wpAnyT_take (i := 0) (oi := _) (v := ?_) (by simp only [List.getElem?_toArray, List.getElem?_cons_zero]; rfl) (by kernel_rfl) (by kernel_rfl) (by kernel_rfl) (by rfl) (by exact fun _ _ _ h => h) (Or.inl ⟨by rfl, ?_⟩) ⟨(by exact hF), fun _ => (by exact hG)⟩ (fun _ => ?_)
          rotate_left 1
          · (intro w hSw; (try dsimp only at hSw); go_simp; try with_reducible rfl)
          all_goals try simp only [Act.put]
          all_goals try simp only [List.setIfInBounds_toArray]
          all_goals try simp only [List.set_cons_succ]
          all_goals try simp only [List.set_cons_zero]
          refine wpAnyT_takeG (i := 1) (oi := _) (v := ?_) (by simp only [List.getElem?_toArray, List.getElem?_cons_succ, List.getElem?_cons_zero]; rfl) (by kernel_rfl) (by kernel_rfl) (by kernel_rfl) (by rfl) (by kernel_rfl) (by kernel_rfl) (by exact fun _ _ _ h => h) (Or.inl ⟨by rfl, ?_⟩) ⟨(by exact hF), fun _ => (by exact hG)⟩ (fun _ => ?_)
          rotate_left 1
          · (intro w hSw; (try dsimp only at hSw); go_simp; try with_reducible rfl)
          all_goals try simp only [Act.put]
          all_goals try simp only [List.setIfInBounds_toArray]
          all_goals try simp only [List.set_cons_succ]
          all_goals try simp only [List.set_cons_zero]
          refine wpAnyT_take (i := 2) (oi := _) (v := ?_) (by simp only [List.getElem?_toArray, List.getElem?_cons_succ, List.getElem?_cons_zero]; rfl) (by kernel_rfl) (by kernel_rfl) (by kernel_rfl) (by rfl) (by exact fun _ _ _ h => h) (Or.inl ⟨by rfl, ?_⟩) ⟨(by exact hF), fun _ => (by exact hG)⟩ (fun _ => ?_)
          rotate_left 1
          · (intro w hSw; (try dsimp only at hSw); go_simp; try with_reducible rfl)
          all_goals try simp only [Act.put]
          all_goals try simp only [List.setIfInBounds_toArray]
          all_goals try simp only [List.set_cons_succ]
          all_goals try simp only [List.set_cons_zero]
          refine wpAnyT_take (i := 3) (oi := _) (v := ?_) (by simp only [List.getElem?_toArray, List.getElem?_cons_succ, List.getElem?_cons_zero]; rfl) (by kernel_rfl) (by kernel_rfl) (by kernel_rfl) (by rfl) (by exact fun _ _ _ h => h) (Or.inl ⟨by rfl, ?_⟩) ⟨(by exact hF), fun _ => (by exact hG)⟩ (fun _ => ?_)
          rotate_left 1
          · (intro w hSw; (try dsimp only at hSw); go_simp; try with_reducible rfl)
          all_goals try simp only [Act.put]
          all_goals try simp only [List.setIfInBounds_toArray]
          all_goals try simp only [List.set_cons_succ]
          all_goals try simp only [List.set_cons_zero]
          refine wpAnyT_take (i := 5) (oi := _) (v := ?_) (by simp only [List.getElem?_toArray, List.getElem?_cons_succ, List.getElem?_cons_zero]; rfl) (by kernel_rfl) (by kernel_rfl) (by kernel_rfl) (by rfl) (by exact fun _ _ _ h => h) (Or.inl ⟨by rfl, ?_⟩) ⟨(by exact hF), fun _ => (by exact hG)⟩ (fun _ => ?_)
          rotate_left 1
          · (intro w hSw; (try dsimp only at hSw); go_simp; try with_reducible rfl)
          all_goals try simp only [Act.put]
          all_goals try simp only [List.setIfInBounds_toArray]
          all_goals try simp only [List.set_cons_succ]
          all_goals try simp only [List.set_cons_zero]
          refine wpAnyT_take (i := 6) (oi := _) (v := ?_) (by simp only [List.getElem?_toArray, List.getElem?_cons_succ, List.getElem?_cons_zero]; rfl) (by kernel_rfl) (by kernel_rfl) (by kernel_rfl) (by rfl) (by exact fun _ _ _ h => h) (Or.inl ⟨by rfl, ?_⟩) ⟨(by exact hF), fun _ => (by exact hG)⟩ (fun _ => ?_)
          rotate_left 1
          · (intro w hSw; (try dsimp only at hSw); go_simp; try with_reducible rfl)
          all_goals try simp only [Act.put]
          all_goals try simp only [List.setIfInBounds_toArray]
          all_goals try simp only [List.set_cons_succ]
          all_goals try simp only [List.set_cons_zero]
          refine wpAnyT_take (i := 8) (oi := _) (v := ?_) (by simp only [List.getElem?_toArray, List.getElem?_cons_succ, List.getElem?_cons_zero]; rfl) (by kernel_rfl) (by kernel_rfl) (by kernel_rfl) (by rfl) (by exact fun _ _ _ h => h) (Or.inl ⟨by rfl, ?_⟩) ⟨(by exact hF), fun _ => (by exact hG)⟩ (fun _ => ?_)
          rotate_left 1
          · (intro w hSw; (try dsimp only at hSw); go_simp; try with_reducible rfl)
          all_goals try simp only [Act.put]
          all_goals try simp only [List.setIfInBounds_toArray]
          all_goals try simp only [List.set_cons_succ]
          all_goals try simp only [List.set_cons_zero]
          refine wpAnyT_ready (rs := [4]) (by kernel_rfl) (by simp) ?_
          refine (AllReadyT.cons (by simp only [List.getElem?_toArray, List.getElem?_cons_succ, List.getElem?_cons_zero]; rfl) (fun K hK => ?_) AllReadyT.nil)
          rw [if_pos (by rfl)]
          go_simp
          refine (refAt_any A1 n1 c1 a.per a.inc k a.vals _ (by exact FA.out.ints) (by omega) (by omega) (by omega) (by omega) (by omega) HAO.out.nn (by omega) (by omega)).mono ?_
          rw [Int.toNat_natCast, show Cv.at ⟨a.vals, a.per, a.inc⟩ k = x from HX.out.symm]
          rintro e wq ⟨rfl, hbq⟩
          have FA := Lib.hid (FA.out.below hbq); have FB := Lib.hid (FB.out.below hbq); have RB := Lib.hid (RB.out.below hbq RB.out.lt); have BW := Lib.hid (bthen BW.out hbq); have OB := Lib.hid (OB.out.below hbq OB.out.lt); have OWN := Lib.hid (OWN.out.below hbq (fun g hg => (OWN.out.blk_lt g hg).2))
          clear hbq hF hG
          clear a0 a1 a2 hla b0 b1 b2 hlb
          clear o0 o1 o2 z0 hlo
          obtain ⟨a0, a1, a2, hla⟩ := FA.out.cells
          obtain ⟨b0, b1, b2, hlb⟩ := FB.out.cells
          obtain ⟨o0, o1, o2⟩ : _ ∧ _ ∧ _ := ⟨OB.out.cell 0, OB.out.cell 1, OB.out.cell 2⟩
          simp at o0 o1 o2
          have z0 := OB.out.frozen 0
          have hlo := OB.out.lt
          have hF := And.intro a0 (And.intro a1 (And.intro a2 (And.intro b0 (And.intro b1 b2))))
          have hG := o0
          refine hK.out _ _ ⟨(by exact hF), fun _ => (by exact hG)⟩ (fun _ => ?_)
          clear hK K
          try simp only [Act.put]
          try simp only [List.setIfInBounds_toArray]
          try simp only [List.set_cons_succ]
          try simp only [List.set_cons_zero]
          refine wpAnyT_ready (rs := [7]) (by kernel_rfl) (by simp) ?_
          refine (AllReadyT.cons (by simp only [List.getElem?_toArray, List.getElem?_cons_succ, List.getElem?_cons_zero]; rfl) (fun K hK => ?_) AllReadyT.nil)
          rw [if_pos (by rfl)]
          go_simp
          refine (refAt_any A2 n2 c2 b.per b.inc k b.vals _ (by exact FB.out.ints) (by omega) (by omega) (by omega) (by omega) (by omega) HBO.out.nn (by omega) (by omega)).mono ?_
          rw [Int.toNat_natCast, show Cv.at ⟨b.vals, b.per, b.inc⟩ k = y from HY.out.symm]
          rintro e wq ⟨rfl, hbq⟩
          have FA := Lib.hid (FA.out.below hbq); have FB := Lib.hid (FB.out.below hbq); have RB := Lib.hid (RB.out.below hbq RB.out.lt); have BW := Lib.hid (bthen BW.out hbq); have OB := Lib.hid (OB.out.below hbq OB.out.lt); have OWN := Lib.hid (OWN.out.below hbq (fun g hg => (OWN.out.blk_lt g hg).2))
          clear hbq hF hG
          clear a0 a1 a2 hla b0 b1 b2 hlb
          clear o0 o1 o2 z0 hlo
          obtain ⟨a0, a1, a2, hla⟩ := FA.out.cells
          obtain ⟨b0, b1, b2, hlb⟩ := FB.out.cells
          obtain ⟨o0, o1, o2⟩ : _ ∧ _ ∧ _ := ⟨OB.out.cell 0, OB.out.cell 1, OB.out.cell 2⟩
          simp at o0 o1 o2
          have z0 := OB.out.frozen 0
          have hlo := OB.out.lt
          have hF := And.intro a0 (And.intro a1 (And.intro a2 (And.intro b0 (And.intro b1 b2))))
          have hG := o0
          refine hK.out _ _ ⟨(by exact hF), fun _ => (by exact hG)⟩ (fun _ => ?_)
          clear hK K
          try simp only [Act.put]
          try simp only [List.setIfInBounds_toArray]
          try simp only [List.set_cons_succ]
          try simp only [List.set_cons_zero]
          refine wpAnyT_ready (rs := [9]) (by kernel_rfl) (by simp) ?_
          refine (AllReadyT.cons (by simp only [List.getElem?_toArray, List.getElem?_cons_succ, List.getElem?_cons_zero]; rfl) (fun K hK => ?_) AllReadyT.nil)
          rw [if_pos (by rfl)]
          go_simp
          refine (lesser_any x y lb _).mono ?_
          rw [HZ.out]
          obtain ⟨z, hz⟩ : ∃ z, z = exV lb a b k := ⟨_, rfl⟩
          rw [← hz]
          have HZZ := Lib.hid hz
          clear hz
          rintro e wq2 ⟨rfl, rfl⟩
          refine hK.out _ _ ⟨(by exact hF), fun _ => (by exact hG)⟩ (fun _ => ?_)
          clear hK K
          try simp only [Act.put]
          try simp only [List.setIfInBounds_toArray]
          try simp only [List.set_cons_succ]
          try simp only [List.set_cons_zero]
          refine wpAnyT_ready (rs := [10]) (by kernel_rfl) (by simp) ?_
          refine (AllReadyT.cons (by simp only [List.getElem?_toArray, List.getElem?_cons_succ, List.getElem?_cons_zero]; rfl) (fun K hK => ?_) AllReadyT.nil)
          rw [if_pos (by rfl)]
          go_simp
          have hlit := ints_litC wq [z]
          have hbq := balloc wq (.cells ([z].map (Value.int .i64)).toArray 3)
          simp only [List.map_cons, List.map_nil] at hlit hbq
          generalize hwl : wq.alloc (.cells [Value.int .i64 z].toArray 3) = wl at *
          clear hwl
          have FA := Lib.hid (FA.out.below hbq); have FB := Lib.hid (FB.out.below hbq); have RB := Lib.hid (RB.out.below hbq RB.out.lt); have BW := Lib.hid (bthen BW.out hbq); have OB := Lib.hid (OB.out.below hbq OB.out.lt); have OWN := Lib.hid (OWN.out.below hbq (fun g hg => (OWN.out.blk_lt g hg).2))
          clear hbq hF hG
          clear a0 a1 a2 hla b0 b1 b2 hlb
          clear o0 o1 o2 z0 hlo
          obtain ⟨a0, a1, a2, hla⟩ := FA.out.cells
          obtain ⟨b0, b1, b2, hlb⟩ := FB.out.cells
          obtain ⟨o0, o1, o2⟩ : _ ∧ _ ∧ _ := ⟨OB.out.cell 0, OB.out.cell 1, OB.out.cell 2⟩
          simp at o0 o1 o2
          have z0 := OB.out.frozen 0
          have hlo := OB.out.lt
          have hF := And.intro a0 (And.intro a1 (And.intro a2 (And.intro b0 (And.intro b1 b2))))
          have hG := o0
          refine hK.out _ _ ⟨(by exact hF), fun _ => (by exact hG)⟩ (fun _ => ?_)
          clear hK K
          try simp only [Act.put]
          try simp only [List.setIfInBounds_toArray]
          try simp only [List.set_cons_succ]
          try simp only [List.set_cons_zero]
          refine wpAnyT_ready (rs := [11]) (by kernel_rfl) (by simp) ?_
          refine (AllReadyT.cons (by simp only [List.getElem?_toArray, List.getElem?_cons_succ, List.getElem?_cons_zero]; rfl) (fun K hK => ?_) AllReadyT.nil)
          refine step_app (by rfl) _ _ 29 (by rfl) Try.underlying29 (P + 1) (.slice Am k cm) k (tab (exV lb a b) 0 k) (by rfl) OWN.out wl.heap.size (some ⟨wq.heap.size, 0, none⟩) 1 1 [z] (by rfl) hlit (by omega) (by omega) ?_
          intro v2 w2 own2 grow2 at2
          have hb2 : Below (P + 1) wl w2 := Below.grown (Below.refl _ _) grow2 (by omega) (fun g hg => (OWN.out.blk_lt g hg).1)
          clear hF hG at2 grow2 hlit
          clear a0 a1 a2 hla b0 b1 b2 hlb
          clear o0 o1 o2 z0 hlo
          have FA := Lib.hid (FA.out.upto hb2 (by omega)); have FB := Lib.hid (FB.out.upto hb2 (by omega)); have RB := Lib.hid (RB.out.below hb2 (by omega)); have BW := Lib.hid (BW.out.trans (hb2.mono (by omega))); have OB := Lib.hid (OB.out.below hb2 (by omega))
          obtain ⟨A9, c9, rfl, hc9, hI9, hf9⟩ := own2.ints
          rw [HZZ.out, tab_snoc] at own2
          have OWN := Lib.hid own2
          clear own2 hb2 hI9 hf9 hc9
          obtain ⟨a0, a1, a2, hla⟩ := FA.out.cells
          obtain ⟨b0, b1, b2, hlb⟩ := FB.out.cells
          obtain ⟨o0, o1, o2⟩ : _ ∧ _ ∧ _ := ⟨OB.out.cell 0, OB.out.cell 1, OB.out.cell 2⟩
          simp at o0 o1 o2
          have z0 := OB.out.frozen 0
          have hlo := OB.out.lt
          have hF := And.intro a0 (And.intro a1 (And.intro a2 (And.intro b0 (And.intro b1 b2))))
          refine hK.out _ _ ⟨(by exact hF), fun h => Bool.noConfusion (show true = false from h)⟩ (fun _ => ?_)
          clear hK K
          try simp only [Act.put]
          try simp only [List.setIfInBounds_toArray]
          try simp only [List.set_cons_succ]
          try simp only [List.set_cons_zero]
          refine wpAnyT_take (i := 12) (oi := _) (v := ?_) (by simp only [List.getElem?_toArray, List.getElem?_cons_succ, List.getElem?_cons_zero]; rfl) (by kernel_rfl) (by kernel_rfl) (by kernel_rfl) (by rfl) (by exact fun _ _ _ h => h) (Or.inl ⟨by rfl, ?_⟩) ⟨(by exact hF), fun h => Bool.noConfusion (show true = false from h)⟩ (fun _ => ?_)
          rotate_left 1
          · (intro w hSw; (try dsimp only at hSw); go_simp; try with_reducible rfl)
          all_goals try simp only [Act.put]
          all_goals try simp only [List.setIfInBounds_toArray]
          all_goals try simp only [List.set_cons_succ]
          all_goals try simp only [List.set_cons_zero]
          refine wpAnyT_ready (rs := [13]) (by kernel_rfl) (by simp) ?_
          refine (AllReadyT.cons (by simp only [List.getElem?_toArray, List.getElem?_cons_succ, List.getElem?_cons_zero]; rfl) (fun K hK => ?_) AllReadyT.nil)
          rw [if_pos (by rfl)]
          go_simp
          have own3 := OWN.out.far (p := ⟨P, 0, none⟩) (fun e => by have := (OWN.out.blk_lt _ e).1; simp at this; omega) (.slice A9 (k + 1) c9)
          have OWN := Lib.hid own3
          clear own3 hF
          clear a0 a1 a2 hla b0 b1 b2 hlb
          clear o0 o1 o2 z0 hlo
          have FA := Lib.hid (FA.out.set1 (g := P) (.inl (by omega)) 0 (Value.slice A9 (k + 1) c9)); have FB := Lib.hid (FB.out.set1 (g := P) (.inl (by omega)) 0 (Value.slice A9 (k + 1) c9)); have RB := Lib.hid (RB.out.far (p := ⟨P, 0, none⟩) (by simp; omega) (Value.slice A9 (k + 1) c9)); have BW := Lib.hid (BW.out.setCell (p := ⟨P, 0, none⟩) (by simp; omega) (Value.slice A9 (k + 1) c9)); have OB := Lib.hid (OB.out.set_ 0 (Value.slice A9 (k + 1) c9))
          generalize hws : w2.setCell ⟨P, 0, none⟩ (.slice A9 (k + 1) c9) = ws at *
          clear hws
          simp only [List.setIfInBounds_toArray, List.set_cons_zero] at OB
          obtain ⟨a0, a1, a2, hla⟩ := FA.out.cells
          obtain ⟨b0, b1, b2, hlb⟩ := FB.out.cells
          have hF := And.intro a0 (And.intro a1 (And.intro a2 (And.intro b0 (And.intro b1 b2))))
          refine hK.out _ _ ⟨(by exact hF), fun h => Bool.noConfusion (show true = false from h)⟩ (fun _ => ?_)
          clear hK K
          try simp only [Act.put]
          try simp only [List.setIfInBounds_toArray]
          try simp only [List.set_cons_succ]
          try simp only [List.set_cons_zero]
          refine wpAnyT_done (by kernel_rfl) ?_ _
          clear a0 a1 a2 hla b0 b1 b2 hlb
          go_wp2_with fail
          go_roundg (gk - 1)
          case measure => omega
          case rel => exact ⟨k + 1, A9, c9, by omega, by go_num, OB.out, OWN.out, FA.out, FB.out, RB.out, BW.out⟩
        · have hkN : k = N := by omega
          subst hkN
          clear hk hkg
          obtain ⟨N, hNN⟩ : ∃ N, N = k := ⟨_, rfl⟩
          subst hNN
          as_aux_lemma =>
          obtain ⟨A9, c9, e', hc9, hI9, hf9⟩ := OWN.out.ints
          injection e' with e1 e2 e3
          subst e1 e3
          have I9 := Lib.hid hI9; have HC9 := Lib.hid hc9; have F9 := Lib.hid hf9
          clear hI9 hf9 hc9 OWN
          clear o0 o1 o2 z0 hlo
          clear a0 a1 a2 hla b0 b1 b2 hlb
          obtain ⟨a0, a1, a2, hla⟩ := FA.out.cells
          obtain ⟨b0, b1, b2, hlb⟩ := FB.out.cells
          go_wp2_with fail
          refine (refFinite_any A1 n1 c1 a.per a.inc a.vals _ (by exact FA.out.ints) (by omega)).mono ?_
          by_cases hfa : a.Fin
          · rw [show Cv.finB ⟨a.vals, a.per, a.inc⟩ = true from finB_t hfa]
            rintro e wq ⟨rfl, hbq⟩
            have HFA := Lib.hid hfa
            clear hfa
            -- all facts behind a call
            have FA := Lib.hid (FA.out.below hbq); have FB := Lib.hid (FB.out.below hbq); have RB := Lib.hid (RB.out.below hbq RB.out.lt); have BW := Lib.hid (bthen BW.out hbq); have OB := Lib.hid (OB.out.below hbq OB.out.lt); have I9 := Lib.hid (I9.out.ext hbq)
            clear hbq
            clear a0 a1 a2 hla b0 b1 b2 hlb
            obtain ⟨a0, a1, a2, hla⟩ := FA.out.cells
            obtain ⟨b0, b1, b2, hlb⟩ := FB.out.cells
            go_wp2_with fail
            refine (refFinite_any A2 n2 c2 b.per b.inc b.vals _ (by exact FB.out.ints) (by omega)).mono ?_
            by_cases hfb : b.Fin
            · rw [show Cv.finB ⟨b.vals, b.per, b.inc⟩ = true from finB_t hfb]
              rintro e wq ⟨rfl, hbq⟩
              have HFB := Lib.hid hfb
              clear hfb
              -- all facts behind a call
              have FA := Lib.hid (FA.out.below hbq); have FB := Lib.hid (FB.out.below hbq); have RB := Lib.hid (RB.out.below hbq RB.out.lt); have BW := Lib.hid (bthen BW.out hbq); have OB := Lib.hid (OB.out.below hbq OB.out.lt); have I9 := Lib.hid (I9.out.ext hbq)
              clear hbq
              clear a0 a1 a2 hla b0 b1 b2 hlb
              obtain ⟨a0, a1, a2, hla⟩ := FA.out.cells
              obtain ⟨b0, b1, b2, hlb⟩ := FB.out.cells
              go_wp2_with fail
              refine (refSlopes_any A1 A2 n1 c1 n2 c2 a.per a.inc b.per b.inc C _ (by omega) (by omega) (by omega) (by omega) (by omega) (by omega) (by omega)).mono ?_
              rw [HU.out]
              obtain ⟨D, hD⟩ : ∃ D, D = ordD a b := ⟨_, rfl⟩
              rw [← hD]
              have hD1 := (ord_b HAO.out HBO.out).d1; have hD2 := (ord_b HAO.out HBO.out).d2
              rw [← hD] at hD1 hD2
              have HD := Lib.hid hD
              clear hD
              rintro e wq ⟨rfl, hbq⟩
              -- all facts behind a call
              have FA := Lib.hid (FA.out.below hbq); have FB := Lib.hid (FB.out.below hbq); have RB := Lib.hid (RB.out.below hbq RB.out.lt); have BW := Lib.hid (bthen BW.out hbq); have OB := Lib.hid (OB.out.below hbq OB.out.lt); have I9 := Lib.hid (I9.out.ext hbq)
              clear hbq
              clear a0 a1 a2 hla b0 b1 b2 hlb
              go_wp2_with fail
              go_loopg [15, 16] C (fun gg s15 s16 wx => ∃ (T : Nat), 400 ≤ T ∧ T + gg = N ∧ s15 = .int .i64 T ∧ (∀ t, 400 ≤ t → t < T → ¬ ExtBad a b t) ∧ Blk wx P 46 #[.slice Am N cm, .int .i64 C, .int .i64 IA] ∧ Ints wx wx.heap.size Am N (tab (exV lb a b) 0 N) ∧
                By (w.heap.size + 1 + 1 + 1) wx w1.heap.size A1 n1 c1 a ∧ By (w.heap.size + 1 + 1 + 1) wx (w1.heap.size + 1) A2 n2 c2 b ∧ Blk wx (w.heap.size + 1 + 1) 46 #[.slice none 0 0, .int .i64 0, .int .i64 0] ∧ Below w.heap.size w wx)
              case atStart => exact ⟨400, Nat.le_refl _, by have := HN.out; omega, rfl, fun t h1 h2 => by omega, OB.out, I9.out, FA.out, FB.out, RB.out, BW.out⟩
              case round =>
                clear OB I9 FA FB RB BW
                obtain ⟨T, hT4, hTg, rfl, hall, ob, i9, fa, fb, rb, bw⟩ := hrel
                have HALL := Lib.hid hall; have OB := Lib.hid ob; have I9 := Lib.hid i9; have FA := Lib.hid fa; have FB := Lib.hid fb; have RB := Lib.hid rb; have BW := Lib.hid bw
                clear hall ob i9 fa fb rb bw
                by_cases hk : T < N
                · have hki : (T : Int) < N := by omega
                  obtain ⟨x, hx⟩ : ∃ x, x = a.at T := ⟨_, rfl⟩
                  obtain ⟨y, hy⟩ : ∃ y, y = b.at T := ⟨_, rfl⟩
                  have hxb := HFA.out.at_bd T; have hyb := HFB.out.at_bd T
                  rw [← hx] at hxb
                  rw [← hy] at hyb
                  have HX := Lib.hid hx; have HY := Lib.hid hy
                  obtain ⟨z, hz⟩ : ∃ z, x - y = z := ⟨_, rfl⟩
                  have e0 : IntKind.i64.wrap (x - y) = z := by rw [hz]; exact IntWalk.i64_in _ (by omega)
                  have HBD := Lib.hid (show ExtBad a b T ↔ (D < 0 ∧ 0 < z) ∨ (0 < D ∧ z < 0) from by
                    unfold ExtBad
                    rw [← HX.out, ← HY.out, ← HD.out, hz])
                  clear hx hy hxb hyb hz
                  obtain ⟨a0, a1, a2, hla⟩ := FA.out.cells
                  obtain ⟨b0, b1, b2, hlb⟩ := FB.out.cells
                  go_upto_region 13 with fail
                  go_region_held3 (fun w' => w'.cell? ⟨w1.heap.size, 0, none⟩ = some (.slice A1 n1 c1) ∧ w'.cell? ⟨w1.heap.size, 1, none⟩ = some (.int .i64 a.per) ∧ w'.cell? ⟨w1.heap.size, 2, none⟩ = some (.int .i64 a.inc) ∧ w'.cell? ⟨w1.heap.size + 1, 0, none⟩ = some (.slice A2 n2 c2) ∧ w'.cell? ⟨w1.heap.size + 1, 1, none⟩ = some (.int .i64 b.per) ∧ w'.cell? ⟨w1.heap.size + 1, 2, none⟩ = some (.int .i64 b.inc)) (first | go_keep)
                    (first
                      | (go_at_call_of 48 (Value.agg #[.slice A1 n1 c1, .int .i64 a.per, .int .i64 a.inc])
                         refine (refAt_any A1 n1 c1 a.per a.inc (T : Int) a.vals _ (by exact FA.out.ints.drew) (by omega) (by omega) (by omega) (by omega) (by omega) HAO.out.nn (by omega) (by omega)).mono ?_
                         rw [Int.toNat_natCast, show Cv.at ⟨a.vals, a.per, a.inc⟩ T = x from HX.out.symm]
                         rintro e wq ⟨rfl, hbq⟩
                         have hbq := bofdrew hbq
                         -- all facts behind a call
                         have FA := Lib.hid (FA.out.below hbq); have FB := Lib.hid (FB.out.below hbq); have RB := Lib.hid (RB.out.below hbq RB.out.lt); have BW := Lib.hid (bthen BW.out hbq); have OB := Lib.hid (OB.out.below hbq OB.out.lt); have I9 := Lib.hid (I9.out.ext hbq)
                         clear hbq
                         clear a0 a1 a2 hla b0 b1 b2 hlb
                         obtain ⟨a0, a1, a2, hla⟩ := FA.out.cells
                         obtain ⟨b0, b1, b2, hlb⟩ := FB.out.cells
                         skip)
                      | (go_at_call_of 48 (Value.agg #[.slice A2 n2 c2, .int .i64 b.per, .int .i64 b.inc])
                         refine (refAt_any A2 n2 c2 b.per b.inc (T : Int) b.vals _ (by exact FB.out.ints) (by omega) (by omega) (by omega) (by omega) (by omega) HBO.out.nn (by omega) (by omega)).mono ?_
                         rw [Int.toNat_natCast, show Cv.at ⟨b.vals, b.per, b.inc⟩ T = y from HY.out.symm]
                         rintro e wq ⟨rfl, hbq⟩
                         -- all facts behind a call
                         have FA := Lib.hid (FA.out.below hbq); have FB := Lib.hid (FB.out.below hbq); have RB := Lib.hid (RB.out.below hbq RB.out.lt); have BW := Lib.hid (bthen BW.out hbq); have OB := Lib.hid (OB.out.below hbq OB.out.lt); have I9 := Lib.hid (I9.out.ext hbq)
                         clear hbq
                         clear a0 a1 a2 hla b0 b1 b2 hlb
                         obtain ⟨a0, a1, a2, hla⟩ := FA.out.cells
                         obtain ⟨b0, b1, b2, hlb⟩ := FB.out.cells
                         skip))
                  clear a0 a1 a2 hla b0 b1 b2 hlb
                  by_cases h1 : D < 0
                  · have h2 : ¬ 0 < D := by omega
                    by_cases h3 : 0 < z
                    · have F := Lib.hid (show ExtS lb ⟨xs, p, i⟩ ⟨ys, q, j⟩ Cv.none 3 from .inr ⟨HF.out, HG.out, a, b, HNA.out, HNB.out, .inr ⟨by rw [← HC.out]; exact hC2, ext_no HFA.out HFB.out hT4 (HBD.out.2 (by omega))⟩⟩)
                      obtain ⟨r0, r1, r2⟩ : _ ∧ _ ∧ _ := ⟨RB.out.cell 0, RB.out.cell 1, RB.out.cell 2⟩
                      simp at r0 r1 r2
                      have y0 := RB.out.frozen 0; have y1 := RB.out.frozen 1; have y2 := RB.out.frozen 2
                      have hlr := RB.out.lt
                      go_wp2_with fail
                      have rb := RB.out.store3 (.slice none 0 0) (.int .i64 0) (.int .i64 0)
                      exact bodyPost_ret (v := .tuple #[.agg #[.slice none 0 0, .int .i64 0, .int .i64 0], .int .i64 3]) (by simp [results, Try.results106, go_sem, rb.cell]) rfl (retS2_store0 F.out (by omega) BW.out)
                    · have HALL2 := Lib.hid (show ∀ t, 400 ≤ t → t < T + 1 → ¬ ExtBad a b t from fun t g1 g2 => by
                        rcases Nat.lt_or_ge t T with g3 | g3
                        · exact HALL.out t g1 g3
                        · have : t = T := by omega
                          rw [this, HBD.out]; omega)
                      go_wp2_with fail
                      go_roundg (gk - 1)
                      case measure => omega
                      case rel => exact ⟨T + 1, by omega, by omega, by go_num, HALL2.out, OB.out, I9.out, FA.out, FB.out, RB.out, BW.out⟩
                  · by_cases h2 : 0 < D
                    · by_cases h3 : z < 0
                      · have F := Lib.hid (show ExtS lb ⟨xs, p, i⟩ ⟨ys, q, j⟩ Cv.none 3 from .inr ⟨HF.out, HG.out, a, b, HNA.out, HNB.out, .inr ⟨by rw [← HC.out]; exact hC2, ext_no HFA.out HFB.out hT4 (HBD.out.2 (by omega))⟩⟩)
                        obtain ⟨r0, r1, r2⟩ : _ ∧ _ ∧ _ := ⟨RB.out.cell 0, RB.out.cell 1, RB.out.cell 2⟩
                        simp at r0 r1 r2
                        have y0 := RB.out.frozen 0; have y1 := RB.out.frozen 1; have y2 := RB.out.frozen 2
                        have hlr := RB.out.lt
                        go_wp2_with fail
                        have rb := RB.out.store3 (.slice none 0 0) (.int .i64 0) (.int .i64 0)
                        exact bodyPost_ret (v := .tuple #[.agg #[.slice none 0 0, .int .i64 0, .int .i64 0], .int .i64 3]) (by simp [results, Try.results106, go_sem, rb.cell]) rfl (retS2_store0 F.out (by omega) BW.out)
                      · have HALL2 := Lib.hid (show ∀ t, 400 ≤ t → t < T + 1 → ¬ ExtBad a b t from fun t g1 g2 => by
                          rcases Nat.lt_or_ge t T with g3 | g3
                          · exact HALL.out t g1 g3
                          · have : t = T := by omega
                            rw [this, HBD.out]; omega)
                        go_wp2_with fail
                        go_roundg (gk - 1)
                        case measure => omega
                        case rel => exact ⟨T + 1, by omega, by omega, by go_num, HALL2.out, OB.out, I9.out, FA.out, FB.out, RB.out, BW.out⟩
                    · have HALL2 := Lib.hid (show ∀ t, 400 ≤ t → t < T + 1 → ¬ ExtBad a b t from fun t g1 g2 => by
                        rcases Nat.lt_or_ge t T with g3 | g3
                        · exact HALL.out t g1 g3
                        · have : t = T := by omega
                          rw [this, HBD.out]; omega)
                      go_wp2_with fail
                      go_roundg (gk - 1)
                      case measure => omega
                      case rel => exact ⟨T + 1, by omega, by omega, by go_num, HALL2.out, OB.out, I9.out, FA.out, FB.out, RB.out, BW.out⟩
                · have hTN : T = N := by omega
                  have HALL := Lib.hid (show ∀ t, 400 ≤ t → t < 400 + ordC a b → ¬ ExtBad a b t from fun t h1 h2 => HALL.out t h1 (by
                    have h3 : C = ordC a b := HC.out
                    have := HN.out
                    omega))
                  clear hT4 hTg hk
                  by_cases h2 : 0 < D
                  · cases lb
                    · have HJ := Lib.hid (show ExtJ false a b C IA from ⟨hIA0, hIA1, by rw [HC.out, HIA.out]; have h4 := ext_per2 (l := false) HFA.out HFB.out HALL.out; rw [← HD.out, decide_eq_true h2, if_neg (by decide)] at h4; exact fun _ => h4⟩)
                      obtain ⟨o0, o1, o2⟩ : _ ∧ _ ∧ _ := ⟨OB.out.cell 0, OB.out.cell 1, OB.out.cell 2⟩
                      simp at o0 o1 o2
                      have z2 := OB.out.frozen 2
                      have hlo := OB.out.lt
                      -- the end: IA the increment, HJ its facts
                      obtain ⟨hpre, hup, hinf, htab⟩ := ext_pre HAO.out HBO.out hC1 hC2 HN.out HJ.out
                      have PRE := Lib.hid hpre; have UP := Lib.hid hup; have HINF := Lib.hid hinf; have TAB := Lib.hid htab
                      clear hpre hup hinf htab
                      go_wp2_with fail
                      refine (refMade_any Am N cm C IA (tab (exV false a b) 0 N) _ I9.out HC9.out PRE.out UP.out HINF.out).mono ?_
                      rintro e wq ⟨r, er, A5, n5, c5, hS, hc5, rfl, hI5, hA5, hbq⟩
                      have F := Lib.hid (show ExtS false ⟨xs, p, i⟩ ⟨ys, q, j⟩ r er from .inr ⟨HF.out, HG.out, a, b, HNA.out, HNB.out, .inr ⟨by rw [← HC.out]; exact hC2, (hS.congr TAB.out).toL⟩⟩)
                      have RB := Lib.hid (RB.out.below hbq RB.out.lt); have BW := Lib.hid (bthen BW.out hbq)
                      have HI5 := Lib.hid hI5; have HA5 := Lib.hid hA5
                      have hlw := OB.out.lt
                      clear hS hI5 hA5 hbq
                      clear o0 o1 o2 z2 hlo
                      obtain ⟨r0, r1, r2⟩ : _ ∧ _ ∧ _ := ⟨RB.out.cell 0, RB.out.cell 1, RB.out.cell 2⟩
                      simp at r0 r1 r2
                      have y0 := RB.out.frozen 0; have y1 := RB.out.frozen 1; have y2 := RB.out.frozen 2
                      have hlr := RB.out.lt
                      go_wp2_with fail
                      have rb := RB.out.store3 (.slice A5 n5 c5) (.int .i64 r.per) (.int .i64 r.inc)
                      exact bodyPost_ret (v := .tuple #[.agg #[.slice A5 n5 c5, .int .i64 r.per, .int .i64 r.inc], .int .i64 er]) (by simp [results, Try.results106, go_sem, rb.cell]) rfl (retS2_store F.out hc5 HA5.out (by omega) (by omega) HI5.out BW.out)
                    · have HJ := Lib.hid (show ExtJ true a b C IB from ⟨hIB0, hIB1, by rw [HC.out, HIB.out]; have h4 := ext_per2 (l := true) HFA.out HFB.out HALL.out; rw [← HD.out, decide_eq_true h2, if_pos rfl] at h4; exact fun _ => h4⟩)
                      obtain ⟨a0, a1, a2, hla⟩ := FA.out.cells
                      obtain ⟨b0, b1, b2, hlb⟩ := FB.out.cells
                      obtain ⟨o0, o1, o2⟩ : _ ∧ _ ∧ _ := ⟨OB.out.cell 0, OB.out.cell 1, OB.out.cell 2⟩
                      simp at o0 o1 o2
                      have z2 := OB.out.frozen 2
                      have hlo := OB.out.lt
                      have e2 := E2.out; have e2' := E2'.out; have e7 := E7.out; have e4 := E4.out
                      go_upto_region 17 with fail
                      go_region
                      all_goals
                        go_upto_region 21 with fail
                        clear e2 e2' e7 e4
                        have FA := Lib.hid (FA.out.set1 (g := P) (.inl (by omega)) 2 (.int .i64 IB)).drew; have FB := Lib.hid (FB.out.set1 (g := P) (.inl (by omega)) 2 (.int .i64 IB)).drew; have RB := Lib.hid (Blk.drew (RB.out.far (p := ⟨P, 2, none⟩) (by simp; omega) (.int .i64 IB))); have BW := Lib.hid (Below.drew (BW.out.setCell (p := ⟨P, 2, none⟩) (by simp; omega) (.int .i64 IB)))
                        have I9 := Lib.hid (Ints.drew (I9.out.sto0 ((Sto.refl P _).set 2 (.int .i64 IB)) (fun hn b off s e => by have := F9.out b off s e; omega)))
                        have OB := Lib.hid (Blk.drew (OB.out.set_ 2 (.int .i64 IB)))
                        simp only [List.setIfInBounds_toArray, List.set_cons_zero, List.set_cons_succ] at OB
                        clear o0 o1 o2 z2 hlo
                        clear a0 a1 a2 hla b0 b1 b2 hlb
                        obtain ⟨o0, o1, o2⟩ : _ ∧ _ ∧ _ := ⟨OB.out.cell 0, OB.out.cell 1, OB.out.cell 2⟩
                        simp at o0 o1 o2
                        have z2 := OB.out.frozen 2
                        have hlo := OB.out.lt
                        -- the end: IB the increment, HJ its facts
                        obtain ⟨hpre, hup, hinf, htab⟩ := ext_pre HAO.out HBO.out hC1 hC2 HN.out HJ.out
                        have PRE := Lib.hid hpre; have UP := Lib.hid hup; have HINF := Lib.hid hinf; have TAB := Lib.hid htab
                        clear hpre hup hinf htab
                        go_wp2_with fail
                        refine (refMade_any Am N cm C IB (tab (exV true a b) 0 N) _ I9.out HC9.out PRE.out UP.out HINF.out).mono ?_
                        rintro e wq ⟨r, er, A5, n5, c5, hS, hc5, rfl, hI5, hA5, hbq⟩
                        have F := Lib.hid (show ExtS true ⟨xs, p, i⟩ ⟨ys, q, j⟩ r er from .inr ⟨HF.out, HG.out, a, b, HNA.out, HNB.out, .inr ⟨by rw [← HC.out]; exact hC2, (hS.congr TAB.out).toL⟩⟩)
                        have RB := Lib.hid (RB.out.below hbq RB.out.lt); have BW := Lib.hid (bthen BW.out hbq)
                        have HI5 := Lib.hid hI5; have HA5 := Lib.hid hA5
                        have hlw := OB.out.lt
                        clear hS hI5 hA5 hbq
                        clear o0 o1 o2 z2 hlo
                        obtain ⟨r0, r1, r2⟩ : _ ∧ _ ∧ _ := ⟨RB.out.cell 0, RB.out.cell 1, RB.out.cell 2⟩
                        simp at r0 r1 r2
                        have y0 := RB.out.frozen 0; have y1 := RB.out.frozen 1; have y2 := RB.out.frozen 2
                        have hlr := RB.out.lt
                        go_wp2_with fail
                        have rb := RB.out.store3 (.slice A5 n5 c5) (.int .i64 r.per) (.int .i64 r.inc)
                        exact bodyPost_ret (v := .tuple #[.agg #[.slice A5 n5 c5, .int .i64 r.per, .int .i64 r.inc], .int .i64 er]) (by simp [results, Try.results106, go_sem, rb.cell]) rfl (retS2_store F.out hc5 HA5.out (by omega) (by omega) HI5.out BW.out)
                  · cases lb
                    · have HJ := Lib.hid (show ExtJ false a b C IB from ⟨hIB0, hIB1, by rw [HC.out, HIB.out]; have h4 := ext_per2 (l := false) HFA.out HFB.out HALL.out; rw [← HD.out, decide_eq_false h2, if_pos rfl] at h4; exact fun _ => h4⟩)
                      obtain ⟨a0, a1, a2, hla⟩ := FA.out.cells
                      obtain ⟨b0, b1, b2, hlb⟩ := FB.out.cells
                      obtain ⟨o0, o1, o2⟩ : _ ∧ _ ∧ _ := ⟨OB.out.cell 0, OB.out.cell 1, OB.out.cell 2⟩
                      simp at o0 o1 o2
                      have z2 := OB.out.frozen 2
                      have hlo := OB.out.lt
                      have e2 := E2.out; have e2' := E2'.out; have e7 := E7.out; have e4 := E4.out
                      go_upto_region 17 with fail
                      go_region
                      all_goals
                        go_upto_region 21 with fail
                        clear e2 e2' e7 e4
                        have FA := Lib.hid (FA.out.set1 (g := P) (.inl (by omega)) 2 (.int .i64 IB)).drew; have FB := Lib.hid (FB.out.set1 (g := P) (.inl (by omega)) 2 (.int .i64 IB)).drew; have RB := Lib.hid (Blk.drew (RB.out.far (p := ⟨P, 2, none⟩) (by simp; omega) (.int .i64 IB))); have BW := Lib.hid (Below.drew (BW.out.setCell (p := ⟨P, 2, none⟩) (by simp; omega) (.int .i64 IB)))
                        have I9 := Lib.hid (Ints.drew (I9.out.sto0 ((Sto.refl P _).set 2 (.int .i64 IB)) (fun hn b off s e => by have := F9.out b off s e; omega)))
                        have OB := Lib.hid (Blk.drew (OB.out.set_ 2 (.int .i64 IB)))
                        simp only [List.setIfInBounds_toArray, List.set_cons_zero, List.set_cons_succ] at OB
                        clear o0 o1 o2 z2 hlo
                        clear a0 a1 a2 hla b0 b1 b2 hlb
                        obtain ⟨o0, o1, o2⟩ : _ ∧ _ ∧ _ := ⟨OB.out.cell 0, OB.out.cell 1, OB.out.cell 2⟩
                        simp at o0 o1 o2
                        have z2 := OB.out.frozen 2
                        have hlo := OB.out.lt
                        -- the end: IB the increment, HJ its facts
                        obtain ⟨hpre, hup, hinf, htab⟩ := ext_pre HAO.out HBO.out hC1 hC2 HN.out HJ.out
                        have PRE := Lib.hid hpre; have UP := Lib.hid hup; have HINF := Lib.hid hinf; have TAB := Lib.hid htab
                        clear hpre hup hinf htab
                        go_wp2_with fail
                        refine (refMade_any Am N cm C IB (tab (exV false a b) 0 N) _ I9.out HC9.out PRE.out UP.out HINF.out).mono ?_
                        rintro e wq ⟨r, er, A5, n5, c5, hS, hc5, rfl, hI5, hA5, hbq⟩
                        have F := Lib.hid (show ExtS false ⟨xs, p, i⟩ ⟨ys, q, j⟩ r er from .inr ⟨HF.out, HG.out, a, b, HNA.out, HNB.out, .inr ⟨by rw [← HC.out]; exact hC2, (hS.congr TAB.out).toL⟩⟩)
                        have RB := Lib.hid (RB.out.below hbq RB.out.lt); have BW := Lib.hid (bthen BW.out hbq)
                        have HI5 := Lib.hid hI5; have HA5 := Lib.hid hA5
                        have hlw := OB.out.lt
                        clear hS hI5 hA5 hbq
                        clear o0 o1 o2 z2 hlo
                        obtain ⟨r0, r1, r2⟩ : _ ∧ _ ∧ _ := ⟨RB.out.cell 0, RB.out.cell 1, RB.out.cell 2⟩
                        simp at r0 r1 r2
                        have y0 := RB.out.frozen 0; have y1 := RB.out.frozen 1; have y2 := RB.out.frozen 2
                        have hlr := RB.out.lt
                        go_wp2_with fail
                        have rb := RB.out.store3 (.slice A5 n5 c5) (.int .i64 r.per) (.int .i64 r.inc)
                        exact bodyPost_ret (v := .tuple #[.agg #[.slice A5 n5 c5, .int .i64 r.per, .int .i64 r.inc], .int .i64 er]) (by simp [results, Try.results106, go_sem, rb.cell]) rfl (retS2_store F.out hc5 HA5.out (by omega) (by omega) HI5.out BW.out)
                    · have HJ := Lib.hid (show ExtJ true a b C IA from ⟨hIA0, hIA1, by rw [HC.out, HIA.out]; have h4 := ext_per2 (l := true) HFA.out HFB.out HALL.out; rw [← HD.out, decide_eq_false h2, if_neg (by decide)] at h4; exact fun _ => h4⟩)
                      obtain ⟨o0, o1, o2⟩ : _ ∧ _ ∧ _ := ⟨OB.out.cell 0, OB.out.cell 1, OB.out.cell 2⟩
                      simp at o0 o1 o2
                      have z2 := OB.out.frozen 2
                      have hlo := OB.out.lt
                      -- the end: IA the increment, HJ its facts
                      obtain ⟨hpre, hup, hinf, htab⟩ := ext_pre HAO.out HBO.out hC1 hC2 HN.out HJ.out
                      have PRE := Lib.hid hpre; have UP := Lib.hid hup; have HINF := Lib.hid hinf; have TAB := Lib.hid htab
                      clear hpre hup hinf htab
                      go_wp2_with fail
                      refine (refMade_any Am N cm C IA (tab (exV true a b) 0 N) _ I9.out HC9.out PRE.out UP.out HINF.out).mono ?_
                      rintro e wq ⟨r, er, A5, n5, c5, hS, hc5, rfl, hI5, hA5, hbq⟩
                      have F := Lib.hid (show ExtS true ⟨xs, p, i⟩ ⟨ys, q, j⟩ r er from .inr ⟨HF.out, HG.out, a, b, HNA.out, HNB.out, .inr ⟨by rw [← HC.out]; exact hC2, (hS.congr TAB.out).toL⟩⟩)
                      have RB := Lib.hid (RB.out.below hbq RB.out.lt); have BW := Lib.hid (bthen BW.out hbq)
                      have HI5 := Lib.hid hI5; have HA5 := Lib.hid hA5
                      have hlw := OB.out.lt
                      clear hS hI5 hA5 hbq
                      clear o0 o1 o2 z2 hlo
                      obtain ⟨r0, r1, r2⟩ : _ ∧ _ ∧ _ := ⟨RB.out.cell 0, RB.out.cell 1, RB.out.cell 2⟩
                      simp at r0 r1 r2
                      have y0 := RB.out.frozen 0; have y1 := RB.out.frozen 1; have y2 := RB.out.frozen 2
                      have hlr := RB.out.lt
                      go_wp2_with fail
                      have rb := RB.out.store3 (.slice A5 n5 c5) (.int .i64 r.per) (.int .i64 r.inc)
                      exact bodyPost_ret (v := .tuple #[.agg #[.slice A5 n5 c5, .int .i64 r.per, .int .i64 r.inc], .int .i64 er]) (by simp [results, Try.results106, go_sem, rb.cell]) rfl (retS2_store F.out hc5 HA5.out (by omega) (by omega) HI5.out BW.out)
            · rw [show Cv.finB ⟨b.vals, b.per, b.inc⟩ = false from finB_f HBO.out hfb]
              rintro e wq ⟨rfl, hbq⟩
              have HFB := Lib.hid hfb
              clear hfb
              -- all facts behind a call
              have FA := Lib.hid (FA.out.below hbq); have FB := Lib.hid (FB.out.below hbq); have RB := Lib.hid (RB.out.below hbq RB.out.lt); have BW := Lib.hid (bthen BW.out hbq); have OB := Lib.hid (OB.out.below hbq OB.out.lt); have I9 := Lib.hid (I9.out.ext hbq)
              clear hbq
              clear a0 a1 a2 hla b0 b1 b2 hlb
              have HJ := Lib.hid (show ExtJ lb a b C IA from ⟨hIA0, hIA1, by rw [HC.out, HIA.out]; exact ext_perB HAO.out HBO.out HFA.out HFB.out⟩)
              obtain ⟨o0, o1, o2⟩ : _ ∧ _ ∧ _ := ⟨OB.out.cell 0, OB.out.cell 1, OB.out.cell 2⟩
              simp at o0 o1 o2
              have z2 := OB.out.frozen 2
              have hlo := OB.out.lt
              -- the end: IA the increment, HJ its facts
              obtain ⟨hpre, hup, hinf, htab⟩ := ext_pre HAO.out HBO.out hC1 hC2 HN.out HJ.out
              have PRE := Lib.hid hpre; have UP := Lib.hid hup; have HINF := Lib.hid hinf; have TAB := Lib.hid htab
              clear hpre hup hinf htab
              go_wp2_with fail
              refine (refMade_any Am N cm C IA (tab (exV lb a b) 0 N) _ I9.out HC9.out PRE.out UP.out HINF.out).mono ?_
              rintro e wq ⟨r, er, A5, n5, c5, hS, hc5, rfl, hI5, hA5, hbq⟩
              have F := Lib.hid (show ExtS lb ⟨xs, p, i⟩ ⟨ys, q, j⟩ r er from .inr ⟨HF.out, HG.out, a, b, HNA.out, HNB.out, .inr ⟨by rw [← HC.out]; exact hC2, (hS.congr TAB.out).toL⟩⟩)
              have RB := Lib.hid (RB.out.below hbq RB.out.lt); have BW := Lib.hid (bthen BW.out hbq)
              have HI5 := Lib.hid hI5; have HA5 := Lib.hid hA5
              have hlw := OB.out.lt
              clear hS hI5 hA5 hbq
              clear o0 o1 o2 z2 hlo
              obtain ⟨r0, r1, r2⟩ : _ ∧ _ ∧ _ := ⟨RB.out.cell 0, RB.out.cell 1, RB.out.cell 2⟩
              simp at r0 r1 r2
              have y0 := RB.out.frozen 0; have y1 := RB.out.frozen 1; have y2 := RB.out.frozen 2
              have hlr := RB.out.lt
              go_wp2_with fail
              have rb := RB.out.store3 (.slice A5 n5 c5) (.int .i64 r.per) (.int .i64 r.inc)
              exact bodyPost_ret (v := .tuple #[.agg #[.slice A5 n5 c5, .int .i64 r.per, .int .i64 r.inc], .int .i64 er]) (by simp [results, Try.results106, go_sem, rb.cell]) rfl (retS2_store F.out hc5 HA5.out (by omega) (by omega) HI5.out BW.out)
          · rw [show Cv.finB ⟨a.vals, a.per, a.inc⟩ = false from finB_f HAO.out hfa]
            rintro e wq ⟨rfl, hbq⟩
            have HFA := Lib.hid hfa
            clear hfa
            -- all facts behind a call
            have FA := Lib.hid (FA.out.below hbq); have FB := Lib.hid (FB.out.below hbq); have RB := Lib.hid (RB.out.below hbq RB.out.lt); have BW := Lib.hid (bthen BW.out hbq); have OB := Lib.hid (OB.out.below hbq OB.out.lt); have I9 := Lib.hid (I9.out.ext hbq)
            clear hbq
            clear a0 a1 a2 hla b0 b1 b2 hlb
            have HJ := Lib.hid (show ExtJ lb a b C IB from ⟨hIB0, hIB1, by rw [HC.out, HIB.out]; exact ext_perA HAO.out HBO.out HFA.out⟩)
            obtain ⟨a0, a1, a2, hla⟩ := FA.out.cells
            obtain ⟨b0, b1, b2, hlb⟩ := FB.out.cells
            obtain ⟨o0, o1, o2⟩ : _ ∧ _ ∧ _ := ⟨OB.out.cell 0, OB.out.cell 1, OB.out.cell 2⟩
            simp at o0 o1 o2
            have z2 := OB.out.frozen 2
            have hlo := OB.out.lt
            have e2 := E2.out; have e2' := E2'.out; have e7 := E7.out; have e4 := E4.out
            go_upto_region 19 with fail
            go_region
            all_goals
              go_upto_region 21 with fail
              clear e2 e2' e7 e4
              have FA := Lib.hid (FA.out.set1 (g := P) (.inl (by omega)) 2 (.int .i64 IB)).drew; have FB := Lib.hid (FB.out.set1 (g := P) (.inl (by omega)) 2 (.int .i64 IB)).drew; have RB := Lib.hid (Blk.drew (RB.out.far (p := ⟨P, 2, none⟩) (by simp; omega) (.int .i64 IB))); have BW := Lib.hid (Below.drew (BW.out.setCell (p := ⟨P, 2, none⟩) (by simp; omega) (.int .i64 IB)))
              have I9 := Lib.hid (Ints.drew (I9.out.sto0 ((Sto.refl P _).set 2 (.int .i64 IB)) (fun hn b off s e => by have := F9.out b off s e; omega)))
              have OB := Lib.hid (Blk.drew (OB.out.set_ 2 (.int .i64 IB)))
              simp only [List.setIfInBounds_toArray, List.set_cons_zero, List.set_cons_succ] at OB
              clear o0 o1 o2 z2 hlo
              clear a0 a1 a2 hla b0 b1 b2 hlb
              obtain ⟨o0, o1, o2⟩ : _ ∧ _ ∧ _ := ⟨OB.out.cell 0, OB.out.cell 1, OB.out.cell 2⟩
              simp at o0 o1 o2
              have z2 := OB.out.frozen 2
              have hlo := OB.out.lt
              -- the end: IB the increment, HJ its facts
              obtain ⟨hpre, hup, hinf, htab⟩ := ext_pre HAO.out HBO.out hC1 hC2 HN.out HJ.out
              have PRE := Lib.hid hpre; have UP := Lib.hid hup; have HINF := Lib.hid hinf; have TAB := Lib.hid htab
              clear hpre hup hinf htab
              go_wp2_with fail
              refine (refMade_any Am N cm C IB (tab (exV lb a b) 0 N) _ I9.out HC9.out PRE.out UP.out HINF.out).mono ?_
              rintro e wq ⟨r, er, A5, n5, c5, hS, hc5, rfl, hI5, hA5, hbq⟩
              have F := Lib.hid (show ExtS lb ⟨xs, p, i⟩ ⟨ys, q, j⟩ r er from .inr ⟨HF.out, HG.out, a, b, HNA.out, HNB.out, .inr ⟨by rw [← HC.out]; exact hC2, (hS.congr TAB.out).toL⟩⟩)
              have RB := Lib.hid (RB.out.below hbq RB.out.lt); have BW := Lib.hid (bthen BW.out hbq)
              have HI5 := Lib.hid hI5; have HA5 := Lib.hid hA5
              have hlw := OB.out.lt
              clear hS hI5 hA5 hbq
              clear o0 o1 o2 z2 hlo
              obtain ⟨r0, r1, r2⟩ : _ ∧ _ ∧ _ := ⟨RB.out.cell 0, RB.out.cell 1, RB.out.cell 2⟩
              simp at r0 r1 r2
              have y0 := RB.out.frozen 0; have y1 := RB.out.frozen 1; have y2 := RB.out.frozen 2
              have hlr := RB.out.lt
              go_wp2_with fail
              have rb := RB.out.store3 (.slice A5 n5 c5) (.int .i64 r.per) (.int .i64 r.inc)
              exact bodyPost_ret (v := .tuple #[.agg #[.slice A5 n5 c5, .int .i64 r.per, .int .i64 r.inc], .int .i64 er]) (by simp [results, Try.results106, go_sem, rb.cell]) rfl (retS2_store F.out hc5 HA5.out (by omega) (by omega) HI5.out BW.out)
end Go.Proofs.Ythdibkmjoiipgaa
