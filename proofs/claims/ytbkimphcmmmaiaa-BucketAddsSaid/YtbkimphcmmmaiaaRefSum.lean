/- netcalculusref05.Sum: what it returns. -/
import Derived.Test.YtbkimphcmmmaiaaRefPair
import Derived.Test.YtbkimphcmmmaiaaRefMade
import Derived.Test.YtbkimphcmmmaiaaHeldT
import Derived.Test.YtbkimphcmmmaiaaRefSw
import Derived.BigQuiet
import Derived.Deep.QuietTactic
import Derived.Deep.LoopGhost
import Derived.Deep.DeepCutAuto
namespace Go.Proofs.Ytbkimphcmmmaiaa
open Go.RowKit
set_option linter.unusedVariables false


set_option maxHeartbeats 4000000 in
set_option maxRecDepth 100000 in
theorem refSum_any (A B : Option Addr) (n m c d : Nat) (p i q j : Int) (xs ys : List Int) (w : World) (hA : Ints w w.heap.size A n xs) (hB : Ints w w.heap.size B m ys) (hn : (n : Int) ≤ 1000000) (hm : (m : Int) ≤ 1000000) (hnc : n ≤ c) (hmd : m ≤ d) :
    Calls Try.prog 22 #[.agg #[.slice A n c, .int .i64 p, .int .i64 i], .agg #[.slice B m d, .int .i64 q, .int .i64 j]] w (RetS2 (SumS ⟨xs, p, i⟩ ⟨ys, q, j⟩) w) := by
  have P := Lib.hid ((PS.new (c := c) (p := p) (i := i) (d := d) (q := q) (j := j) hA hB).alloc (.cells #[.slice none 0 0, .int .i64 0, .int .i64 0] 31))
  have rb := Blk.new ((w.alloc (.cells #[.slice A n c, .int .i64 p, .int .i64 i] 31)).alloc (.cells #[.slice B m d, .int .i64 q, .int .i64 j] 31)) 31 #[.slice none 0 0, .int .i64 0, .int .i64 0]
  rw [World.size_alloc, World.size_alloc] at rb
  have RB := Lib.hid rb
  have HNC := Lib.hid hnc; have HMD := Lib.hid hmd
  clear hA hB rb hnc hmd
  go_enter Try.func22, Try.ntmps22
  go_wp2_with fail
  refine (refPair_any A B n m c d p i q j xs ys _ P.out.ia P.out.ib hn hm HNC.out HMD.out).mono ?_
  rintro e w1 ⟨a, b, l, er, A1, n1, c1, A2, n2, c2, hR, rfl, hI1, hI2, hA1, hA2, hb⟩
  simp only [World.size_alloc] at hA1 hA2
  have HR := Lib.hid hR
  have RB := Lib.hid (((RB.out.below hb RB.out.lt).alloc (.cells #[.slice A1 n1 c1, .int .i64 a.per, .int .i64 a.inc] 31)).alloc (.cells #[.slice A2 n2 c2, .int .i64 b.per, .int .i64 b.inc] 31))
  have BW := Lib.hid (bthen (bthen (bthen P.out.bw hb) (balloc _ (.cells #[.slice A1 n1 c1, .int .i64 a.per, .int .i64 a.inc] 31))) (balloc _ (.cells #[.slice A2 n2 c2, .int .i64 b.per, .int .i64 b.inc] 31)))
  have hs1 : w.heap.size + 1 + 1 < w1.heap.size := by have := hb.size; simp only [World.size_alloc] at this; omega
  have FA := Lib.hid ((By.new (L := w.heap.size + 1 + 1 + 1) (c := c1) hI1 hA1 (Nat.le_refl _) (by omega)).alloc (.cells #[.slice A2 n2 c2, .int .i64 b.per, .int .i64 b.inc] 31))
  have fb := By.new (L := w.heap.size + 1 + 1 + 1) (f := b) (c := c2) (hI2.alloc' (.cells #[.slice A1 n1 c1, .int .i64 a.per, .int .i64 a.inc] 31)) hA2 (Nat.le_refl _) (by simp only [World.size_alloc]; omega)
  simp only [World.size_alloc] at fb
  have FB := Lib.hid fb
  clear hR hI1 hI2 hA1 hA2 hb fb P
  go_upto_region 2 with fail
  generalize hwz : (w1.alloc (.cells #[.slice A1 n1 c1, .int .i64 a.per, .int .i64 a.inc] 31)).alloc (.cells #[.slice A2 n2 c2, .int .i64 b.per, .int .i64 b.inc] 31) = wz at *
  clear hwz
  obtain ⟨r0, r1, r2⟩ : _ ∧ _ ∧ _ := ⟨RB.out.cell 0, RB.out.cell 1, RB.out.cell 2⟩
  simp at r0 r1 r2
  have y0 := RB.out.frozen 0; have y1 := RB.out.frozen 1; have y2 := RB.out.frozen 2
  have hlr := RB.out.lt
  rcases HR.out with ⟨hbad, rfl⟩ | ⟨hf, hg, hna, hnb, hao, hbo, ⟨hcc, rfl⟩ | ⟨hcc, hle, rfl⟩⟩
  · have F := Lib.hid (show SumS ⟨xs, p, i⟩ ⟨ys, q, j⟩ Cv.none 1 from .inl ⟨hbad, rfl, rfl⟩)
    clear HR hbad
    go_wp2_with fail
    have rb := RB.out.store3 (.slice none 0 0) (.int .i64 0) (.int .i64 0)
    exact bodyPost_ret (v := .tuple #[.agg #[.slice none 0 0, .int .i64 0, .int .i64 0], .int .i64 1]) (by simp [results, Try.results22, go_sem, rb.cell]) rfl (retS2_store0 F.out (by omega) BW.out)
  · have F := Lib.hid (show SumS ⟨xs, p, i⟩ ⟨ys, q, j⟩ Cv.none 3 from .inr ⟨hf, hg, a, b, hna, hnb, .inl ⟨hcc, rfl, rfl⟩⟩)
    clear HR hf hg hna hnb hao hbo hcc
    go_wp2_with fail
    have rb := RB.out.store3 (.slice none 0 0) (.int .i64 0) (.int .i64 0)
    exact bodyPost_ret (v := .tuple #[.agg #[.slice none 0 0, .int .i64 0, .int .i64 0], .int .i64 3]) (by simp [results, Try.results22, go_sem, rb.cell]) rfl (retS2_store0 F.out (by omega) BW.out)
  · clear r0 r1 r2 y0 y1 y2 hlr
    have hp1 := hao.p1; have hp2 := hao.p2; have hq1 := hbo.p1; have hq2 := hbo.p2; have hi1 := hao.i1; have hi2 := hao.i2; have hj1 := hbo.i1; have hj2 := hbo.i2
    have hna2 := hao.n2; have hnb2 := hbo.n2; have hpn := hao.pn; have hqn := hbo.pn
    have hl1 : a.vals.length = n1 := FA.out.ints.1
    have hl2 : b.vals.length = n2 := FB.out.ints.1
    rw [hl1] at hna2 hpn
    rw [hl2] at hnb2 hqn
    obtain ⟨C, hC⟩ : ∃ C, C = comm a.per.toNat b.per.toNat := ⟨_, rfl⟩
    rw [← hC] at hle hcc
    obtain rfl := hle
    have hk := comm_facts (p := a.per.toNat) (q := b.per.toNat) (by omega) (by omega)
    rw [← hC] at hk
    obtain ⟨u, hu⟩ : ∃ u, u = C / a.per.toNat := ⟨_, rfl⟩
    obtain ⟨v, hv⟩ : ∃ v, v = C / b.per.toNat := ⟨_, rfl⟩
    rw [← hu, ← hv] at hk
    have hu2 : u ≤ 120 := by have := hk.2.2.2.2.1; omega
    have hv2 : v ≤ 120 := by have := hk.2.2.2.2.2; omega
    have hui : (u : Int) * a.inc ≤ 120 * 1073741824 := Int.mul_le_mul (by omega) hi2 hi1 (by omega)
    have hui0 : 0 ≤ (u : Int) * a.inc := Int.mul_nonneg (by omega) hi1
    have hvi : (v : Int) * b.inc ≤ 120 * 1073741824 := Int.mul_le_mul (by omega) hj2 hj1 (by omega)
    have hvi0 : 0 ≤ (v : Int) * b.inc := Int.mul_nonneg (by omega) hj1
    obtain ⟨I, hI⟩ : ∃ I, I = (u : Int) * a.inc + (v : Int) * b.inc := ⟨_, rfl⟩
    have e1 : ((C : Int).tdiv a.per) = (u : Int) := by
      rw [hu]; obtain ⟨pn, hpe⟩ := Int.eq_ofNat_of_zero_le (show 0 ≤ a.per by omega); rw [hpe, Int.toNat_natCast]; rfl
    have e2 : ((C : Int).tdiv b.per) = (v : Int) := by
      rw [hv]; obtain ⟨pn, hpe⟩ := Int.eq_ofNat_of_zero_le (show 0 ≤ b.per by omega); rw [hpe, Int.toNat_natCast]; rfl
    have e1' : ((C : Int) / a.per) = (u : Int) := by
      rw [hu]; obtain ⟨pn, hpe⟩ := Int.eq_ofNat_of_zero_le (show 0 ≤ a.per by omega); rw [hpe, Int.toNat_natCast]; rfl
    have e2' : ((C : Int) / b.per) = (v : Int) := by
      rw [hv]; obtain ⟨pn, hpe⟩ := Int.eq_ofNat_of_zero_le (show 0 ≤ b.per by omega); rw [hpe, Int.toNat_natCast]; rfl
    have e6 : IntKind.i64.wrap (u : Int) = (u : Int) := IntWalk.i64_in _ (by omega)
    have e7 : IntKind.i64.wrap (v : Int) = (v : Int) := IntWalk.i64_in _ (by omega)
    have e3 : IntKind.i64.wrap (a.inc * (u : Int)) = a.inc * (u : Int) := by rw [Int.mul_comm]; exact IntWalk.i64_in _ (by omega)
    have e4 : IntKind.i64.wrap (b.inc * (v : Int)) = b.inc * (v : Int) := by rw [Int.mul_comm]; exact IntWalk.i64_in _ (by omega)
    have e5 : IntKind.i64.wrap (a.inc * (u : Int) + b.inc * (v : Int)) = I := by rw [hI, Int.mul_comm a.inc, Int.mul_comm b.inc]; exact IntWalk.i64_in _ (by omega)
    have hpn0 : a.per ≠ 0 := by omega
    have hqn0 : b.per ≠ 0 := by omega
    have hI0 : 0 ≤ I := by omega
    have hI1 : I ≤ 1099511627776 := by omega
    have HI := Lib.hid (show I = (C / a.per.toNat : Nat) * a.inc + (C / b.per.toNat : Nat) * b.inc from by rw [hI, hu, hv])
    have HF := Lib.hid hf; have HG := Lib.hid hg; have HNA := Lib.hid hna; have HNB := Lib.hid hnb; have HAO := Lib.hid hao; have HBO := Lib.hid hbo; have HC := Lib.hid hC
    have HL1 := Lib.hid hl1; have HL2 := Lib.hid hl2
    have hC1 : 1 ≤ C := hk.2.2.1
    clear HR hf hg hna hnb hao hbo hC hI hu hv hk hl1 hl2
    go_upto_region 4 with fail
    go_cut [10] (fun s10 wx => ∃ P : Nat, s10 = .pointer (some ⟨P, 0, none⟩) ∧ w1.heap.size + 1 < P ∧ Blk wx P 31 #[.slice none 0 0, .int .i64 C, .int .i64 I] ∧ By (w.heap.size + 1 + 1 + 1) wx w1.heap.size A1 n1 c1 a ∧ By (w.heap.size + 1 + 1 + 1) wx (w1.heap.size + 1) A2 n2 c2 b ∧ Blk wx (w.heap.size + 1 + 1) 31 #[.slice none 0 0, .int .i64 0, .int .i64 0] ∧ Below w.heap.size w wx)
    case first =>
      obtain ⟨a0, a1, a2, hla⟩ := FA.out.cells
      obtain ⟨b0, b1, b2, hlb⟩ := FB.out.cells
      go_wp2_with fail
      go_region_held3 (fun w' => w'.cell? ⟨w1.heap.size, 1, none⟩ = some (.int .i64 a.per) ∧ w'.cell? ⟨w1.heap.size, 2, none⟩ = some (.int .i64 a.inc) ∧ w'.cell? ⟨w1.heap.size + 1, 1, none⟩ = some (.int .i64 b.per) ∧ w'.cell? ⟨w1.heap.size + 1, 2, none⟩ = some (.int .i64 b.inc)) (first | go_keep) (fail)
      all_goals
        go_wp2_with fail
        go_meet
        exact ⟨_, rfl, FB.out.lt, Blk.drew (Blk.new _ _ _), (FA.out.alloc _).drew, (FB.out.alloc _).drew, Blk.drew (RB.out.alloc _), Below.drew (bthen BW.out (balloc _ _))⟩
    case rest =>
      as_aux_lemma =>
      clear FA FB RB BW e1 e2 e1' e2' e3 e4 e5 e6 e7
      obtain ⟨P, rfl, hP, ob, fa, fb, rb, bw⟩ := hcut
      have OB := Lib.hid ob; have FA := Lib.hid fa; have FB := Lib.hid fb; have RB := Lib.hid rb; have BW := Lib.hid bw
      clear ob fa fb rb bw hui hui0 hvi hvi0
      obtain ⟨N, hN⟩ : ∃ N, N = max n1 n2 + C := ⟨_, rfl⟩
      have hN1 : N ≤ 520 := by omega
      have hmx : (if (n1 : Int) < (n2 : Int) then (n2 : Int) else (n1 : Int)) + (C : Int) = (N : Int) := by rw [hN]; split <;> omega
      have hmx2 : (if n1 < n2 then (n2 : Int) else (n1 : Int)) + (C : Int) = (N : Int) := by rw [hN]; split <;> omega
      have hmx3 : (if (n1 : Int) < (n2 : Int) then (n2 : Int) else (n1 : Int)) = (N : Int) - C := by rw [hN]; split <;> omega
      have hmx4 : (if n1 < n2 then (n2 : Int) else (n1 : Int)) = (N : Int) - C := by rw [hN]; split <;> omega
      have HN := Lib.hid (show N = max a.vals.length b.vals.length + C from by rw [HL1.out, HL2.out, hN])
      have HNC2 := Lib.hid (show C ≤ N from by omega)
      have hls := FA.out.lf
      clear hN
      go_wp2_with fail
      go_loopg [11] N (fun gg s11 wx => ∃ (k : Nat) (Am : Option Addr) (cm : Nat), k + gg = N ∧ s11 = .int .i64 k ∧ Blk wx P 31 #[.slice Am k cm, .int .i64 C, .int .i64 I] ∧ Own wx (P + 1) (.slice Am k cm) k (tab (sumV a b) 0 k) ∧
        By (w.heap.size + 1 + 1 + 1) wx w1.heap.size A1 n1 c1 a ∧ By (w.heap.size + 1 + 1 + 1) wx (w1.heap.size + 1) A2 n2 c2 b ∧ Blk wx (w.heap.size + 1 + 1) 31 #[.slice none 0 0, .int .i64 0, .int .i64 0] ∧ Below w.heap.size w wx)
      case atStart => exact ⟨0, none, 0, by omega, rfl, OB.out, Own.nil_ _ _, FA.out, FB.out, RB.out, BW.out⟩
      case round =>
        clear OB FA FB RB BW
        obtain ⟨k, Am, cm, hkg, rfl, ob, own, fa, fb, rb, bw⟩ := hrel
        have OB := Lib.hid ob; have OWN := Lib.hid own; have FA := Lib.hid fa; have FB := Lib.hid fb; have RB := Lib.hid rb; have BW := Lib.hid bw
        clear ob own fa fb rb bw
        obtain ⟨a0, a1, a2, hla⟩ := FA.out.cells
        obtain ⟨b0, b1, b2, hlb⟩ := FB.out.cells
        obtain ⟨o0, o1, o2⟩ : _ ∧ _ ∧ _ := ⟨OB.out.cell 0, OB.out.cell 1, OB.out.cell 2⟩
        simp at o0 o1 o2
        have z0 := OB.out.frozen 0
        have hlo := OB.out.lt
        by_cases hk : k < N
        · have hki : (k : Int) < N := by omega
          have hkb : k ≤ 520 := by omega
          obtain ⟨x, hx⟩ : ∃ x, x = a.at k := ⟨_, rfl⟩
          obtain ⟨y, hy⟩ : ∃ y, y = b.at k := ⟨_, rfl⟩
          have HX := Lib.hid hx; have HY := Lib.hid hy
          have HMA := Lib.hid (at_mid HAO.out (t := k) (by omega)); have HMB := Lib.hid (at_mid HBO.out (t := k) (by omega))
          have HZ := Lib.hid (show pl x y = sumV a b k from by rw [hx, hy]; exact (sumV_pl HAO.out HBO.out (by omega)).symm)
          clear hx hy hk
          go_wp2_with fail
          have FA := Lib.hid FA.out.drew; have FB := Lib.hid FB.out.drew; have RB := Lib.hid (Blk.drew RB.out); have BW := Lib.hid (Below.drew BW.out); have OB := Lib.hid (Blk.drew OB.out); have OWN := Lib.hid OWN.out.drew
          clear a0 a1 a2 hla b0 b1 b2 hlb
          clear o0 o1 o2 z0 hlo
          obtain ⟨a0, a1, a2, hla⟩ := FA.out.cells
          obtain ⟨b0, b1, b2, hlb⟩ := FB.out.cells
          obtain ⟨o0, o1, o2⟩ : _ ∧ _ ∧ _ := ⟨OB.out.cell 0, OB.out.cell 1, OB.out.cell 2⟩
          simp at o0 o1 o2
          have z0 := OB.out.frozen 0
          have hlo := OB.out.lt
          have hF := And.intro a0 (And.intro a1 (And.intro a2 (And.intro b0 (And.intro b1 b2))))
          have hG := o0
          refine wp_region_T (fun w' => w'.cell? ⟨w1.heap.size, 0, none⟩ = some (.slice A1 n1 c1) ∧ w'.cell? ⟨w1.heap.size, 1, none⟩ = some (.int .i64 a.per) ∧ w'.cell? ⟨w1.heap.size, 2, none⟩ = some (.int .i64 a.inc) ∧ w'.cell? ⟨w1.heap.size + 1, 0, none⟩ = some (.slice A2 n2 c2) ∧ w'.cell? ⟨w1.heap.size + 1, 1, none⟩ = some (.int .i64 b.per) ∧ w'.cell? ⟨w1.heap.size + 1, 2, none⟩ = some (.int .i64 b.inc)) (fun w' => w'.cell? ⟨P, 0, none⟩ = some (.slice Am k cm)) 10 (by kernel_rfl) (by exact hF) (by exact hG) (fun _ => ?_)
          generalize hwd : wr.drew = wd at *
          clear hwd hF hG
          clear a0 a1 a2 hla b0 b1 b2 hlb
          clear o0 o1 o2 z0 hlo
          obtain ⟨a0, a1, a2, hla⟩ := FA.out.cells
          obtain ⟨b0, b1, b2, hlb⟩ := FB.out.cells
          obtain ⟨o0, o1, o2⟩ : _ ∧ _ ∧ _ := ⟨OB.out.cell 0, OB.out.cell 1, OB.out.cell 2⟩
          simp at o0 o1 o2
          have z0 := OB.out.frozen 0
          have hlo := OB.out.lt
          have hF := And.intro a0 (And.intro a1 (And.intro a2 (And.intro b0 (And.intro b1 b2))))
          have hG := o0
          refine wpAnyT_take (i := 0) (oi := _) (v := ?_) (by simp only [List.getElem?_toArray, List.getElem?_cons_zero]; rfl) (by kernel_rfl) (by kernel_rfl) (by kernel_rfl) (by rfl) (by exact fun _ _ _ h => h) (Or.inl ⟨by rfl, ?_⟩) ⟨(by exact hF), fun _ => (by exact hG)⟩ (fun _ => ?_)
          rotate_left 1
          · (intro w hSw; (try dsimp only at hSw); go_simp; try with_reducible rfl)
          all_goals try simp only [Act.put]
          all_goals try simp only [List.setIfInBounds_toArray]
          all_goals try simp only [List.set_cons_succ]
          all_goals try simp only [List.set_cons_zero]
          refine wpAnyT_takeG (i := 1) (oi := _) (v := ?_) (by simp only [List.getElem?_toArray, List.getElem?_cons_succ, List.getElem?_cons_zero]; rfl) (by kernel_rfl) (by kernel_rfl) (by kernel_rfl) (by rfl) (by kernel_rfl) (by kernel_rfl) (by exact fun _ _ _ h => h) (Or.inl ⟨by rfl, ?_⟩) ⟨(by exact hF), fun _ => (by exact hG)⟩ (fun _ => ?_)
          rotate_left 1
          · (intro w hSw; (try dsimp only at hSw); go_simp; try with_reducible rfl)
          all_goals try simp only [Act.put]
          all_goals try simp only [List.setIfInBounds_toArray]
          all_goals try simp only [List.set_cons_succ]
          all_goals try simp only [List.set_cons_zero]
          refine wpAnyT_take (i := 2) (oi := _) (v := ?_) (by simp only [List.getElem?_toArray, List.getElem?_cons_succ, List.getElem?_cons_zero]; rfl) (by kernel_rfl) (by kernel_rfl) (by kernel_rfl) (by rfl) (by exact fun _ _ _ h => h) (Or.inl ⟨by rfl, ?_⟩) ⟨(by exact hF), fun _ => (by exact hG)⟩ (fun _ => ?_)
          rotate_left 1
          · (intro w hSw; (try dsimp only at hSw); go_simp; try with_reducible rfl)
          all_goals try simp only [Act.put]
          all_goals try simp only [List.setIfInBounds_toArray]
          all_goals try simp only [List.set_cons_succ]
          all_goals try simp only [List.set_cons_zero]
          refine wpAnyT_take (i := 3) (oi := _) (v := ?_) (by simp only [List.getElem?_toArray, List.getElem?_cons_succ, List.getElem?_cons_zero]; rfl) (by kernel_rfl) (by kernel_rfl) (by kernel_rfl) (by rfl) (by exact fun _ _ _ h => h) (Or.inl ⟨by rfl, ?_⟩) ⟨(by exact hF), fun _ => (by exact hG)⟩ (fun _ => ?_)
          rotate_left 1
          · (intro w hSw; (try dsimp only at hSw); go_simp; try with_reducible rfl)
          all_goals try simp only [Act.put]
          all_goals try simp only [List.setIfInBounds_toArray]
          all_goals try simp only [List.set_cons_succ]
          all_goals try simp only [List.set_cons_zero]
          refine wpAnyT_take (i := 5) (oi := _) (v := ?_) (by simp only [List.getElem?_toArray, List.getElem?_cons_succ, List.getElem?_cons_zero]; rfl) (by kernel_rfl) (by kernel_rfl) (by kernel_rfl) (by rfl) (by exact fun _ _ _ h => h) (Or.inl ⟨by rfl, ?_⟩) ⟨(by exact hF), fun _ => (by exact hG)⟩ (fun _ => ?_)
          rotate_left 1
          · (intro w hSw; (try dsimp only at hSw); go_simp; try with_reducible rfl)
          all_goals try simp only [Act.put]
          all_goals try simp only [List.setIfInBounds_toArray]
          all_goals try simp only [List.set_cons_succ]
          all_goals try simp only [List.set_cons_zero]
          refine wpAnyT_take (i := 6) (oi := _) (v := ?_) (by simp only [List.getElem?_toArray, List.getElem?_cons_succ, List.getElem?_cons_zero]; rfl) (by kernel_rfl) (by kernel_rfl) (by kernel_rfl) (by rfl) (by exact fun _ _ _ h => h) (Or.inl ⟨by rfl, ?_⟩) ⟨(by exact hF), fun _ => (by exact hG)⟩ (fun _ => ?_)
          rotate_left 1
          · (intro w hSw; (try dsimp only at hSw); go_simp; try with_reducible rfl)
          all_goals try simp only [Act.put]
          all_goals try simp only [List.setIfInBounds_toArray]
          all_goals try simp only [List.set_cons_succ]
          all_goals try simp only [List.set_cons_zero]
          refine wpAnyT_ready (rs := [4]) (by kernel_rfl) (by simp) ?_
          refine (AllReadyT.cons (by simp only [List.getElem?_toArray, List.getElem?_cons_succ, List.getElem?_cons_zero]; rfl) (fun K hK => ?_) AllReadyT.nil)
          rw [if_pos (by rfl)]
          go_simp
          refine (refAt_any A1 n1 c1 a.per a.inc k a.vals _ (by exact FA.out.ints) (by omega) (by omega) (by omega) (by omega) (by omega) HAO.out.nn (by omega) (by omega)).mono ?_
          rw [Int.toNat_natCast, show Cv.at ⟨a.vals, a.per, a.inc⟩ k = x from HX.out.symm]
          rintro e wq ⟨rfl, hbq⟩
          have FA := Lib.hid (FA.out.below hbq); have FB := Lib.hid (FB.out.below hbq); have RB := Lib.hid (RB.out.below hbq RB.out.lt); have BW := Lib.hid (bthen BW.out hbq); have OB := Lib.hid (OB.out.below hbq OB.out.lt); have OWN := Lib.hid (OWN.out.below hbq (fun g hg => (OWN.out.blk_lt g hg).2))
          clear hbq hF hG
          clear a0 a1 a2 hla b0 b1 b2 hlb
          clear o0 o1 o2 z0 hlo
          obtain ⟨a0, a1, a2, hla⟩ := FA.out.cells
          obtain ⟨b0, b1, b2, hlb⟩ := FB.out.cells
          obtain ⟨o0, o1, o2⟩ : _ ∧ _ ∧ _ := ⟨OB.out.cell 0, OB.out.cell 1, OB.out.cell 2⟩
          simp at o0 o1 o2
          have z0 := OB.out.frozen 0
          have hlo := OB.out.lt
          have hF := And.intro a0 (And.intro a1 (And.intro a2 (And.intro b0 (And.intro b1 b2))))
          have hG := o0
          refine hK.out _ _ ⟨(by exact hF), fun _ => (by exact hG)⟩ (fun _ => ?_)
          clear hK K
          try simp only [Act.put]
          try simp only [List.setIfInBounds_toArray]
          try simp only [List.set_cons_succ]
          try simp only [List.set_cons_zero]
          refine wpAnyT_ready (rs := [7]) (by kernel_rfl) (by simp) ?_
          refine (AllReadyT.cons (by simp only [List.getElem?_toArray, List.getElem?_cons_succ, List.getElem?_cons_zero]; rfl) (fun K hK => ?_) AllReadyT.nil)
          rw [if_pos (by rfl)]
          go_simp
          refine (refAt_any A2 n2 c2 b.per b.inc k b.vals _ (by exact FB.out.ints) (by omega) (by omega) (by omega) (by omega) (by omega) HBO.out.nn (by omega) (by omega)).mono ?_
          rw [Int.toNat_natCast, show Cv.at ⟨b.vals, b.per, b.inc⟩ k = y from HY.out.symm]
          rintro e wq ⟨rfl, hbq⟩
          have FA := Lib.hid (FA.out.below hbq); have FB := Lib.hid (FB.out.below hbq); have RB := Lib.hid (RB.out.below hbq RB.out.lt); have BW := Lib.hid (bthen BW.out hbq); have OB := Lib.hid (OB.out.below hbq OB.out.lt); have OWN := Lib.hid (OWN.out.below hbq (fun g hg => (OWN.out.blk_lt g hg).2))
          clear hbq hF hG
          clear a0 a1 a2 hla b0 b1 b2 hlb
          clear o0 o1 o2 z0 hlo
          obtain ⟨a0, a1, a2, hla⟩ := FA.out.cells
          obtain ⟨b0, b1, b2, hlb⟩ := FB.out.cells
          obtain ⟨o0, o1, o2⟩ : _ ∧ _ ∧ _ := ⟨OB.out.cell 0, OB.out.cell 1, OB.out.cell 2⟩
          simp at o0 o1 o2
          have z0 := OB.out.frozen 0
          have hlo := OB.out.lt
          have hF := And.intro a0 (And.intro a1 (And.intro a2 (And.intro b0 (And.intro b1 b2))))
          have hG := o0
          refine hK.out _ _ ⟨(by exact hF), fun _ => (by exact hG)⟩ (fun _ => ?_)
          clear hK K
          try simp only [Act.put]
          try simp only [List.setIfInBounds_toArray]
          try simp only [List.set_cons_succ]
          try simp only [List.set_cons_zero]
          refine wpAnyT_ready (rs := [8]) (by kernel_rfl) (by simp) ?_
          refine (AllReadyT.cons (by simp only [List.getElem?_toArray, List.getElem?_cons_succ, List.getElem?_cons_zero]; rfl) (fun K hK => ?_) AllReadyT.nil)
          rw [if_pos (by rfl)]
          go_simp
          refine (rplus_any x y _ (by rw [HX.out]; exact HMA.out.1) (by rw [HX.out]; exact HMA.out.2) (by rw [HY.out]; exact HMB.out.1) (by rw [HY.out]; exact HMB.out.2)).mono ?_
          rw [HZ.out]
          obtain ⟨z, hz⟩ : ∃ z, z = sumV a b k := ⟨_, rfl⟩
          rw [← hz]
          have HZZ := Lib.hid hz
          clear hz
          rintro e wq2 ⟨rfl, rfl⟩
          refine hK.out _ _ ⟨(by exact hF), fun _ => (by exact hG)⟩ (fun _ => ?_)
          clear hK K
          try simp only [Act.put]
          try simp only [List.setIfInBounds_toArray]
          try simp only [List.set_cons_succ]
          try simp only [List.set_cons_zero]
          refine wpAnyT_ready (rs := [9]) (by kernel_rfl) (by simp) ?_
          refine (AllReadyT.cons (by simp only [List.getElem?_toArray, List.getElem?_cons_succ, List.getElem?_cons_zero]; rfl) (fun K hK => ?_) AllReadyT.nil)
          rw [if_pos (by rfl)]
          go_simp
          have hlit := ints_litC wq [z]
          have hbq := balloc wq (.cells ([z].map (Value.int .i64)).toArray 3)
          simp only [List.map_cons, List.map_nil] at hlit hbq
          generalize hwl : wq.alloc (.cells [Value.int .i64 z].toArray 3) = wl at *
          clear hwl
          have FA := Lib.hid (FA.out.below hbq); have FB := Lib.hid (FB.out.below hbq); have RB := Lib.hid (RB.out.below hbq RB.out.lt); have BW := Lib.hid (bthen BW.out hbq); have OB := Lib.hid (OB.out.below hbq OB.out.lt); have OWN := Lib.hid (OWN.out.below hbq (fun g hg => (OWN.out.blk_lt g hg).2))
          clear hbq hF hG
          clear a0 a1 a2 hla b0 b1 b2 hlb
          clear o0 o1 o2 z0 hlo
          obtain ⟨a0, a1, a2, hla⟩ := FA.out.cells
          obtain ⟨b0, b1, b2, hlb⟩ := FB.out.cells
          obtain ⟨o0, o1, o2⟩ : _ ∧ _ ∧ _ := ⟨OB.out.cell 0, OB.out.cell 1, OB.out.cell 2⟩
          simp at o0 o1 o2
          have z0 := OB.out.frozen 0
          have hlo := OB.out.lt
          have hF := And.intro a0 (And.intro a1 (And.intro a2 (And.intro b0 (And.intro b1 b2))))
          have hG := o0
          refine hK.out _ _ ⟨(by exact hF), fun _ => (by exact hG)⟩ (fun _ => ?_)
          clear hK K
          try simp only [Act.put]
          try simp only [List.setIfInBounds_toArray]
          try simp only [List.set_cons_succ]
          try simp only [List.set_cons_zero]
          refine wpAnyT_ready (rs := [10]) (by kernel_rfl) (by simp) ?_
          refine (AllReadyT.cons (by simp only [List.getElem?_toArray, List.getElem?_cons_succ, List.getElem?_cons_zero]; rfl) (fun K hK => ?_) AllReadyT.nil)
          refine step_app (by rfl) _ _ 22 (by rfl) Try.underlying22 (P + 1) (.slice Am k cm) k (tab (sumV a b) 0 k) (by rfl) OWN.out wl.heap.size (some ⟨wq.heap.size, 0, none⟩) 1 1 [z] (by rfl) hlit (by omega) (by omega) ?_
          intro v2 w2 own2 grow2 at2
          have hb2 : Below (P + 1) wl w2 := Below.grown (Below.refl _ _) grow2 (by omega) (fun g hg => (OWN.out.blk_lt g hg).1)
          clear hF hG at2 grow2 hlit
          clear a0 a1 a2 hla b0 b1 b2 hlb
          clear o0 o1 o2 z0 hlo
          have FA := Lib.hid (FA.out.upto hb2 (by omega)); have FB := Lib.hid (FB.out.upto hb2 (by omega)); have RB := Lib.hid (RB.out.below hb2 (by omega)); have BW := Lib.hid (BW.out.trans (hb2.mono (by omega))); have OB := Lib.hid (OB.out.below hb2 (by omega))
          obtain ⟨A9, c9, rfl, hc9, hI9, hf9⟩ := own2.ints
          rw [HZZ.out, tab_snoc] at own2
          have OWN := Lib.hid own2
          clear own2 hb2 hI9 hf9 hc9
          obtain ⟨a0, a1, a2, hla⟩ := FA.out.cells
          obtain ⟨b0, b1, b2, hlb⟩ := FB.out.cells
          obtain ⟨o0, o1, o2⟩ : _ ∧ _ ∧ _ := ⟨OB.out.cell 0, OB.out.cell 1, OB.out.cell 2⟩
          simp at o0 o1 o2
          have z0 := OB.out.frozen 0
          have hlo := OB.out.lt
          have hF := And.intro a0 (And.intro a1 (And.intro a2 (And.intro b0 (And.intro b1 b2))))
          refine hK.out _ _ ⟨(by exact hF), fun h => Bool.noConfusion (show true = false from h)⟩ (fun _ => ?_)
          clear hK K
          try simp only [Act.put]
          try simp only [List.setIfInBounds_toArray]
          try simp only [List.set_cons_succ]
          try simp only [List.set_cons_zero]
          refine wpAnyT_take (i := 11) (oi := _) (v := ?_) (by simp only [List.getElem?_toArray, List.getElem?_cons_succ, List.getElem?_cons_zero]; rfl) (by kernel_rfl) (by kernel_rfl) (by kernel_rfl) (by rfl) (by exact fun _ _ _ h => h) (Or.inl ⟨by rfl, ?_⟩) ⟨(by exact hF), fun h => Bool.noConfusion (show true = false from h)⟩ (fun _ => ?_)
          rotate_left 1
          · (intro w hSw; (try dsimp only at hSw); go_simp; try with_reducible rfl)
          all_goals try simp only [Act.put]
          all_goals try simp only [List.setIfInBounds_toArray]
          all_goals try simp only [List.set_cons_succ]
          all_goals try simp only [List.set_cons_zero]
          refine wpAnyT_ready (rs := [12]) (by kernel_rfl) (by simp) ?_
          refine (AllReadyT.cons (by simp only [List.getElem?_toArray, List.getElem?_cons_succ, List.getElem?_cons_zero]; rfl) (fun K hK => ?_) AllReadyT.nil)
          rw [if_pos (by rfl)]
          go_simp
          have own3 := OWN.out.far (p := ⟨P, 0, none⟩) (fun e => by have := (OWN.out.blk_lt _ e).1; simp at this; omega) (.slice A9 (k + 1) c9)
          have OWN := Lib.hid own3
          clear own3 hF
          clear a0 a1 a2 hla b0 b1 b2 hlb
          clear o0 o1 o2 z0 hlo
          have FA := Lib.hid (FA.out.set1 (g := P) (.inl (by omega)) 0 (Value.slice A9 (k + 1) c9)); have FB := Lib.hid (FB.out.set1 (g := P) (.inl (by omega)) 0 (Value.slice A9 (k + 1) c9)); have RB := Lib.hid (RB.out.far (p := ⟨P, 0, none⟩) (by simp; omega) (Value.slice A9 (k + 1) c9)); have BW := Lib.hid (BW.out.setCell (p := ⟨P, 0, none⟩) (by simp; omega) (Value.slice A9 (k + 1) c9)); have OB := Lib.hid (OB.out.set_ 0 (Value.slice A9 (k + 1) c9))
          generalize hws : w2.setCell ⟨P, 0, none⟩ (.slice A9 (k + 1) c9) = ws at *
          clear hws
          simp only [List.setIfInBounds_toArray, List.set_cons_zero] at OB
          obtain ⟨a0, a1, a2, hla⟩ := FA.out.cells
          obtain ⟨b0, b1, b2, hlb⟩ := FB.out.cells
          have hF := And.intro a0 (And.intro a1 (And.intro a2 (And.intro b0 (And.intro b1 b2))))
          refine hK.out _ _ ⟨(by exact hF), fun h => Bool.noConfusion (show true = false from h)⟩ (fun _ => ?_)
          clear hK K
          try simp only [Act.put]
          try simp only [List.setIfInBounds_toArray]
          try simp only [List.set_cons_succ]
          try simp only [List.set_cons_zero]
          refine wpAnyT_done (by kernel_rfl) ?_ _
          clear a0 a1 a2 hla b0 b1 b2 hlb
          go_wp2_with fail
          go_roundg (gk - 1)
          case measure => omega
          case rel => exact ⟨k + 1, A9, c9, by omega, by go_num, OB.out, OWN.out, FA.out, FB.out, RB.out, BW.out⟩
        · have hkN : k = N := by omega
          subst hkN
          clear hk hkg
          have TAB := Lib.hid (fun t => sum_tab HAO.out HBO.out HC.out (by omega) HN.out HI.out t)
          have V := Lib.hid (fun t (ht : t ≤ 1000000) => sumV_small HAO.out HBO.out ht)
          obtain ⟨A9, c9, e', hc9, hI9, hf9⟩ := OWN.out.ints
          injection e' with e1 e2 e3
          subst e1 e3
          have hlk : (tab (sumV a b) 0 k).length = k := tab_length _ _ _
          have PRE := Lib.hid (show Pre ⟨tab (sumV a b) 0 k, C, I⟩ from ⟨by show (1 : Int) ≤ C; omega, by show (C : Int) ≤ ((tab (sumV a b) 0 k).length : Nat); rw [hlk]; have := HNC2.out; omega, hI0, hI1, by show (tab (sumV a b) 0 k).length ≤ 100000; rw [hlk]; omega, fun r => by
            show 0 ≤ nth (tab (sumV a b) 0 k) r ∧ nth (tab (sumV a b) 0 k) r ≤ 4611686018427387904
            by_cases hr : r < k
            · rw [tab_nth _ _ _ _ hr, Nat.zero_add]; exact V.out r (by omega)
            · rw [nth_out _ _ (by rw [hlk]; omega)]; omega⟩)
          have UP := Lib.hid (Up0.congr (sumV_up HAO.out HBO.out) TAB.out)
          have HINF := Lib.hid (show ∀ m t, m < (tab (sumV a b) 0 k).length → nth (tab (sumV a b) 0 k) m = inf → m ≤ t → Cv.at ⟨tab (sumV a b) 0 k, C, I⟩ t = inf from fun m t hm h hmt => by
            rw [hlk] at hm
            rw [tab_nth _ _ _ _ hm, Nat.zero_add] at h
            rw [TAB.out t]
            exact sumV_inf (sumV_later HAO.out HBO.out (by omega) h hmt))
          have HI9 := Lib.hid hI9; have HC9 := Lib.hid hc9
          clear hI9 hf9 hc9 hlk
          go_wp2_with fail
          refine (refMade_any Am k cm C I (tab (sumV a b) 0 k) _ HI9.out HC9.out PRE.out UP.out HINF.out).mono ?_
          rintro e wq ⟨r, er, A5, n5, c5, hS, hc5, rfl, hI5, hA5, hbq⟩
          have F := Lib.hid (show SumS ⟨xs, p, i⟩ ⟨ys, q, j⟩ r er from .inr ⟨HF.out, HG.out, a, b, HNA.out, HNB.out, .inr ⟨by rw [← HC.out]; omega, hS.congr TAB.out⟩⟩)
          have RB := Lib.hid (RB.out.below hbq RB.out.lt); have BW := Lib.hid (bthen BW.out hbq)
          have HI5 := Lib.hid hI5; have HA5 := Lib.hid hA5
          have hlw := hlo
          clear hS hI5 hA5 hbq
          clear o0 o1 o2 z0 hlo
          clear a0 a1 a2 hla b0 b1 b2 hlb
          obtain ⟨r0, r1, r2⟩ : _ ∧ _ ∧ _ := ⟨RB.out.cell 0, RB.out.cell 1, RB.out.cell 2⟩
          simp at r0 r1 r2
          have y0 := RB.out.frozen 0; have y1 := RB.out.frozen 1; have y2 := RB.out.frozen 2
          have hlr2 := RB.out.lt
          go_wp2_with fail
          have rb := RB.out.store3 (.slice A5 n5 c5) (.int .i64 r.per) (.int .i64 r.inc)
          exact bodyPost_ret (v := .tuple #[.agg #[.slice A5 n5 c5, .int .i64 r.per, .int .i64 r.inc], .int .i64 er]) (by simp [results, Try.results22, go_sem, rb.cell]) rfl (retS2_store F.out hc5 HA5.out (by omega) (by omega) HI5.out BW.out)
end Go.Proofs.Ytbkimphcmmmaiaa
