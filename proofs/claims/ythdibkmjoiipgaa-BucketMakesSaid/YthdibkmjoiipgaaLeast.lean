/- The reference of the normal form (Least): what it returns. -/
import Derived.Test.YthdibkmjoiipgaaPeriodic
import Derived.Test.YthdibkmjoiipgaaRefSame
namespace Go.Proofs.Ythdibkmjoiipgaa
open Go.RowKit
set_option linter.unusedVariables false

/-- the call returned a curve with S, in memory of its own -/
def RetCv (S : Cv → Prop) (w : World) (e : Ending) (w' : World) : Prop :=
  ∃ (g : Cv) (A : Option Addr) (n c : Nat), S g ∧ n ≤ c ∧ e = .returned (.agg #[.slice A n c, .int .i64 g.per, .int .i64 g.inc]) ∧ Ints w' w'.heap.size A n g.vals ∧ (∀ b off s, A = some ⟨b, off, s⟩ → w.heap.size ≤ b) ∧ Below w.heap.size w w'

/-- in Least: the boxed curve, the result's block -/
structure LB (w wx : World) (A : Option Addr) (n c : Nat) (p i : Int) (zs : List Int) : Prop where
  fb : Blk wx w.heap.size 46 #[.slice A n c, .int .i64 p, .int .i64 i]
  rb : Blk wx (w.heap.size + 1) 46 #[.slice none 0 0, .int .i64 0, .int .i64 0]
  ib : Ints wx w.heap.size A n zs
  bw : Below w.heap.size w wx
section
variable {w wx wy : World} {A : Option Addr} {n c : Nat} {p i : Int} {zs : List Int}
theorem LB.new (hA : Ints w w.heap.size A n zs) : LB w ((w.alloc (.cells #[.slice A n c, .int .i64 p, .int .i64 i] 46)).alloc (.cells #[.slice none 0 0, .int .i64 0, .int .i64 0] 46)) A n c p i zs :=
  ⟨(Blk.new w _ _).alloc _, by simpa using Blk.new (w.alloc (.cells #[.slice A n c, .int .i64 p, .int .i64 i] 46)) 46 #[.slice none 0 0, .int .i64 0, .int .i64 0], (hA.alloc (Nat.le_refl _) _).alloc (by simp) _, bthen (balloc w _) (balloc _ _)⟩
theorem LB.ints (h : LB w wx A n c p i zs) : Ints wx wx.heap.size A n zs := h.ib.more h.bw.size
theorem LB.below (h : LB w wx A n c p i zs) (hb : Below wx.heap.size wx wy) : LB w wy A n c p i zs := ⟨h.fb.below hb h.fb.lt, h.rb.below hb h.rb.lt, h.ib.below (hb.mono h.bw.size), bthen h.bw hb⟩
theorem LB.alloc (h : LB w wx A n c p i zs) (o : Obj) : LB w (wx.alloc o) A n c p i zs := h.below (balloc wx o)
theorem LB.cells (h : LB w wx A n c p i zs) : wx.cell? ⟨w.heap.size, 0, none⟩ = some (.slice A n c) ∧ wx.cell? ⟨w.heap.size, 1, none⟩ = some (.int .i64 p) ∧ wx.cell? ⟨w.heap.size, 2, none⟩ = some (.int .i64 i) ∧ w.heap.size < wx.heap.size := by
  have q0 := h.fb.cell 0; have q1 := h.fb.cell 1; have q2 := h.fb.cell 2
  simp at q0 q1 q2
  exact ⟨q0, q1, q2, h.fb.lt⟩
theorem LB.rcells (h : LB w wx A n c p i zs) : wx.cell? ⟨w.heap.size + 1, 0, none⟩ = some (.slice none 0 0) ∧ wx.cell? ⟨w.heap.size + 1, 1, none⟩ = some (.int .i64 0) ∧ wx.cell? ⟨w.heap.size + 1, 2, none⟩ = some (.int .i64 0) ∧
    wx.frozen? ⟨w.heap.size + 1, 0, none⟩ = false ∧ wx.frozen? ⟨w.heap.size + 1, 1, none⟩ = false ∧ wx.frozen? ⟨w.heap.size + 1, 2, none⟩ = false ∧ w.heap.size + 1 < wx.heap.size := by
  have q0 := h.rb.cell 0; have q1 := h.rb.cell 1; have q2 := h.rb.cell 2
  simp at q0 q1 q2
  exact ⟨q0, q1, q2, h.rb.frozen 0, h.rb.frozen 1, h.rb.frozen 2, h.rb.lt⟩
theorem Ints.head2 {B m : Nat} (h : Ints wx B A n zs) (hm : m ≤ n) : Ints wx B A m (zs.take m) :=
  ⟨by simp [h.1]; omega, fun hm0 => by
    obtain ⟨b, off, e, hb, hc⟩ := h.2 (by omega)
    exact ⟨b, off, e, hb, fun j hj => by rw [nth_take _ _ _ hj]; exact hc j (by omega)⟩⟩
/-- at the end of Least -/
theorem retCv_close {S : Cv → Prop} {w1 : World} {A' : Option Addr} {n' c' : Nat} {g : Cv} {x y z : Value} (hS : S g) (hc : n' ≤ c') (hI : Ints w1 w1.heap.size A' n' g.vals) (hge : ∀ b off s, A' = some ⟨b, off, s⟩ → w.heap.size + 2 ≤ b) (bw : Below w.heap.size w w1) :
    RetCv S w (.returned (.agg #[.slice A' n' c', .int .i64 g.per, .int .i64 g.inc])) (((w1.setCell ⟨w.heap.size + 1, 0, none⟩ x).setCell ⟨w.heap.size + 1, 1, none⟩ y).setCell ⟨w.heap.size + 1, 2, none⟩ z) :=
  ⟨g, A', n', c', hS, hc, rfl, by
    simpa using (((hI.setCell (fun b off s h => by have := hge b off s h; simp; omega) _).setCell (fun b off s h => by have := hge b off s h; simp; omega) _).setCell (fun b off s h => by have := hge b off s h; simp; omega) _),
    (fun b off s h => by have := hge b off s h; omega), ((bw.setCell (by simp) _).setCell (by simp) _).setCell (by simp) _⟩
end

attribute [local go_sem ↓] app_fold

set_option maxRecDepth 100000 in
set_option maxHeartbeats 4000000 in
theorem refLeast_any (A : Option Addr) (n c : Nat) (p i : Int) (zs : List Int) (w : World) (hA : Ints w w.heap.size A n zs) (hc : n ≤ c) (pre : Pre ⟨zs, p, i⟩) :
    Calls Try.prog 101 #[.agg #[.slice A n c, .int .i64 p, .int .i64 i]] w (RetCv (LeastS ⟨zs, p, i⟩) w) := by
  have hl := hA.1
  have hp1 := pre.p1; have hpn := pre.pn; have hi0 := pre.i0; have hi1 := pre.i1; have hn2 := pre.n2
  have HV := Lib.hid pre.v; have PRE := Lib.hid pre
  simp only [hl] at hp1 hpn hi0 hi1 hn2
  obtain ⟨P, rfl⟩ := Int.eq_ofNat_of_zero_le (show 0 ≤ p by omega)
  have E := Lib.hid (LB.new (c := c) (p := (P : Int)) (i := i) hA)
  have HL := Lib.hid hl
  clear hA pre hl
  go_enter Try.func101, Try.ntmps101
  obtain ⟨f0, f1, f2, hlf⟩ := E.out.cells
  go_wp2_with fail
  clear f0 f1 f2 hlf
  go_loopg [3] n (fun gg s3 wx => ∃ k : Nat, k + gg = n ∧ s3 = .int .i64 k ∧ Hid (∀ j, j < k → nth zs j ≠ inf) ∧ LB w wx A n c P i zs)
  case atStart => exact ⟨0, by omega, rfl, (fun j hj => by omega), E.out⟩
  case round =>
    clear E
    obtain ⟨k, hkg, rfl, hno, hE⟩ := hrel
    have E := Lib.hid hE; have HNO := Lib.hid hno.out
    clear hE hno
    obtain ⟨f0, f1, f2, hlf⟩ := E.out.cells
    by_cases hk : k < n
    · have hki : (k : Int) < n := by omega
      obtain ⟨b, off, hAe, hbl, hcell⟩ := E.out.ints.2 (by omega)
      subst hAe
      have hck := hcell k hk
      obtain ⟨x, hx⟩ : ∃ x, x = nth zs k := ⟨_, rfl⟩
      rw [← hx] at hck
      have HX := Lib.hid hx
      clear hx hcell
      by_cases hxi : x = 4611686018427387904
      · have hxb : (x == 4611686018427387904) = true := by simpa using hxi
        have F := Lib.hid (show LeastS ⟨zs, P, i⟩ ⟨zs.take (k + 1), 1, 0⟩ from .inl ⟨k, by show k < zs.length; rw [HL.out]; exact hk, by show nth zs k = inf; rw [← HX.out]; exact hxi, fun j hj => HNO.out j hj, by
          refine cv_ext ?_ rfl rfl
          exact eq_tab (by simp [HL.out]; omega) (fun j hj => by rw [nth_take _ _ _ hj, Nat.zero_add, Cv.at_lt (f := ⟨zs, P, i⟩) (by show j < zs.length; rw [HL.out]; omega)])⟩)
        obtain ⟨r0, r1, r2, z0, z1, z2, hlr⟩ := E.out.rcells
        have hk1c : (k : Int) + 1 ≤ c := by omega
        have hk10 : (0 : Int) ≤ (k : Int) + 1 := by omega
        have HSZ := Lib.hid E.out.bw.size
        have hlw := E.out.rb.lt
        clear hxi
        go_wp2_with (at_builtin; refine wpList_app rfl _ _ 29 rfl Try.underlying29 wr.heap.size (.slice (some ⟨wr.heap.size, 0, none⟩) 0 0) 0 [] rfl (Own.empty_ wr (Nat.le_refl _)) _ (some ⟨b, off, none⟩) (k + 1) c (zs.take (k + 1)) rfl ((E.out.ints.head2 (m := k + 1) (by omega)).alloc (Nat.le_refl _) _) (by omega) (by simp) ?_; intro v1 w4 own1 grow1 at1; simp only [Nat.zero_add, List.nil_append] at own1; have hb4 : Below wr.heap.size wr w4 := (balloc _ _).grown grow1 (by simp) (by simp [Value.ownBlock]); obtain ⟨A1, c1, rfl, hc1, hI1, hf1⟩ := own1.ints; have E := Lib.hid (E.out.below hb4); have HI1 := Lib.hid hI1; have HF1 := Lib.hid hf1; clear own1 grow1 at1 hb4 hI1 hf1 r0 r1 r2 z0 z1 z2 hlr hck; (obtain ⟨r0, r1, r2, z0, z1, z2, hlr⟩ := E.out.rcells))
        have rb := E.out.rb.store3 (.slice A1 (k + 1) c1) (.int .i64 1) (.int .i64 0)
        exact bodyPost_ret (v := .agg #[.slice A1 (k + 1) c1, .int .i64 1, .int .i64 0]) (by simp [results, Try.results101, go_sem, rb.cell]) rfl
          (retCv_close (g := ⟨zs.take (k + 1), 1, 0⟩) F.out hc1 HI1.out (fun b off s h => by have := HF1.out b off s h; omega) E.out.bw)
      · have hxb : (x == 4611686018427387904) = false := by simpa using hxi
        have F := Lib.hid (show ∀ j, j < k + 1 → nth zs j ≠ inf from fun j hj => by
          by_cases e : j = k
          · rw [e, ← HX.out]; exact hxi
          · exact HNO.out j (by omega))
        clear hxi
        go_wp2_with fail
        go_roundg (gk - 1)
        case measure => omega
        case rel => exact ⟨k + 1, by omega, by go_num, F.out, E.out⟩
    · have hkn : k = n := by omega
      have F := Lib.hid (show ∀ j, j < zs.length → nth zs j ≠ inf from fun j hj => HNO.out j (by rw [HL.out] at hj; omega))
      have FL := Lib.hid (show Cv.FinL ⟨zs, P, i⟩ from ⟨PRE.out.p1, PRE.out.pn, F.out⟩)
      obtain ⟨s, hs⟩ : ∃ s : Nat, s = n - P := ⟨_, rfl⟩
      have hsi : (n : Int) - (P : Int) = (s : Int) := by omega
      have hsb : s ≤ 100000 := by omega
      have hPb : P ≤ 100000 := by omega
      have HS := Lib.hid hs
      clear hs hk hkg
      subst hkn
      go_wp2_with fail
      clear hsi
      clear f0 f1 f2 hlf
      go_loopg [5] P (fun gg s5 wx => ∃ r : Nat, 1 ≤ r ∧ r + gg = P + 1 ∧ s5 = .int .i64 r ∧ Hid (∀ q, 1 ≤ q → q < r → ¬ RefT ⟨zs, P, i⟩ q) ∧ r ≤ P ∧ LB w wx A k c P i zs)
      case atStart => exact ⟨1, by omega, by omega, rfl, (fun q h1 h2 => by omega), by omega, E.out⟩
      case round =>
        clear E
        obtain ⟨r, hr1, hrg, rfl, hno2, hrP, hE⟩ := hrel
        have E := Lib.hid hE; have HN2 := Lib.hid hno2.out
        clear hE hno2
        obtain ⟨f0, f1, f2, hlf⟩ := E.out.cells
        go_wp2_with fail
        refine (periodic_any A k c P i zs _ E.out.ints PRE.out s r (by rw [Int.toNat_natCast]; exact HS.out) hr1 (by omega)).mono ?_
        rintro e wq ⟨⟨b, hb, rfl⟩, hbq⟩
        have HB := Lib.hid hb
        have E := Lib.hid (E.out.below hbq)
        clear hb hbq
        clear f0 f1 f2 hlf
        obtain ⟨f0, f1, f2, hlf⟩ := E.out.cells
        cases b
        case false =>
          have hne : ¬ RefT ⟨zs, P, i⟩ r := fun h => by have := HB.out.2 h; cases this
          have hrP2 : r ≠ P := fun e => hne (by have := refT_per FL.out; rw [show (Cv.mk zs (P : Int) i).per.toNat = P from Int.toNat_natCast P] at this; rw [e]; exact this)
          have F2 := Lib.hid (show ∀ q, 1 ≤ q → q < r + 1 → ¬ RefT ⟨zs, P, i⟩ q from fun q h1 h2 => by
            by_cases e : q = r
            · rw [e]; exact hne
            · exact HN2.out q h1 (by omega))
          clear hne HB
          go_wp2_with fail
          go_roundg (gk - 1)
          case measure => omega
          case rel => exact ⟨r + 1, by omega, by omega, by go_num, F2.out, by omega, E.out⟩
        case true =>
          have RT := Lib.hid (HB.out.1 rfl)
          clear HB
          have hir : i * (r : Int) ≤ 1099511627776 * 100000 := Int.mul_le_mul hi1 (by omega) (by omega) (by omega)
          have hir0 : 0 ≤ i * (r : Int) := Int.mul_nonneg hi0 (by omega)
          obtain ⟨st, hst⟩ : ∃ st, i * (r : Int) / (P : Int) = st := ⟨_, rfl⟩
          have hs0 : 0 ≤ st := by rw [← hst]; exact Int.ediv_nonneg hir0 (by omega)
          have hs1 : st ≤ 1099511627776 * 100000 := by rw [← hst]; exact Int.le_trans (Int.ediv_le_self _ hir0) hir
          have hPn : (P : Int) ≠ 0 := by omega
          have HST := Lib.hid hst
          have HIR := Lib.hid hir
          go_upto_block 4 with fail
          rw [HST.out]
          clear hst hir hir0
          clear f0 f1 f2 hlf
          go_cut [4] (fun s4 wx => ∃ s' : Nat, s4 = .int .i64 s' ∧ s' ≤ s ∧ Hid ((∀ t, s' ≤ t → t < s → Cv.at ⟨zs, P, i⟩ t + st = Cv.at ⟨zs, P, i⟩ (t + r)) ∧ (s' = 0 ∨ Cv.at ⟨zs, P, i⟩ (s' - 1) + st ≠ Cv.at ⟨zs, P, i⟩ (s' - 1 + r))) ∧ LB w wx A k c P i zs)
          case first =>
            go_wp2_with fail
            go_loopg [4] s (fun gg s4 wx => ∃ s' : Nat, s' = gg ∧ s4 = .int .i64 s' ∧ s' ≤ s ∧ Hid (∀ t, s' ≤ t → t < s → Cv.at ⟨zs, P, i⟩ t + st = Cv.at ⟨zs, P, i⟩ (t + r)) ∧ LB w wx A k c P i zs)
            case atStart => exact ⟨s, rfl, rfl, by omega, (fun t h1 h2 => by omega), E.out⟩
            case round =>
              clear E
              obtain ⟨s', hsg, rfl, hss, hgood, hE⟩ := hrel
              have E := Lib.hid hE; have HGD := Lib.hid hgood.out; have HSG := Lib.hid hsg
              clear hE hgood hsg
              obtain ⟨f0, f1, f2, hlf⟩ := E.out.cells
              rcases Nat.eq_zero_or_pos s' with h0 | hpos
              · subst h0
                go_wp2_with fail
                refine wp_region_held_drew (S := fun _ => True) (by kernel_rfl) trivial (fun hHeld => ?_)
                refine wpAnyH_take (i := 0) (oi := _) (v := ?_) (by simp only [g8a, g8z]; rfl) (by kernel_rfl) (by kernel_rfl) (by kernel_rfl) (by exact fun _ _ _ h => h) (Or.inl ⟨by rfl, ?_⟩) trivial ?_
                rotate_left 1
                · (intro w _; go_simp; try with_reducible rfl)
                all_goals try simp only [Act.put, List.setIfInBounds_toArray, List.set_cons_zero, List.set_cons_succ]
                refine wpAnyH_take (i := 1) (oi := _) (v := ?_) (by simp only [g8a, g8s, g8z]; rfl) (by kernel_rfl) (by kernel_rfl) (by kernel_rfl) (by exact fun _ _ _ h => h) (Or.inl ⟨by rfl, ?_⟩) trivial ?_
                rotate_left 1
                · (intro w _; go_simp; try with_reducible rfl)
                all_goals try simp only [Act.put, List.setIfInBounds_toArray, List.set_cons_zero, List.set_cons_succ]
                refine wpAnyH_take (i := 2) (oi := _) (v := ?_) (by simp only [g8a, g8s, g8z]; rfl) (by kernel_rfl) (by kernel_rfl) (by kernel_rfl) (by exact fun _ _ _ h => h) (Or.inl ⟨by rfl, ?_⟩) trivial ?_
                rotate_left 1
                · (intro w _; go_simp; try with_reducible rfl)
                all_goals try simp only [Act.put, List.setIfInBounds_toArray, List.set_cons_zero, List.set_cons_succ]
                refine wpAnyH_take (i := 3) (oi := _) (v := undef) (by simp only [g8a, g8s, g8z]; rfl) (by kernel_rfl) (by kernel_rfl) (by kernel_rfl) (by exact fun _ _ _ h => h) (Or.inr ⟨by rfl, rfl⟩) trivial ?_
                try simp only [Act.put, List.setIfInBounds_toArray, List.set_cons_zero, List.set_cons_succ]
                refine wpAnyH_take (i := 4) (oi := _) (v := undef) (by simp only [g8a, g8s, g8z]; rfl) (by kernel_rfl) (by kernel_rfl) (by kernel_rfl) (by exact fun _ _ _ h => h) (Or.inr ⟨by rfl, rfl⟩) trivial ?_
                try simp only [Act.put, List.setIfInBounds_toArray, List.set_cons_zero, List.set_cons_succ]
                refine wpAnyH_take (i := 5) (oi := _) (v := undef) (by simp only [g8a, g8s, g8z]; rfl) (by kernel_rfl) (by kernel_rfl) (by kernel_rfl) (by exact fun _ _ _ h => h) (Or.inr ⟨by rfl, rfl⟩) trivial ?_
                try simp only [Act.put, List.setIfInBounds_toArray, List.set_cons_zero, List.set_cons_succ]
                refine wpAnyH_take (i := 6) (oi := _) (v := undef) (by simp only [g8a, g8s, g8z]; rfl) (by kernel_rfl) (by kernel_rfl) (by kernel_rfl) (by exact fun _ _ _ h => h) (Or.inr ⟨by rfl, rfl⟩) trivial ?_
                try simp only [Act.put, List.setIfInBounds_toArray, List.set_cons_zero, List.set_cons_succ]
                refine wpAnyH_take (i := 7) (oi := _) (v := undef) (by simp only [g8a, g8s, g8z]; rfl) (by kernel_rfl) (by kernel_rfl) (by kernel_rfl) (by exact fun _ _ _ h => h) (Or.inr ⟨by rfl, rfl⟩) trivial ?_
                try simp only [Act.put, List.setIfInBounds_toArray, List.set_cons_zero, List.set_cons_succ]
                refine wpAnyH_take (i := 8) (oi := _) (v := undef) (by simp only [g8a, g8s, g8z]; rfl) (by kernel_rfl) (by kernel_rfl) (by kernel_rfl) (by exact fun _ _ _ h => h) (Or.inr ⟨by rfl, rfl⟩) trivial ?_
                try simp only [Act.put, List.setIfInBounds_toArray, List.set_cons_zero, List.set_cons_succ]
                refine wpAnyH_take (i := 9) (oi := _) (v := undef) (by simp only [g8a, g8s, g8z]; rfl) (by kernel_rfl) (by kernel_rfl) (by kernel_rfl) (by exact fun _ _ _ h => h) (Or.inr ⟨by rfl, rfl⟩) trivial ?_
                try simp only [Act.put, List.setIfInBounds_toArray, List.set_cons_zero, List.set_cons_succ]
                refine wpAnyH_take (i := 10) (oi := _) (v := undef) (by simp only [g8a, g8s, g8z]; rfl) (by kernel_rfl) (by kernel_rfl) (by kernel_rfl) (by exact fun _ _ _ h => h) (Or.inr ⟨by rfl, rfl⟩) trivial ?_
                try simp only [Act.put, List.setIfInBounds_toArray, List.set_cons_zero, List.set_cons_succ]
                refine wpAnyH_take (i := 11) (oi := _) (v := undef) (by simp only [g8a, g8s, g8z]; rfl) (by kernel_rfl) (by kernel_rfl) (by kernel_rfl) (by exact fun _ _ _ h => h) (Or.inr ⟨by rfl, rfl⟩) trivial ?_
                try simp only [Act.put, List.setIfInBounds_toArray, List.set_cons_zero, List.set_cons_succ]
                refine wpAnyH_take (i := 12) (oi := _) (v := undef) (by simp only [g8a, g8s, g8z]; rfl) (by kernel_rfl) (by kernel_rfl) (by kernel_rfl) (by exact fun _ _ _ h => h) (Or.inr ⟨by rfl, rfl⟩) trivial ?_
                try simp only [Act.put, List.setIfInBounds_toArray, List.set_cons_zero, List.set_cons_succ]
                refine wpAnyH_take (i := 13) (oi := _) (v := undef) (by simp only [g8a, g8s, g8z]; rfl) (by kernel_rfl) (by kernel_rfl) (by kernel_rfl) (by exact fun _ _ _ h => h) (Or.inr ⟨by rfl, rfl⟩) trivial ?_
                try simp only [Act.put, List.setIfInBounds_toArray, List.set_cons_zero, List.set_cons_succ]
                refine wpAnyH_take (i := 14) (oi := _) (v := undef) (by simp only [g8a, g8s, g8z]; rfl) (by kernel_rfl) (by kernel_rfl) (by kernel_rfl) (by exact fun _ _ _ h => h) (Or.inr ⟨by rfl, rfl⟩) trivial ?_
                try simp only [Act.put, List.setIfInBounds_toArray, List.set_cons_zero, List.set_cons_succ]
                refine wpAnyH_take (i := 15) (oi := _) (v := undef) (by simp only [g8a, g8s, g8z]; rfl) (by kernel_rfl) (by kernel_rfl) (by kernel_rfl) (by exact fun _ _ _ h => h) (Or.inr ⟨by rfl, rfl⟩) trivial ?_
                try simp only [Act.put, List.setIfInBounds_toArray, List.set_cons_zero, List.set_cons_succ]
                refine wpAnyH_take (i := 16) (oi := _) (v := ?_) (by simp only [g8a, g8s, g8z]; rfl) (by kernel_rfl) (by kernel_rfl) (by kernel_rfl) (by exact fun _ _ _ h => h) (Or.inl ⟨by rfl, ?_⟩) trivial ?_
                rotate_left 1
                · (intro w _; go_simp; try with_reducible rfl)
                all_goals try simp only [Act.put, List.setIfInBounds_toArray, List.set_cons_zero, List.set_cons_succ]
                refine wpAnyH_done (by kernel_rfl) ?_ _
                go_wp2_with fail
                go_meet
                exact ⟨0, by simp, by omega, ⟨HGD.out, .inl rfl⟩, ⟨E.out.fb, E.out.rb, E.out.ib, ⟨E.out.bw.os, E.out.bw.tape, E.out.bw.output, E.out.bw.size, E.out.bw.block⟩⟩⟩
              · obtain ⟨u, hu⟩ : ∃ u, s' = u + 1 := ⟨s' - 1, by omega⟩
                have d0 : decide ((0 : Int) < (s' : Int)) = true := by simp; omega
                have d0' : decide (0 < s') = true := by simp; omega
                have e1 : IntKind.i64.wrap ((s' : Int) - 1) = (u : Int) := by rw [IntWalk.i64_in _ (by omega)]; omega
                have e2 : IntKind.i64.wrap ((u : Int) + (r : Int)) = (u : Int) + (r : Int) := IntWalk.i64_in _ (by omega)
                obtain ⟨x, hx⟩ : ∃ x, x = Cv.at ⟨zs, P, i⟩ (u + r) := ⟨_, rfl⟩
                obtain ⟨y, hy⟩ : ∃ y, y = Cv.at ⟨zs, P, i⟩ u := ⟨_, rfl⟩
                have hyb : 0 ≤ y ∧ y ≤ 4611686018427387904 := by
                  rw [hy, Cv.at_lt (f := ⟨zs, P, i⟩) (by show u < zs.length; rw [HL.out]; have := HS.out; omega)]
                  exact HV.out u
                have HX := Lib.hid hx; have HY := Lib.hid hy; have HU := Lib.hid hu
                have TN := Lib.hid (show ((u : Int) + (r : Int)).toNat = u + r by omega)
                have e3 : IntKind.i64.wrap (y + st) = y + st := IntWalk.i64_in _ (by omega)
                obtain ⟨bx, hbx⟩ : ∃ bx, (x == y + st) = bx := ⟨_, rfl⟩
                have HBX := Lib.hid hbx
                have hub : u + r ≤ 200000 := by omega
                have hpu : (u : Int) + 1 = (s' : Int) := by omega
                clear hx hy hu hpos
                go_wp2_with fail
                go_region_held3 (fun w' => w'.cell? ⟨w.heap.size, 0, none⟩ = some (.slice A k c) ∧ w'.cell? ⟨w.heap.size, 1, none⟩ = some (.int .i64 P) ∧ w'.cell? ⟨w.heap.size, 2, none⟩ = some (.int .i64 i)) (first | go_keep)
                  (first
                    | (go_at_call_of 48 (Value.int IntKind.i64 ((u : Int) + (r : Int)))
                       refine (refAt_any A k c P i _ zs _ (by exact E.out.ints) (by omega) (by omega) (by omega) hi0 (by omega) HV.out (by omega) (by omega)).mono ?_
                       rw [TN.out, ← HX.out]
                       rintro e wq ⟨rfl, hbq⟩
                       have E := Lib.hid (E.out.below (by first | exact hbq | exact bofdrew hbq))
                       clear hbq
                       clear f0 f1 f2 hlf
                       obtain ⟨f0, f1, f2, hlf⟩ := E.out.cells
                       dsimp only)
                    | (go_at_call_of 48 (Value.int IntKind.i64 (u : Int))
                       refine (refAt_any A k c P i u zs _ (by exact E.out.ints) (by omega) (by omega) (by omega) hi0 (by omega) HV.out (by omega) (by omega)).mono ?_
                       rw [Int.toNat_natCast, ← HY.out]
                       rintro e wq ⟨rfl, hbq⟩
                       have E := Lib.hid (E.out.below (by first | exact hbq | exact bofdrew hbq))
                       clear hbq
                       clear f0 f1 f2 hlf
                       obtain ⟨f0, f1, f2, hlf⟩ := E.out.cells
                       dsimp only))
                all_goals
                  clear hbx e1 e2 e3 d0 d0' hpu
                  cases bx
                  case false =>
                    have hne : x ≠ y + st := by have h := HBX.out; simpa using h
                    go_wp2_with fail
                    go_meet
                    exact ⟨s', rfl, hss, ⟨HGD.out, .inr (by
                      rw [show s' - 1 = u by have := HU.out; omega, ← HX.out, ← HY.out]
                      exact fun e => hne e.symm)⟩, E.out⟩
                  case true =>
                    have heq : x = y + st := by have h := HBX.out; simpa using h
                    have F2 := Lib.hid (show ∀ t, u ≤ t → t < s → Cv.at ⟨zs, P, i⟩ t + st = Cv.at ⟨zs, P, i⟩ (t + r) from fun t h1 h2 => by
                      by_cases e : t = u
                      · rw [e, ← HX.out, ← HY.out]; exact heq.symm
                      · exact HGD.out t (by have := HU.out; omega) h2)
                    have e1 : (s' : Int) - 1 = (u : Int) := by have := HU.out; omega
                    clear heq
                    go_wp2_with fail
                    go_roundg u
                    case measure => have := HU.out; have := HSG.out; omega
                    case rel => exact ⟨u, rfl, rfl, by have := HU.out; omega, F2.out, E.out⟩
          case rest =>
            clear E
            obtain ⟨s', rfl, hss, hgood, hE⟩ := hcut
            have E := Lib.hid hE; have HGD := Lib.hid hgood.out
            clear hE hgood
            obtain ⟨f0, f1, f2, hlf⟩ := E.out.cells
            have OB := Lib.hid (Blk.new wc 46 #[.slice none 0 0, .int .i64 r, .int .i64 st])
            have hO : w.heap.size + 2 ≤ wc.heap.size := by have := E.out.rb.lt; omega
            have NFX := Lib.hid (show LeastS ⟨zs, P, i⟩ ⟨tab (Cv.at ⟨zs, P, i⟩) 0 (s' + r), r, st⟩ from .inr ⟨F.out, by
              have hP' : (Cv.mk zs (P : Int) i).per.toNat = P := Int.toNat_natCast P
              have hs' : (Cv.mk zs (P : Int) i).vals.length - (Cv.mk zs (P : Int) i).per.toNat = s := by rw [hP']; show zs.length - P = s; rw [HL.out, HS.out]
              have H := FL.out.step
              rw [hs', hP'] at H
              have h1 := fun q (h1 : 1 ≤ q) (h2 : q ≤ P) => refT_LT FL.out h1 (by rw [hP']; exact h2)
              rw [hs', hP'] at h1
              have := nf_of (s' := s') (q := r) (by omega) H (fun j hj => by
                rw [Cv.at_lt (f := ⟨zs, P, i⟩) (by show j < zs.length; rw [HL.out]; have := HS.out; omega)]
                exact F.out j (by rw [HL.out]; have := HS.out; omega)) hr1 hrP (.inr ((h1 r hr1 hrP).1 RT.out)) (fun q a b hq => HN2.out q a b ((h1 q a (by omega)).2 hq)) hss
                (by rw [show (Cv.mk zs (P : Int) i).inc * (r : Int) / (P : Int) = st from HST.out]; exact HGD.out.1) (by rw [show (Cv.mk zs (P : Int) i).inc * (r : Int) / (P : Int) = st from HST.out]; exact HGD.out.2)
              rw [show (Cv.mk zs (P : Int) i).inc * (r : Int) / (P : Int) = st from HST.out] at this
              exact this⟩)
            have hTb : s' + r ≤ 100000 := by have := HS.out; omega
            clear RT HGD
            go_wp2_with fail
            clear f0 f1 f2 hlf
            go_loopg [8] (s' + r) (fun gg s8 wx => ∃ (j : Nat) (Am : Option Addr) (cm : Nat), j + gg = s' + r ∧ s8 = .int .i64 j ∧ Blk wx wc.heap.size 46 #[.slice Am j cm, .int .i64 r, .int .i64 st] ∧ Own wx (w.heap.size + 2) (.slice Am j cm) j (tab (Cv.at ⟨zs, P, i⟩) 0 j) ∧ LB w wx A k c P i zs)
            case atStart => exact ⟨0, none, 0, by omega, rfl, OB.out, Own.nil_ _ _, E.out.alloc _⟩
            case round =>
              clear E OB
              obtain ⟨j, Am, cm, hjg, rfl, hob, hown, hE⟩ := hrel
              have E := Lib.hid hE; have OB := Lib.hid hob; have OWN := Lib.hid hown
              clear hE hob hown
              obtain ⟨f0, f1, f2, hlf⟩ := E.out.cells
              obtain ⟨o0, o1, o2⟩ : _ ∧ _ ∧ _ := ⟨OB.out.cell 0, OB.out.cell 1, OB.out.cell 2⟩
              simp at o0 o1 o2
              have y0 := OB.out.frozen 0
              have hlo := OB.out.lt
              by_cases hj : j < s' + r
              · have hji : (j : Int) < (s' : Int) + (r : Int) := by omega
                obtain ⟨x, hx⟩ : ∃ x, x = Cv.at ⟨zs, P, i⟩ j := ⟨_, rfl⟩
                have HX := Lib.hid hx
                have hjb : j ≤ 100000 := by omega
                clear hx
                go_upto_block 7 with fail
                go_cut [] (fun wx => ∃ (A2 : Option Addr) (c2 : Nat), Blk wx wc.heap.size 46 #[.slice A2 (j + 1) c2, .int .i64 r, .int .i64 st] ∧ Own wx (w.heap.size + 2) (.slice A2 (j + 1) c2) (j + 1) (tab (Cv.at ⟨zs, P, i⟩) 0 (j + 1)) ∧ LB w wx A k c P i zs)
                case first =>
                  go_wp2_with fail
                  refine wp_region_held_drew (S := fun w' => w'.cell? ⟨w.heap.size, 0, none⟩ = some (.slice A k c) ∧ w'.cell? ⟨w.heap.size, 1, none⟩ = some (.int .i64 P) ∧ w'.cell? ⟨w.heap.size, 2, none⟩ = some (.int .i64 i)) (by kernel_rfl) ⟨f0, f1, f2⟩ (fun hHeld => ?_)
                  refine wpAnyH_take (i := 0) (oi := _) (v := ?_) (by simp only [g8a, g8z]; rfl) (by kernel_rfl) (by kernel_rfl) (by kernel_rfl) (by exact fun _ _ _ h => h) (Or.inl ⟨by rfl, ?_⟩) (by assumption) ?_
                  rotate_left 1
                  · (intro w hSw; (try dsimp only at hSw); go_simp; try with_reducible rfl)
                  all_goals ((try simp only [Act.put]); try simp only [g8b, g8c, g8d])
                  refine wpAnyH_take (i := 2) (oi := _) (v := ?_) (by simp only [g8a, g8s, g8z]; rfl) (by kernel_rfl) (by kernel_rfl) (by kernel_rfl) (by exact fun _ _ _ h => h) (Or.inl ⟨by rfl, ?_⟩) (by assumption) ?_
                  rotate_left 1
                  · (intro w hSw; (try dsimp only at hSw); go_simp; try with_reducible rfl)
                  all_goals ((try simp only [Act.put]); try simp only [g8b, g8c, g8d])
                  refine wpAnyH_take (i := 3) (oi := _) (v := ?_) (by simp only [g8a, g8s, g8z]; rfl) (by kernel_rfl) (by kernel_rfl) (by kernel_rfl) (by exact fun _ _ _ h => h) (Or.inl ⟨by rfl, ?_⟩) (by assumption) ?_
                  rotate_left 1
                  · (intro w hSw; (try dsimp only at hSw); go_simp; try with_reducible rfl)
                  all_goals ((try simp only [Act.put]); try simp only [g8b, g8c, g8d])
                  refine wpAnyH_ready (rs := [1, 4]) (by kernel_rfl) (by simp) ?_
                  refine (AllReadyH.cons (by simp only [g8a, g8s, g8z]; rfl) (fun K hK => ?_) (AllReadyH.cons (by simp only [g8a, g8s, g8z]; rfl) (fun K hK => ?_) AllReadyH.nil))
                  · rw [if_pos (by rfl)]
                    go_simp
                    refine hK.out _ _ (by exact hHeld) (fun hHeld => ?_)
                    clear hK K
                    (try simp only [Act.put]); try simp only [g8b, g8c, g8d]
                    refine wpAnyH_ready (rs := [4]) (by kernel_rfl) (by simp) ?_
                    refine (AllReadyH.cons (by simp only [g8a, g8s, g8z]; rfl) (fun K hK => ?_) AllReadyH.nil)
                    rw [if_pos (by rfl)]
                    go_simp
                    refine (refAt_any A k c P i j zs _ (by exact E.out.ints) (by omega) (by omega) (by omega) hi0 (by omega) HV.out (by omega) (by omega)).mono ?_
                    rw [Int.toNat_natCast, ← HX.out]
                    rintro e wq ⟨rfl, hbq⟩
                    have hbq := bofdrew hbq
                    have E := Lib.hid (E.out.below hbq)
                    have OB := Lib.hid (OB.out.below hbq OB.out.lt)
                    have OWN := Lib.hid (OWN.out.below hbq (fun g hg => (OWN.out.blk_lt g hg).2))
                    clear hbq o0 o1 o2 y0 hlo hHeld
                    clear f0 f1 f2 hlf
                    obtain ⟨f0, f1, f2, hlf⟩ := E.out.cells
                    obtain ⟨o0, o1, o2⟩ : _ ∧ _ ∧ _ := ⟨OB.out.cell 0, OB.out.cell 1, OB.out.cell 2⟩
                    simp at o0 o1 o2
                    have y0 := OB.out.frozen 0
                    have hlo := OB.out.lt
                    refine hK.out _ _ (by exact ⟨f0, f1, f2⟩) (fun hHeld => ?_)
                    clear hK K
                    (try simp only [Act.put]); try simp only [g8b, g8c, g8d]
                    have hsw := E.out.bw.size
                    have hrl := E.out.rb.lt
                    have hlit := (ints_litC wq [x]).more (B' := wq.heap.size + 1) (by simp)
                    refine wpAnyH_ready (rs := [5]) (by kernel_rfl) (by simp) ?_
                    refine (AllReadyH.cons (by simp only [g8a, g8s, g8z]; rfl) (fun K hK => ?_) AllReadyH.nil)
                    rw [if_pos (by rfl)]
                    go_simp
                    refine hK.out _ _ (by exact ⟨(World.cell?_alloc_lt _ _ _ (by show w.heap.size < wq.heap.size; omega)).trans f0, (World.cell?_alloc_lt _ _ _ (by show w.heap.size < wq.heap.size; omega)).trans f1, (World.cell?_alloc_lt _ _ _ (by show w.heap.size < wq.heap.size; omega)).trans f2⟩) (fun hHeld => ?_)
                    clear hK K
                    (try simp only [Act.put]); try simp only [g8b, g8c, g8d]
                    refine wpAnyH_ready (rs := [6]) (by kernel_rfl) (by simp) ?_
                    refine (AllReadyH.cons (by simp only [g8a, g8s, g8z]; rfl) (fun K hK => ?_) AllReadyH.nil)
                    refine step_app (by rfl) _ _ 29 (by rfl) Try.underlying29 (w.heap.size + 2) (.slice Am j cm) j (tab (Cv.at ⟨zs, P, i⟩) 0 j) (by rfl) (OWN.out.alloc _) (wq.heap.size + 1) (some ⟨wq.heap.size, 0, none⟩) 1 1 [x] (by rfl) hlit (by omega) (by simp; omega) ?_
                    intro v2 w2 own2 grow2 at2
                    have nbO := OWN.out.ne_blk OB.out (by decide)
                    have hb2 : Below (w.heap.size + 2) wq w2 := Below.grown ((Below.refl _ _).alloc (by omega) _) grow2 (by simp; omega) (fun k hk => (OWN.out.blk_lt k hk).1)
                    have ob2 := Blk.grown (OB.out.alloc _) grow2 (fun e => nbO e.symm)
                    have o20 := ob2.cell 0; have y20 := ob2.frozen 0
                    simp at o20
                    have hlo2 := ob2.lt
                    have ints2 : Ints w2 w.heap.size A k zs := E.out.ib.below (hb2.mono (by omega))
                    obtain ⟨A2, c2, rfl, hc2, hI2, hf2⟩ := own2.ints
                    have OB2 := Lib.hid ob2; have OWN2 := Lib.hid own2
                    have E2 := Lib.hid (show LB w w2 A k c P i zs from ⟨E.out.fb.below hb2 (by omega), E.out.rb.below hb2 (by omega), ints2, E.out.bw.trans (hb2.mono (by omega))⟩)
                    have hS2 := E2.out.cells
                    clear at2 own2 hb2 ob2 hI2 hf2 grow2 hlit nbO ints2 hHeld
                    refine hK.out _ _ (by exact ⟨hS2.1, hS2.2.1, hS2.2.2.1⟩) (fun hHeld => ?_)
                    clear hK K
                    (try simp only [Act.put]); try simp only [g8b, g8c, g8d]
                    refine wpAnyH_take (i := 7) (oi := _) (v := ?_) (by simp only [g8a, g8s, g8z]; rfl) (by kernel_rfl) (by kernel_rfl) (by kernel_rfl) (by exact fun _ _ _ h => h) (Or.inl ⟨by rfl, ?_⟩) (by assumption) ?_
                    rotate_left 1
                    · (intro w hSw; (try dsimp only at hSw); go_simp; try with_reducible rfl)
                    all_goals ((try simp only [Act.put]); try simp only [g8b, g8c, g8d])
                    refine wpAnyH_ready (rs := [8]) (by kernel_rfl) (by simp) ?_
                    refine (AllReadyH.cons (by simp only [g8a, g8s, g8z]; rfl) (fun K hK => ?_) AllReadyH.nil)
                    rw [if_pos (by rfl)]
                    go_simp
                    refine hK.out _ _ (by exact ⟨(cell_set1 (by omega)).trans hS2.1, (cell_set1 (by omega)).trans hS2.2.1, (cell_set1 (by omega)).trans hS2.2.2.1⟩) (fun hHeld => ?_)
                    clear hK K
                    (try simp only [Act.put]); try simp only [g8b, g8c, g8d]
                    refine wpAnyH_done (by kernel_rfl) ?_ _
                    go_wp2_with fail
                    go_meet
                    have nb := OWN2.out.ne_blk OB2.out (by decide)
                    have own3 := OWN2.out
                    rw [show tab (Cv.at ⟨zs, P, i⟩) 0 j ++ [x] = tab (Cv.at ⟨zs, P, i⟩) 0 (j + 1) from by
                      refine list_ext (by simp [tab_length]) (fun q hq => ?_)
                      simp [tab_length] at hq
                      rw [nth_append, tab_length, tab_nth _ _ _ _ hq, Nat.zero_add]
                      by_cases hqj : q < j
                      · rw [if_pos hqj, tab_nth _ _ _ _ hqj, Nat.zero_add]
                      · rw [if_neg hqj, show q = j by omega, Nat.sub_self, ← HX.out]; rfl] at own3
                    exact ⟨A2, c2, OB2.out.set_ 0 _, own3.far nb _, E2.out.fb.far (by show w.heap.size ≠ wc.heap.size; omega) _, E2.out.rb.far (by show w.heap.size + 1 ≠ wc.heap.size; omega) _, E2.out.ib.setCell (p := ⟨wc.heap.size, 0, none⟩) (fun b off s e => by
                      obtain ⟨b', off', e', hb', _⟩ := E2.out.ib.2 (by omega)
                      rw [e] at e'; cases e'
                      show b ≠ wc.heap.size
                      omega) _, E2.out.bw.setCell (by show w.heap.size ≤ wc.heap.size; omega) _⟩
                  · rw [if_pos (by rfl)]
                    go_simp
                    refine (refAt_any A k c P i j zs _ (by exact E.out.ints) (by omega) (by omega) (by omega) hi0 (by omega) HV.out (by omega) (by omega)).mono ?_
                    rw [Int.toNat_natCast, ← HX.out]
                    rintro e wq ⟨rfl, hbq⟩
                    have hbq := bofdrew hbq
                    have E := Lib.hid (E.out.below hbq)
                    have OB := Lib.hid (OB.out.below hbq OB.out.lt)
                    have OWN := Lib.hid (OWN.out.below hbq (fun g hg => (OWN.out.blk_lt g hg).2))
                    clear hbq o0 o1 o2 y0 hlo hHeld
                    clear f0 f1 f2 hlf
                    obtain ⟨f0, f1, f2, hlf⟩ := E.out.cells
                    obtain ⟨o0, o1, o2⟩ : _ ∧ _ ∧ _ := ⟨OB.out.cell 0, OB.out.cell 1, OB.out.cell 2⟩
                    simp at o0 o1 o2
                    have y0 := OB.out.frozen 0
                    have hlo := OB.out.lt
                    refine hK.out _ _ (by exact ⟨f0, f1, f2⟩) (fun hHeld => ?_)
                    clear hK K
                    (try simp only [Act.put]); try simp only [g8b, g8c, g8d]
                    refine wpAnyH_ready (rs := [1, 5]) (by kernel_rfl) (by simp) ?_
                    refine (AllReadyH.cons (by simp only [g8a, g8s, g8z]; rfl) (fun K hK => ?_) (AllReadyH.cons (by simp only [g8a, g8s, g8z]; rfl) (fun K hK => ?_) AllReadyH.nil))
                    · rw [if_pos (by rfl)]
                      go_simp
                      refine hK.out _ _ (by exact ⟨f0, f1, f2⟩) (fun hHeld => ?_)
                      clear hK K
                      (try simp only [Act.put]); try simp only [g8b, g8c, g8d]
                      have hsw := E.out.bw.size
                      have hrl := E.out.rb.lt
                      have hlit := (ints_litC wq [x]).more (B' := wq.heap.size + 1) (by simp)
                      refine wpAnyH_ready (rs := [5]) (by kernel_rfl) (by simp) ?_
                      refine (AllReadyH.cons (by simp only [g8a, g8s, g8z]; rfl) (fun K hK => ?_) AllReadyH.nil)
                      rw [if_pos (by rfl)]
                      go_simp
                      refine hK.out _ _ (by exact ⟨(World.cell?_alloc_lt _ _ _ (by show w.heap.size < wq.heap.size; omega)).trans f0, (World.cell?_alloc_lt _ _ _ (by show w.heap.size < wq.heap.size; omega)).trans f1, (World.cell?_alloc_lt _ _ _ (by show w.heap.size < wq.heap.size; omega)).trans f2⟩) (fun hHeld => ?_)
                      clear hK K
                      (try simp only [Act.put]); try simp only [g8b, g8c, g8d]
                      refine wpAnyH_ready (rs := [6]) (by kernel_rfl) (by simp) ?_
                      refine (AllReadyH.cons (by simp only [g8a, g8s, g8z]; rfl) (fun K hK => ?_) AllReadyH.nil)
                      refine step_app (by rfl) _ _ 29 (by rfl) Try.underlying29 (w.heap.size + 2) (.slice Am j cm) j (tab (Cv.at ⟨zs, P, i⟩) 0 j) (by rfl) (OWN.out.alloc _) (wq.heap.size + 1) (some ⟨wq.heap.size, 0, none⟩) 1 1 [x] (by rfl) hlit (by omega) (by simp; omega) ?_
                      intro v2 w2 own2 grow2 at2
                      have nbO := OWN.out.ne_blk OB.out (by decide)
                      have hb2 : Below (w.heap.size + 2) wq w2 := Below.grown ((Below.refl _ _).alloc (by omega) _) grow2 (by simp; omega) (fun k hk => (OWN.out.blk_lt k hk).1)
                      have ob2 := Blk.grown (OB.out.alloc _) grow2 (fun e => nbO e.symm)
                      have o20 := ob2.cell 0; have y20 := ob2.frozen 0
                      simp at o20
                      have hlo2 := ob2.lt
                      have ints2 : Ints w2 w.heap.size A k zs := E.out.ib.below (hb2.mono (by omega))
                      obtain ⟨A2, c2, rfl, hc2, hI2, hf2⟩ := own2.ints
                      have OB2 := Lib.hid ob2; have OWN2 := Lib.hid own2
                      have E2 := Lib.hid (show LB w w2 A k c P i zs from ⟨E.out.fb.below hb2 (by omega), E.out.rb.below hb2 (by omega), ints2, E.out.bw.trans (hb2.mono (by omega))⟩)
                      have hS2 := E2.out.cells
                      clear at2 own2 hb2 ob2 hI2 hf2 grow2 hlit nbO ints2 hHeld
                      refine hK.out _ _ (by exact ⟨hS2.1, hS2.2.1, hS2.2.2.1⟩) (fun hHeld => ?_)
                      clear hK K
                      (try simp only [Act.put]); try simp only [g8b, g8c, g8d]
                      refine wpAnyH_take (i := 7) (oi := _) (v := ?_) (by simp only [g8a, g8s, g8z]; rfl) (by kernel_rfl) (by kernel_rfl) (by kernel_rfl) (by exact fun _ _ _ h => h) (Or.inl ⟨by rfl, ?_⟩) (by assumption) ?_
                      rotate_left 1
                      · (intro w hSw; (try dsimp only at hSw); go_simp; try with_reducible rfl)
                      all_goals ((try simp only [Act.put]); try simp only [g8b, g8c, g8d])
                      refine wpAnyH_ready (rs := [8]) (by kernel_rfl) (by simp) ?_
                      refine (AllReadyH.cons (by simp only [g8a, g8s, g8z]; rfl) (fun K hK => ?_) AllReadyH.nil)
                      rw [if_pos (by rfl)]
                      go_simp
                      refine hK.out _ _ (by exact ⟨(cell_set1 (by omega)).trans hS2.1, (cell_set1 (by omega)).trans hS2.2.1, (cell_set1 (by omega)).trans hS2.2.2.1⟩) (fun hHeld => ?_)
                      clear hK K
                      (try simp only [Act.put]); try simp only [g8b, g8c, g8d]
                      refine wpAnyH_done (by kernel_rfl) ?_ _
                      go_wp2_with fail
                      go_meet
                      have nb := OWN2.out.ne_blk OB2.out (by decide)
                      have own3 := OWN2.out
                      rw [show tab (Cv.at ⟨zs, P, i⟩) 0 j ++ [x] = tab (Cv.at ⟨zs, P, i⟩) 0 (j + 1) from by
                        refine list_ext (by simp [tab_length]) (fun q hq => ?_)
                        simp [tab_length] at hq
                        rw [nth_append, tab_length, tab_nth _ _ _ _ hq, Nat.zero_add]
                        by_cases hqj : q < j
                        · rw [if_pos hqj, tab_nth _ _ _ _ hqj, Nat.zero_add]
                        · rw [if_neg hqj, show q = j by omega, Nat.sub_self, ← HX.out]; rfl] at own3
                      exact ⟨A2, c2, OB2.out.set_ 0 _, own3.far nb _, E2.out.fb.far (by show w.heap.size ≠ wc.heap.size; omega) _, E2.out.rb.far (by show w.heap.size + 1 ≠ wc.heap.size; omega) _, E2.out.ib.setCell (p := ⟨wc.heap.size, 0, none⟩) (fun b off s e => by
                        obtain ⟨b', off', e', hb', _⟩ := E2.out.ib.2 (by omega)
                        rw [e] at e'; cases e'
                        show b ≠ wc.heap.size
                        omega) _, E2.out.bw.setCell (by show w.heap.size ≤ wc.heap.size; omega) _⟩
                    · have hsw := E.out.bw.size
                      have hrl := E.out.rb.lt
                      have hlit := (ints_litC wq [x]).more (B' := wq.heap.size + 1) (by simp)
                      rw [if_pos (by rfl)]
                      go_simp
                      refine hK.out _ _ (by exact ⟨(World.cell?_alloc_lt _ _ _ (by show w.heap.size < wq.heap.size; omega)).trans f0, (World.cell?_alloc_lt _ _ _ (by show w.heap.size < wq.heap.size; omega)).trans f1, (World.cell?_alloc_lt _ _ _ (by show w.heap.size < wq.heap.size; omega)).trans f2⟩) (fun hHeld => ?_)
                      clear hK K
                      (try simp only [Act.put]); try simp only [g8b, g8c, g8d]
                      refine wpAnyH_ready (rs := [1]) (by kernel_rfl) (by simp) ?_
                      refine (AllReadyH.cons (by simp only [g8a, g8s, g8z]; rfl) (fun K hK => ?_) AllReadyH.nil)
                      rw [if_pos (by rfl)]
                      go_simp
                      refine hK.out _ _ (by exact ⟨(World.cell?_alloc_lt _ _ _ (by show w.heap.size < wq.heap.size; omega)).trans f0, (World.cell?_alloc_lt _ _ _ (by show w.heap.size < wq.heap.size; omega)).trans f1, (World.cell?_alloc_lt _ _ _ (by show w.heap.size < wq.heap.size; omega)).trans f2⟩) (fun hHeld => ?_)
                      clear hK K
                      (try simp only [Act.put]); try simp only [g8b, g8c, g8d]
                      refine wpAnyH_ready (rs := [6]) (by kernel_rfl) (by simp) ?_
                      refine (AllReadyH.cons (by simp only [g8a, g8s, g8z]; rfl) (fun K hK => ?_) AllReadyH.nil)
                      refine step_app (by rfl) _ _ 29 (by rfl) Try.underlying29 (w.heap.size + 2) (.slice Am j cm) j (tab (Cv.at ⟨zs, P, i⟩) 0 j) (by rfl) (OWN.out.alloc _) (wq.heap.size + 1) (some ⟨wq.heap.size, 0, none⟩) 1 1 [x] (by rfl) hlit (by omega) (by simp; omega) ?_
                      intro v2 w2 own2 grow2 at2
                      have nbO := OWN.out.ne_blk OB.out (by decide)
                      have hb2 : Below (w.heap.size + 2) wq w2 := Below.grown ((Below.refl _ _).alloc (by omega) _) grow2 (by simp; omega) (fun k hk => (OWN.out.blk_lt k hk).1)
                      have ob2 := Blk.grown (OB.out.alloc _) grow2 (fun e => nbO e.symm)
                      have o20 := ob2.cell 0; have y20 := ob2.frozen 0
                      simp at o20
                      have hlo2 := ob2.lt
                      have ints2 : Ints w2 w.heap.size A k zs := E.out.ib.below (hb2.mono (by omega))
                      obtain ⟨A2, c2, rfl, hc2, hI2, hf2⟩ := own2.ints
                      have OB2 := Lib.hid ob2; have OWN2 := Lib.hid own2
                      have E2 := Lib.hid (show LB w w2 A k c P i zs from ⟨E.out.fb.below hb2 (by omega), E.out.rb.below hb2 (by omega), ints2, E.out.bw.trans (hb2.mono (by omega))⟩)
                      have hS2 := E2.out.cells
                      clear at2 own2 hb2 ob2 hI2 hf2 grow2 hlit nbO ints2 hHeld
                      refine hK.out _ _ (by exact ⟨hS2.1, hS2.2.1, hS2.2.2.1⟩) (fun hHeld => ?_)
                      clear hK K
                      (try simp only [Act.put]); try simp only [g8b, g8c, g8d]
                      refine wpAnyH_take (i := 7) (oi := _) (v := ?_) (by simp only [g8a, g8s, g8z]; rfl) (by kernel_rfl) (by kernel_rfl) (by kernel_rfl) (by exact fun _ _ _ h => h) (Or.inl ⟨by rfl, ?_⟩) (by assumption) ?_
                      rotate_left 1
                      · (intro w hSw; (try dsimp only at hSw); go_simp; try with_reducible rfl)
                      all_goals ((try simp only [Act.put]); try simp only [g8b, g8c, g8d])
                      refine wpAnyH_ready (rs := [8]) (by kernel_rfl) (by simp) ?_
                      refine (AllReadyH.cons (by simp only [g8a, g8s, g8z]; rfl) (fun K hK => ?_) AllReadyH.nil)
                      rw [if_pos (by rfl)]
                      go_simp
                      refine hK.out _ _ (by exact ⟨(cell_set1 (by omega)).trans hS2.1, (cell_set1 (by omega)).trans hS2.2.1, (cell_set1 (by omega)).trans hS2.2.2.1⟩) (fun hHeld => ?_)
                      clear hK K
                      (try simp only [Act.put]); try simp only [g8b, g8c, g8d]
                      refine wpAnyH_done (by kernel_rfl) ?_ _
                      go_wp2_with fail
                      go_meet
                      have nb := OWN2.out.ne_blk OB2.out (by decide)
                      have own3 := OWN2.out
                      rw [show tab (Cv.at ⟨zs, P, i⟩) 0 j ++ [x] = tab (Cv.at ⟨zs, P, i⟩) 0 (j + 1) from by
                        refine list_ext (by simp [tab_length]) (fun q hq => ?_)
                        simp [tab_length] at hq
                        rw [nth_append, tab_length, tab_nth _ _ _ _ hq, Nat.zero_add]
                        by_cases hqj : q < j
                        · rw [if_pos hqj, tab_nth _ _ _ _ hqj, Nat.zero_add]
                        · rw [if_neg hqj, show q = j by omega, Nat.sub_self, ← HX.out]; rfl] at own3
                      exact ⟨A2, c2, OB2.out.set_ 0 _, own3.far nb _, E2.out.fb.far (by show w.heap.size ≠ wc.heap.size; omega) _, E2.out.rb.far (by show w.heap.size + 1 ≠ wc.heap.size; omega) _, E2.out.ib.setCell (p := ⟨wc.heap.size, 0, none⟩) (fun b off s e => by
                        obtain ⟨b', off', e', hb', _⟩ := E2.out.ib.2 (by omega)
                        rw [e] at e'; cases e'
                        show b ≠ wc.heap.size
                        omega) _, E2.out.bw.setCell (by show w.heap.size ≤ wc.heap.size; omega) _⟩
                case rest =>
                  clear E OB OWN
                  obtain ⟨A2, c2, hob, hown, hE⟩ := hcut
                  go_wp2_with fail
                  go_roundg (gk - 1)
                  case measure => omega
                  case rel => exact ⟨j + 1, A2, c2, by omega, by go_num, hob, hown, hE⟩
              · have hjT : j = s' + r := by omega
                have hge : ¬ ((j : Int) < (s' : Int) + (r : Int)) := by omega
                obtain ⟨r0, r1, r2, z0, z1, z2, hlr⟩ := E.out.rcells
                obtain ⟨A2, c2, e', hcc, hI, hge2⟩ := OWN.out.ints
                injection e' with e1 e2 e3
                subst e1 e3
                have HI := Lib.hid hI; have HGE := Lib.hid hge2
                have NF2 := Lib.hid NFX.out
                rw [← hjT] at NF2
                clear hI hge2 hjT hj hjg
                go_wp2_with fail
                have rb := E.out.rb.store3 (.slice Am j cm) (.int .i64 r) (.int .i64 st)
                exact bodyPost_ret (v := .agg #[.slice Am j cm, .int .i64 r, .int .i64 st]) (by simp [results, Try.results101, go_sem, rb.cell]) rfl
                  (retCv_close (g := ⟨tab (Cv.at ⟨zs, P, i⟩) 0 j, r, st⟩) NF2.out hcc HI.out (fun b off s h => HGE.out b off s h) E.out.bw)
end Go.Proofs.Ythdibkmjoiipgaa
