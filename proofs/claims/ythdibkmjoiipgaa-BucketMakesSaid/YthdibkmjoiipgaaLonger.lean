/- What Longer of netcalculuskeep returns. -/
import Derived.Test.YthdibkmjoiipgaaSrc
import Derived.Deep.DeepCutAuto
import Derived.Deep.CutBlock
import Derived.BigRegion
namespace Go.Proofs.Ythdibkmjoiipgaa
open Go.RowKit
set_option linter.unusedVariables false

/-- the call returned the curve g: in memory of its own, or in that of A -/
def RetG (A : Option Addr) (g : Cv) (w : World) (e : Ending) (w' : World) : Prop :=
  ∃ A' n' c', e = .returned (.agg #[.slice A' n' c', .int .i64 g.per, .int .i64 g.inc]) ∧ Ints w' w'.heap.size A' n' g.vals ∧ (A' = A ∨ ∀ b off s, A' = some ⟨b, off, s⟩ → w.heap.size ≤ b) ∧ Below w.heap.size w w'

/-- the same, and the length is at most the capacity where that of A is -/
def RetG2 (A : Option Addr) (n c : Nat) (g : Cv) (w : World) (e : Ending) (w' : World) : Prop :=
  ∃ A' n' c', e = .returned (.agg #[.slice A' n' c', .int .i64 g.per, .int .i64 g.inc]) ∧ Ints w' w'.heap.size A' n' g.vals ∧ (A' = A ∨ ∀ b off s, A' = some ⟨b, off, s⟩ → w.heap.size ≤ b) ∧ Below w.heap.size w w' ∧ (n ≤ c → n' ≤ c')

attribute [local go_sem ↓] app_fold

set_option maxRecDepth 100000 in
set_option maxHeartbeats 2000000 in
theorem longer2_any (A : Option Addr) (n c : Nat) (p i more times : Int) (zs : List Int) (w : World) (hA : Ints w w.heap.size A n zs) (hok : Cv.Ok ⟨zs, p, i⟩)
    (h1 : 0 ≤ more) (h2 : more ≤ 100) (h3 : 1 ≤ times) (h4 : times ≤ 100) :
    Calls Try.prog 89 #[.agg #[.slice A n c, .int .i64 p, .int .i64 i], .int .i64 more, .int .i64 times] w
      fun e w' => ∃ g, LongerS ⟨zs, p, i⟩ more.toNat times.toNat g ∧ RetG2 A n c g w e w' := by
  have hl := hA.1
  have hn1 := hok.n1; have hn4 := hok.n2
  have hp1 := hok.p1; have hp2 := hok.p2; have hpn := hok.pn; have hi1 := hok.i1; have hi2 := hok.i2
  simp only [hl] at hn1 hn4 hpn hp1 hp2 hi1 hi2
  obtain ⟨p, rfl⟩ := Int.eq_ofNat_of_zero_le (show 0 ≤ p by omega)
  obtain ⟨more, rfl⟩ := Int.eq_ofNat_of_zero_le h1
  obtain ⟨times, rfl⟩ := Int.eq_ofNat_of_zero_le (show 0 ≤ times by omega)
  rw [Int.toNat_natCast, Int.toNat_natCast]
  have HOK := Lib.hid hok; clear hok
  have HL := Lib.hid hl; clear hl
  have HA := Lib.hid hA; clear hA
  go_enter Try.func89, Try.ntmps89
  go_wp2_with fail
  have fb := (Blk.new w 46 #[.slice A n c, .int .i64 p, .int .i64 i]).alloc (.cells #[.slice none 0 0, .int .i64 0, .int .i64 0] 46)
  have rb := Blk.new (w.alloc (.cells #[.slice A n c, .int .i64 p, .int .i64 i] 46)) 46 #[.slice none 0 0, .int .i64 0, .int .i64 0]
  simp at rb
  have hA2 := ((HA.out.alloc' (.cells #[.slice A n c, .int .i64 p, .int .i64 i] 46)).alloc' (.cells #[.slice none 0 0, .int .i64 0, .int .i64 0] 46))
  have bw := bthen (balloc w (.cells #[.slice A n c, .int .i64 p, .int .i64 i] 46)) (balloc _ (.cells #[.slice none 0 0, .int .i64 0, .int .i64 0] 46))
  have hsz : w.heap.size + 2 = ((w.alloc (.cells #[.slice A n c, .int .i64 p, .int .i64 i] 46)).alloc (.cells #[.slice none 0 0, .int .i64 0, .int .i64 0] 46)).heap.size := by simp
  have hsz2 := Nat.le_of_eq hsz
  have hsz3 := Nat.le_of_eq hsz.symm
  clear hsz
  generalize ((w.alloc (.cells #[.slice A n c, .int .i64 p, .int .i64 i] 46)).alloc (.cells #[.slice none 0 0, .int .i64 0, .int .i64 0] 46)) = w1 at *
  have q0 := fb.cell 0; have q1 := fb.cell 1; have q2 := fb.cell 2
  simp at q0 q1 q2
  have hlf := fb.lt
  have HFB := Lib.hid fb; have HRB := Lib.hid rb; have HBW := Lib.hid bw; have HA2 := Lib.hid hA2
  clear fb rb bw hA2
  have ob0 := Blk.new (w1.alloc (.cells #[] 3)) 46 #[.slice none 0 0, .int .i64 0, .int .i64 0]
  rw [show (w1.alloc (.cells #[] 3)).heap.size = w1.heap.size + 1 by simp] at ob0
  have OB := Lib.hid ob0; clear ob0
  have oc0 := (Blk.new w1 46 #[.slice none 0 0, .int .i64 0, .int .i64 0]).alloc (.cells #[] 3)
  have OC := Lib.hid oc0; clear oc0
  have oe0 := Own.empty_ (w1.alloc (.cells #[.slice none 0 0, .int .i64 0, .int .i64 0] 46)) (base := w1.heap.size) (by simp)
  rw [show (w1.alloc (.cells #[.slice none 0 0, .int .i64 0, .int .i64 0] 46)).heap.size = w1.heap.size + 1 by simp] at oe0
  have OE := Lib.hid oe0; clear oe0
  go_upto_region 1 with fail
  go_cut [7] (fun s7 wx => ∃ (O : Nat) (A1 : Option Addr) (c1 : Nat), s7 = .pointer (some ⟨O, 0, none⟩) ∧ w1.heap.size ≤ O ∧ Blk wx O 46 #[.slice A1 n c1, .int .i64 p, .int .i64 i] ∧
    Own wx w1.heap.size (.slice A1 n c1) n zs ∧ Below w1.heap.size w1 wx)
  case first =>
    go_region_held3 (fun w' => w'.cell? ⟨w.heap.size, 0, none⟩ = some (.slice A n c) ∧ w'.cell? ⟨w.heap.size, 1, none⟩ = some (.int .i64 p) ∧ w'.cell? ⟨w.heap.size, 2, none⟩ = some (.int .i64 i)) (first | go_keep | (refine ⟨?_, ?_, ?_⟩ <;> (rw [cell_set3 (by omega)]; assumption)))
      (first
        | (refine step_app (by rfl) _ _ 29 (by rfl) Try.underlying29 w1.heap.size (.slice (some ⟨w1.heap.size, 0, none⟩) 0 0) 0 [] (by rfl) ?_ w1.heap.size A n c zs (by rfl) ?_ ?_ ?_ ?_
           · repeat (first | exact Own.empty_ w1 (Nat.le_refl _) | refine Own.drew ?_ | refine Own.alloc ?_ _)
           · repeat (first | exact HA2.out | refine Ints.drew ?_ | refine Ints.alloc ?_ (by simp; try omega) _)
           · omega
           · simp; try omega
           intro v2 w2 own2 grow2 at2
           simp only [Nat.zero_add, List.nil_append] at own2
           have b2 : Below w1.heap.size w1 w2 := by
             refine Below.grown ?_ grow2 ?_ ?_
             · repeat (first | exact Below.refl _ _ | refine Below.drew ?_ | refine Below.alloc ?_ (by simp; try omega) _)
             · simp; try omega
             · intro k hk; simp [Value.ownBlock] at hk; omega
           have q20 := (b2.cell (p := ⟨w.heap.size, 0, none⟩) hlf).trans q0
           have q21 := (b2.cell (p := ⟨w.heap.size, 1, none⟩) hlf).trans q1
           have q22 := (b2.cell (p := ⟨w.heap.size, 2, none⟩) hlf).trans q2
           have hlf2 := Nat.lt_of_lt_of_le hlf b2.size
           obtain ⟨A1, c1, rfl, hc1, hI1, hf1⟩ := own2.ints
           try (have ob := Blk.grown (Blk.drew OB.out) grow2 (by simp [Value.ownBlock]); have o0 := ob.cell 0; have o1 := ob.cell 1; have o2 := ob.cell 2; have y0 := ob.frozen 0; have y1 := ob.frozen 1; have y2 := ob.frozen 2; simp at o0 o1 o2; have hlo := ob.lt)
           have OWN2 := Lib.hid own2; have B2 := Lib.hid b2; have GROW2 := Lib.hid grow2; have HI1 := Lib.hid hI1; have HF1 := Lib.hid hf1
           clear at2 own2 b2 hI1 hf1 grow2)
        | (refine step_app (by rfl) _ _ 29 (by rfl) Try.underlying29 w1.heap.size (.slice (some ⟨w1.heap.size + 1, 0, none⟩) 0 0) 0 [] (by rfl) ?_ w1.heap.size A n c zs (by rfl) ?_ ?_ ?_ ?_
           · repeat (first | exact OE.out | refine Own.drew ?_ | refine Own.alloc ?_ _)
           · repeat (first | exact HA2.out | refine Ints.drew ?_ | refine Ints.alloc ?_ (by simp; try omega) _)
           · omega
           · simp; try omega
           intro v2 w2 own2 grow2 at2
           simp only [Nat.zero_add, List.nil_append] at own2
           have b2 : Below w1.heap.size w1 w2 := by
             refine Below.grown ?_ grow2 ?_ ?_
             · repeat (first | exact Below.refl _ _ | refine Below.drew ?_ | refine Below.alloc ?_ (by simp; try omega) _)
             · simp; try omega
             · intro k hk; simp [Value.ownBlock] at hk; omega
           have q20 := (b2.cell (p := ⟨w.heap.size, 0, none⟩) hlf).trans q0
           have q21 := (b2.cell (p := ⟨w.heap.size, 1, none⟩) hlf).trans q1
           have q22 := (b2.cell (p := ⟨w.heap.size, 2, none⟩) hlf).trans q2
           have hlf2 := Nat.lt_of_lt_of_le hlf b2.size
           obtain ⟨A1, c1, rfl, hc1, hI1, hf1⟩ := own2.ints
           try (have ob := Blk.grown (Blk.drew OC.out) grow2 (by simp [Value.ownBlock]); have o0 := ob.cell 0; have o1 := ob.cell 1; have o2 := ob.cell 2; have y0 := ob.frozen 0; have y1 := ob.frozen 1; have y2 := ob.frozen 2; simp at o0 o1 o2; have hlo := ob.lt)
           have OWN2 := Lib.hid own2; have B2 := Lib.hid b2; have GROW2 := Lib.hid grow2; have HI1 := Lib.hid hI1; have HF1 := Lib.hid hf1
           clear at2 own2 b2 hI1 hf1 grow2))
    all_goals
      go_wp2_with fail
      go_meet
      first
        | exact ⟨_, A1, c1, rfl, B2.out.size, Blk.new _ _ _, OWN2.out.alloc _, B2.out.alloc B2.out.size _⟩
        | (have nb := OWN2.out.ne_blk ob (by decide)
           exact ⟨_, A1, c1, rfl, (by omega), ob.store3 _ _ _, ((OWN2.out.far nb _).far nb _).far nb _, ((B2.out.setCell (by simp) _).setCell (by simp) _).setCell (by simp) _⟩)
  case rest =>
    obtain ⟨O, A1, c1, rfl, hO, ob, own, b1⟩ := hcut
    have hlo := ob.lt
    have hRlt : w.heap.size + 1 < w1.heap.size := by omega
    have fbc := HFB.out.below b1 hlf
    have rbc := HRB.out.below b1 hRlt
    have hsz1 := b1.size
    obtain ⟨b, off, rfl, hb, hc⟩ := (HA2.out.ext b1).2 (by omega)
    have hcl := hc (n - 1) (by omega)
    have hcl' : wc.cell? ⟨b, off + (n - 1), none⟩ = some (.int .i64 (nth zs (n - 1))) := hcl
    clear hc hcl
    have e0 : ((n : Int) == 0) = false := by simp; omega
    have e1 : (n : Int) - 1 = ((n - 1 : Nat) : Int) := by omega
    have e2 : decide ((p : Int) < 1) = false := by simp; omega
    have e3 : decide (n < p) = false := by simp; omega
    have hnn : n - 1 < n := by omega
    obtain ⟨l, hl⟩ : ∃ l, l = nth zs (n - 1) := ⟨_, rfl⟩
    rw [← hl] at hcl'
    have HLAST := Lib.hid hl; clear hl
    have q0 := fbc.cell 0; have q1 := fbc.cell 1; have q2 := fbc.cell 2
    simp at q0 q1 q2
    have r0 := rbc.cell 0; have r1 := rbc.cell 1; have r2 := rbc.cell 2; have z0 := rbc.frozen 0; have z1 := rbc.frozen 1; have z2 := rbc.frozen 2
    simp at r0 r1 r2
    have OB := Lib.hid ob; have OWN := Lib.hid own; have B1 := Lib.hid b1; have FBC := Lib.hid fbc; have RBC := Lib.hid rbc
    clear ob own b1 fbc rbc
    by_cases hli : l = 4611686018427387904
    · have hlb : (l == 4611686018427387904) = true := by simpa using hli
      have fin : LongerS ⟨zs, p, i⟩ more times ⟨zs, p, i⟩ := .inl ⟨by show nth zs (zs.length - 1) = inf; rw [HL.out, ← HLAST.out]; exact hli, rfl⟩
      have F := Lib.hid fin; clear fin hli
      go_wp2_with fail
      have rb5 := RBC.out.store3 (.slice (some ⟨b, off, none⟩) n c) (.int .i64 p) (.int .i64 i)
      have hI := (HA.out.ext HBW.out).ext B1.out
      exact bodyPost_ret (v := .agg #[.slice (some ⟨b, off, none⟩) n c, .int .i64 p, .int .i64 i]) (by simp [results, Try.results89, go_sem, rb5.cell]) rfl
        ⟨_, F.out, _, n, c, rfl, by simpa using ((hI.setCell (p := ⟨w.heap.size + 1, 0, none⟩) (fun b' o s e => by have := (HA.out.2 (by omega)); obtain ⟨b2, o2, e2, h2, _⟩ := this; rw [e] at e2; cases e2; simp; omega) _).setCell (p := ⟨w.heap.size + 1, 1, none⟩) (fun b' o s e => by have := (HA.out.2 (by omega)); obtain ⟨b2, o2, e2, h2, _⟩ := this; rw [e] at e2; cases e2; simp; omega) _).setCell (p := ⟨w.heap.size + 1, 2, none⟩) (fun b' o s e => by have := (HA.out.2 (by omega)); obtain ⟨b2, o2, e2, h2, _⟩ := this; rw [e] at e2; cases e2; simp; omega) _,
          .inl rfl, (((bthen HBW.out B1.out).setCell (by simp) _).setCell (by simp) _).setCell (by simp) _, id⟩
    · have hlb : (l == 4611686018427387904) = false := by simpa using hli
      have hFin : Cv.Fin ⟨zs, p, i⟩ := ⟨HOK.out, by show nth zs (zs.length - 1) ≠ inf; rw [HL.out, ← HLAST.out]; exact hli⟩
      have FIN := Lib.hid hFin; clear hFin hli
      obtain ⟨e, he⟩ : ∃ e : Nat, (times - 1) * p = e := ⟨_, rfl⟩
      have he1 : ((times : Int) - 1) * p = e := by rw [← he, Int.natCast_mul]; congr 1; omega
      have he2 : e ≤ 99 * 120 := by rw [← he]; exact Nat.mul_le_mul (by omega) (by omega)
      have HE := Lib.hid he; clear he
      have htab : zs = tab (Cv.at ⟨zs, p, i⟩) 0 n := eq_tab HL.out (fun j hj => by rw [Nat.zero_add, Cv.at_lt (f := ⟨zs, p, i⟩) (by show j < zs.length; rw [HL.out]; exact hj)])
      have own0 := OWN.out
      rw [htab] at own0
      have OWN0 := Lib.hid own0; clear own0 htab OWN
      go_wp2_with fail
      clear e0 e1 e2 e3 hlb he1
      go_loopg [8] (more + e) (fun g t wr => ∃ (Am : Option Addr) (cm m : Nat), t = .int .i64 (g : Nat) ∧ m + g = n + (more + e) ∧ n ≤ m ∧ Blk wr O 46 #[.slice Am m cm, .int .i64 p, .int .i64 i] ∧
        Own wr w1.heap.size (.slice Am m cm) m (tab (Cv.at ⟨zs, p, i⟩) 0 m) ∧ Below w1.heap.size w1 wr)
      case atStart => exact ⟨A1, c1, n, by go_num, rfl, Nat.le_refl _, OB.out, OWN0.out, B1.out⟩
      case round =>
        clear q0 q1 q2 r0 r1 r2 z0 z1 z2 OB OWN0 B1 FBC RBC hcl' hlo
        obtain ⟨Am, cm, m, rfl, hmg, hmn, ob, own, b1⟩ := hrel
        have hsz1 := b1.size
        have fbc := HFB.out.below b1 hlf
        have rbc := HRB.out.below b1 hRlt
        have q0 := fbc.cell 0; have q1 := fbc.cell 1; have q2 := fbc.cell 2
        simp at q0 q1 q2
        have o0 := ob.cell 0; have o1 := ob.cell 1; have o2 := ob.cell 2; have y0 := ob.frozen 0; have y1 := ob.frozen 1; have y2 := ob.frozen 2
        simp at o0 o1 o2
        have hlo := ob.lt
        have OB := Lib.hid ob; have OWN := Lib.hid own; have B1 := Lib.hid b1; have FBC := Lib.hid fbc
        clear ob own b1 fbc
        by_cases hg : gk = 0
        · subst hg
          have hm : m = n + (more + e) := by omega
          have p1 : (p : Int) * times ≤ 120 * 100 := Int.mul_le_mul hp2 h4 (by omega) (by omega)
          have p0 : 0 ≤ (p : Int) * times := Int.mul_nonneg (by omega) (by omega)
          have i1 : i * (times : Int) ≤ 1073741824 * 100 := Int.mul_le_mul hi2 h4 (by omega) (by omega)
          have i0 : 0 ≤ i * (times : Int) := Int.mul_nonneg hi1 (by omega)
          have fin : LongerS ⟨zs, p, i⟩ more times ⟨tab (Cv.at ⟨zs, p, i⟩) 0 m, (p : Int) * times, i * times⟩ :=
            .inr ⟨FIN.out, rfl, rfl, by rw [show (Cv.mk zs p i).vals.length = n from HL.out, show (Cv.mk zs p i).per.toNat = p from Int.toNat_natCast p, HE.out, ← hm]⟩
          have F := Lib.hid fin
          clear fin hm hmg
          have hlf2 := Nat.lt_of_lt_of_le hlf hsz1
          have r0 := rbc.cell 0; have r1 := rbc.cell 1; have r2 := rbc.cell 2; have z0 := rbc.frozen 0; have z1 := rbc.frozen 1; have z2 := rbc.frozen 2
          simp at r0 r1 r2
          have hne : w.heap.size + 1 ≠ O := by omega
          have hne2 : w.heap.size ≠ O := by omega
          have hlr2 := rbc.lt
          have RBC := Lib.hid rbc; clear rbc
          go_wp2_with fail
          go_region
          all_goals go_wp2_with fail
          all_goals
            have nb := OWN.out.ne_blk OB.out (by decide)
            have hob := fun g hg => (OWN.out.blk_lt g hg).1
            obtain ⟨A', c', e', hcc, hI, _⟩ := OWN.out.ints
            injection e' with e1 e2 e3
            subst e1 e3
            have hnO : ∀ b' off' s, Am = some ⟨b', off', s⟩ → b' ≠ O := fun b' off' s h h2 => nb (by rw [h]; simp [Value.ownBlock, h2])
            have hge : ∀ b' off' s, Am = some ⟨b', off', s⟩ → w1.heap.size ≤ b' := fun b' off' s h => hob b' (by rw [h]; rfl)
            have hnR : ∀ b' off' s, Am = some ⟨b', off', s⟩ → b' ≠ w.heap.size + 1 := fun b' off' s h => by have := hge b' off' s h; omega
            have rb5 := fun x y => ((RBC.out.far (p := ⟨O, 1, none⟩) hne (.int .i64 x)).far (p := ⟨O, 2, none⟩) hne (.int .i64 y)).store3 (.slice Am m cm) (.int .i64 ((p : Int) * times)) (.int .i64 (i * times))
            refine bodyPost_ret (v := .agg #[.slice Am m cm, .int .i64 ((p : Int) * times), .int .i64 (i * times)]) (by simp [results, Try.results89, go_sem, (rb5 _ _).cell]) rfl
              ⟨_, F.out, Am, m, cm, rfl, ?_, .inr (fun b' off' s h => by have := hge b' off' s h; omega), ?_, fun _ => hcc⟩
            · have h5 := ((((hI.setCell (p := ⟨O, 1, none⟩) hnO (.int .i64 ((p : Int) * times))).setCell (p := ⟨O, 2, none⟩) hnO (.int .i64 (i * times))).setCell (p := ⟨w.heap.size + 1, 0, none⟩) hnR (.slice Am m cm)).setCell (p := ⟨w.heap.size + 1, 1, none⟩) hnR (.int .i64 ((p : Int) * times))).setCell (p := ⟨w.heap.size + 1, 2, none⟩) hnR (.int .i64 (i * times))
              simpa using h5.drew
            · have bw := bthen HBW.out B1.out
              exact (((((bw.setCell (by simp; omega) _).setCell (by simp; omega) _).setCell (by simp) _).setCell (by simp) _).setCell (by simp) _).drew
        · go_upto_block 1 with fail
          go_cut [] (fun wx => ∃ (A' : Option Addr) (c' : Nat), Blk wx O 46 #[.slice A' (m + 1) c', .int .i64 p, .int .i64 i] ∧
            Own wx w1.heap.size (.slice A' (m + 1) c') (m + 1) (tab (Cv.at ⟨zs, p, i⟩) 0 (m + 1)) ∧ Below w1.heap.size w1 wx)
          case first =>
            obtain ⟨A', c', e', hcc, hI, _⟩ := OWN.out.ints
            injection e' with e1 e2 e3
            subst e1 e3
            obtain ⟨b2, off2, rfl, hb2, hc2⟩ := hI.2 (by omega)
            obtain ⟨j, hj⟩ : ∃ j, m = j + p := ⟨m - p, by omega⟩
            have hcj := hc2 j (by omega)
            rw [tab_nth _ _ _ _ (by omega), Nat.zero_add] at hcj
            have hstep : Cv.at ⟨zs, p, i⟩ m = Cv.at ⟨zs, p, i⟩ j + i := by
              rw [hj]
              have := FIN.out.step (t := j) (by show zs.length ≤ j + (p : Int).toNat; rw [HL.out, Int.toNat_natCast]; omega)
              rw [show (Cv.mk zs p i).per.toNat = p from Int.toNat_natCast p] at this
              exact this
            have hbd := FIN.out.at_bd j
            obtain ⟨x, hx⟩ : ∃ x, x = Cv.at ⟨zs, p, i⟩ j := ⟨_, rfl⟩
            rw [← hx] at hcj hstep hbd
            have w1' : IntKind.i64.wrap ((m : Int) - p) = (j : Int) := by rw [IntWalk.i64_in _ (by omega)]; omega
            have w2' : IntKind.i64.wrap (x + i) = x + i := IntWalk.i64_in _ (by omega)
            have hj0 : 0 ≤ (j : Int) := by omega
            have hj1 : (j : Int) < m := by omega
            have hj2 : j < m := by omega
            have HX := Lib.hid hx; have HSTEP := Lib.hid hstep; have HJ := Lib.hid hj; have HII := Lib.hid hI
            clear hx hstep hj hc2 hI
            have nbO := OWN.out.ne_blk OB.out (by decide)
            have nbF := OWN.out.ne_blk FBC.out (by decide)
            have hob := fun g hg => (OWN.out.blk_lt g hg).1
            have HOB := Lib.hid hob; clear hob
            have NBO := Lib.hid nbO; have NBF := Lib.hid nbF; clear nbO nbF
            have hlf2 := Nat.lt_of_lt_of_le hlf hsz1
            have hlit := (ints_lit wr [x + i]).more (B' := wr.heap.size + 1) (by simp)
            obtain ⟨v2, w2, hrun, own2, grow2, at2⟩ := run_appSem (w := (wr.alloc (.cells #[.int .i64 (x + i)] 3)).drew) (base := w1.heap.size) (OWN.out.alloc _).drew 1 (A := some ⟨wr.heap.size, 0, none⟩) (m := 1) (zs := [x + i]) hlit (by omega) (by simp; omega)
            have b2' : Below w1.heap.size w1 w2 := Below.grown (B1.out.alloc hsz1 _).drew grow2 (by simp; omega) (fun k hk => HOB.out k hk)
            have ob2 := Blk.grown (Blk.drew (OB.out.alloc _)) grow2 (fun e => NBO.out e.symm)
            have fb2 := Blk.grown (Blk.drew (FBC.out.alloc _)) grow2 (fun e => NBF.out e.symm)
            have o20 := ob2.cell 0; have y20 := ob2.frozen 0
            simp at o20
            have hlo2 := ob2.lt
            obtain ⟨A2, c2, rfl, hc2, hI2, hf2⟩ := own2.ints
            have OB2 := Lib.hid ob2; have OWN2 := Lib.hid own2; have B2 := Lib.hid b2'
            clear at2 own2 b2' ob2 fb2 hI2 hf2 grow2 hlit
            go_wp2_with fail
            go_region
            all_goals
              go_wp2_with fail
              go_meet
              have nb := OWN2.out.ne_blk OB2.out (by decide)
              have hls : tab (Cv.at ⟨zs, p, i⟩) 0 m ++ [x + i] = tab (Cv.at ⟨zs, p, i⟩) 0 (m + 1) := by
                refine list_ext (by simp [tab_length]) (fun k hk => ?_)
                simp [tab_length] at hk
                rw [nth_append, tab_length, tab_nth _ _ _ _ hk, Nat.zero_add]
                by_cases hkm : k < m
                · rw [if_pos hkm, tab_nth _ _ _ _ hkm, Nat.zero_add]
                · rw [if_neg hkm, show k = m by omega, Nat.sub_self, HSTEP.out]; rfl
              have own3 := OWN2.out
              rw [hls] at own3
              exact ⟨A2, c2, OB2.out.set_ 0 _, own3.far nb _, B2.out.setCell hO _⟩
          case rest =>
            obtain ⟨A', c', ob, own, b1⟩ := hcut
            go_wp2_with fail
            go_roundg (gk - 1)
            case measure => omega
            case rel => exact ⟨A', c', m + 1, by go_num, by omega, by omega, ob, own, b1⟩
theorem longer_any (A : Option Addr) (n c : Nat) (p i more times : Int) (zs : List Int) (w : World) (hA : Ints w w.heap.size A n zs) (hok : Cv.Ok ⟨zs, p, i⟩)
    (h1 : 0 ≤ more) (h2 : more ≤ 100) (h3 : 1 ≤ times) (h4 : times ≤ 100) :
    Calls Try.prog 89 #[.agg #[.slice A n c, .int .i64 p, .int .i64 i], .int .i64 more, .int .i64 times] w
      fun e w' => ∃ g, LongerS ⟨zs, p, i⟩ more.toNat times.toNat g ∧ RetG A g w e w' :=
  (longer2_any A n c p i more times zs w hA hok h1 h2 h3 h4).mono fun _ _ ⟨g, hg, A', n', c', h1, h2, h3, h4, _⟩ => ⟨g, hg, A', n', c', h1, h2, h3, h4⟩
end Go.Proofs.Ythdibkmjoiipgaa
