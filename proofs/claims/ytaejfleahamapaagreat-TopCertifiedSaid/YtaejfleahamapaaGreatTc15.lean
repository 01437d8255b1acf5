/- What Curve of netcalculuskeep returns: some drawn curve. -/
import Derived.Deep.DeepCutAuto
import Derived.Deep.CutBlock
import Derived.BigRegion
import Derived.Deep.RegionHeld3
import Derived.Test.YtaejfleahamapaaGreatTc5
import Derived.Test.YtaejfleahamapaaGreatTc1
namespace Go.Proofs.YtaejfleahamapaaGreat
open Go.RowKit
set_option linter.unusedVariables false

def RetG2 (A : Option Addr) (n c : Nat) (g : Cv) (w : World) (e : Ending) (w' : World) : Prop :=
  ∃ A' n' c', e = .returned (.agg #[.slice A' n' c', .int .i64 g.per, .int .i64 g.inc]) ∧ Ints w' w'.heap.size A' n' g.vals ∧ (A' = A ∨ ∀ b off s, A' = some ⟨b, off, s⟩ → w.heap.size ≤ b) ∧ Below w.heap.size w w' ∧ (n ≤ c → n' ≤ c')

attribute [local go_sem ↓] app_fold

set_option maxRecDepth 100000 in
set_option maxHeartbeats 2000000 in
theorem longer2_any (A : Option Addr) (n c : Nat) (p i more times : Int) (zs : List Int) (w : World) (hA : Ints w w.heap.size A n zs) (hok : Cv.Ok ⟨zs, p, i⟩)
    (h1 : 0 ≤ more) (h2 : more ≤ 100) (h3 : 1 ≤ times) (h4 : times ≤ 100) :
    Calls Tryz.prog 93 #[.agg #[.slice A n c, .int .i64 p, .int .i64 i], .int .i64 more, .int .i64 times] w
      fun e w' => ∃ g, LongerS ⟨zs, p, i⟩ more.toNat times.toNat g ∧ RetG2 A n c g w e w' := by
  have hl := hA.1
  have hn1 := hok.n1; have hn4 := hok.n2
  have hp1 := hok.p1; have hp2 := hok.p2; have hpn := hok.pn; have hi1 := hok.i1; have hi2 := hok.i2
  simp only [hl] at hn1 hn4 hpn hp1 hp2 hi1 hi2
  obtain ⟨p, rfl⟩ := Int.eq_ofNat_of_zero_le (show 0 ≤ p by omega)
  obtain ⟨more, rfl⟩ := Int.eq_ofNat_of_zero_le h1
  obtain ⟨times, rfl⟩ := Int.eq_ofNat_of_zero_le (show 0 ≤ times by omega)
  rw [Int.toNat_natCast, Int.toNat_natCast]
  have HOK := Lib.hid hok; clear hok
  have HL := Lib.hid hl; clear hl
  have HA := Lib.hid hA; clear hA
  go_enter Tryz.func93, Tryz.ntmps93
  go_wp2_with fail
  have fb := (Blk.new w 26 #[.slice A n c, .int .i64 p, .int .i64 i]).alloc (.cells #[.slice none 0 0, .int .i64 0, .int .i64 0] 26)
  have rb := Blk.new (w.alloc (.cells #[.slice A n c, .int .i64 p, .int .i64 i] 26)) 26 #[.slice none 0 0, .int .i64 0, .int .i64 0]
  simp at rb
  have hA2 := ((HA.out.alloc' (.cells #[.slice A n c, .int .i64 p, .int .i64 i] 26)).alloc' (.cells #[.slice none 0 0, .int .i64 0, .int .i64 0] 26))
  have bw := bthen (balloc w (.cells #[.slice A n c, .int .i64 p, .int .i64 i] 26)) (balloc _ (.cells #[.slice none 0 0, .int .i64 0, .int .i64 0] 26))
  have hsz : w.heap.size + 2 = ((w.alloc (.cells #[.slice A n c, .int .i64 p, .int .i64 i] 26)).alloc (.cells #[.slice none 0 0, .int .i64 0, .int .i64 0] 26)).heap.size := by simp
  have hsz2 := Nat.le_of_eq hsz
  have hsz3 := Nat.le_of_eq hsz.symm
  clear hsz
  generalize ((w.alloc (.cells #[.slice A n c, .int .i64 p, .int .i64 i] 26)).alloc (.cells #[.slice none 0 0, .int .i64 0, .int .i64 0] 26)) = w1 at *
  have q0 := fb.cell 0; have q1 := fb.cell 1; have q2 := fb.cell 2
  simp at q0 q1 q2
  have hlf := fb.lt
  have HFB := Lib.hid fb; have HRB := Lib.hid rb; have HBW := Lib.hid bw; have HA2 := Lib.hid hA2
  clear fb rb bw hA2
  have ob0 := Blk.new (w1.alloc (.cells #[] 3)) 26 #[.slice none 0 0, .int .i64 0, .int .i64 0]
  rw [show (w1.alloc (.cells #[] 3)).heap.size = w1.heap.size + 1 by simp] at ob0
  have OB := Lib.hid ob0; clear ob0
  have oc0 := (Blk.new w1 26 #[.slice none 0 0, .int .i64 0, .int .i64 0]).alloc (.cells #[] 3)
  have OC := Lib.hid oc0; clear oc0
  have oe0 := Own.empty_ (w1.alloc (.cells #[.slice none 0 0, .int .i64 0, .int .i64 0] 26)) (base := w1.heap.size) (by simp)
  rw [show (w1.alloc (.cells #[.slice none 0 0, .int .i64 0, .int .i64 0] 26)).heap.size = w1.heap.size + 1 by simp] at oe0
  have OE := Lib.hid oe0; clear oe0
  go_upto_region 1 with fail
  go_cut [7] (fun s7 wx => ∃ (O : Nat) (A1 : Option Addr) (c1 : Nat), s7 = .pointer (some ⟨O, 0, none⟩) ∧ w1.heap.size ≤ O ∧ Blk wx O 26 #[.slice A1 n c1, .int .i64 p, .int .i64 i] ∧
    Own wx w1.heap.size (.slice A1 n c1) n zs ∧ Below w1.heap.size w1 wx)
  case first =>
    go_region_held3 (fun w' => w'.cell? ⟨w.heap.size, 0, none⟩ = some (.slice A n c) ∧ w'.cell? ⟨w.heap.size, 1, none⟩ = some (.int .i64 p) ∧ w'.cell? ⟨w.heap.size, 2, none⟩ = some (.int .i64 i)) (first | go_keep | (refine ⟨?_, ?_, ?_⟩ <;> (rw [cell_set3 (by omega)]; assumption)))
      (first
        | (refine step_app (by rfl) _ _ 22 (by rfl) Tryz.underlying22 w1.heap.size (.slice (some ⟨w1.heap.size, 0, none⟩) 0 0) 0 [] (by rfl) ?_ w1.heap.size A n c zs (by rfl) ?_ ?_ ?_ ?_
           · repeat (first | exact Own.empty_ w1 (Nat.le_refl _) | refine Own.drew ?_ | refine Own.alloc ?_ _)
           · repeat (first | exact HA2.out | refine Ints.drew ?_ | refine Ints.alloc ?_ (by simp; try omega) _)
           · omega
           · simp; try omega
           intro v2 w2 own2 grow2 at2
           simp only [Nat.zero_add, List.nil_append] at own2
           have b2 : Below w1.heap.size w1 w2 := by
             refine Below.grown ?_ grow2 ?_ ?_
             · repeat (first | exact Below.refl _ _ | refine Below.drew ?_ | refine Below.alloc ?_ (by simp; try omega) _)
             · simp; try omega
             · intro k hk; simp [Value.ownBlock] at hk; omega
           have q20 := (b2.cell (p := ⟨w.heap.size, 0, none⟩) hlf).trans q0
           have q21 := (b2.cell (p := ⟨w.heap.size, 1, none⟩) hlf).trans q1
           have q22 := (b2.cell (p := ⟨w.heap.size, 2, none⟩) hlf).trans q2
           have hlf2 := Nat.lt_of_lt_of_le hlf b2.size
           obtain ⟨A1, c1, rfl, hc1, hI1, hf1⟩ := own2.ints
           try (have ob := Blk.grown (Blk.drew OB.out) grow2 (by simp [Value.ownBlock]); have o0 := ob.cell 0; have o1 := ob.cell 1; have o2 := ob.cell 2; have y0 := ob.frozen 0; have y1 := ob.frozen 1; have y2 := ob.frozen 2; simp at o0 o1 o2; have hlo := ob.lt)
           have OWN2 := Lib.hid own2; have B2 := Lib.hid b2; have GROW2 := Lib.hid grow2; have HI1 := Lib.hid hI1; have HF1 := Lib.hid hf1
           clear at2 own2 b2 hI1 hf1 grow2)
        | (refine step_app (by rfl) _ _ 22 (by rfl) Tryz.underlying22 w1.heap.size (.slice (some ⟨w1.heap.size + 1, 0, none⟩) 0 0) 0 [] (by rfl) ?_ w1.heap.size A n c zs (by rfl) ?_ ?_ ?_ ?_
           · repeat (first | exact OE.out | refine Own.drew ?_ | refine Own.alloc ?_ _)
           · repeat (first | exact HA2.out | refine Ints.drew ?_ | refine Ints.alloc ?_ (by simp; try omega) _)
           · omega
           · simp; try omega
           intro v2 w2 own2 grow2 at2
           simp only [Nat.zero_add, List.nil_append] at own2
           have b2 : Below w1.heap.size w1 w2 := by
             refine Below.grown ?_ grow2 ?_ ?_
             · repeat (first | exact Below.refl _ _ | refine Below.drew ?_ | refine Below.alloc ?_ (by simp; try omega) _)
             · simp; try omega
             · intro k hk; simp [Value.ownBlock] at hk; omega
           have q20 := (b2.cell (p := ⟨w.heap.size, 0, none⟩) hlf).trans q0
           have q21 := (b2.cell (p := ⟨w.heap.size, 1, none⟩) hlf).trans q1
           have q22 := (b2.cell (p := ⟨w.heap.size, 2, none⟩) hlf).trans q2
           have hlf2 := Nat.lt_of_lt_of_le hlf b2.size
           obtain ⟨A1, c1, rfl, hc1, hI1, hf1⟩ := own2.ints
           try (have ob := Blk.grown (Blk.drew OC.out) grow2 (by simp [Value.ownBlock]); have o0 := ob.cell 0; have o1 := ob.cell 1; have o2 := ob.cell 2; have y0 := ob.frozen 0; have y1 := ob.frozen 1; have y2 := ob.frozen 2; simp at o0 o1 o2; have hlo := ob.lt)
           have OWN2 := Lib.hid own2; have B2 := Lib.hid b2; have GROW2 := Lib.hid grow2; have HI1 := Lib.hid hI1; have HF1 := Lib.hid hf1
           clear at2 own2 b2 hI1 hf1 grow2))
    all_goals
      go_wp2_with fail
      go_meet
      first
        | exact ⟨_, A1, c1, rfl, B2.out.size, Blk.new _ _ _, OWN2.out.alloc _, B2.out.alloc B2.out.size _⟩
        | (have nb := OWN2.out.ne_blk ob (by decide)
           exact ⟨_, A1, c1, rfl, (by omega), ob.store3 _ _ _, ((OWN2.out.far nb _).far nb _).far nb _, ((B2.out.setCell (by simp) _).setCell (by simp) _).setCell (by simp) _⟩)
  case rest =>
    obtain ⟨O, A1, c1, rfl, hO, ob, own, b1⟩ := hcut
    have hlo := ob.lt
    have hRlt : w.heap.size + 1 < w1.heap.size := by omega
    have fbc := HFB.out.below b1 hlf
    have rbc := HRB.out.below b1 hRlt
    have hsz1 := b1.size
    obtain ⟨b, off, rfl, hb, hc⟩ := (HA2.out.ext b1).2 (by omega)
    have hcl := hc (n - 1) (by omega)
    have hcl' : wc.cell? ⟨b, off + (n - 1), none⟩ = some (.int .i64 (nth zs (n - 1))) := hcl
    clear hc hcl
    have e0 : ((n : Int) == 0) = false := by simp; omega
    have e1 : (n : Int) - 1 = ((n - 1 : Nat) : Int) := by omega
    have e2 : decide ((p : Int) < 1) = false := by simp; omega
    have e3 : decide (n < p) = false := by simp; omega
    have hnn : n - 1 < n := by omega
    obtain ⟨l, hl⟩ : ∃ l, l = nth zs (n - 1) := ⟨_, rfl⟩
    rw [← hl] at hcl'
    have HLAST := Lib.hid hl; clear hl
    have q0 := fbc.cell 0; have q1 := fbc.cell 1; have q2 := fbc.cell 2
    simp at q0 q1 q2
    have r0 := rbc.cell 0; have r1 := rbc.cell 1; have r2 := rbc.cell 2; have z0 := rbc.frozen 0; have z1 := rbc.frozen 1; have z2 := rbc.frozen 2
    simp at r0 r1 r2
    have OB := Lib.hid ob; have OWN := Lib.hid own; have B1 := Lib.hid b1; have FBC := Lib.hid fbc; have RBC := Lib.hid rbc
    clear ob own b1 fbc rbc
    by_cases hli : l = 4611686018427387904
    · have hlb : (l == 4611686018427387904) = true := by simpa using hli
      have fin : LongerS ⟨zs, p, i⟩ more times ⟨zs, p, i⟩ := .inl ⟨by show nth zs (zs.length - 1) = inf; rw [HL.out, ← HLAST.out]; exact hli, rfl⟩
      have F := Lib.hid fin; clear fin hli
      go_wp2_with fail
      have rb5 := RBC.out.store3 (.slice (some ⟨b, off, none⟩) n c) (.int .i64 p) (.int .i64 i)
      have hI := (HA.out.ext HBW.out).ext B1.out
      exact bodyPost_ret (v := .agg #[.slice (some ⟨b, off, none⟩) n c, .int .i64 p, .int .i64 i]) (by simp [results, Tryz.results93, go_sem, rb5.cell]) rfl
        ⟨_, F.out, _, n, c, rfl, by simpa using ((hI.setCell (p := ⟨w.heap.size + 1, 0, none⟩) (fun b' o s e => by have := (HA.out.2 (by omega)); obtain ⟨b2, o2, e2, h2, _⟩ := this; rw [e] at e2; cases e2; simp; omega) _).setCell (p := ⟨w.heap.size + 1, 1, none⟩) (fun b' o s e => by have := (HA.out.2 (by omega)); obtain ⟨b2, o2, e2, h2, _⟩ := this; rw [e] at e2; cases e2; simp; omega) _).setCell (p := ⟨w.heap.size + 1, 2, none⟩) (fun b' o s e => by have := (HA.out.2 (by omega)); obtain ⟨b2, o2, e2, h2, _⟩ := this; rw [e] at e2; cases e2; simp; omega) _,
          .inl rfl, (((bthen HBW.out B1.out).setCell (by simp) _).setCell (by simp) _).setCell (by simp) _, id⟩
    · have hlb : (l == 4611686018427387904) = false := by simpa using hli
      have hFin : Cv.Fin ⟨zs, p, i⟩ := ⟨HOK.out, by show nth zs (zs.length - 1) ≠ inf; rw [HL.out, ← HLAST.out]; exact hli⟩
      have FIN := Lib.hid hFin; clear hFin hli
      obtain ⟨e, he⟩ : ∃ e : Nat, (times - 1) * p = e := ⟨_, rfl⟩
      have he1 : ((times : Int) - 1) * p = e := by rw [← he, Int.natCast_mul]; congr 1; omega
      have he2 : e ≤ 99 * 120 := by rw [← he]; exact Nat.mul_le_mul (by omega) (by omega)
      have HE := Lib.hid he; clear he
      have htab : zs = tab (Cv.at ⟨zs, p, i⟩) 0 n := eq_tab HL.out (fun j hj => by rw [Nat.zero_add, Cv.at_lt (f := ⟨zs, p, i⟩) (by show j < zs.length; rw [HL.out]; exact hj)])
      have own0 := OWN.out
      rw [htab] at own0
      have OWN0 := Lib.hid own0; clear own0 htab OWN
      go_wp2_with fail
      clear e0 e1 e2 e3 hlb he1
      go_loopg [8] (more + e) (fun g t wr => ∃ (Am : Option Addr) (cm m : Nat), t = .int .i64 (g : Nat) ∧ m + g = n + (more + e) ∧ n ≤ m ∧ Blk wr O 26 #[.slice Am m cm, .int .i64 p, .int .i64 i] ∧
        Own wr w1.heap.size (.slice Am m cm) m (tab (Cv.at ⟨zs, p, i⟩) 0 m) ∧ Below w1.heap.size w1 wr)
      case atStart => exact ⟨A1, c1, n, by go_num, rfl, Nat.le_refl _, OB.out, OWN0.out, B1.out⟩
      case round =>
        clear q0 q1 q2 r0 r1 r2 z0 z1 z2 OB OWN0 B1 FBC RBC hcl' hlo
        obtain ⟨Am, cm, m, rfl, hmg, hmn, ob, own, b1⟩ := hrel
        have hsz1 := b1.size
        have fbc := HFB.out.below b1 hlf
        have rbc := HRB.out.below b1 hRlt
        have q0 := fbc.cell 0; have q1 := fbc.cell 1; have q2 := fbc.cell 2
        simp at q0 q1 q2
        have o0 := ob.cell 0; have o1 := ob.cell 1; have o2 := ob.cell 2; have y0 := ob.frozen 0; have y1 := ob.frozen 1; have y2 := ob.frozen 2
        simp at o0 o1 o2
        have hlo := ob.lt
        have OB := Lib.hid ob; have OWN := Lib.hid own; have B1 := Lib.hid b1; have FBC := Lib.hid fbc
        clear ob own b1 fbc
        by_cases hg : gk = 0
        · subst hg
          have hm : m = n + (more + e) := by omega
          have p1 : (p : Int) * times ≤ 120 * 100 := Int.mul_le_mul hp2 h4 (by omega) (by omega)
          have p0 : 0 ≤ (p : Int) * times := Int.mul_nonneg (by omega) (by omega)
          have i1 : i * (times : Int) ≤ 1073741824 * 100 := Int.mul_le_mul hi2 h4 (by omega) (by omega)
          have i0 : 0 ≤ i * (times : Int) := Int.mul_nonneg hi1 (by omega)
          have fin : LongerS ⟨zs, p, i⟩ more times ⟨tab (Cv.at ⟨zs, p, i⟩) 0 m, (p : Int) * times, i * times⟩ :=
            .inr ⟨FIN.out, rfl, rfl, by rw [show (Cv.mk zs p i).vals.length = n from HL.out, show (Cv.mk zs p i).per.toNat = p from Int.toNat_natCast p, HE.out, ← hm]⟩
          have F := Lib.hid fin
          clear fin hm hmg
          have hlf2 := Nat.lt_of_lt_of_le hlf hsz1
          have r0 := rbc.cell 0; have r1 := rbc.cell 1; have r2 := rbc.cell 2; have z0 := rbc.frozen 0; have z1 := rbc.frozen 1; have z2 := rbc.frozen 2
          simp at r0 r1 r2
          have hne : w.heap.size + 1 ≠ O := by omega
          have hne2 : w.heap.size ≠ O := by omega
          have hlr2 := rbc.lt
          have RBC := Lib.hid rbc; clear rbc
          go_wp2_with fail
          go_region
          all_goals go_wp2_with fail
          all_goals
            have nb := OWN.out.ne_blk OB.out (by decide)
            have hob := fun g hg => (OWN.out.blk_lt g hg).1
            obtain ⟨A', c', e', hcc, hI, _⟩ := OWN.out.ints
            injection e' with e1 e2 e3
            subst e1 e3
            have hnO : ∀ b' off' s, Am = some ⟨b', off', s⟩ → b' ≠ O := fun b' off' s h h2 => nb (by rw [h]; simp [Value.ownBlock, h2])
            have hge : ∀ b' off' s, Am = some ⟨b', off', s⟩ → w1.heap.size ≤ b' := fun b' off' s h => hob b' (by rw [h]; rfl)
            have hnR : ∀ b' off' s, Am = some ⟨b', off', s⟩ → b' ≠ w.heap.size + 1 := fun b' off' s h => by have := hge b' off' s h; omega
            have rb5 := fun x y => ((RBC.out.far (p := ⟨O, 1, none⟩) hne (.int .i64 x)).far (p := ⟨O, 2, none⟩) hne (.int .i64 y)).store3 (.slice Am m cm) (.int .i64 ((p : Int) * times)) (.int .i64 (i * times))
            refine bodyPost_ret (v := .agg #[.slice Am m cm, .int .i64 ((p : Int) * times), .int .i64 (i * times)]) (by simp [results, Tryz.results93, go_sem, (rb5 _ _).cell]) rfl
              ⟨_, F.out, Am, m, cm, rfl, ?_, .inr (fun b' off' s h => by have := hge b' off' s h; omega), ?_, fun _ => hcc⟩
            · have h5 := ((((hI.setCell (p := ⟨O, 1, none⟩) hnO (.int .i64 ((p : Int) * times))).setCell (p := ⟨O, 2, none⟩) hnO (.int .i64 (i * times))).setCell (p := ⟨w.heap.size + 1, 0, none⟩) hnR (.slice Am m cm)).setCell (p := ⟨w.heap.size + 1, 1, none⟩) hnR (.int .i64 ((p : Int) * times))).setCell (p := ⟨w.heap.size + 1, 2, none⟩) hnR (.int .i64 (i * times))
              simpa using h5.drew
            · have bw := bthen HBW.out B1.out
              exact (((((bw.setCell (by simp; omega) _).setCell (by simp; omega) _).setCell (by simp) _).setCell (by simp) _).setCell (by simp) _).drew
        · go_upto_block 1 with fail
          go_cut [] (fun wx => ∃ (A' : Option Addr) (c' : Nat), Blk wx O 26 #[.slice A' (m + 1) c', .int .i64 p, .int .i64 i] ∧
            Own wx w1.heap.size (.slice A' (m + 1) c') (m + 1) (tab (Cv.at ⟨zs, p, i⟩) 0 (m + 1)) ∧ Below w1.heap.size w1 wx)
          case first =>
            obtain ⟨A', c', e', hcc, hI, _⟩ := OWN.out.ints
            injection e' with e1 e2 e3
            subst e1 e3
            obtain ⟨b2, off2, rfl, hb2, hc2⟩ := hI.2 (by omega)
            obtain ⟨j, hj⟩ : ∃ j, m = j + p := ⟨m - p, by omega⟩
            have hcj := hc2 j (by omega)
            rw [tab_nth _ _ _ _ (by omega), Nat.zero_add] at hcj
            have hstep : Cv.at ⟨zs, p, i⟩ m = Cv.at ⟨zs, p, i⟩ j + i := by
              rw [hj]
              have := FIN.out.step (t := j) (by show zs.length ≤ j + (p : Int).toNat; rw [HL.out, Int.toNat_natCast]; omega)
              rw [show (Cv.mk zs p i).per.toNat = p from Int.toNat_natCast p] at this
              exact this
            have hbd := FIN.out.at_bd j
            obtain ⟨x, hx⟩ : ∃ x, x = Cv.at ⟨zs, p, i⟩ j := ⟨_, rfl⟩
            rw [← hx] at hcj hstep hbd
            have w1' : IntKind.i64.wrap ((m : Int) - p) = (j : Int) := by rw [IntWalk.i64_in _ (by omega)]; omega
            have w2' : IntKind.i64.wrap (x + i) = x + i := IntWalk.i64_in _ (by omega)
            have hj0 : 0 ≤ (j : Int) := by omega
            have hj1 : (j : Int) < m := by omega
            have hj2 : j < m := by omega
            have HX := Lib.hid hx; have HSTEP := Lib.hid hstep; have HJ := Lib.hid hj; have HII := Lib.hid hI
            clear hx hstep hj hc2 hI
            have nbO := OWN.out.ne_blk OB.out (by decide)
            have nbF := OWN.out.ne_blk FBC.out (by decide)
            have hob := fun g hg => (OWN.out.blk_lt g hg).1
            have HOB := Lib.hid hob; clear hob
            have NBO := Lib.hid nbO; have NBF := Lib.hid nbF; clear nbO nbF
            have hlf2 := Nat.lt_of_lt_of_le hlf hsz1
            have hlit := (ints_lit wr [x + i]).more (B' := wr.heap.size + 1) (by simp)
            obtain ⟨v2, w2, hrun, own2, grow2, at2⟩ := run_appSem (w := (wr.alloc (.cells #[.int .i64 (x + i)] 3)).drew) (base := w1.heap.size) (OWN.out.alloc _).drew 1 (A := some ⟨wr.heap.size, 0, none⟩) (m := 1) (zs := [x + i]) hlit (by omega) (by simp; omega)
            have b2' : Below w1.heap.size w1 w2 := Below.grown (B1.out.alloc hsz1 _).drew grow2 (by simp; omega) (fun k hk => HOB.out k hk)
            have ob2 := Blk.grown (Blk.drew (OB.out.alloc _)) grow2 (fun e => NBO.out e.symm)
            have fb2 := Blk.grown (Blk.drew (FBC.out.alloc _)) grow2 (fun e => NBF.out e.symm)
            have o20 := ob2.cell 0; have y20 := ob2.frozen 0
            simp at o20
            have hlo2 := ob2.lt
            obtain ⟨A2, c2, rfl, hc2, hI2, hf2⟩ := own2.ints
            have OB2 := Lib.hid ob2; have OWN2 := Lib.hid own2; have B2 := Lib.hid b2'
            clear at2 own2 b2' ob2 fb2 hI2 hf2 grow2 hlit
            go_wp2_with fail
            go_region
            all_goals
              go_wp2_with fail
              go_meet
              have nb := OWN2.out.ne_blk OB2.out (by decide)
              have hls : tab (Cv.at ⟨zs, p, i⟩) 0 m ++ [x + i] = tab (Cv.at ⟨zs, p, i⟩) 0 (m + 1) := by
                refine list_ext (by simp [tab_length]) (fun k hk => ?_)
                simp [tab_length] at hk
                rw [nth_append, tab_length, tab_nth _ _ _ _ hk, Nat.zero_add]
                by_cases hkm : k < m
                · rw [if_pos hkm, tab_nth _ _ _ _ hkm, Nat.zero_add]
                · rw [if_neg hkm, show k = m by omega, Nat.sub_self, HSTEP.out]; rfl
              have own3 := OWN2.out
              rw [hls] at own3
              exact ⟨A2, c2, OB2.out.set_ 0 _, own3.far nb _, B2.out.setCell hO _⟩
          case rest =>
            obtain ⟨A', c', ob, own, b1⟩ := hcut
            go_wp2_with fail
            go_roundg (gk - 1)
            case measure => omega
            case rel => exact ⟨A', c', m + 1, by go_num, by omega, by omega, ob, own, b1⟩
end Go.Proofs.YtaejfleahamapaaGreat

namespace Go.Proofs.YtaejfleahamapaaGreat
open Go.RowKit
set_option linter.unusedVariables false

def RetD2 (S : Cv → Prop) (p : Nat) (w : World) (e : Ending) (w' : World) : Prop :=
  ∃ (f : Cv) (A : Option Addr) (n c : Nat), S f ∧ n ≤ c ∧ e = .returned (.agg #[.slice A n c, .int .i64 f.per, .int .i64 f.inc]) ∧ Ints w' w'.heap.size A n f.vals ∧ (∀ b off s, A = some ⟨b, off, s⟩ → w.heap.size ≤ b) ∧ SrcAt w' p ∧ Kept w.heap.size p w w'
theorem cell_set_off {w : World} {g o o' : Nat} {x : Value} (h : o' ≠ o) : (w.setCell ⟨g, o', none⟩ x).cell? ⟨g, o, none⟩ = w.cell? ⟨g, o, none⟩ :=
  World.cell?_setCell_other _ _ _ _ (fun e => by injection e with e1 e2; exact h e2)

theorem retD_close {S : Cv → Prop} {p : Nat} {w w1 : World} {A : Option Addr} {n c : Nat} {zs : List Int} {per inc : Int} {x y z : Value} (hS : S ⟨zs, per, inc⟩) (hc : n ≤ c) (hI : Ints w1 w1.heap.size A n zs) (hge : ∀ b off s, A = some ⟨b, off, s⟩ → w.heap.size < b)
    (hs : SrcAt w1 p) (hp : p < w.heap.size) (hk : Kept w.heap.size p w w1) :
    RetD2 S p w (.returned (.agg #[.slice A n c, .int .i64 per, .int .i64 inc])) (((w1.setCell ⟨w.heap.size, 0, none⟩ x).setCell ⟨w.heap.size, 1, none⟩ y).setCell ⟨w.heap.size, 2, none⟩ z) :=
  ⟨⟨zs, per, inc⟩, A, n, c, hS, hc, rfl, by
    simpa using (((hI.setCell (fun b off s h => by have := hge b off s h; simp; omega) _).setCell (fun b off s h => by have := hge b off s h; simp; omega) _).setCell (fun b off s h => by have := hge b off s h; simp; omega) _),
    (fun b off s h => by have := hge b off s h; omega), ((hs.far (by simpa using hp) _).far (by simpa using hp) _).far (by simpa using hp) _, ((hk.setCell (.inr (by simp)) _).setCell (.inr (by simp)) _).setCell (.inr (by simp)) _⟩

attribute [local go_sem ↓] app_fold

set_option maxRecDepth 100000 in
set_option maxHeartbeats 4000000 in
theorem srcCurve2_any (p : Nat) (most : Int) (w : World) (hS : SrcAt w p) (hm1 : 1 ≤ most) (hm2 : most ≤ 12) :
    Calls Tryz.prog 38 #[.pointer (some ⟨p, 0, none⟩), .int .i64 most] w (RetD2 (DrawC most.toNat) p w) := by
  have hpl := hS.lt
  go_enter Tryz.func38, Tryz.ntmps38
  go_wp2_with fail
  refine (n_any p most _ (hS.alloc _) hm1 (by omega)).mono ?_
  rintro e w2 ⟨x, hx0, hx1, rfl, hS2, hk2⟩
  have rb2 := (Blk.new w 26 #[.slice none 0 0, .int .i64 0, .int .i64 0]).kept (by omega) hk2
  have kb2 : Kept w.heap.size p w w2 := kthen (Kept.of (balloc _ _)) hk2
  clear hk2 hS
  obtain ⟨n, hn⟩ : ∃ n : Nat, (n : Int) = 1 + x := ⟨(1 + x).toNat, by omega⟩
  have hn' : 1 + x = (n : Int) := hn.symm
  have hn1 : 1 ≤ n := by omega
  have hnm : (n : Int) ≤ most := by omega
  clear hn
  have K2 := Lib.hid kb2; have S2 := Lib.hid hS2; have R2 := Lib.hid rb2
  have hR2 := rb2.lt
  clear kb2 hS2 rb2
  go_upto_region 2 with fail
  go_cut [6] (fun s6 wx => ∃ (F : Nat) (y : Int), s6 = .pointer (some ⟨F, 0, none⟩) ∧ w.heap.size < F ∧ 1 ≤ y ∧ y ≤ 4 ∧ y ≤ n ∧ Blk wx F 26 #[.slice none 0 0, .int .i64 y, .int .i64 0] ∧
    Blk wx w.heap.size 26 #[.slice none 0 0, .int .i64 0, .int .i64 0] ∧ SrcAt wx p ∧ Kept w.heap.size p w wx)
  case first =>
    clear hn'
    by_cases h4 : n ≤ 4
    all_goals
      go_wp2_with fail
      refine (n_any p _ _ S2.out (by omega) (by omega)).mono ?_
      rintro e w3 ⟨y, hy0, hy1, rfl, hS3, hk3⟩
      have R3 := Lib.hid (R2.out.kept (by omega) hk3)
      have K3 := Lib.hid (kthen K2.out hk3); have S3 := Lib.hid hS3
      have hsz3 := hk3.size
      clear hk3 hS3
      go_wp2_with fail
      go_meet
      exact ⟨_, 1 + y, rfl, by omega, by omega, by omega, by omega, Blk.new _ _ _, R3.out.alloc _, S3.out.alloc _, K3.out.alloc (by omega) _⟩
  case rest =>
    obtain ⟨F, y, rfl, hRF, hy1, hy2, hy3, fb, rb, hS, hk⟩ := hcut
    have hlF := fb.lt
    have hpF : F ≠ p := by omega
    have FB := Lib.hid fb; have RB := Lib.hid rb; have SS := Lib.hid hS; have KK := Lib.hid hk
    clear fb rb hS hk K2 S2 R2
    go_wp2_with fail
    refine (pick_any p _ 4 4 [0, 0, 0, 3] _ (SS.out.alloc _) (by exact ints_lit wc [0, 0, 0, 3]) (fun b off s e => by cases e; have := SS.out.lt; omega) (by omega) (by omega)).mono ?_
    rintro e w3 ⟨⟨j, hj, rfl⟩, hS3, hk3⟩
    have hv := (show ∀ j, j < 4 → 0 ≤ nth [0, 0, 0, 3] j ∧ nth [0, 0, 0, 3] j ≤ 3 by decide) j hj
    generalize nth [0, 0, 0, 3] j = v at *
    have fb3 := (FB.out.alloc _).kept hpF hk3
    have rb3 := (RB.out.alloc _).kept (by omega) hk3
    have kk3 := KK.out.trans ((Kept.of (balloc _ _)).mono KK.out.size |>.trans (hk3.mono (by have := KK.out.size; simp; omega)))
    have FB3 := Lib.hid fb3; have RB3 := Lib.hid rb3; have SS3 := Lib.hid hS3; have KK3 := Lib.hid kk3
    have hl3 := fb3.lt
    clear fb3 rb3 hS3 kk3 hk3 FB RB SS KK hj
    go_wp2_with fail
    go_loopg [7, 8] n (fun g s7 s8 wr => ∃ (Am : Option Addr) (cm k : Nat) (u : Int) (zs : List Int), k + g = n ∧ s8 = .int .i64 (k : Nat) ∧ s7 = .int .i64 u ∧ 0 ≤ u ∧ u ≤ 3 + 9 * k ∧ Hid (Rise zs u) ∧
      Blk wr F 26 #[.slice Am k cm, .int .i64 y, .int .i64 0] ∧ Own wr w.heap.size (.slice Am k cm) k zs ∧ Blk wr w.heap.size 26 #[.slice none 0 0, .int .i64 0, .int .i64 0] ∧ SrcAt wr p ∧ Kept w.heap.size p w wr)
    case atStart => exact ⟨none, 0, 0, v, [], by omega, rfl, rfl, by omega, by omega, Rise.nil _, FB3.out, Own.nil_ _ _, RB3.out, SS3.out, KK3.out⟩
    case round =>
      clear FB3 RB3 SS3 KK3 hl3 hv
      obtain ⟨Am, cm, k, u, zs, hkg, rfl, rfl, hu0, hu1, hrise, fb, own, rb, hS, hk⟩ := hrel
      have hl3 := fb.lt
      have hSl := hS.lt
      have hksz := hk.size
      by_cases hlt : k < n
      · have hlit := (ints_lit wr [u]).more (B' := wr.heap.size + 1) (by simp)
        obtain ⟨v2, w4, hrun, own2, grow2, at2⟩ := run_appSem (w := wr.alloc (.cells #[.int .i64 u] 3)) (base := w.heap.size) (own.alloc _) 1 (A := some ⟨wr.heap.size, 0, none⟩) (m := 1) (zs := [u]) hlit (by omega) (by simp; omega)
        have nbF := own.ne_blk fb (by decide)
        have nbR := own.ne_blk rb (by decide)
        have hrow : ∀ g, (Value.slice Am k cm).ownBlock = some g → w.heap.size ≤ g := fun g hg => (own.blk_lt g hg).1
        have b4 : Below w.heap.size wr w4 := ((balloc wr _).mono hksz).trans ((Below.refl _ _).grown grow2 (by simp; omega) hrow)
        have fb4 := Blk.grown (fb.alloc _) grow2 (fun e => nbF e.symm)
        have rb4 := Blk.grown (rb.alloc _) grow2 (fun e => nbR e.symm)
        have S4 := hS.below b4 hpl
        have kk4 := hk.trans (Kept.of b4)
        obtain ⟨A2, c2, rfl, hc2, hI2, hf2⟩ := own2.ints
        have nbF2 := own2.ne_blk fb4 (by decide)
        have o0 := fb.cell 0; have f0 := fb4.cell 0; have y0 := fb4.frozen 0
        simp at o0 f0
        have hlF4 := fb4.lt
        have FB := Lib.hid (fb4.set_ 0 (.slice A2 (k + 1) c2)); have OWN := Lib.hid (own2.far (p := ⟨F, 0, none⟩) nbF2 (.slice A2 (k + 1) c2)); have RB := Lib.hid (rb4.far (p := ⟨F, 0, none⟩) (by simp; omega) (.slice A2 (k + 1) c2))
        have SS := Lib.hid (S4.far (a := ⟨F, 0, none⟩) (by simp; omega) (.slice A2 (k + 1) c2)); have KK := Lib.hid (kk4.setCell (a := ⟨F, 0, none⟩) (.inr (by simp; omega)) (.slice A2 (k + 1) c2))
        have HSZ := Lib.hid b4.size
        clear fb rb hS hk own own2 grow2 at2 b4 fb4 rb4 S4 kk4 hI2 hf2 nbF nbR nbF2 hrow hlit
        go_wp2_with fail
        refine (pick_any p _ 6 6 [0, 0, 1, 2, 5, 9] _ (SS.out.alloc _) (by exact ints_lit' _ [0, 0, 1, 2, 5, 9] _ (by simp)) (fun b off s e => by cases e; have := SS.out.lt; simp at this; omega) (by omega) (by omega)).mono ?_
        rintro e w6 ⟨⟨j, hj, rfl⟩, hS6, hk6⟩
        have hv := (show ∀ j, j < 6 → 0 ≤ nth [0, 0, 1, 2, 5, 9] j ∧ nth [0, 0, 1, 2, 5, 9] j ≤ 9 by decide) j hj
        generalize nth [0, 0, 1, 2, 5, 9] j = d at *
        have fb6 := (FB.out.alloc _).kept hpF hk6
        have rb6 := (RB.out.alloc _).kept (by omega) hk6
        have own6 := (OWN.out.alloc _).kept (p := p) (fun e => by have := (OWN.out.blk_lt p e).1; omega) hk6
        have kk6 := KK.out.trans ((Kept.of ((balloc _ _).mono KK.out.size)).trans (hk6.mono (by have := KK.out.size; simp at this ⊢; omega)))
        simp at fb6
        have FB6 := Lib.hid fb6; have RB6 := Lib.hid rb6; have OWN6 := Lib.hid own6; have KK6 := Lib.hid kk6; have SS6 := Lib.hid hS6
        clear fb6 rb6 own6 kk6 hS6 hk6 FB RB SS KK OWN hj
        go_wp2_with fail
        go_roundg (gk - 1)
        case measure => omega
        case rel => exact ⟨A2, c2, k + 1, u + d, zs ++ [u], by omega, by go_num, rfl, by omega, by omega, hrise.out.snoc hu0 (by omega) (by omega), FB6.out, OWN6.out, RB6.out, SS6.out, KK6.out⟩
      · have hkn : k = n := by omega
        clear hlt hkg
        subst hkn
        obtain ⟨py, rfl⟩ := Int.eq_ofNat_of_zero_le (show 0 ≤ y by omega)
        obtain ⟨A', c', e', hcc, hI, hge⟩ := own.ints
        injection e' with e1 e2 e3
        subst e1 e3
        have hzl := own.len
        obtain ⟨b2, off2, rfl, hb2, hc2⟩ := hI.2 (by omega)
        have hbw := hge b2 off2 none rfl
        have hc1 := hc2 (k - 1) (by omega)
        have hc3 := hc2 (k - py) (by omega)
        have hz1 := hrise.out.z (k - 1) (by omega)
        have hz3 := hrise.out.z (k - py) (by omega)
        obtain ⟨j1, hj1⟩ : ∃ j, j = k - 1 := ⟨_, rfl⟩
        obtain ⟨j3, hj3⟩ : ∃ j, j = k - py := ⟨_, rfl⟩
        obtain ⟨x1, hx1⟩ : ∃ x, x = nth zs (k - 1) := ⟨_, rfl⟩
        obtain ⟨x3, hx3⟩ : ∃ x, x = nth zs (k - py) := ⟨_, rfl⟩
        rw [← hx1] at hc1 hz1
        rw [← hx3] at hc3 hz3
        rw [← hj1] at hc1
        rw [← hj3] at hc3
        have w1' : IntKind.i64.wrap ((k : Int) - 1) = (j1 : Int) := by rw [IntWalk.i64_in _ (by omega)]; omega
        have w3' : IntKind.i64.wrap ((k : Int) - py) = (j3 : Int) := by rw [IntWalk.i64_in _ (by omega)]; omega
        have w5' : IntKind.i64.wrap (x1 - x3) = x1 - x3 := IntWalk.i64_in _ (by omega)
        have hj1a : 0 ≤ (j1 : Int) := by omega
        have hj1b : (j1 : Int) < k := by omega
        have hj3a : 0 ≤ (j3 : Int) := by omega
        have hj3b : (j3 : Int) < k := by omega
        have o0 := fb.cell 0; have o1 := fb.cell 1; have o2 := fb.cell 2
        simp at o0 o1 o2
        have hbp : b2 ≠ p := by omega
        have HC2 := Lib.hid hc2; have HX := Lib.hid (And.intro hx1 hx3); have HJ := Lib.hid (And.intro hj1 hj3); have HZL := Lib.hid hzl; have HI := Lib.hid hI
        have FB := Lib.hid fb; have OWN := Lib.hid own; have RB := Lib.hid rb; have SS := Lib.hid hS; have KK := Lib.hid hk
        clear hc2 hx1 hx3 hj1 hj3 hzl hI hge fb own rb hS hk
        go_upto_region 9 with fail
        go_cut [] (fun wx => ∃ d : Int, 0 ≤ d ∧ d ≤ 8 ∧ Blk wx F 26 #[.slice (some ⟨b2, off2, none⟩) k cm, .int .i64 py, .int .i64 (x1 - x3 + d)] ∧ Own wx w.heap.size (.slice (some ⟨b2, off2, none⟩) k cm) k zs ∧
          Blk wx w.heap.size 26 #[.slice none 0 0, .int .i64 0, .int .i64 0] ∧ SrcAt wx p ∧ Kept w.heap.size p w wx)
        case first =>
          have hL2 := Nat.lt_of_lt_of_le hb2 (Nat.le_refl _)
          go_region_held3 (fun w' => w'.cell? ⟨F, 0, none⟩ = some (.slice (some ⟨b2, off2, none⟩) k cm) ∧ w'.cell? ⟨F, 1, none⟩ = some (.int .i64 py) ∧ w'.cell? ⟨b2, off2 + j1, none⟩ = some (.int .i64 x1) ∧ w'.cell? ⟨b2, off2 + j3, none⟩ = some (.int .i64 x3)) (first | go_keep | (refine ⟨?_, ?_, ?_, ?_⟩ <;> first | (rw [cell_set_off (by omega)]; assumption) | (rw [cell_set1 (by omega)]; assumption)))
            (first
              | (go_at_call 59
                 refine (pick_any p _ 6 6 [0, 0, 1, 3, 4, 8] _ (by first | exact SS.out.alloc _ | (refine SrcAt.drew ?_; exact SS.out.alloc _)) (by first | exact ints_lit' _ [0, 0, 1, 3, 4, 8] _ (by simp) | (refine Ints.drew ?_; exact ints_lit' _ [0, 0, 1, 3, 4, 8] _ (by simp))) (fun b off s e => by cases e; omega) (by omega) (by omega)).mono ?_
                 rintro e w6 ⟨⟨j, hj, rfl⟩, hS6, hk6⟩
                 have hv := (show ∀ j, j < 6 → 0 ≤ nth [0, 0, 1, 3, 4, 8] j ∧ nth [0, 0, 1, 3, 4, 8] j ≤ 8 by decide) j hj
                 generalize nth [0, 0, 1, 3, 4, 8] j = d at *
                 have w6' : IntKind.i64.wrap (x1 - x3 + d) = x1 - x3 + d := IntWalk.i64_in _ (by omega)
                 have fb6 := (Blk.drew (FB.out.alloc _)).kept hpF hk6
                 have rb6 := (Blk.drew (RB.out.alloc _)).kept (by omega) hk6
                 have own6 := (Own.drew (OWN.out.alloc _)).kept (p := p) (fun e => by have := (OWN.out.blk_lt p e).1; omega) hk6
                 have kk6 := KK.out.trans ((Kept.of ((balloc _ _).mono hksz)).trans ((kofdrew hk6).mono (by simp; omega)))
                 have r61 := (World.cell?_of_block (a := ⟨b2, off2 + j1, none⟩) (hk6.block b2 (by simp; omega) hbp)).trans ((World.cell?_alloc_lt wr _ ⟨b2, off2 + j1, none⟩ hb2).trans hc1)
                 have r63 := (World.cell?_of_block (a := ⟨b2, off2 + j3, none⟩) (hk6.block b2 (by simp; omega) hbp)).trans ((World.cell?_alloc_lt wr _ ⟨b2, off2 + j3, none⟩ hb2).trans hc3)
                 have f60 := fb6.cell 0; have f61 := fb6.cell 1; have f62 := fb6.cell 2; have y60 := fb6.frozen 2
                 simp at f60 f61 f62
                 have hbF : b2 ≠ F := fun e => own6.ne_blk fb6 (by decide) (by simp [Value.ownBlock, e])
                 have hlF6 := fb6.lt
                 have FB6 := Lib.hid fb6; have RB6 := Lib.hid rb6; have OWN6 := Lib.hid own6; have KK6 := Lib.hid kk6; have SS6 := Lib.hid hS6
                 clear fb6 rb6 own6 kk6 hS6 hk6))
          all_goals
            go_wp2_with fail
            go_meet
            exact ⟨d, hv.1, hv.2, FB6.out.set_ 2 _, OWN6.out.far (p := ⟨F, 2, none⟩) (by simp [Value.ownBlock, hbF]) _, RB6.out.far (p := ⟨F, 2, none⟩) (by simp; omega) _, SS6.out.far (a := ⟨F, 2, none⟩) (by simp; omega) _, KK6.out.setCell (a := ⟨F, 2, none⟩) (.inr (by simp; omega)) _⟩
        case rest =>
          clear FB OWN RB SS KK HI HC2 o0 o1 o2 hc1 hc3 w1' w3' w5' hb2
          obtain ⟨d, hd0, hd1, fb, own, rb, hS, hk⟩ := hcut
          have hpFl := fb.lt
          go_wp2_with fail
          refine (n_any p 8 _ hS (by omega) (by omega)).mono ?_
          rintro e w7 ⟨x7, hx0, hx7, rfl, hS7, hk7⟩
          have fb7 := fb.kept hpF hk7
          have rb7 := rb.kept (by omega) hk7
          have own7 := own.kept (p := p) (fun e => by have := (own.blk_lt p e).1; omega) hk7
          have kk7 := hk.trans (hk7.mono hk.size)
          have f70 := fb7.cell 0; have f71 := fb7.cell 1; have f72 := fb7.cell 2; have y70 := fb7.frozen 0; have y71 := fb7.frozen 1; have y72 := fb7.frozen 2
          simp at f70 f71 f72
          have r70 := rb7.cell 0; have r71 := rb7.cell 1; have r72 := rb7.cell 2; have z70 := rb7.frozen 0; have z71 := rb7.frozen 1; have z72 := rb7.frozen 2
          simp at r70 r71 r72
          have hlF7 := fb7.lt; have hlR7 := rb7.lt
          have hbF : b2 ≠ F := fun e => own7.ne_blk fb7 (by decide) (by simp [Value.ownBlock, e])
          have hRF' : w.heap.size ≠ F := by omega
          have FB7 := Lib.hid fb7; have RB7 := Lib.hid rb7; have OWN7 := Lib.hid own7; have KK7 := Lib.hid kk7; have SS7 := Lib.hid hS7
          clear fb rb own hS hk fb7 rb7 own7 kk7 hS7 hk7
          have hmost : (k : Int) ≤ (most.toNat : Int) := by omega
          have hi : x1 - x3 + d = nth zs (zs.length - 1) - nth zs (zs.length - (py : Int).toNat) + d := by rw [HZL.out, Int.toNat_natCast, ← HX.out.1, ← HX.out.2]
          have HI9 := Lib.hid hi; clear hi
          by_cases c0 : x7 = 0
          · have b0 : (x7 == 0) = true := by simpa using c0
            have hd : DrawC most.toNat ⟨zs ++ [inf], 1, 0⟩ := draw_inf hrise.out (by rw [HZL.out]; omega) (by omega) (v := u) (by omega)
            have HD := Lib.hid hd; clear hd c0
            have hlit := (ints_lit w7 [inf]).more (B' := w7.heap.size + 1) (by simp)
            obtain ⟨v2, w8, hrun, own8, grow8, at8⟩ := run_appSem (w := w7.alloc (.cells #[.int .i64 4611686018427387904] 3)) (base := w.heap.size) (OWN7.out.alloc _) 1 (A := some ⟨w7.heap.size, 0, none⟩) (m := 1) (zs := [inf]) hlit (by omega) (by have := KK7.out.size; simp; omega)
            have nbF := OWN7.out.ne_blk FB7.out (by decide)
            have nbR := OWN7.out.ne_blk RB7.out (by decide)
            have hrow : ∀ g, (Value.slice (some ⟨b2, off2, none⟩) k cm).ownBlock = some g → w.heap.size ≤ g := fun g hg => (OWN7.out.blk_lt g hg).1
            have b8 : Below w.heap.size w7 w8 := ((balloc w7 _).mono KK7.out.size).trans ((Below.refl _ _).grown grow8 (by have := KK7.out.size; simp; omega) hrow)
            have fb8 := Blk.grown (FB7.out.alloc _) grow8 (fun e => nbF e.symm)
            have rb8 := Blk.grown (RB7.out.alloc _) grow8 (fun e => nbR e.symm)
            obtain ⟨A2, c2, rfl, hc2, hI8, hf8⟩ := own8.ints
            have nbF8 := own8.ne_blk fb8 (by decide)
            have nbR8 := own8.ne_blk rb8 (by decide)
            have f80 := fb8.cell 0; have f81 := fb8.cell 1; have f82 := fb8.cell 2; have y80 := fb8.frozen 0; have y81 := fb8.frozen 1; have y82 := fb8.frozen 2
            simp at f80 f81 f82
            have r80 := rb8.cell 0; have r81 := rb8.cell 1; have r82 := rb8.cell 2; have z80 := rb8.frozen 0; have z81 := rb8.frozen 1; have z82 := rb8.frozen 2
            simp at r80 r81 r82
            have hlF8 := fb8.lt; have hlR8 := rb8.lt
            have SS8 := Lib.hid (SS7.out.below b8 hpl); have KK8 := Lib.hid (KK7.out.trans (Kept.of b8))
            have FB8 := Lib.hid fb8; have RB8 := Lib.hid rb8; have HI8 := Lib.hid hI8; have HF8 := Lib.hid hf8; have NB := Lib.hid (And.intro nbF8 nbR8)
            clear fb8 rb8 hI8 hf8 nbF nbR nbF8 nbR8 hrow b8 own8 grow8 at8 hlit
            go_wp2_with fail
            have fbz := FB8.out.store3 (.slice A2 (k + 1) c2) (.int .i64 1) (.int .i64 0)
            have rb9 := (((RB8.out.far (p := ⟨F, 0, none⟩) hRF' (.slice A2 (k + 1) c2)).far (p := ⟨F, 1, none⟩) hRF' (.int .i64 1)).far (p := ⟨F, 2, none⟩) hRF' (.int .i64 0)).store3 (.slice A2 (k + 1) c2) (.int .i64 1) (.int .i64 0)
            have hnF : ∀ b off s, A2 = some ⟨b, off, s⟩ → b ≠ F := fun b off s h e => NB.out.1 (by rw [h]; simp [Value.ownBlock, e])
            have hnR : ∀ b off s, A2 = some ⟨b, off, s⟩ → w.heap.size < b := fun b off s h => by
              have h1 := HF8.out b off s h
              have h2 := NB.out.2
              rw [h] at h2
              simp [Value.ownBlock] at h2
              omega
            have hI9 := ((HI8.out.setCell (p := ⟨F, 0, none⟩) hnF (.slice A2 (k + 1) c2)).setCell (p := ⟨F, 1, none⟩) hnF (.int .i64 1)).setCell (p := ⟨F, 2, none⟩) hnF (.int .i64 0)
            have hI10 : Ints (((w8.setCell ⟨F, 0, none⟩ (.slice A2 (k + 1) c2)).setCell ⟨F, 1, none⟩ (.int .i64 1)).setCell ⟨F, 2, none⟩ (.int .i64 0)) (((w8.setCell ⟨F, 0, none⟩ (.slice A2 (k + 1) c2)).setCell ⟨F, 1, none⟩ (.int .i64 1)).setCell ⟨F, 2, none⟩ (.int .i64 0)).heap.size A2 (k + 1) (zs ++ [inf]) := by simpa using hI9
            exact bodyPost_ret (v := .agg #[.slice A2 (k + 1) c2, .int .i64 1, .int .i64 0]) (by simp [results, Tryz.results38, go_sem, rb9.cell]) rfl
              (retD_close HD.out (by omega) hI10 hnR (((SS8.out.far (a := ⟨F, 0, none⟩) (by simp; omega) _).far (a := ⟨F, 1, none⟩) (by simp; omega) _).far (a := ⟨F, 2, none⟩) (by simp; omega) _) hpl
                (((KK8.out.setCell (a := ⟨F, 0, none⟩) (.inr (by simp; omega)) _).setCell (a := ⟨F, 1, none⟩) (.inr (by simp; omega)) _).setCell (a := ⟨F, 2, none⟩) (.inr (by simp; omega)) _))
          · by_cases c1 : x7 = 1
            · have b0 : (x7 == 0) = false := by simpa using c0
              have b1 : (x7 == 1) = true := by simpa using c1
              clear c0 c1
              have hokf : Cv.Ok ⟨zs, py, x1 - x3 + d⟩ := by
                have := (ok_of_rise (p := (py : Int)) (d := d) hrise.out (by rw [HZL.out]; omega) (by rw [HZL.out]; omega) (by omega) (by omega) (by omega) (by rw [HZL.out]; omega) hd0 (by omega)).1
                rw [← HI9.out] at this
                exact this
              have OKF := Lib.hid hokf; clear hokf
              go_wp2_with fail
              go_region_with (first
                | (go_at_call_of 18 (Value.int IntKind.i64 4)
                   refine (n_any p 4 _ (by first | exact SS7.out | exact SrcAt.drew SS7.out) (by omega) (by omega)).mono ?_
                   rintro e w8 ⟨y4, hy40, hy41, rfl, hS8, hk8⟩
                   have fb8 := (Blk.drew FB7.out).kept hpF hk8
                   have f80 := fb8.cell 0; have f81 := fb8.cell 1; have f82 := fb8.cell 2
                   simp at f80 f81 f82
                   have own8 := (Own.drew OWN7.out).kept (p := p) (fun e => by have := (OWN7.out.blk_lt p e).1; omega) hk8
                   have rb8 := (Blk.drew RB7.out).kept (by omega) hk8
                   have kk8 := KK7.out.trans ((kofdrew hk8).mono KK7.out.size)
                   have FB8 := Lib.hid fb8; have KK8 := Lib.hid kk8; have SS8 := Lib.hid hS8; have OWN8 := Lib.hid own8; have RB8 := Lib.hid rb8
                   clear fb8 hk8 hS8 own8 rb8 kk8)
                | (go_at_call_of 18 (Value.int IntKind.i64 2)
                   refine (n_any p 2 _ (by exact SS8.out) (by omega) (by omega)).mono ?_
                   rintro e w9 ⟨y2, hy20, hy21, rfl, hS9, hk9⟩
                   have fb9 := FB8.out.kept hpF hk9
                   have f90 := fb9.cell 0; have f91 := fb9.cell 1; have f92 := fb9.cell 2
                   simp at f90 f91 f92
                   have own9 := OWN8.out.kept (p := p) (fun e => by have := (OWN8.out.blk_lt p e).1; omega) hk9
                   have rb9 := RB8.out.kept (by omega) hk9
                   have kk9 := KK8.out.trans (hk9.mono KK8.out.size)
                   have FB9 := Lib.hid fb9; have KK9 := Lib.hid kk9; have SS9 := Lib.hid hS9; have OWN9 := Lib.hid own9; have RB9 := Lib.hid rb9
                   clear fb9 hk9 hS9 own9 rb9 kk9)
                | (go_at_call 93
                   rw [show IntKind.i64.wrap (1 + y2) = 1 + y2 from IntWalk.i64_in _ (by omega)]
                   obtain ⟨A', c', e', hcc, hI9, hge9⟩ := OWN9.out.ints
                   injection e' with e1 e2 e3
                   subst e1 e3
                   refine (longer2_any (some ⟨b2, off2, none⟩) k cm py (x1 - x3 + d) y4 (1 + y2) zs _ (by exact hI9) OKF.out (by omega) (by omega) (by omega) (by omega)).mono ?_
                   rintro e w10 ⟨g, hg, A5, n5, c5, rfl, hI5, hA5, hb10, hcn⟩
                   have hcn := hcn hcc
                   have hlF9 := FB9.out.lt
                   have hlR9 := RB9.out.lt
                   have hnb : ∀ b off s, A5 = some ⟨b, off, s⟩ → b ≠ F ∧ w.heap.size < b := by
                     intro b off s h
                     rcases hA5 with e | e
                     · rw [h] at e
                       cases e
                       have h1 := hge9 _ _ _ rfl
                       have h2 := OWN9.out.ne_blk RB9.out (by decide)
                       simp [Value.ownBlock] at h2
                       exact ⟨hbF, by omega⟩
                     · have := e b off s h
                       omega
                   have fb10 := FB9.out.below hb10 hlF9
                   have rb10 := RB9.out.below hb10 hlR9
                   have g0 := fb10.cell 0; have g1 := fb10.cell 1; have g2 := fb10.cell 2; have v0 := fb10.frozen 0; have v1 := fb10.frozen 1; have v2 := fb10.frozen 2
                   simp at g0 g1 g2
                   have s0 := rb10.cell 0; have s1 := rb10.cell 1; have s2 := rb10.cell 2; have t0 := rb10.frozen 0; have t1 := rb10.frozen 1; have t2 := rb10.frozen 2
                   simp at s0 s1 s2
                   have hlF10 := fb10.lt; have hlR10 := rb10.lt
                   have HG := Lib.hid hg; have HI5 := Lib.hid hI5; have HNB := Lib.hid hnb; have FB10 := Lib.hid fb10; have RB10 := Lib.hid rb10; have HB10 := Lib.hid hb10
                   clear hg hI5 hnb fb10 rb10 hb10 hA5 hI9 hge9))
              all_goals
                go_wp2_with fail
                have hd : DrawC most.toNat g := by
                  have := HG.out
                  rw [HI9.out] at this
                  exact draw_longer (most := most.toNat) hrise.out (by rw [HZL.out]; omega) (by rw [HZL.out]; omega) (by omega) (by omega) (by omega) (by omega) (by rw [HZL.out]; omega) hd0 hd1 this (by omega) (by omega) (by omega)
                have rb11 := (((RB10.out.far (p := ⟨F, 0, none⟩) hRF' (.slice A5 n5 c5)).far (p := ⟨F, 1, none⟩) hRF' (.int .i64 g.per)).far (p := ⟨F, 2, none⟩) hRF' (.int .i64 g.inc)).store3 (.slice A5 n5 c5) (.int .i64 g.per) (.int .i64 g.inc)
                have hI11 := ((HI5.out.setCell (p := ⟨F, 0, none⟩) (fun b off s h => (HNB.out b off s h).1) (.slice A5 n5 c5)).setCell (p := ⟨F, 1, none⟩) (fun b off s h => (HNB.out b off s h).1) (.int .i64 g.per)).setCell (p := ⟨F, 2, none⟩) (fun b off s h => (HNB.out b off s h).1) (.int .i64 g.inc)
                have hI12 : Ints (((w10.setCell ⟨F, 0, none⟩ (.slice A5 n5 c5)).setCell ⟨F, 1, none⟩ (.int .i64 g.per)).setCell ⟨F, 2, none⟩ (.int .i64 g.inc)) (((w10.setCell ⟨F, 0, none⟩ (.slice A5 n5 c5)).setCell ⟨F, 1, none⟩ (.int .i64 g.per)).setCell ⟨F, 2, none⟩ (.int .i64 g.inc)).heap.size A5 n5 g.vals := by simpa using hI11
                have kk10 : Kept w.heap.size p w w10 := KK9.out.trans ((Kept.of HB10.out).mono KK9.out.size)
                exact bodyPost_ret (v := .agg #[.slice A5 n5 c5, .int .i64 g.per, .int .i64 g.inc]) (by simp [results, Tryz.results38, go_sem, rb11.cell]) rfl
                  (retD_close (zs := g.vals) (per := g.per) (inc := g.inc) hd hcn hI12 (fun b off s h => (HNB.out b off s h).2) ((((SS9.out.ext HB10.out).far (a := ⟨F, 0, none⟩) (by simp; omega) _).far (a := ⟨F, 1, none⟩) (by simp; omega) _).far (a := ⟨F, 2, none⟩) (by simp; omega) _) hpl
                    (((kk10.setCell (a := ⟨F, 0, none⟩) (.inr (by simp; omega)) _).setCell (a := ⟨F, 1, none⟩) (.inr (by simp; omega)) _).setCell (a := ⟨F, 2, none⟩) (.inr (by simp; omega)) _))
            · have b0 : (x7 == 0) = false := by simpa using c0
              have b1 : (x7 == 1) = false := by simpa using c1
              clear c0 c1
              have hd : DrawC most.toNat ⟨zs, py, x1 - x3 + d⟩ := by
                have := draw_rise (p := (py : Int)) (d := d) (most := most.toNat) hrise.out (by rw [HZL.out]; omega) (by rw [HZL.out]; omega) (by omega) (by omega) (by omega) (by omega) (by rw [HZL.out]; omega) hd0 hd1
                rw [← HI9.out] at this
                exact this
              have HD := Lib.hid hd; clear hd
              go_wp2_with fail
              have rb8 := RB7.out.store3 (.slice (some ⟨b2, off2, none⟩) k cm) (.int .i64 py) (.int .i64 (x1 - x3 + d))
              obtain ⟨A', c', e', hcc, hI, hge⟩ := OWN7.out.ints
              injection e' with e1 e2 e3
              subst e1 e3
              exact bodyPost_ret (v := .agg #[.slice (some ⟨b2, off2, none⟩) k cm, .int .i64 py, .int .i64 (x1 - x3 + d)]) (by simp [results, Tryz.results38, go_sem, rb8.cell]) rfl
                (retD_close HD.out hcc hI (fun b off s h => by have h1 := hge b off s h; have h2 := OWN7.out.ne_blk RB7.out (by decide); cases h; simp [Value.ownBlock] at h2; omega) SS7.out hpl KK7.out)
end Go.Proofs.YtaejfleahamapaaGreat

