/- Sums and raised curves of finite curves are finite: plain words. -/
import Derived.Deep.DeepCutAuto
import Derived.Deep.CutBlock
import Derived.BigRegion
import Derived.Deep.RegionHeld3
import Derived.Deep.LoopGhost
import Derived.Test.YtaejfleahamapaaGreatTa8
import Derived.Test.YtaejfleahamapaaGreatTa1
import Derived.Test.YtaejfleahamapaaGreatTa2
import Derived.Test.YtaejfleahamapaaGreatTa17
import Derived.Test.YtaejfleahamapaaGreatTa16
namespace Go.Proofs.YtaejfleahamapaaGreat
set_option linter.unusedVariables false
set_option linter.unusedSimpArgs false
section
open Go.RowKit
def Thaw (w : World) (A : Option Addr) : Prop := ∀ b off s, A = some ⟨b, off, s⟩ → ∃ cs, Blk w b 3 cs
section
variable {w w' : World} {A : Option Addr}
theorem Thaw.below (h : Thaw w A) (hb : Below w.heap.size w w') : Thaw w' A := fun b off s e => by
 obtain ⟨cs, hc⟩ := h b off s e
 exact ⟨cs, hc.below hb hc.lt⟩
theorem Thaw.set (h : Thaw w A) (p : Addr) (v : Value) (hp : p.spot = none) : Thaw (w.setCell p v) A := fun b off s e => by
 obtain ⟨cs, hc⟩ := h b off s e
 by_cases hb : b = p.block
 ·subst hb
  obtain ⟨g, o, t⟩ := p
  obtain rfl : t = none := hp
  exact ⟨_, hc.set_ o v⟩
 ·exact ⟨cs, hc.far hb v⟩
theorem Thaw.alloc (h : Thaw w A) (o : Obj) : Thaw (w.alloc o) A := fun b off s e => by
 obtain ⟨cs, hc⟩ := h b off s e
 exact ⟨cs, hc.alloc o⟩
theorem Thaw.own {base n c : Nat} {xs : List Int} (h : Own w base (.slice A n c) n xs) : Thaw w A := fun b off s e => by
 subst e
 rcases h.2 with ⟨h, _⟩ | ⟨g, cap, cur, hv, _, hh, _⟩
 ·cases h
 ·cases hv
  exact ⟨cur, hh⟩
end
def RetG2 (A : Option Addr) (n c : Nat) (g : Cv) (w : World) (e : Ending) (w' : World) : Prop :=
 ∃ A' n' c', e = .returned (.agg #[.slice A' n' c', .int .i64 g.per, .int .i64 g.inc]) ∧ Ints w' w'.heap.size A' n' g.vals ∧ (A' = A ∨ ∀ b off s, A' = some ⟨b, off, s⟩ → w.heap.size ≤ b) ∧ Below w.heap.size w w' ∧ (n ≤ c → n' ≤ c') ∧ (Thaw w A → Thaw w' A')
attribute [local go_sem ↓] app_fold
set_option maxRecDepth 100000 in
set_option maxHeartbeats 2000000 in
theorem longer2_any (A : Option Addr) (n c : Nat) (p i more times : Int) (zs : List Int) (w : World) (hA : Ints w w.heap.size A n zs) (hok : Cv.Ok ⟨zs, p, i⟩)
 (h1 : 0 ≤ more) (h2 : more ≤ 100) (h3 : 1 ≤ times) (h4 : times ≤ 100) :
 Calls Tryz.prog 93 #[.agg #[.slice A n c, .int .i64 p, .int .i64 i], .int .i64 more, .int .i64 times] w
  fun e w' => ∃ g, LongerS ⟨zs, p, i⟩ more.toNat times.toNat g ∧ RetG2 A n c g w e w' := by
 have hl := hA.1
 have hn1 := hok.n1; have hn4 := hok.n2
 have hp1 := hok.p1; have hp2 := hok.p2; have hpn := hok.pn; have hi1 := hok.i1; have hi2 := hok.i2
 simp only [hl] at hn1 hn4 hpn hp1 hp2 hi1 hi2
 obtain ⟨p, rfl⟩ := Int.eq_ofNat_of_zero_le (show 0 ≤ p by omega)
 obtain ⟨more, rfl⟩ := Int.eq_ofNat_of_zero_le h1
 obtain ⟨times, rfl⟩ := Int.eq_ofNat_of_zero_le (show 0 ≤ times by omega)
 rw [Int.toNat_natCast, Int.toNat_natCast]
 have HOK := hi_ hok; clear hok
 have HL := hi_ hl; clear hl
 have HA := hi_ hA; clear hA
 go_enter Tryz.func93, Tryz.ntmps93
 go_wp2_with fail
 have fb := (Blk.new w 26 #[.slice A n c, .int .i64 p, .int .i64 i]).alloc (.cells #[.slice none 0 0, .int .i64 0, .int .i64 0] 26)
 have rb := Blk.new (w.alloc (.cells #[.slice A n c, .int .i64 p, .int .i64 i] 26)) 26 #[.slice none 0 0, .int .i64 0, .int .i64 0]
 simp at rb
 have hA2 := ((HA.out.alloc' (.cells #[.slice A n c, .int .i64 p, .int .i64 i] 26)).alloc' (.cells #[.slice none 0 0, .int .i64 0, .int .i64 0] 26))
 have bw := bthen (balloc w (.cells #[.slice A n c, .int .i64 p, .int .i64 i] 26)) (balloc _ (.cells #[.slice none 0 0, .int .i64 0, .int .i64 0] 26))
 have hsz : w.heap.size + 2 = ((w.alloc (.cells #[.slice A n c, .int .i64 p, .int .i64 i] 26)).alloc (.cells #[.slice none 0 0, .int .i64 0, .int .i64 0] 26)).heap.size := by simp
 have hsz2 := Nat.le_of_eq hsz
 have hsz3 := Nat.le_of_eq hsz.symm
 clear hsz
 generalize ((w.alloc (.cells #[.slice A n c, .int .i64 p, .int .i64 i] 26)).alloc (.cells #[.slice none 0 0, .int .i64 0, .int .i64 0] 26)) = w1 at *
 have q0 := fb.cell 0; have q1 := fb.cell 1; have q2 := fb.cell 2
 simp at q0 q1 q2
 have hlf := fb.lt
 have HFB := hi_ fb; have HRB := hi_ rb; have HBW := hi_ bw; have HA2 := hi_ hA2
 clear fb rb bw hA2
 have ob0 := Blk.new (w1.alloc (.cells #[] 3)) 26 #[.slice none 0 0, .int .i64 0, .int .i64 0]
 rw [show (w1.alloc (.cells #[] 3)).heap.size = w1.heap.size + 1 by simp] at ob0
 have OB := hi_ ob0; clear ob0
 have oc0 := (Blk.new w1 26 #[.slice none 0 0, .int .i64 0, .int .i64 0]).alloc (.cells #[] 3)
 have OC := hi_ oc0; clear oc0
 have oe0 := Own.empty_ (w1.alloc (.cells #[.slice none 0 0, .int .i64 0, .int .i64 0] 26)) (base := w1.heap.size) (by simp)
 rw [show (w1.alloc (.cells #[.slice none 0 0, .int .i64 0, .int .i64 0] 26)).heap.size = w1.heap.size + 1 by simp] at oe0
 have OE := hi_ oe0; clear oe0
 go_upto_region 1 with fail
 go_cut [7] (fun s7 wx => ∃ (O : Nat) (A1 : Option Addr) (c1 : Nat), s7 = .pointer (some ⟨O, 0, none⟩) ∧ w1.heap.size ≤ O ∧ Blk wx O 26 #[.slice A1 n c1, .int .i64 p, .int .i64 i] ∧
  Own wx w1.heap.size (.slice A1 n c1) n zs ∧ Below w1.heap.size w1 wx)
 case first =>
  go_region_held3 (fun w' => w'.cell? ⟨w.heap.size, 0, none⟩ = some (.slice A n c) ∧ w'.cell? ⟨w.heap.size, 1, none⟩ = some (.int .i64 p) ∧ w'.cell? ⟨w.heap.size, 2, none⟩ = some (.int .i64 i)) (first | go_keep | (refine ⟨?_, ?_, ?_⟩ <;> (rw [cell_set3 (by omega)]; assumption)))
   (first
    | (refine step_app (by rfl) _ _ 22 (by rfl) Tryz.underlying22 w1.heap.size (.slice (some ⟨w1.heap.size, 0, none⟩) 0 0) 0 [] (by rfl) ?_ w1.heap.size A n c zs (by rfl) ?_ ?_ ?_ ?_
       ·repeat (first | exact Own.empty_ w1 (Nat.le_refl _) | refine Own.drew ?_ | refine Own.alloc ?_ _)
       ·repeat (first | exact HA2.out | refine Ints.drew ?_ | refine Ints.alloc ?_ (by simp; try omega) _)
       ·omega
       ·simp; try omega
       intro v2 w2 own2 grow2 at2
       simp only [Nat.zero_add, List.nil_append] at own2
       have b2 : Below w1.heap.size w1 w2 := by
        refine Below.grown ?_ grow2 ?_ ?_
        ·repeat (first | exact Below.refl _ _ | refine Below.drew ?_ | refine Below.alloc ?_ (by simp; try omega) _)
        ·simp; try omega
        ·intro k hk; simp [Value.ownBlock] at hk; omega
       have q20 := (b2.cell (p := ⟨w.heap.size, 0, none⟩) hlf).trans q0
       have q21 := (b2.cell (p := ⟨w.heap.size, 1, none⟩) hlf).trans q1
       have q22 := (b2.cell (p := ⟨w.heap.size, 2, none⟩) hlf).trans q2
       have hlf2 := Nat.lt_of_lt_of_le hlf b2.size
       obtain ⟨A1, c1, rfl, hc1, hI1, hf1⟩ := own2.ints
       try (have ob := Blk.grown (Blk.drew OB.out) grow2 (by simp [Value.ownBlock]); have o0 := ob.cell 0; have o1 := ob.cell 1; have o2 := ob.cell 2; have y0 := ob.frozen 0; have y1 := ob.frozen 1; have y2 := ob.frozen 2; simp at o0 o1 o2; have hlo := ob.lt)
       have OWN2 := hi_ own2; have B2 := hi_ b2; have GROW2 := hi_ grow2; have HI1 := hi_ hI1; have HF1 := hi_ hf1
       clear at2 own2 b2 hI1 hf1 grow2)
    | (refine step_app (by rfl) _ _ 22 (by rfl) Tryz.underlying22 w1.heap.size (.slice (some ⟨w1.heap.size + 1, 0, none⟩) 0 0) 0 [] (by rfl) ?_ w1.heap.size A n c zs (by rfl) ?_ ?_ ?_ ?_
       ·repeat (first | exact OE.out | refine Own.drew ?_ | refine Own.alloc ?_ _)
       ·repeat (first | exact HA2.out | refine Ints.drew ?_ | refine Ints.alloc ?_ (by simp; try omega) _)
       ·omega
       ·simp; try omega
       intro v2 w2 own2 grow2 at2
       simp only [Nat.zero_add, List.nil_append] at own2
       have b2 : Below w1.heap.size w1 w2 := by
        refine Below.grown ?_ grow2 ?_ ?_
        ·repeat (first | exact Below.refl _ _ | refine Below.drew ?_ | refine Below.alloc ?_ (by simp; try omega) _)
        ·simp; try omega
        ·intro k hk; simp [Value.ownBlock] at hk; omega
       have q20 := (b2.cell (p := ⟨w.heap.size, 0, none⟩) hlf).trans q0
       have q21 := (b2.cell (p := ⟨w.heap.size, 1, none⟩) hlf).trans q1
       have q22 := (b2.cell (p := ⟨w.heap.size, 2, none⟩) hlf).trans q2
       have hlf2 := Nat.lt_of_lt_of_le hlf b2.size
       obtain ⟨A1, c1, rfl, hc1, hI1, hf1⟩ := own2.ints
       try (have ob := Blk.grown (Blk.drew OC.out) grow2 (by simp [Value.ownBlock]); have o0 := ob.cell 0; have o1 := ob.cell 1; have o2 := ob.cell 2; have y0 := ob.frozen 0; have y1 := ob.frozen 1; have y2 := ob.frozen 2; simp at o0 o1 o2; have hlo := ob.lt)
       have OWN2 := hi_ own2; have B2 := hi_ b2; have GROW2 := hi_ grow2; have HI1 := hi_ hI1; have HF1 := hi_ hf1
       clear at2 own2 b2 hI1 hf1 grow2))
  all_goals
   go_wp2_with fail
   go_meet
   first
    | exact ⟨_, A1, c1, rfl, B2.out.size, Blk.new _ _ _, OWN2.out.alloc _, B2.out.alloc B2.out.size _⟩
    | (have nb := OWN2.out.ne_blk ob (by decide)
       exact ⟨_, A1, c1, rfl, (by omega), ob.store3 _ _ _, ((OWN2.out.far nb _).far nb _).far nb _, ((B2.out.setCell (by simp) _).setCell (by simp) _).setCell (by simp) _⟩)
 case rest =>
  obtain ⟨O, A1, c1, rfl, hO, ob, own, b1⟩ := hcut
  have hlo := ob.lt
  have hRlt : w.heap.size + 1 < w1.heap.size := by omega
  have fbc := HFB.out.below b1 hlf
  have rbc := HRB.out.below b1 hRlt
  have hsz1 := b1.size
  obtain ⟨b, off, rfl, hb, hc⟩ := (HA2.out.ext b1).2 (by omega)
  have hcl := hc (n - 1) (by omega)
  have hcl' : wc.cell? ⟨b, off + (n - 1), none⟩ = some (.int .i64 (nth zs (n - 1))) := hcl
  clear hc hcl
  have e0 : ((n : Int) == 0) = false := by simp; omega
  have e1 : (n : Int) - 1 = ((n - 1 : Nat) : Int) := by omega
  have e2 : decide ((p : Int) < 1) = false := by simp; omega
  have e3 : decide (n < p) = false := by simp; omega
  have hnn : n - 1 < n := by omega
  obtain ⟨l, hl⟩ : ∃ l, l = nth zs (n - 1) := ⟨_, rfl⟩
  rw [← hl] at hcl'
  have HLAST := hi_ hl; clear hl
  have q0 := fbc.cell 0; have q1 := fbc.cell 1; have q2 := fbc.cell 2
  simp at q0 q1 q2
  have r0 := rbc.cell 0; have r1 := rbc.cell 1; have r2 := rbc.cell 2; have z0 := rbc.frozen 0; have z1 := rbc.frozen 1; have z2 := rbc.frozen 2
  simp at r0 r1 r2
  have OB := hi_ ob; have OWN := hi_ own; have B1 := hi_ b1; have FBC := hi_ fbc; have RBC := hi_ rbc
  clear ob own b1 fbc rbc
  by_cases hli : l = 4611686018427387904
  ·have hlb : (l == 4611686018427387904) = true := by simpa using hli
   have fin : LongerS ⟨zs, p, i⟩ more times ⟨zs, p, i⟩ := .inl ⟨by show nth zs (zs.length - 1) = inf; rw [HL.out, ← HLAST.out]; exact hli, rfl⟩
   have F := hi_ fin; clear fin hli
   go_wp2_with fail
   have rb5 := RBC.out.store3 (.slice (some ⟨b, off, none⟩) n c) (.int .i64 p) (.int .i64 i)
   have hI := (HA.out.ext HBW.out).ext B1.out
   exact bodyPost_ret (v := .agg #[.slice (some ⟨b, off, none⟩) n c, .int .i64 p, .int .i64 i]) (by simp [results, Tryz.results93, go_sem, rb5.cell]) rfl
    ⟨_, F.out, _, n, c, rfl, by simpa using ((hI.setCell (p := ⟨w.heap.size + 1, 0, none⟩) (fun b' o s e => by have := (HA.out.2 (by omega)); obtain ⟨b2, o2, e2, h2, _⟩ := this; rw [e] at e2; cases e2; simp; omega) _).setCell (p := ⟨w.heap.size + 1, 1, none⟩) (fun b' o s e => by have := (HA.out.2 (by omega)); obtain ⟨b2, o2, e2, h2, _⟩ := this; rw [e] at e2; cases e2; simp; omega) _).setCell (p := ⟨w.heap.size + 1, 2, none⟩) (fun b' o s e => by have := (HA.out.2 (by omega)); obtain ⟨b2, o2, e2, h2, _⟩ := this; rw [e] at e2; cases e2; simp; omega) _,
     .inl rfl, (((bthen HBW.out B1.out).setCell (by simp) _).setCell (by simp) _).setCell (by simp) _, id, fun h => (((h.below (bthen HBW.out B1.out)).set _ _ rfl).set _ _ rfl).set _ _ rfl⟩
  ·have hlb : (l == 4611686018427387904) = false := by simpa using hli
   have hFin : Cv.Fin ⟨zs, p, i⟩ := ⟨HOK.out, by show nth zs (zs.length - 1) ≠ inf; rw [HL.out, ← HLAST.out]; exact hli⟩
   have FIN := hi_ hFin; clear hFin hli
   obtain ⟨e, he⟩ : ∃ e : Nat, (times - 1) * p = e := ⟨_, rfl⟩
   have he1 : ((times : Int) - 1) * p = e := by rw [← he, Int.natCast_mul]; congr 1; omega
   have he2 : e ≤ 99 * 120 := by rw [← he]; exact Nat.mul_le_mul (by omega) (by omega)
   have HE := hi_ he; clear he
   have htab : zs = tab (Cv.at ⟨zs, p, i⟩) 0 n := eq_tab HL.out (fun j hj => by rw [Nat.zero_add, Cv.at_lt (f := ⟨zs, p, i⟩) (by show j < zs.length; rw [HL.out]; exact hj)])
   have own0 := OWN.out
   rw [htab] at own0
   have OWN0 := hi_ own0; clear own0 htab OWN
   go_wp2_with fail
   clear e0 e1 e2 e3 hlb he1
   go_loopg [8] (more + e) (fun g t wr => ∃ (Am : Option Addr) (cm m : Nat), t = .int .i64 (g : Nat) ∧ m + g = n + (more + e) ∧ n ≤ m ∧ Blk wr O 26 #[.slice Am m cm, .int .i64 p, .int .i64 i] ∧
    Own wr w1.heap.size (.slice Am m cm) m (tab (Cv.at ⟨zs, p, i⟩) 0 m) ∧ Below w1.heap.size w1 wr)
   case atStart => exact ⟨A1, c1, n, by go_num, rfl, Nat.le_refl _, OB.out, OWN0.out, B1.out⟩
   case round =>
    clear q0 q1 q2 r0 r1 r2 z0 z1 z2 OB OWN0 B1 FBC RBC hcl' hlo
    obtain ⟨Am, cm, m, rfl, hmg, hmn, ob, own, b1⟩ := hrel
    have hsz1 := b1.size
    have fbc := HFB.out.below b1 hlf
    have rbc := HRB.out.below b1 hRlt
    have q0 := fbc.cell 0; have q1 := fbc.cell 1; have q2 := fbc.cell 2
    simp at q0 q1 q2
    have o0 := ob.cell 0; have o1 := ob.cell 1; have o2 := ob.cell 2; have y0 := ob.frozen 0; have y1 := ob.frozen 1; have y2 := ob.frozen 2
    simp at o0 o1 o2
    have hlo := ob.lt
    have OB := hi_ ob; have OWN := hi_ own; have B1 := hi_ b1; have FBC := hi_ fbc
    clear ob own b1 fbc
    by_cases hg : gk = 0
    ·subst hg
     have hm : m = n + (more + e) := by omega
     have p1 : (p : Int) * times ≤ 120 * 100 := Int.mul_le_mul hp2 h4 (by omega) (by omega)
     have p0 : 0 ≤ (p : Int) * times := Int.mul_nonneg (by omega) (by omega)
     have i1 : i * (times : Int) ≤ 1073741824 * 100 := Int.mul_le_mul hi2 h4 (by omega) (by omega)
     have i0 : 0 ≤ i * (times : Int) := Int.mul_nonneg hi1 (by omega)
     have fin : LongerS ⟨zs, p, i⟩ more times ⟨tab (Cv.at ⟨zs, p, i⟩) 0 m, (p : Int) * times, i * times⟩ :=
      .inr ⟨FIN.out, rfl, rfl, by rw [show (Cv.mk zs p i).vals.length = n from HL.out, show (Cv.mk zs p i).per.toNat = p from Int.toNat_natCast p, HE.out, ← hm]⟩
     have F := hi_ fin
     clear fin hm hmg
     have hlf2 := Nat.lt_of_lt_of_le hlf hsz1
     have r0 := rbc.cell 0; have r1 := rbc.cell 1; have r2 := rbc.cell 2; have z0 := rbc.frozen 0; have z1 := rbc.frozen 1; have z2 := rbc.frozen 2
     simp at r0 r1 r2
     have hne : w.heap.size + 1 ≠ O := by omega
     have hne2 : w.heap.size ≠ O := by omega
     have hlr2 := rbc.lt
     have RBC := hi_ rbc; clear rbc
     go_wp2_with fail
     go_region
     all_goals go_wp2_with fail
     all_goals
      have nb := OWN.out.ne_blk OB.out (by decide)
      have hob := fun g hg => (OWN.out.blk_lt g hg).1
      obtain ⟨A', c', e', hcc, hI, _⟩ := OWN.out.ints
      injection e' with e1 e2 e3
      subst e1 e3
      have hnO : ∀ b' off' s, Am = some ⟨b', off', s⟩ → b' ≠ O := fun b' off' s h h2 => nb (by rw [h]; simp [Value.ownBlock, h2])
      have hge : ∀ b' off' s, Am = some ⟨b', off', s⟩ → w1.heap.size ≤ b' := fun b' off' s h => hob b' (by rw [h]; rfl)
      have hnR : ∀ b' off' s, Am = some ⟨b', off', s⟩ → b' ≠ w.heap.size + 1 := fun b' off' s h => by have := hge b' off' s h; omega
      have rb5 := fun x y => ((RBC.out.far (p := ⟨O, 1, none⟩) hne (.int .i64 x)).far (p := ⟨O, 2, none⟩) hne (.int .i64 y)).store3 (.slice Am m cm) (.int .i64 ((p : Int) * times)) (.int .i64 (i * times))
      refine bodyPost_ret (v := .agg #[.slice Am m cm, .int .i64 ((p : Int) * times), .int .i64 (i * times)]) (by simp [results, Tryz.results93, go_sem, (rb5 _ _).cell]) rfl
       ⟨_, F.out, Am, m, cm, rfl, ?_, .inr (fun b' off' s h => by have := hge b' off' s h; omega), ?_, fun _ => hcc, fun _ => (show Thaw (World.drew _) _ from (((((Thaw.own OWN.out).set _ _ rfl).set _ _ rfl).set _ _ rfl).set _ _ rfl).set _ _ rfl)⟩
      ·have h5 := ((((hI.setCell (p := ⟨O, 1, none⟩) hnO (.int .i64 ((p : Int) * times))).setCell (p := ⟨O, 2, none⟩) hnO (.int .i64 (i * times))).setCell (p := ⟨w.heap.size + 1, 0, none⟩) hnR (.slice Am m cm)).setCell (p := ⟨w.heap.size + 1, 1, none⟩) hnR (.int .i64 ((p : Int) * times))).setCell (p := ⟨w.heap.size + 1, 2, none⟩) hnR (.int .i64 (i * times))
       simpa using h5.drew
      ·have bw := bthen HBW.out B1.out
       exact (((((bw.setCell (by simp; omega) _).setCell (by simp; omega) _).setCell (by simp) _).setCell (by simp) _).setCell (by simp) _).drew
    ·go_upto_block 1 with fail
     go_cut [] (fun wx => ∃ (A' : Option Addr) (c' : Nat), Blk wx O 26 #[.slice A' (m + 1) c', .int .i64 p, .int .i64 i] ∧
      Own wx w1.heap.size (.slice A' (m + 1) c') (m + 1) (tab (Cv.at ⟨zs, p, i⟩) 0 (m + 1)) ∧ Below w1.heap.size w1 wx)
     case first =>
      obtain ⟨A', c', e', hcc, hI, _⟩ := OWN.out.ints
      injection e' with e1 e2 e3
      subst e1 e3
      obtain ⟨b2, off2, rfl, hb2, hc2⟩ := hI.2 (by omega)
      obtain ⟨j, hj⟩ : ∃ j, m = j + p := ⟨m - p, by omega⟩
      have hcj := hc2 j (by omega)
      rw [tab_nth _ _ _ _ (by omega), Nat.zero_add] at hcj
      have hstep : Cv.at ⟨zs, p, i⟩ m = Cv.at ⟨zs, p, i⟩ j + i := by
       rw [hj]
       have := FIN.out.step (t := j) (by show zs.length ≤ j + (p : Int).toNat; rw [HL.out, Int.toNat_natCast]; omega)
       rw [show (Cv.mk zs p i).per.toNat = p from Int.toNat_natCast p] at this
       exact this
      have hbd := FIN.out.at_bd j
      obtain ⟨x, hx⟩ : ∃ x, x = Cv.at ⟨zs, p, i⟩ j := ⟨_, rfl⟩
      rw [← hx] at hcj hstep hbd
      have w1' : IntKind.i64.wrap ((m : Int) - p) = (j : Int) := by rw [IntWalk.i64_in _ (by omega)]; omega
      have w2' : IntKind.i64.wrap (x + i) = x + i := IntWalk.i64_in _ (by omega)
      have hj0 : 0 ≤ (j : Int) := by omega
      have hj1 : (j : Int) < m := by omega
      have hj2 : j < m := by omega
      have HX := hi_ hx; have HSTEP := hi_ hstep; have HJ := hi_ hj; have HII := hi_ hI
      clear hx hstep hj hc2 hI
      have nbO := OWN.out.ne_blk OB.out (by decide)
      have nbF := OWN.out.ne_blk FBC.out (by decide)
      have hob := fun g hg => (OWN.out.blk_lt g hg).1
      have HOB := hi_ hob; clear hob
      have NBO := hi_ nbO; have NBF := hi_ nbF; clear nbO nbF
      have hlf2 := Nat.lt_of_lt_of_le hlf hsz1
      have hlit := (ints_lit wr [x + i]).more (B' := wr.heap.size + 1) (by simp)
      obtain ⟨v2, w2, hrun, own2, grow2, at2⟩ := run_appSem (w := (wr.alloc (.cells #[.int .i64 (x + i)] 3)).drew) (base := w1.heap.size) (OWN.out.alloc _).drew 1 (A := some ⟨wr.heap.size, 0, none⟩) (m := 1) (zs := [x + i]) hlit (by omega) (by simp; omega)
      have b2' : Below w1.heap.size w1 w2 := Below.grown (B1.out.alloc hsz1 _).drew grow2 (by simp; omega) (fun k hk => HOB.out k hk)
      have ob2 := Blk.grown (Blk.drew (OB.out.alloc _)) grow2 (fun e => NBO.out e.symm)
      have fb2 := Blk.grown (Blk.drew (FBC.out.alloc _)) grow2 (fun e => NBF.out e.symm)
      have o20 := ob2.cell 0; have y20 := ob2.frozen 0
      simp at o20
      have hlo2 := ob2.lt
      obtain ⟨A2, c2, rfl, hc2, hI2, hf2⟩ := own2.ints
      have OB2 := hi_ ob2; have OWN2 := hi_ own2; have B2 := hi_ b2'
      clear at2 own2 b2' ob2 fb2 hI2 hf2 grow2 hlit
      go_wp2_with fail
      go_region
      all_goals
       go_wp2_with fail
       go_meet
       have nb := OWN2.out.ne_blk OB2.out (by decide)
       have hls : tab (Cv.at ⟨zs, p, i⟩) 0 m ++ [x + i] = tab (Cv.at ⟨zs, p, i⟩) 0 (m + 1) := by
        refine list_ext (by simp [tab_length]) (fun k hk => ?_)
        simp [tab_length] at hk
        rw [nth_append, tab_length, tab_nth _ _ _ _ hk, Nat.zero_add]
        by_cases hkm : k < m
        ·rw [if_pos hkm, tab_nth _ _ _ _ hkm, Nat.zero_add]
        ·rw [if_neg hkm, show k = m by omega, Nat.sub_self, HSTEP.out]; rfl
       have own3 := OWN2.out
       rw [hls] at own3
       exact ⟨A2, c2, OB2.out.set_ 0 _, own3.far nb _, B2.out.setCell hO _⟩
     case rest =>
      obtain ⟨A', c', ob, own, b1⟩ := hcut
      go_wp2_with fail
      go_roundg (gk - 1)
      case measure => omega
      case rel => exact ⟨A', c', m + 1, by go_num, by omega, by omega, ob, own, b1⟩
end
section
open Go.RowKit
def RetD3 (S : Cv → Prop) (p : Nat) (w : World) (e : Ending) (w' : World) : Prop :=
 ∃ (f : Cv) (A : Option Addr) (n c : Nat), S f ∧ n ≤ c ∧ e = .returned (.agg #[.slice A n c, .int .i64 f.per, .int .i64 f.inc]) ∧ Ints w' w'.heap.size A n f.vals ∧ (∀ b off s, A = some ⟨b, off, s⟩ → w.heap.size ≤ b) ∧ SrcAt w' p ∧ Kept w.heap.size p w w' ∧ Thaw w' A
theorem cell_set_off {w : World} {g o o' : Nat} {x : Value} (h : o' ≠ o) : (w.setCell ⟨g, o', none⟩ x).cell? ⟨g, o, none⟩ = w.cell? ⟨g, o, none⟩ :=
 World.cell?_setCell_other _ _ _ _ (fun e => by injection e with e1 e2; exact h e2)
theorem retD_close {S : Cv → Prop} {p : Nat} {w w1 : World} {A : Option Addr} {n c : Nat} {zs : List Int} {per inc : Int} {x y z : Value} (hS : S ⟨zs, per, inc⟩) (hc : n ≤ c) (hI : Ints w1 w1.heap.size A n zs) (hge : ∀ b off s, A = some ⟨b, off, s⟩ → w.heap.size < b)
 (hs : SrcAt w1 p) (hp : p < w.heap.size) (hk : Kept w.heap.size p w w1) (hth : Thaw w1 A) :
 RetD3 S p w (.returned (.agg #[.slice A n c, .int .i64 per, .int .i64 inc])) (((w1.setCell ⟨w.heap.size, 0, none⟩ x).setCell ⟨w.heap.size, 1, none⟩ y).setCell ⟨w.heap.size, 2, none⟩ z) :=
 ⟨⟨zs, per, inc⟩, A, n, c, hS, hc, rfl, by
  simpa using (((hI.setCell (fun b off s h => by have := hge b off s h; simp; omega) _).setCell (fun b off s h => by have := hge b off s h; simp; omega) _).setCell (fun b off s h => by have := hge b off s h; simp; omega) _),
  (fun b off s h => by have := hge b off s h; omega), ((hs.far (by simpa using hp) _).far (by simpa using hp) _).far (by simpa using hp) _, ((hk.setCell (.inr (by simp)) _).setCell (.inr (by simp)) _).setCell (.inr (by simp)) _, ((hth.set _ _ rfl).set _ _ rfl).set _ _ rfl⟩
attribute [local go_sem ↓] app_fold
set_option maxRecDepth 100000 in
set_option maxHeartbeats 4000000 in
theorem srcCurve4_any (p : Nat) (most : Int) (w : World) (hS : SrcAt w p) (hm1 : 1 ≤ most) (hm2 : most ≤ 12) :
 Calls Tryz.prog 38 #[.pointer (some ⟨p, 0, none⟩), .int .i64 most] w (RetD3 (DrawC most.toNat) p w) := by
 have hpl := hS.lt
 go_enter Tryz.func38, Tryz.ntmps38
 go_wp2_with fail
 refine (n_any p most _ (hS.alloc _) hm1 (by omega)).mono ?_
 rintro e w2 ⟨x, hx0, hx1, rfl, hS2, hk2⟩
 have rb2 := (Blk.new w 26 #[.slice none 0 0, .int .i64 0, .int .i64 0]).kept (by omega) hk2
 have kb2 : Kept w.heap.size p w w2 := kthen (Kept.of (balloc _ _)) hk2
 clear hk2 hS
 obtain ⟨n, hn⟩ : ∃ n : Nat, (n : Int) = 1 + x := ⟨(1 + x).toNat, by omega⟩
 have hn' : 1 + x = (n : Int) := hn.symm
 have hn1 : 1 ≤ n := by omega
 have hnm : (n : Int) ≤ most := by omega
 clear hn
 have K2 := hi_ kb2; have S2 := hi_ hS2; have R2 := hi_ rb2
 have hR2 := rb2.lt
 clear kb2 hS2 rb2
 go_upto_region 2 with fail
 go_cut [6] (fun s6 wx => ∃ (F : Nat) (y : Int), s6 = .pointer (some ⟨F, 0, none⟩) ∧ w.heap.size < F ∧ 1 ≤ y ∧ y ≤ 4 ∧ y ≤ n ∧ Blk wx F 26 #[.slice none 0 0, .int .i64 y, .int .i64 0] ∧
  Blk wx w.heap.size 26 #[.slice none 0 0, .int .i64 0, .int .i64 0] ∧ SrcAt wx p ∧ Kept w.heap.size p w wx)
 case first =>
  clear hn'
  by_cases h4 : n ≤ 4
  all_goals
   go_wp2_with fail
   refine (n_any p _ _ S2.out (by omega) (by omega)).mono ?_
   rintro e w3 ⟨y, hy0, hy1, rfl, hS3, hk3⟩
   have R3 := hi_ (R2.out.kept (by omega) hk3)
   have K3 := hi_ (kthen K2.out hk3); have S3 := hi_ hS3
   have hsz3 := hk3.size
   clear hk3 hS3
   go_wp2_with fail
   go_meet
   exact ⟨_, 1 + y, rfl, by omega, by omega, by omega, by omega, Blk.new _ _ _, R3.out.alloc _, S3.out.alloc _, K3.out.alloc (by omega) _⟩
 case rest =>
  obtain ⟨F, y, rfl, hRF, hy1, hy2, hy3, fb, rb, hS, hk⟩ := hcut
  have hlF := fb.lt
  have hpF : F ≠ p := by omega
  have FB := hi_ fb; have RB := hi_ rb; have SS := hi_ hS; have KK := hi_ hk
  clear fb rb hS hk K2 S2 R2
  go_wp2_with fail
  refine (pick_any p _ 4 4 [0, 0, 0, 3] _ (SS.out.alloc _) (by exact ints_lit wc [0, 0, 0, 3]) (fun b off s e => by cases e; have := SS.out.lt; omega) (by omega) (by omega)).mono ?_
  rintro e w3 ⟨⟨j, hj, rfl⟩, hS3, hk3⟩
  have hv := (show ∀ j, j < 4 → 0 ≤ nth [0, 0, 0, 3] j ∧ nth [0, 0, 0, 3] j ≤ 3 by decide) j hj
  generalize nth [0, 0, 0, 3] j = v at *
  have fb3 := (FB.out.alloc _).kept hpF hk3
  have rb3 := (RB.out.alloc _).kept (by omega) hk3
  have kk3 := KK.out.trans ((Kept.of (balloc _ _)).mono KK.out.size |>.trans (hk3.mono (by have := KK.out.size; simp; omega)))
  have FB3 := hi_ fb3; have RB3 := hi_ rb3; have SS3 := hi_ hS3; have KK3 := hi_ kk3
  have hl3 := fb3.lt
  clear fb3 rb3 hS3 kk3 hk3 FB RB SS KK hj
  go_wp2_with fail
  go_loopg [7, 8] n (fun g s7 s8 wr => ∃ (Am : Option Addr) (cm k : Nat) (u : Int) (zs : List Int), k + g = n ∧ s8 = .int .i64 (k : Nat) ∧ s7 = .int .i64 u ∧ 0 ≤ u ∧ u ≤ 3 + 9 * k ∧ Hid (Rise zs u) ∧
   Blk wr F 26 #[.slice Am k cm, .int .i64 y, .int .i64 0] ∧ Own wr w.heap.size (.slice Am k cm) k zs ∧ Blk wr w.heap.size 26 #[.slice none 0 0, .int .i64 0, .int .i64 0] ∧ SrcAt wr p ∧ Kept w.heap.size p w wr)
  case atStart => exact ⟨none, 0, 0, v, [], by omega, rfl, rfl, by omega, by omega, Rise.nil _, FB3.out, Own.nil_ _ _, RB3.out, SS3.out, KK3.out⟩
  case round =>
   clear FB3 RB3 SS3 KK3 hl3 hv
   obtain ⟨Am, cm, k, u, zs, hkg, rfl, rfl, hu0, hu1, hrise, fb, own, rb, hS, hk⟩ := hrel
   have hl3 := fb.lt
   have hSl := hS.lt
   have hksz := hk.size
   by_cases hlt : k < n
   ·have hlit := (ints_lit wr [u]).more (B' := wr.heap.size + 1) (by simp)
    obtain ⟨v2, w4, hrun, own2, grow2, at2⟩ := run_appSem (w := wr.alloc (.cells #[.int .i64 u] 3)) (base := w.heap.size) (own.alloc _) 1 (A := some ⟨wr.heap.size, 0, none⟩) (m := 1) (zs := [u]) hlit (by omega) (by simp; omega)
    have nbF := own.ne_blk fb (by decide)
    have nbR := own.ne_blk rb (by decide)
    have hrow : ∀ g, (Value.slice Am k cm).ownBlock = some g → w.heap.size ≤ g := fun g hg => (own.blk_lt g hg).1
    have b4 : Below w.heap.size wr w4 := ((balloc wr _).mono hksz).trans ((Below.refl _ _).grown grow2 (by simp; omega) hrow)
    have fb4 := Blk.grown (fb.alloc _) grow2 (fun e => nbF e.symm)
    have rb4 := Blk.grown (rb.alloc _) grow2 (fun e => nbR e.symm)
    have S4 := hS.below b4 hpl
    have kk4 := hk.trans (Kept.of b4)
    obtain ⟨A2, c2, rfl, hc2, hI2, hf2⟩ := own2.ints
    have nbF2 := own2.ne_blk fb4 (by decide)
    have o0 := fb.cell 0; have f0 := fb4.cell 0; have y0 := fb4.frozen 0
    simp at o0 f0
    have hlF4 := fb4.lt
    have FB := hi_ (fb4.set_ 0 (.slice A2 (k + 1) c2)); have OWN := hi_ (own2.far (p := ⟨F, 0, none⟩) nbF2 (.slice A2 (k + 1) c2)); have RB := hi_ (rb4.far (p := ⟨F, 0, none⟩) (by simp; omega) (.slice A2 (k + 1) c2))
    have SS := hi_ (S4.far (a := ⟨F, 0, none⟩) (by simp; omega) (.slice A2 (k + 1) c2)); have KK := hi_ (kk4.setCell (a := ⟨F, 0, none⟩) (.inr (by simp; omega)) (.slice A2 (k + 1) c2))
    have HSZ := hi_ b4.size
    clear fb rb hS hk own own2 grow2 at2 b4 fb4 rb4 S4 kk4 hI2 hf2 nbF nbR nbF2 hrow hlit
    go_wp2_with fail
    refine (pick_any p _ 6 6 [0, 0, 1, 2, 5, 9] _ (SS.out.alloc _) (by exact ints_lit' _ [0, 0, 1, 2, 5, 9] _ (by simp)) (fun b off s e => by cases e; have := SS.out.lt; simp at this; omega) (by omega) (by omega)).mono ?_
    rintro e w6 ⟨⟨j, hj, rfl⟩, hS6, hk6⟩
    have hv := (show ∀ j, j < 6 → 0 ≤ nth [0, 0, 1, 2, 5, 9] j ∧ nth [0, 0, 1, 2, 5, 9] j ≤ 9 by decide) j hj
    generalize nth [0, 0, 1, 2, 5, 9] j = d at *
    have fb6 := (FB.out.alloc _).kept hpF hk6
    have rb6 := (RB.out.alloc _).kept (by omega) hk6
    have own6 := (OWN.out.alloc _).kept (p := p) (fun e => by have := (OWN.out.blk_lt p e).1; omega) hk6
    have kk6 := KK.out.trans ((Kept.of ((balloc _ _).mono KK.out.size)).trans (hk6.mono (by have := KK.out.size; simp at this ⊢; omega)))
    simp at fb6
    have FB6 := hi_ fb6; have RB6 := hi_ rb6; have OWN6 := hi_ own6; have KK6 := hi_ kk6; have SS6 := hi_ hS6
    clear fb6 rb6 own6 kk6 hS6 hk6 FB RB SS KK OWN hj
    go_wp2_with fail
    go_roundg (gk - 1)
    case measure => omega
    case rel => exact ⟨A2, c2, k + 1, u + d, zs ++ [u], by omega, by go_num, rfl, by omega, by omega, hrise.out.snoc hu0 (by omega) (by omega), FB6.out, OWN6.out, RB6.out, SS6.out, KK6.out⟩
   ·have hkn : k = n := by omega
    clear hlt hkg
    subst hkn
    obtain ⟨py, rfl⟩ := Int.eq_ofNat_of_zero_le (show 0 ≤ y by omega)
    obtain ⟨A', c', e', hcc, hI, hge⟩ := own.ints
    injection e' with e1 e2 e3
    subst e1 e3
    have hzl := own.len
    obtain ⟨b2, off2, rfl, hb2, hc2⟩ := hI.2 (by omega)
    have hbw := hge b2 off2 none rfl
    have hc1 := hc2 (k - 1) (by omega)
    have hc3 := hc2 (k - py) (by omega)
    have hz1 := hrise.out.z (k - 1) (by omega)
    have hz3 := hrise.out.z (k - py) (by omega)
    obtain ⟨j1, hj1⟩ : ∃ j, j = k - 1 := ⟨_, rfl⟩
    obtain ⟨j3, hj3⟩ : ∃ j, j = k - py := ⟨_, rfl⟩
    obtain ⟨x1, hx1⟩ : ∃ x, x = nth zs (k - 1) := ⟨_, rfl⟩
    obtain ⟨x3, hx3⟩ : ∃ x, x = nth zs (k - py) := ⟨_, rfl⟩
    rw [← hx1] at hc1 hz1
    rw [← hx3] at hc3 hz3
    rw [← hj1] at hc1
    rw [← hj3] at hc3
    have w1' : IntKind.i64.wrap ((k : Int) - 1) = (j1 : Int) := by rw [IntWalk.i64_in _ (by omega)]; omega
    have w3' : IntKind.i64.wrap ((k : Int) - py) = (j3 : Int) := by rw [IntWalk.i64_in _ (by omega)]; omega
    have w5' : IntKind.i64.wrap (x1 - x3) = x1 - x3 := IntWalk.i64_in _ (by omega)
    have hj1a : 0 ≤ (j1 : Int) := by omega
    have hj1b : (j1 : Int) < k := by omega
    have hj3a : 0 ≤ (j3 : Int) := by omega
    have hj3b : (j3 : Int) < k := by omega
    have o0 := fb.cell 0; have o1 := fb.cell 1; have o2 := fb.cell 2
    simp at o0 o1 o2
    have hbp : b2 ≠ p := by omega
    have HC2 := hi_ hc2; have HX := hi_ (And.intro hx1 hx3); have HJ := hi_ (And.intro hj1 hj3); have HZL := hi_ hzl; have HI := hi_ hI
    have FB := hi_ fb; have OWN := hi_ own; have RB := hi_ rb; have SS := hi_ hS; have KK := hi_ hk
    clear hc2 hx1 hx3 hj1 hj3 hzl hI hge fb own rb hS hk
    go_upto_region 9 with fail
    go_cut [] (fun wx => ∃ d : Int, 0 ≤ d ∧ d ≤ 8 ∧ Blk wx F 26 #[.slice (some ⟨b2, off2, none⟩) k cm, .int .i64 py, .int .i64 (x1 - x3 + d)] ∧ Own wx w.heap.size (.slice (some ⟨b2, off2, none⟩) k cm) k zs ∧
     Blk wx w.heap.size 26 #[.slice none 0 0, .int .i64 0, .int .i64 0] ∧ SrcAt wx p ∧ Kept w.heap.size p w wx)
    case first =>
     have hL2 := Nat.lt_of_lt_of_le hb2 (Nat.le_refl _)
     go_region_held3 (fun w' => w'.cell? ⟨F, 0, none⟩ = some (.slice (some ⟨b2, off2, none⟩) k cm) ∧ w'.cell? ⟨F, 1, none⟩ = some (.int .i64 py) ∧ w'.cell? ⟨b2, off2 + j1, none⟩ = some (.int .i64 x1) ∧ w'.cell? ⟨b2, off2 + j3, none⟩ = some (.int .i64 x3)) (first | go_keep | (refine ⟨?_, ?_, ?_, ?_⟩ <;> first | (rw [cell_set_off (by omega)]; assumption) | (rw [cell_set1 (by omega)]; assumption)))
      (first
       | (go_at_call 59
          refine (pick_any p _ 6 6 [0, 0, 1, 3, 4, 8] _ (by first | exact SS.out.alloc _ | (refine SrcAt.drew ?_; exact SS.out.alloc _)) (by first | exact ints_lit' _ [0, 0, 1, 3, 4, 8] _ (by simp) | (refine Ints.drew ?_; exact ints_lit' _ [0, 0, 1, 3, 4, 8] _ (by simp))) (fun b off s e => by cases e; omega) (by omega) (by omega)).mono ?_
          rintro e w6 ⟨⟨j, hj, rfl⟩, hS6, hk6⟩
          have hv := (show ∀ j, j < 6 → 0 ≤ nth [0, 0, 1, 3, 4, 8] j ∧ nth [0, 0, 1, 3, 4, 8] j ≤ 8 by decide) j hj
          generalize nth [0, 0, 1, 3, 4, 8] j = d at *
          have w6' : IntKind.i64.wrap (x1 - x3 + d) = x1 - x3 + d := IntWalk.i64_in _ (by omega)
          have fb6 := (Blk.drew (FB.out.alloc _)).kept hpF hk6
          have rb6 := (Blk.drew (RB.out.alloc _)).kept (by omega) hk6
          have own6 := (Own.drew (OWN.out.alloc _)).kept (p := p) (fun e => by have := (OWN.out.blk_lt p e).1; omega) hk6
          have kk6 := KK.out.trans ((Kept.of ((balloc _ _).mono hksz)).trans ((kofdrew hk6).mono (by simp; omega)))
          have r61 := (World.cell?_of_block (a := ⟨b2, off2 + j1, none⟩) (hk6.block b2 (by simp; omega) hbp)).trans ((World.cell?_alloc_lt wr _ ⟨b2, off2 + j1, none⟩ hb2).trans hc1)
          have r63 := (World.cell?_of_block (a := ⟨b2, off2 + j3, none⟩) (hk6.block b2 (by simp; omega) hbp)).trans ((World.cell?_alloc_lt wr _ ⟨b2, off2 + j3, none⟩ hb2).trans hc3)
          have f60 := fb6.cell 0; have f61 := fb6.cell 1; have f62 := fb6.cell 2; have y60 := fb6.frozen 2
          simp at f60 f61 f62
          have hbF : b2 ≠ F := fun e => own6.ne_blk fb6 (by decide) (by simp [Value.ownBlock, e])
          have hlF6 := fb6.lt
          have FB6 := hi_ fb6; have RB6 := hi_ rb6; have OWN6 := hi_ own6; have KK6 := hi_ kk6; have SS6 := hi_ hS6
          clear fb6 rb6 own6 kk6 hS6 hk6))
     all_goals
      go_wp2_with fail
      go_meet
      exact ⟨d, hv.1, hv.2, FB6.out.set_ 2 _, OWN6.out.far (p := ⟨F, 2, none⟩) (by simp [Value.ownBlock, hbF]) _, RB6.out.far (p := ⟨F, 2, none⟩) (by simp; omega) _, SS6.out.far (a := ⟨F, 2, none⟩) (by simp; omega) _, KK6.out.setCell (a := ⟨F, 2, none⟩) (.inr (by simp; omega)) _⟩
    case rest =>
     clear FB OWN RB SS KK HI HC2 o0 o1 o2 hc1 hc3 w1' w3' w5' hb2
     obtain ⟨d, hd0, hd1, fb, own, rb, hS, hk⟩ := hcut
     have hpFl := fb.lt
     go_wp2_with fail
     refine (n_any p 8 _ hS (by omega) (by omega)).mono ?_
     rintro e w7 ⟨x7, hx0, hx7, rfl, hS7, hk7⟩
     have fb7 := fb.kept hpF hk7
     have rb7 := rb.kept (by omega) hk7
     have own7 := own.kept (p := p) (fun e => by have := (own.blk_lt p e).1; omega) hk7
     have kk7 := hk.trans (hk7.mono hk.size)
     have f70 := fb7.cell 0; have f71 := fb7.cell 1; have f72 := fb7.cell 2; have y70 := fb7.frozen 0; have y71 := fb7.frozen 1; have y72 := fb7.frozen 2
     simp at f70 f71 f72
     have r70 := rb7.cell 0; have r71 := rb7.cell 1; have r72 := rb7.cell 2; have z70 := rb7.frozen 0; have z71 := rb7.frozen 1; have z72 := rb7.frozen 2
     simp at r70 r71 r72
     have hlF7 := fb7.lt; have hlR7 := rb7.lt
     have hbF : b2 ≠ F := fun e => own7.ne_blk fb7 (by decide) (by simp [Value.ownBlock, e])
     have hRF' : w.heap.size ≠ F := by omega
     have FB7 := hi_ fb7; have RB7 := hi_ rb7; have OWN7 := hi_ own7; have KK7 := hi_ kk7; have SS7 := hi_ hS7
     clear fb rb own hS hk fb7 rb7 own7 kk7 hS7 hk7
     have hmost : (k : Int) ≤ (most.toNat : Int) := by omega
     have hi : x1 - x3 + d = nth zs (zs.length - 1) - nth zs (zs.length - (py : Int).toNat) + d := by rw [HZL.out, Int.toNat_natCast, ← HX.out.1, ← HX.out.2]
     have HI9 := hi_ hi; clear hi
     by_cases c0 : x7 = 0
     ·have b0 : (x7 == 0) = true := by simpa using c0
      have hd : DrawC most.toNat ⟨zs ++ [inf], 1, 0⟩ := draw_inf hrise.out (by rw [HZL.out]; omega) (by omega) (v := u) (by omega)
      have HD := hi_ hd; clear hd c0
      have hlit := (ints_lit w7 [inf]).more (B' := w7.heap.size + 1) (by simp)
      obtain ⟨v2, w8, hrun, own8, grow8, at8⟩ := run_appSem (w := w7.alloc (.cells #[.int .i64 4611686018427387904] 3)) (base := w.heap.size) (OWN7.out.alloc _) 1 (A := some ⟨w7.heap.size, 0, none⟩) (m := 1) (zs := [inf]) hlit (by omega) (by have := KK7.out.size; simp; omega)
      have nbF := OWN7.out.ne_blk FB7.out (by decide)
      have nbR := OWN7.out.ne_blk RB7.out (by decide)
      have hrow : ∀ g, (Value.slice (some ⟨b2, off2, none⟩) k cm).ownBlock = some g → w.heap.size ≤ g := fun g hg => (OWN7.out.blk_lt g hg).1
      have b8 : Below w.heap.size w7 w8 := ((balloc w7 _).mono KK7.out.size).trans ((Below.refl _ _).grown grow8 (by have := KK7.out.size; simp; omega) hrow)
      have fb8 := Blk.grown (FB7.out.alloc _) grow8 (fun e => nbF e.symm)
      have rb8 := Blk.grown (RB7.out.alloc _) grow8 (fun e => nbR e.symm)
      obtain ⟨A2, c2, rfl, hc2, hI8, hf8⟩ := own8.ints
      have HT8 := hi_ (Thaw.own own8)
      have nbF8 := own8.ne_blk fb8 (by decide)
      have nbR8 := own8.ne_blk rb8 (by decide)
      have f80 := fb8.cell 0; have f81 := fb8.cell 1; have f82 := fb8.cell 2; have y80 := fb8.frozen 0; have y81 := fb8.frozen 1; have y82 := fb8.frozen 2
      simp at f80 f81 f82
      have r80 := rb8.cell 0; have r81 := rb8.cell 1; have r82 := rb8.cell 2; have z80 := rb8.frozen 0; have z81 := rb8.frozen 1; have z82 := rb8.frozen 2
      simp at r80 r81 r82
      have hlF8 := fb8.lt; have hlR8 := rb8.lt
      have SS8 := hi_ (SS7.out.below b8 hpl); have KK8 := hi_ (KK7.out.trans (Kept.of b8))
      have FB8 := hi_ fb8; have RB8 := hi_ rb8; have HI8 := hi_ hI8; have HF8 := hi_ hf8; have NB := hi_ (And.intro nbF8 nbR8)
      clear fb8 rb8 hI8 hf8 nbF nbR nbF8 nbR8 hrow b8 own8 grow8 at8 hlit
      go_wp2_with fail
      have fbz := FB8.out.store3 (.slice A2 (k + 1) c2) (.int .i64 1) (.int .i64 0)
      have rb9 := (((RB8.out.far (p := ⟨F, 0, none⟩) hRF' (.slice A2 (k + 1) c2)).far (p := ⟨F, 1, none⟩) hRF' (.int .i64 1)).far (p := ⟨F, 2, none⟩) hRF' (.int .i64 0)).store3 (.slice A2 (k + 1) c2) (.int .i64 1) (.int .i64 0)
      have hnF : ∀ b off s, A2 = some ⟨b, off, s⟩ → b ≠ F := fun b off s h e => NB.out.1 (by rw [h]; simp [Value.ownBlock, e])
      have hnR : ∀ b off s, A2 = some ⟨b, off, s⟩ → w.heap.size < b := fun b off s h => by
       have h1 := HF8.out b off s h
       have h2 := NB.out.2
       rw [h] at h2
       simp [Value.ownBlock] at h2
       omega
      have hI9 := ((HI8.out.setCell (p := ⟨F, 0, none⟩) hnF (.slice A2 (k + 1) c2)).setCell (p := ⟨F, 1, none⟩) hnF (.int .i64 1)).setCell (p := ⟨F, 2, none⟩) hnF (.int .i64 0)
      have hI10 : Ints (((w8.setCell ⟨F, 0, none⟩ (.slice A2 (k + 1) c2)).setCell ⟨F, 1, none⟩ (.int .i64 1)).setCell ⟨F, 2, none⟩ (.int .i64 0)) (((w8.setCell ⟨F, 0, none⟩ (.slice A2 (k + 1) c2)).setCell ⟨F, 1, none⟩ (.int .i64 1)).setCell ⟨F, 2, none⟩ (.int .i64 0)).heap.size A2 (k + 1) (zs ++ [inf]) := by simpa using hI9
      exact bodyPost_ret (v := .agg #[.slice A2 (k + 1) c2, .int .i64 1, .int .i64 0]) (by simp [results, Tryz.results38, go_sem, rb9.cell]) rfl
       (retD_close HD.out (by omega) hI10 hnR (((SS8.out.far (a := ⟨F, 0, none⟩) (by simp; omega) _).far (a := ⟨F, 1, none⟩) (by simp; omega) _).far (a := ⟨F, 2, none⟩) (by simp; omega) _) hpl
        (((KK8.out.setCell (a := ⟨F, 0, none⟩) (.inr (by simp; omega)) _).setCell (a := ⟨F, 1, none⟩) (.inr (by simp; omega)) _).setCell (a := ⟨F, 2, none⟩) (.inr (by simp; omega)) _) (((HT8.out.set _ _ rfl).set _ _ rfl).set _ _ rfl))
     ·by_cases c1 : x7 = 1
      ·have b0 : (x7 == 0) = false := by simpa using c0
       have b1 : (x7 == 1) = true := by simpa using c1
       clear c0 c1
       have hokf : Cv.Ok ⟨zs, py, x1 - x3 + d⟩ := by
        have := (ok_of_rise (p := (py : Int)) (d := d) hrise.out (by rw [HZL.out]; omega) (by rw [HZL.out]; omega) (by omega) (by omega) (by omega) (by rw [HZL.out]; omega) hd0 (by omega)).1
        rw [← HI9.out] at this
        exact this
       have OKF := hi_ hokf; clear hokf
       go_wp2_with fail
       go_region_with (first
        | (go_at_call_of 18 (Value.int IntKind.i64 4)
           refine (n_any p 4 _ (by first | exact SS7.out | exact SrcAt.drew SS7.out) (by omega) (by omega)).mono ?_
           rintro e w8 ⟨y4, hy40, hy41, rfl, hS8, hk8⟩
           have fb8 := (Blk.drew FB7.out).kept hpF hk8
           have f80 := fb8.cell 0; have f81 := fb8.cell 1; have f82 := fb8.cell 2
           simp at f80 f81 f82
           have own8 := (Own.drew OWN7.out).kept (p := p) (fun e => by have := (OWN7.out.blk_lt p e).1; omega) hk8
           have rb8 := (Blk.drew RB7.out).kept (by omega) hk8
           have kk8 := KK7.out.trans ((kofdrew hk8).mono KK7.out.size)
           have FB8 := hi_ fb8; have KK8 := hi_ kk8; have SS8 := hi_ hS8; have OWN8 := hi_ own8; have RB8 := hi_ rb8
           clear fb8 hk8 hS8 own8 rb8 kk8)
        | (go_at_call_of 18 (Value.int IntKind.i64 2)
           refine (n_any p 2 _ (by exact SS8.out) (by omega) (by omega)).mono ?_
           rintro e w9 ⟨y2, hy20, hy21, rfl, hS9, hk9⟩
           have fb9 := FB8.out.kept hpF hk9
           have f90 := fb9.cell 0; have f91 := fb9.cell 1; have f92 := fb9.cell 2
           simp at f90 f91 f92
           have own9 := OWN8.out.kept (p := p) (fun e => by have := (OWN8.out.blk_lt p e).1; omega) hk9
           have rb9 := RB8.out.kept (by omega) hk9
           have kk9 := KK8.out.trans (hk9.mono KK8.out.size)
           have FB9 := hi_ fb9; have KK9 := hi_ kk9; have SS9 := hi_ hS9; have OWN9 := hi_ own9; have RB9 := hi_ rb9
           clear fb9 hk9 hS9 own9 rb9 kk9)
        | (go_at_call 93
           rw [show IntKind.i64.wrap (1 + y2) = 1 + y2 from IntWalk.i64_in _ (by omega)]
           obtain ⟨A', c', e', hcc, hI9, hge9⟩ := OWN9.out.ints
           injection e' with e1 e2 e3
           subst e1 e3
           refine (longer2_any (some ⟨b2, off2, none⟩) k cm py (x1 - x3 + d) y4 (1 + y2) zs _ (by exact hI9) OKF.out (by omega) (by omega) (by omega) (by omega)).mono ?_
           rintro e w10 ⟨g, hg, A5, n5, c5, rfl, hI5, hA5, hb10, hcn, hth5⟩
           have hcn := hcn hcc
           have HT5 := hi_ (hth5 (Thaw.own OWN9.out))
           clear hth5
           have hlF9 := FB9.out.lt
           have hlR9 := RB9.out.lt
           have hnb : ∀ b off s, A5 = some ⟨b, off, s⟩ → b ≠ F ∧ w.heap.size < b := by
            intro b off s h
            rcases hA5 with e | e
            ·rw [h] at e
             cases e
             have h1 := hge9 _ _ _ rfl
             have h2 := OWN9.out.ne_blk RB9.out (by decide)
             simp [Value.ownBlock] at h2
             exact ⟨hbF, by omega⟩
            ·have := e b off s h
             omega
           have fb10 := FB9.out.below hb10 hlF9
           have rb10 := RB9.out.below hb10 hlR9
           have g0 := fb10.cell 0; have g1 := fb10.cell 1; have g2 := fb10.cell 2; have v0 := fb10.frozen 0; have v1 := fb10.frozen 1; have v2 := fb10.frozen 2
           simp at g0 g1 g2
           have s0 := rb10.cell 0; have s1 := rb10.cell 1; have s2 := rb10.cell 2; have t0 := rb10.frozen 0; have t1 := rb10.frozen 1; have t2 := rb10.frozen 2
           simp at s0 s1 s2
           have hlF10 := fb10.lt; have hlR10 := rb10.lt
           have HG := hi_ hg; have HI5 := hi_ hI5; have HNB := hi_ hnb; have FB10 := hi_ fb10; have RB10 := hi_ rb10; have HB10 := hi_ hb10
           clear hg hI5 hnb fb10 rb10 hb10 hA5 hI9 hge9))
       all_goals
        go_wp2_with fail
        have hd : DrawC most.toNat g := by
         have := HG.out
         rw [HI9.out] at this
         exact draw_longer (most := most.toNat) hrise.out (by rw [HZL.out]; omega) (by rw [HZL.out]; omega) (by omega) (by omega) (by omega) (by omega) (by rw [HZL.out]; omega) hd0 hd1 this (by omega) (by omega) (by omega)
        have rb11 := (((RB10.out.far (p := ⟨F, 0, none⟩) hRF' (.slice A5 n5 c5)).far (p := ⟨F, 1, none⟩) hRF' (.int .i64 g.per)).far (p := ⟨F, 2, none⟩) hRF' (.int .i64 g.inc)).store3 (.slice A5 n5 c5) (.int .i64 g.per) (.int .i64 g.inc)
        have hI11 := ((HI5.out.setCell (p := ⟨F, 0, none⟩) (fun b off s h => (HNB.out b off s h).1) (.slice A5 n5 c5)).setCell (p := ⟨F, 1, none⟩) (fun b off s h => (HNB.out b off s h).1) (.int .i64 g.per)).setCell (p := ⟨F, 2, none⟩) (fun b off s h => (HNB.out b off s h).1) (.int .i64 g.inc)
        have hI12 : Ints (((w10.setCell ⟨F, 0, none⟩ (.slice A5 n5 c5)).setCell ⟨F, 1, none⟩ (.int .i64 g.per)).setCell ⟨F, 2, none⟩ (.int .i64 g.inc)) (((w10.setCell ⟨F, 0, none⟩ (.slice A5 n5 c5)).setCell ⟨F, 1, none⟩ (.int .i64 g.per)).setCell ⟨F, 2, none⟩ (.int .i64 g.inc)).heap.size A5 n5 g.vals := by simpa using hI11
        have kk10 : Kept w.heap.size p w w10 := KK9.out.trans ((Kept.of HB10.out).mono KK9.out.size)
        exact bodyPost_ret (v := .agg #[.slice A5 n5 c5, .int .i64 g.per, .int .i64 g.inc]) (by simp [results, Tryz.results38, go_sem, rb11.cell]) rfl
         (retD_close (zs := g.vals) (per := g.per) (inc := g.inc) hd hcn hI12 (fun b off s h => (HNB.out b off s h).2) ((((SS9.out.ext HB10.out).far (a := ⟨F, 0, none⟩) (by simp; omega) _).far (a := ⟨F, 1, none⟩) (by simp; omega) _).far (a := ⟨F, 2, none⟩) (by simp; omega) _) hpl
          (((kk10.setCell (a := ⟨F, 0, none⟩) (.inr (by simp; omega)) _).setCell (a := ⟨F, 1, none⟩) (.inr (by simp; omega)) _).setCell (a := ⟨F, 2, none⟩) (.inr (by simp; omega)) _) (((HT5.out.set _ _ rfl).set _ _ rfl).set _ _ rfl))
      ·have b0 : (x7 == 0) = false := by simpa using c0
       have b1 : (x7 == 1) = false := by simpa using c1
       clear c0 c1
       have hd : DrawC most.toNat ⟨zs, py, x1 - x3 + d⟩ := by
        have := draw_rise (p := (py : Int)) (d := d) (most := most.toNat) hrise.out (by rw [HZL.out]; omega) (by rw [HZL.out]; omega) (by omega) (by omega) (by omega) (by omega) (by rw [HZL.out]; omega) hd0 hd1
        rw [← HI9.out] at this
        exact this
       have HD := hi_ hd; clear hd
       go_wp2_with fail
       have rb8 := RB7.out.store3 (.slice (some ⟨b2, off2, none⟩) k cm) (.int .i64 py) (.int .i64 (x1 - x3 + d))
       obtain ⟨A', c', e', hcc, hI, hge⟩ := OWN7.out.ints
       injection e' with e1 e2 e3
       subst e1 e3
       exact bodyPost_ret (v := .agg #[.slice (some ⟨b2, off2, none⟩) k cm, .int .i64 py, .int .i64 (x1 - x3 + d)]) (by simp [results, Tryz.results38, go_sem, rb8.cell]) rfl
        (retD_close HD.out hcc hI (fun b off s h => by have h1 := hge b off s h; have h2 := OWN7.out.ne_blk RB7.out (by decide); cases h; simp [Value.ownBlock] at h2; omega) SS7.out hpl KK7.out (Thaw.own OWN7.out))
end
section
open Go.RowKit
section
variable {p F n c : Nat} {w w' : World} {A : Option Addr} {f : Cv}
theorem SrcAt.far3 (h : SrcAt w p) {G : Nat} {x y z : Value} (hG : p < G) : SrcAt (((w.setCell ⟨G, 0, none⟩ x).setCell ⟨G, 1, none⟩ y).setCell ⟨G, 2, none⟩ z) p :=
 ((h.far (a := ⟨G, 0, none⟩) hG x).far (a := ⟨G, 1, none⟩) hG y).far (a := ⟨G, 2, none⟩) hG z
theorem Kept.set3 {B : Nat} {w0 : World} (h : Kept B p w0 w) {G : Nat} {x y z : Value} (hG : B ≤ G) : Kept B p w0 (((w.setCell ⟨G, 0, none⟩ x).setCell ⟨G, 1, none⟩ y).setCell ⟨G, 2, none⟩ z) :=
 ((h.setCell (a := ⟨G, 0, none⟩) (.inr hG) x).setCell (a := ⟨G, 1, none⟩) (.inr hG) y).setCell (a := ⟨G, 2, none⟩) (.inr hG) z
theorem kstep {w0 : World} (h : Kept w0.heap.size p w0 w) (k : Kept w.heap.size p w w') : Kept w0.heap.size p w0 w' := kthen h k
theorem kbel {w0 : World} (h : Kept w0.heap.size p w0 w) (k : Below w.heap.size w w') : Kept w0.heap.size p w0 w' := kbelow h k
theorem kall {w0 : World} (h : Kept w0.heap.size p w0 w) (o : Obj) : Kept w0.heap.size p w0 (w.alloc o) := kbelow h (balloc w o)
theorem kdrw {w0 : World} (h : Kept w0.heap.size p w0 w) : Kept w0.heap.size p w0 w.drew := ⟨h.os, h.tape, h.output, h.size, h.block⟩
end
end
section
open Go.RowKit
structure CR where
 A : Option Addr
 n : Nat
 c : Nat
 f : Cv
def CR.cells (x : CR) : List Value := [.slice x.A x.n x.c, .int .i64 x.f.per, .int .i64 x.f.inc]
structure CR.In (x : CR) (p : Nat) (w : World) : Prop where
 ints : Ints w w.heap.size x.A x.n x.f.vals
 ap : 0 < x.n → ∀ b off s, x.A = some ⟨b, off, s⟩ → b ≠ p
theorem Ints.kept0 {w w' : World} {p n : Nat} {A : Option Addr} {zs : List Int} (h : Ints w w.heap.size A n zs) (ha : 0 < n → ∀ b off s, A = some ⟨b, off, s⟩ → b ≠ p) (k : Kept w.heap.size p w w') : Ints w' w'.heap.size A n zs :=
 ⟨h.1, fun hn => by
  obtain ⟨b, off, e, hb, hc⟩ := h.2 hn
  exact ⟨b, off, e, Nat.lt_of_lt_of_le hb k.size, fun j hj => (World.cell?_of_block (a := ⟨b, off + j, none⟩) (k.block b hb (ha hn _ _ _ e))).trans (hc j hj)⟩⟩
section
variable {p : Nat} {w w' : World} {x : CR}
theorem CR.In.below (h : x.In p w) (hb : Below w.heap.size w w') : x.In p w' := ⟨h.ints.ext hb, h.ap⟩
theorem CR.In.kept (h : x.In p w) (hk : Kept w.heap.size p w w') : x.In p w' := ⟨h.ints.kept0 h.ap hk, h.ap⟩
theorem CR.In.alloc (h : x.In p w) (o : Obj) : x.In p (w.alloc o) := h.below (balloc w o)
theorem CR.In.drew (h : x.In p w) : x.In p w.drew := ⟨h.ints, h.ap⟩
structure Lc (p : Nat) (w : World) (F : Nat) (x : CR) : Prop where
 blk : Blk w F 26 #[.slice x.A x.n x.c, .int .i64 x.f.per, .int .i64 x.f.inc]
 inn : x.In p w
 ne : F ≠ p
variable {F : Nat}
theorem Lc.lt (h : Lc p w F x) : F < w.heap.size := h.blk.lt
theorem Lc.below (h : Lc p w F x) (hb : Below w.heap.size w w') : Lc p w' F x := ⟨h.blk.below hb h.lt, h.inn.below hb, h.ne⟩
theorem Lc.kept (h : Lc p w F x) (hk : Kept w.heap.size p w w') : Lc p w' F x := ⟨h.blk.kept h.ne hk, h.inn.kept hk, h.ne⟩
theorem Lc.alloc (h : Lc p w F x) (o : Obj) : Lc p (w.alloc o) F x := h.below (balloc w o)
theorem Lc.drew (h : Lc p w F x) : Lc p w.drew F x := ⟨h.blk, h.inn.drew, h.ne⟩
theorem Lc.cells (h : Lc p w F x) : w.cell? ⟨F, 0, none⟩ = some (.slice x.A x.n x.c) ∧ w.cell? ⟨F, 1, none⟩ = some (.int .i64 x.f.per) ∧ w.cell? ⟨F, 2, none⟩ = some (.int .i64 x.f.inc) ∧ F < w.heap.size := by
 have q0 := h.blk.cell 0; have q1 := h.blk.cell 1; have q2 := h.blk.cell 2
 simp at q0 q1 q2
 exact ⟨q0, q1, q2, h.lt⟩
theorem Lc.new (h : x.In p w) (hp : p < w.heap.size) : Lc p (w.alloc (.cells #[.slice x.A x.n x.c, .int .i64 x.f.per, .int .i64 x.f.inc] 26)) w.heap.size x :=
 ⟨Blk.new _ _ _, h.alloc _, by omega⟩
variable {b : Nat} {xs : List CR}
end
end
section
open Go.RowKit
theorem CR.In.new {p B : Nat} {w : World} {x : CR} (h : Ints w w.heap.size x.A x.n x.f.vals) (hB : ∀ b off s, x.A = some ⟨b, off, s⟩ → B ≤ b) (hp : p < B) : x.In p w := ⟨h, fun _ b off s e => by have := hB b off s e; omega⟩
structure EnvL (p : Nat) (w0 w : World) (vs : List (Nat × CR)) : Prop where
 s : SrcAt w p
 k : Kept w0.heap.size p w0 w
 v : ∀ x ∈ vs, Lc p w x.1 x.2
section
variable {p : Nat} {w0 w w' : World} {vs : List (Nat × CR)}
theorem EnvL.start {w1 : World} (hS : SrcAt w1 p) (hb : Below w.heap.size w w1) : EnvL p w w1 [] := ⟨hS, Kept.of hb, fun x hx => by cases hx⟩
theorem EnvL.below (h : EnvL p w0 w vs) (hb : Below w.heap.size w w') : EnvL p w0 w' vs := ⟨h.s.ext hb, kbel h.k hb, fun x hx => (h.v x hx).below hb⟩
theorem EnvL.alloc (h : EnvL p w0 w vs) (o : Obj) : EnvL p w0 (w.alloc o) vs := h.below (balloc w o)
theorem EnvL.drew (h : EnvL p w0 w vs) : EnvL p w0 w.drew vs := ⟨h.s, kdrw h.k, fun x hx => (h.v x hx).drew⟩
theorem EnvL.kept (h : EnvL p w0 w vs) (hS : SrcAt w' p) (hk : Kept w.heap.size p w w') : EnvL p w0 w' vs := ⟨hS, kstep h.k hk, fun x hx => (h.v x hx).kept hk⟩
theorem EnvL.push (h : EnvL p w0 w vs) {X : CR} (hX : X.In p w) : EnvL p w0 (w.alloc (.cells #[.slice X.A X.n X.c, .int .i64 X.f.per, .int .i64 X.f.inc] 26)) (vs ++ [(w.heap.size, X)]) :=
 ⟨h.s.alloc _, kall h.k _, fun x hx => by
  rcases List.mem_append.1 hx with hx | hx
  ·exact (h.v x hx).alloc _
  ·simp only [List.mem_singleton] at hx
   subst hx
   exact Lc.new hX h.s.lt⟩
theorem EnvL.get (h : EnvL p w0 w vs) (i : Nat) {F : Nat} {X : CR} (hx : vs[i]? = some (F, X)) : Lc p w F X := h.v (F, X) (List.mem_of_getElem? hx)
theorem EnvL.fin (h : EnvL w0.heap.size w0 w vs) : Below w0.heap.size w0 w := h.k.below (Nat.le_refl _)
end
end
section
open Go.RowKit
structure RowC (w : World) (b : Nat) (xs : List CR) : Prop where
 lt : b < w.heap.size
 cell : ∀ (k j : Nat) (x : CR), xs[k]? = some x → j < 3 → w.cell? ⟨b, k * 3 + j, none⟩ = x.cells[j]?
 inn : ∀ x ∈ xs, Ints w w.heap.size x.A x.n x.f.vals
section
variable {p b : Nat} {w w' : World} {xs : List CR}
theorem RowC.get (h : RowC w b xs) {k : Nat} (hk : k < xs.length) : ∃ x, xs[k]? = some x ∧ Ints w w.heap.size x.A x.n x.f.vals ∧ w.cell? ⟨b, k * 3, none⟩ = some (.slice x.A x.n x.c) ∧ w.cell? ⟨b, k * 3 + 1, none⟩ = some (.int .i64 x.f.per) ∧ w.cell? ⟨b, k * 3 + 2, none⟩ = some (.int .i64 x.f.inc) := by
 have hx : xs[k]? = some xs[k] := List.getElem?_eq_getElem hk
 exact ⟨xs[k], hx, h.inn _ (List.getElem_mem hk), h.cell k 0 _ hx (by omega), h.cell k 1 _ hx (by omega), h.cell k 2 _ hx (by omega)⟩
structure RowO (w : World) (b o : Nat) (xs : List CR) : Prop where
 lt : b < w.heap.size
 cell : ∀ (k j : Nat) (x : CR), xs[k]? = some x → j < 3 → w.cell? ⟨b, o + k * 3 + j, none⟩ = x.cells[j]?
 inn : ∀ x ∈ xs, Ints w w.heap.size x.A x.n x.f.vals
theorem RowO.below {o : Nat} (h : RowO w b o xs) (hb : Below w.heap.size w w') : RowO w' b o xs :=
 ⟨Nat.lt_of_lt_of_le h.lt hb.size, fun k j x hx hj => ((bcell hb).1 b _ h.lt).trans (h.cell k j x hx hj), fun x hx => (h.inn x hx).ext hb⟩
theorem RowO.get {o : Nat} (h : RowO w b o xs) {k : Nat} (hk : k < xs.length) : ∃ x, xs[k]? = some x ∧ Ints w w.heap.size x.A x.n x.f.vals ∧ w.cell? ⟨b, o + k * 3, none⟩ = some (.slice x.A x.n x.c) ∧ w.cell? ⟨b, o + k * 3 + 1, none⟩ = some (.int .i64 x.f.per) ∧ w.cell? ⟨b, o + k * 3 + 2, none⟩ = some (.int .i64 x.f.inc) := by
 have hx : xs[k]? = some xs[k] := List.getElem?_eq_getElem hk
 exact ⟨xs[k], hx, h.inn _ (List.getElem_mem hk), h.cell k 0 _ hx (by omega), h.cell k 1 _ hx (by omega), h.cell k 2 _ hx (by omega)⟩
end
def TotR : Cv → List Cv → Cv → Int → Prop
 | s, [], r, er => r = s ∧ er = 0
 | s, f :: fs, r, er => ∃ t e, SumS s f t e ∧ ((e = 0 ∧ TotR t fs r er) ∨ (e ≠ 0 ∧ r = Cv.none ∧ er = e))
set_option maxHeartbeats 4000000 in
set_option maxRecDepth 100000 in
theorem total_anyO (b : Option Addr) (n c : Nat) (xs : List CR) (w : World) (hl : xs.length = n) (hn : n ≤ 1000) (hrow : 0 < n → ∃ g o, b = some ⟨g, o, none⟩ ∧ RowO w g o xs) (hlen : ∀ x ∈ xs, x.n ≤ 1000000) :
 Calls Tryz.prog 109 #[.slice b n c] w (RetS (TotR cvZ (xs.map CR.f)) w) := by
 have HROW := hi_ hrow; have HLEN := hi_ hlen; have HL := hi_ hl
 clear hrow hlen hl
 have RB := hi_ (Blk.new w 26 #[.slice none 0 0, .int .i64 0, .int .i64 0])
 have BW := hi_ (balloc w (.cells #[.slice none 0 0, .int .i64 0, .int .i64 0] 26))
 go_enter Tryz.func109, Tryz.ntmps109
 go_wp2_with fail
 refine (flat0_any _).mono ?_
 rintro e w1 ⟨A, m, d, rfl, hI, hA, hb⟩
 have hs0 := (RB.out.below hb RB.out.lt).lt
 have ZB := hi_ (Blk.new w1 26 #[.slice A m d, .int .i64 cvZ.per, .int .i64 cvZ.inc])
 have IZ := hi_ (hI.alloc' (.cells #[.slice A m d, .int .i64 cvZ.per, .int .i64 cvZ.inc] 26))
 have hm1 : m ≤ 1 := by have h2 : cvZ.vals.length = m := hI.1; rw [← h2]; exact Nat.le_refl _
 have OZ := hi_ (show 0 < m → ∀ b off s, A = some ⟨b, off, s⟩ → b ≠ w1.heap.size from fun hm b off s e => by
  obtain ⟨b', off', e', hb', _⟩ := hI.2 hm
  rw [e] at e'; cases e'; omega)
 have LZ := hi_ (show ∀ b off s, A = some ⟨b, off, s⟩ → w.heap.size + 1 ≤ b from fun b off s e => by have := hA b off s e; simp at this; omega)
 replace RB := hi_ ((RB.out.below hb RB.out.lt).alloc (.cells #[.slice A m d, .int .i64 cvZ.per, .int .i64 cvZ.inc] 26))
 replace BW := hi_ (bthen (bthen BW.out hb) (balloc _ (.cells #[.slice A m d, .int .i64 cvZ.per, .int .i64 cvZ.inc] 26)))
 clear hI hA hb
 go_upto_region 2 with fail
 generalize hwe : w1.alloc (.cells #[.slice A m d, .int .i64 cvZ.per, .int .i64 cvZ.inc] 26) = we at *
 clear hwe
 generalize w1.heap.size = Z at *
 go_wp2_with fail
 go_loopg [5, 7, 14] n (fun gg s5 s7 s14 wx => ∃ (k : Nat) (s : Cv) (A : Option Addr) (m d : Nat), k + gg = n ∧ s14 = .int .i64 k ∧ s5 = .int .i64 0 ∧ m ≤ 1000 ∧ Blk wx Z 26 #[.slice A m d, .int .i64 s.per, .int .i64 s.inc] ∧ Ints wx wx.heap.size A m s.vals ∧
  (0 < m → ∀ b off s, A = some ⟨b, off, s⟩ → b ≠ Z) ∧ (∀ b off s, A = some ⟨b, off, s⟩ → w.heap.size + 1 ≤ b) ∧ (∀ r er, TotR s ((xs.drop k).map CR.f) r er → TotR cvZ (xs.map CR.f) r er) ∧ Blk wx w.heap.size 26 #[.slice none 0 0, .int .i64 0, .int .i64 0] ∧ Below w.heap.size w wx)
 case atStart => exact ⟨0, cvZ, A, m, d, by omega, rfl, rfl, by omega, ZB.out, IZ.out, OZ.out, LZ.out, fun r er h => by rw [List.drop_zero] at h; exact h, RB.out, BW.out⟩
 case round =>
  clear ZB IZ OZ LZ RB BW hm1
  obtain ⟨k, s, A, m, d, hkg, rfl, rfl, hm, hZB, hIZ, hOZ, hLZ, hT, hRB, hBW⟩ := hrel
  have ZB := hi_ hZB; have IZ := hi_ hIZ; have OZ := hi_ hOZ; have LZ := hi_ hLZ; have HT := hi_ hT; have RB := hi_ hRB; have BW := hi_ hBW
  clear hZB hIZ hOZ hLZ hT hRB hBW
  by_cases hk : k < n
  ·have hki : (k : Int) < n := by omega
   obtain ⟨g, o, hg, hrow⟩ := HROW.out (by omega)
   subst hg
   obtain ⟨x, hx, hix, x0, x1, x2⟩ := (hrow.below BW.out).get (k := k) (by rw [HL.out]; exact hk)
   have hxn := HLEN.out x (List.mem_of_getElem? hx)
   have hgl := (hrow.below BW.out).lt
   have HX := hi_ hx; have IX := hi_ hix
   clear hx hix hrow
   obtain ⟨⟨q0, q1, q2⟩, ⟨k0, k1, k2⟩, hlq⟩ := ZB.out.c3
   have XB := hi_ (Blk.new wr 26 #[.slice x.A x.n x.c, .int .i64 x.f.per, .int .i64 x.f.inc])
   go_upto_region 5 with fail
   clear q0 q1 q2 k0 k1 k2 hlq
   clear x0 x1 x2 hgl
   replace ZB := hi_ (ZB.out.alloc (.cells #[.slice x.A x.n x.c, .int .i64 x.f.per, .int .i64 x.f.inc] 26))
   replace IZ := hi_ (IZ.out.alloc' (.cells #[.slice x.A x.n x.c, .int .i64 x.f.per, .int .i64 x.f.inc] 26))
   replace IX := hi_ (IX.out.alloc' (.cells #[.slice x.A x.n x.c, .int .i64 x.f.per, .int .i64 x.f.inc] 26))
   replace RB := hi_ (RB.out.alloc (.cells #[.slice x.A x.n x.c, .int .i64 x.f.per, .int .i64 x.f.inc] 26))
   replace BW := hi_ (bthen BW.out (balloc _ (.cells #[.slice x.A x.n x.c, .int .i64 x.f.per, .int .i64 x.f.inc] 26)))
   generalize hwe : wr.alloc (.cells #[.slice x.A x.n x.c, .int .i64 x.f.per, .int .i64 x.f.inc] 26) = wf at *
   clear hwe
   generalize wr.heap.size = X at *
   obtain ⟨⟨q0, q1, q2⟩, ⟨k0, k1, k2⟩, hlq⟩ := ZB.out.c3
   obtain ⟨⟨x0, x1, x2⟩, _, hlx⟩ := XB.out.c3
   go_wp2_with fail
   refine (psum_any A x.A m x.n d x.c s.per s.inc x.f.per x.f.inc s.vals x.f.vals _ (by exact IZ.out) (by exact IX.out) (by omega) (by omega)).mono ?_
   rintro e w2 ⟨r, er, hS, A2, m2, d2, rfl, hI, hA, hb⟩
   have hzl := ZB.out.lt
   have hm2 : m2 ≤ 400 := by
    have h2 : r.vals.length = m2 := hI.1
    rcases hS with ⟨_, rfl, _⟩ | ⟨_, _, a', b', _, _, ⟨_, rfl, _⟩ | ⟨_, g', hg', ⟨hl', rfl, _⟩ | ⟨_, rfl, _⟩⟩⟩
    ·rw [← h2]; decide
    ·rw [← h2]; decide
    ·rw [← h2]; exact hl'.1
    ·rw [← h2]; decide
   have HS := hi_ hS
   have OZ2 := hi_ (show ∀ b off s, A2 = some ⟨b, off, s⟩ → b ≠ Z from fun b off s e => by have := hA b off s e; omega)
   have LZ2 := hi_ (show ∀ b off s, A2 = some ⟨b, off, s⟩ → w.heap.size + 1 ≤ b from fun b off s e => by have := hA b off s e; omega)
   replace ZB := hi_ (ZB.out.below hb ZB.out.lt)
   replace RB := hi_ (RB.out.below hb RB.out.lt)
   replace BW := hi_ (bthen BW.out hb)
   have I2 := hi_ hI
   have hxd : xs.drop k = x :: xs.drop (k + 1) := by
    have h1 : k < xs.length := by rw [HL.out]; exact hk
    rw [List.drop_eq_getElem_cons h1]
    have h2 := HX.out
    rw [List.getElem?_eq_getElem h1] at h2
    injection h2 with h2
    rw [h2]
   have HT2 := hi_ (show ∀ q eq, ((er = 0 ∧ TotR r ((xs.drop (k + 1)).map CR.f) q eq) ∨ (er ≠ 0 ∧ q = Cv.none ∧ eq = er)) → TotR cvZ (xs.map CR.f) q eq from fun q eq h => HT.out q eq (by
    rw [hxd, List.map_cons]
    exact ⟨r, er, HS.out, h⟩))
   clear hS hI hA hb q0 q1 q2 k0 k1 k2 hlq x0 x1 x2 hlx XB IZ IX OZ LZ HT hxd
   have hWZ : w.heap.size < Z := by omega
   obtain ⟨⟨q0, q1, q2⟩, ⟨k0, k1, k2⟩, hlq⟩ := ZB.out.c3
   go_upto_region 6 with fail
   clear q0 q1 q2 k0 k1 k2 hlq
   have st := Sto.three Z w2 (.slice A2 m2 d2) (.int .i64 r.per) (.int .i64 r.inc)
   replace I2 := hi_ (I2.out.sto st OZ2.out)
   replace ZB := hi_ (ZB.out.store3 (.slice A2 m2 d2) (.int .i64 r.per) (.int .i64 r.inc))
   replace RB := hi_ (RB.out.sto st (by omega))
   replace BW := hi_ (bsto BW.out st (by omega))
   clear st
   generalize hwe : ((w2.setCell ⟨Z, 0, none⟩ (.slice A2 m2 d2)).setCell ⟨Z, 1, none⟩ (.int .i64 r.per)).setCell ⟨Z, 2, none⟩ (.int .i64 r.inc) = w3 at *
   clear hwe
   by_cases he : er = 0
   ·subst he
    have HT3 := hi_ (fun q eq h => HT2.out q eq (.inl ⟨rfl, h⟩))
    clear HT2
    go_wp2_with fail
    go_roundg (gk - 1)
    case measure => omega
    case rel => exact ⟨k + 1, r, A2, m2, d2, by omega, by go_num, rfl, by omega, ZB.out, I2.out, fun _ => OZ2.out, LZ2.out, HT3.out, RB.out, BW.out⟩
   ·have g1 : (er != 0) = true := by simpa using he
    have FN := hi_ (HT2.out Cv.none er (.inr ⟨he, rfl, rfl⟩))
    clear he HT2
    obtain ⟨⟨r0, r1, r2⟩, ⟨y0, y1, y2⟩, hlr⟩ := RB.out.c3
    go_wp2_with fail
    have rb := RB.out.store3 (.slice none 0 0) (.int .i64 0) (.int .i64 0)
    refine bodyPost_ret (v := .tuple #[.agg #[(.slice none 0 0), .int .i64 0, .int .i64 0], .int .i64 er]) (by simp [results, Tryz.results109, go_sem, rb.cell]) rfl ?_
    exact retS_none FN.out (bst3 BW.out (by omega) _ _ _)
  ·have hkn : k = n := by omega
   subst hkn
   have FN := hi_ (HT.out s 0 (by rw [List.drop_eq_nil_of_le (by rw [HL.out]; exact Nat.le_refl _)]; exact ⟨rfl, rfl⟩))
   clear hk hkg HT
   obtain ⟨⟨q0, q1, q2⟩, ⟨k0, k1, k2⟩, hlq⟩ := ZB.out.c3
   obtain ⟨⟨r0, r1, r2⟩, ⟨y0, y1, y2⟩, hlr⟩ := RB.out.c3
   go_wp2_with fail
   have rb := RB.out.store3 (.slice A m d) (.int .i64 s.per) (.int .i64 s.inc)
   refine bodyPost_ret (v := .tuple #[.agg #[.slice A m d, .int .i64 s.per, .int .i64 s.inc], .int .i64 0]) (by simp [results, Tryz.results109, go_sem, rb.cell]) rfl ?_
   exact retS_store FN.out LZ.out (Nat.le_refl _) (by omega) IZ.out BW.out
end
section
theorem fin_of {h : Nat → Int} {g : Cv} (hg : NF h g) (ho : g.Ok) (hne : ∀ t, t ≤ 400 → h t ≠ inf) : g.Fin := by
 have h1 := ho.n1; have h2 := ho.n2
 refine ⟨ho, ?_⟩
 rw [← Cv.at_lt (by omega), hg.at]
 exact hne _ (by omega)
theorem sumS_fin {f g r : Cv} (hf : f.Fin) (hg : g.Fin) (h : SumS f g r 0) : r.Fin ∧ ∀ t, r.at t = f.at t + g.at t := by
 have hv : ∀ t, sumV f g t = f.at t + g.at t := fun t => by
  unfold sumV
  rw [if_neg (fun h => h.elim (hf.not_infAt t) (hg.not_infAt t))]
 rcases h with ⟨_, _, h⟩ | ⟨hfo, hgo, a, b, ha, hb, ⟨_, _, h⟩ | ⟨_, h⟩⟩
 ·omega
 ·omega
 ·have h' : MadeS (sumV a b) r 0 := h
  rw [sumV_nf hf.1 hg.1 ha hb] at h'
  rcases h'.get (sumV_up hf.1 hg.1) with ⟨_, h1, h2⟩ | ⟨h1, _⟩
  ·exact ⟨fin_of h2 h1 (fun t ht => by rw [hv]; exact hf.add_ne hg (by omega)), fun t => by rw [h2.at, hv]⟩
  ·omega
def sumAt (fs : List Cv) (t : Nat) : Int := (fs.map fun f => f.at t).sum
theorem tot_fin : ∀ {fs : List Cv} {s r : Cv}, s.Fin → (∀ f ∈ fs, f.Fin) → TotR s fs r 0 → r.Fin ∧ ∀ t, r.at t = s.at t + sumAt fs t
 | [], s, r, hs, _, h => by
   obtain ⟨rfl, _⟩ := h
   exact ⟨hs, fun t => by simp [sumAt]⟩
 | f :: fs, s, r, hs, hf, ⟨t, e, h1, h2⟩ => by
   rcases h2 with ⟨rfl, h2⟩ | ⟨h2, _, h3⟩
   ·obtain ⟨a1, a2⟩ := sumS_fin hs (hf f (List.mem_cons_self ..)) h1
    obtain ⟨b1, b2⟩ := tot_fin a1 (fun g hg => hf g (List.mem_cons_of_mem _ hg)) h2
    refine ⟨b1, fun u => ?_⟩
    rw [b2, a2]
    simp [sumAt]
    omega
   ·exact absurd h3.symm h2
theorem cvZ_fin : cvZ.Fin := ⟨nf_lim_ok zero_nf ⟨Int.le_refl _, fun _ => Int.le_refl _⟩ cvZ_lim, by decide⟩
theorem cvZ_at (t : Nat) : cvZ.at t = 0 := by
 have := zero_nf.at t
 exact this
theorem raiseS_fin {f r : Cv} {d : Int} (hf : f.Fin) (h0 : 0 ≤ d) (h1 : d ≤ 1073741824) (h : RaiseS f d r 0) : r.Fin ∧ r.at 0 = 0 ∧ ∀ t, 0 < t → r.at t = f.at t + d := by
 have hm := RaiseS.made hf.1 h0 h1 h
 rcases hm.get (raise_up hf.1 h0 h1) with ⟨_, h1', h2⟩ | ⟨h3, _⟩
 ·refine ⟨fin_of h2 h1' (fun t ht => ?_), by rw [h2.at, raiseV_zero], fun t ht => by rw [h2.at, raiseV_fin ht (hf.not_infAt t)]⟩
  rcases Nat.eq_zero_or_pos t with e | e
  ·subst e; rw [raiseV_zero]; decide
  ·rw [raiseV_fin e (hf.not_infAt t)]
   have := hf.at_bd t
   have h5 : (t : Int) * 1073741824 ≤ 400 * 1073741824 := Int.mul_le_mul_of_nonneg_right (by omega) (by omega)
   intro e2
   have : inf = 4611686018427387904 := rfl
   omega
 ·omega
def lineCv (c : Int) : Cv := ⟨[0], 1, c⟩
theorem line_fin {c : Int} (h0 : 0 ≤ c) (h1 : c ≤ 1073741824) : (lineCv c).Fin := by
 have hl : (lineCv c).vals.length = 1 := rfl
 have hp : (lineCv c).per = 1 := rfl
 have h00 : nth (lineCv c).vals 0 = 0 := rfl
 refine ⟨⟨by omega, by omega, by omega, by omega, by omega, h0, h1, fun k hk => ?_, by omega, fun k hk => by omega, fun h => ?_, fun _ => ?_⟩, ?_⟩
 ·obtain rfl : k = 0 := by omega
  rw [h00]; decide
 ·rw [hl, h00] at h; exact absurd h (by decide)
 ·rw [hl, hp]
  show nth (lineCv c).vals 0 ≤ nth (lineCv c).vals 0 + c
  omega
 ·rw [hl, h00]; decide
theorem line_at {c : Int} (h0 : 0 ≤ c) (h1 : c ≤ 1073741824) (t : Nat) : (lineCv c).at t = c * t := by
 have hf := line_fin h0 h1
 induction t with
 | zero =>
   rw [Cv.at_lt (by show 0 < 1; omega)]
   simp [lineCv, nth]
 | succ t ih =>
   have := hf.step (t := t) (by show 1 ≤ t + 1; omega)
   have e : t + (lineCv c).per.toNat = t + 1 := rfl
   rw [e] at this
   rw [this, ih]
   show c * t + c = c * ((t + 1 : Nat) : Int)
   rw [Int.natCast_add, Int.mul_add]
   omega
end
end Go.Proofs.YtaejfleahamapaaGreat
