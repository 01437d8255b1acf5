/- The statement ServiceNumbers: the walk. -/
import Derived.Test.YthdibkmjoiipgaaRef12B
import Derived.Test.YthdibkmjoiipgaaRatio
import Derived.Test.YthdibkmjoiipgaaAwake12
import Derived.Test.YthdibkmjoiipgaaEnvL
import Derived.Deep.LoopGhost
import Derived.Deep.DeepCutAuto
namespace Go.Proofs.Ythdibkmjoiipgaa
open Go.RowKit
set_option linter.unusedVariables false
set_option linter.unusedSimpArgs false
def PN.vals (x : PN) : Array Value := #[.int .i64 x.R, .int .i64 x.r, .int .i64 x.L, .int .i64 x.l]
/-- the block F is a variable that holds four numbers -/
structure Lq (p : Nat) (w : World) (F : Nat) (t : TypeId) (x : PN) : Prop where
  blk : Blk w F t #[.int .i64 x.R, .int .i64 x.r, .int .i64 x.L, .int .i64 x.l]
  ne : F ≠ p
section
variable {p F : Nat} {w w' : World} {t : TypeId} {x : PN}
theorem Lq.below (h : Lq p w F t x) (hb : Below w.heap.size w w') : Lq p w' F t x := ⟨h.blk.below hb h.blk.lt, h.ne⟩
theorem Lq.kept (h : Lq p w F t x) (hk : Kept w.heap.size p w w') : Lq p w' F t x := ⟨h.blk.kept h.ne hk, h.ne⟩
theorem Lq.drew (h : Lq p w F t x) : Lq p w.drew F t x := ⟨h.blk, h.ne⟩
theorem Lq.q (h : Lq p w F t x) : w.cell? ⟨F, 0, none⟩ = some (.int .i64 x.R) ∧ w.cell? ⟨F, 1, none⟩ = some (.int .i64 x.r) ∧ w.cell? ⟨F, 2, none⟩ = some (.int .i64 x.L) ∧ w.cell? ⟨F, 3, none⟩ = some (.int .i64 x.l) ∧ F < w.heap.size := by
  have := bq4 h.blk
  exact ⟨this.1.1, this.1.2.1, this.1.2.2.1, this.1.2.2.2, this.2.2⟩
end
theorem RowQ.keptQ {w w' : World} {b o p : Nat} {ps : List PN} (h : RowQ w b o ps) (hb : b ≠ p) (hk : Kept w.heap.size p w w') : RowQ w' b o ps :=
  ⟨Nat.lt_of_lt_of_le h.lt hk.size, fun k j x hx hj => (World.cell?_of_block (a := ⟨b, o + k * 4 + j, none⟩) (hk.block b h.lt hb)).trans (h.cell k j x hx hj)⟩
/-- a list of paces, apart from block p -/
def LsQ (p : Nat) (w : World) (A : Option Addr) (n c : Nat) (ps : List PN) : Prop := ps.length = n ∧ n ≤ c ∧ (n : Int) ≤ 9223372036854775807 ∧ (0 < n → ∃ g o, A = some ⟨g, o, none⟩ ∧ g ≠ p ∧ RowQ w g o ps)
theorem LsQ.below {p n c : Nat} {w w' : World} {A : Option Addr} {ps : List PN} (h : LsQ p w A n c ps) (hb : Below w.heap.size w w') : LsQ p w' A n c ps :=
  ⟨h.1, h.2.1, h.2.2.1, fun h0 => by
    obtain ⟨g, o, e, hg, hr⟩ := h.2.2.2 h0
    exact ⟨g, o, e, hg, hr.below hb⟩⟩
theorem LsQ.kept {p n c : Nat} {w w' : World} {A : Option Addr} {ps : List PN} (h : LsQ p w A n c ps) (hk : Kept w.heap.size p w w') : LsQ p w' A n c ps :=
  ⟨h.1, h.2.1, h.2.2.1, fun h0 => by
    obtain ⟨g, o, e, hg, hr⟩ := h.2.2.2 h0
    exact ⟨g, o, e, hg, hr.keptQ hg hk⟩⟩
theorem LsQ.nil (p : Nat) (w : World) : LsQ p w none 0 0 [] := ⟨rfl, Nat.le_refl _, by omega, fun h => absurd h (by omega)⟩
theorem LsQ.drew {p n c : Nat} {w : World} {A : Option Addr} {ps : List PN} (h : LsQ p w A n c ps) : LsQ p w.drew A n c ps :=
  ⟨h.1, h.2.1, h.2.2.1, fun h0 => by
    obtain ⟨g, o, e, hg, hr⟩ := h.2.2.2 h0
    exact ⟨g, o, e, hg, ⟨hr.lt, hr.cell⟩⟩⟩
/-- the reader, and the three variables -/
structure NE (w0 w : World) (p : Nat) (Z1 Z2 Z3 : Nat) (a b q : PN) : Prop where
  s : SrcAt w p
  k : Kept w0.heap.size p w0 w
  va : Lq p w Z1 25 a
  vb : Lq p w Z2 27 b
  vq : Lq p w Z3 25 q
section
variable {w0 w w' : World} {p Z1 Z2 Z3 : Nat} {a b q : PN}
theorem NE.below (h : NE w0 w p Z1 Z2 Z3 a b q) (hb : Below w.heap.size w w') : NE w0 w' p Z1 Z2 Z3 a b q := ⟨h.s.ext hb, kbel h.k hb, h.va.below hb, h.vb.below hb, h.vq.below hb⟩
theorem NE.kept (h : NE w0 w p Z1 Z2 Z3 a b q) (hS : SrcAt w' p) (hk : Kept w.heap.size p w w') : NE w0 w' p Z1 Z2 Z3 a b q := ⟨hS, kstep h.k hk, h.va.kept hk, h.vb.kept hk, h.vq.kept hk⟩
theorem NE.drew (h : NE w0 w p Z1 Z2 Z3 a b q) : NE w0 w.drew p Z1 Z2 Z3 a b q := ⟨h.s, kdrw h.k, h.va.drew, h.vb.drew, h.vq.drew⟩
end
theorem LsQ.two {p : Nat} {w : World} (hp : p < w.heap.size) (x y : PN) (t : TypeId) : LsQ p (w.alloc (.cells #[.int .i64 x.R, .int .i64 x.r, .int .i64 x.L, .int .i64 x.l, .int .i64 y.R, .int .i64 y.r, .int .i64 y.L, .int .i64 y.l] t)) (some ⟨w.heap.size, 0, none⟩) 2 2 [x, y] := by
  refine ⟨rfl, Nat.le_refl _, by omega, fun _ => ⟨_, _, rfl, Nat.ne_of_gt hp, ?_⟩⟩
  have B := Blk.new w t #[.int .i64 x.R, .int .i64 x.r, .int .i64 x.L, .int .i64 x.l, .int .i64 y.R, .int .i64 y.r, .int .i64 y.L, .int .i64 y.l]
  refine ⟨B.lt, fun k j z hz hj => ?_⟩
  have hc := B.cell (0 + k * 4 + j)
  rw [hc]
  match k, hz with
  | 0, hz =>
    obtain rfl : x = z := by simpa using hz
    match j, hj with
    | 0, _ => rfl
    | 1, _ => rfl
    | 2, _ => rfl
    | 3, _ => rfl
  | 1, hz =>
    obtain rfl : y = z := by simpa using hz
    match j, hj with
    | 0, _ => rfl
    | 1, _ => rfl
    | 2, _ => rfl
    | 3, _ => rfl
theorem ChS.uq {ps : List PN} {r r' : PN} {e e' : Int} (h : ChS ps r e) (k : ChS ps r' e') : r = r' ∧ e = e' := by
  rcases h with ⟨h, rfl, rfl⟩ | ⟨h, hd, tl, h1, h2⟩ <;> rcases k with ⟨k, rfl, rfl⟩ | ⟨k, hd', tl', k1, k2⟩
  · exact ⟨rfl, rfl⟩
  · rcases h with h | ⟨x, hx, hg⟩
    · rw [h] at k1; cases k1
    · exact absurd (k x hx) hg
  · rcases k with k | ⟨x, hx, hg⟩
    · rw [k] at h1; cases h1
    · exact absurd (h x hx) hg
  · rw [h1] at k1
    injection k1 with e1 e2
    subst e1 e2
    rw [h2] at k2
    injection k2 with e1 e2
    exact ⟨e1, e2⟩
theorem LsQ.three {p : Nat} {w : World} (hp : p < w.heap.size) (x y u : PN) (t : TypeId) : LsQ p (w.alloc (.cells #[.int .i64 x.R, .int .i64 x.r, .int .i64 x.L, .int .i64 x.l, .int .i64 y.R, .int .i64 y.r, .int .i64 y.L, .int .i64 y.l, .int .i64 u.R, .int .i64 u.r, .int .i64 u.L, .int .i64 u.l] t)) (some ⟨w.heap.size, 0, none⟩) 3 3 [x, y, u] := by
  refine ⟨rfl, Nat.le_refl _, by omega, fun _ => ⟨_, _, rfl, Nat.ne_of_gt hp, ?_⟩⟩
  have B := Blk.new w t #[.int .i64 x.R, .int .i64 x.r, .int .i64 x.L, .int .i64 x.l, .int .i64 y.R, .int .i64 y.r, .int .i64 y.L, .int .i64 y.l, .int .i64 u.R, .int .i64 u.r, .int .i64 u.L, .int .i64 u.l]
  refine ⟨B.lt, fun k j z hz hj => ?_⟩
  have hc := B.cell (0 + k * 4 + j)
  rw [hc]
  match k, hz with
  | 0, hz =>
    obtain rfl : x = z := by simpa using hz
    match j, hj with
    | 0, _ => rfl
    | 1, _ => rfl
    | 2, _ => rfl
    | 3, _ => rfl
  | 1, hz =>
    obtain rfl : y = z := by simpa using hz
    match j, hj with
    | 0, _ => rfl
    | 1, _ => rfl
    | 2, _ => rfl
    | 3, _ => rfl
  | 2, hz =>
    obtain rfl : u = z := by simpa using hz
    match j, hj with
    | 0, _ => rfl
    | 1, _ => rfl
    | 2, _ => rfl
    | 3, _ => rfl
theorem LsQ.at_ {p : Nat} {w : World} {G n c : Nat} {ps : List PN} (h : LsQ p w (some ⟨G, 0, none⟩) n c ps) {k : Nat} (hk : k < n) : ∃ x : PN, (w.cell? ⟨G, k * 4, none⟩ = some (.int .i64 x.R) ∧ w.cell? ⟨G, k * 4 + 1, none⟩ = some (.int .i64 x.r) ∧ w.cell? ⟨G, k * 4 + 2, none⟩ = some (.int .i64 x.L) ∧ w.cell? ⟨G, k * 4 + 3, none⟩ = some (.int .i64 x.l)) ∧ G < w.heap.size := by
  obtain ⟨g, o, e, _, hr⟩ := h.2.2.2 (by omega)
  injection e with e
  injection e with e1 e2
  subst e1 e2
  have hkl : k < ps.length := by rw [h.1]; exact hk
  have := rq4 hr (List.getElem?_eq_getElem hkl)
  simp only [Nat.zero_add] at this
  exact ⟨_, this⟩
theorem wait_two (x y : PN) : ∃ v1 v2 v3 : Int, (∀ w, Calls Try.prog 19 #[.agg #[.int .i64 x.R, .int .i64 x.r, .int .i64 x.L, .int .i64 x.l], .agg #[.int .i64 y.R, .int .i64 y.r, .int .i64 y.L, .int .i64 y.l]] w (RetF v1 v2 v3 w)) ∧
    (∀ w, Calls Try.prog 20 #[.agg #[.int .i64 x.R, .int .i64 x.r, .int .i64 x.L, .int .i64 x.l], .agg #[.int .i64 y.R, .int .i64 y.r, .int .i64 y.L, .int .i64 y.l]] w (RetF v1 v2 v3 w)) := by
  by_cases h : GOk x.R x.r ∧ GOk x.L x.l ∧ GOk y.R y.r ∧ GOk y.L y.l
  · exact ⟨_, _, _, fun w => wait_any x.R x.r x.L x.l y.R y.r y.L y.l w h.1 h.2.1 h.2.2.1 h.2.2.2, fun w => rwait_any x.R x.r x.L x.l y.R y.r y.L y.l w h.1 h.2.1 h.2.2.1 h.2.2.2⟩
  · exact ⟨_, _, _, fun w => waitB_any x.R x.r x.L x.l y.R y.r y.L y.l w h, fun w => rwaitB_any x.R x.r x.L x.l y.R y.r y.L y.l w h⟩
set_option maxHeartbeats 4000000 in
set_option maxRecDepth 100000 in
theorem svNum_any (R r L l : Int) (B b S s : Int) (A2 : Option Addr) (n2 c2 : Nat) (ps : List PN) (A0 : Option Addr) (n0 c0 : Nat) (zs : List Int) (W : World)
    (hl2 : ps.length = n2) (hn2 : (n2 : Int) ≤ 9223372036854775807) (hc2 : n2 ≤ c2) (hr2 : 0 < n2 → ∃ g o, A2 = some ⟨g, o, none⟩ ∧ RowQ W g o ps) (hL0 : Ints W W.heap.size A0 n0 zs) (hc0 : n0 ≤ c0) (hn0 : (n0 : Int) ≤ 9223372036854775807) :
    Calls Try.prog 3 #[.agg #[.int .i64 R, .int .i64 r, .int .i64 L, .int .i64 l], .agg #[.int .i64 B, .int .i64 b, .int .i64 S, .int .i64 s], .slice A2 n2 c2, .slice A0 n0 c0] W fun e w' => e = .returned (.bool true) ∧ Below W.heap.size W w' := by
  have bw := bthen (balloc W (.cells #[.int .i64 R, .int .i64 r, .int .i64 L, .int .i64 l] 25)) (balloc _ (.cells #[.int .i64 B, .int .i64 b, .int .i64 S, .int .i64 s] 27))
  have B1 := Lib.hid ((Blk.new W 25 #[.int .i64 R, .int .i64 r, .int .i64 L, .int .i64 l]).alloc (.cells #[.int .i64 B, .int .i64 b, .int .i64 S, .int .i64 s] 27))
  have b2 := Blk.new (W.alloc (.cells #[.int .i64 R, .int .i64 r, .int .i64 L, .int .i64 l] 25)) 27 #[.int .i64 B, .int .i64 b, .int .i64 S, .int .i64 s]
  rw [World.size_alloc] at b2
  have B2 := Lib.hid b2
  have LI := Lib.hid (hL0.ext bw)
  have HR := Lib.hid (fun h => by
    obtain ⟨g, o, e, hr⟩ := hr2 h
    exact (⟨g, o, e, hr.below bw⟩ : ∃ g o, A2 = some ⟨g, o, none⟩ ∧ RowQ ((W.alloc (.cells #[.int .i64 R, .int .i64 r, .int .i64 L, .int .i64 l] 25)).alloc (.cells #[.int .i64 B, .int .i64 b, .int .i64 S, .int .i64 s] 27)) g o ps))
  have BW := Lib.hid bw
  clear bw b2 hr2 hL0
  go_enter Try.func3, Try.ntmps3
  go_upto_region 1 with fail
  generalize hwe : (W.alloc (.cells #[.int .i64 R, .int .i64 r, .int .i64 L, .int .i64 l] 25)).alloc (.cells #[.int .i64 B, .int .i64 b, .int .i64 S, .int .i64 s] 27) = w at *
  clear hwe
  by_cases h30 : 30 < n2
  case pos =>
    have d1 : decide ((30 : Int) < (n2 : Int)) = true := by simp; omega
    have d2 : decide (30 < n2) = true := by simp; omega
    go_wp2_with fail
    refine (awake12_any _).mono ?_
    rintro q wq ⟨rfl, hbq⟩
    have bw := bthen BW.out hbq
    go_wp2_with fail
    go_ret
    exact ⟨rfl, bw⟩
  case neg =>
  have d1 : decide ((30 : Int) < (n2 : Int)) = false := by simp; omega
  have d2 : decide (30 < n2) = false := by simp; omega
  have LS0 := Lib.hid (show LsQ w.heap.size w A2 n2 c2 ps from ⟨hl2, hc2, hn2, fun h => by
    obtain ⟨g, o, e, hr⟩ := HR.out h
    exact ⟨g, o, e, Nat.ne_of_lt hr.lt, hr⟩⟩)
  have hL := LI.out
  have V1 := Lib.hid (show Lq w.heap.size w W.heap.size 25 ⟨R, r, L, l⟩ from ⟨B1.out, Nat.ne_of_lt B1.out.lt⟩)
  have V2 := Lib.hid (show Lq w.heap.size w (W.heap.size + 1) 27 ⟨B, b, S, s⟩ from ⟨B2.out, Nat.ne_of_lt B2.out.lt⟩)
  clear HR LI B1 B2 hl2 hc2 hn2 h30
  go_wp2_with fail
  refine (new_any A0 n0 c0 zs w hL hc0 hn0).mono ?_
  rintro e w1 ⟨rfl, hS1, hb1⟩
  have SS := Lib.hid hS1
  have KK := Lib.hid (Kept.of (p := w.heap.size) hb1)
  replace V1 := Lib.hid (V1.out.below hb1); replace V2 := Lib.hid (V2.out.below hb1); replace LS0 := Lib.hid (LS0.out.below hb1)
  clear hL hS1 hb1 d1 d2
  go_wp2_with fail
  refine (ratio12_any w.heap.size _ (by exact SS.out)).mono ?_
  rintro e w2 ⟨q1, q2, _, rfl, hS, hk⟩
  replace V1 := Lib.hid (V1.out.kept hk); replace V2 := Lib.hid (V2.out.kept hk); replace LS0 := Lib.hid (LS0.out.kept hk); replace KK := Lib.hid (kstep KK.out hk); replace SS := Lib.hid hS
  clear hS hk
  go_wp2_with fail
  refine (ratio12_any w.heap.size _ (by exact SS.out)).mono ?_
  rintro e w3 ⟨q3, q4, _, rfl, hS, hk⟩
  replace V1 := Lib.hid (V1.out.kept hk); replace V2 := Lib.hid (V2.out.kept hk); replace LS0 := Lib.hid (LS0.out.kept hk); replace KK := Lib.hid (kstep KK.out hk); replace SS := Lib.hid hS
  clear hS hk
  have hps := SS.out.lt
  have hb := balloc w3 (.cells #[.int .i64 q1, .int .i64 q2, .int .i64 q3, .int .i64 q4] 25)
  have E := Lib.hid (show NE w (w3.alloc (.cells #[.int .i64 q1, .int .i64 q2, .int .i64 q3, .int .i64 q4] 25)) w.heap.size W.heap.size (W.heap.size + 1) w3.heap.size ⟨R, r, L, l⟩ ⟨B, b, S, s⟩ ⟨q1, q2, q3, q4⟩ from ⟨SS.out.ext hb, kbel KK.out hb, V1.out.below hb, V2.out.below hb, ⟨Blk.new _ _ _, Nat.ne_of_gt hps⟩⟩)
  replace LS0 := Lib.hid (LS0.out.below hb)
  clear hb SS KK V1 V2
  go_upto_region 5 with fail
  generalize hwe : w3.alloc (.cells #[.int .i64 q1, .int .i64 q2, .int .i64 q3, .int .i64 q4] 25) = w4 at *
  clear hwe hps
  generalize w3.heap.size = Zq at *
  go_cut [47, 48, 49] (fun s47 s48 s49 wx => ∃ (bb G1 G2 : Nat) (y : PN), s47 = .slice (some ⟨bb, 0, none⟩) 4 4 ∧ s48 = .int .i64 4 ∧ s49 = .int .i64 0 ∧ NE w wx w.heap.size W.heap.size (W.heap.size + 1) Zq ⟨R, r, L, l⟩ ⟨B, b, S, s⟩ ⟨q1, q2, q3, q4⟩ ∧ Blk wx bb 28 #[.slice A2 n2 c2, .slice none 0 0, .slice (some ⟨G1, 0, none⟩) 2 2, .slice (some ⟨G2, 0, none⟩) 2 2] ∧ bb ≠ w.heap.size ∧ LsQ w.heap.size wx A2 n2 c2 ps ∧ LsQ w.heap.size wx (some ⟨G1, 0, none⟩) 2 2 [⟨R, r, L, l⟩, ⟨q1, q2, q3, q4⟩] ∧ LsQ w.heap.size wx (some ⟨G2, 0, none⟩) 2 2 [⟨q1, q2, q3, q4⟩, y])
  case first =>
    replace E := Lib.hid (NE.drew E.out); replace LS0 := Lib.hid (LsQ.drew LS0.out)
    obtain ⟨f0, f1, f2, f3, hlf⟩ := E.out.va.q
    obtain ⟨g0, g1, g2, g3, hlg⟩ := E.out.vq.q
    dsimp only at f0 f1 f2 f3 g0 g1 g2 g3
    refine wp_region_held_drew (S := (fun w' => (w'.cell? ⟨W.heap.size, 0, none⟩ = some (.int .i64 R) ∧ w'.cell? ⟨W.heap.size, 1, none⟩ = some (.int .i64 r) ∧ w'.cell? ⟨W.heap.size, 2, none⟩ = some (.int .i64 L) ∧ w'.cell? ⟨W.heap.size, 3, none⟩ = some (.int .i64 l)) ∧ w'.cell? ⟨Zq, 0, none⟩ = some (.int .i64 q1) ∧ w'.cell? ⟨Zq, 1, none⟩ = some (.int .i64 q2) ∧ w'.cell? ⟨Zq, 2, none⟩ = some (.int .i64 q3) ∧ w'.cell? ⟨Zq, 3, none⟩ = some (.int .i64 q4))) (by kernel_rfl) (by exact ⟨⟨f0, f1, f2, f3⟩, g0, g1, g2, g3⟩) (fun hHeld => ?_)
    clear f0 f1 f2 f3 hlf g0 g1 g2 g3 hlg
    generalize hwd : w4.drew = wd at *
    clear hwd
    obtain ⟨f0, f1, f2, f3, hlf⟩ := E.out.va.q
    obtain ⟨g0, g1, g2, g3, hlg⟩ := E.out.vq.q
    dsimp only at f0 f1 f2 f3 g0 g1 g2 g3
    refine wpAnyH_take (i := 0) (oi := _) (v := ?_) (by simp only [List.getElem?_toArray, List.getElem?_cons_zero]; rfl) (by kernel_rfl) (by kernel_rfl) (by kernel_rfl) (by exact fun _ _ _ h => h) (Or.inl ⟨by rfl, ?_⟩) (by assumption) ?_
    rotate_left 1
    · (intro w hSw; (try dsimp only at hSw); go_simp; try with_reducible rfl)
    all_goals try simp only [Act.put]
    all_goals try simp only [List.setIfInBounds_toArray]
    all_goals try simp only [List.set_cons_succ]
    all_goals try simp only [List.set_cons_zero]
    refine wpAnyH_take (i := 1) (oi := _) (v := ?_) (by simp only [List.getElem?_toArray, List.getElem?_cons_succ, List.getElem?_cons_zero]; rfl) (by kernel_rfl) (by kernel_rfl) (by kernel_rfl) (by exact fun _ _ _ h => h) (Or.inl ⟨by rfl, ?_⟩) (by assumption) ?_
    rotate_left 1
    · (intro w hSw; (try dsimp only at hSw); go_simp; try with_reducible rfl)
    all_goals try simp only [Act.put]
    all_goals try simp only [List.setIfInBounds_toArray]
    all_goals try simp only [List.set_cons_succ]
    all_goals try simp only [List.set_cons_zero]
    refine wpAnyH_take (i := 2) (oi := _) (v := ?_) (by simp only [List.getElem?_toArray, List.getElem?_cons_succ, List.getElem?_cons_zero]; rfl) (by kernel_rfl) (by kernel_rfl) (by kernel_rfl) (by exact fun _ _ _ h => h) (Or.inl ⟨by rfl, ?_⟩) (by assumption) ?_
    rotate_left 1
    · (intro w hSw; (try dsimp only at hSw); go_simp; try with_reducible rfl)
    all_goals try simp only [Act.put]
    all_goals try simp only [List.setIfInBounds_toArray]
    all_goals try simp only [List.set_cons_succ]
    all_goals try simp only [List.set_cons_zero]
    refine wpAnyH_take (i := 4) (oi := _) (v := ?_) (by simp only [List.getElem?_toArray, List.getElem?_cons_succ, List.getElem?_cons_zero]; rfl) (by kernel_rfl) (by kernel_rfl) (by kernel_rfl) (by exact fun _ _ _ h => h) (Or.inl ⟨by rfl, ?_⟩) (by assumption) ?_
    rotate_left 1
    · (intro w hSw; (try dsimp only at hSw); go_simp; try with_reducible rfl)
    all_goals try simp only [Act.put]
    all_goals try simp only [List.setIfInBounds_toArray]
    all_goals try simp only [List.set_cons_succ]
    all_goals try simp only [List.set_cons_zero]
    refine wpAnyH_take (i := 5) (oi := _) (v := ?_) (by simp only [List.getElem?_toArray, List.getElem?_cons_succ, List.getElem?_cons_zero]; rfl) (by kernel_rfl) (by kernel_rfl) (by kernel_rfl) (by exact fun _ _ _ h => h) (Or.inl ⟨by rfl, ?_⟩) (by assumption) ?_
    rotate_left 1
    · (intro w hSw; (try dsimp only at hSw); go_simp; try with_reducible rfl)
    all_goals try simp only [Act.put]
    all_goals try simp only [List.setIfInBounds_toArray]
    all_goals try simp only [List.set_cons_succ]
    all_goals try simp only [List.set_cons_zero]
    refine wpAnyH_take (i := 7) (oi := _) (v := ?_) (by simp only [List.getElem?_toArray, List.getElem?_cons_succ, List.getElem?_cons_zero]; rfl) (by kernel_rfl) (by kernel_rfl) (by kernel_rfl) (by exact fun _ _ _ h => h) (Or.inl ⟨by rfl, ?_⟩) (by assumption) ?_
    rotate_left 1
    · (intro w hSw; (try dsimp only at hSw); go_simp; try with_reducible rfl)
    all_goals try simp only [Act.put]
    all_goals try simp only [List.setIfInBounds_toArray]
    all_goals try simp only [List.set_cons_succ]
    all_goals try simp only [List.set_cons_zero]
    refine wpAnyH_take (i := 13) (oi := _) (v := ?_) (by simp only [List.getElem?_toArray, List.getElem?_cons_succ, List.getElem?_cons_zero]; rfl) (by kernel_rfl) (by kernel_rfl) (by kernel_rfl) (by exact fun _ _ _ h => h) (Or.inl ⟨by rfl, ?_⟩) (by assumption) ?_
    rotate_left 1
    · (intro w hSw; (try dsimp only at hSw); go_simp; try with_reducible rfl)
    all_goals try simp only [Act.put]
    all_goals try simp only [List.setIfInBounds_toArray]
    all_goals try simp only [List.set_cons_succ]
    all_goals try simp only [List.set_cons_zero]
    refine wpAnyH_ready (rs := [3, 6]) (by kernel_rfl) (by simp) ?_
    refine (AllReadyH.cons (by simp only [List.getElem?_toArray, List.getElem?_cons_succ, List.getElem?_cons_zero]; rfl) (fun K hK => ?_) (AllReadyH.cons (by simp only [List.getElem?_toArray, List.getElem?_cons_succ, List.getElem?_cons_zero]; rfl) (fun K hK => ?_) AllReadyH.nil))
    · rw [if_pos (by rfl)]
      go_simp
      have hps := E.out.s.lt
      have hb := balloc wd (.cells #[.int .i64 R, .int .i64 r, .int .i64 L, .int .i64 l, .int .i64 q1, .int .i64 q2, .int .i64 q3, .int .i64 q4] 25)
      have LN := Lib.hid (LsQ.two (w := wd) hps ⟨R, r, L, l⟩ ⟨q1, q2, q3, q4⟩ 25)
      dsimp only at LN
      generalize hwa : wd.alloc (.cells #[.int .i64 R, .int .i64 r, .int .i64 L, .int .i64 l, .int .i64 q1, .int .i64 q2, .int .i64 q3, .int .i64 q4] 25) = wa at *
      clear hwa
      replace E := Lib.hid (E.out.below hb); replace LS0 := Lib.hid (LS0.out.below hb)
      try (replace LS1 := Lib.hid (LS1.out.below hb))
      try (replace LS2 := Lib.hid (LS2.out.below hb))
      have LS1 := LN
      generalize wd.heap.size = G1 at *
      clear LN hb hHeld hps
      clear f0 f1 f2 f3 hlf g0 g1 g2 g3 hlg
      obtain ⟨f0, f1, f2, f3, hlf⟩ := E.out.va.q
      obtain ⟨g0, g1, g2, g3, hlg⟩ := E.out.vq.q
      dsimp only at f0 f1 f2 f3 g0 g1 g2 g3
      refine hK.out _ _ (by exact ⟨⟨f0, f1, f2, f3⟩, g0, g1, g2, g3⟩) (fun hHeld => ?_)
      clear hK K
      try simp only [Act.put]
      try simp only [List.setIfInBounds_toArray]
      try simp only [List.set_cons_succ]
      try simp only [List.set_cons_zero]
      refine wpAnyH_ready (rs := [6]) (by kernel_rfl) (by simp) ?_
      refine (AllReadyH.cons (by simp only [List.getElem?_toArray, List.getElem?_cons_succ, List.getElem?_cons_zero]; rfl) (fun K hK => ?_) AllReadyH.nil)
      rw [if_pos (by rfl)]
      go_simp
      refine (srcFr_any w.heap.size 5 3 _ (by exact E.out.s) (by omega) (by omega) (by omega) (by omega)).mono ?_
      rintro e wb ⟨y1, y2, _, rfl, hS, hk⟩
      replace E := Lib.hid (E.out.kept hS hk); replace LS0 := Lib.hid (LS0.out.kept hk)
      try (replace LS1 := Lib.hid (LS1.out.kept hk))
      try (replace LS2 := Lib.hid (LS2.out.kept hk))
      clear hS hk hHeld
      clear f0 f1 f2 f3 hlf g0 g1 g2 g3 hlg
      obtain ⟨f0, f1, f2, f3, hlf⟩ := E.out.va.q
      obtain ⟨g0, g1, g2, g3, hlg⟩ := E.out.vq.q
      dsimp only at f0 f1 f2 f3 g0 g1 g2 g3
      refine hK.out _ _ (by exact ⟨⟨f0, f1, f2, f3⟩, g0, g1, g2, g3⟩) (fun hHeld => ?_)
      clear hK K
      try simp only [Act.put]
      try simp only [List.setIfInBounds_toArray]
      try simp only [List.set_cons_succ]
      try simp only [List.set_cons_zero]
      refine wpAnyH_ready (rs := [8]) (by kernel_rfl) (by simp) ?_
      refine (AllReadyH.cons (by simp only [List.getElem?_toArray, List.getElem?_cons_succ, List.getElem?_cons_zero]; rfl) (fun K hK => ?_) AllReadyH.nil)
      rw [if_pos (by rfl)]
      go_simp
      refine (srcFr_any w.heap.size 5 3 _ (by exact E.out.s) (by omega) (by omega) (by omega) (by omega)).mono ?_
      rintro e wc ⟨y3, y4, _, rfl, hS, hk⟩
      replace E := Lib.hid (E.out.kept hS hk); replace LS0 := Lib.hid (LS0.out.kept hk)
      try (replace LS1 := Lib.hid (LS1.out.kept hk))
      try (replace LS2 := Lib.hid (LS2.out.kept hk))
      clear hS hk hHeld
      clear f0 f1 f2 f3 hlf g0 g1 g2 g3 hlg
      obtain ⟨f0, f1, f2, f3, hlf⟩ := E.out.va.q
      obtain ⟨g0, g1, g2, g3, hlg⟩ := E.out.vq.q
      dsimp only at f0 f1 f2 f3 g0 g1 g2 g3
      refine hK.out _ _ (by exact ⟨⟨f0, f1, f2, f3⟩, g0, g1, g2, g3⟩) (fun hHeld => ?_)
      clear hK K
      try simp only [Act.put]
      try simp only [List.setIfInBounds_toArray]
      try simp only [List.set_cons_succ]
      try simp only [List.set_cons_zero]
      refine wpAnyH_take (i := 9) (oi := _) (v := ?_) (by simp only [List.getElem?_toArray, List.getElem?_cons_succ, List.getElem?_cons_zero]; rfl) (by kernel_rfl) (by kernel_rfl) (by kernel_rfl) (by exact fun _ _ _ h => h) (Or.inl ⟨by rfl, ?_⟩) (by assumption) ?_
      rotate_left 1
      · (intro w hSw; (try dsimp only at hSw); go_simp; try with_reducible rfl)
      all_goals try simp only [Act.put]
      all_goals try simp only [List.setIfInBounds_toArray]
      all_goals try simp only [List.set_cons_succ]
      all_goals try simp only [List.set_cons_zero]
      refine wpAnyH_ready (rs := [10]) (by kernel_rfl) (by simp) ?_
      refine (AllReadyH.cons (by simp only [List.getElem?_toArray, List.getElem?_cons_succ, List.getElem?_cons_zero]; rfl) (fun K hK => ?_) AllReadyH.nil)
      rw [if_pos (by rfl)]
      go_simp
      have hps := E.out.s.lt
      have hb := balloc wc (.cells #[.int .i64 q1, .int .i64 q2, .int .i64 q3, .int .i64 q4, .int .i64 y1, .int .i64 y2, .int .i64 y3, .int .i64 y4] 25)
      have LN := Lib.hid (LsQ.two (w := wc) hps ⟨q1, q2, q3, q4⟩ ⟨y1, y2, y3, y4⟩ 25)
      dsimp only at LN
      generalize hwa : wc.alloc (.cells #[.int .i64 q1, .int .i64 q2, .int .i64 q3, .int .i64 q4, .int .i64 y1, .int .i64 y2, .int .i64 y3, .int .i64 y4] 25) = we at *
      clear hwa
      replace E := Lib.hid (E.out.below hb); replace LS0 := Lib.hid (LS0.out.below hb)
      try (replace LS1 := Lib.hid (LS1.out.below hb))
      try (replace LS2 := Lib.hid (LS2.out.below hb))
      have LS2 := LN
      generalize wc.heap.size = G2 at *
      clear LN hb hHeld hps
      clear f0 f1 f2 f3 hlf g0 g1 g2 g3 hlg
      obtain ⟨f0, f1, f2, f3, hlf⟩ := E.out.va.q
      obtain ⟨g0, g1, g2, g3, hlg⟩ := E.out.vq.q
      dsimp only at f0 f1 f2 f3 g0 g1 g2 g3
      refine hK.out _ _ (by exact ⟨⟨f0, f1, f2, f3⟩, g0, g1, g2, g3⟩) (fun hHeld => ?_)
      clear hK K
      try simp only [Act.put]
      try simp only [List.setIfInBounds_toArray]
      try simp only [List.set_cons_succ]
      try simp only [List.set_cons_zero]
      refine wpAnyH_ready (rs := [11]) (by kernel_rfl) (by simp) ?_
      refine (AllReadyH.cons (by simp only [List.getElem?_toArray, List.getElem?_cons_succ, List.getElem?_cons_zero]; rfl) (fun K hK => ?_) AllReadyH.nil)
      rw [if_pos (by rfl)]
      go_simp
      have hps := E.out.s.lt
      have hb := balloc we (.cells #[.slice A2 n2 c2, .slice none 0 0, .slice (some ⟨G1, 0, none⟩) 2 2, .slice (some ⟨G2, 0, none⟩) 2 2] 28)
      have LL := Lib.hid (Blk.new we 28 #[.slice A2 n2 c2, .slice none 0 0, .slice (some ⟨G1, 0, none⟩) 2 2, .slice (some ⟨G2, 0, none⟩) 2 2])
      generalize hwa : we.alloc (.cells #[.slice A2 n2 c2, .slice none 0 0, .slice (some ⟨G1, 0, none⟩) 2 2, .slice (some ⟨G2, 0, none⟩) 2 2] 28) = wz at *
      clear hwa
      replace E := Lib.hid (E.out.below hb); replace LS0 := Lib.hid (LS0.out.below hb)
      try (replace LS1 := Lib.hid (LS1.out.below hb))
      try (replace LS2 := Lib.hid (LS2.out.below hb))
      generalize we.heap.size = bb at *
      clear hb hHeld
      clear f0 f1 f2 f3 hlf g0 g1 g2 g3 hlg
      obtain ⟨f0, f1, f2, f3, hlf⟩ := E.out.va.q
      obtain ⟨g0, g1, g2, g3, hlg⟩ := E.out.vq.q
      dsimp only at f0 f1 f2 f3 g0 g1 g2 g3
      refine hK.out _ _ (by exact ⟨⟨f0, f1, f2, f3⟩, g0, g1, g2, g3⟩) (fun hHeld => ?_)
      clear hK K
      try simp only [Act.put]
      try simp only [List.setIfInBounds_toArray]
      try simp only [List.set_cons_succ]
      try simp only [List.set_cons_zero]
      refine wpAnyH_take (i := 12) (oi := _) (v := ?_) (by simp only [List.getElem?_toArray, List.getElem?_cons_succ, List.getElem?_cons_zero]; rfl) (by kernel_rfl) (by kernel_rfl) (by kernel_rfl) (by exact fun _ _ _ h => h) (Or.inl ⟨by rfl, ?_⟩) (by assumption) ?_
      rotate_left 1
      · (intro w hSw; (try dsimp only at hSw); go_simp; try with_reducible rfl)
      all_goals try simp only [Act.put]
      all_goals try simp only [List.setIfInBounds_toArray]
      all_goals try simp only [List.set_cons_succ]
      all_goals try simp only [List.set_cons_zero]
      refine wpAnyH_done (by kernel_rfl) ?_ _
      clear hHeld
      clear f0 f1 f2 f3 hlf g0 g1 g2 g3 hlg
      go_wp2_with fail
      go_meet
      exact ⟨bb, G1, G2, _, rfl, rfl, rfl, E.out, LL.out, Nat.ne_of_gt hps, LS0.out, LS1.out, LS2.out⟩
    · rw [if_pos (by rfl)]
      go_simp
      refine (srcFr_any w.heap.size 5 3 _ (by exact E.out.s) (by omega) (by omega) (by omega) (by omega)).mono ?_
      rintro e wa ⟨y1, y2, _, rfl, hS, hk⟩
      replace E := Lib.hid (E.out.kept hS hk); replace LS0 := Lib.hid (LS0.out.kept hk)
      try (replace LS1 := Lib.hid (LS1.out.kept hk))
      try (replace LS2 := Lib.hid (LS2.out.kept hk))
      clear hS hk hHeld
      clear f0 f1 f2 f3 hlf g0 g1 g2 g3 hlg
      obtain ⟨f0, f1, f2, f3, hlf⟩ := E.out.va.q
      obtain ⟨g0, g1, g2, g3, hlg⟩ := E.out.vq.q
      dsimp only at f0 f1 f2 f3 g0 g1 g2 g3
      refine hK.out _ _ (by exact ⟨⟨f0, f1, f2, f3⟩, g0, g1, g2, g3⟩) (fun hHeld => ?_)
      clear hK K
      try simp only [Act.put]
      try simp only [List.setIfInBounds_toArray]
      try simp only [List.set_cons_succ]
      try simp only [List.set_cons_zero]
      refine wpAnyH_ready (rs := [3, 8]) (by kernel_rfl) (by simp) ?_
      refine (AllReadyH.cons (by simp only [List.getElem?_toArray, List.getElem?_cons_succ, List.getElem?_cons_zero]; rfl) (fun K hK => ?_) (AllReadyH.cons (by simp only [List.getElem?_toArray, List.getElem?_cons_succ, List.getElem?_cons_zero]; rfl) (fun K hK => ?_) AllReadyH.nil))
      · rw [if_pos (by rfl)]
        go_simp
        have hps := E.out.s.lt
        have hb := balloc wa (.cells #[.int .i64 R, .int .i64 r, .int .i64 L, .int .i64 l, .int .i64 q1, .int .i64 q2, .int .i64 q3, .int .i64 q4] 25)
        have LN := Lib.hid (LsQ.two (w := wa) hps ⟨R, r, L, l⟩ ⟨q1, q2, q3, q4⟩ 25)
        dsimp only at LN
        generalize hwa : wa.alloc (.cells #[.int .i64 R, .int .i64 r, .int .i64 L, .int .i64 l, .int .i64 q1, .int .i64 q2, .int .i64 q3, .int .i64 q4] 25) = wb at *
        clear hwa
        replace E := Lib.hid (E.out.below hb); replace LS0 := Lib.hid (LS0.out.below hb)
        try (replace LS1 := Lib.hid (LS1.out.below hb))
        try (replace LS2 := Lib.hid (LS2.out.below hb))
        have LS1 := LN
        generalize wa.heap.size = G1 at *
        clear LN hb hHeld hps
        clear f0 f1 f2 f3 hlf g0 g1 g2 g3 hlg
        obtain ⟨f0, f1, f2, f3, hlf⟩ := E.out.va.q
        obtain ⟨g0, g1, g2, g3, hlg⟩ := E.out.vq.q
        dsimp only at f0 f1 f2 f3 g0 g1 g2 g3
        refine hK.out _ _ (by exact ⟨⟨f0, f1, f2, f3⟩, g0, g1, g2, g3⟩) (fun hHeld => ?_)
        clear hK K
        try simp only [Act.put]
        try simp only [List.setIfInBounds_toArray]
        try simp only [List.set_cons_succ]
        try simp only [List.set_cons_zero]
        refine wpAnyH_ready (rs := [8]) (by kernel_rfl) (by simp) ?_
        refine (AllReadyH.cons (by simp only [List.getElem?_toArray, List.getElem?_cons_succ, List.getElem?_cons_zero]; rfl) (fun K hK => ?_) AllReadyH.nil)
        rw [if_pos (by rfl)]
        go_simp
        refine (srcFr_any w.heap.size 5 3 _ (by exact E.out.s) (by omega) (by omega) (by omega) (by omega)).mono ?_
        rintro e wc ⟨y3, y4, _, rfl, hS, hk⟩
        replace E := Lib.hid (E.out.kept hS hk); replace LS0 := Lib.hid (LS0.out.kept hk)
        try (replace LS1 := Lib.hid (LS1.out.kept hk))
        try (replace LS2 := Lib.hid (LS2.out.kept hk))
        clear hS hk hHeld
        clear f0 f1 f2 f3 hlf g0 g1 g2 g3 hlg
        obtain ⟨f0, f1, f2, f3, hlf⟩ := E.out.va.q
        obtain ⟨g0, g1, g2, g3, hlg⟩ := E.out.vq.q
        dsimp only at f0 f1 f2 f3 g0 g1 g2 g3
        refine hK.out _ _ (by exact ⟨⟨f0, f1, f2, f3⟩, g0, g1, g2, g3⟩) (fun hHeld => ?_)
        clear hK K
        try simp only [Act.put]
        try simp only [List.setIfInBounds_toArray]
        try simp only [List.set_cons_succ]
        try simp only [List.set_cons_zero]
        refine wpAnyH_take (i := 9) (oi := _) (v := ?_) (by simp only [List.getElem?_toArray, List.getElem?_cons_succ, List.getElem?_cons_zero]; rfl) (by kernel_rfl) (by kernel_rfl) (by kernel_rfl) (by exact fun _ _ _ h => h) (Or.inl ⟨by rfl, ?_⟩) (by assumption) ?_
        rotate_left 1
        · (intro w hSw; (try dsimp only at hSw); go_simp; try with_reducible rfl)
        all_goals try simp only [Act.put]
        all_goals try simp only [List.setIfInBounds_toArray]
        all_goals try simp only [List.set_cons_succ]
        all_goals try simp only [List.set_cons_zero]
        refine wpAnyH_ready (rs := [10]) (by kernel_rfl) (by simp) ?_
        refine (AllReadyH.cons (by simp only [List.getElem?_toArray, List.getElem?_cons_succ, List.getElem?_cons_zero]; rfl) (fun K hK => ?_) AllReadyH.nil)
        rw [if_pos (by rfl)]
        go_simp
        have hps := E.out.s.lt
        have hb := balloc wc (.cells #[.int .i64 q1, .int .i64 q2, .int .i64 q3, .int .i64 q4, .int .i64 y1, .int .i64 y2, .int .i64 y3, .int .i64 y4] 25)
        have LN := Lib.hid (LsQ.two (w := wc) hps ⟨q1, q2, q3, q4⟩ ⟨y1, y2, y3, y4⟩ 25)
        dsimp only at LN
        generalize hwa : wc.alloc (.cells #[.int .i64 q1, .int .i64 q2, .int .i64 q3, .int .i64 q4, .int .i64 y1, .int .i64 y2, .int .i64 y3, .int .i64 y4] 25) = we at *
        clear hwa
        replace E := Lib.hid (E.out.below hb); replace LS0 := Lib.hid (LS0.out.below hb)
        try (replace LS1 := Lib.hid (LS1.out.below hb))
        try (replace LS2 := Lib.hid (LS2.out.below hb))
        have LS2 := LN
        generalize wc.heap.size = G2 at *
        clear LN hb hHeld hps
        clear f0 f1 f2 f3 hlf g0 g1 g2 g3 hlg
        obtain ⟨f0, f1, f2, f3, hlf⟩ := E.out.va.q
        obtain ⟨g0, g1, g2, g3, hlg⟩ := E.out.vq.q
        dsimp only at f0 f1 f2 f3 g0 g1 g2 g3
        refine hK.out _ _ (by exact ⟨⟨f0, f1, f2, f3⟩, g0, g1, g2, g3⟩) (fun hHeld => ?_)
        clear hK K
        try simp only [Act.put]
        try simp only [List.setIfInBounds_toArray]
        try simp only [List.set_cons_succ]
        try simp only [List.set_cons_zero]
        refine wpAnyH_ready (rs := [11]) (by kernel_rfl) (by simp) ?_
        refine (AllReadyH.cons (by simp only [List.getElem?_toArray, List.getElem?_cons_succ, List.getElem?_cons_zero]; rfl) (fun K hK => ?_) AllReadyH.nil)
        rw [if_pos (by rfl)]
        go_simp
        have hps := E.out.s.lt
        have hb := balloc we (.cells #[.slice A2 n2 c2, .slice none 0 0, .slice (some ⟨G1, 0, none⟩) 2 2, .slice (some ⟨G2, 0, none⟩) 2 2] 28)
        have LL := Lib.hid (Blk.new we 28 #[.slice A2 n2 c2, .slice none 0 0, .slice (some ⟨G1, 0, none⟩) 2 2, .slice (some ⟨G2, 0, none⟩) 2 2])
        generalize hwa : we.alloc (.cells #[.slice A2 n2 c2, .slice none 0 0, .slice (some ⟨G1, 0, none⟩) 2 2, .slice (some ⟨G2, 0, none⟩) 2 2] 28) = wz at *
        clear hwa
        replace E := Lib.hid (E.out.below hb); replace LS0 := Lib.hid (LS0.out.below hb)
        try (replace LS1 := Lib.hid (LS1.out.below hb))
        try (replace LS2 := Lib.hid (LS2.out.below hb))
        generalize we.heap.size = bb at *
        clear hb hHeld
        clear f0 f1 f2 f3 hlf g0 g1 g2 g3 hlg
        obtain ⟨f0, f1, f2, f3, hlf⟩ := E.out.va.q
        obtain ⟨g0, g1, g2, g3, hlg⟩ := E.out.vq.q
        dsimp only at f0 f1 f2 f3 g0 g1 g2 g3
        refine hK.out _ _ (by exact ⟨⟨f0, f1, f2, f3⟩, g0, g1, g2, g3⟩) (fun hHeld => ?_)
        clear hK K
        try simp only [Act.put]
        try simp only [List.setIfInBounds_toArray]
        try simp only [List.set_cons_succ]
        try simp only [List.set_cons_zero]
        refine wpAnyH_take (i := 12) (oi := _) (v := ?_) (by simp only [List.getElem?_toArray, List.getElem?_cons_succ, List.getElem?_cons_zero]; rfl) (by kernel_rfl) (by kernel_rfl) (by kernel_rfl) (by exact fun _ _ _ h => h) (Or.inl ⟨by rfl, ?_⟩) (by assumption) ?_
        rotate_left 1
        · (intro w hSw; (try dsimp only at hSw); go_simp; try with_reducible rfl)
        all_goals try simp only [Act.put]
        all_goals try simp only [List.setIfInBounds_toArray]
        all_goals try simp only [List.set_cons_succ]
        all_goals try simp only [List.set_cons_zero]
        refine wpAnyH_done (by kernel_rfl) ?_ _
        clear hHeld
        clear f0 f1 f2 f3 hlf g0 g1 g2 g3 hlg
        go_wp2_with fail
        go_meet
        exact ⟨bb, G1, G2, _, rfl, rfl, rfl, E.out, LL.out, Nat.ne_of_gt hps, LS0.out, LS1.out, LS2.out⟩
      · rw [if_pos (by rfl)]
        go_simp
        refine (srcFr_any w.heap.size 5 3 _ (by exact E.out.s) (by omega) (by omega) (by omega) (by omega)).mono ?_
        rintro e wb ⟨y3, y4, _, rfl, hS, hk⟩
        replace E := Lib.hid (E.out.kept hS hk); replace LS0 := Lib.hid (LS0.out.kept hk)
        try (replace LS1 := Lib.hid (LS1.out.kept hk))
        try (replace LS2 := Lib.hid (LS2.out.kept hk))
        clear hS hk hHeld
        clear f0 f1 f2 f3 hlf g0 g1 g2 g3 hlg
        obtain ⟨f0, f1, f2, f3, hlf⟩ := E.out.va.q
        obtain ⟨g0, g1, g2, g3, hlg⟩ := E.out.vq.q
        dsimp only at f0 f1 f2 f3 g0 g1 g2 g3
        refine hK.out _ _ (by exact ⟨⟨f0, f1, f2, f3⟩, g0, g1, g2, g3⟩) (fun hHeld => ?_)
        clear hK K
        try simp only [Act.put]
        try simp only [List.setIfInBounds_toArray]
        try simp only [List.set_cons_succ]
        try simp only [List.set_cons_zero]
        refine wpAnyH_take (i := 9) (oi := _) (v := ?_) (by simp only [List.getElem?_toArray, List.getElem?_cons_succ, List.getElem?_cons_zero]; rfl) (by kernel_rfl) (by kernel_rfl) (by kernel_rfl) (by exact fun _ _ _ h => h) (Or.inl ⟨by rfl, ?_⟩) (by assumption) ?_
        rotate_left 1
        · (intro w hSw; (try dsimp only at hSw); go_simp; try with_reducible rfl)
        all_goals try simp only [Act.put]
        all_goals try simp only [List.setIfInBounds_toArray]
        all_goals try simp only [List.set_cons_succ]
        all_goals try simp only [List.set_cons_zero]
        refine wpAnyH_ready (rs := [3, 10]) (by kernel_rfl) (by simp) ?_
        refine (AllReadyH.cons (by simp only [List.getElem?_toArray, List.getElem?_cons_succ, List.getElem?_cons_zero]; rfl) (fun K hK => ?_) (AllReadyH.cons (by simp only [List.getElem?_toArray, List.getElem?_cons_succ, List.getElem?_cons_zero]; rfl) (fun K hK => ?_) AllReadyH.nil))
        · rw [if_pos (by rfl)]
          go_simp
          have hps := E.out.s.lt
          have hb := balloc wb (.cells #[.int .i64 R, .int .i64 r, .int .i64 L, .int .i64 l, .int .i64 q1, .int .i64 q2, .int .i64 q3, .int .i64 q4] 25)
          have LN := Lib.hid (LsQ.two (w := wb) hps ⟨R, r, L, l⟩ ⟨q1, q2, q3, q4⟩ 25)
          dsimp only at LN
          generalize hwa : wb.alloc (.cells #[.int .i64 R, .int .i64 r, .int .i64 L, .int .i64 l, .int .i64 q1, .int .i64 q2, .int .i64 q3, .int .i64 q4] 25) = wc at *
          clear hwa
          replace E := Lib.hid (E.out.below hb); replace LS0 := Lib.hid (LS0.out.below hb)
          try (replace LS1 := Lib.hid (LS1.out.below hb))
          try (replace LS2 := Lib.hid (LS2.out.below hb))
          have LS1 := LN
          generalize wb.heap.size = G1 at *
          clear LN hb hHeld hps
          clear f0 f1 f2 f3 hlf g0 g1 g2 g3 hlg
          obtain ⟨f0, f1, f2, f3, hlf⟩ := E.out.va.q
          obtain ⟨g0, g1, g2, g3, hlg⟩ := E.out.vq.q
          dsimp only at f0 f1 f2 f3 g0 g1 g2 g3
          refine hK.out _ _ (by exact ⟨⟨f0, f1, f2, f3⟩, g0, g1, g2, g3⟩) (fun hHeld => ?_)
          clear hK K
          try simp only [Act.put]
          try simp only [List.setIfInBounds_toArray]
          try simp only [List.set_cons_succ]
          try simp only [List.set_cons_zero]
          refine wpAnyH_ready (rs := [10]) (by kernel_rfl) (by simp) ?_
          refine (AllReadyH.cons (by simp only [List.getElem?_toArray, List.getElem?_cons_succ, List.getElem?_cons_zero]; rfl) (fun K hK => ?_) AllReadyH.nil)
          rw [if_pos (by rfl)]
          go_simp
          have hps := E.out.s.lt
          have hb := balloc wc (.cells #[.int .i64 q1, .int .i64 q2, .int .i64 q3, .int .i64 q4, .int .i64 y1, .int .i64 y2, .int .i64 y3, .int .i64 y4] 25)
          have LN := Lib.hid (LsQ.two (w := wc) hps ⟨q1, q2, q3, q4⟩ ⟨y1, y2, y3, y4⟩ 25)
          dsimp only at LN
          generalize hwa : wc.alloc (.cells #[.int .i64 q1, .int .i64 q2, .int .i64 q3, .int .i64 q4, .int .i64 y1, .int .i64 y2, .int .i64 y3, .int .i64 y4] 25) = we at *
          clear hwa
          replace E := Lib.hid (E.out.below hb); replace LS0 := Lib.hid (LS0.out.below hb)
          try (replace LS1 := Lib.hid (LS1.out.below hb))
          try (replace LS2 := Lib.hid (LS2.out.below hb))
          have LS2 := LN
          generalize wc.heap.size = G2 at *
          clear LN hb hHeld hps
          clear f0 f1 f2 f3 hlf g0 g1 g2 g3 hlg
          obtain ⟨f0, f1, f2, f3, hlf⟩ := E.out.va.q
          obtain ⟨g0, g1, g2, g3, hlg⟩ := E.out.vq.q
          dsimp only at f0 f1 f2 f3 g0 g1 g2 g3
          refine hK.out _ _ (by exact ⟨⟨f0, f1, f2, f3⟩, g0, g1, g2, g3⟩) (fun hHeld => ?_)
          clear hK K
          try simp only [Act.put]
          try simp only [List.setIfInBounds_toArray]
          try simp only [List.set_cons_succ]
          try simp only [List.set_cons_zero]
          refine wpAnyH_ready (rs := [11]) (by kernel_rfl) (by simp) ?_
          refine (AllReadyH.cons (by simp only [List.getElem?_toArray, List.getElem?_cons_succ, List.getElem?_cons_zero]; rfl) (fun K hK => ?_) AllReadyH.nil)
          rw [if_pos (by rfl)]
          go_simp
          have hps := E.out.s.lt
          have hb := balloc we (.cells #[.slice A2 n2 c2, .slice none 0 0, .slice (some ⟨G1, 0, none⟩) 2 2, .slice (some ⟨G2, 0, none⟩) 2 2] 28)
          have LL := Lib.hid (Blk.new we 28 #[.slice A2 n2 c2, .slice none 0 0, .slice (some ⟨G1, 0, none⟩) 2 2, .slice (some ⟨G2, 0, none⟩) 2 2])
          generalize hwa : we.alloc (.cells #[.slice A2 n2 c2, .slice none 0 0, .slice (some ⟨G1, 0, none⟩) 2 2, .slice (some ⟨G2, 0, none⟩) 2 2] 28) = wz at *
          clear hwa
          replace E := Lib.hid (E.out.below hb); replace LS0 := Lib.hid (LS0.out.below hb)
          try (replace LS1 := Lib.hid (LS1.out.below hb))
          try (replace LS2 := Lib.hid (LS2.out.below hb))
          generalize we.heap.size = bb at *
          clear hb hHeld
          clear f0 f1 f2 f3 hlf g0 g1 g2 g3 hlg
          obtain ⟨f0, f1, f2, f3, hlf⟩ := E.out.va.q
          obtain ⟨g0, g1, g2, g3, hlg⟩ := E.out.vq.q
          dsimp only at f0 f1 f2 f3 g0 g1 g2 g3
          refine hK.out _ _ (by exact ⟨⟨f0, f1, f2, f3⟩, g0, g1, g2, g3⟩) (fun hHeld => ?_)
          clear hK K
          try simp only [Act.put]
          try simp only [List.setIfInBounds_toArray]
          try simp only [List.set_cons_succ]
          try simp only [List.set_cons_zero]
          refine wpAnyH_take (i := 12) (oi := _) (v := ?_) (by simp only [List.getElem?_toArray, List.getElem?_cons_succ, List.getElem?_cons_zero]; rfl) (by kernel_rfl) (by kernel_rfl) (by kernel_rfl) (by exact fun _ _ _ h => h) (Or.inl ⟨by rfl, ?_⟩) (by assumption) ?_
          rotate_left 1
          · (intro w hSw; (try dsimp only at hSw); go_simp; try with_reducible rfl)
          all_goals try simp only [Act.put]
          all_goals try simp only [List.setIfInBounds_toArray]
          all_goals try simp only [List.set_cons_succ]
          all_goals try simp only [List.set_cons_zero]
          refine wpAnyH_done (by kernel_rfl) ?_ _
          clear hHeld
          clear f0 f1 f2 f3 hlf g0 g1 g2 g3 hlg
          go_wp2_with fail
          go_meet
          exact ⟨bb, G1, G2, _, rfl, rfl, rfl, E.out, LL.out, Nat.ne_of_gt hps, LS0.out, LS1.out, LS2.out⟩
        · rw [if_pos (by rfl)]
          go_simp
          have hps := E.out.s.lt
          have hb := balloc wb (.cells #[.int .i64 q1, .int .i64 q2, .int .i64 q3, .int .i64 q4, .int .i64 y1, .int .i64 y2, .int .i64 y3, .int .i64 y4] 25)
          have LN := Lib.hid (LsQ.two (w := wb) hps ⟨q1, q2, q3, q4⟩ ⟨y1, y2, y3, y4⟩ 25)
          dsimp only at LN
          generalize hwa : wb.alloc (.cells #[.int .i64 q1, .int .i64 q2, .int .i64 q3, .int .i64 q4, .int .i64 y1, .int .i64 y2, .int .i64 y3, .int .i64 y4] 25) = wc at *
          clear hwa
          replace E := Lib.hid (E.out.below hb); replace LS0 := Lib.hid (LS0.out.below hb)
          try (replace LS1 := Lib.hid (LS1.out.below hb))
          try (replace LS2 := Lib.hid (LS2.out.below hb))
          have LS2 := LN
          generalize wb.heap.size = G2 at *
          clear LN hb hHeld hps
          clear f0 f1 f2 f3 hlf g0 g1 g2 g3 hlg
          obtain ⟨f0, f1, f2, f3, hlf⟩ := E.out.va.q
          obtain ⟨g0, g1, g2, g3, hlg⟩ := E.out.vq.q
          dsimp only at f0 f1 f2 f3 g0 g1 g2 g3
          refine hK.out _ _ (by exact ⟨⟨f0, f1, f2, f3⟩, g0, g1, g2, g3⟩) (fun hHeld => ?_)
          clear hK K
          try simp only [Act.put]
          try simp only [List.setIfInBounds_toArray]
          try simp only [List.set_cons_succ]
          try simp only [List.set_cons_zero]
          refine wpAnyH_ready (rs := [3]) (by kernel_rfl) (by simp) ?_
          refine (AllReadyH.cons (by simp only [List.getElem?_toArray, List.getElem?_cons_succ, List.getElem?_cons_zero]; rfl) (fun K hK => ?_) AllReadyH.nil)
          rw [if_pos (by rfl)]
          go_simp
          have hps := E.out.s.lt
          have hb := balloc wc (.cells #[.int .i64 R, .int .i64 r, .int .i64 L, .int .i64 l, .int .i64 q1, .int .i64 q2, .int .i64 q3, .int .i64 q4] 25)
          have LN := Lib.hid (LsQ.two (w := wc) hps ⟨R, r, L, l⟩ ⟨q1, q2, q3, q4⟩ 25)
          dsimp only at LN
          generalize hwa : wc.alloc (.cells #[.int .i64 R, .int .i64 r, .int .i64 L, .int .i64 l, .int .i64 q1, .int .i64 q2, .int .i64 q3, .int .i64 q4] 25) = we at *
          clear hwa
          replace E := Lib.hid (E.out.below hb); replace LS0 := Lib.hid (LS0.out.below hb)
          try (replace LS1 := Lib.hid (LS1.out.below hb))
          try (replace LS2 := Lib.hid (LS2.out.below hb))
          have LS1 := LN
          generalize wc.heap.size = G1 at *
          clear LN hb hHeld hps
          clear f0 f1 f2 f3 hlf g0 g1 g2 g3 hlg
          obtain ⟨f0, f1, f2, f3, hlf⟩ := E.out.va.q
          obtain ⟨g0, g1, g2, g3, hlg⟩ := E.out.vq.q
          dsimp only at f0 f1 f2 f3 g0 g1 g2 g3
          refine hK.out _ _ (by exact ⟨⟨f0, f1, f2, f3⟩, g0, g1, g2, g3⟩) (fun hHeld => ?_)
          clear hK K
          try simp only [Act.put]
          try simp only [List.setIfInBounds_toArray]
          try simp only [List.set_cons_succ]
          try simp only [List.set_cons_zero]
          refine wpAnyH_ready (rs := [11]) (by kernel_rfl) (by simp) ?_
          refine (AllReadyH.cons (by simp only [List.getElem?_toArray, List.getElem?_cons_succ, List.getElem?_cons_zero]; rfl) (fun K hK => ?_) AllReadyH.nil)
          rw [if_pos (by rfl)]
          go_simp
          have hps := E.out.s.lt
          have hb := balloc we (.cells #[.slice A2 n2 c2, .slice none 0 0, .slice (some ⟨G1, 0, none⟩) 2 2, .slice (some ⟨G2, 0, none⟩) 2 2] 28)
          have LL := Lib.hid (Blk.new we 28 #[.slice A2 n2 c2, .slice none 0 0, .slice (some ⟨G1, 0, none⟩) 2 2, .slice (some ⟨G2, 0, none⟩) 2 2])
          generalize hwa : we.alloc (.cells #[.slice A2 n2 c2, .slice none 0 0, .slice (some ⟨G1, 0, none⟩) 2 2, .slice (some ⟨G2, 0, none⟩) 2 2] 28) = wz at *
          clear hwa
          replace E := Lib.hid (E.out.below hb); replace LS0 := Lib.hid (LS0.out.below hb)
          try (replace LS1 := Lib.hid (LS1.out.below hb))
          try (replace LS2 := Lib.hid (LS2.out.below hb))
          generalize we.heap.size = bb at *
          clear hb hHeld
          clear f0 f1 f2 f3 hlf g0 g1 g2 g3 hlg
          obtain ⟨f0, f1, f2, f3, hlf⟩ := E.out.va.q
          obtain ⟨g0, g1, g2, g3, hlg⟩ := E.out.vq.q
          dsimp only at f0 f1 f2 f3 g0 g1 g2 g3
          refine hK.out _ _ (by exact ⟨⟨f0, f1, f2, f3⟩, g0, g1, g2, g3⟩) (fun hHeld => ?_)
          clear hK K
          try simp only [Act.put]
          try simp only [List.setIfInBounds_toArray]
          try simp only [List.set_cons_succ]
          try simp only [List.set_cons_zero]
          refine wpAnyH_take (i := 12) (oi := _) (v := ?_) (by simp only [List.getElem?_toArray, List.getElem?_cons_succ, List.getElem?_cons_zero]; rfl) (by kernel_rfl) (by kernel_rfl) (by kernel_rfl) (by exact fun _ _ _ h => h) (Or.inl ⟨by rfl, ?_⟩) (by assumption) ?_
          rotate_left 1
          · (intro w hSw; (try dsimp only at hSw); go_simp; try with_reducible rfl)
          all_goals try simp only [Act.put]
          all_goals try simp only [List.setIfInBounds_toArray]
          all_goals try simp only [List.set_cons_succ]
          all_goals try simp only [List.set_cons_zero]
          refine wpAnyH_done (by kernel_rfl) ?_ _
          clear hHeld
          clear f0 f1 f2 f3 hlf g0 g1 g2 g3 hlg
          go_wp2_with fail
          go_meet
          exact ⟨bb, G1, G2, _, rfl, rfl, rfl, E.out, LL.out, Nat.ne_of_gt hps, LS0.out, LS1.out, LS2.out⟩
  case rest =>
    clear E LS0
    obtain ⟨bb, G1, G2, y, rfl, rfl, rfl, hE, hB, hbb, h0, h1, h2⟩ := hcut
    have E := Lib.hid hE; have LB := Lib.hid hB; have LS0 := Lib.hid h0; have LS1 := Lib.hid h1; have LS2 := Lib.hid h2
    clear hE hB h0 h1 h2
    go_wp2_with fail
    go_loopg [12, 13, 14, 15, 16, 49] 4 (fun gg s12 s13 s14 s15 s16 s49 wx => ∃ k : Nat, k + gg = 4 ∧ s49 = .int .i64 k ∧ NE w wx w.heap.size W.heap.size (W.heap.size + 1) Zq ⟨R, r, L, l⟩ ⟨B, b, S, s⟩ ⟨q1, q2, q3, q4⟩ ∧ Blk wx bb 28 #[.slice A2 n2 c2, .slice none 0 0, .slice (some ⟨G1, 0, none⟩) 2 2, .slice (some ⟨G2, 0, none⟩) 2 2] ∧ LsQ w.heap.size wx A2 n2 c2 ps ∧ LsQ w.heap.size wx (some ⟨G1, 0, none⟩) 2 2 [⟨R, r, L, l⟩, ⟨q1, q2, q3, q4⟩] ∧ LsQ w.heap.size wx (some ⟨G2, 0, none⟩) 2 2 [⟨q1, q2, q3, q4⟩, y])
    case atStart => exact ⟨0, rfl, rfl, E.out, LB.out, LS0.out, LS1.out, LS2.out⟩
    case round =>
      clear E LB LS0 LS1 LS2
      obtain ⟨k, hkg, rfl, hE, hB, h0, h1, h2⟩ := hrel
      have E := Lib.hid hE; have LB := Lib.hid hB; have LS0 := Lib.hid h0; have LS1 := Lib.hid h1; have LS2 := Lib.hid h2
      clear hE hB h0 h1 h2
      by_cases hk : k < 4
      case pos =>
        have hki : (k : Int) < 4 := by omega
        obtain ⟨A, n, c, xs, hc, hls⟩ : ∃ (A : Option Addr) (n c : Nat) (xs : List PN), wr.cell? ⟨bb, k, none⟩ = some (.slice A n c) ∧ LsQ w.heap.size wr A n c xs := by
          rcases (show k = 0 ∨ k = 1 ∨ k = 2 ∨ k = 3 by omega) with e | e | e | e
          · exact ⟨_, _, _, _, by rw [e]; exact LB.out.cell 0, LS0.out⟩
          · exact ⟨_, _, _, _, by rw [e]; exact LB.out.cell 1, LsQ.nil _ _⟩
          · exact ⟨_, _, _, _, by rw [e]; exact LB.out.cell 2, LS1.out⟩
          · exact ⟨_, _, _, _, by rw [e]; exact LB.out.cell 3, LS2.out⟩
        have LSX := Lib.hid hls
        have hlb := LB.out.lt
        clear hls
        go_wp2_with fail
        clear hc hlb
        refine (chain_any A n c xs _ LSX.out.1 LSX.out.2.2.1 LSX.out.2.1 (fun h => by
          obtain ⟨g, o, e, _, hr⟩ := LSX.out.2.2.2 h
          exact ⟨g, o, e, hr⟩)).mono ?_
        rintro e wa ⟨r1, e1, hC1, rfl, hb⟩
        have CH1 := Lib.hid hC1
        replace hb := bthen hb (balloc wa (.cells #[.int .i64 r1.R, .int .i64 r1.r, .int .i64 r1.L, .int .i64 r1.l] 25))
        replace E := Lib.hid (E.out.below hb); replace LB := Lib.hid (LB.out.below hb LB.out.lt); replace LS0 := Lib.hid (LS0.out.below hb); replace LS1 := Lib.hid (LS1.out.below hb); replace LS2 := Lib.hid (LS2.out.below hb); replace LSX := Lib.hid (LSX.out.below hb)
        have D1 := Lib.hid (Blk.new wa 25 #[.int .i64 r1.R, .int .i64 r1.r, .int .i64 r1.L, .int .i64 r1.l])
        clear hC1 hb
        go_upto_region 9 with fail
        generalize hwe : wa.alloc (.cells #[.int .i64 r1.R, .int .i64 r1.r, .int .i64 r1.L, .int .i64 r1.l] 25) = wb at *
        clear hwe
        generalize wa.heap.size = Z1 at *
        go_wp2_with fail
        refine (rchain_any A n c xs _ LSX.out.1 LSX.out.2.2.1 LSX.out.2.1 (fun h => by
          obtain ⟨g, o, e, _, hr⟩ := LSX.out.2.2.2 h
          exact ⟨g, o, e, hr⟩)).mono ?_
        rintro e wc ⟨r2, e2, hC2, rfl, hb⟩
        obtain ⟨rfl, rfl⟩ := ChS.uq CH1.out hC2
        replace hb := bthen hb (balloc wc (.cells #[.int .i64 r1.R, .int .i64 r1.r, .int .i64 r1.L, .int .i64 r1.l] 25))
        replace E := Lib.hid (E.out.below hb); replace LB := Lib.hid (LB.out.below hb LB.out.lt); replace LS0 := Lib.hid (LS0.out.below hb); replace LS1 := Lib.hid (LS1.out.below hb); replace LS2 := Lib.hid (LS2.out.below hb); replace D1 := Lib.hid (D1.out.below hb D1.out.lt)
        have D2 := Lib.hid (Blk.new wc 25 #[.int .i64 r1.R, .int .i64 r1.r, .int .i64 r1.L, .int .i64 r1.l])
        clear hC2 hb CH1 LSX
        go_upto_region 10 with fail
        generalize hwe : wc.alloc (.cells #[.int .i64 r1.R, .int .i64 r1.r, .int .i64 r1.L, .int .i64 r1.l] 25) = wd at *
        clear hwe
        generalize wc.heap.size = Z2 at *
        obtain ⟨⟨a0, a1, a2, a3⟩, _, hla⟩ := bq4 D1.out
        obtain ⟨⟨b0, b1, b2, b3⟩, _, hlb⟩ := bq4 D2.out
        have d1 : (e1 != e1) = false := by simp
        go_wp2_with fail
        go_roundg (gk - 1)
        case measure => omega
        case rel => exact ⟨k + 1, by omega, by go_num, E.out, LB.out, LS0.out, LS1.out, LS2.out⟩
      case neg =>
        have hki : ¬ (k : Int) < 4 := by omega
        clear LB LS0 LS1 LS2 hk hkg
        go_upto_region 13 with fail
        go_cut [78, 79, 80] (fun s78 s79 s80 wx => ∃ (G3 : Nat) (x : PN), s78 = .slice (some ⟨G3, 0, none⟩) 2 2 ∧ s79 = .int .i64 2 ∧ s80 = .int .i64 0 ∧ NE w wx w.heap.size W.heap.size (W.heap.size + 1) Zq ⟨R, r, L, l⟩ ⟨B, b, S, s⟩ ⟨q1, q2, q3, q4⟩ ∧ LsQ w.heap.size wx (some ⟨G3, 0, none⟩) 2 2 [⟨B, b, S, s⟩, x])
        case first =>
          replace E := Lib.hid (NE.drew E.out)
          obtain ⟨f0, f1, f2, f3, hlf⟩ := E.out.vb.q
          dsimp only at f0 f1 f2 f3
          refine wp_region_held_drew (S := (fun w' => w'.cell? ⟨W.heap.size + 1, 0, none⟩ = some (.int .i64 B) ∧ w'.cell? ⟨W.heap.size + 1, 1, none⟩ = some (.int .i64 b) ∧ w'.cell? ⟨W.heap.size + 1, 2, none⟩ = some (.int .i64 S) ∧ w'.cell? ⟨W.heap.size + 1, 3, none⟩ = some (.int .i64 s))) (by kernel_rfl) (by exact ⟨f0, f1, f2, f3⟩) (fun hHeld => ?_)
          clear f0 f1 f2 f3 hlf
          generalize hwd : wr.drew = wd at *
          clear hwd
          obtain ⟨f0, f1, f2, f3, hlf⟩ := E.out.vb.q
          dsimp only at f0 f1 f2 f3
          refine wpAnyH_take (i := 0) (oi := _) (v := ?_) (by simp only [List.getElem?_toArray, List.getElem?_cons_zero]; rfl) (by kernel_rfl) (by kernel_rfl) (by kernel_rfl) (by exact fun _ _ _ h => h) (Or.inl ⟨by rfl, ?_⟩) (by assumption) ?_
          rotate_left 1
          · (intro w hSw; (try dsimp only at hSw); go_simp; try with_reducible rfl)
          all_goals try simp only [Act.put]
          all_goals try simp only [List.setIfInBounds_toArray]
          all_goals try simp only [List.set_cons_succ]
          all_goals try simp only [List.set_cons_zero]
          refine wpAnyH_take (i := 1) (oi := _) (v := ?_) (by simp only [List.getElem?_toArray, List.getElem?_cons_succ, List.getElem?_cons_zero]; rfl) (by kernel_rfl) (by kernel_rfl) (by kernel_rfl) (by exact fun _ _ _ h => h) (Or.inl ⟨by rfl, ?_⟩) (by assumption) ?_
          rotate_left 1
          · (intro w hSw; (try dsimp only at hSw); go_simp; try with_reducible rfl)
          all_goals try simp only [Act.put]
          all_goals try simp only [List.setIfInBounds_toArray]
          all_goals try simp only [List.set_cons_succ]
          all_goals try simp only [List.set_cons_zero]
          refine wpAnyH_take (i := 3) (oi := _) (v := ?_) (by simp only [List.getElem?_toArray, List.getElem?_cons_succ, List.getElem?_cons_zero]; rfl) (by kernel_rfl) (by kernel_rfl) (by kernel_rfl) (by exact fun _ _ _ h => h) (Or.inl ⟨by rfl, ?_⟩) (by assumption) ?_
          rotate_left 1
          · (intro w hSw; (try dsimp only at hSw); go_simp; try with_reducible rfl)
          all_goals try simp only [Act.put]
          all_goals try simp only [List.setIfInBounds_toArray]
          all_goals try simp only [List.set_cons_succ]
          all_goals try simp only [List.set_cons_zero]
          refine wpAnyH_take (i := 8) (oi := _) (v := ?_) (by simp only [List.getElem?_toArray, List.getElem?_cons_succ, List.getElem?_cons_zero]; rfl) (by kernel_rfl) (by kernel_rfl) (by kernel_rfl) (by exact fun _ _ _ h => h) (Or.inl ⟨by rfl, ?_⟩) (by assumption) ?_
          rotate_left 1
          · (intro w hSw; (try dsimp only at hSw); go_simp; try with_reducible rfl)
          all_goals try simp only [Act.put]
          all_goals try simp only [List.setIfInBounds_toArray]
          all_goals try simp only [List.set_cons_succ]
          all_goals try simp only [List.set_cons_zero]
          refine wpAnyH_ready (rs := [2]) (by kernel_rfl) (by simp) ?_
          refine (AllReadyH.cons (by simp only [List.getElem?_toArray, List.getElem?_cons_succ, List.getElem?_cons_zero]; rfl) (fun K hK => ?_) AllReadyH.nil)
          rw [if_pos (by rfl)]
          go_simp
          refine (ratio12_any w.heap.size _ (by exact E.out.s)).mono ?_
          rintro e wa ⟨x1, x2, _, rfl, hS, hk⟩
          replace E := Lib.hid (E.out.kept hS hk)
          clear hS hk hHeld
          clear f0 f1 f2 f3 hlf
          obtain ⟨f0, f1, f2, f3, hlf⟩ := E.out.vb.q
          dsimp only at f0 f1 f2 f3
          refine hK.out _ _ (by exact ⟨f0, f1, f2, f3⟩) (fun hHeld => ?_)
          clear hK K
          try simp only [Act.put]
          try simp only [List.setIfInBounds_toArray]
          try simp only [List.set_cons_succ]
          try simp only [List.set_cons_zero]
          refine wpAnyH_ready (rs := [4]) (by kernel_rfl) (by simp) ?_
          refine (AllReadyH.cons (by simp only [List.getElem?_toArray, List.getElem?_cons_succ, List.getElem?_cons_zero]; rfl) (fun K hK => ?_) AllReadyH.nil)
          rw [if_pos (by rfl)]
          go_simp
          refine (srcFr_any w.heap.size 5 3 _ (by exact E.out.s) (by omega) (by omega) (by omega) (by omega)).mono ?_
          rintro e wb ⟨x3, x4, _, rfl, hS, hk⟩
          replace E := Lib.hid (E.out.kept hS hk)
          clear hS hk hHeld
          clear f0 f1 f2 f3 hlf
          obtain ⟨f0, f1, f2, f3, hlf⟩ := E.out.vb.q
          dsimp only at f0 f1 f2 f3
          refine hK.out _ _ (by exact ⟨f0, f1, f2, f3⟩) (fun hHeld => ?_)
          clear hK K
          try simp only [Act.put]
          try simp only [List.setIfInBounds_toArray]
          try simp only [List.set_cons_succ]
          try simp only [List.set_cons_zero]
          refine wpAnyH_take (i := 5) (oi := _) (v := ?_) (by simp only [List.getElem?_toArray, List.getElem?_cons_succ, List.getElem?_cons_zero]; rfl) (by kernel_rfl) (by kernel_rfl) (by kernel_rfl) (by exact fun _ _ _ h => h) (Or.inl ⟨by rfl, ?_⟩) (by assumption) ?_
          rotate_left 1
          · (intro w hSw; (try dsimp only at hSw); go_simp; try with_reducible rfl)
          all_goals try simp only [Act.put]
          all_goals try simp only [List.setIfInBounds_toArray]
          all_goals try simp only [List.set_cons_succ]
          all_goals try simp only [List.set_cons_zero]
          refine wpAnyH_ready (rs := [6]) (by kernel_rfl) (by simp) ?_
          refine (AllReadyH.cons (by simp only [List.getElem?_toArray, List.getElem?_cons_succ, List.getElem?_cons_zero]; rfl) (fun K hK => ?_) AllReadyH.nil)
          rw [if_pos (by rfl)]
          go_simp
          have hps := E.out.s.lt
          have hb := balloc wb (.cells #[.int .i64 B, .int .i64 b, .int .i64 S, .int .i64 s, .int .i64 x1, .int .i64 x2, .int .i64 x3, .int .i64 x4] 27)
          have LN := Lib.hid (LsQ.two (w := wb) hps ⟨B, b, S, s⟩ ⟨x1, x2, x3, x4⟩ 27)
          dsimp only at LN
          generalize hwa : wb.alloc (.cells #[.int .i64 B, .int .i64 b, .int .i64 S, .int .i64 s, .int .i64 x1, .int .i64 x2, .int .i64 x3, .int .i64 x4] 27) = wz at *
          clear hwa
          replace E := Lib.hid (E.out.below hb)
          generalize wb.heap.size = G3 at *
          clear hb hHeld hps
          clear f0 f1 f2 f3 hlf
          obtain ⟨f0, f1, f2, f3, hlf⟩ := E.out.vb.q
          dsimp only at f0 f1 f2 f3
          refine hK.out _ _ (by exact ⟨f0, f1, f2, f3⟩) (fun hHeld => ?_)
          clear hK K
          try simp only [Act.put]
          try simp only [List.setIfInBounds_toArray]
          try simp only [List.set_cons_succ]
          try simp only [List.set_cons_zero]
          refine wpAnyH_take (i := 7) (oi := _) (v := ?_) (by simp only [List.getElem?_toArray, List.getElem?_cons_succ, List.getElem?_cons_zero]; rfl) (by kernel_rfl) (by kernel_rfl) (by kernel_rfl) (by exact fun _ _ _ h => h) (Or.inl ⟨by rfl, ?_⟩) (by assumption) ?_
          rotate_left 1
          · (intro w hSw; (try dsimp only at hSw); go_simp; try with_reducible rfl)
          all_goals try simp only [Act.put]
          all_goals try simp only [List.setIfInBounds_toArray]
          all_goals try simp only [List.set_cons_succ]
          all_goals try simp only [List.set_cons_zero]
          refine wpAnyH_done (by kernel_rfl) ?_ _
          clear hHeld
          clear f0 f1 f2 f3 hlf
          go_wp2_with fail
          go_meet
          exact ⟨G3, _, rfl, rfl, rfl, E.out, LN.out⟩
        case rest =>
          clear E
          obtain ⟨G3, x9, rfl, rfl, rfl, hE, h3⟩ := hcut
          have E := Lib.hid hE; have LS3 := Lib.hid h3
          clear hE h3
          go_wp2_with fail
          go_loopg [80] 2 (fun gg s80 wx => ∃ k : Nat, k + gg = 2 ∧ s80 = .int .i64 k ∧ NE w wx w.heap.size W.heap.size (W.heap.size + 1) Zq ⟨R, r, L, l⟩ ⟨B, b, S, s⟩ ⟨q1, q2, q3, q4⟩ ∧ LsQ w.heap.size wx (some ⟨G3, 0, none⟩) 2 2 [⟨B, b, S, s⟩, x9])
          case atStart => exact ⟨0, rfl, rfl, E.out, LS3.out⟩
          case round =>
            clear E LS3
            obtain ⟨k, hkg, rfl, hE, h3⟩ := hrel
            have E := Lib.hid hE; have LS3 := Lib.hid h3
            clear hE h3
            obtain ⟨go, hgo⟩ : ∃ go : Nat, go = gk := ⟨_, rfl⟩
            subst hgo
            by_cases hk : k < 2
            case neg =>
              have hki : ¬ (k : Int) < 2 := by omega
              go_wp2_with fail
              refine (awake12_any _).mono ?_
              rintro q wq ⟨rfl, hbq⟩
              have bw := bthen BW.out (bthen (E.out.k.below (Nat.le_refl _)) hbq)
              go_wp2_with fail
              go_ret
              exact ⟨rfl, bw⟩
            case pos =>
            have hki : (k : Int) < 2 := by omega
            obtain ⟨x, ⟨k0, k1, k2, k3⟩, hlk⟩ := LS3.out.at_ hk
            go_upto_region 16 with fail
            clear k0 k1 k2 k3 hlk
            have hps := E.out.s.lt
            have hb := balloc wr (.cells #[.int .i64 x.R, .int .i64 x.r, .int .i64 x.L, .int .i64 x.l] 27)
            have DX := Lib.hid (show Lq w.heap.size (wr.alloc (.cells #[.int .i64 x.R, .int .i64 x.r, .int .i64 x.L, .int .i64 x.l] 27)) wr.heap.size 27 x from ⟨Blk.new _ _ _, Nat.ne_of_gt hps⟩)
            replace E := Lib.hid (E.out.below hb); replace LS3 := Lib.hid (LS3.out.below hb)
            generalize hwe : wr.alloc (.cells #[.int .i64 x.R, .int .i64 x.r, .int .i64 x.L, .int .i64 x.l] 27) = we at *
            clear hwe hb hps
            generalize wr.heap.size = Zx at *
            go_cut [91, 92, 93] (fun s91 s92 s93 wx => ∃ (G4 : Nat) (z : PN), s91 = .slice (some ⟨G4, 0, none⟩) 3 3 ∧ s92 = .int .i64 3 ∧ s93 = .int .i64 0 ∧ NE w wx w.heap.size W.heap.size (W.heap.size + 1) Zq ⟨R, r, L, l⟩ ⟨B, b, S, s⟩ ⟨q1, q2, q3, q4⟩ ∧ LsQ w.heap.size wx (some ⟨G3, 0, none⟩) 2 2 [⟨B, b, S, s⟩, x9] ∧ Lq w.heap.size wx Zx 27 x ∧ LsQ w.heap.size wx (some ⟨G4, 0, none⟩) 3 3 [⟨R, r, L, l⟩, ⟨q1, q2, q3, q4⟩, z])
            case first =>
              replace E := Lib.hid (NE.drew E.out); replace LS3 := Lib.hid (LsQ.drew LS3.out); replace DX := Lib.hid (Lq.drew DX.out)
              obtain ⟨f0, f1, f2, f3, hlf⟩ := E.out.va.q
              obtain ⟨g0, g1, g2, g3, hlg⟩ := E.out.vq.q
              dsimp only at f0 f1 f2 f3 g0 g1 g2 g3
              refine wp_region_held_drew (S := (fun w' => (w'.cell? ⟨W.heap.size, 0, none⟩ = some (.int .i64 R) ∧ w'.cell? ⟨W.heap.size, 1, none⟩ = some (.int .i64 r) ∧ w'.cell? ⟨W.heap.size, 2, none⟩ = some (.int .i64 L) ∧ w'.cell? ⟨W.heap.size, 3, none⟩ = some (.int .i64 l)) ∧ w'.cell? ⟨Zq, 0, none⟩ = some (.int .i64 q1) ∧ w'.cell? ⟨Zq, 1, none⟩ = some (.int .i64 q2) ∧ w'.cell? ⟨Zq, 2, none⟩ = some (.int .i64 q3) ∧ w'.cell? ⟨Zq, 3, none⟩ = some (.int .i64 q4))) (by kernel_rfl) (by exact ⟨⟨f0, f1, f2, f3⟩, g0, g1, g2, g3⟩) (fun hHeld => ?_)
              clear f0 f1 f2 f3 hlf g0 g1 g2 g3 hlg
              generalize hwd : we.drew = wd at *
              clear hwd
              obtain ⟨f0, f1, f2, f3, hlf⟩ := E.out.va.q
              obtain ⟨g0, g1, g2, g3, hlg⟩ := E.out.vq.q
              dsimp only at f0 f1 f2 f3 g0 g1 g2 g3
              refine wpAnyH_take (i := 0) (oi := _) (v := ?_) (by simp only [List.getElem?_toArray, List.getElem?_cons_zero]; rfl) (by kernel_rfl) (by kernel_rfl) (by kernel_rfl) (by exact fun _ _ _ h => h) (Or.inl ⟨by rfl, ?_⟩) (by assumption) ?_
              rotate_left 1
              · (intro w hSw; (try dsimp only at hSw); go_simp; try with_reducible rfl)
              all_goals try simp only [Act.put]
              all_goals try simp only [List.setIfInBounds_toArray]
              all_goals try simp only [List.set_cons_succ]
              all_goals try simp only [List.set_cons_zero]
              refine wpAnyH_take (i := 1) (oi := _) (v := ?_) (by simp only [List.getElem?_toArray, List.getElem?_cons_succ, List.getElem?_cons_zero]; rfl) (by kernel_rfl) (by kernel_rfl) (by kernel_rfl) (by exact fun _ _ _ h => h) (Or.inl ⟨by rfl, ?_⟩) (by assumption) ?_
              rotate_left 1
              · (intro w hSw; (try dsimp only at hSw); go_simp; try with_reducible rfl)
              all_goals try simp only [Act.put]
              all_goals try simp only [List.setIfInBounds_toArray]
              all_goals try simp only [List.set_cons_succ]
              all_goals try simp only [List.set_cons_zero]
              refine wpAnyH_take (i := 2) (oi := _) (v := ?_) (by simp only [List.getElem?_toArray, List.getElem?_cons_succ, List.getElem?_cons_zero]; rfl) (by kernel_rfl) (by kernel_rfl) (by kernel_rfl) (by exact fun _ _ _ h => h) (Or.inl ⟨by rfl, ?_⟩) (by assumption) ?_
              rotate_left 1
              · (intro w hSw; (try dsimp only at hSw); go_simp; try with_reducible rfl)
              all_goals try simp only [Act.put]
              all_goals try simp only [List.setIfInBounds_toArray]
              all_goals try simp only [List.set_cons_succ]
              all_goals try simp only [List.set_cons_zero]
              refine wpAnyH_take (i := 4) (oi := _) (v := ?_) (by simp only [List.getElem?_toArray, List.getElem?_cons_succ, List.getElem?_cons_zero]; rfl) (by kernel_rfl) (by kernel_rfl) (by kernel_rfl) (by exact fun _ _ _ h => h) (Or.inl ⟨by rfl, ?_⟩) (by assumption) ?_
              rotate_left 1
              · (intro w hSw; (try dsimp only at hSw); go_simp; try with_reducible rfl)
              all_goals try simp only [Act.put]
              all_goals try simp only [List.setIfInBounds_toArray]
              all_goals try simp only [List.set_cons_succ]
              all_goals try simp only [List.set_cons_zero]
              refine wpAnyH_take (i := 9) (oi := _) (v := ?_) (by simp only [List.getElem?_toArray, List.getElem?_cons_succ, List.getElem?_cons_zero]; rfl) (by kernel_rfl) (by kernel_rfl) (by kernel_rfl) (by exact fun _ _ _ h => h) (Or.inl ⟨by rfl, ?_⟩) (by assumption) ?_
              rotate_left 1
              · (intro w hSw; (try dsimp only at hSw); go_simp; try with_reducible rfl)
              all_goals try simp only [Act.put]
              all_goals try simp only [List.setIfInBounds_toArray]
              all_goals try simp only [List.set_cons_succ]
              all_goals try simp only [List.set_cons_zero]
              refine wpAnyH_ready (rs := [3]) (by kernel_rfl) (by simp) ?_
              refine (AllReadyH.cons (by simp only [List.getElem?_toArray, List.getElem?_cons_succ, List.getElem?_cons_zero]; rfl) (fun K hK => ?_) AllReadyH.nil)
              rw [if_pos (by rfl)]
              go_simp
              refine (srcFr_any w.heap.size 9 3 _ (by exact E.out.s) (by omega) (by omega) (by omega) (by omega)).mono ?_
              rintro e wa ⟨z1, z2, _, rfl, hS, hk'⟩
              replace E := Lib.hid (E.out.kept hS hk'); replace LS3 := Lib.hid (LS3.out.kept hk'); replace DX := Lib.hid (DX.out.kept hk')
              clear hS hk' hHeld
              clear f0 f1 f2 f3 hlf g0 g1 g2 g3 hlg
              obtain ⟨f0, f1, f2, f3, hlf⟩ := E.out.va.q
              obtain ⟨g0, g1, g2, g3, hlg⟩ := E.out.vq.q
              dsimp only at f0 f1 f2 f3 g0 g1 g2 g3
              refine hK.out _ _ (by exact ⟨⟨f0, f1, f2, f3⟩, g0, g1, g2, g3⟩) (fun hHeld => ?_)
              clear hK K
              try simp only [Act.put]
              try simp only [List.setIfInBounds_toArray]
              try simp only [List.set_cons_succ]
              try simp only [List.set_cons_zero]
              refine wpAnyH_ready (rs := [5]) (by kernel_rfl) (by simp) ?_
              refine (AllReadyH.cons (by simp only [List.getElem?_toArray, List.getElem?_cons_succ, List.getElem?_cons_zero]; rfl) (fun K hK => ?_) AllReadyH.nil)
              rw [if_pos (by rfl)]
              go_simp
              refine (srcFr_any w.heap.size 9 3 _ (by exact E.out.s) (by omega) (by omega) (by omega) (by omega)).mono ?_
              rintro e wb ⟨z3, z4, _, rfl, hS, hk'⟩
              replace E := Lib.hid (E.out.kept hS hk'); replace LS3 := Lib.hid (LS3.out.kept hk'); replace DX := Lib.hid (DX.out.kept hk')
              clear hS hk' hHeld
              clear f0 f1 f2 f3 hlf g0 g1 g2 g3 hlg
              obtain ⟨f0, f1, f2, f3, hlf⟩ := E.out.va.q
              obtain ⟨g0, g1, g2, g3, hlg⟩ := E.out.vq.q
              dsimp only at f0 f1 f2 f3 g0 g1 g2 g3
              refine hK.out _ _ (by exact ⟨⟨f0, f1, f2, f3⟩, g0, g1, g2, g3⟩) (fun hHeld => ?_)
              clear hK K
              try simp only [Act.put]
              try simp only [List.setIfInBounds_toArray]
              try simp only [List.set_cons_succ]
              try simp only [List.set_cons_zero]
              refine wpAnyH_take (i := 6) (oi := _) (v := ?_) (by simp only [List.getElem?_toArray, List.getElem?_cons_succ, List.getElem?_cons_zero]; rfl) (by kernel_rfl) (by kernel_rfl) (by kernel_rfl) (by exact fun _ _ _ h => h) (Or.inl ⟨by rfl, ?_⟩) (by assumption) ?_
              rotate_left 1
              · (intro w hSw; (try dsimp only at hSw); go_simp; try with_reducible rfl)
              all_goals try simp only [Act.put]
              all_goals try simp only [List.setIfInBounds_toArray]
              all_goals try simp only [List.set_cons_succ]
              all_goals try simp only [List.set_cons_zero]
              refine wpAnyH_ready (rs := [7]) (by kernel_rfl) (by simp) ?_
              refine (AllReadyH.cons (by simp only [List.getElem?_toArray, List.getElem?_cons_succ, List.getElem?_cons_zero]; rfl) (fun K hK => ?_) AllReadyH.nil)
              rw [if_pos (by rfl)]
              go_simp
              have hps := E.out.s.lt
              have hb := balloc wb (.cells #[.int .i64 R, .int .i64 r, .int .i64 L, .int .i64 l, .int .i64 q1, .int .i64 q2, .int .i64 q3, .int .i64 q4, .int .i64 z1, .int .i64 z2, .int .i64 z3, .int .i64 z4] 25)
              have LN := Lib.hid (LsQ.three (w := wb) hps ⟨R, r, L, l⟩ ⟨q1, q2, q3, q4⟩ ⟨z1, z2, z3, z4⟩ 25)
              dsimp only at LN
              generalize hwa : wb.alloc (.cells #[.int .i64 R, .int .i64 r, .int .i64 L, .int .i64 l, .int .i64 q1, .int .i64 q2, .int .i64 q3, .int .i64 q4, .int .i64 z1, .int .i64 z2, .int .i64 z3, .int .i64 z4] 25) = wz at *
              clear hwa
              replace E := Lib.hid (E.out.below hb); replace LS3 := Lib.hid (LS3.out.below hb); replace DX := Lib.hid (DX.out.below hb)
              generalize wb.heap.size = G4 at *
              clear hb hHeld hps
              clear f0 f1 f2 f3 hlf g0 g1 g2 g3 hlg
              obtain ⟨f0, f1, f2, f3, hlf⟩ := E.out.va.q
              obtain ⟨g0, g1, g2, g3, hlg⟩ := E.out.vq.q
              dsimp only at f0 f1 f2 f3 g0 g1 g2 g3
              refine hK.out _ _ (by exact ⟨⟨f0, f1, f2, f3⟩, g0, g1, g2, g3⟩) (fun hHeld => ?_)
              clear hK K
              try simp only [Act.put]
              try simp only [List.setIfInBounds_toArray]
              try simp only [List.set_cons_succ]
              try simp only [List.set_cons_zero]
              refine wpAnyH_take (i := 8) (oi := _) (v := ?_) (by simp only [List.getElem?_toArray, List.getElem?_cons_succ, List.getElem?_cons_zero]; rfl) (by kernel_rfl) (by kernel_rfl) (by kernel_rfl) (by exact fun _ _ _ h => h) (Or.inl ⟨by rfl, ?_⟩) (by assumption) ?_
              rotate_left 1
              · (intro w hSw; (try dsimp only at hSw); go_simp; try with_reducible rfl)
              all_goals try simp only [Act.put]
              all_goals try simp only [List.setIfInBounds_toArray]
              all_goals try simp only [List.set_cons_succ]
              all_goals try simp only [List.set_cons_zero]
              refine wpAnyH_done (by kernel_rfl) ?_ _
              clear hHeld
              clear f0 f1 f2 f3 hlf g0 g1 g2 g3 hlg
              go_wp2_with fail
              go_meet
              exact ⟨G4, _, rfl, rfl, rfl, E.out, LS3.out, DX.out, LN.out⟩
            case rest =>
              clear E LS3 DX
              obtain ⟨G4, z9, rfl, rfl, rfl, hE, h3, hX, h4⟩ := hcut
              have E := Lib.hid hE; have LS3 := Lib.hid h3; have DX := Lib.hid hX; have LS4 := Lib.hid h4
              clear hE h3 hX h4
              go_wp2_with fail
              go_loopg [93] 3 (fun gg s93 wx => ∃ i : Nat, i + gg = 3 ∧ s93 = .int .i64 i ∧ NE w wx w.heap.size W.heap.size (W.heap.size + 1) Zq ⟨R, r, L, l⟩ ⟨B, b, S, s⟩ ⟨q1, q2, q3, q4⟩ ∧ LsQ w.heap.size wx (some ⟨G3, 0, none⟩) 2 2 [⟨B, b, S, s⟩, x9] ∧ Lq w.heap.size wx Zx 27 x ∧ LsQ w.heap.size wx (some ⟨G4, 0, none⟩) 3 3 [⟨R, r, L, l⟩, ⟨q1, q2, q3, q4⟩, z9])
              case atStart => exact ⟨0, rfl, rfl, E.out, LS3.out, DX.out, LS4.out⟩
              case round =>
                clear E LS3 DX LS4
                obtain ⟨i, hig, rfl, hE, h3, hX, h4⟩ := hrel
                have E := Lib.hid hE; have LS3 := Lib.hid h3; have DX := Lib.hid hX; have LS4 := Lib.hid h4
                clear hE h3 hX h4
                by_cases hi : i < 3
                case neg =>
                  have hii : ¬ (i : Int) < 3 := by omega
                  go_wp2_with fail
                  go_roundg (go - 1)
                  case measure => omega
                  case rel => exact ⟨k + 1, by omega, by go_num, E.out, LS3.out⟩
                case pos =>
                have hii : (i : Int) < 3 := by omega
                obtain ⟨y, ⟨k0, k1, k2, k3⟩, hlk⟩ := LS4.out.at_ hi
                go_upto_region 19 with fail
                clear k0 k1 k2 k3 hlk
                have DY := Lib.hid (Blk.new wr 25 #[.int .i64 y.R, .int .i64 y.r, .int .i64 y.L, .int .i64 y.l])
                have hb := balloc wr (.cells #[.int .i64 y.R, .int .i64 y.r, .int .i64 y.L, .int .i64 y.l] 25)
                replace E := Lib.hid (E.out.below hb); replace LS3 := Lib.hid (LS3.out.below hb); replace DX := Lib.hid (DX.out.below hb); replace LS4 := Lib.hid (LS4.out.below hb)
                generalize hwe : wr.alloc (.cells #[.int .i64 y.R, .int .i64 y.r, .int .i64 y.L, .int .i64 y.l] 25) = wf at *
                clear hwe hb
                generalize wr.heap.size = Zy at *
                obtain ⟨v1, v2, v3, hw1, hw2⟩ := wait_two x y
                have HW1 := Lib.hid hw1; have HW2 := Lib.hid hw2
                clear hw1 hw2
                obtain ⟨c0, c1, c2', c3, hlc⟩ := DX.out.q
                obtain ⟨⟨d0, d1, d2, d3⟩, _, hld⟩ := bq4 DY.out
                go_wp2_with fail
                refine (HW1.out _).mono ?_
                rintro e wg ⟨rfl, hb⟩
                have F1 := Lib.hid (Blk.new wg 23 #[.int .i64 v1, .int .i64 v2])
                replace hb := bthen hb (balloc wg (.cells #[.int .i64 v1, .int .i64 v2] 23))
                replace E := Lib.hid (E.out.below hb); replace LS3 := Lib.hid (LS3.out.below hb); replace DX := Lib.hid (DX.out.below hb); replace LS4 := Lib.hid (LS4.out.below hb); replace DY := Lib.hid (DY.out.below hb DY.out.lt)
                clear hb c0 c1 c2' c3 hlc d0 d1 d2 d3 hld
                go_upto_region 20 with fail
                generalize hwe : wg.alloc (.cells #[.int .i64 v1, .int .i64 v2] 23) = wh at *
                clear hwe
                generalize wg.heap.size = Z21 at *
                obtain ⟨c0, c1, c2', c3, hlc⟩ := DX.out.q
                obtain ⟨⟨d0, d1, d2, d3⟩, _, hld⟩ := bq4 DY.out
                go_wp2_with fail
                refine (HW2.out _).mono ?_
                rintro e wi ⟨rfl, hb⟩
                have F2 := Lib.hid (Blk.new wi 23 #[.int .i64 v1, .int .i64 v2])
                replace hb := bthen hb (balloc wi (.cells #[.int .i64 v1, .int .i64 v2] 23))
                replace E := Lib.hid (E.out.below hb); replace LS3 := Lib.hid (LS3.out.below hb); replace DX := Lib.hid (DX.out.below hb); replace LS4 := Lib.hid (LS4.out.below hb); replace F1 := Lib.hid (F1.out.below hb F1.out.lt)
                clear hb c0 c1 c2' c3 hlc d0 d1 d2 d3 hld DY HW1 HW2
                go_upto_region 21 with fail
                generalize hwe : wi.alloc (.cells #[.int .i64 v1, .int .i64 v2] 23) = wj at *
                clear hwe
                generalize wi.heap.size = Z23 at *
                obtain ⟨a0, a1⟩ : _ ∧ _ := ⟨F1.out.cell 0, F1.out.cell 1⟩
                obtain ⟨b0, b1⟩ : _ ∧ _ := ⟨F2.out.cell 0, F2.out.cell 1⟩
                simp at a0 a1 b0 b1
                have hla := F1.out.lt; have hlb := F2.out.lt
                have dv : (v3 != v3) = false := by simp
                go_wp2_with fail
                go_roundg (gk - 1)
                case measure => omega
                case rel => exact ⟨i + 1, by omega, by go_num, E.out, LS3.out, DX.out, LS4.out⟩
end Go.Proofs.Ythdibkmjoiipgaa
