/- remainder: raw and Rest: what they return for finite curves. -/
import Derived.Deep.LoopGhost
import Derived.Deep.DeepCutAuto
import Derived.BigRegion
import Derived.Test.YtaejfleahamapaaGreatTc15
import Derived.Test.YtaejfleahamapaaGreatTc14
import Derived.Test.YtaejfleahamapaaGreatTc11
import Derived.Test.YtaejfleahamapaaGreatTc12
import Derived.Test.YtaejfleahamapaaGreatTc2
namespace Go.Proofs.YtaejfleahamapaaGreat
open Go.RowKit
set_option linter.unusedVariables false

structure Loc (p : Nat) (w : World) (F : Nat) (A : Option Addr) (n c : Nat) (f : Cv) : Prop where
  blk : Blk w F 26 #[.slice A n c, .int .i64 f.per, .int .i64 f.inc]
  ints : Ints w w.heap.size A n f.vals
  ne : F ≠ p
  ap : ∀ b off s, A = some ⟨b, off, s⟩ → b ≠ p

section
variable {p F n c : Nat} {w w' : World} {A : Option Addr} {f : Cv}
theorem Loc.lt (h : Loc p w F A n c f) : F < w.heap.size := h.blk.lt
theorem Loc.below (h : Loc p w F A n c f) (hb : Below w.heap.size w w') : Loc p w' F A n c f := ⟨h.blk.below hb h.lt, h.ints.ext hb, h.ne, h.ap⟩
theorem Loc.alloc (h : Loc p w F A n c f) (o : Obj) : Loc p (w.alloc o) F A n c f := h.below (balloc w o)
theorem Loc.drew (h : Loc p w F A n c f) : Loc p w.drew F A n c f := ⟨h.blk, h.ints, h.ne, h.ap⟩
theorem Loc.drewN (h : Loc p w F A n c f) (k : Nat) : Loc p (w.drewN k) F A n c f := ⟨h.blk, h.ints, h.ne, h.ap⟩
theorem Loc.kept (h : Loc p w F A n c f) (k : Kept w.heap.size p w w') : Loc p w' F A n c f := ⟨h.blk.kept h.ne k, h.ints.kept h.ap k, h.ne, h.ap⟩
theorem Loc.cells (h : Loc p w F A n c f) : w.cell? ⟨F, 0, none⟩ = some (.slice A n c) ∧ w.cell? ⟨F, 1, none⟩ = some (.int .i64 f.per) ∧ w.cell? ⟨F, 2, none⟩ = some (.int .i64 f.inc) ∧ F < w.heap.size := by
  have q0 := h.blk.cell 0; have q1 := h.blk.cell 1; have q2 := h.blk.cell 2
  simp at q0 q1 q2
  exact ⟨q0, q1, q2, h.lt⟩
theorem Loc.len (h : Loc p w F A n c f) : f.vals.length = n := h.ints.1
theorem Loc.new {B : Nat} (hI : Ints w w.heap.size A n f.vals) (hA : ∀ b off s, A = some ⟨b, off, s⟩ → B ≤ b) (hB : p < B) (hw : p < w.heap.size) : Loc p (w.alloc (.cells #[.slice A n c, .int .i64 f.per, .int .i64 f.inc] 26)) w.heap.size A n c f :=
  ⟨Blk.new _ _ _, hI.alloc' _, by omega, fun b off s h => by have := hA b off s h; omega⟩
theorem Loc.far3 (h : Loc p w F A n c f) {G : Nat} {x y z : Value} (hF : F ≠ G) (hA : ∀ b off s, A = some ⟨b, off, s⟩ → b ≠ G) :
    Loc p (((w.setCell ⟨G, 0, none⟩ x).setCell ⟨G, 1, none⟩ y).setCell ⟨G, 2, none⟩ z) F A n c f :=
  ⟨((h.blk.far hF x).far hF y).far hF z, by simpa using ((h.ints.setCell (p := ⟨G, 0, none⟩) hA x).setCell (p := ⟨G, 1, none⟩) hA y).setCell (p := ⟨G, 2, none⟩) hA z, h.ne, h.ap⟩
theorem Loc.stored {x y z : Value} {B : Nat} (hZ : Blk w F 26 #[x, y, z]) (hI : Ints w w.heap.size A n f.vals) (hA : ∀ b off s, A = some ⟨b, off, s⟩ → B ≤ b) (hB : F < B) (hF : p < F) :
    Loc p (((w.setCell ⟨F, 0, none⟩ (.slice A n c)).setCell ⟨F, 1, none⟩ (.int .i64 f.per)).setCell ⟨F, 2, none⟩ (.int .i64 f.inc)) F A n c f :=
  ⟨hZ.store3 _ _ _, by
    simpa using ((hI.setCell (p := ⟨F, 0, none⟩) (fun b off s e => by have := hA b off s e; simp; omega) (.slice A n c)).setCell (p := ⟨F, 1, none⟩) (fun b off s e => by have := hA b off s e; simp; omega) (.int .i64 f.per)).setCell (p := ⟨F, 2, none⟩) (fun b off s e => by have := hA b off s e; simp; omega) (.int .i64 f.inc),
    by omega, fun b off s e => by have := hA b off s e; omega⟩
theorem SrcAt.far3 (h : SrcAt w p) {G : Nat} {x y z : Value} (hG : p < G) : SrcAt (((w.setCell ⟨G, 0, none⟩ x).setCell ⟨G, 1, none⟩ y).setCell ⟨G, 2, none⟩ z) p :=
  ((h.far (a := ⟨G, 0, none⟩) hG x).far (a := ⟨G, 1, none⟩) hG y).far (a := ⟨G, 2, none⟩) hG z
theorem Kept.set3 {B : Nat} {w0 : World} (h : Kept B p w0 w) {G : Nat} {x y z : Value} (hG : B ≤ G) : Kept B p w0 (((w.setCell ⟨G, 0, none⟩ x).setCell ⟨G, 1, none⟩ y).setCell ⟨G, 2, none⟩ z) :=
  ((h.setCell (a := ⟨G, 0, none⟩) (.inr hG) x).setCell (a := ⟨G, 1, none⟩) (.inr hG) y).setCell (a := ⟨G, 2, none⟩) (.inr hG) z
theorem kstep {w0 : World} (h : Kept w0.heap.size p w0 w) (k : Kept w.heap.size p w w') : Kept w0.heap.size p w0 w' := kthen h k
theorem kbel {w0 : World} (h : Kept w0.heap.size p w0 w) (k : Below w.heap.size w w') : Kept w0.heap.size p w0 w' := kbelow h k
theorem kall {w0 : World} (h : Kept w0.heap.size p w0 w) (o : Obj) : Kept w0.heap.size p w0 (w.alloc o) := kbelow h (balloc w o)
theorem kdrw {w0 : World} (h : Kept w0.heap.size p w0 w) : Kept w0.heap.size p w0 w.drew := ⟨h.os, h.tape, h.output, h.size, h.block⟩
end
end Go.Proofs.YtaejfleahamapaaGreat
namespace Go.Proofs.YtaejfleahamapaaGreat
open Go.RowKit
set_option linter.unusedVariables false

structure CR where
  A : Option Addr
  n : Nat
  c : Nat
  f : Cv
def CR.cells (x : CR) : List Value := [.slice x.A x.n x.c, .int .i64 x.f.per, .int .i64 x.f.inc]
structure CR.In (x : CR) (p : Nat) (w : World) : Prop where
  ints : Ints w w.heap.size x.A x.n x.f.vals
  ap : 0 < x.n → ∀ b off s, x.A = some ⟨b, off, s⟩ → b ≠ p

theorem Ints.kept0 {w w' : World} {p n : Nat} {A : Option Addr} {zs : List Int} (h : Ints w w.heap.size A n zs) (ha : 0 < n → ∀ b off s, A = some ⟨b, off, s⟩ → b ≠ p) (k : Kept w.heap.size p w w') : Ints w' w'.heap.size A n zs :=
  ⟨h.1, fun hn => by
    obtain ⟨b, off, e, hb, hc⟩ := h.2 hn
    exact ⟨b, off, e, Nat.lt_of_lt_of_le hb k.size, fun j hj => (World.cell?_of_block (a := ⟨b, off + j, none⟩) (k.block b hb (ha hn _ _ _ e))).trans (hc j hj)⟩⟩
section
variable {p : Nat} {w w' : World} {x : CR}
theorem CR.In.below (h : x.In p w) (hb : Below w.heap.size w w') : x.In p w' := ⟨h.ints.ext hb, h.ap⟩
theorem CR.In.kept (h : x.In p w) (hk : Kept w.heap.size p w w') : x.In p w' := ⟨h.ints.kept0 h.ap hk, h.ap⟩
theorem CR.In.alloc (h : x.In p w) (o : Obj) : x.In p (w.alloc o) := h.below (balloc w o)
theorem CR.In.drew (h : x.In p w) : x.In p w.drew := ⟨h.ints, h.ap⟩
theorem CR.In.len (h : x.In p w) : x.f.vals.length = x.n := h.ints.1

structure Lc (p : Nat) (w : World) (F : Nat) (x : CR) : Prop where
  blk : Blk w F 26 #[.slice x.A x.n x.c, .int .i64 x.f.per, .int .i64 x.f.inc]
  inn : x.In p w
  ne : F ≠ p
variable {F : Nat}
theorem Lc.lt (h : Lc p w F x) : F < w.heap.size := h.blk.lt
theorem Lc.below (h : Lc p w F x) (hb : Below w.heap.size w w') : Lc p w' F x := ⟨h.blk.below hb h.lt, h.inn.below hb, h.ne⟩
theorem Lc.kept (h : Lc p w F x) (hk : Kept w.heap.size p w w') : Lc p w' F x := ⟨h.blk.kept h.ne hk, h.inn.kept hk, h.ne⟩
theorem Lc.alloc (h : Lc p w F x) (o : Obj) : Lc p (w.alloc o) F x := h.below (balloc w o)
theorem Lc.drew (h : Lc p w F x) : Lc p w.drew F x := ⟨h.blk, h.inn.drew, h.ne⟩
theorem Lc.cells (h : Lc p w F x) : w.cell? ⟨F, 0, none⟩ = some (.slice x.A x.n x.c) ∧ w.cell? ⟨F, 1, none⟩ = some (.int .i64 x.f.per) ∧ w.cell? ⟨F, 2, none⟩ = some (.int .i64 x.f.inc) ∧ F < w.heap.size := by
  have q0 := h.blk.cell 0; have q1 := h.blk.cell 1; have q2 := h.blk.cell 2
  simp at q0 q1 q2
  exact ⟨q0, q1, q2, h.lt⟩
theorem Lc.new (h : x.In p w) (hp : p < w.heap.size) : Lc p (w.alloc (.cells #[.slice x.A x.n x.c, .int .i64 x.f.per, .int .i64 x.f.inc] 26)) w.heap.size x :=
  ⟨Blk.new _ _ _, h.alloc _, by omega⟩
structure Row (p : Nat) (w : World) (b : Nat) (xs : List CR) : Prop where
  blk : Blk w b 26 (xs.flatMap CR.cells).toArray
  inn : ∀ x ∈ xs, x.In p w
  ne : b ≠ p
variable {b : Nat} {xs : List CR}
theorem Row.lt (h : Row p w b xs) : b < w.heap.size := h.blk.lt
theorem Row.below (h : Row p w b xs) (hb : Below w.heap.size w w') : Row p w' b xs := ⟨h.blk.below hb h.lt, fun x hx => (h.inn x hx).below hb, h.ne⟩
theorem Row.kept (h : Row p w b xs) (hk : Kept w.heap.size p w w') : Row p w' b xs := ⟨h.blk.kept h.ne hk, fun x hx => (h.inn x hx).kept hk, h.ne⟩
theorem Row.alloc (h : Row p w b xs) (o : Obj) : Row p (w.alloc o) b xs := h.below (balloc w o)
theorem Row.drew (h : Row p w b xs) : Row p w.drew b xs := ⟨h.blk, fun x hx => (h.inn x hx).drew, h.ne⟩
theorem flat_get (xs : List CR) (k j : Nat) (x : CR) (hx : xs[k]? = some x) (hj : j < 3) : (xs.flatMap CR.cells)[k * 3 + j]? = x.cells[j]? := by
  induction xs generalizing k with
  | nil => simp at hx
  | cons y ys ih =>
    rw [List.flatMap_cons]
    have hl : y.cells.length = 3 := rfl
    rcases k with _ | k
    · simp at hx
      subst hx
      rw [Nat.zero_mul, Nat.zero_add, List.getElem?_append_left (by omega)]
    · rw [List.getElem?_append_right (by omega), hl, show (k + 1) * 3 + j - 3 = k * 3 + j by omega]
      exact ih k (by simpa using hx)
theorem Row.get (h : Row p w b xs) {k : Nat} (hk : k < xs.length) : ∃ x, x ∈ xs ∧ x.In p w ∧ w.cell? ⟨b, k * 3, none⟩ = some (.slice x.A x.n x.c) ∧ w.cell? ⟨b, k * 3 + 1, none⟩ = some (.int .i64 x.f.per) ∧ w.cell? ⟨b, k * 3 + 2, none⟩ = some (.int .i64 x.f.inc) := by
  have hx : xs[k]? = some xs[k] := List.getElem?_eq_getElem hk
  refine ⟨xs[k], List.getElem_mem hk, h.inn _ (List.getElem_mem hk), ?_, ?_, ?_⟩
  · have := h.blk.cell (k * 3 + 0)
    rw [List.getElem?_toArray, flat_get xs k 0 _ hx (by omega)] at this
    exact this
  · have := h.blk.cell (k * 3 + 1)
    rw [List.getElem?_toArray, flat_get xs k 1 _ hx (by omega)] at this
    exact this
  · have := h.blk.cell (k * 3 + 2)
    rw [List.getElem?_toArray, flat_get xs k 2 _ hx (by omega)] at this
    exact this
end

end Go.Proofs.YtaejfleahamapaaGreat
namespace Go.Proofs.YtaejfleahamapaaGreat
open Go.RowKit
set_option linter.unusedVariables false

theorem CR.In.new {p B : Nat} {w : World} {x : CR} (h : Ints w w.heap.size x.A x.n x.f.vals) (hB : ∀ b off s, x.A = some ⟨b, off, s⟩ → B ≤ b) (hp : p < B) : x.In p w := ⟨h, fun _ b off s e => by have := hB b off s e; omega⟩
structure EnvL (p : Nat) (w0 w : World) (vs : List (Nat × CR)) : Prop where
  s : SrcAt w p
  k : Kept w0.heap.size p w0 w
  v : ∀ x ∈ vs, Lc p w x.1 x.2
section
variable {p : Nat} {w0 w w' : World} {vs : List (Nat × CR)}
theorem EnvL.start {w1 : World} (hS : SrcAt w1 p) (hb : Below w.heap.size w w1) : EnvL p w w1 [] := ⟨hS, Kept.of hb, fun x hx => by cases hx⟩
theorem EnvL.below (h : EnvL p w0 w vs) (hb : Below w.heap.size w w') : EnvL p w0 w' vs := ⟨h.s.ext hb, kbel h.k hb, fun x hx => (h.v x hx).below hb⟩
theorem EnvL.alloc (h : EnvL p w0 w vs) (o : Obj) : EnvL p w0 (w.alloc o) vs := h.below (balloc w o)
theorem EnvL.drew (h : EnvL p w0 w vs) : EnvL p w0 w.drew vs := ⟨h.s, kdrw h.k, fun x hx => (h.v x hx).drew⟩
theorem EnvL.kept (h : EnvL p w0 w vs) (hS : SrcAt w' p) (hk : Kept w.heap.size p w w') : EnvL p w0 w' vs := ⟨hS, kstep h.k hk, fun x hx => (h.v x hx).kept hk⟩
theorem EnvL.push (h : EnvL p w0 w vs) {X : CR} (hX : X.In p w) : EnvL p w0 (w.alloc (.cells #[.slice X.A X.n X.c, .int .i64 X.f.per, .int .i64 X.f.inc] 26)) (vs ++ [(w.heap.size, X)]) :=
  ⟨h.s.alloc _, kall h.k _, fun x hx => by
    rcases List.mem_append.1 hx with hx | hx
    · exact (h.v x hx).alloc _
    · simp only [List.mem_singleton] at hx
      subst hx
      exact Lc.new hX h.s.lt⟩
theorem EnvL.get (h : EnvL p w0 w vs) (i : Nat) {F : Nat} {X : CR} (hx : vs[i]? = some (F, X)) : Lc p w F X := h.v (F, X) (List.mem_of_getElem? hx)
theorem EnvL.fin (h : EnvL w0.heap.size w0 w vs) : Below w0.heap.size w0 w := h.k.below (Nat.le_refl _)
end
theorem cval_any (A : Option Addr) (n c : Nat) (p i t : Int) (zs : List Int) (w : World) (hA : Ints w w.heap.size A n zs) (ok : Cv.Ok ⟨zs, p, i⟩) (h0 : 0 ≤ t) (h1 : t ≤ 1048576) :
    Calls Tryz.prog 13 #[.agg #[.slice A n c, .int .i64 p, .int .i64 i], .int .i64 t] w fun e w' => e = .returned (.tuple #[.int .i64 (Cv.at ⟨zs, p, i⟩ t.toNat), .int .i64 0]) ∧ Below w.heap.size w w' := by
  have hn : (n : Int) ≤ 1000000 := by
    have h1 := ok.n2
    have h2 : (Cv.mk zs p i).vals.length = n := hA.1
    omega
  refine (value_any A n c p i t zs w hA hn).mono ?_
  rintro e w' ⟨rfl, hb⟩
  refine ⟨?_, hb⟩
  have e1 : Cv.value ⟨zs, p, i⟩ t = (Cv.at ⟨zs, p, i⟩ t.toNat, 0) := by unfold Cv.value; rw [if_pos (Cv.okB_true ok), if_neg (by omega)]
  rw [e1]
end Go.Proofs.YtaejfleahamapaaGreat

namespace Go.Proofs.YtaejfleahamapaaGreat
open Go.RowKit
set_option linter.unusedVariables false
set_option linter.unusedSimpArgs false
theorem fin_pre {a : Cv} (h : a.Fin) (t : Nat) (ht : t ≤ 4000) : 0 ≤ a.at t ∧ a.at t ≤ 4300000000000 ∧ a.at t ≠ 4611686018427387904 := by
  have h1 := h.at_bd t
  have h2 : (t : Int) * 1073741824 ≤ 4000 * 1073741824 := Int.mul_le_mul_of_nonneg_right (by omega) (by omega)
  omega
set_option maxRecDepth 100000 in
set_option maxHeartbeats 1000000 in
theorem graw_any (A B : Option Addr) (n m c d : Nat) (a b : Cv) (fr co dr : Int) (t : Nat) (w : World) (hA : Ints w w.heap.size A n a.vals) (hB : Ints w w.heap.size B m b.vals) (fa : a.Fin) (fb : b.Fin) (ht : t ≤ 2000) :
    Calls Tryz.prog 187 #[.agg (gpA A n c a B m d b fr co dr), .int .i64 t] w fun e w' => e = .returned (.int .i64 (dif a b t)) ∧ Below w.heap.size w w' := by
  unfold gpA
  have GB := Lib.hid (Blk.new w 234 #[.slice A n c, .int .i64 a.per, .int .i64 a.inc, .slice B m d, .int .i64 b.per, .int .i64 b.inc, .int .i64 fr, .int .i64 co, .int .i64 dr])
  have BW := Lib.hid (balloc w (.cells #[.slice A n c, .int .i64 a.per, .int .i64 a.inc, .slice B m d, .int .i64 b.per, .int .i64 b.inc, .int .i64 fr, .int .i64 co, .int .i64 dr] 234))
  have IA := Lib.hid (hA.ext BW.out); have IB := Lib.hid (hB.ext BW.out)
  have la := hA.1; have lb := hB.1
  have ha1 := fa.1.n1; have ha2 := fa.1.n2; have hap := fa.1.p1; have hap2 := fa.1.p2; have hai := fa.1.i1; have hai2 := fa.1.i2; have hapn := fa.1.pn
  have hb1 := fb.1.n1; have hb2 := fb.1.n2; have hbp := fb.1.p1; have hbp2 := fb.1.p2; have hbi := fb.1.i1; have hbi2 := fb.1.i2; have hbpn := fb.1.pn
  rw [la] at ha1 ha2 hapn
  rw [lb] at hb1 hb2 hbpn
  obtain ⟨va, hva⟩ : ∃ v, v = a.at t := ⟨_, rfl⟩
  obtain ⟨vb, hvb⟩ : ∃ v, v = b.at t := ⟨_, rfl⟩
  obtain ⟨p1, p2, p3⟩ := fin_pre fa t (by omega)
  obtain ⟨q1, q2, q3⟩ := fin_pre fb t (by omega)
  rw [← hva] at p1 p2 p3
  rw [← hvb] at q1 q2 q3
  have HVA := Lib.hid hva; have HVB := Lib.hid hvb
  have FA := Lib.hid fa; have FB := Lib.hid fb
  have e1 : IntKind.i64.wrap (va - vb) = va - vb := IntWalk.i64_in _ (by omega)
  have d1 : (va == 4611686018427387904) = false := by simpa using p3
  have d2 : (vb == 4611686018427387904) = false := by simpa using q3
  rw [show dif a b t = va - vb from by unfold dif; rw [hva, hvb]]
  clear hva hvb hA hB la lb fa fb
  go_enter Tryz.func187, Tryz.ntmps187
  go_upto_region 1 with fail
  generalize hwe : w.alloc (.cells #[.slice A n c, .int .i64 a.per, .int .i64 a.inc, .slice B m d, .int .i64 b.per, .int .i64 b.inc, .int .i64 fr, .int .i64 co, .int .i64 dr] 234) = w1 at *
  clear hwe
  go_cut [5, 6] (fun s5 s6 wx => s5 = .int .i64 va ∧ s6 = .int .i64 vb ∧ Below w.heap.size w wx)
  case first =>
    replace GB := Lib.hid (Blk.drew GB.out); replace BW := Lib.hid (Below.drew BW.out)
    have IA := Lib.hid (show Ints w1.drew w1.drew.heap.size A n a.vals from IA.out); have IB := Lib.hid (show Ints w1.drew w1.drew.heap.size B m b.vals from IB.out)
    obtain ⟨x0, x1, x2, x3, x4, x5⟩ : _ ∧ _ ∧ _ ∧ _ ∧ _ ∧ _ := ⟨GB.out.cell 0, GB.out.cell 1, GB.out.cell 2, GB.out.cell 3, GB.out.cell 4, GB.out.cell 5⟩
    simp at x0 x1 x2 x3 x4 x5
    have hlx := GB.out.lt
    refine wp_region_held_drew (S := (fun w' => w'.cell? ⟨w.heap.size, 0, none⟩ = some (.slice A n c) ∧ w'.cell? ⟨w.heap.size, 1, none⟩ = some (.int .i64 a.per) ∧ w'.cell? ⟨w.heap.size, 2, none⟩ = some (.int .i64 a.inc) ∧ w'.cell? ⟨w.heap.size, 3, none⟩ = some (.slice B m d) ∧ w'.cell? ⟨w.heap.size, 4, none⟩ = some (.int .i64 b.per) ∧ w'.cell? ⟨w.heap.size, 5, none⟩ = some (.int .i64 b.inc))) (by kernel_rfl) (by exact ⟨x0, x1, x2, x3, x4, x5⟩) (fun hHeld => ?_)
    clear x0 x1 x2 x3 x4 x5 hlx
    generalize hwd : w1.drew = wd at *
    clear hwd
    obtain ⟨x0, x1, x2, x3, x4, x5⟩ : _ ∧ _ ∧ _ ∧ _ ∧ _ ∧ _ := ⟨GB.out.cell 0, GB.out.cell 1, GB.out.cell 2, GB.out.cell 3, GB.out.cell 4, GB.out.cell 5⟩
    simp at x0 x1 x2 x3 x4 x5
    have hlx := GB.out.lt
    refine tkS (i := 0) (v := ?_) ?_ ?_
    rotate_left 1
    · (intro w hSw; (try dsimp only at hSw); go_simp; try with_reducible rfl)
    all_goals ((try simp only [Act.put]); try simp only [g8b, g8c, g8d])
    refine tkS (i := 1) (v := ?_) ?_ ?_
    rotate_left 1
    · (intro w hSw; (try dsimp only at hSw); go_simp; try with_reducible rfl)
    all_goals ((try simp only [Act.put]); try simp only [g8b, g8c, g8d])
    refine tkS (i := 2) (v := ?_) ?_ ?_
    rotate_left 1
    · (intro w hSw; (try dsimp only at hSw); go_simp; try with_reducible rfl)
    all_goals ((try simp only [Act.put]); try simp only [g8b, g8c, g8d])
    refine tkS (i := 4) (v := ?_) ?_ ?_
    rotate_left 1
    · (intro w hSw; (try dsimp only at hSw); go_simp; try with_reducible rfl)
    all_goals ((try simp only [Act.put]); try simp only [g8b, g8c, g8d])
    refine tkS (i := 5) (v := ?_) ?_ ?_
    rotate_left 1
    · (intro w hSw; (try dsimp only at hSw); go_simp; try with_reducible rfl)
    all_goals ((try simp only [Act.put]); try simp only [g8b, g8c, g8d])
    refine tkS (i := 6) (v := ?_) ?_ ?_
    rotate_left 1
    · (intro w hSw; (try dsimp only at hSw); go_simp; try with_reducible rfl)
    all_goals ((try simp only [Act.put]); try simp only [g8b, g8c, g8d])
    refine wpAnyH_ready (rs := [3]) (by kernel_rfl) (by simp) ?_
    refine (AllReadyH.cons (by simp only [g8a, g8s, g8z]; rfl) (fun K hK => ?_) AllReadyH.nil)
    rw [if_pos (by rfl)]
    go_simp
    refine (at_any A n c a.per a.inc t a.vals _ (by exact IA.out) (by omega) hap hapn hai (by omega) FA.out.1.nn (by omega) (by omega)).mono ?_
    rintro e wa ⟨rfl, hb⟩
    rw [Int.toNat_natCast, ← HVA.out]
    replace GB := Lib.hid (GB.out.below hb GB.out.lt); replace BW := Lib.hid (bthen BW.out hb); replace IB := Lib.hid (IB.out.ext hb)
    clear hb hHeld
    clear x0 x1 x2 x3 x4 x5 hlx
    obtain ⟨x0, x1, x2, x3, x4, x5⟩ : _ ∧ _ ∧ _ ∧ _ ∧ _ ∧ _ := ⟨GB.out.cell 0, GB.out.cell 1, GB.out.cell 2, GB.out.cell 3, GB.out.cell 4, GB.out.cell 5⟩
    simp at x0 x1 x2 x3 x4 x5
    have hlx := GB.out.lt
    refine hK.out _ _ (by exact ⟨x0, x1, x2, x3, x4, x5⟩) (fun hHeld => ?_)
    clear hK K
    (try simp only [Act.put]); try simp only [g8b, g8c, g8d]
    refine wpAnyH_ready (rs := [7]) (by kernel_rfl) (by simp) ?_
    refine (AllReadyH.cons (by simp only [g8a, g8s, g8z]; rfl) (fun K hK => ?_) AllReadyH.nil)
    rw [if_pos (by rfl)]
    go_simp
    refine (at_any B m d b.per b.inc t b.vals _ (by exact IB.out) (by omega) hbp hbpn hbi (by omega) FB.out.1.nn (by omega) (by omega)).mono ?_
    rintro e wb ⟨rfl, hb⟩
    rw [Int.toNat_natCast, ← HVB.out]
    replace GB := Lib.hid (GB.out.below hb GB.out.lt); replace BW := Lib.hid (bthen BW.out hb)
    clear hb hHeld
    clear x0 x1 x2 x3 x4 x5 hlx
    obtain ⟨x0, x1, x2, x3, x4, x5⟩ : _ ∧ _ ∧ _ ∧ _ ∧ _ ∧ _ := ⟨GB.out.cell 0, GB.out.cell 1, GB.out.cell 2, GB.out.cell 3, GB.out.cell 4, GB.out.cell 5⟩
    simp at x0 x1 x2 x3 x4 x5
    have hlx := GB.out.lt
    refine hK.out _ _ (by exact ⟨x0, x1, x2, x3, x4, x5⟩) (fun hHeld => ?_)
    clear hK K
    (try simp only [Act.put]); try simp only [g8b, g8c, g8d]
    refine tkS (i := 8) (v := ?_) ?_ ?_
    rotate_left 1
    · (intro w hSw; (try dsimp only at hSw); go_simp; try with_reducible rfl)
    all_goals ((try simp only [Act.put]); try simp only [g8b, g8c, g8d])
    refine tkS (i := 9) (v := ?_) ?_ ?_
    rotate_left 1
    · (intro w hSw; (try dsimp only at hSw); go_simp; try with_reducible rfl)
    all_goals ((try simp only [Act.put]); try simp only [g8b, g8c, g8d])
    refine wpAnyH_done (by kernel_rfl) ?_ _
    go_wp2_with fail
    go_meet
    exact ⟨rfl, rfl, BW.out⟩
  case rest =>
    obtain ⟨rfl, rfl, bw⟩ := hcut
    clear GB BW IA IB HVA HVB FA FB
    go_wp2_with fail
    go_ret
    exact ⟨rfl, bw⟩
theorem small_ne9 {x : Int} (h : x ≤ 4300000000000) : x ≠ inf := by
  intro e
  rw [e] at h
  exact absurd h (by decide)
theorem nf_fin' {f a : Cv} (hf : f.Fin) (h : NF f.at a) (ho : a.Ok) : a.Fin := by
  refine ⟨ho, fun e => ?_⟩
  have h1 := ho.at_inf e (t := a.vals.length) (by omega)
  have h2 := ho.n2
  rw [h.at, ← show f.at a.vals.length = f.at a.vals.length from rfl] at h1
  have := (fin_pre hf a.vals.length (by omega)).2.2
  exact this h1
def RestS (f g : Cv) (r : Cv) (er : Int) : Prop := ∃ a b, NF f.at a ∧ NF g.at b ∧ a.Fin ∧ b.Fin ∧
  ((120 < ordC a b ∧ r = Cv.none ∧ er = 3) ∨ (ordC a b ≤ 120 ∧ ((RstBad a b ∧ r = Cv.none ∧ er = 3) ∨ (¬ RstBad a b ∧ MadeS (restV a b) r er))))
theorem rest1_any (V G N c0 : Nat) (zs : List Int) (h : Nat → Int) (t : Nat) (w : World) (hV : Blk w V 22 #[.slice (some ⟨G, 0, none⟩) N c0]) (hG : RowI w G zs) (hz : zs.length = N) (hv : nth zs t = h t) (ht : t < N) :
    Calls Tryz.prog 188 (#[.int .i64 t] ++ #[.pointer (some ⟨V, 0, none⟩)]) w fun e w' => e = .returned (.int .i64 (h t)) ∧ Below w.heap.size w w' := by
  show Calls _ _ #[.int .i64 t, .pointer (some ⟨V, 0, none⟩)] _ _
  have v0 := hV.cell 0
  simp at v0
  have hvl := hV.lt
  have q := hG.cell t (by omega)
  have hgl := hG.lt
  rw [hv] at q
  have hti : (t : Int) < N := by omega
  clear hV hG
  go_enter Tryz.func188, Tryz.ntmps188
  go_wp2_with fail
  go_ret
  exact ⟨rfl, Below.refl _ _⟩
structure RsE (w wx : World) (GB : Nat) (A : Option Addr) (n c : Nat) (a : Cv) (B : Option Addr) (m d : Nat) (b : Cv) : Prop where
  gb : Blk wx GB 234 #[.slice A n c, .int .i64 a.per, .int .i64 a.inc, .slice B m d, .int .i64 b.per, .int .i64 b.inc, .int .i64 (ordF a b : Nat), .int .i64 (ordC a b : Nat), .int .i64 (ordD a b)]
  ia : Ints wx wx.heap.size A n a.vals
  ib : Ints wx wx.heap.size B m b.vals
  rb : Blk wx (w.heap.size + 1 + 1) 26 #[.slice none 0 0, .int .i64 0, .int .i64 0]
  bw : Below w.heap.size w wx
  ap : (∀ g o s, A = some ⟨g, o, s⟩ → g < GB) ∧ (∀ g o s, B = some ⟨g, o, s⟩ → g < GB)
section
variable {w wx wy : World} {GB n c m d : Nat} {A B : Option Addr} {a b : Cv}
theorem RsE.below (h : RsE w wx GB A n c a B m d b) (hb : Below wx.heap.size wx wy) : RsE w wy GB A n c a B m d b := ⟨h.gb.below hb h.gb.lt, h.ia.ext hb, h.ib.ext hb, h.rb.below hb h.rb.lt, bthen h.bw hb, h.ap⟩
theorem RsE.drew (h : RsE w wx GB A n c a B m d b) : RsE w wx.drew GB A n c a B m d b := ⟨h.gb, h.ia, h.ib, h.rb, Below.drew h.bw, h.ap⟩
theorem RsE.far (h : RsE w wx GB A n c a B m d b) {g i : Nat} {v : Value} (h1 : GB < g) (h2 : w.heap.size + 1 + 1 < g) : RsE w (wx.setCell ⟨g, i, none⟩ v) GB A n c a B m d b :=
  have s := (Sto.refl g wx).set i v
  ⟨h.gb.sto s (by omega), h.ia.sto s (fun b o t e => by have := h.ap.1 b o t e; omega), h.ib.sto s (fun b o t e => by have := h.ap.2 b o t e; omega), h.rb.sto s (by omega), h.bw.setCell (by show w.heap.size ≤ g; omega) _, h.ap⟩
theorem RsE.cells (h : RsE w wx GB A n c a B m d b) : (wx.cell? ⟨GB, 0, none⟩ = some (.slice A n c) ∧ wx.cell? ⟨GB, 1, none⟩ = some (.int .i64 a.per) ∧ wx.cell? ⟨GB, 2, none⟩ = some (.int .i64 a.inc) ∧ wx.cell? ⟨GB, 3, none⟩ = some (.slice B m d) ∧ wx.cell? ⟨GB, 4, none⟩ = some (.int .i64 b.per) ∧ wx.cell? ⟨GB, 5, none⟩ = some (.int .i64 b.inc)) ∧
    wx.cell? ⟨GB, 6, none⟩ = some (.int .i64 (ordF a b : Nat)) ∧ wx.cell? ⟨GB, 7, none⟩ = some (.int .i64 (ordC a b : Nat)) ∧ wx.cell? ⟨GB, 8, none⟩ = some (.int .i64 (ordD a b)) ∧ GB < wx.heap.size :=
  ⟨⟨h.gb.cell 0, h.gb.cell 1, h.gb.cell 2, h.gb.cell 3, h.gb.cell 4, h.gb.cell 5⟩, h.gb.cell 6, h.gb.cell 7, h.gb.cell 8, h.gb.lt⟩
end
set_option maxHeartbeats 4000000 in
set_option maxRecDepth 100000 in
theorem rest_any (A0 B0 : Option Addr) (n0 m0 c0 d0 : Nat) (p i q j : Int) (xs ys : List Int) (w : World) (hA : Ints w w.heap.size A0 n0 xs) (hB : Ints w w.heap.size B0 m0 ys) (hn : (n0 : Int) ≤ 1000000) (hm : (m0 : Int) ≤ 1000000) (hf : Cv.Fin ⟨xs, p, i⟩) (hg : Cv.Fin ⟨ys, q, j⟩) :
    Calls Tryz.prog 181 #[.agg #[.slice A0 n0 c0, .int .i64 p, .int .i64 i], .agg #[.slice B0 m0 d0, .int .i64 q, .int .i64 j]] w (RetS (RestS ⟨xs, p, i⟩ ⟨ys, q, j⟩) w) := by
  have P := Lib.hid ((PS.new (c := c0) (p := p) (i := i) (d := d0) (q := q) (j := j) hA hB).alloc (.cells #[.slice none 0 0, .int .i64 0, .int .i64 0] 26))
  have rb := Blk.new ((w.alloc (.cells #[.slice A0 n0 c0, .int .i64 p, .int .i64 i] 26)).alloc (.cells #[.slice B0 m0 d0, .int .i64 q, .int .i64 j] 26)) 26 #[.slice none 0 0, .int .i64 0, .int .i64 0]
  rw [World.size_alloc, World.size_alloc] at rb
  have RB := Lib.hid rb
  have HF := Lib.hid hf; have HG := Lib.hid hg
  clear hA hB rb hf hg
  go_enter Tryz.func181, Tryz.ntmps181
  obtain ⟨f0, f1, f2, g0, g1, g2, hlf, hlg⟩ := P.out.cells
  go_wp2_with fail
  refine (rmboth_any A0 B0 n0 m0 c0 d0 p i q j xs ys _ P.out.ia P.out.ib hn hm).mono ?_
  clear f0 f1 f2 g0 g1 g2 hlf hlg
  rintro e w1 (⟨er, hbad, rfl, hb⟩ | ⟨_, _, a, b, A, n, c, B, m, d, na, nb, oa, ob, hC, rfl, hIA, hIB, hAl, hBl, hb⟩)
  · -- no gap: the common period is too long
    rcases hbad with ⟨h, _⟩ | ⟨_, _, rfl, a, b, na, nb, oa, ob, hC⟩
    · exact absurd ⟨HF.out.1, HG.out.1⟩ h
    have F := Lib.hid (show RestS ⟨xs, p, i⟩ ⟨ys, q, j⟩ Cv.none 3 from ⟨a, b, na, nb, nf_fin' HF.out na oa, nf_fin' HG.out nb ob, .inl ⟨hC, rfl, rfl⟩⟩)
    replace RB := Lib.hid ((RB.out.below hb RB.out.lt).alloc (.cells zero9 234)); have BW := Lib.hid (bthen (bthen P.out.bw hb) (balloc _ (.cells zero9 234)))
    clear hb hC na nb oa ob
    unfold zero9 at RB BW ⊢
    obtain ⟨⟨r0, r1, r2⟩, ⟨y0, y1, y2⟩, hlr⟩ := RB.out.c3
    go_wp2_with fail
    have rb := RB.out.store3 (.slice none 0 0) (.int .i64 0) (.int .i64 0)
    exact bodyPost_ret (v := .tuple #[.agg #[.slice none 0 0, .int .i64 0, .int .i64 0], .int .i64 3]) (by simp [results, Tryz.results181, go_sem, rb.cell]) rfl (retS_none F.out (bst3 BW.out (by omega) _ _ _))
  have fa := nf_fin' HF.out na oa
  have fb := nf_fin' HG.out nb ob
  have hO := ord_b oa ob
  have hCC : ordC a b ≤ 120 := hC
  have hF0 := hO.f0; have hC1 := hO.c1; have hD1 := hO.d1; have hD2 := hO.d2
  have la := hIA.1; have lb := hIB.1
  have ha1 := oa.n1; have ha2 := oa.n2; have hb1 := ob.n1; have hb2 := ob.n2
  rw [la] at ha1 ha2
  rw [lb] at hb1 hb2
  have hs1 := hb.size
  simp only [World.size_alloc] at hs1 hAl hBl
  have E := Lib.hid (show RsE w (w1.alloc (.cells (gpA A n c a B m d b (ordF a b : Nat) (ordC a b : Nat) (ordD a b)) 234)) w1.heap.size A n c a B m d b from
    ⟨Blk.new _ _ _, hIA.alloc' _, hIB.alloc' _, (RB.out.below hb RB.out.lt).alloc _, bthen (bthen P.out.bw hb) (balloc _ _),
      (fun g o s e => by
        obtain ⟨g', o', e', hl, _⟩ := hIA.2 (by omega)
        rw [e] at e'; cases e'; exact hl), (fun g o s e => by
        obtain ⟨g', o', e', hl, _⟩ := hIB.2 (by omega)
        rw [e] at e'; cases e'; exact hl)⟩)
  have NA := Lib.hid na; have NB := Lib.hid nb; have FA := Lib.hid fa; have FB := Lib.hid fb
  have hGB : w.heap.size + 1 + 1 < w1.heap.size := by omega
  clear hIA hIB hAl hBl hb P RB na nb fa fb la lb hs1
  unfold gpA at E ⊢
  go_upto_region 4 with fail
  generalize hwe : w1.alloc (.cells #[.slice A n c, .int .i64 a.per, .int .i64 a.inc, .slice B m d, .int .i64 b.per, .int .i64 b.inc, .int .i64 (ordF a b : Nat), .int .i64 (ordC a b : Nat), .int .i64 (ordD a b)] 234) = w2 at *
  clear hwe
  generalize w1.heap.size = GB at *
  obtain ⟨F, hF⟩ : ∃ F, F = ordF a b := ⟨_, rfl⟩
  obtain ⟨C, hCe⟩ : ∃ C, C = ordC a b := ⟨_, rfl⟩
  obtain ⟨D, hDe⟩ : ∃ D, D = ordD a b := ⟨_, rfl⟩
  obtain ⟨f1, hf1⟩ : ∃ f1 : Nat, f1 = F + C := ⟨_, rfl⟩
  rw [← hF] at hF0
  rw [← hCe] at hCC hC1
  rw [← hDe] at hD1 hD2
  have e1 : IntKind.i64.wrap ((F : Int) + (C : Int)) = (f1 : Int) := by rw [IntWalk.i64_in _ (by omega)]; omega
  have hf1b : f1 ≤ 520 := by omega
  have HFe := Lib.hid hF; have HCe := Lib.hid hCe; have HDe := Lib.hid hDe; have Hf1 := Lib.hid hf1
  have z1 : (nth a.vals (n - 1) != inf) = true := by have := FA.out.2; rw [show a.vals.length = n from E.out.ia.1] at this; simpa using this
  have z2 : (nth b.vals (m - 1) != inf) = true := by have := FB.out.2; rw [show b.vals.length = m from E.out.ib.1] at this; simpa using this
  have Z1 := Lib.hid z1; have Z2 := Lib.hid z2
  clear z1 z2 hC hf1
  obtain ⟨⟨x0, x1, x2, x3, x4, x5⟩, x6, x7, x8, hlx⟩ := E.out.cells
  rw [← hF] at x6
  rw [← hCe] at x7
  rw [← hDe] at x8
  have X6 := Lib.hid (fun (wq : World) (h : RsE w wq GB A n c a B m d b) => (by obtain ⟨_, h6, h7, h8, _⟩ := h.cells; rw [hF, hCe, hDe]; exact ⟨h6, h7, h8⟩ : wq.cell? ⟨GB, 6, none⟩ = some (.int .i64 F) ∧ wq.cell? ⟨GB, 7, none⟩ = some (.int .i64 C) ∧ wq.cell? ⟨GB, 8, none⟩ = some (.int .i64 D)))
  clear hF hCe hDe
  go_wp2_with fail
  refine (finite_any A n c a.per a.inc a.vals _ (by exact E.out.ia) (by omega) (by omega)).mono ?_
  rw [Z1.out]
  rintro e w3 ⟨rfl, hb⟩
  replace E := Lib.hid (E.out.below hb)
  clear hb e1
  clear x0 x1 x2 x3 x4 x5 x6 x7 x8 hlx
  obtain ⟨⟨x0, x1, x2, x3, x4, x5⟩, -, -, -, hlx⟩ := E.out.cells
  obtain ⟨x6, x7, x8⟩ := X6.out _ E.out
  go_wp2_with fail
  refine (finite_any B m d b.per b.inc b.vals _ (by exact E.out.ib) (by omega) (by omega)).mono ?_
  rw [Z2.out]
  rintro e w4 ⟨rfl, hb⟩
  replace E := Lib.hid (E.out.below hb)
  clear hb
  clear x0 x1 x2 x3 x4 x5 x6 x7 x8 hlx
  obtain ⟨⟨x0, x1, x2, x3, x4, x5⟩, -, -, -, hlx⟩ := E.out.cells
  obtain ⟨x6, x7, x8⟩ := X6.out _ E.out
  obtain ⟨z, hz⟩ : ∃ z, z = decide (0 < D) := ⟨_, rfl⟩
  have ez : decide (D > 0) = z := hz.symm
  have ez' : decide (0 < D) = z := hz.symm
  have HZ := Lib.hid hz
  clear hz
  go_upto_if 43 with (fail)
  go_cut [8, 9, 10] (fun s8 s9 s10 wx => s8 = .int .i64 (rstFrom a b : Nat) ∧ s9 = .int .i64 (rstPer a b : Nat) ∧ s10 = .int .i64 (rstInc a b) ∧ RsE w wx GB A n c a B m d b)
  case first =>
    cases z
    case false =>
      have hd : ¬ 0 < ordD a b := by rw [← HDe.out]; exact of_decide_eq_false HZ.out.symm
      have r1 : rstFrom a b = f1 := by unfold rstFrom; rw [if_neg hd, ← HFe.out, ← HCe.out, Hf1.out]
      have r2 : rstPer a b = 1 := by unfold rstPer; rw [if_neg hd]
      have r3 : rstInc a b = 0 := by unfold rstInc; rw [if_neg hd]
      have R1 := Lib.hid r1; have R2 := Lib.hid r2; have R3 := Lib.hid r3
      clear hd r1 r2 r3 ez ez'
      go_wp2_with fail
      go_meet
      exact ⟨by rw [R1.out], by rw [R2.out]; rfl, by rw [R3.out], E.out⟩
    case true =>
      have hd : 0 < ordD a b := by rw [← HDe.out]; exact of_decide_eq_true HZ.out.symm
      have r1 : rstFrom a b = max 400 f1 := by unfold rstFrom; rw [if_pos hd, ← HFe.out, ← HCe.out, Hf1.out]
      have r2 : rstPer a b = C := by unfold rstPer; rw [if_pos hd, HCe.out]
      have r3 : rstInc a b = D := by unfold rstInc; rw [if_pos hd, HDe.out]
      obtain ⟨f2, hf2⟩ : ∃ f2 : Nat, f2 = max 400 f1 := ⟨_, rfl⟩
      rw [← hf2] at r1
      have hmx : (if (400 : Int) < (f1 : Int) then (f1 : Int) else 400) = (f2 : Int) := by rw [hf2]; split <;> omega
      have R1 := Lib.hid r1; have R2 := Lib.hid r2; have R3 := Lib.hid r3
      clear hd r1 r2 r3 hf2 ez ez'
      go_wp2_with fail
      go_region
      all_goals
        go_wp2_with fail
        go_meet
        exact ⟨by rw [R1.out], by rw [R2.out], by rw [R3.out], E.out.drew⟩
  case rest =>
    clear E X6 HZ
    clear x0 x1 x2 x3 x4 x5 x6 x7 x8 hlx
    obtain ⟨rfl, rfl, rfl, hE⟩ := hcut
    have E := Lib.hid hE
    clear hE
    obtain ⟨fr, hfr⟩ : ∃ fr, fr = rstFrom a b := ⟨_, rfl⟩
    obtain ⟨pr, hpr⟩ : ∃ pr, pr = rstPer a b := ⟨_, rfl⟩
    obtain ⟨ic, hic⟩ : ∃ ic, ic = rstInc a b := ⟨_, rfl⟩
    rw [← hfr, ← hpr, ← hic]
    have hfr1 : F + C ≤ fr := by rw [hfr]; unfold rstFrom; split <;> rw [← HFe.out, ← HCe.out] <;> omega
    have hfr2 : fr ≤ 520 := by rw [hfr]; unfold rstFrom; split <;> rw [← HFe.out, ← HCe.out] <;> omega
    have hpr1 : 1 ≤ pr := by rw [hpr]; unfold rstPer; split <;> (try rw [← HCe.out]) <;> omega
    have hpr2 : pr ≤ 120 := by rw [hpr]; unfold rstPer; split <;> (try rw [← HCe.out]) <;> omega
    have hic1 : 0 ≤ ic := by rw [hic]; unfold rstInc; split <;> omega
    have hic2 : ic ≤ 128849018880 := by rw [hic]; unfold rstInc; split <;> (try rw [← HDe.out]) <;> omega
    have HFR := Lib.hid hfr; have HPR := Lib.hid hpr; have HIC := Lib.hid hic
    clear hfr hpr hic
    obtain ⟨N, hN⟩ : ∃ N : Nat, N = fr + pr := ⟨_, rfl⟩
    have e1 : IntKind.i64.wrap ((fr : Int) + (pr : Int)) = (N : Int) := by rw [IntWalk.i64_in _ (by omega)]; omega
    have hNb : N ≤ 640 := by omega
    have hN1 : fr < N := by omega
    have HN := Lib.hid hN
    clear hN
    obtain ⟨i0, hi0, hz0, hy1, hy2⟩ := info_parts info_int
    go_upto_region 8 with (at_make; refine wpList_make_full _ rfl _ _ 22 rfl wc.heap.size 3 i0 _ 1 Tryz.underlying22 hi0 hz0 hy1 .i64 .i64 _ _ N rfl rfl rfl rfl (by rw [hy2]; omega) (by unfold maxLen; omega) (by simp) ?_; intro w5 own1 grow1)
    have hb3 : Below wc.heap.size wc w5 := (Below.refl _ _).grown grow1 (by simp) (by simp)
    have SM := Lib.hid ((own_zeros2 own1).below (balloc w5 (.cells #[.slice (some ⟨wc.heap.size, 0, none⟩) N N] 22)) (own_zeros2 own1).lt)
    have VB := Lib.hid (Blk.new w5 22 #[.slice (some ⟨wc.heap.size, 0, none⟩) N N])
    have hGl := E.out.gb.lt
    have hRl := E.out.rb.lt
    have hsz := hb3.size
    have hgv : wc.heap.size < w5.heap.size := (own_zeros2 own1).lt
    have E := Lib.hid ((E.out.below hb3).below (balloc w5 (.cells #[.slice (some ⟨wc.heap.size, 0, none⟩) N N] 22)))
    clear hi0 hz0 hy1 hy2 own1 grow1 hb3 e1
    generalize hwe : w5.alloc (.cells #[.slice (some ⟨wc.heap.size, 0, none⟩) N N] 22) = w6 at *
    clear hwe
    generalize wc.heap.size = G at *
    generalize w5.heap.size = V at *
    have hvl := VB.out.lt
    have v0 := VB.out.cell 0
    simp at v0
    go_wp2_with fail
    clear v0 hvl
    go_loopg [12, 13, 56] N (fun gg s12 s13 s56 wx => ∃ (k : Nat) (zs : List Int), k + gg = N ∧ s56 = .int .i64 k ∧ s12 = .int .i64 (rmx (dif a b) 0 (min k (ordF a b))) ∧ s13 = .int .i64 (tailV a b (k - ordF a b)) ∧ UpTo (restV a b) zs N k ∧ RowI wx G zs ∧ Blk wx V 22 #[.slice (some ⟨G, 0, none⟩) N N] ∧ RsE w wx GB A n c a B m d b ∧ Hid (fr < k → ¬ RstBad a b))
    case atStart => exact ⟨0, List.replicate N 0, by omega, rfl, by rw [Nat.zero_min]; rfl, by rw [Nat.zero_sub]; rfl, ⟨by simp, fun x hx => by omega⟩, SM.out, VB.out, E.out, Lib.hid (fun h => by omega)⟩
    case round =>
      clear SM VB E
      obtain ⟨k, zs, hkg, rfl, rfl, rfl, hu, hR, hV, hE, NBD⟩ := hrel
      have SM := Lib.hid hR; have E := Lib.hid hE; have HU := Lib.hid hu; have VB := Lib.hid hV
      clear hR hE hu hV
      obtain ⟨mk, hmk⟩ : ∃ v, v = rmx (dif a b) 0 (min k (ordF a b)) := ⟨_, rfl⟩
      obtain ⟨tk, htk⟩ : ∃ v, v = tailV a b (k - ordF a b) := ⟨_, rfl⟩
      rw [← hmk, ← htk]
      have HMK := Lib.hid hmk; have HTK := Lib.hid htk
      clear hmk htk
      by_cases hk : k < N
      case pos =>
        have hki : (k : Int) < N := by omega
        obtain ⟨⟨x0, x1, x2, x3, x4, x5⟩, x6, x7, x8, hlx⟩ := E.out.cells
        go_wp2_with fail
        refine (graw_any A B n m c d a b _ _ _ k _ (by exact E.out.ia) (by exact E.out.ib) FA.out FB.out (by omega)).mono ?_
        obtain ⟨dv, hdv⟩ : ∃ v, v = dif a b k := ⟨_, rfl⟩
        rw [← hdv]
        have HDV := Lib.hid hdv
        clear hdv
        rintro e wa ⟨rfl, hb⟩
        have hsl := SM.out.lt; have hvl := VB.out.lt
        replace E := Lib.hid (E.out.below hb); replace SM := Lib.hid (SM.out.below hb hsl); replace VB := Lib.hid (VB.out.below hb hvl)
        clear x0 x1 x2 x3 x4 x5 x6 x7 x8 hlx
        clear hb hsl hvl
        obtain ⟨mn, hmn⟩ : ∃ v, v = rmx (dif a b) 0 (min (k + 1) (ordF a b)) := ⟨_, rfl⟩
        obtain ⟨tn, htn⟩ : ∃ v, v = tailV a b (k + 1 - ordF a b) := ⟨_, rfl⟩
        obtain ⟨⟨x0, x1, x2, x3, x4, x5⟩, x6, x7, x8, hlx⟩ := E.out.cells
        go_upto_if 65 with (fail)
        go_cut [12, 13] (fun s12 s13 wx => s12 = .int .i64 mn ∧ s13 = .int .i64 tn ∧ wx = wa)
        case first =>
          clear x0 x1 x2 x3 x4 x5
          by_cases hkF : k < ordF a b
          · have q1 : mn = if mk < dv then dv else mk := by
              rw [hmn, HMK.out, HDV.out, show min (k + 1) (ordF a b) = min k (ordF a b) + 1 by omega]
              show max (rmx (dif a b) 0 (min k (ordF a b))) (dif a b (min k (ordF a b))) = _
              rw [show min k (ordF a b) = k by omega]
              split <;> omega
            have q2 : tn = tk := by rw [htn, HTK.out, show k + 1 - ordF a b = k - ordF a b by omega]
            have q1' : (if mk < dv then dv else mk) = mn := q1.symm
            have hkf : ¬ (ordF a b : Int) ≤ (k : Int) := by omega
            have hkf' : (k : Int) < (ordF a b : Int) := by omega
            have Q2 := Lib.hid q2
            clear q1 q2 hmn htn
            go_wp2_with fail
            go_meet
            exact ⟨rfl, by rw [Q2.out], rfl⟩
          · have q1 : tn = if tk < dv then dv else tk := by
              rw [htn, HTK.out, HDV.out, show k + 1 - ordF a b = k - ordF a b + 1 by omega]
              show max (tailV a b (k - ordF a b)) (dif a b (ordF a b + (k - ordF a b))) = _
              rw [show ordF a b + (k - ordF a b) = k by omega]
              split <;> omega
            have q2 : mn = mk := by rw [hmn, HMK.out, show min (k + 1) (ordF a b) = min k (ordF a b) by omega]
            have q1' : (if tk < dv then dv else tk) = tn := q1.symm
            have hkf : (ordF a b : Int) ≤ (k : Int) := by omega
            have Q2 := Lib.hid q2
            clear q1 q2 hmn htn
            go_wp2_with fail
            go_meet
            exact ⟨by rw [Q2.out], rfl, rfl⟩
        case rest =>
        obtain ⟨rfl, rfl, rfl⟩ := hcut
        have HMN := Lib.hid hmn; have HTN := Lib.hid htn
        obtain ⟨v, hv⟩ : ∃ v, v = restV a b k := ⟨_, rfl⟩
        have q1 : (if mn < tn then tn else mn) = v := by
          rw [hv, rest_val, hmn, htn]
          split <;> omega
        have F1 := Lib.hid (HU.out.step hk)
        rw [← hv] at F1
        have q0 := SM.out.cell k (by rw [HU.out.1]; exact hk)
        have z0 := SM.out.frozen k
        have hlt := SM.out.lt
        have v0 := VB.out.cell 0
        simp at v0
        have hvl := VB.out.lt
        clear hmn htn hv
        go_upto_region 17 with fail
        have hGG : GB < G := by omega
        have S2 := Lib.hid (SM.out.set_ k (by rw [HU.out.1]; exact hk) v)
        have V2 := Lib.hid (VB.out.far (p := ⟨G, k, none⟩) (by show V ≠ G; omega) (.int .i64 v))
        have E2 := Lib.hid (E.out.far (g := G) (i := k) (v := .int .i64 v) hGG (by omega))
        generalize hws : wc.setCell ⟨G, k, none⟩ (.int .i64 v) = ws at *
        clear hws q0 z0 hlt v0 hvl SM VB E
        clear x0 x1 x2 x3 x4 x5 x6 x7 x8 hlx
        have hfrF : ordF a b < fr := by rw [← HFe.out]; omega
        by_cases hkf : k = fr
        case neg =>
          have d1 : ((k : Int) == (fr : Int)) = false := by simp; omega
          have NB2 := Lib.hid (show fr < k + 1 → ¬ RstBad a b from fun h => NBD.out (by omega))
          go_wp2_with fail
          go_roundg (gk - 1)
          case measure => omega
          case rel => exact ⟨k + 1, _, by omega, by go_num, by rw [HMN.out], by rw [HTN.out], F1.out, S2.out, V2.out, E2.out, NB2⟩
        case pos =>
        have d1 : ((k : Int) == (fr : Int)) = true := by simp; omega
        by_cases hic : 0 < ic
        case neg =>
          have d2 : decide (0 < ic) = false := by simpa using hic
          have NB2 := Lib.hid (show fr < k + 1 → ¬ RstBad a b from fun _ h => hic (by rw [HIC.out]; unfold rstInc; rw [if_pos h.1]; exact h.1))
          clear hkf
          go_wp2_with fail
          go_roundg (gk - 1)
          case measure => omega
          case rel => exact ⟨k + 1, _, by omega, by go_num, by rw [HMN.out], by rw [HTN.out], F1.out, S2.out, V2.out, E2.out, NB2⟩
        case pos =>
        have d2 : decide (0 < ic) = true := by simpa using hic
        have hD0 : 0 < ordD a b := by
          rw [HIC.out] at hic
          unfold rstInc at hic
          split at hic
          · assumption
          · omega
        have EM : mn = rmx (dif a b) 0 (ordF a b) := by rw [HMN.out, show min (k + 1) (ordF a b) = ordF a b by omega]
        have ET : tn = tailV a b (rstFrom a b + 1 - ordF a b) := by rw [HTN.out, ← HFR.out, hkf]
        by_cases hlt : tn < mn
        case neg =>
          have d3 : decide (tn < mn) = false := by simpa using hlt
          have NB2 := Lib.hid (show fr < k + 1 → ¬ RstBad a b from fun _ h => hlt (by rw [EM, ET]; exact h.2))
          clear hkf EM ET
          go_wp2_with fail
          go_roundg (gk - 1)
          case measure => omega
          case rel => exact ⟨k + 1, _, by omega, by go_num, by rw [HMN.out], by rw [HTN.out], F1.out, S2.out, V2.out, E2.out, NB2⟩
        case pos =>
          have d3 : decide (tn < mn) = true := by simpa using hlt
          have F := Lib.hid (show RestS ⟨xs, p, i⟩ ⟨ys, q, j⟩ Cv.none 3 from ⟨a, b, NA.out, NB.out, FA.out, FB.out, .inr ⟨by rw [← HCe.out]; exact hCC, .inl ⟨⟨hD0, by rw [← EM, ← ET]; exact hlt⟩, rfl, rfl⟩⟩⟩)
          have RB := Lib.hid E2.out.rb; have BW := Lib.hid E2.out.bw
          clear hkf EM ET
          obtain ⟨⟨r0, r1, r2⟩, ⟨y0, y1, y2⟩, hlr⟩ := RB.out.c3
          go_wp2_with fail
          have rb := RB.out.store3 (.slice none 0 0) (.int .i64 0) (.int .i64 0)
          exact bodyPost_ret (v := .tuple #[.agg #[.slice none 0 0, .int .i64 0, .int .i64 0], .int .i64 3]) (by simp [results, Tryz.results181, go_sem, rb.cell]) rfl (retS_none F.out (bst3 BW.out (by omega) _ _ _))
      case neg =>
        have hki : ¬ (k : Int) < N := by omega
        have hkN : k = N := by omega
        have NBB := Lib.hid (NBD.out (by omega))
        have HDN := Lib.hid (show UpTo (restV a b) zs N N by have h9 := HU.out; rw [hkN] at h9; exact h9)
        have hsl := SM.out.lt; have hvl := VB.out.lt
        have fr0 : ((fr : Nat) : Int).toNat = fr := Int.toNat_natCast _
        have pr0 : ((pr : Nat) : Int).toNat = pr := Int.toNat_natCast _
        have HBD := Lib.hid (fun (t : Nat) (ht : t < N) => (⟨rmx_ge _ _ _, rmx_le (by omega) (fun j hj => by
          have h1 := fin_pre FA.out j (by omega)
          have h2 := fin_pre FB.out j (by omega)
          unfold dif
          omega)⟩ : 0 ≤ restV a b t ∧ restV a b t ≤ 4300000000000))
        clear hk hkg hkN
        go_wp2_with fail
        refine (buildK_any 188 #[.pointer (some ⟨V, 0, none⟩)] fr pr ic (restV a b) _ (by omega) (by omega) (by omega) (by omega) hic1 (by omega)
          (fun k hk => by have := HBD.out k (by rw [HN.out]; omega); omega)
          (Lib.hid (fun t w4 ht hb => rest1_any V G N N zs (restV a b) t w4 (VB.out.below hb hvl) (SM.out.below hb hsl) HDN.out.1 (HDN.out.2 t (by rw [HN.out]; omega)) (by rw [HN.out]; omega))) (fun x w => by kernel_rfl)).mono ?_
        rw [fr0, pr0]
        rintro e w7 ⟨f, er, hS, A5, n5, c5, hc5, rfl, hI5, hA5, hb⟩
        have hM := build_made (h := restV a b) (s := fr) (p := pr) (i := ic) (by omega) (fun t u h1 _ h => absurd h (small_ne9 (HBD.out t (by rw [HN.out]; omega)).2)) (fun _ => by
          rw [HFR.out, HPR.out, HIC.out]
          exact rest_per FA.out FB.out (by rw [← HCe.out]; exact hC1) NBB.out) hS
        have F := Lib.hid (show RestS ⟨xs, p, i⟩ ⟨ys, q, j⟩ f er from ⟨a, b, NA.out, NB.out, FA.out, FB.out, .inr ⟨by rw [← HCe.out]; exact hCC, .inr ⟨NBB.out, hM⟩⟩⟩)
        have hsz5 := E.out.rb.lt
        have RB := Lib.hid (E.out.rb.below hb E.out.rb.lt); have BW := Lib.hid (bthen E.out.bw hb)
        have HI5 := Lib.hid hI5; have HA5 := Lib.hid hA5
        clear hS hI5 hA5 hb hM E SM VB
        obtain ⟨⟨r0, r1, r2⟩, ⟨y0, y1, y2⟩, hlr⟩ := RB.out.c3
        go_wp2_with fail
        have rb := RB.out.store3 (.slice A5 n5 c5) (.int .i64 f.per) (.int .i64 f.inc)
        exact bodyPost_ret (v := .tuple #[.agg #[.slice A5 n5 c5, .int .i64 f.per, .int .i64 f.inc], .int .i64 er]) (by simp [results, Tryz.results181, go_sem, rb.cell]) rfl (retS_store F.out HA5.out (by omega) (by omega) HI5.out BW.out)
end Go.Proofs.YtaejfleahamapaaGreat

