/- wave.Common: the least common multiple. -/
import Derived.Test.YthdibkmjoiipgaaCurve2
import Derived.Test.YthdibkmjoiipgaaOrdLaw2
import Derived.Test.YthdibkmjoiipgaaSto
import Derived.BigQuiet
import Derived.Deep.QuietTactic
import Derived.Deep.LoopGhost
import Derived.Deep.RegionHeld3
import Derived.Deep.DeepCutAuto
import Derived.Deep.MidRow
import Derived.Laws.Rows
import Derived.Outline
namespace Go.Proofs.Ythdibkmjoiipgaa
open Go.RowKit
set_option linter.unusedVariables false

theorem common_any (a b : Nat) (w : World) (ha : (a : Int) ≤ 1000) (hb : (b : Int) ≤ 1000) (ha1 : 1 ≤ a) :
    Calls Try.prog 135 #[.int .i64 a, .int .i64 b] w fun e w' => e = .returned (.int .i64 (comm a b : Nat)) ∧ Below w.heap.size w w' := by
  go_enter Try.func135, Try.ntmps135
  go_wp2
  go_loopg [5, 6] b (fun g s0 s1 wx => ∃ x y : Nat, s0 = .int .i64 x ∧ s1 = .int .i64 y ∧ y = g ∧ (x : Int) ≤ 1000 ∧ (y : Int) ≤ 1000 ∧ Hid (Nat.gcd x y = Nat.gcd a b) ∧ Below w.heap.size w wx)
  case atStart => exact ⟨a, b, rfl, rfl, rfl, ha, hb, rfl, Below.refl _ _⟩
  case round =>
    obtain ⟨x, y, rfl, rfl, hyg, hx, hy, hgcd, bw⟩ := hrel
    have HY := Lib.hid hyg; clear hyg
    have HG := Lib.hid hgcd; clear hgcd
    by_cases hy0 : y = 0
    · have hb1 : ((y : Int) != 0) = false := by simpa using hy0
      have hxg : x = Nat.gcd a b := by rw [← HG.out.out, hy0, Nat.gcd_zero_right]
      have hx0 : 0 < x := by rw [hxg]; exact Nat.gcd_pos_of_pos_left _ (by omega)
      obtain ⟨k, hk⟩ : ∃ k, k = a / x := ⟨_, rfl⟩
      have hka : k ≤ a := by rw [hk]; exact Nat.div_le_self _ _
      have ed : ((a : Int).tdiv (x : Int)) = (k : Int) := by rw [hk]; rfl
      have hxn : (x : Int) ≠ 0 := by omega
      have hkb : (k : Int) * b ≤ 1000 * 1000 := Int.mul_le_mul (by omega) hb (by omega) (by omega)
      have hkb0 : 0 ≤ (k : Int) * b := Int.mul_nonneg (by omega) (by omega)
      have F := Lib.hid (show (k : Int) * b = (comm a b : Nat) by unfold comm; rw [← hxg, ← hk]; simp); clear HG hy0 hxg hk
      go_wp2
      go_ret
      exact ⟨ret_int F.out, bw⟩
    · have hb1 : ((y : Int) != 0) = true := by simpa using hy0
      have F := Lib.hid (show Nat.gcd y (x % y) = Nat.gcd a b by rw [Nat.gcd_comm, ← Nat.gcd_rec, Nat.gcd_comm]; exact HG.out.out); clear HG
      have hy0' : (y : Int) ≠ 0 := by omega
      go_wp2_with fail
      go_quiet (fail)
      go_wp2
      go_roundg (x % y)
      case measure => rw [← HY.out]; exact Nat.mod_lt _ (by omega)
      case rel => exact ⟨y, x % y, by go_num, by go_num, rfl, hy, by have := Nat.mod_lt x (show y > 0 by omega); omega, F.out, bdrewN bw⟩

end Go.Proofs.Ythdibkmjoiipgaa
namespace Go.Proofs.Ythdibkmjoiipgaa
open Go.RowKit
set_option linter.unusedVariables false

/-- block F is a variable that holds the curve f, whose list lies between L and F -/
structure Bx (L : Nat) (w : World) (F : Nat) (A : Option Addr) (n c : Nat) (f : Cv) : Prop where
  blk : Blk w F 46 #[.slice A n c, .int .i64 f.per, .int .i64 f.inc]
  ints : Ints w w.heap.size A n f.vals
  ap : ∀ b off s, A = some ⟨b, off, s⟩ → L ≤ b ∧ b < F
  lf : L ≤ F
section
variable {L F n c : Nat} {w w' : World} {A : Option Addr} {f : Cv}
theorem Bx.lt (h : Bx L w F A n c f) : F < w.heap.size := h.blk.lt
theorem Bx.new {B : Nat} (hI : Ints w w.heap.size A n f.vals) (hA : ∀ b off s, A = some ⟨b, off, s⟩ → B ≤ b) (hL : L ≤ B) (hn : 0 < n) (hw : L ≤ w.heap.size) : Bx L (w.alloc (.cells #[.slice A n c, .int .i64 f.per, .int .i64 f.inc] 46)) w.heap.size A n c f :=
  ⟨Blk.new _ _ _, hI.alloc' _, fun b off s e => by
    have h1 := hA b off s e
    obtain ⟨b', off', e', hb, _⟩ := hI.2 hn
    rw [e] at e'; cases e'; omega, hw⟩
theorem Bx.below (h : Bx L w F A n c f) (hb : Below w.heap.size w w') : Bx L w' F A n c f := ⟨h.blk.below hb h.lt, h.ints.ext hb, h.ap, h.lf⟩
theorem Bx.alloc (h : Bx L w F A n c f) (o : Obj) : Bx L (w.alloc o) F A n c f := h.below (balloc w o)
theorem Bx.drew (h : Bx L w F A n c f) : Bx L w.drew F A n c f := ⟨h.blk, h.ints, h.ap, h.lf⟩
theorem Bx.drewN (h : Bx L w F A n c f) (k : Nat) : Bx L (w.drewN k) F A n c f := ⟨h.blk, h.ints, h.ap, h.lf⟩
theorem Bx.sto {g : Nat} (h : Bx L w F A n c f) (s : Sto g w w') (hg : F < g ∨ g < L) : Bx L w' F A n c f :=
  ⟨h.blk.sto s (by have := h.lf; omega), h.ints.sto s (fun b off o e => by have := h.ap b off o e; omega), h.ap, h.lf⟩
theorem Bx.cells (h : Bx L w F A n c f) : w.cell? ⟨F, 0, none⟩ = some (.slice A n c) ∧ w.cell? ⟨F, 1, none⟩ = some (.int .i64 f.per) ∧ w.cell? ⟨F, 2, none⟩ = some (.int .i64 f.inc) ∧ F < w.heap.size := by
  have q0 := h.blk.cell 0; have q1 := h.blk.cell 1; have q2 := h.blk.cell 2
  simp at q0 q1 q2
  exact ⟨q0, q1, q2, h.lt⟩
theorem Bx.set1 (h : Bx L w F A n c f) {g : Nat} (hg : F < g ∨ g < L) (i : Nat) (u : Value) : Bx L (w.setCell ⟨g, i, none⟩ u) F A n c f := h.sto ((Sto.refl g w).set i u) hg
end
theorem common2_any (p q : Int) (w : World) (hp1 : 1 ≤ p) (hp : p ≤ 1000) (hq1 : 1 ≤ q) (hq : q ≤ 1000) :
    Calls Try.prog 135 #[.int .i64 p, .int .i64 q] w fun e w' => e = .returned (.int .i64 (comm p.toNat q.toNat : Nat)) ∧ Below w.heap.size w w' := by
  obtain ⟨p, rfl⟩ := Int.eq_ofNat_of_zero_le (show 0 ≤ p by omega)
  obtain ⟨q, rfl⟩ := Int.eq_ofNat_of_zero_le (show 0 ≤ q by omega)
  simp only [Int.toNat_natCast]
  exact common_any p q w hp hq (by omega)
end Go.Proofs.Ythdibkmjoiipgaa
namespace Go.Proofs.Ythdibkmjoiipgaa
open Go.RowKit
set_option linter.unusedVariables false

theorem Ints.sto0 {w w' : World} {g n : Nat} {A : Option Addr} {zs : List Int} (H : Ints w w.heap.size A n zs) (s : Sto g w w') (hne : 0 < n → ∀ b off o, A = some ⟨b, off, o⟩ → b ≠ g) : Ints w' w'.heap.size A n zs := by
  rw [s.size]
  exact ⟨H.1, fun hn => by
    obtain ⟨b, off, e, hb, hc⟩ := H.2 hn
    exact ⟨b, off, e, hb, fun j hj => (World.cell?_of_block (a := ⟨b, off + j, none⟩) (s.block b (hne hn b off none e))).trans (hc j hj)⟩⟩
/-- block F is a variable that holds the curve f, whose list, if it has values, lies between L and F -/
structure By (L : Nat) (w : World) (F : Nat) (A : Option Addr) (n c : Nat) (f : Cv) : Prop where
  blk : Blk w F 46 #[.slice A n c, .int .i64 f.per, .int .i64 f.inc]
  ints : Ints w w.heap.size A n f.vals
  lo : ∀ b off s, A = some ⟨b, off, s⟩ → L ≤ b
  ap : 0 < n → ∀ b off s, A = some ⟨b, off, s⟩ → b < F
  lf : L ≤ F
section
variable {L F n c : Nat} {w w' : World} {A : Option Addr} {f : Cv}
theorem By.lt (h : By L w F A n c f) : F < w.heap.size := h.blk.lt
theorem By.new {B : Nat} (hI : Ints w w.heap.size A n f.vals) (hA : ∀ b off s, A = some ⟨b, off, s⟩ → B ≤ b) (hL : L ≤ B) (hw : L ≤ w.heap.size) : By L (w.alloc (.cells #[.slice A n c, .int .i64 f.per, .int .i64 f.inc] 46)) w.heap.size A n c f :=
  ⟨Blk.new _ _ _, hI.alloc' _, fun b off s e => by have h1 := hA b off s e; omega, fun hn b off s e => by
    obtain ⟨b', off', e', hb, _⟩ := hI.2 hn
    rw [e] at e'; cases e'; omega, hw⟩
theorem By.below (h : By L w F A n c f) (hb : Below w.heap.size w w') : By L w' F A n c f := ⟨h.blk.below hb h.lt, h.ints.ext hb, h.lo, h.ap, h.lf⟩
theorem By.alloc (h : By L w F A n c f) (o : Obj) : By L (w.alloc o) F A n c f := h.below (balloc w o)
theorem By.drew (h : By L w F A n c f) : By L w.drew F A n c f := ⟨h.blk, h.ints, h.lo, h.ap, h.lf⟩
theorem By.drewN (h : By L w F A n c f) (k : Nat) : By L (w.drewN k) F A n c f := ⟨h.blk, h.ints, h.lo, h.ap, h.lf⟩
theorem By.sto {g : Nat} (h : By L w F A n c f) (s : Sto g w w') (hg : F < g ∨ g < L) : By L w' F A n c f :=
  ⟨h.blk.sto s (by have := h.lf; omega), h.ints.sto0 s (fun hn b off o e => by have := h.ap hn b off o e; have := h.lo b off o e; omega), h.lo, h.ap, h.lf⟩
theorem By.cells (h : By L w F A n c f) : w.cell? ⟨F, 0, none⟩ = some (.slice A n c) ∧ w.cell? ⟨F, 1, none⟩ = some (.int .i64 f.per) ∧ w.cell? ⟨F, 2, none⟩ = some (.int .i64 f.inc) ∧ F < w.heap.size := by
  have q0 := h.blk.cell 0; have q1 := h.blk.cell 1; have q2 := h.blk.cell 2
  simp at q0 q1 q2
  exact ⟨q0, q1, q2, h.lt⟩
theorem By.upto {B : Nat} (h : By L w F A n c f) (hb : Below B w w') (hF : F < B) : By L w' F A n c f :=
  ⟨h.blk.below hb hF, ⟨h.ints.1, fun hn => by
    obtain ⟨b, off, e, hlt, hc⟩ := h.ints.2 hn
    have h1 := h.ap hn _ _ _ e
    exact ⟨b, off, e, Nat.lt_of_lt_of_le hlt hb.size, fun j hj => ((bcell hb).1 b (off + j) (by omega)).trans (hc j hj)⟩⟩, h.lo, h.ap, h.lf⟩
theorem By.set1 (h : By L w F A n c f) {g : Nat} (hg : F < g ∨ g < L) (i : Nat) (x : Value) : By L (w.setCell ⟨g, i, none⟩ x) F A n c f := h.sto ((Sto.refl g w).set i x) hg
theorem By.set3 (h : By L w F A n c f) {g : Nat} (hg : F < g ∨ g < L) (x y z : Value) : By L (((w.setCell ⟨g, 0, none⟩ x).setCell ⟨g, 1, none⟩ y).setCell ⟨g, 2, none⟩ z) F A n c f := h.sto ((((Sto.refl g w).set 0 x).set 1 y).set 2 z) hg
end
end Go.Proofs.Ythdibkmjoiipgaa
namespace Go.Proofs.Ythdibkmjoiipgaa
open Go.RowKit
set_option linter.unusedVariables false

/-- the two curves lie in the first two blocks of a call -/
structure PS (w wx : World) (A : Option Addr) (n c : Nat) (p i : Int) (xs : List Int) (B : Option Addr) (m d : Nat) (q j : Int) (ys : List Int) : Prop where
  fb : Blk wx w.heap.size 46 #[.slice A n c, .int .i64 p, .int .i64 i]
  gb : Blk wx (w.heap.size + 1) 46 #[.slice B m d, .int .i64 q, .int .i64 j]
  ia : Ints wx wx.heap.size A n xs
  ib : Ints wx wx.heap.size B m ys
  bw : Below w.heap.size w wx
section
variable {w wx wy : World} {A B : Option Addr} {n c m d : Nat} {p i q j : Int} {xs ys : List Int}
theorem PS.new (hA : Ints w w.heap.size A n xs) (hB : Ints w w.heap.size B m ys) : PS w ((w.alloc (.cells #[.slice A n c, .int .i64 p, .int .i64 i] 46)).alloc (.cells #[.slice B m d, .int .i64 q, .int .i64 j] 46)) A n c p i xs B m d q j ys :=
  ⟨(Blk.new w 46 #[.slice A n c, .int .i64 p, .int .i64 i]).alloc _, by
    have := Blk.new (w.alloc (.cells #[.slice A n c, .int .i64 p, .int .i64 i] 46)) 46 #[.slice B m d, .int .i64 q, .int .i64 j]
    rwa [World.size_alloc] at this, (hA.alloc' _).alloc' _, (hB.alloc' _).alloc' _, bthen (balloc w _) (balloc _ _)⟩
theorem PS.below (h : PS w wx A n c p i xs B m d q j ys) (hb : Below wx.heap.size wx wy) : PS w wy A n c p i xs B m d q j ys :=
  ⟨h.fb.below hb h.fb.lt, h.gb.below hb h.gb.lt, h.ia.ext hb, h.ib.ext hb, bthen h.bw hb⟩
theorem PS.alloc (h : PS w wx A n c p i xs B m d q j ys) (o : Obj) : PS w (wx.alloc o) A n c p i xs B m d q j ys := h.below (balloc wx o)
theorem PS.drew (h : PS w wx A n c p i xs B m d q j ys) : PS w wx.drew A n c p i xs B m d q j ys := ⟨h.fb, h.gb, h.ia, h.ib, ⟨h.bw.os, h.bw.tape, h.bw.output, h.bw.size, h.bw.block⟩⟩
theorem PS.cells (h : PS w wx A n c p i xs B m d q j ys) : wx.cell? ⟨w.heap.size, 0, none⟩ = some (.slice A n c) ∧ wx.cell? ⟨w.heap.size, 1, none⟩ = some (.int .i64 p) ∧ wx.cell? ⟨w.heap.size, 2, none⟩ = some (.int .i64 i) ∧
    wx.cell? ⟨w.heap.size + 1, 0, none⟩ = some (.slice B m d) ∧ wx.cell? ⟨w.heap.size + 1, 1, none⟩ = some (.int .i64 q) ∧ wx.cell? ⟨w.heap.size + 1, 2, none⟩ = some (.int .i64 j) ∧ w.heap.size < wx.heap.size ∧ w.heap.size + 1 < wx.heap.size := by
  have f0 := h.fb.cell 0; have f1 := h.fb.cell 1; have f2 := h.fb.cell 2; have g0 := h.gb.cell 0; have g1 := h.gb.cell 1; have g2 := h.gb.cell 2
  simp at f0 f1 f2 g0 g1 g2
  exact ⟨f0, f1, f2, g0, g1, g2, h.fb.lt, h.gb.lt⟩
end

def RetE (S : Int → Bool → Prop) (f g : Cv) (w : World) (e : Ending) (w' : World) : Prop :=
  ∃ t ok er, OrdS (S t ok) f g t ok er ∧ e = .returned (.tuple #[.int .i64 t, .bool ok, .int .i64 er]) ∧ Below w.heap.size w w'

/-- what order.AtMost returns -/
def AtM (f g : Cv) (b : Bool) : Prop := (f.Ok ∧ g.Ok ∧ (b = true ↔ ∀ n, ¬ Up f g n)) ∨ (¬ (f.Ok ∧ g.Ok) ∧ b = false)
theorem AtM.unique {f g : Cv} {a b : Bool} (h : AtM f g a) (k : AtM f g b) : a = b := by
  rcases h with ⟨h1, h2, h⟩ | ⟨h1, rfl⟩ <;> rcases k with ⟨k1, k2, k⟩ | ⟨k1, rfl⟩
  · rw [← k] at h; cases a <;> cases b <;> simp_all
  · exact absurd ⟨h1, h2⟩ k1
  · exact absurd ⟨k1, k2⟩ h1
  · rfl

def RetM (f g : Cv) (w : World) (e : Ending) (w' : World) : Prop := ∃ b, AtM f g b ∧ e = .returned (.bool b) ∧ Below w.heap.size w w'

/-- what a valid pair returns is unique -/
theorem RetE.of {S : Int → Bool → Prop} {f g : Cv} {w : World} {e : Ending} {w' : World} {t : Int} {b : Bool} (hf : f.Ok) (hg : g.Ok) (hu : ∀ t' b', S t' b' → t' = t ∧ b' = b) (h : RetE S f g w e w') :
    e = .returned (.tuple #[.int .i64 t, .bool b, .int .i64 0]) ∧ Below w.heap.size w w' := by
  obtain ⟨t', b', er, hS, rfl, hb⟩ := h
  rcases hS with ⟨_, _, rfl, hS⟩ | ⟨hn, _⟩
  · obtain ⟨rfl, rfl⟩ := hu _ _ hS
    exact ⟨rfl, hb⟩
  · exact absurd ⟨hf, hg⟩ hn
theorem RetM.of {f g : Cv} {w : World} {e : Ending} {w' : World} {b : Bool} (hu : AtM f g b) (h : RetM f g w e w') : e = .returned (.bool b) ∧ Below w.heap.size w w' := by
  obtain ⟨b', hS, rfl, hb⟩ := h
  rw [hS.unique hu]
  exact ⟨rfl, hb⟩

/-- what is returned for two valid curves -/
theorem RetE.ok {S : Int → Bool → Prop} {f g : Cv} {w : World} {e : Ending} {w' : World} (hf : f.Ok) (hg : g.Ok) (h : RetE S f g w e w') :
    ∃ t b, S t b ∧ e = .returned (.tuple #[.int .i64 t, .bool b, .int .i64 0]) ∧ Below w.heap.size w w' := by
  obtain ⟨t, b, er, hS, rfl, hb⟩ := h
  rcases hS with ⟨_, _, rfl, hS⟩ | ⟨hn, _⟩
  · exact ⟨t, b, hS, rfl, hb⟩
  · exact absurd ⟨hf, hg⟩ hn
end Go.Proofs.Ythdibkmjoiipgaa
