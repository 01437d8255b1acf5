/- Package order, the first part: wave.Common, the pair of two curves, and above. -/
import Derived.BigQuiet
import Derived.Deep.QuietTactic
import Derived.Deep.LoopGhost
import Derived.Deep.RegionHeld3
import Derived.Deep.DeepCutAuto
import Derived.Deep.MidRow
import Derived.Laws.Rows
import Derived.Outline
import Derived.BigRegion
import Derived.Test.YtaejfleahamapaaGreatTa8
import Derived.Test.YtaejfleahamapaaGreatTa2
import Derived.Test.YtaejfleahamapaaGreatTa11
import Derived.Test.YtaejfleahamapaaGreatTa1
import Derived.Test.YtaejfleahamapaaGreatTa7
import Derived.Test.YtaejfleahamapaaGreatTa9
import Derived.Test.YtaejfleahamapaaGreatTa6
namespace Go.Proofs.YtaejfleahamapaaGreat
set_option linter.unusedVariables false
set_option linter.unusedSimpArgs false
section
open Go.RowKit
theorem common_any (a b : Nat) (w : World) (ha : (a : Int) ≤ 1000) (hb : (b : Int) ≤ 1000) (ha1 : 1 ≤ a) :
 Calls Tryz.prog 94 #[.int .i64 a, .int .i64 b] w fun e w' => e = .returned (.int .i64 (comm a b : Nat)) ∧ Below w.heap.size w w' := by
 go_enter Tryz.func94, Tryz.ntmps94
 go_wp2
 go_loopg [5, 6] b (fun g s0 s1 wx => ∃ x y : Nat, s0 = .int .i64 x ∧ s1 = .int .i64 y ∧ y = g ∧ (x : Int) ≤ 1000 ∧ (y : Int) ≤ 1000 ∧ Hid (Nat.gcd x y = Nat.gcd a b) ∧ Below w.heap.size w wx)
 case atStart => exact ⟨a, b, rfl, rfl, rfl, ha, hb, rfl, Below.refl _ _⟩
 case round =>
  obtain ⟨x, y, rfl, rfl, hyg, hx, hy, hgcd, bw⟩ := hrel
  have HY := hi_ hyg; clear hyg
  have HG := hi_ hgcd; clear hgcd
  by_cases hy0 : y = 0
  ·have hb1 : ((y : Int) != 0) = false := by simpa using hy0
   have hxg : x = Nat.gcd a b := by rw [← HG.out.out, hy0, Nat.gcd_zero_right]
   have hx0 : 0 < x := by rw [hxg]; exact Nat.gcd_pos_of_pos_left _ (by omega)
   obtain ⟨k, hk⟩ : ∃ k, k = a / x := ⟨_, rfl⟩
   have hka : k ≤ a := by rw [hk]; exact Nat.div_le_self _ _
   have ed : ((a : Int).tdiv (x : Int)) = (k : Int) := by rw [hk]; rfl
   have hxn : (x : Int) ≠ 0 := by omega
   have hkb : (k : Int) * b ≤ 1000 * 1000 := Int.mul_le_mul (by omega) hb (by omega) (by omega)
   have hkb0 : 0 ≤ (k : Int) * b := Int.mul_nonneg (by omega) (by omega)
   have F := hi_ (show (k : Int) * b = (comm a b : Nat) by unfold comm; rw [← hxg, ← hk]; simp); clear HG hy0 hxg hk
   go_wp2
   go_ret
   exact ⟨ret_int F.out, bw⟩
  ·have hb1 : ((y : Int) != 0) = true := by simpa using hy0
   have F := hi_ (show Nat.gcd y (x % y) = Nat.gcd a b by rw [Nat.gcd_comm, ← Nat.gcd_rec, Nat.gcd_comm]; exact HG.out.out); clear HG
   have hy0' : (y : Int) ≠ 0 := by omega
   go_wp2_with fail
   go_quiet (fail)
   go_wp2
   go_roundg (x % y)
   case measure => rw [← HY.out]; exact Nat.mod_lt _ (by omega)
   case rel => exact ⟨y, x % y, by go_num, by go_num, rfl, hy, by have := Nat.mod_lt x (show y > 0 by omega); omega, F.out, bdrewN bw⟩
end
section
open Go.RowKit
structure Bx (L : Nat) (w : World) (F : Nat) (A : Option Addr) (n c : Nat) (f : Cv) : Prop where
 blk : Blk w F 26 #[.slice A n c, .int .i64 f.per, .int .i64 f.inc]
 ints : Ints w w.heap.size A n f.vals
 ap : ∀ b off s, A = some ⟨b, off, s⟩ → L ≤ b ∧ b < F
 lf : L ≤ F
section
variable {L F n c : Nat} {w w' : World} {A : Option Addr} {f : Cv}
theorem Bx.lt (h : Bx L w F A n c f) : F < w.heap.size := h.blk.lt
theorem Bx.new {B : Nat} (hI : Ints w w.heap.size A n f.vals) (hA : ∀ b off s, A = some ⟨b, off, s⟩ → B ≤ b) (hL : L ≤ B) (hn : 0 < n) (hw : L ≤ w.heap.size) : Bx L (w.alloc (.cells #[.slice A n c, .int .i64 f.per, .int .i64 f.inc] 26)) w.heap.size A n c f :=
 ⟨Blk.new _ _ _, hI.alloc' _, fun b off s e => by
  have h1 := hA b off s e
  obtain ⟨b', off', e', hb, _⟩ := hI.2 hn
  rw [e] at e'; cases e'; omega, hw⟩
theorem Bx.below (h : Bx L w F A n c f) (hb : Below w.heap.size w w') : Bx L w' F A n c f := ⟨h.blk.below hb h.lt, h.ints.ext hb, h.ap, h.lf⟩
theorem Bx.alloc (h : Bx L w F A n c f) (o : Obj) : Bx L (w.alloc o) F A n c f := h.below (balloc w o)
theorem Bx.drew (h : Bx L w F A n c f) : Bx L w.drew F A n c f := ⟨h.blk, h.ints, h.ap, h.lf⟩
theorem Bx.sto {g : Nat} (h : Bx L w F A n c f) (s : Sto g w w') (hg : F < g ∨ g < L) : Bx L w' F A n c f :=
 ⟨h.blk.sto s (by have := h.lf; omega), h.ints.sto s (fun b off o e => by have := h.ap b off o e; omega), h.ap, h.lf⟩
theorem Bx.cells (h : Bx L w F A n c f) : w.cell? ⟨F, 0, none⟩ = some (.slice A n c) ∧ w.cell? ⟨F, 1, none⟩ = some (.int .i64 f.per) ∧ w.cell? ⟨F, 2, none⟩ = some (.int .i64 f.inc) ∧ F < w.heap.size := by
 have q0 := h.blk.cell 0; have q1 := h.blk.cell 1; have q2 := h.blk.cell 2
 simp at q0 q1 q2
 exact ⟨q0, q1, q2, h.lt⟩
theorem Bx.set1 (h : Bx L w F A n c f) {g : Nat} (hg : F < g ∨ g < L) (i : Nat) (u : Value) : Bx L (w.setCell ⟨g, i, none⟩ u) F A n c f := h.sto ((Sto.refl g w).set i u) hg
end
theorem common2_any (p q : Int) (w : World) (hp1 : 1 ≤ p) (hp : p ≤ 1000) (hq1 : 1 ≤ q) (hq : q ≤ 1000) :
 Calls Tryz.prog 94 #[.int .i64 p, .int .i64 q] w fun e w' => e = .returned (.int .i64 (comm p.toNat q.toNat : Nat)) ∧ Below w.heap.size w w' := by
 obtain ⟨p, rfl⟩ := Int.eq_ofNat_of_zero_le (show 0 ≤ p by omega)
 obtain ⟨q, rfl⟩ := Int.eq_ofNat_of_zero_le (show 0 ≤ q by omega)
 simp only [Int.toNat_natCast]
 exact common_any p q w hp hq (by omega)
end
section
open Go.RowKit
section
variable {L F n c : Nat} {w w' : World} {A : Option Addr} {f : Cv}
end
end
section
open Go.RowKit
structure PS (w wx : World) (A : Option Addr) (n c : Nat) (p i : Int) (xs : List Int) (B : Option Addr) (m d : Nat) (q j : Int) (ys : List Int) : Prop where
 fb : Blk wx w.heap.size 26 #[.slice A n c, .int .i64 p, .int .i64 i]
 gb : Blk wx (w.heap.size + 1) 26 #[.slice B m d, .int .i64 q, .int .i64 j]
 ia : Ints wx wx.heap.size A n xs
 ib : Ints wx wx.heap.size B m ys
 bw : Below w.heap.size w wx
section
variable {w wx wy : World} {A B : Option Addr} {n c m d : Nat} {p i q j : Int} {xs ys : List Int}
theorem PS.new (hA : Ints w w.heap.size A n xs) (hB : Ints w w.heap.size B m ys) : PS w ((w.alloc (.cells #[.slice A n c, .int .i64 p, .int .i64 i] 26)).alloc (.cells #[.slice B m d, .int .i64 q, .int .i64 j] 26)) A n c p i xs B m d q j ys :=
 ⟨(Blk.new w 26 #[.slice A n c, .int .i64 p, .int .i64 i]).alloc _, by
   have := Blk.new (w.alloc (.cells #[.slice A n c, .int .i64 p, .int .i64 i] 26)) 26 #[.slice B m d, .int .i64 q, .int .i64 j]
   rwa [World.size_alloc] at this, (hA.alloc' _).alloc' _, (hB.alloc' _).alloc' _, bthen (balloc w _) (balloc _ _)⟩
theorem PS.below (h : PS w wx A n c p i xs B m d q j ys) (hb : Below wx.heap.size wx wy) : PS w wy A n c p i xs B m d q j ys :=
 ⟨h.fb.below hb h.fb.lt, h.gb.below hb h.gb.lt, h.ia.ext hb, h.ib.ext hb, bthen h.bw hb⟩
theorem PS.alloc (h : PS w wx A n c p i xs B m d q j ys) (o : Obj) : PS w (wx.alloc o) A n c p i xs B m d q j ys := h.below (balloc wx o)
theorem PS.cells (h : PS w wx A n c p i xs B m d q j ys) : wx.cell? ⟨w.heap.size, 0, none⟩ = some (.slice A n c) ∧ wx.cell? ⟨w.heap.size, 1, none⟩ = some (.int .i64 p) ∧ wx.cell? ⟨w.heap.size, 2, none⟩ = some (.int .i64 i) ∧
 wx.cell? ⟨w.heap.size + 1, 0, none⟩ = some (.slice B m d) ∧ wx.cell? ⟨w.heap.size + 1, 1, none⟩ = some (.int .i64 q) ∧ wx.cell? ⟨w.heap.size + 1, 2, none⟩ = some (.int .i64 j) ∧ w.heap.size < wx.heap.size ∧ w.heap.size + 1 < wx.heap.size := by
 have f0 := h.fb.cell 0; have f1 := h.fb.cell 1; have f2 := h.fb.cell 2; have g0 := h.gb.cell 0; have g1 := h.gb.cell 1; have g2 := h.gb.cell 2
 simp at f0 f1 f2 g0 g1 g2
 exact ⟨f0, f1, f2, g0, g1, g2, h.fb.lt, h.gb.lt⟩
end
def RetE (S : Int → Bool → Prop) (f g : Cv) (w : World) (e : Ending) (w' : World) : Prop :=
 ∃ t ok er, OrdS (S t ok) f g t ok er ∧ e = .returned (.tuple #[.int .i64 t, .bool ok, .int .i64 er]) ∧ Below w.heap.size w w'
def AtM (f g : Cv) (b : Bool) : Prop := (f.Ok ∧ g.Ok ∧ (b = true ↔ ∀ n, ¬ Up f g n)) ∨ (¬ (f.Ok ∧ g.Ok) ∧ b = false)
def RetM (f g : Cv) (w : World) (e : Ending) (w' : World) : Prop := ∃ b, AtM f g b ∧ e = .returned (.bool b) ∧ Below w.heap.size w w'
end
section
open Go.RowKit
theorem Ints.stoB {w w' : World} {g B n : Nat} {A : Option Addr} {zs : List Int} (H : Ints w B A n zs) (s : Sto g w w') (hg : B ≤ g) : Ints w' B A n zs :=
 H.keep fun p hp => World.cell?_of_block (s.block p.block (by omega))
structure PT (w wx : World) (A : Option Addr) (n c : Nat) (p i : Int) (xs : List Int) (B : Option Addr) (m d : Nat) (q j : Int) (ys : List Int) : Prop where
 fb : Blk wx w.heap.size 26 #[.slice A n c, .int .i64 p, .int .i64 i]
 gb : Blk wx (w.heap.size + 1) 26 #[.slice B m d, .int .i64 q, .int .i64 j]
 ja : Ints wx w.heap.size A n xs
 jb : Ints wx w.heap.size B m ys
 bw : Below w.heap.size w wx
section
variable {w wx wy : World} {A B : Option Addr} {n c m d g : Nat} {p i q j : Int} {xs ys : List Int}
theorem PT.new (hA : Ints w w.heap.size A n xs) (hB : Ints w w.heap.size B m ys) : PT w ((w.alloc (.cells #[.slice A n c, .int .i64 p, .int .i64 i] 26)).alloc (.cells #[.slice B m d, .int .i64 q, .int .i64 j] 26)) A n c p i xs B m d q j ys :=
 have h := PS.new (c := c) (p := p) (i := i) (d := d) (q := q) (j := j) hA hB
 ⟨h.fb, h.gb, (hA.alloc (Nat.le_refl _) _).alloc (by simp) _, (hB.alloc (Nat.le_refl _) _).alloc (by simp) _, h.bw⟩
theorem PT.ia (h : PT w wx A n c p i xs B m d q j ys) : Ints wx wx.heap.size A n xs := h.ja.more h.bw.size
theorem PT.ib (h : PT w wx A n c p i xs B m d q j ys) : Ints wx wx.heap.size B m ys := h.jb.more h.bw.size
theorem PT.below (h : PT w wx A n c p i xs B m d q j ys) (hb : Below wx.heap.size wx wy) : PT w wy A n c p i xs B m d q j ys :=
 ⟨h.fb.below hb h.fb.lt, h.gb.below hb h.gb.lt, h.ja.below (hb.mono h.bw.size), h.jb.below (hb.mono h.bw.size), bthen h.bw hb⟩
theorem PT.alloc (h : PT w wx A n c p i xs B m d q j ys) (o : Obj) : PT w (wx.alloc o) A n c p i xs B m d q j ys := h.below (balloc wx o)
theorem PT.sto (h : PT w wx A n c p i xs B m d q j ys) (s : Sto g wx wy) (hg : w.heap.size + 1 < g) : PT w wy A n c p i xs B m d q j ys :=
 ⟨h.fb.sto s (by omega), h.gb.sto s (by omega), h.ja.stoB s (by omega), h.jb.stoB s (by omega), bsto h.bw s (by omega)⟩
theorem PT.cells (h : PT w wx A n c p i xs B m d q j ys) : wx.cell? ⟨w.heap.size, 0, none⟩ = some (.slice A n c) ∧ wx.cell? ⟨w.heap.size, 1, none⟩ = some (.int .i64 p) ∧ wx.cell? ⟨w.heap.size, 2, none⟩ = some (.int .i64 i) ∧
 wx.cell? ⟨w.heap.size + 1, 0, none⟩ = some (.slice B m d) ∧ wx.cell? ⟨w.heap.size + 1, 1, none⟩ = some (.int .i64 q) ∧ wx.cell? ⟨w.heap.size + 1, 2, none⟩ = some (.int .i64 j) ∧ w.heap.size < wx.heap.size ∧ w.heap.size + 1 < wx.heap.size := by
 have f0 := h.fb.cell 0; have f1 := h.fb.cell 1; have f2 := h.fb.cell 2; have g0 := h.gb.cell 0; have g1 := h.gb.cell 1; have g2 := h.gb.cell 2
 simp at f0 f1 f2 g0 g1 g2
 exact ⟨f0, f1, f2, g0, g1, g2, h.fb.lt, h.gb.lt⟩
end
structure Bz (L : Nat) (w : World) (F : Nat) (A : Option Addr) (n c : Nat) (f : Cv) : Prop where
 blk : Blk w F 26 #[.slice A n c, .int .i64 f.per, .int .i64 f.inc]
 ints : Ints w w.heap.size A n f.vals
 lo : ∀ b off s, A = some ⟨b, off, s⟩ → L ≤ b
section
variable {L F n c g : Nat} {w w' : World} {A : Option Addr} {f : Cv}
theorem Bz.lt (h : Bz L w F A n c f) : F < w.heap.size := h.blk.lt
theorem Bz.below (h : Bz L w F A n c f) (hb : Below w.heap.size w w') : Bz L w' F A n c f := ⟨h.blk.below hb h.lt, h.ints.ext hb, h.lo⟩
theorem Bz.alloc (h : Bz L w F A n c f) (o : Obj) : Bz L (w.alloc o) F A n c f := h.below (balloc w o)
theorem Bz.drew (h : Bz L w F A n c f) : Bz L w.drew F A n c f := ⟨h.blk, h.ints, h.lo⟩
theorem Bz.sto (h : Bz L w F A n c f) (s : Sto g w w') (hg : F ≠ g) (hL : g < L) : Bz L w' F A n c f := ⟨h.blk.sto s hg, h.ints.sto s (fun b off o e => by have := h.lo b off o e; omega), h.lo⟩
theorem Bz.own (h : Bz L w F A n c f) (hL : F < L) : Bz L (((w.setCell ⟨F, 0, none⟩ (.slice A n c)).setCell ⟨F, 1, none⟩ (.int .i64 f.per)).setCell ⟨F, 2, none⟩ (.int .i64 f.inc)) F A n c f :=
 ⟨h.blk.store3 _ _ _, h.ints.sto (Sto.three F w _ _ _) (fun b off o e => by have := h.lo b off o e; omega), h.lo⟩
theorem Bz.put {x y z : Value} (hB : Blk w F 26 #[x, y, z]) (hI : Ints w w.heap.size A n f.vals) (hA : ∀ b off s, A = some ⟨b, off, s⟩ → L ≤ b) (hL : F < L) :
 Bz L (((w.setCell ⟨F, 0, none⟩ (.slice A n c)).setCell ⟨F, 1, none⟩ (.int .i64 f.per)).setCell ⟨F, 2, none⟩ (.int .i64 f.inc)) F A n c f :=
 ⟨hB.store3 _ _ _, hI.sto (Sto.three F w _ _ _) (fun b off o e => by have := hA b off o e; omega), hA⟩
theorem Bz.cells (h : Bz L w F A n c f) : w.cell? ⟨F, 0, none⟩ = some (.slice A n c) ∧ w.cell? ⟨F, 1, none⟩ = some (.int .i64 f.per) ∧ w.cell? ⟨F, 2, none⟩ = some (.int .i64 f.inc) ∧ F < w.heap.size := by
 have q := h.blk.c3
 exact ⟨q.1.1, q.1.2.1, q.1.2.2, q.2.2⟩
end
theorem at_near {a : Cv} (ha : a.Ok) {t : Nat} (ht : t ≤ 1000000000) : 0 ≤ a.at t ∧ (a.at t = inf ∨ a.at t ≤ 1152921504606846976) := by
 refine ⟨ha.up0.nn t, ?_⟩
 rcases ha.fin_or with h | h
 ·right
  have h1 := h.at_bd t
  have h2 : (t : Int) * 1073741824 ≤ 1000000000 * 1073741824 := Int.mul_le_mul_of_nonneg_right (by omega) (by omega)
  omega
 ·by_cases hi : a.at t = inf
  ·exact .inl hi
  ·right
   have hlt : t < a.vals.length := by
    rcases Nat.lt_or_ge t a.vals.length with h' | h'
    ·exact h'
    ·exact absurd (ha.at_inf h (by omega)) hi
   rw [Cv.at_lt hlt] at hi ⊢
   have := ((okv_iff _).1 (ha.v t hlt)).resolve_left hi
   omega
/-! ### both -/
def zc : Value := .agg #[.slice none 0 0, .int .i64 0, .int .i64 0]
def PairBad (f g : Cv) (er : Int) : Prop := (¬ (f.Ok ∧ g.Ok) ∧ er = 1) ∨ (f.Ok ∧ g.Ok ∧ er = 3 ∧ ∃ a b, NF f.at a ∧ NF g.at b ∧ 120 < comm a.per.toNat b.per.toNat)
theorem PairBad.ne {f g : Cv} {er : Int} (h : PairBad f g er) : (er != 0) = true := by rcases h with ⟨_, rfl⟩ | ⟨_, _, rfl, _⟩ <;> rfl
theorem PairBad.to {S : Cv → Cv → Cv → Int → Prop} {f g : Cv} {er : Int} (h : PairBad f g er) : PairS S f g Cv.none er := by
 rcases h with ⟨h, rfl⟩ | ⟨hf, hg, rfl, a, b, ha, hb, hc⟩
 ·exact .inl ⟨h, rfl, rfl⟩
 ·exact .inr ⟨hf, hg, a, b, ha, hb, .inl ⟨hc, rfl, rfl⟩⟩
theorem retS_none {S : Cv → Int → Prop} {w w1 : World} {er : Int} (hS : S Cv.none er) (bw : Below w.heap.size w w1) : RetS S w (.returned (.tuple #[zc, .int .i64 er])) w1 :=
 ⟨Cv.none, er, hS, none, 0, 0, rfl, Ints.none_, (fun b off s h => by cases h), bw⟩
theorem retS_store {S : Cv → Int → Prop} {f : Cv} {er : Int} {w w1 : World} {B g0 : Nat} {A : Option Addr} {n c : Nat} {x y z : Value} (hS : S f er) (hf : ∀ b off s, A = some ⟨b, off, s⟩ → B ≤ b) (h0 : w.heap.size ≤ g0) (hB : g0 < B) (hI : Ints w1 w1.heap.size A n f.vals) (bw : Below w.heap.size w w1) :
 RetS S w (.returned (.tuple #[.agg #[.slice A n c, .int .i64 f.per, .int .i64 f.inc], .int .i64 er])) (((w1.setCell ⟨g0, 0, none⟩ x).setCell ⟨g0, 1, none⟩ y).setCell ⟨g0, 2, none⟩ z) :=
 ⟨f, er, hS, retC_store3' hf h0 hB hI bw⟩
end
section
open Go.RowKit
structure SZ where
 lo : Int
 hi : Int
def SZ.cells (x : SZ) : List Value := [.int .i64 x.lo, .int .i64 x.hi]
def SZ.Good (x : SZ) : Prop := 0 ≤ x.lo ∧ x.lo ≤ x.hi ∧ x.hi ≤ 1500
structure RowZ (w : World) (b o : Nat) (zs : List SZ) : Prop where
 lt : b < w.heap.size
 cell : ∀ (k j : Nat) (x : SZ), zs[k]? = some x → j < 2 → w.cell? ⟨b, o + k * 2 + j, none⟩ = x.cells[j]?
section
variable {b o : Nat} {w w' : World} {zs : List SZ}
theorem RowZ.below (h : RowZ w b o zs) (hb : Below w.heap.size w w') : RowZ w' b o zs :=
 ⟨Nat.lt_of_lt_of_le h.lt hb.size, fun k j x hx hj => ((bcell hb).1 b _ h.lt).trans (h.cell k j x hx hj)⟩
theorem RowZ.get (h : RowZ w b o zs) {k : Nat} (hk : k < zs.length) : ∃ x, zs[k]? = some x ∧ w.cell? ⟨b, o + k * 2, none⟩ = some (.int .i64 x.lo) ∧ w.cell? ⟨b, o + k * 2 + 1, none⟩ = some (.int .i64 x.hi) := by
 have hx : zs[k]? = some zs[k] := List.getElem?_eq_getElem hk
 exact ⟨zs[k], hx, h.cell k 0 _ hx (by omega), h.cell k 1 _ hx (by omega)⟩
theorem RowZ.drop (h : RowZ w b o zs) (m : Nat) : RowZ w b (o + m * 2) (zs.drop m) :=
 ⟨h.lt, fun k j x hx hj => by
  rw [List.getElem?_drop] at hx
  have := h.cell (m + k) j x hx hj
  rwa [show o + (m + k) * 2 + j = o + m * 2 + k * 2 + j by omega] at this⟩
end
def LsZ (w : World) (A : Option Addr) (n c : Nat) (zs : List SZ) : Prop := zs.length = n ∧ n ≤ c ∧ n ≤ 100 ∧ (0 < n → ∃ g o, A = some ⟨g, o, none⟩ ∧ RowZ w g o zs)
theorem LsZ.below {w w' : World} {A : Option Addr} {n c : Nat} {zs : List SZ} (h : LsZ w A n c zs) (hb : Below w.heap.size w w') : LsZ w' A n c zs :=
 ⟨h.1, h.2.1, h.2.2.1, fun h0 => by
  obtain ⟨g, o, e, hr⟩ := h.2.2.2 h0
  exact ⟨g, o, e, hr.below hb⟩⟩
set_option maxHeartbeats 1000000 in
theorem sright_any (A : Option Addr) (n c : Nat) (zs : List SZ) (w : World) (h : LsZ w A n c zs) (hg : ∀ x ∈ zs, x.Good) :
 Calls Tryz.prog 127 #[.slice A n c] w fun e w' => e = .returned (.bool true) ∧ Below w.heap.size w w' := by
 have HZ := hi_ h; have HG := hi_ hg
 have hn := h.2.2.1
 clear h hg
 go_enter Tryz.func127, Tryz.ntmps127
 go_wp2_with fail
 go_loopg [7] n (fun gg s7 wx => ∃ k : Nat, k + gg = n ∧ s7 = .int .i64 k ∧ Below w.heap.size w wx)
 case atStart => exact ⟨0, by omega, rfl, Below.refl _ _⟩
 case round =>
  obtain ⟨k, hkg, rfl, hB⟩ := hrel
  have BW := hi_ hB
  clear hB
  by_cases hk : k < n
  case pos =>
   have hki : (k : Int) < n := by omega
   obtain ⟨g, o, hA, hr⟩ := HZ.out.2.2.2 (by omega)
   subst hA
   have HR := hr.below BW.out
   obtain ⟨x, hx, x0, x1⟩ := HR.get (k := k) (by rw [HZ.out.1]; exact hk)
   have hgl := HR.lt
   obtain ⟨g1, g2, g3⟩ := HG.out x (List.mem_of_getElem? hx)
   have d1 : decide (x.lo < 0) = false := by simp; omega
   have d2 : decide (x.hi < x.lo) = false := by simp; omega
   have d3 : decide ((1500 : Int) < x.hi) = false := by simp; omega
   clear HR hr hx
   have BW2 := hi_ (bthen BW.out (balloc wr (.cells #[.int .i64 x.lo, .int .i64 x.hi] 67)))
   go_upto_region 4 with fail
   generalize hwe : wr.alloc (.cells #[.int .i64 x.lo, .int .i64 x.hi] 67) = we at *
   have q := (Blk.new wr 67 #[.int .i64 x.lo, .int .i64 x.hi])
   rw [hwe] at q
   have q0 := q.cell 0; have q1 := q.cell 1
   simp at q0 q1
   have hl := q.lt
   clear hwe q x0 x1 hgl
   go_wp2_with fail
   go_roundg (gk - 1)
   case measure => omega
   case rel => exact ⟨k + 1, by omega, by go_num, BW2.out⟩
  case neg =>
   have hki : ¬ (k : Int) < n := by omega
   go_wp2_with fail
   go_ret
   exact ⟨rfl, BW.out⟩
theorem pcheck_any (cap cl : Int) (A : Option Addr) (n c : Nat) (zs : List SZ) (w : World) (h : LsZ w A n c zs) (hg : ∀ x ∈ zs, x.Good) (h1 : 1 ≤ cap) (h2 : cap ≤ 4000) (h3 : 1 ≤ n) (h4 : n ≤ 6) (h5 : 0 ≤ cl) (h6 : cl < n) :
 Calls Tryz.prog 108 #[.int .i64 cap, .int .i64 cl, .slice A n c] w fun e w' => e = .returned (.int .i64 0) ∧ Below w.heap.size w w' := by
 have HZ := hi_ h; have HG := hi_ hg
 clear h hg
 go_enter Tryz.func108, Tryz.ntmps108
 have d1 : decide (cap < 1) = false := by simp; omega
 have d2 : decide ((4000 : Int) < cap) = false := by simp; omega
 have d3 : decide ((n : Int) < 1) = false := by simp; omega
 have d4 : decide ((6 : Int) < n) = false := by simp; omega
 have d5 : decide (cl < 0) = false := by simp; omega
 have d6 : decide ((n : Int) ≤ cl) = false := by simp; omega
 have d7 : decide (6 < n) = false := by simp; omega
 have d8 : decide (n < 1) = false := by simp; omega
 have d9 : ¬ n = 0 := by omega
 go_wp2_with fail
 refine (sright_any A n c zs _ HZ.out HG.out).mono ?_
 rintro e w1 ⟨rfl, hb⟩
 go_wp2_with fail
 go_ret
 exact ⟨rfl, hb⟩
end
section
open Go.RowKit
theorem own_zeros2 {w : World} {g n : Nat} (h : w.ownsRow g 3 1 (.slice (some ⟨g, 0, none⟩) n n) n (madeCells (Value.int .i64 0).cells (n * 1)).toList) : RowI w g (List.replicate n 0) := by
 have e : (madeCells (Value.int .i64 0).cells (n * 1)).toList = (List.replicate n 0).map (Value.int .i64) := by simp [madeCells, Value.cells, Nat.mod_one, List.eq_replicate_iff]
 rw [e] at h
 exact Own.row0 (xs := List.replicate n 0) h
def RetTab (h : Nat → Int) (N : Nat) (w : World) (e : Ending) (w' : World) : Prop :=
 ∃ g, e = .returned (.slice (some ⟨g, 0, none⟩) N N) ∧ RowI w' g (tab h 0 N) ∧ w.heap.size ≤ g ∧ Below w.heap.size w w'
def UpTo (h : Nat → Int) (zs : List Int) (N i : Nat) : Prop := zs.length = N ∧ ∀ x, x < i → nth zs x = h x
theorem UpTo.step {h : Nat → Int} {zs : List Int} {N i : Nat} (H : UpTo h zs N i) (hi : i < N) : UpTo h (zs.set i (h i)) N (i + 1) :=
 ⟨by rw [List.length_set]; exact H.1, fun x hx => by
  rw [nth_set _ _ _ _ (by rw [H.1]; exact hi)]
  split
  ·rename_i e; rw [e]
  ·exact H.2 x (by omega)⟩
theorem UpTo.done {h : Nat → Int} {zs : List Int} {N : Nat} (H : UpTo h zs N N) : zs = tab h 0 N := eq_tab H.1 (fun j hj => by rw [Nat.zero_add]; exact H.2 j hj)
set_option maxHeartbeats 1000000 in
theorem table_any (A : Option Addr) (n c : Nat) (p i : Int) (N : Nat) (zs : List Int) (w : World) (hA : Ints w w.heap.size A n zs) (hf : Cv.Ok ⟨zs, p, i⟩) (hN : N ≤ 3000) :
 Calls Tryz.prog 42 #[.agg #[.slice A n c, .int .i64 p, .int .i64 i], .int .i64 N] w (RetTab (Cv.at ⟨zs, p, i⟩) N w) := by
 have f1' := hf.n1; have f2' := hf.n2; have f3 := hf.p1; have f4 := hf.p2; have f5 := hf.pn; have f6 := hf.i1; have f7 := hf.i2
 have hlm : zs.length = n := hA.1
 simp only at f1' f2' f3 f4 f5 f6 f7
 rw [hlm] at f1' f2' f5
 obtain ⟨i0, hi0, hz0, hy1, hy2⟩ := info_parts info_int
 have E := hi_ (L1.new (c := c) (p := p) (i := i) hA)
 have HF := hi_ hf
 clear hA hf
 go_enter Tryz.func42, Tryz.ntmps42
 go_upto_region 1 with fail
 generalize hwe : w.alloc (.cells #[.slice A n c, .int .i64 p, .int .i64 i] 26) = we at *
 clear hwe
 go_wp2_with (at_make; refine wpList_make_full _ rfl _ _ 22 rfl we.heap.size 3 i0 _ 1 Tryz.underlying22 hi0 hz0 hy1 .i64 .i64 _ _ N rfl rfl rfl rfl (by rw [hy2]; omega) (by unfold maxLen; omega) (by simp) ?_; intro w3 own1 grow1)
 have hb3 : Below we.heap.size we w3 := (Below.refl _ _).grown grow1 (by simp) (by simp)
 have SM := hi_ (own_zeros2 own1)
 have hsz := E.out.bw.size
 have hfs := E.out.fb.lt
 have E := hi_ (E.out.below hb3)
 clear hi0 hz0 hy1 hy2 own1 grow1 hb3
 generalize we.heap.size = g at *
 go_loopg [6, 11] N (fun gg s6 s11 wx => ∃ (k : Nat) (vs : List Int), k + gg = N ∧ s11 = .int .i64 k ∧ UpTo (Cv.at ⟨zs, p, i⟩) vs N k ∧ RowI wx g vs ∧ L1 w wx A n c p i zs)
 case atStart => exact ⟨0, List.replicate N 0, by omega, rfl, ⟨by simp, fun x hx => by omega⟩, SM.out, E.out⟩
 case round =>
  clear SM E
  obtain ⟨k, vs, hkg, rfl, hu, hR, hE⟩ := hrel
  have SM := hi_ hR; have E := hi_ hE; have HU := hi_ hu
  clear hR hE hu
  by_cases hk : k < N
  ·have hki : (k : Int) < N := by omega
   obtain ⟨f0, f1, f2, hlf⟩ := E.out.cells
   go_wp2_with fail
   refine (at_any A n c p i (k : Int) zs _ (by exact E.out.ints) (by omega) (by omega) (by omega) (by omega) (by omega) HF.out.nn (by omega) (by omega)).mono ?_
   rw [Int.toNat_natCast]
   obtain ⟨v, hv⟩ : ∃ v, v = Cv.at ⟨zs, p, i⟩ k := ⟨_, rfl⟩
   rw [← hv]
   have F := hi_ (HU.out.step hk)
   rw [← hv] at F
   rintro e wq ⟨rfl, hb⟩
   have hgl := SM.out.lt
   have E := hi_ (E.out.below hb); have SM := hi_ (SM.out.below hb hgl)
   clear hb f0 f1 f2 hlf hv
   have q0 := SM.out.cell k (by rw [HU.out.1]; exact hk)
   have z0 := SM.out.frozen k
   have hlt := SM.out.lt
   go_wp2_with fail
   go_roundg (gk - 1)
   case measure => omega
   case rel => exact ⟨k + 1, _, by omega, by go_num, F.out, SM.out.set_ k (by rw [HU.out.1]; exact hk) v,
    ⟨E.out.fb.far (by show w.heap.size ≠ g; omega) _, E.out.ib.keep (fun q hq => World.cell?_setCell_other _ _ _ _ (fun e => by subst e; simp at hq; omega)), E.out.bw.setCell (by show w.heap.size ≤ g; omega) _⟩⟩
  ·have hkN : k = N := by omega
   subst hkN
   have F := HU.out.done
   have hr := SM.out
   rw [F] at hr
   have bw := E.out.bw
   go_wp2_with fail
   go_ret
   exact ⟨g, rfl, hr, by omega, bw⟩
end
section
open Go.RowKit
theorem pgain_any (A : Option Addr) (n c : Nat) (p i t : Int) (w : World) (hp : 1 ≤ p) (hi : 0 ≤ i) (hi2 : i ≤ 1073741824) (ht : 0 ≤ t) (ht2 : t ≤ 1000000) :
 Calls Tryz.prog 142 #[.agg #[.slice A n c, .int .i64 p, .int .i64 i], .int .i64 t] w fun e w' => e = .returned (.int .i64 ((t.toNat / p.toNat : Nat) * i)) ∧ Below w.heap.size w w' := by
 obtain ⟨p, rfl⟩ := Int.eq_ofNat_of_zero_le (show 0 ≤ p by omega)
 obtain ⟨t, rfl⟩ := Int.eq_ofNat_of_zero_le ht
 simp only [Int.toNat_natCast]
 obtain ⟨u, hu⟩ : ∃ u, u = t / p := ⟨_, rfl⟩
 have hut : u ≤ t := by rw [hu]; exact Nat.div_le_self _ _
 have e1 : ((t : Int).tdiv (p : Int)) = (u : Int) := by rw [hu]; rfl
 have e1' : ((t : Int) / (p : Int)) = (u : Int) := by rw [hu]; rfl
 have hui : (u : Int) * i ≤ 1000000 * 1073741824 := Int.mul_le_mul (by omega) hi2 hi (by omega)
 have hui0 : 0 ≤ (u : Int) * i := Int.mul_nonneg (by omega) hi
 have e2 : IntKind.i64.wrap ((u : Int) * i) = (u : Int) * i := IntWalk.i64_in _ (by omega)
 have hpn : (p : Int) ≠ 0 := by omega
 have hpn2 : p ≠ 0 := by omega
 have q1 := (Blk.new w 26 #[.slice A n c, .int .i64 p, .int .i64 i]).cell 1
 have q2 := (Blk.new w 26 #[.slice A n c, .int .i64 p, .int .i64 i]).cell 2
 simp at q1 q2
 rw [← hu]
 have HU := hi_ hu
 clear hu
 go_enter Tryz.func142, Tryz.ntmps142
 go_wp2_with fail
 go_quiet (fail)
 go_wp2_with fail
 go_ret
 exact ⟨rfl, bdrewN (balloc w _)⟩
def RetPb (f g : Cv) (w : World) (e : Ending) (w' : World) : Prop :=
 (∃ er, PairBad f g er ∧ e = .returned (.tuple #[zc, zc, .int .i64 0, .int .i64 er]) ∧ Below w.heap.size w w') ∨
 (f.Ok ∧ g.Ok ∧ ∃ (a b : Cv) (A : Option Addr) (n c : Nat) (B : Option Addr) (m d : Nat), NF f.at a ∧ NF g.at b ∧ a.Ok ∧ b.Ok ∧ ordC a b ≤ 120 ∧
  e = .returned (.tuple #[.agg #[.slice A n c, .int .i64 a.per, .int .i64 a.inc], .agg #[.slice B m d, .int .i64 b.per, .int .i64 b.inc], .int .i64 (ordC a b : Nat), .int .i64 0]) ∧
  Ints w' w'.heap.size A n a.vals ∧ Ints w' w'.heap.size B m b.vals ∧ (∀ b off s, A = some ⟨b, off, s⟩ → w.heap.size ≤ b) ∧ (∀ b off s, B = some ⟨b, off, s⟩ → w.heap.size ≤ b) ∧ Below w.heap.size w w')
set_option maxHeartbeats 2000000 in
set_option maxRecDepth 100000 in
theorem pboth_any (A B : Option Addr) (n m c d : Nat) (p i q j : Int) (xs ys : List Int) (w : World) (hA : Ints w w.heap.size A n xs) (hB : Ints w w.heap.size B m ys) (hn : (n : Int) ≤ 1000000) (hm : (m : Int) ≤ 1000000) :
 Calls Tryz.prog 140 #[.agg #[.slice A n c, .int .i64 p, .int .i64 i], .agg #[.slice B m d, .int .i64 q, .int .i64 j]] w (RetPb ⟨xs, p, i⟩ ⟨ys, q, j⟩ w) := by
 have P := hi_ (((PT.new (c := c) (p := p) (i := i) (d := d) (q := q) (j := j) hA hB).alloc (.cells #[.slice none 0 0, .int .i64 0, .int .i64 0] 26)).alloc (.cells #[.slice none 0 0, .int .i64 0, .int .i64 0] 26))
 have ra := (Blk.new ((w.alloc (.cells #[.slice A n c, .int .i64 p, .int .i64 i] 26)).alloc (.cells #[.slice B m d, .int .i64 q, .int .i64 j] 26)) 26 #[.slice none 0 0, .int .i64 0, .int .i64 0]).alloc (.cells #[.slice none 0 0, .int .i64 0, .int .i64 0] 26)
 have rb := Blk.new (((w.alloc (.cells #[.slice A n c, .int .i64 p, .int .i64 i] 26)).alloc (.cells #[.slice B m d, .int .i64 q, .int .i64 j] 26)).alloc (.cells #[.slice none 0 0, .int .i64 0, .int .i64 0] 26)) 26 #[.slice none 0 0, .int .i64 0, .int .i64 0]
 rw [World.size_alloc, World.size_alloc] at ra
 rw [World.size_alloc, World.size_alloc, World.size_alloc] at rb
 have RA := hi_ ra; have RB := hi_ rb
 clear hA hB ra rb
 go_enter Tryz.func140, Tryz.ntmps140
 go_wp2_with fail
 refine (normal_any A n c p i xs _ P.out.ia hn).mono ?_
 rintro e w1 ⟨a, er, hN, A1, n1, c1, rfl, hI1, hA1, hb1⟩
 simp only [World.size_alloc] at hA1
 have HN := hi_ (NormR.of hN)
 have P := hi_ (P.out.below hb1)
 have RA := hi_ (RA.out.below hb1 RA.out.lt); have RB := hi_ (RB.out.below hb1 RB.out.lt)
 have HI1 := hi_ hI1; have HA1 := hi_ hA1
 clear hN hI1 hb1 hA1
 obtain ⟨⟨r0, r1, r2⟩, ⟨y0, y1, y2⟩, hlr⟩ := RA.out.c3
 obtain ⟨⟨s0, s1, s2⟩, ⟨z0, z1, z2⟩, hls⟩ := RB.out.c3
 obtain ⟨f0, f1, f2, g0, g1, g2, hlf, hlg⟩ := P.out.cells
 go_upto_region 2 with fail
 clear r0 r1 r2 y0 y1 y2 hlr s0 s1 s2 z0 z1 z2 hls
 clear f0 f1 f2 g0 g1 g2 hlf hlg
 have FA := hi_ (Bz.put (c := c1) RA.out HI1.out HA1.out (by omega))
 have st := Sto.three (w.heap.size + 1 + 1) w1 (.slice A1 n1 c1) (.int .i64 a.per) (.int .i64 a.inc)
 have P := hi_ (P.out.sto st (by omega)); have RB := hi_ (RB.out.sto st (by omega))
 clear st HI1 HA1 RA
 generalize hwe : ((w1.setCell ⟨w.heap.size + 1 + 1, 0, none⟩ (.slice A1 n1 c1)).setCell ⟨w.heap.size + 1 + 1, 1, none⟩ (.int .i64 a.per)).setCell ⟨w.heap.size + 1 + 1, 2, none⟩ (.int .i64 a.inc) = we at *
 clear hwe
 rcases HN.out with ⟨hfo, hnf, hao, rfl⟩ | ⟨hno, rfl, rfl⟩
 ·have hap := hao.p1; have hap2 := hao.p2; have hai := hao.i1; have hai2 := hao.i2
  have HNF := hi_ hnf; have HFO := hi_ hfo; have HAO := hi_ hao
  clear hnf hfo hao HN
  obtain ⟨f0, f1, f2, g0, g1, g2, hlf, hlg⟩ := P.out.cells
  go_wp2_with fail
  refine (normal_any B m d q j ys _ P.out.ib hm).mono ?_
  rintro e w2 ⟨b, er, hN, A2, n2, c2, rfl, hI2, hA2, hb2⟩
  have hA2' : ∀ b off s, A2 = some ⟨b, off, s⟩ → w.heap.size + 1 + 1 + 1 + 1 ≤ b := fun b off s e => by have := hA2 b off s e; have := RB.out.lt; omega
  have HN := hi_ (NormR.of hN)
  have RB := hi_ (RB.out.below hb2 RB.out.lt)
  have FA := hi_ (FA.out.below hb2)
  have BW := hi_ (bthen P.out.bw hb2)
  have HI2 := hi_ hI2; have HA2 := hi_ hA2'
  clear hN hI2 hb2 hA2 hA2' P f0 f1 f2 g0 g1 g2 hlf hlg
  obtain ⟨⟨s0, s1, s2⟩, ⟨z0, z1, z2⟩, hls⟩ := RB.out.c3
  go_upto_region 5 with fail
  clear s0 s1 s2 z0 z1 z2 hls
  have FB := hi_ (Bz.put (c := c2) RB.out HI2.out HA2.out (by omega))
  have FA := hi_ (FA.out.sto (Sto.three (w.heap.size + 1 + 1 + 1) w2 (.slice A2 n2 c2) (.int .i64 b.per) (.int .i64 b.inc)) (by omega) (by omega))
  have BW := hi_ (bst3 (g := w.heap.size + 1 + 1 + 1) BW.out (by omega) (.slice A2 n2 c2) (.int .i64 b.per) (.int .i64 b.inc))
  clear HI2 HA2 RB
  generalize hwe : ((w2.setCell ⟨w.heap.size + 1 + 1 + 1, 0, none⟩ (.slice A2 n2 c2)).setCell ⟨w.heap.size + 1 + 1 + 1, 1, none⟩ (.int .i64 b.per)).setCell ⟨w.heap.size + 1 + 1 + 1, 2, none⟩ (.int .i64 b.inc) = wf at *
  clear hwe
  rcases HN.out with ⟨hgo, hnf, hbo, rfl⟩ | ⟨hno, rfl, rfl⟩
  ·have hbp := hbo.p1; have hbp2 := hbo.p2; have hbi := hbo.i1; have hbi2 := hbo.i2
   have HNG := hi_ hnf; have HGO := hi_ hgo; have HBO := hi_ hbo
   clear hnf hgo hbo HN
   obtain ⟨a0, a1, a2, hla⟩ := FA.out.cells
   obtain ⟨b0, b1, b2, hlb⟩ := FB.out.cells
   go_wp2_with fail
   refine (common2_any a.per b.per _ (by omega) (by omega) (by omega) (by omega)).mono ?_
   obtain ⟨C, hC⟩ : ∃ C, C = comm a.per.toNat b.per.toNat := ⟨_, rfl⟩
   rw [← hC]
   rintro e w3 ⟨rfl, hbq⟩
   have HC := hi_ hC
   have FA := hi_ (FA.out.below hbq); have FB := hi_ (FB.out.below hbq); have BW := hi_ (bthen BW.out hbq)
   clear hbq hC a0 a1 a2 hla b0 b1 b2 hlb
   by_cases hcc : 120 < C
   ·have F := hi_ (show PairBad ⟨xs, p, i⟩ ⟨ys, q, j⟩ 3 from .inr ⟨HFO.out, HGO.out, rfl, a, b, HNF.out, HNG.out, by rw [← HC.out]; exact hcc⟩)
    have hci : (120 : Int) < (C : Int) := by omega
    have RA := hi_ FA.out.blk; have RB := hi_ FB.out.blk
    clear hcc FA FB
    obtain ⟨⟨r0, r1, r2⟩, ⟨y0, y1, y2⟩, hlr⟩ := RA.out.c3
    obtain ⟨⟨s0, s1, s2⟩, ⟨z0, z1, z2⟩, hls⟩ := RB.out.c3
    go_wp2_with fail
    have ra := (RA.out.store3 (.slice none 0 0) (.int .i64 0) (.int .i64 0)).sto (Sto.three (w.heap.size + 1 + 1 + 1) _ (.slice none 0 0) (.int .i64 0) (.int .i64 0)) (by omega)
    have rb := (RB.out.sto (Sto.three (w.heap.size + 1 + 1) _ (.slice none 0 0) (.int .i64 0) (.int .i64 0)) (by omega)).store3 (.slice none 0 0) (.int .i64 0) (.int .i64 0)
    exact bodyPost_ret (v := .tuple #[zc, zc, .int .i64 0, .int .i64 3]) (by simp [results, Tryz.results140, go_sem, ra.cell, rb.cell, zc]) rfl (.inl ⟨_, F.out, rfl, bst3 (bst3 BW.out (by omega) _ _ _) (by omega) _ _ _⟩)
   ·have hci : ¬ (120 : Int) < (C : Int) := by omega
    have RA := hi_ FA.out.blk; have RB := hi_ FB.out.blk
    have sa := (RA.out.store3 (.slice A1 n1 c1) (.int .i64 a.per) (.int .i64 a.inc)).c3.1
    have stA := Sto.three (w.heap.size + 1 + 1) w3 (.slice A1 n1 c1) (.int .i64 a.per) (.int .i64 a.inc)
    have rb := RB.out.sto stA (by omega)
    have sb := (rb.store3 (.slice A2 n2 c2) (.int .i64 b.per) (.int .i64 b.inc)).c3.1
    have hne1 : w.heap.size + 1 + 1 ≠ w.heap.size + 1 + 1 + 1 := by omega
    have hne2 : w.heap.size + 1 + 1 + 1 ≠ w.heap.size + 1 + 1 := by omega
    have fa := (FA.out.own (by omega)).sto (Sto.three (w.heap.size + 1 + 1 + 1) _ (.slice A2 n2 c2) (.int .i64 b.per) (.int .i64 b.inc)) (by omega) (by omega)
    have fb := (FB.out.sto stA (by omega) (by omega)).own (by omega)
    have bw := bst3 (bst3 (g := w.heap.size + 1 + 1) BW.out (by omega) (.slice A1 n1 c1) (.int .i64 a.per) (.int .i64 a.inc)) (g := w.heap.size + 1 + 1 + 1) (by omega) (.slice A2 n2 c2) (.int .i64 b.per) (.int .i64 b.inc)
    have SA := hi_ sa; have SB := hi_ sb; have FA := hi_ fa; have FB := hi_ fb; have BW := hi_ bw
    have F := hi_ (show ordC a b ≤ 120 ∧ C = ordC a b from ⟨by show comm _ _ ≤ 120; rw [← HC.out]; omega, HC.out⟩)
    clear hcc sa sb fa fb bw stA rb
    obtain ⟨⟨r0, r1, r2⟩, ⟨y0, y1, y2⟩, hlr⟩ := RA.out.c3
    obtain ⟨⟨s0, s1, s2⟩, ⟨z0, z1, z2⟩, hls⟩ := RB.out.c3
    go_upto_region 10 with fail
    go_region
    all_goals
     go_wp2_with fail
     exact bodyPost_ret (v := .tuple #[.agg #[.slice A1 n1 c1, .int .i64 a.per, .int .i64 a.inc], .agg #[.slice A2 n2 c2, .int .i64 b.per, .int .i64 b.inc], .int .i64 (C : Nat), .int .i64 0]) (by simp [results, Tryz.results140, go_sem, FA.out.blk.drew.cell, FB.out.blk.drew.cell]) rfl
      (.inr ⟨HFO.out, HGO.out, a, b, A1, n1, c1, A2, n2, c2, HNF.out, HNG.out, HAO.out, HBO.out, F.out.1, by rw [F.out.2], FA.out.drew.ints, FB.out.drew.ints, fun b' off s e => by have := FA.out.lo b' off s e; omega, fun b' off s e => by have := FB.out.lo b' off s e; omega, Below.drew BW.out⟩)
  ·have F := hi_ (show PairBad ⟨xs, p, i⟩ ⟨ys, q, j⟩ 1 from .inl ⟨fun h => hno h.2, rfl⟩)
   have RA := hi_ FA.out.blk; have RB := hi_ FB.out.blk
   clear hno HN FA FB
   obtain ⟨⟨r0, r1, r2⟩, ⟨y0, y1, y2⟩, hlr⟩ := RA.out.c3
   obtain ⟨⟨s0, s1, s2⟩, ⟨z0, z1, z2⟩, hls⟩ := RB.out.c3
   go_wp2_with fail
   have ra := (RA.out.store3 (.slice none 0 0) (.int .i64 0) (.int .i64 0)).sto (Sto.three (w.heap.size + 1 + 1 + 1) _ (.slice none 0 0) (.int .i64 0) (.int .i64 0)) (by omega)
   have rb := (RB.out.sto (Sto.three (w.heap.size + 1 + 1) _ (.slice none 0 0) (.int .i64 0) (.int .i64 0)) (by omega)).store3 (.slice none 0 0) (.int .i64 0) (.int .i64 0)
   exact bodyPost_ret (v := .tuple #[zc, zc, .int .i64 0, .int .i64 1]) (by simp [results, Tryz.results140, go_sem, ra.cell, rb.cell, zc]) rfl (.inl ⟨_, F.out, rfl, bst3 (bst3 BW.out (by omega) _ _ _) (by omega) _ _ _⟩)
 ·have F := hi_ (show PairBad ⟨xs, p, i⟩ ⟨ys, q, j⟩ 1 from .inl ⟨fun h => hno h.1, rfl⟩)
  have BW := hi_ P.out.bw
  have RA := hi_ FA.out.blk
  clear hno HN FA P
  obtain ⟨⟨r0, r1, r2⟩, ⟨y0, y1, y2⟩, hlr⟩ := RA.out.c3
  obtain ⟨⟨s0, s1, s2⟩, ⟨z0, z1, z2⟩, hls⟩ := RB.out.c3
  go_wp2_with fail
  have ra := (RA.out.store3 (.slice none 0 0) (.int .i64 0) (.int .i64 0)).sto (Sto.three (w.heap.size + 1 + 1 + 1) _ (.slice none 0 0) (.int .i64 0) (.int .i64 0)) (by omega)
  have rb := (RB.out.sto (Sto.three (w.heap.size + 1 + 1) _ (.slice none 0 0) (.int .i64 0) (.int .i64 0)) (by omega)).store3 (.slice none 0 0) (.int .i64 0) (.int .i64 0)
  exact bodyPost_ret (v := .tuple #[zc, zc, .int .i64 0, .int .i64 1]) (by simp [results, Tryz.results140, go_sem, ra.cell, rb.cell, zc]) rfl (.inl ⟨_, F.out, rfl, bst3 (bst3 BW.out (by omega) _ _ _) (by omega) _ _ _⟩)
end
section
open Go.RowKit
/-! ### one -/
def OneN (lo hi : Int) (f : Cv) (n : Int) (a : Cv) (er : Int) : Prop :=
 (¬ f.Ok ∧ a = Cv.none ∧ er = 1) ∨ (f.Ok ∧ (n < lo ∨ hi < n) ∧ a = Cv.none ∧ er = 2) ∨ (f.Ok ∧ lo ≤ n ∧ n ≤ hi ∧ NF f.at a ∧ a.Ok ∧ er = 0)
set_option maxHeartbeats 1000000 in
theorem one_any (A : Option Addr) (n c : Nat) (p i t lo hi : Int) (zs : List Int) (w : World) (hA : Ints w w.heap.size A n zs) (hn : (n : Int) ≤ 1000000) :
 Calls Tryz.prog 184 #[.agg #[.slice A n c, .int .i64 p, .int .i64 i], .int .i64 t, .int .i64 lo, .int .i64 hi] w (RetS (OneN lo hi ⟨zs, p, i⟩ t) w) := by
 have E := hi_ ((L1.new (c := c) (p := p) (i := i) hA).alloc (.cells #[.slice none 0 0, .int .i64 0, .int .i64 0] 26))
 have rb := Blk.new (w.alloc (.cells #[.slice A n c, .int .i64 p, .int .i64 i] 26)) 26 #[.slice none 0 0, .int .i64 0, .int .i64 0]
 rw [World.size_alloc] at rb
 have RB := hi_ rb
 clear hA rb
 go_enter Tryz.func184, Tryz.ntmps184
 go_wp2_with fail
 refine (normal_any A n c p i zs _ E.out.ints hn).mono ?_
 rintro e w1 ⟨a, er, hN, A1, n1, c1, rfl, hI1, hA1, hb⟩
 simp only [World.size_alloc] at hA1
 have HN := hi_ (NormR.of hN)
 have RB := hi_ (RB.out.below hb RB.out.lt)
 have BW := hi_ (bthen E.out.bw hb)
 have FA := hi_ (Bz.mk (L := w.heap.size + 1 + 1) (Blk.new w1 26 #[.slice A1 n1 c1, .int .i64 a.per, .int .i64 a.inc]) (hI1.alloc' _) hA1)
 have hs1 : w.heap.size + 1 < w1.heap.size := RB.out.lt
 have RB := hi_ (RB.out.alloc (.cells #[.slice A1 n1 c1, .int .i64 a.per, .int .i64 a.inc] 26))
 have BW := hi_ (bthen BW.out (balloc _ (.cells #[.slice A1 n1 c1, .int .i64 a.per, .int .i64 a.inc] 26)))
 clear hN hI1 hA1 hb E
 go_upto_region 2 with fail
 generalize hwz : w1.alloc (.cells #[.slice A1 n1 c1, .int .i64 a.per, .int .i64 a.inc] 26) = wz at *
 clear hwz
 generalize hW1 : w1.heap.size = F1 at *
 clear hW1
 obtain ⟨⟨r0, r1, r2⟩, ⟨y0, y1, y2⟩, hlr⟩ := RB.out.c3
 obtain ⟨a0, a1, a2, hla⟩ := FA.out.cells
 rcases HN.out with ⟨hfo, hnf, hao, rfl⟩ | ⟨hno, rfl, rfl⟩
 ·by_cases hr : t < lo ∨ hi < t
  ·have F := hi_ (show OneN lo hi ⟨zs, p, i⟩ t Cv.none 2 from .inr (.inl ⟨hfo, hr, rfl, rfl⟩))
   clear HN hfo hnf hao
   have hr2 : t < lo ∨ (¬ t < lo ∧ hi < t) := by omega
   clear hr
   rcases hr2 with hr | ⟨hr0, hr⟩
   all_goals
    go_wp2_with fail
    have rb := RB.out.store3 (.slice none 0 0) (.int .i64 0) (.int .i64 0)
    refine bodyPost_ret (v := .tuple #[.agg #[(.slice none 0 0), .int .i64 0, .int .i64 0], .int .i64 2]) (by simp [results, Tryz.results184, go_sem, rb.cell]) rfl ?_
    exact ⟨_, _, F.out, none, 0, 0, rfl, Ints.none_, (fun b off s h => by cases h), bst3 BW.out (by omega) _ _ _⟩
  ·have F := hi_ (show OneN lo hi ⟨zs, p, i⟩ t a 0 from .inr (.inr ⟨hfo, by omega, by omega, hnf, hao, rfl⟩))
   have g1 : ¬ t < lo := by omega
   have g2 : ¬ hi < t := by omega
   clear HN hfo hnf hao hr
   go_wp2_with fail
   have rb := RB.out.store3 (.slice A1 n1 c1) (.int .i64 a.per) (.int .i64 a.inc)
   refine bodyPost_ret (v := .tuple #[.agg #[(.slice A1 n1 c1), .int .i64 a.per, .int .i64 a.inc], .int .i64 0]) (by simp [results, Tryz.results184, go_sem, rb.cell]) rfl ?_
   exact ⟨_, _, F.out, A1, n1, c1, rfl, FA.out.ints.sto (Sto.three (w.heap.size + 1) wz _ _ _) (fun b off o e => by have := FA.out.lo b off o e; omega), fun b off o e => by have := FA.out.lo b off o e; omega, bst3 BW.out (by omega) _ _ _⟩
 ·have F := hi_ (show OneN lo hi ⟨zs, p, i⟩ t Cv.none 1 from .inl ⟨hno, rfl, rfl⟩)
  clear HN hno
  go_wp2_with fail
  have rb := RB.out.store3 (.slice none 0 0) (.int .i64 0) (.int .i64 0)
  refine bodyPost_ret (v := .tuple #[.agg #[(.slice none 0 0), .int .i64 0, .int .i64 0], .int .i64 1]) (by simp [results, Tryz.results184, go_sem, rb.cell]) rfl ?_
  exact ⟨_, _, F.out, none, 0, 0, rfl, Ints.none_, (fun b off s h => by cases h), bst3 BW.out (by omega) _ _ _⟩
end
section
open Go.RowKit
theorem oball {w0 w : World} (h : Below w0.heap.size w0 w) (o : Obj) : Below w0.heap.size w0 (w.alloc o) := bthen h (balloc w o)
theorem oblater {w0 w w' : World} (h : Below w0.heap.size w0 w) (k : Below w.heap.size w w') : Below w0.heap.size w0 w' := bthen h k
def pairV (A : Option Addr) (n c : Nat) (p i : Int) (B : Option Addr) (m d : Nat) (q j : Int) (s k r : Int) (b : Bool) : Value :=
 .agg #[.slice A n c, .int .i64 p, .int .i64 i, .slice B m d, .int .i64 q, .int .i64 j, .int .i64 s, .int .i64 k, .int .i64 r, .bool b]
set_option maxHeartbeats 1000000 in
theorem above_any (A B : Option Addr) (n m c d : Nat) (p i q j s k r : Int) (b : Bool) (xs ys : List Int) (t : Int) (w : World) (hA : Ints w w.heap.size A n xs) (hB : Ints w w.heap.size B m ys)
 (hf : Cv.Ok ⟨xs, p, i⟩) (hg : Cv.Ok ⟨ys, q, j⟩) (ht0 : 0 ≤ t) (ht : t ≤ 1000000) :
 Calls Tryz.prog 148 #[pairV A n c p i B m d q j s k r b, .int .i64 t] w fun e w' => e = .returned (.bool (decide (Cv.at ⟨ys, q, j⟩ t.toNat < Cv.at ⟨xs, p, i⟩ t.toNat))) ∧ Below w.heap.size w w' := by
 have hn := hf.n2; have hm := hg.n2
 have hp1 := hf.p1; have hpn := hf.pn; have hi1 := hf.i1; have hi2 := hf.i2
 have hq1 := hg.p1; have hqm := hg.pn; have hj1 := hg.i1; have hj2 := hg.i2
 have hl := hA.1; have hl2 := hB.1
 simp only [hl, hl2] at hn hm hp1 hpn hi1 hi2 hq1 hqm hj1 hj2
 have NF := hi_ hf.nn; have NG := hi_ hg.nn
 obtain ⟨x, hx⟩ : ∃ x, x = Cv.at ⟨xs, p, i⟩ t.toNat := ⟨_, rfl⟩
 obtain ⟨y, hy⟩ : ∃ y, y = Cv.at ⟨ys, q, j⟩ t.toNat := ⟨_, rfl⟩
 rw [← hx, ← hy]
 have HX := hi_ hx; have HY := hi_ hy
 have pv : pairV A n c p i B m d q j s k r b = .agg #[.slice A n c, .int .i64 p, .int .i64 i, .slice B m d, .int .i64 q, .int .i64 j, .int .i64 s, .int .i64 k, .int .i64 r, .bool b] := rfl
 rw [pv]
 clear hx hy hf hg hl hl2 pv
 have PB := hi_ (Blk.new w 208 #[.slice A n c, .int .i64 p, .int .i64 i, .slice B m d, .int .i64 q, .int .i64 j, .int .i64 s, .int .i64 k, .int .i64 r, .bool b])
 have IA := hi_ (hA.alloc' (.cells #[.slice A n c, .int .i64 p, .int .i64 i, .slice B m d, .int .i64 q, .int .i64 j, .int .i64 s, .int .i64 k, .int .i64 r, .bool b] 208))
 have IB := hi_ (hB.alloc' (.cells #[.slice A n c, .int .i64 p, .int .i64 i, .slice B m d, .int .i64 q, .int .i64 j, .int .i64 s, .int .i64 k, .int .i64 r, .bool b] 208))
 have BW := hi_ (balloc w (.cells #[.slice A n c, .int .i64 p, .int .i64 i, .slice B m d, .int .i64 q, .int .i64 j, .int .i64 s, .int .i64 k, .int .i64 r, .bool b] 208))
 clear hA hB
 go_enter Tryz.func148, Tryz.ntmps148
 go_wp2_with fail
 generalize hw1 : w.alloc (.cells #[.slice A n c, .int .i64 p, .int .i64 i, .slice B m d, .int .i64 q, .int .i64 j, .int .i64 s, .int .i64 k, .int .i64 r, .bool b] 208) = w1 at *
 clear hw1
 have q0 := PB.out.cell 0; have q1 := PB.out.cell 1; have q2 := PB.out.cell 2; have q3 := PB.out.cell 3; have q4 := PB.out.cell 4; have q5 := PB.out.cell 5
 simp at q0 q1 q2 q3 q4 q5
 have hlp := PB.out.lt
 go_region_held3 (fun w' => w'.cell? ⟨w.heap.size, 0, none⟩ = some (.slice A n c) ∧ w'.cell? ⟨w.heap.size, 1, none⟩ = some (.int .i64 p) ∧ w'.cell? ⟨w.heap.size, 2, none⟩ = some (.int .i64 i) ∧
  w'.cell? ⟨w.heap.size, 3, none⟩ = some (.slice B m d) ∧ w'.cell? ⟨w.heap.size, 4, none⟩ = some (.int .i64 q) ∧ w'.cell? ⟨w.heap.size, 5, none⟩ = some (.int .i64 j)) (first | go_keep)
  (first
   | (go_at_call_of 43 (Value.agg #[.slice A n c, .int .i64 p, .int .i64 i])
      refine (at_any A n c p i t xs _ (by exact IA.out) (by omega) hp1 hpn hi1 (by omega) NF.out ht0 (by omega)).mono ?_
      rintro e w3 ⟨rfl, hb3⟩
      rw [← HX.out]
      have IA := hi_ (IA.out.ext (by first | exact hb3 | exact bofdrew hb3))
      have IB := hi_ (IB.out.ext (by first | exact hb3 | exact bofdrew hb3))
      have BW := hi_ (bthen BW.out (by first | exact hb3 | exact bofdrew hb3))
      have PB := hi_ (PB.out.below (by first | exact hb3 | exact bofdrew hb3) PB.out.lt)
      clear q0 q1 q2 q3 q4 q5 hlp hb3
      have q0 := PB.out.cell 0; have q1 := PB.out.cell 1; have q2 := PB.out.cell 2; have q3 := PB.out.cell 3; have q4 := PB.out.cell 4; have q5 := PB.out.cell 5
      simp at q0 q1 q2 q3 q4 q5
      have hlp := PB.out.lt)
   | (go_at_call_of 43 (Value.agg #[.slice B m d, .int .i64 q, .int .i64 j])
      refine (at_any B m d q j t ys _ (by exact IB.out) (by omega) hq1 hqm hj1 (by omega) NG.out ht0 (by omega)).mono ?_
      rintro e w3 ⟨rfl, hb3⟩
      rw [← HY.out]
      have IA := hi_ (IA.out.ext (by first | exact hb3 | exact bofdrew hb3))
      have IB := hi_ (IB.out.ext (by first | exact hb3 | exact bofdrew hb3))
      have BW := hi_ (bthen BW.out (by first | exact hb3 | exact bofdrew hb3))
      have PB := hi_ (PB.out.below (by first | exact hb3 | exact bofdrew hb3) PB.out.lt)
      clear q0 q1 q2 q3 q4 q5 hlp hb3
      have q0 := PB.out.cell 0; have q1 := PB.out.cell 1; have q2 := PB.out.cell 2; have q3 := PB.out.cell 3; have q4 := PB.out.cell 4; have q5 := PB.out.cell 5
      simp at q0 q1 q2 q3 q4 q5
      have hlp := PB.out.lt))
 all_goals
  go_wp2_with fail
  go_ret
  exact ⟨rfl, BW.out⟩
theorem Blk.store10 {w : World} {g : Nat} {t : TypeId} {z0 z1 z2 z3 z4 z5 z6 z7 z8 z9 : Value} (h : Blk w g t #[z0, z1, z2, z3, z4, z5, z6, z7, z8, z9]) (a0 a1 a2 a3 a4 a5 a6 a7 a8 a9 : Value) :
 Blk ((((((((((w.setCell ⟨g, 0, none⟩ a0).setCell ⟨g, 1, none⟩ a1).setCell ⟨g, 2, none⟩ a2).setCell ⟨g, 3, none⟩ a3).setCell ⟨g, 4, none⟩ a4).setCell ⟨g, 5, none⟩ a5).setCell ⟨g, 6, none⟩ a6).setCell ⟨g, 7, none⟩ a7).setCell ⟨g, 8, none⟩ a8).setCell ⟨g, 9, none⟩ a9) g t #[a0, a1, a2, a3, a4, a5, a6, a7, a8, a9] := by
 have h0 : Blk _ g t #[a0, z1, z2, z3, z4, z5, z6, z7, z8, z9] := h.set_ 0 a0
 have h1 : Blk _ g t #[a0, a1, z2, z3, z4, z5, z6, z7, z8, z9] := h0.set_ 1 a1
 have h2 : Blk _ g t #[a0, a1, a2, z3, z4, z5, z6, z7, z8, z9] := h1.set_ 2 a2
 have h3 : Blk _ g t #[a0, a1, a2, a3, z4, z5, z6, z7, z8, z9] := h2.set_ 3 a3
 have h4 : Blk _ g t #[a0, a1, a2, a3, a4, z5, z6, z7, z8, z9] := h3.set_ 4 a4
 have h5 : Blk _ g t #[a0, a1, a2, a3, a4, a5, z6, z7, z8, z9] := h4.set_ 5 a5
 have h6 : Blk _ g t #[a0, a1, a2, a3, a4, a5, a6, z7, z8, z9] := h5.set_ 6 a6
 have h7 : Blk _ g t #[a0, a1, a2, a3, a4, a5, a6, a7, z8, z9] := h6.set_ 7 a7
 have h8 : Blk _ g t #[a0, a1, a2, a3, a4, a5, a6, a7, a8, z9] := h7.set_ 8 a8
 exact h8.set_ 9 a9
theorem bstore10 {B : Nat} {w0 w : World} (h : Below B w0 w) {g : Nat} (hg : B ≤ g) (a0 a1 a2 a3 a4 a5 a6 a7 a8 a9 : Value) : Below B w0 ((((((((((w.setCell ⟨g, 0, none⟩ a0).setCell ⟨g, 1, none⟩ a1).setCell ⟨g, 2, none⟩ a2).setCell ⟨g, 3, none⟩ a3).setCell ⟨g, 4, none⟩ a4).setCell ⟨g, 5, none⟩ a5).setCell ⟨g, 6, none⟩ a6).setCell ⟨g, 7, none⟩ a7).setCell ⟨g, 8, none⟩ a8).setCell ⟨g, 9, none⟩ a9) := by
 have h0 := h.setCell (p := ⟨g, 0, none⟩) hg a0
 have h1 := h0.setCell (p := ⟨g, 1, none⟩) hg a1
 have h2 := h1.setCell (p := ⟨g, 2, none⟩) hg a2
 have h3 := h2.setCell (p := ⟨g, 3, none⟩) hg a3
 have h4 := h3.setCell (p := ⟨g, 4, none⟩) hg a4
 have h5 := h4.setCell (p := ⟨g, 5, none⟩) hg a5
 have h6 := h5.setCell (p := ⟨g, 6, none⟩) hg a6
 have h7 := h6.setCell (p := ⟨g, 7, none⟩) hg a7
 have h8 := h7.setCell (p := ⟨g, 8, none⟩) hg a8
 exact h8.setCell (p := ⟨g, 9, none⟩) hg a9
theorem cell_set10 {w : World} {g b o : Nat} {a0 a1 a2 a3 a4 a5 a6 a7 a8 a9 : Value} (h : g ≠ b) : ((((((((((w.setCell ⟨g, 0, none⟩ a0).setCell ⟨g, 1, none⟩ a1).setCell ⟨g, 2, none⟩ a2).setCell ⟨g, 3, none⟩ a3).setCell ⟨g, 4, none⟩ a4).setCell ⟨g, 5, none⟩ a5).setCell ⟨g, 6, none⟩ a6).setCell ⟨g, 7, none⟩ a7).setCell ⟨g, 8, none⟩ a8).setCell ⟨g, 9, none⟩ a9).cell? ⟨b, o, none⟩ = w.cell? ⟨b, o, none⟩ := by
 rw [World.cell?_setCell_other _ _ _ _ (fun e => by injection e with e; exact h e), World.cell?_setCell_other _ _ _ _ (fun e => by injection e with e; exact h e), World.cell?_setCell_other _ _ _ _ (fun e => by injection e with e; exact h e), World.cell?_setCell_other _ _ _ _ (fun e => by injection e with e; exact h e), World.cell?_setCell_other _ _ _ _ (fun e => by injection e with e; exact h e), World.cell?_setCell_other _ _ _ _ (fun e => by injection e with e; exact h e), World.cell?_setCell_other _ _ _ _ (fun e => by injection e with e; exact h e), World.cell?_setCell_other _ _ _ _ (fun e => by injection e with e; exact h e), World.cell?_setCell_other _ _ _ _ (fun e => by injection e with e; exact h e), World.cell?_setCell_other _ _ _ _ (fun e => by injection e with e; exact h e)]
theorem Blk.far10 {w : World} {g h : Nat} {t : TypeId} {cs : Array Value} {a0 a1 a2 a3 a4 a5 a6 a7 a8 a9 : Value} (H : Blk w h t cs) (hne : h ≠ g) : Blk ((((((((((w.setCell ⟨g, 0, none⟩ a0).setCell ⟨g, 1, none⟩ a1).setCell ⟨g, 2, none⟩ a2).setCell ⟨g, 3, none⟩ a3).setCell ⟨g, 4, none⟩ a4).setCell ⟨g, 5, none⟩ a5).setCell ⟨g, 6, none⟩ a6).setCell ⟨g, 7, none⟩ a7).setCell ⟨g, 8, none⟩ a8).setCell ⟨g, 9, none⟩ a9) h t cs :=
 (Blk.far (Blk.far (Blk.far (Blk.far (Blk.far (Blk.far (Blk.far (Blk.far (Blk.far (Blk.far H (p := ⟨g, 0, none⟩) hne a0) (p := ⟨g, 1, none⟩) hne a1) (p := ⟨g, 2, none⟩) hne a2) (p := ⟨g, 3, none⟩) hne a3) (p := ⟨g, 4, none⟩) hne a4) (p := ⟨g, 5, none⟩) hne a5) (p := ⟨g, 6, none⟩) hne a6) (p := ⟨g, 7, none⟩) hne a7) (p := ⟨g, 8, none⟩) hne a8) (p := ⟨g, 9, none⟩) hne a9)
theorem Ints.far10 {w : World} {g n : Nat} {A : Option Addr} {zs : List Int} {a0 a1 a2 a3 a4 a5 a6 a7 a8 a9 : Value} (H : Ints w w.heap.size A n zs) (hne : ∀ b off s, A = some ⟨b, off, s⟩ → b ≠ g) : Ints ((((((((((w.setCell ⟨g, 0, none⟩ a0).setCell ⟨g, 1, none⟩ a1).setCell ⟨g, 2, none⟩ a2).setCell ⟨g, 3, none⟩ a3).setCell ⟨g, 4, none⟩ a4).setCell ⟨g, 5, none⟩ a5).setCell ⟨g, 6, none⟩ a6).setCell ⟨g, 7, none⟩ a7).setCell ⟨g, 8, none⟩ a8).setCell ⟨g, 9, none⟩ a9) ((((((((((w.setCell ⟨g, 0, none⟩ a0).setCell ⟨g, 1, none⟩ a1).setCell ⟨g, 2, none⟩ a2).setCell ⟨g, 3, none⟩ a3).setCell ⟨g, 4, none⟩ a4).setCell ⟨g, 5, none⟩ a5).setCell ⟨g, 6, none⟩ a6).setCell ⟨g, 7, none⟩ a7).setCell ⟨g, 8, none⟩ a8).setCell ⟨g, 9, none⟩ a9).heap.size A n zs := by
 have h := (Ints.setCell (Ints.setCell (Ints.setCell (Ints.setCell (Ints.setCell (Ints.setCell (Ints.setCell (Ints.setCell (Ints.setCell (Ints.setCell H (p := ⟨g, 0, none⟩) hne a0) (p := ⟨g, 1, none⟩) hne a1) (p := ⟨g, 2, none⟩) hne a2) (p := ⟨g, 3, none⟩) hne a3) (p := ⟨g, 4, none⟩) hne a4) (p := ⟨g, 5, none⟩) hne a5) (p := ⟨g, 6, none⟩) hne a6) (p := ⟨g, 7, none⟩) hne a7) (p := ⟨g, 8, none⟩) hne a8) (p := ⟨g, 9, none⟩) hne a9)
 simpa using h
theorem Ints.set1 {w : World} {n : Nat} {A : Option Addr} {zs : List Int} {p : Addr} {u : Value} (H : Ints w w.heap.size A n zs) (hne : ∀ b off s, A = some ⟨b, off, s⟩ → b ≠ p.block) : Ints (w.setCell p u) (w.setCell p u).heap.size A n zs := by
 simpa using H.setCell hne u
set_option maxHeartbeats 1000000 in
set_option maxRecDepth 100000 in
theorem both_bad (A B : Option Addr) (n m c d : Nat) (p i q j : Int) (xs ys : List Int) (w : World) (hA : Ints w w.heap.size A n xs) (hB : Ints w w.heap.size B m ys) (hn : (n : Int) ≤ 1000000) (hm : (m : Int) ≤ 1000000)
 (hbad : ¬ (Cv.Ok ⟨xs, p, i⟩ ∧ Cv.Ok ⟨ys, q, j⟩)) :
 Calls Tryz.prog 147 #[.agg #[.slice A n c, .int .i64 p, .int .i64 i], .agg #[.slice B m d, .int .i64 q, .int .i64 j]] w fun e w' =>
  e = .returned (.tuple #[pairV none 0 0 0 0 none 0 0 0 0 0 0 0 false, .int .i64 1]) ∧ Below w.heap.size w w' := by
 unfold pairV
 have IA := hi_ (((hA.alloc' (.cells #[.slice A n c, .int .i64 p, .int .i64 i] 26)).alloc' (.cells #[.slice B m d, .int .i64 q, .int .i64 j] 26)).alloc' (.cells #[.slice none 0 0, .int .i64 0, .int .i64 0, .slice none 0 0, .int .i64 0, .int .i64 0, .int .i64 0, .int .i64 0, .int .i64 0, .bool false] 208))
 have IB := hi_ (((hB.alloc' (.cells #[.slice A n c, .int .i64 p, .int .i64 i] 26)).alloc' (.cells #[.slice B m d, .int .i64 q, .int .i64 j] 26)).alloc' (.cells #[.slice none 0 0, .int .i64 0, .int .i64 0, .slice none 0 0, .int .i64 0, .int .i64 0, .int .i64 0, .int .i64 0, .int .i64 0, .bool false] 208))
 have hbad' : Cv.okB ⟨xs, p, i⟩ = false ∨ (Cv.okB ⟨xs, p, i⟩ = true ∧ Cv.okB ⟨ys, q, j⟩ = false) := by
  by_cases h1 : Cv.Ok ⟨xs, p, i⟩
  ·exact .inr ⟨Cv.okB_true h1, Cv.okB_false fun h2 => hbad ⟨h1, h2⟩⟩
  ·exact .inl (Cv.okB_false h1)
 clear hA hB hbad
 have FB := hi_ (((Blk.new w 26 #[.slice A n c, .int .i64 p, .int .i64 i]).alloc (.cells #[.slice B m d, .int .i64 q, .int .i64 j] 26)).alloc (.cells #[.slice none 0 0, .int .i64 0, .int .i64 0, .slice none 0 0, .int .i64 0, .int .i64 0, .int .i64 0, .int .i64 0, .int .i64 0, .bool false] 208))
 have gb := (Blk.new (w.alloc (.cells #[.slice A n c, .int .i64 p, .int .i64 i] 26)) 26 #[.slice B m d, .int .i64 q, .int .i64 j]).alloc (.cells #[.slice none 0 0, .int .i64 0, .int .i64 0, .slice none 0 0, .int .i64 0, .int .i64 0, .int .i64 0, .int .i64 0, .int .i64 0, .bool false] 208)
 rw [World.size_alloc] at gb
 have rb := Blk.new ((w.alloc (.cells #[.slice A n c, .int .i64 p, .int .i64 i] 26)).alloc (.cells #[.slice B m d, .int .i64 q, .int .i64 j] 26)) 208 #[.slice none 0 0, .int .i64 0, .int .i64 0, .slice none 0 0, .int .i64 0, .int .i64 0, .int .i64 0, .int .i64 0, .int .i64 0, .bool false]
 rw [World.size_alloc, World.size_alloc] at rb
 have GB := hi_ gb; have RB := hi_ rb
 have BW := hi_ (bthen (bthen (balloc w (.cells #[.slice A n c, .int .i64 p, .int .i64 i] 26)) (balloc _ (.cells #[.slice B m d, .int .i64 q, .int .i64 j] 26))) (balloc _ (.cells #[.slice none 0 0, .int .i64 0, .int .i64 0, .slice none 0 0, .int .i64 0, .int .i64 0, .int .i64 0, .int .i64 0, .int .i64 0, .bool false] 208)))
 clear gb rb
 rcases hbad' with h1 | ⟨h1, h2⟩
 ·go_enter Tryz.func147, Tryz.ntmps147
  go_wp2_with fail
  refine (valid_any A n c p i xs _ IA.out hn).mono ?_
  rw [h1]
  rintro e w1 ⟨rfl, hb⟩
  have IA := hi_ (IA.out.ext hb); have IB := hi_ (IB.out.ext hb); have BW := hi_ (bthen BW.out hb)
  have FB := hi_ (FB.out.below hb FB.out.lt); have GB := hi_ (GB.out.below hb GB.out.lt); have RB := hi_ (RB.out.below hb RB.out.lt)
  have f0 := FB.out.cell 0; have f1 := FB.out.cell 1; have f2 := FB.out.cell 2; have g0 := GB.out.cell 0; have g1 := GB.out.cell 1; have g2 := GB.out.cell 2
  simp at f0 f1 f2 g0 g1 g2
  have hlf := FB.out.lt; have hlg := GB.out.lt; have hlr := RB.out.lt
  have r0 := RB.out.cell 0; have v0 := RB.out.frozen 0; have r1 := RB.out.cell 1; have v1 := RB.out.frozen 1; have r2 := RB.out.cell 2; have v2 := RB.out.frozen 2; have r3 := RB.out.cell 3; have v3 := RB.out.frozen 3; have r4 := RB.out.cell 4; have v4 := RB.out.frozen 4
  have r5 := RB.out.cell 5; have v5 := RB.out.frozen 5; have r6 := RB.out.cell 6; have v6 := RB.out.frozen 6; have r7 := RB.out.cell 7; have v7 := RB.out.frozen 7; have r8 := RB.out.cell 8; have v8 := RB.out.frozen 8; have r9 := RB.out.cell 9; have v9 := RB.out.frozen 9
  simp at r0 r1 r2 r3 r4 r5 r6 r7 r8 r9
  go_wp2_with fail
  exact bodyPost_ret (v := .tuple #[.agg #[.slice none 0 0, .int .i64 0, .int .i64 0, .slice none 0 0, .int .i64 0, .int .i64 0, .int .i64 0, .int .i64 0, .int .i64 0, .bool false], .int .i64 1]) (by simp [results, Tryz.results147, go_sem, (RB.out.store10 _ _ _ _ _ _ _ _ _ _).cell]) rfl ⟨rfl, bstore10 BW.out (by omega) _ _ _ _ _ _ _ _ _ _⟩
 ·go_enter Tryz.func147, Tryz.ntmps147
  go_wp2_with fail
  refine (valid_any A n c p i xs _ IA.out hn).mono ?_
  rw [h1]
  rintro e w1 ⟨rfl, hb⟩
  have IA := hi_ (IA.out.ext hb); have IB := hi_ (IB.out.ext hb); have BW := hi_ (bthen BW.out hb)
  have FB := hi_ (FB.out.below hb FB.out.lt); have GB := hi_ (GB.out.below hb GB.out.lt); have RB := hi_ (RB.out.below hb RB.out.lt)
  have f0 := FB.out.cell 0; have f1 := FB.out.cell 1; have f2 := FB.out.cell 2; have g0 := GB.out.cell 0; have g1 := GB.out.cell 1; have g2 := GB.out.cell 2
  simp at f0 f1 f2 g0 g1 g2
  have hlf := FB.out.lt; have hlg := GB.out.lt; have hlr := RB.out.lt
  clear hb
  go_wp2_with fail
  refine (valid_any B m d q j ys _ IB.out hm).mono ?_
  rw [h2]
  rintro e w2 ⟨rfl, hb⟩
  have IA := hi_ (IA.out.ext hb); have IB := hi_ (IB.out.ext hb); have BW := hi_ (bthen BW.out hb)
  have FB := hi_ (FB.out.below hb FB.out.lt); have GB := hi_ (GB.out.below hb GB.out.lt); have RB := hi_ (RB.out.below hb RB.out.lt)
  have r0 := RB.out.cell 0; have v0 := RB.out.frozen 0; have r1 := RB.out.cell 1; have v1 := RB.out.frozen 1; have r2 := RB.out.cell 2; have v2 := RB.out.frozen 2; have r3 := RB.out.cell 3; have v3 := RB.out.frozen 3; have r4 := RB.out.cell 4; have v4 := RB.out.frozen 4
  have r5 := RB.out.cell 5; have v5 := RB.out.frozen 5; have r6 := RB.out.cell 6; have v6 := RB.out.frozen 6; have r7 := RB.out.cell 7; have v7 := RB.out.frozen 7; have r8 := RB.out.cell 8; have v8 := RB.out.frozen 8; have r9 := RB.out.cell 9; have v9 := RB.out.frozen 9
  simp at r0 r1 r2 r3 r4 r5 r6 r7 r8 r9
  go_wp2_with fail
  exact bodyPost_ret (v := .tuple #[.agg #[.slice none 0 0, .int .i64 0, .int .i64 0, .slice none 0 0, .int .i64 0, .int .i64 0, .int .i64 0, .int .i64 0, .int .i64 0, .bool false], .int .i64 1]) (by simp [results, Tryz.results147, go_sem, (RB.out.store10 _ _ _ _ _ _ _ _ _ _).cell]) rfl ⟨rfl, bstore10 BW.out (by omega) _ _ _ _ _ _ _ _ _ _⟩
theorem wpList_storeP {w : World} {ops : Array Oper} {rest : List Oper} {o : Oper} {a : Act} {Q : Exit → Act → World → Prop} (hgd : o.guard = none) (s x : Operand) (ho : o.op = .store 208 s x)
 {g : Nat} (hs : a.eval s = .pointer (some ⟨g, 0, none⟩)) {t : TypeId} {z0 z1 z2 z3 z4 z5 z6 z7 z8 z9 : Value} (hB : Blk w g t #[z0, z1, z2, z3, z4, z5, z6, z7, z8, z9]) {a0 a1 a2 a3 a4 a5 a6 a7 a8 a9 : Value} (hx : a.eval x = .agg #[a0, a1, a2, a3, a4, a5, a6, a7, a8, a9]) (h1 : (#[a0, a1, a2, a3, a4, a5, a6, a7, a8, a9] : Array Value).all (·.oneCell') = true)
 (h : ∀ w', Sto g w w' → Blk w' g t #[a0, a1, a2, a3, a4, a5, a6, a7, a8, a9] → wpList Tryz.prog ops Q rest (a.put o.dst undef) w') : wpList Tryz.prog ops Q (o :: rest) a w := by
 refine wpList_store_mid hgd 208 s x ho g 0 #[a0, a1, a2, a3, a4, a5, a6, a7, a8, a9] hs hx ?_ (by kernel_rfl) h1 ?_
 ·intro j hj
  have hj' : j < 10 := hj
  rw [Nat.zero_add]
  refine ⟨?_, hB.frozen j⟩
  rw [hB.cell j]
  simp [hj']
 ·have e : w.setCells g 0 (#[a0, a1, a2, a3, a4, a5, a6, a7, a8, a9] : Array Value).toList = ((((((((((w.setCell ⟨g, 0, none⟩ a0).setCell ⟨g, 1, none⟩ a1).setCell ⟨g, 2, none⟩ a2).setCell ⟨g, 3, none⟩ a3).setCell ⟨g, 4, none⟩ a4).setCell ⟨g, 5, none⟩ a5).setCell ⟨g, 6, none⟩ a6).setCell ⟨g, 7, none⟩ a7).setCell ⟨g, 8, none⟩ a8).setCell ⟨g, 9, none⟩ a9) := rfl
  rw [e]
  exact h _ ((((((((((((Sto.refl g w).set 0 a0).set 1 a1).set 2 a2).set 3 a3).set 4 a4).set 5 a5).set 6 a6).set 7 a7).set 8 a8).set 9 a9)) (hB.store10 _ _ _ _ _ _ _ _ _ _)
end
end Go.Proofs.YtaejfleahamapaaGreat
