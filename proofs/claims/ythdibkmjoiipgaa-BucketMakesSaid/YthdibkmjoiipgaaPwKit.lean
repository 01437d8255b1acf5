/- Words for walks of functions of two curves. -/
import Derived.Test.YthdibkmjoiipgaaBy
import Derived.Test.YthdibkmjoiipgaaMade
import Derived.Test.YthdibkmjoiipgaaSto
import Derived.Test.YthdibkmjoiipgaaBuild2
namespace Go.Proofs.Ythdibkmjoiipgaa
open Go.RowKit
set_option linter.unusedVariables false

theorem Ints.stoB {w w' : World} {g B n : Nat} {A : Option Addr} {zs : List Int} (H : Ints w B A n zs) (s : Sto g w w') (hg : B ≤ g) : Ints w' B A n zs :=
  H.keep fun p hp => World.cell?_of_block (s.block p.block (by omega))
/-- the two curves lie in the first two blocks of a call; their lists lie below -/
structure PT (w wx : World) (A : Option Addr) (n c : Nat) (p i : Int) (xs : List Int) (B : Option Addr) (m d : Nat) (q j : Int) (ys : List Int) : Prop where
  fb : Blk wx w.heap.size 46 #[.slice A n c, .int .i64 p, .int .i64 i]
  gb : Blk wx (w.heap.size + 1) 46 #[.slice B m d, .int .i64 q, .int .i64 j]
  ja : Ints wx w.heap.size A n xs
  jb : Ints wx w.heap.size B m ys
  bw : Below w.heap.size w wx
section
variable {w wx wy : World} {A B : Option Addr} {n c m d g : Nat} {p i q j : Int} {xs ys : List Int}
theorem PT.new (hA : Ints w w.heap.size A n xs) (hB : Ints w w.heap.size B m ys) : PT w ((w.alloc (.cells #[.slice A n c, .int .i64 p, .int .i64 i] 46)).alloc (.cells #[.slice B m d, .int .i64 q, .int .i64 j] 46)) A n c p i xs B m d q j ys :=
  have h := PS.new (c := c) (p := p) (i := i) (d := d) (q := q) (j := j) hA hB
  ⟨h.fb, h.gb, (hA.alloc (Nat.le_refl _) _).alloc (by simp) _, (hB.alloc (Nat.le_refl _) _).alloc (by simp) _, h.bw⟩
theorem PT.ia (h : PT w wx A n c p i xs B m d q j ys) : Ints wx wx.heap.size A n xs := h.ja.more h.bw.size
theorem PT.ib (h : PT w wx A n c p i xs B m d q j ys) : Ints wx wx.heap.size B m ys := h.jb.more h.bw.size
theorem PT.below (h : PT w wx A n c p i xs B m d q j ys) (hb : Below wx.heap.size wx wy) : PT w wy A n c p i xs B m d q j ys :=
  ⟨h.fb.below hb h.fb.lt, h.gb.below hb h.gb.lt, h.ja.below (hb.mono h.bw.size), h.jb.below (hb.mono h.bw.size), bthen h.bw hb⟩
theorem PT.alloc (h : PT w wx A n c p i xs B m d q j ys) (o : Obj) : PT w (wx.alloc o) A n c p i xs B m d q j ys := h.below (balloc wx o)
theorem PT.drew (h : PT w wx A n c p i xs B m d q j ys) : PT w wx.drew A n c p i xs B m d q j ys := ⟨h.fb, h.gb, h.ja, h.jb, Below.drew h.bw⟩
theorem PT.sto (h : PT w wx A n c p i xs B m d q j ys) (s : Sto g wx wy) (hg : w.heap.size + 1 < g) : PT w wy A n c p i xs B m d q j ys :=
  ⟨h.fb.sto s (by omega), h.gb.sto s (by omega), h.ja.stoB s (by omega), h.jb.stoB s (by omega), bsto h.bw s (by omega)⟩
theorem PT.cells (h : PT w wx A n c p i xs B m d q j ys) : wx.cell? ⟨w.heap.size, 0, none⟩ = some (.slice A n c) ∧ wx.cell? ⟨w.heap.size, 1, none⟩ = some (.int .i64 p) ∧ wx.cell? ⟨w.heap.size, 2, none⟩ = some (.int .i64 i) ∧
    wx.cell? ⟨w.heap.size + 1, 0, none⟩ = some (.slice B m d) ∧ wx.cell? ⟨w.heap.size + 1, 1, none⟩ = some (.int .i64 q) ∧ wx.cell? ⟨w.heap.size + 1, 2, none⟩ = some (.int .i64 j) ∧ w.heap.size < wx.heap.size ∧ w.heap.size + 1 < wx.heap.size := by
  have f0 := h.fb.cell 0; have f1 := h.fb.cell 1; have f2 := h.fb.cell 2; have g0 := h.gb.cell 0; have g1 := h.gb.cell 1; have g2 := h.gb.cell 2
  simp at f0 f1 f2 g0 g1 g2
  exact ⟨f0, f1, f2, g0, g1, g2, h.fb.lt, h.gb.lt⟩
end
/-- block F holds the curve f, whose list lies from L on -/
structure Bz (L : Nat) (w : World) (F : Nat) (A : Option Addr) (n c : Nat) (f : Cv) : Prop where
  blk : Blk w F 46 #[.slice A n c, .int .i64 f.per, .int .i64 f.inc]
  ints : Ints w w.heap.size A n f.vals
  lo : ∀ b off s, A = some ⟨b, off, s⟩ → L ≤ b
section
variable {L F n c g : Nat} {w w' : World} {A : Option Addr} {f : Cv}
theorem Bz.lt (h : Bz L w F A n c f) : F < w.heap.size := h.blk.lt
theorem Bz.below (h : Bz L w F A n c f) (hb : Below w.heap.size w w') : Bz L w' F A n c f := ⟨h.blk.below hb h.lt, h.ints.ext hb, h.lo⟩
theorem Bz.alloc (h : Bz L w F A n c f) (o : Obj) : Bz L (w.alloc o) F A n c f := h.below (balloc w o)
theorem Bz.drew (h : Bz L w F A n c f) : Bz L w.drew F A n c f := ⟨h.blk, h.ints, h.lo⟩
theorem Bz.sto (h : Bz L w F A n c f) (s : Sto g w w') (hg : F ≠ g) (hL : g < L) : Bz L w' F A n c f := ⟨h.blk.sto s hg, h.ints.sto s (fun b off o e => by have := h.lo b off o e; omega), h.lo⟩
theorem Bz.own (h : Bz L w F A n c f) (hL : F < L) : Bz L (((w.setCell ⟨F, 0, none⟩ (.slice A n c)).setCell ⟨F, 1, none⟩ (.int .i64 f.per)).setCell ⟨F, 2, none⟩ (.int .i64 f.inc)) F A n c f :=
  ⟨h.blk.store3 _ _ _, h.ints.sto (Sto.three F w _ _ _) (fun b off o e => by have := h.lo b off o e; omega), h.lo⟩
theorem Bz.put {x y z : Value} (hB : Blk w F 46 #[x, y, z]) (hI : Ints w w.heap.size A n f.vals) (hA : ∀ b off s, A = some ⟨b, off, s⟩ → L ≤ b) (hL : F < L) :
    Bz L (((w.setCell ⟨F, 0, none⟩ (.slice A n c)).setCell ⟨F, 1, none⟩ (.int .i64 f.per)).setCell ⟨F, 2, none⟩ (.int .i64 f.inc)) F A n c f :=
  ⟨hB.store3 _ _ _, hI.sto (Sto.three F w _ _ _) (fun b off o e => by have := hA b off o e; omega), hA⟩
theorem Bz.cells (h : Bz L w F A n c f) : w.cell? ⟨F, 0, none⟩ = some (.slice A n c) ∧ w.cell? ⟨F, 1, none⟩ = some (.int .i64 f.per) ∧ w.cell? ⟨F, 2, none⟩ = some (.int .i64 f.inc) ∧ F < w.heap.size := by
  have q := h.blk.c3
  exact ⟨q.1.1, q.1.2.1, q.1.2.2, q.2.2⟩
end

/-- a value at a tick that is not far -/
theorem at_near {a : Cv} (ha : a.Ok) {t : Nat} (ht : t ≤ 1000000000) : 0 ≤ a.at t ∧ (a.at t = inf ∨ a.at t ≤ 1152921504606846976) := by
  refine ⟨ha.up0.nn t, ?_⟩
  rcases ha.fin_or with h | h
  · right
    have h1 := h.at_bd t
    have h2 : (t : Int) * 1073741824 ≤ 1000000000 * 1073741824 := Int.mul_le_mul_of_nonneg_right (by omega) (by omega)
    omega
  · by_cases hi : a.at t = inf
    · exact .inl hi
    · right
      have hlt : t < a.vals.length := by
        rcases Nat.lt_or_ge t a.vals.length with h' | h'
        · exact h'
        · exact absurd (ha.at_inf h (by omega)) hi
      rw [Cv.at_lt hlt] at hi ⊢
      have := ((okv_iff _).1 (ha.v t hlt)).resolve_left hi
      omega

/-! ### both -/
def zc : Value := .agg #[.slice none 0 0, .int .i64 0, .int .i64 0]
/-- no pair could be made -/
def PairBad (f g : Cv) (er : Int) : Prop := (¬ (f.Ok ∧ g.Ok) ∧ er = 1) ∨ (f.Ok ∧ g.Ok ∧ er = 3 ∧ ∃ a b, NF f.at a ∧ NF g.at b ∧ 120 < comm a.per.toNat b.per.toNat)
theorem PairBad.ne {f g : Cv} {er : Int} (h : PairBad f g er) : (er != 0) = true := by rcases h with ⟨_, rfl⟩ | ⟨_, _, rfl, _⟩ <;> rfl
theorem PairBad.to {S : Cv → Cv → Cv → Int → Prop} {f g : Cv} {er : Int} (h : PairBad f g er) : PairS S f g Cv.none er := by
  rcases h with ⟨h, rfl⟩ | ⟨hf, hg, rfl, a, b, ha, hb, hc⟩
  · exact .inl ⟨h, rfl, rfl⟩
  · exact .inr ⟨hf, hg, a, b, ha, hb, .inl ⟨hc, rfl, rfl⟩⟩
theorem retS_none {S : Cv → Int → Prop} {w w1 : World} {er : Int} (hS : S Cv.none er) (bw : Below w.heap.size w w1) : RetS S w (.returned (.tuple #[zc, .int .i64 er])) w1 :=
  ⟨Cv.none, er, hS, none, 0, 0, rfl, Ints.none_, (fun b off s h => by cases h), bw⟩
theorem retS_store {S : Cv → Int → Prop} {f : Cv} {er : Int} {w w1 : World} {B g0 : Nat} {A : Option Addr} {n c : Nat} {x y z : Value} (hS : S f er) (hf : ∀ b off s, A = some ⟨b, off, s⟩ → B ≤ b) (h0 : w.heap.size ≤ g0) (hB : g0 < B) (hI : Ints w1 w1.heap.size A n f.vals) (bw : Below w.heap.size w w1) :
    RetS S w (.returned (.tuple #[.agg #[.slice A n c, .int .i64 f.per, .int .i64 f.inc], .int .i64 er])) (((w1.setCell ⟨g0, 0, none⟩ x).setCell ⟨g0, 1, none⟩ y).setCell ⟨g0, 2, none⟩ z) :=
  ⟨f, er, hS, retC_store3' hf h0 hB hI bw⟩
end Go.Proofs.Ythdibkmjoiipgaa
