/- What Bent of netcalculuskeep returns: some curve, which need not be valid, with at most 1000 values. -/
import Derived.Test.YthdibkmjoiipgaaSrcCurve
import Derived.Test.YthdibkmjoiipgaaZero
import Derived.Deep.DeepCutAuto
import Derived.Deep.CutBlock
import Derived.BigRegion
namespace Go.Proofs.Ythdibkmjoiipgaa
open Go.RowKit
set_option linter.unusedVariables false

/-- in the middle of Bent: the curve 'out' at block O, its list of the call's own, the result's block, the reader -/
structure BS (p O : Nat) (w wx : World) (A : Option Addr) (n c : Nat) (per inc : Int) (zs : List Int) : Prop where
  ob : Blk wx O 46 #[.slice A n c, .int .i64 per, .int .i64 inc]
  own : Own wx (w.heap.size + 2) (.slice A n c) n zs
  rb : Blk wx (w.heap.size + 1) 46 #[.slice none 0 0, .int .i64 0, .int .i64 0]
  s : SrcAt wx p
  k : Kept w.heap.size p w wx
  hp : p < w.heap.size
  hO : w.heap.size + 2 ≤ O
section
variable {p O n c : Nat} {w wx wy : World} {A : Option Addr} {per inc : Int} {zs : List Int}
theorem BS.kept (h : BS p O w wx A n c per inc zs) (hS : SrcAt wy p) (hk : Kept wx.heap.size p wx wy) : BS p O w wy A n c per inc zs :=
  ⟨h.ob.kept (by have := h.hp; have := h.hO; omega) hk, h.own.kept (fun e => by have := (h.own.blk_lt p e).1; have := h.hp; omega) hk, h.rb.kept (by have := h.hp; omega) hk, hS, kthen h.k hk, h.hp, h.hO⟩
theorem BS.alloc (h : BS p O w wx A n c per inc zs) (o : Obj) : BS p O w (wx.alloc o) A n c per inc zs := h.kept (h.s.alloc o) (Kept.of (balloc wx o))
theorem BS.drew (h : BS p O w wx A n c per inc zs) : BS p O w wx.drew A n c per inc zs := ⟨h.ob, h.own, h.rb, h.s, kdrw h.k, h.hp, h.hO⟩
theorem BS.cells (h : BS p O w wx A n c per inc zs) : wx.cell? ⟨O, 0, none⟩ = some (.slice A n c) ∧ wx.cell? ⟨O, 1, none⟩ = some (.int .i64 per) ∧ wx.cell? ⟨O, 2, none⟩ = some (.int .i64 inc) ∧
    wx.frozen? ⟨O, 0, none⟩ = false ∧ wx.frozen? ⟨O, 1, none⟩ = false ∧ wx.frozen? ⟨O, 2, none⟩ = false ∧ O < wx.heap.size := by
  have q0 := h.ob.cell 0; have q1 := h.ob.cell 1; have q2 := h.ob.cell 2
  simp at q0 q1 q2
  exact ⟨q0, q1, q2, h.ob.frozen 0, h.ob.frozen 1, h.ob.frozen 2, h.ob.lt⟩
theorem BS.rcells (h : BS p O w wx A n c per inc zs) : wx.cell? ⟨w.heap.size + 1, 0, none⟩ = some (.slice none 0 0) ∧ wx.cell? ⟨w.heap.size + 1, 1, none⟩ = some (.int .i64 0) ∧ wx.cell? ⟨w.heap.size + 1, 2, none⟩ = some (.int .i64 0) ∧
    wx.frozen? ⟨w.heap.size + 1, 0, none⟩ = false ∧ wx.frozen? ⟨w.heap.size + 1, 1, none⟩ = false ∧ wx.frozen? ⟨w.heap.size + 1, 2, none⟩ = false ∧ w.heap.size + 1 < wx.heap.size := by
  have q0 := h.rb.cell 0; have q1 := h.rb.cell 1; have q2 := h.rb.cell 2
  simp at q0 q1 q2
  exact ⟨q0, q1, q2, h.rb.frozen 0, h.rb.frozen 1, h.rb.frozen 2, h.rb.lt⟩
end

/-- behind the switch of Bent -/
structure BE (p O : Nat) (w wx : World) (A : Option Addr) (n c : Nat) (per inc : Int) (zs : List Int) : Prop where
  ob : Blk wx O 46 #[.slice A n c, .int .i64 per, .int .i64 inc]
  ints : Ints wx wx.heap.size A n zs
  ge : ∀ b off s, A = some ⟨b, off, s⟩ → w.heap.size + 2 ≤ b
  rb : Blk wx (w.heap.size + 1) 46 #[.slice none 0 0, .int .i64 0, .int .i64 0]
  s : SrcAt wx p
  k : Kept w.heap.size p w wx
  hp : p < w.heap.size
  hO : w.heap.size + 2 ≤ O
  hc : n ≤ c
section
variable {p O n c : Nat} {w wx wy : World} {A : Option Addr} {per inc : Int} {zs : List Int}
theorem BE.cells (h : BE p O w wx A n c per inc zs) : wx.cell? ⟨O, 0, none⟩ = some (.slice A n c) ∧ wx.cell? ⟨O, 1, none⟩ = some (.int .i64 per) ∧ wx.cell? ⟨O, 2, none⟩ = some (.int .i64 inc) ∧ O < wx.heap.size := by
  have q0 := h.ob.cell 0; have q1 := h.ob.cell 1; have q2 := h.ob.cell 2
  simp at q0 q1 q2
  exact ⟨q0, q1, q2, h.ob.lt⟩
theorem BE.rcells (h : BE p O w wx A n c per inc zs) : wx.cell? ⟨w.heap.size + 1, 0, none⟩ = some (.slice none 0 0) ∧ wx.cell? ⟨w.heap.size + 1, 1, none⟩ = some (.int .i64 0) ∧ wx.cell? ⟨w.heap.size + 1, 2, none⟩ = some (.int .i64 0) ∧
    wx.frozen? ⟨w.heap.size + 1, 0, none⟩ = false ∧ wx.frozen? ⟨w.heap.size + 1, 1, none⟩ = false ∧ wx.frozen? ⟨w.heap.size + 1, 2, none⟩ = false ∧ w.heap.size + 1 < wx.heap.size := by
  have q0 := h.rb.cell 0; have q1 := h.rb.cell 1; have q2 := h.rb.cell 2
  simp at q0 q1 q2
  exact ⟨q0, q1, q2, h.rb.frozen 0, h.rb.frozen 1, h.rb.frozen 2, h.rb.lt⟩
/-- from the middle to the end, where a field of 'out' has been stored last -/
theorem BS.done {per' inc' : Int} (h : BS p O w wx A n c per inc zs) : BE p O w wx A n c per inc zs := by
  obtain ⟨A', c', e, hc, hI, hge⟩ := h.own.ints
  injection e with e1 e2 e3
  subst e1 e3
  exact ⟨h.ob, hI, hge, h.rb, h.s, h.k, h.hp, h.hO, hc⟩
theorem BE.set (h : BE p O w wx A n c per inc zs) {q : Addr} (hq : q.block = O) {u : Value} {A' : Option Addr} {n' c' : Nat} {per' inc' : Int} {zs' : List Int}
    (hI : Ints wx wx.heap.size A' n' zs') (hA : ∀ b off s, A' = some ⟨b, off, s⟩ → w.heap.size + 2 ≤ b ∧ b ≠ O)
    (hc : (#[.slice A n c, .int .i64 per, .int .i64 inc] : Array Value).setIfInBounds q.off u = #[.slice A' n' c', .int .i64 per', .int .i64 inc']) (hs : q.spot = none) (hc' : n' ≤ c') : BE p O w (wx.setCell q u) A' n' c' per' inc' zs' := by
  obtain ⟨b, o, sp⟩ := q
  simp only at hq hc hs
  subst hq hs
  have h1 := h.hO; have h2 := h.hp
  exact ⟨hc ▸ h.ob.set_ o u, by simpa using hI.setCell (p := ⟨b, o, none⟩) (fun b' off s e => (hA b' off s e).2) u, fun b' off s e => (hA b' off s e).1, h.rb.far (by show w.heap.size + 1 ≠ b; omega) u, h.s.far (by show p < b; omega) u, h.k.setCell (.inr (by show w.heap.size ≤ b; omega)) u, h.hp, h.hO, hc'⟩
end

section
variable {p O n c : Nat} {w wx wy : World} {A : Option Addr} {per inc : Int} {zs : List Int}
theorem BS.ne (h : BS p O w wx A n c per inc zs) : ∀ b off s, A = some ⟨b, off, s⟩ → w.heap.size + 2 ≤ b ∧ b ≠ O := fun b off s e => by
  subst e
  have h1 := h.own.blk_lt b rfl
  have h2 := h.own.ne_blk h.ob (by decide)
  exact ⟨h1.1, fun e => h2 (by simp [Value.ownBlock, e])⟩
theorem BS.setRow {g ix : Nat} (h : BS p O w wx (some ⟨g, 0, none⟩) n c per inc zs) (row : RowI wx g zs) (hix : ix < n) (d : Int) : BE p O w (wx.setCell ⟨g, ix, none⟩ (.int .i64 d)) (some ⟨g, 0, none⟩) n c per inc (zs.set ix d) := by
  have hl := h.own.len
  have hne := h.ne g 0 none rfl
  have hp := h.hp; have hO := h.hO
  have hi := (row.set_ ix (by omega) d).ints
  rw [List.length_set, hl] at hi
  exact ⟨h.ob.far (by show O ≠ g; omega) _, hi, fun b off s e => by cases e; exact hne.1, h.rb.far (by show w.heap.size + 1 ≠ g; omega) _, h.s.far (by show p < g; omega) _, h.k.setCell (.inr (by show w.heap.size ≤ g; omega)) _, hp, hO, (h.done (per' := 0) (inc' := 0)).hc⟩
theorem BS.set1 (h : BS p O w wx A n c per inc zs) (d : Int) : BE p O w (wx.setCell ⟨O, 1, none⟩ (.int .i64 d)) A n c d inc zs :=
  (h.done (per' := 0) (inc' := 0)).set (q := ⟨O, 1, none⟩) rfl (h.done (per' := 0) (inc' := 0)).ints h.ne rfl rfl (h.done (per' := 0) (inc' := 0)).hc
theorem BS.set2 (h : BS p O w wx A n c per inc zs) (d : Int) : BE p O w (wx.setCell ⟨O, 2, none⟩ (.int .i64 d)) A n c per d zs :=
  (h.done (per' := 0) (inc' := 0)).set (q := ⟨O, 2, none⟩) rfl (h.done (per' := 0) (inc' := 0)).ints h.ne rfl rfl (h.done (per' := 0) (inc' := 0)).hc
theorem Ints.head {B m : Nat} (h : Ints wx B A n zs) (hm : m ≤ n) : Ints wx B A m (zs.take m) :=
  ⟨by simp [h.1]; omega, fun hm0 => by
    obtain ⟨b, off, e, hb, hc⟩ := h.2 (by omega)
    exact ⟨b, off, e, hb, fun j hj => by rw [nth_take _ _ _ hj]; exact hc j (by omega)⟩⟩
theorem BS.set0 (h : BS p O w wx A n c per inc zs) {ix : Nat} (hix : ix ≤ n) : BE p O w (wx.setCell ⟨O, 0, none⟩ (.slice A ix c)) A ix c per inc (zs.take ix) :=
  (h.done (per' := 0) (inc' := 0)).set (q := ⟨O, 0, none⟩) rfl ((h.done (per' := 0) (inc' := 0)).ints.head hix) h.ne rfl rfl (by have := (h.done (per' := 0) (inc' := 0)).hc; omega)
end

theorem retD_close1 {S : Cv → Prop} {p : Nat} {w w1 : World} {A : Option Addr} {n c : Nat} {zs : List Int} {per inc : Int} {x y z : Value} (hS : S ⟨zs, per, inc⟩) (hc : n ≤ c) (hI : Ints w1 w1.heap.size A n zs) (hge : ∀ b off s, A = some ⟨b, off, s⟩ → w.heap.size + 2 ≤ b)
    (hs : SrcAt w1 p) (hp : p < w.heap.size) (hk : Kept w.heap.size p w w1) :
    RetD2 S p w (.returned (.agg #[.slice A n c, .int .i64 per, .int .i64 inc])) (((w1.setCell ⟨w.heap.size + 1, 0, none⟩ x).setCell ⟨w.heap.size + 1, 1, none⟩ y).setCell ⟨w.heap.size + 1, 2, none⟩ z) :=
  ⟨⟨zs, per, inc⟩, A, n, c, hS, hc, rfl, by
    simpa using (((hI.setCell (fun b off s h => by have := hge b off s h; simp; omega) _).setCell (fun b off s h => by have := hge b off s h; simp; omega) _).setCell (fun b off s h => by have := hge b off s h; simp; omega) _),
    (fun b off s h => by have := hge b off s h; omega), ((hs.far (by show p < w.heap.size + 1; omega) _).far (by show p < w.heap.size + 1; omega) _).far (by show p < w.heap.size + 1; omega) _, ((hk.setCell (.inr (by simp)) _).setCell (.inr (by simp)) _).setCell (.inr (by simp)) _⟩

attribute [local go_sem ↓] app_fold

set_option maxRecDepth 100000 in
set_option maxHeartbeats 4000000 in
theorem srcBent2_any (p0 : Nat) (A : Option Addr) (n c : Nat) (p i : Int) (zs : List Int) (w : World) (hS : SrcAt w p0) (hA : Ints w w.heap.size A n zs) (hn : (n : Int) ≤ 1000) :
    Calls Try.prog 35 #[.pointer (some ⟨p0, 0, none⟩), .agg #[.slice A n c, .int .i64 p, .int .i64 i]] w (RetD2 (fun g => g.vals.length ≤ 1000) p0 w) := by
  have hl := hA.1
  have HL := Lib.hid hl; clear hl
  have HA := Lib.hid hA; clear hA
  have HS := Lib.hid hS
  have hpw := hS.lt
  clear hS
  go_enter Try.func35, Try.ntmps35
  go_wp2_with fail
  have fb := (Blk.new w 46 #[.slice A n c, .int .i64 p, .int .i64 i]).alloc (.cells #[.slice none 0 0, .int .i64 0, .int .i64 0] 46)
  have rb := Blk.new (w.alloc (.cells #[.slice A n c, .int .i64 p, .int .i64 i] 46)) 46 #[.slice none 0 0, .int .i64 0, .int .i64 0]
  simp at rb
  have hA2 := ((HA.out.alloc' (.cells #[.slice A n c, .int .i64 p, .int .i64 i] 46)).alloc' (.cells #[.slice none 0 0, .int .i64 0, .int .i64 0] 46))
  have bw := bthen (balloc w (.cells #[.slice A n c, .int .i64 p, .int .i64 i] 46)) (balloc _ (.cells #[.slice none 0 0, .int .i64 0, .int .i64 0] 46))
  have hsz : w.heap.size + 2 = ((w.alloc (.cells #[.slice A n c, .int .i64 p, .int .i64 i] 46)).alloc (.cells #[.slice none 0 0, .int .i64 0, .int .i64 0] 46)).heap.size := by simp
  have hsz2 := Nat.le_of_eq hsz
  have hsz3 := Nat.le_of_eq hsz.symm
  have HSZ := Lib.hid hsz
  clear hsz
  generalize ((w.alloc (.cells #[.slice A n c, .int .i64 p, .int .i64 i] 46)).alloc (.cells #[.slice none 0 0, .int .i64 0, .int .i64 0] 46)) = w1 at *
  have q0 := fb.cell 0; have q1 := fb.cell 1; have q2 := fb.cell 2
  simp at q0 q1 q2
  have hlf := fb.lt
  have HFB := Lib.hid fb; have HRB := Lib.hid rb; have HBW := Lib.hid bw; have HA2 := Lib.hid hA2
  clear fb rb bw hA2
  have ob0 := Blk.new (w1.alloc (.cells #[] 3)) 46 #[.slice none 0 0, .int .i64 0, .int .i64 0]
  rw [show (w1.alloc (.cells #[] 3)).heap.size = w1.heap.size + 1 by simp] at ob0
  have OB := Lib.hid ob0; clear ob0
  have oc0 := (Blk.new w1 46 #[.slice none 0 0, .int .i64 0, .int .i64 0]).alloc (.cells #[] 3)
  have OC := Lib.hid oc0; clear oc0
  have oe0 := Own.empty_ (w1.alloc (.cells #[.slice none 0 0, .int .i64 0, .int .i64 0] 46)) (base := w1.heap.size) (by simp)
  rw [show (w1.alloc (.cells #[.slice none 0 0, .int .i64 0, .int .i64 0] 46)).heap.size = w1.heap.size + 1 by simp] at oe0
  have OE := Lib.hid oe0; clear oe0
  go_upto_region 1 with fail
  go_cut [5] (fun s7 wx => ∃ (O : Nat) (A1 : Option Addr) (c1 : Nat), s7 = .pointer (some ⟨O, 0, none⟩) ∧ w1.heap.size ≤ O ∧ Blk wx O 46 #[.slice A1 n c1, .int .i64 p, .int .i64 i] ∧
    Own wx w1.heap.size (.slice A1 n c1) n zs ∧ Below w1.heap.size w1 wx)
  case first =>
    go_region_held3 (fun w' => w'.cell? ⟨w.heap.size, 0, none⟩ = some (.slice A n c) ∧ w'.cell? ⟨w.heap.size, 1, none⟩ = some (.int .i64 p) ∧ w'.cell? ⟨w.heap.size, 2, none⟩ = some (.int .i64 i)) (first | go_keep | (refine ⟨?_, ?_, ?_⟩ <;> (rw [cell_set3 (by omega)]; assumption)))
      (first
        | (refine step_app (by rfl) _ _ 29 (by rfl) Try.underlying29 w1.heap.size (.slice (some ⟨w1.heap.size, 0, none⟩) 0 0) 0 [] (by rfl) ?_ w1.heap.size A n c zs (by rfl) ?_ ?_ ?_ ?_
           · repeat (first | exact Own.empty_ w1 (Nat.le_refl _) | refine Own.drew ?_ | refine Own.alloc ?_ _)
           · repeat (first | exact HA2.out | refine Ints.drew ?_ | refine Ints.alloc ?_ (by simp; try omega) _)
           · omega
           · simp; try omega
           intro v2 w2 own2 grow2 at2
           simp only [Nat.zero_add, List.nil_append] at own2
           have b2 : Below w1.heap.size w1 w2 := by
             refine Below.grown ?_ grow2 ?_ ?_
             · repeat (first | exact Below.refl _ _ | refine Below.drew ?_ | refine Below.alloc ?_ (by simp; try omega) _)
             · simp; try omega
             · intro k hk; simp [Value.ownBlock] at hk; omega
           have q20 := (b2.cell (p := ⟨w.heap.size, 0, none⟩) hlf).trans q0
           have q21 := (b2.cell (p := ⟨w.heap.size, 1, none⟩) hlf).trans q1
           have q22 := (b2.cell (p := ⟨w.heap.size, 2, none⟩) hlf).trans q2
           have hlf2 := Nat.lt_of_lt_of_le hlf b2.size
           obtain ⟨A1, c1, rfl, hc1, hI1, hf1⟩ := own2.ints
           try (have ob := Blk.grown (Blk.drew OB.out) grow2 (by simp [Value.ownBlock]); have o0 := ob.cell 0; have o1 := ob.cell 1; have o2 := ob.cell 2; have y0 := ob.frozen 0; have y1 := ob.frozen 1; have y2 := ob.frozen 2; simp at o0 o1 o2; have hlo := ob.lt)
           have OWN2 := Lib.hid own2; have B2 := Lib.hid b2; have GROW2 := Lib.hid grow2; have HI1 := Lib.hid hI1; have HF1 := Lib.hid hf1
           clear at2 own2 b2 hI1 hf1 grow2)
        | (refine step_app (by rfl) _ _ 29 (by rfl) Try.underlying29 w1.heap.size (.slice (some ⟨w1.heap.size + 1, 0, none⟩) 0 0) 0 [] (by rfl) ?_ w1.heap.size A n c zs (by rfl) ?_ ?_ ?_ ?_
           · repeat (first | exact OE.out | refine Own.drew ?_ | refine Own.alloc ?_ _)
           · repeat (first | exact HA2.out | refine Ints.drew ?_ | refine Ints.alloc ?_ (by simp; try omega) _)
           · omega
           · simp; try omega
           intro v2 w2 own2 grow2 at2
           simp only [Nat.zero_add, List.nil_append] at own2
           have b2 : Below w1.heap.size w1 w2 := by
             refine Below.grown ?_ grow2 ?_ ?_
             · repeat (first | exact Below.refl _ _ | refine Below.drew ?_ | refine Below.alloc ?_ (by simp; try omega) _)
             · simp; try omega
             · intro k hk; simp [Value.ownBlock] at hk; omega
           have q20 := (b2.cell (p := ⟨w.heap.size, 0, none⟩) hlf).trans q0
           have q21 := (b2.cell (p := ⟨w.heap.size, 1, none⟩) hlf).trans q1
           have q22 := (b2.cell (p := ⟨w.heap.size, 2, none⟩) hlf).trans q2
           have hlf2 := Nat.lt_of_lt_of_le hlf b2.size
           obtain ⟨A1, c1, rfl, hc1, hI1, hf1⟩ := own2.ints
           try (have ob := Blk.grown (Blk.drew OC.out) grow2 (by simp [Value.ownBlock]); have o0 := ob.cell 0; have o1 := ob.cell 1; have o2 := ob.cell 2; have y0 := ob.frozen 0; have y1 := ob.frozen 1; have y2 := ob.frozen 2; simp at o0 o1 o2; have hlo := ob.lt)
           have OWN2 := Lib.hid own2; have B2 := Lib.hid b2; have GROW2 := Lib.hid grow2; have HI1 := Lib.hid hI1; have HF1 := Lib.hid hf1
           clear at2 own2 b2 hI1 hf1 grow2))
    all_goals
      go_wp2_with fail
      go_meet
      first
        | exact ⟨_, A1, c1, rfl, B2.out.size, Blk.new _ _ _, OWN2.out.alloc _, B2.out.alloc B2.out.size _⟩
        | (have nb := OWN2.out.ne_blk ob (by decide)
           exact ⟨_, A1, c1, rfl, (by omega), ob.store3 _ _ _, ((OWN2.out.far nb _).far nb _).far nb _, ((B2.out.setCell (by simp) _).setCell (by simp) _).setCell (by simp) _⟩)
  case rest =>
    obtain ⟨O, A1, c1, rfl, hO, ob, own, b1⟩ := hcut
    have hRlt : w.heap.size + 1 < w1.heap.size := by omega
    have hO' : w.heap.size + 2 ≤ O := by omega
    have E := Lib.hid (show BS p0 O w wc A1 n c1 p i zs from ⟨ob, by rw [HSZ.out]; exact own, HRB.out.below b1 hRlt, (HS.out.ext HBW.out).below b1 (by omega), Kept.trans (Kept.of HBW.out) ((Kept.of b1).mono (by omega)), hpw, hO'⟩)
    have hc1 : n ≤ c1 := by obtain ⟨A', c', e, h, _⟩ := own.ints; injection e with e1 e2 e3; omega
    clear ob own b1 HFB HRB HA2 HBW HA OB OC OE HS q0 q1 q2 hlf HSZ hO hRlt hsz2 hsz3
    obtain ⟨o0, o1, o2, y0, y1, y2, hlo⟩ := E.out.cells
    by_cases hn0 : n = 0
    · subst hn0
      obtain ⟨r0, r1, r2, z0, z1, z2, hlr⟩ := E.out.rcells
      have BEE := Lib.hid (E.out.done (per' := 0) (inc' := 0))
      go_wp2_with fail
      have rb5 := BEE.out.rb.store3 (.slice A1 0 c1) (.int .i64 p) (.int .i64 i)
      exact bodyPost_ret (v := .agg #[.slice A1 0 c1, .int .i64 p, .int .i64 i]) (by simp [results, Try.results35, go_sem, rb5.cell]) rfl
        (retD_close1 (zs := zs) (by show zs.length ≤ 1000; rw [HL.out]; omega) (by omega) BEE.out.ints BEE.out.ge BEE.out.s hpw BEE.out.k)
    · have e0 : ((n : Int) == 0) = false := by simp; omega
      have hn1 : 1 ≤ n := by omega
      go_wp2_with fail
      refine (n_any p0 n _ E.out.s (by omega) (by omega)).mono ?_
      rintro q w2 ⟨ix, hi0, hi1, rfl, hS, hkk⟩
      obtain ⟨ix, rfl⟩ := Int.eq_ofNat_of_zero_le hi0
      have E := Lib.hid (E.out.kept hS hkk)
      clear hS hkk
      clear o0 o1 o2 y0 y1 y2 hlo
      obtain ⟨o0, o1, o2, y0, y1, y2, hlo⟩ := E.out.cells
      go_wp2_with fail
      refine (n_any p0 6 _ E.out.s (by omega) (by omega)).mono ?_
      rintro q w3 ⟨kx, hk0, hk1, rfl, hS, hkk⟩
      have E := Lib.hid (E.out.kept hS hkk)
      clear hS hkk
      clear o0 o1 o2 y0 y1 y2 hlo
      obtain ⟨o0, o1, o2, y0, y1, y2, hlo⟩ := E.out.cells
      go_upto_block 0 with fail
      go_cut [] (fun wx => ∃ (A' : Option Addr) (n' c' : Nat) (p' i' : Int) (zs' : List Int), n' ≤ 1000 ∧ BE p0 O w wx A' n' c' p' i' zs')
      case first =>
        have hix : ix < n := by omega
        have hkx : kx = 0 ∨ kx = 1 ∨ kx = 2 ∨ kx = 3 ∨ kx = 4 ∨ kx = 5 := by omega
        rcases hkx with rfl | rfl | rfl | rfl | rfl | rfl
        · obtain ⟨g, cg, hv, hg, hcg, row⟩ := E.out.own.row hn1
          injection hv with e1 e2 e3
          subst e1 e3
          have hgO := (E.out.ne g 0 none rfl).2
          have ROW := Lib.hid row
          clear row
          have hck := ROW.out.cell ix (by rw [HL.out]; omega)
          have hzk := ROW.out.frozen ix
          have hlg := ROW.out.lt
          have hpw' := E.out.s.lt
          have hii : (ix : Int) < n := by omega
          go_wp2_with fail
          go_region_held3 (fun w' => w'.cell? ⟨O, 0, none⟩ = some (.slice (some ⟨g, 0, none⟩) n c1)) (first | go_keep | exact (cell_set1 (by omega)).trans o0)
            (first
              | (go_at_call 27
                 refine (pick_any p0 _ 6 6 [-1, 0, 1073741824, 1073741825, 4611686018427387904, 4611686018427387905] _ (by first | exact E.out.s.alloc _ | (refine SrcAt.drew ?_; exact E.out.s.alloc _)) (by first | exact ints_lit' _ [-1, 0, 1073741824, 1073741825, 4611686018427387904, 4611686018427387905] _ (by simp) | (refine Ints.drew ?_; exact ints_lit' _ [-1, 0, 1073741824, 1073741825, 4611686018427387904, 4611686018427387905] _ (by simp))) (fun b off s e => by cases e; omega) (by omega) (by omega)).mono ?_
                 rintro e w6 ⟨⟨j, hj, rfl⟩, hS6, hk6⟩
                 generalize nth [-1, 0, 1073741824, 1073741825, 4611686018427387904, 4611686018427387905] j = d at *
                 clear hj
                 have E := Lib.hid ((E.out.alloc _).drew.kept hS6 hk6)
                 have ROW := Lib.hid ((ROW.out.alloc _).drew.kept (by omega) hk6)
                 clear hS6 hk6 hck hzk
                 have hck := ROW.out.cell ix (by rw [HL.out]; omega)
                 have hzk := ROW.out.frozen ix
                 clear o0 o1 o2 y0 y1 y2 hlo
                 obtain ⟨o0, o1, o2, y0, y1, y2, hlo⟩ := E.out.cells
                 skip)
              )
          all_goals
            go_wp2_with fail
            go_meet
            exact ⟨_, n, c1, p, i, zs.set ix d, by omega, E.out.setRow ROW.out hix d⟩
        · go_wp2_with fail
          refine (pick_any p0 _ 6 6 [-1, 0, 1, (n : Int), (n : Int) + 1, 121] _ (E.out.s.alloc _) (by exact ints_lit' _ [-1, 0, 1, (n : Int), (n : Int) + 1, 121] _ (by simp)) (fun b off s e => by cases e; have := E.out.s.lt; omega) (by omega) (by omega)).mono ?_
          rintro e w6 ⟨⟨j, hj, rfl⟩, hS6, hk6⟩
          generalize nth [-1, 0, 1, (n : Int), (n : Int) + 1, 121] j = d at *
          have E := Lib.hid ((E.out.alloc _).kept hS6 hk6)
          clear hS6 hk6 hj
          clear o0 o1 o2 y0 y1 y2 hlo
          obtain ⟨o0, o1, o2, y0, y1, y2, hlo⟩ := E.out.cells
          go_wp2_with fail
          go_meet
          exact ⟨A1, n, c1, d, i, zs, by omega, E.out.set1 d⟩
        · go_wp2_with fail
          refine (pick_any p0 _ 4 4 [-1, 0, 1073741824, 1073741825] _ (E.out.s.alloc _) (by exact ints_lit' _ [-1, 0, 1073741824, 1073741825] _ (by simp)) (fun b off s e => by cases e; have := E.out.s.lt; omega) (by omega) (by omega)).mono ?_
          rintro e w6 ⟨⟨j, hj, rfl⟩, hS6, hk6⟩
          generalize nth [-1, 0, 1073741824, 1073741825] j = d at *
          have E := Lib.hid ((E.out.alloc _).kept hS6 hk6)
          clear hS6 hk6 hj
          clear o0 o1 o2 y0 y1 y2 hlo
          obtain ⟨o0, o1, o2, y0, y1, y2, hlo⟩ := E.out.cells
          go_wp2_with fail
          go_meet
          exact ⟨A1, n, c1, p, d, zs, by omega, E.out.set2 d⟩
        · have hii : (ix : Int) ≤ n := by omega
          have hnc : (n : Int) ≤ c1 := by omega
          go_wp2_with fail
          go_meet
          exact ⟨A1, ix, c1, p, i, zs.take ix, by omega, E.out.set0 (by omega)⟩
        · obtain ⟨g, cg, hv, hg, hcg, row⟩ := E.out.own.row hn1
          injection hv with e1 e2 e3
          subst e1 e3
          have hgO := (E.out.ne g 0 none rfl).2
          have ROW := Lib.hid row
          clear row
          have hck := ROW.out.cell ix (by rw [HL.out]; omega)
          have hzk := ROW.out.frozen ix
          have hlg := ROW.out.lt
          have hpw' := E.out.s.lt
          have hii : (ix : Int) < n := by omega
          obtain ⟨v, hv⟩ : ∃ v, v = nth zs ix := ⟨_, rfl⟩
          rw [← hv] at hck
          have HV := Lib.hid hv
          clear hv
          go_wp2_with fail
          go_region_with
            (go_at_call 26
             refine (n_any p0 5 _ (by exact E.out.s) (by omega) (by omega)).mono ?_
             rintro q w6 ⟨x, hx0, hx1, rfl, hS6, hk6⟩
             have E := Lib.hid (E.out.kept hS6 (kofdrew hk6))
             have ROW := Lib.hid (ROW.out.kept (by omega) (kofdrew hk6))
             have e1 : IntKind.i64.wrap (x - 2) = x - 2 := IntWalk.i64_in _ (by omega)
             clear hS6 hk6 hck hzk
             have hck := ROW.out.cell ix (by rw [HL.out]; omega)
             rw [← HV.out] at hck
             have hzk := ROW.out.frozen ix
             clear o0 o1 o2 y0 y1 y2 hlo
             obtain ⟨o0, o1, o2, y0, y1, y2, hlo⟩ := E.out.cells
             skip)
          all_goals
            go_wp2_with fail
            go_meet
            exact ⟨_, n, c1, p, i, zs.set ix _, by omega, E.out.setRow ROW.out hix _⟩
        · go_wp2_with fail
          clear o0 o1 o2 y0 y1 y2 hlo
          go_loopg [] (401 - n) (fun gg wx => ∃ (Am : Option Addr) (cm m : Nat) (zs' : List Int), gg = 401 - m ∧ 1 ≤ m ∧ m ≤ 1000 ∧ BS p0 O w wx Am m cm p i zs')
          case atStart => exact ⟨A1, c1, n, zs, rfl, by omega, by omega, E.out⟩
          case round =>
            clear E
            obtain ⟨Am, cm, m, zs', hgm, hm1, hm2, be⟩ := hrel
            have E := Lib.hid be; have HGM := Lib.hid hgm
            clear be hgm
            obtain ⟨o0, o1, o2, y0, y1, y2, hlo⟩ := E.out.cells
            go_upto_region 6 with fail
            go_cut [34] (fun s34 wx => ∃ b, s34 = .bool b ∧ Hid (b = true → m < 401) ∧ BS p0 O w wx Am m cm p i zs')
            case first =>
              go_region_held3 (fun w' => w'.cell? ⟨O, 0, none⟩ = some (.slice Am m cm)) (first | go_keep)
                (first
                  | (go_at_call 26
                     refine (n_any p0 2 _ (by exact E.out.s) (by omega) (by omega)).mono ?_
                     rintro q w6 ⟨x, hx0, hx1, rfl, hS6, hk6⟩
                     have E := Lib.hid (E.out.kept hS6 (kofdrew hk6))
                     have e1 : IntKind.i64.wrap (400 + x) = 400 + x := IntWalk.i64_in _ (by omega)
                     clear hS6 hk6
                     clear o0 o1 o2 y0 y1 y2 hlo
                     obtain ⟨o0, o1, o2, y0, y1, y2, hlo⟩ := E.out.cells
                     skip))
              all_goals
                go_wp2_with fail
                go_meet
                exact ⟨_, rfl, (fun h => by simp at h; omega), E.out⟩
            case rest =>
              clear E
              clear o0 o1 o2 y0 y1 y2 hlo
              obtain ⟨b, rfl, hb, be⟩ := hcut
              have E := Lib.hid be; have HB := hb
              clear be hb
              obtain ⟨o0, o1, o2, y0, y1, y2, hlo⟩ := E.out.cells
              cases b
              case false =>
                go_wp2_with fail
                go_meet
                exact ⟨Am, m, cm, p, i, zs', by omega, E.out.done (per' := 0) (inc' := 0)⟩
              case true =>
                have hm401 : m < 401 := HB.out rfl
                clear HB
                go_upto_block 2 with fail
                go_cut [] (fun wx => ∃ (A' : Option Addr) (c' : Nat) (zs2 : List Int), BS p0 O w wx A' (m + 1) c' p i zs2)
                case first =>
                  obtain ⟨A', c', e', hcc, hI, _⟩ := E.out.own.ints
                  injection e' with e1 e2 e3
                  subst e1 e3
                  obtain ⟨b2, off2, rfl, hb2, hc2⟩ := hI.2 (by omega)
                  have hcj := hc2 (m - 1) (by omega)
                  obtain ⟨x, hx⟩ : ∃ x, x = nth zs' (m - 1) := ⟨_, rfl⟩
                  rw [← hx] at hcj
                  obtain ⟨j, hj⟩ : ∃ j, j = m - 1 := ⟨_, rfl⟩
                  rw [← hj] at hcj
                  have w1' : IntKind.i64.wrap ((m : Int) - 1) = (j : Int) := by rw [IntWalk.i64_in _ (by omega)]; omega
                  have hj0 : 0 ≤ (j : Int) := by omega
                  have hj1 : (j : Int) < m := by omega
                  have hj2 : j < m := by omega
                  have nbO := E.out.own.ne_blk E.out.ob (by decide)
                  have hob := fun g hg => (E.out.own.blk_lt g hg).1
                  have HOB := Lib.hid hob; have NBO := Lib.hid nbO
                  clear hx hj hc2 hI hob nbO
                  have hlit := (ints_lit wc [x]).more (B' := wc.heap.size + 1) (by simp)
                  obtain ⟨v2, w2, hrun, own2, grow2, at2⟩ := run_appSem (w := (wc.alloc (.cells #[.int .i64 x] 3)).drew) (base := w.heap.size + 2) (E.out.own.alloc _).drew 1 (A := some ⟨wc.heap.size, 0, none⟩) (m := 1) (zs := [x]) hlit (by omega) (by simp; omega)
                  have b2' : Below (w.heap.size + 2) wc w2 := Below.grown ((Below.refl _ _).alloc (by omega) _).drew grow2 (by simp; omega) (fun k hk => HOB.out k hk)
                  have ob2 := Blk.grown (Blk.drew (E.out.ob.alloc _)) grow2 (fun e => NBO.out e.symm)
                  have o20 := ob2.cell 0; have y20 := ob2.frozen 0
                  simp at o20
                  have hlo2 := ob2.lt
                  obtain ⟨A2, c2, rfl, hc2, hI2, hf2⟩ := own2.ints
                  have OB2 := Lib.hid ob2; have OWN2 := Lib.hid own2; have B2 := Lib.hid b2'
                  clear at2 own2 b2' ob2 hI2 hf2 grow2 hlit
                  go_wp2_with fail
                  go_region
                  all_goals
                    go_wp2_with fail
                    go_meet
                    have nb := OWN2.out.ne_blk OB2.out (by decide)
                    exact ⟨A2, c2, zs' ++ [x], OB2.out.set_ 0 _, OWN2.out.far nb _, (E.out.rb.below B2.out (by omega)).far (by show w.heap.size + 1 ≠ O; omega) _, (E.out.s.below B2.out (by omega)).far (by show p0 < O; omega) _,
                      (E.out.k.trans (Kept.of (B2.out.mono (by omega)))).setCell (.inr (by show w.heap.size ≤ O; omega)) _, hpw, hO'⟩
                case rest =>
                  obtain ⟨A', c', zs2, be⟩ := hcut
                  go_wp2_with fail
                  go_roundg (401 - (m + 1))
                  case measure => have := HGM.out; omega
                  case rel => exact ⟨A', c', m + 1, zs2, rfl, by omega, by omega, be⟩
      case rest =>
        as_aux_lemma =>
        obtain ⟨A', n', c', p', i', zs', hn', be⟩ := hcut
        have BEE := Lib.hid be
        clear be E
        clear o0 o1 o2 y0 y1 y2 hlo
        obtain ⟨o0, o1, o2, hlo⟩ := BEE.out.cells
        obtain ⟨r0, r1, r2, z0, z1, z2, hlr⟩ := BEE.out.rcells
        go_wp2_with fail
        have rb5 := BEE.out.rb.store3 (.slice A' n' c') (.int .i64 p') (.int .i64 i')
        exact bodyPost_ret (v := .agg #[.slice A' n' c', .int .i64 p', .int .i64 i']) (by simp [results, Try.results35, go_sem, rb5.cell]) rfl
          (retD_close1 (zs := zs') (by show zs'.length ≤ 1000; rw [BEE.out.ints.1]; omega) BEE.out.hc BEE.out.ints BEE.out.ge BEE.out.s hpw BEE.out.k)
theorem srcBent_any (p0 : Nat) (A : Option Addr) (n c : Nat) (p i : Int) (zs : List Int) (w : World) (hS : SrcAt w p0) (hA : Ints w w.heap.size A n zs) (hn : (n : Int) ≤ 1000) :
    Calls Try.prog 35 #[.pointer (some ⟨p0, 0, none⟩), .agg #[.slice A n c, .int .i64 p, .int .i64 i]] w (RetD (fun g => g.vals.length ≤ 1000) p0 w) :=
  (srcBent2_any p0 A n c p i zs w hS hA hn).mono fun _ _ h => h.weak
end Go.Proofs.Ythdibkmjoiipgaa
