/- The reader of drawn numbers: what New, Raw, Mod, N and Pick of netcalculuskeep return. Which number is drawn is left open. -/
import Derived.Test.YthdibkmjoiipgaaCurve2
namespace Go.Proofs.Ythdibkmjoiipgaa
open Go.RowKit
set_option linter.unusedVariables false

/-- below block B, but for block p, the world w' is as w was -/
structure Kept (B p : Nat) (w w' : World) : Prop where
  os : w'.os = w.os
  tape : w'.tape = w.tape
  output : w'.output = w.output
  size : w.heap.size ≤ w'.heap.size
  block : ∀ k, k < B → k ≠ p → w'.heap[k]? = w.heap[k]?

section
variable {B p : Nat} {w w1 w' : World}
theorem Kept.refl (B p : Nat) (w : World) : Kept B p w w := ⟨rfl, rfl, rfl, Nat.le_refl _, fun _ _ _ => rfl⟩
theorem Kept.trans (h : Kept B p w w1) (k : Kept B p w1 w') : Kept B p w w' :=
  ⟨k.os.trans h.os, k.tape.trans h.tape, k.output.trans h.output, Nat.le_trans h.size k.size, fun i hi hp => (k.block i hi hp).trans (h.block i hi hp)⟩
theorem Kept.mono {B' : Nat} (h : Kept B p w w') (hB : B' ≤ B) : Kept B' p w w' := ⟨h.os, h.tape, h.output, h.size, fun k hk hp => h.block k (Nat.lt_of_lt_of_le hk hB) hp⟩
theorem Kept.of (h : Below B w w') : Kept B p w w' := ⟨h.os, h.tape, h.output, h.size, fun k hk _ => h.block k hk⟩
theorem Kept.below (h : Kept B p w w') (hp : B ≤ p) : Below B w w' := ⟨h.os, h.tape, h.output, h.size, fun k hk => h.block k hk (by omega)⟩
theorem kthen (h : Kept w.heap.size p w w1) (k : Kept w1.heap.size p w1 w') : Kept w.heap.size p w w' := h.trans (k.mono h.size)
theorem kbelow (h : Kept w.heap.size p w w1) (k : Below w1.heap.size w1 w') : Kept w.heap.size p w w' := kthen h (Kept.of k)
theorem kdrewN {n : Nat} (h : Kept B p w w') : Kept B p w (w'.drewN n) := ⟨h.os, h.tape, h.output, h.size, h.block⟩
theorem kofdrewN {n : Nat} (h : Kept B p (w.drewN n) w') : Kept B p w w' := ⟨h.os, h.tape, h.output, h.size, h.block⟩
theorem kofdrew (h : Kept B p w.drew w') : Kept B p w w' := ⟨h.os, h.tape, h.output, h.size, h.block⟩
theorem Kept.setCell (h : Kept B p w w') {a : Addr} (ha : a.block = p ∨ B ≤ a.block) (u : Value) : Kept B p w (w'.setCell a u) :=
  h.trans ⟨rfl, rfl, rfl, by simp [World.setCell], fun k hk hp => Below.heap_setCell _ _ _ _ (by omega)⟩
theorem Kept.alloc (h : Kept B p w w') (hB : B ≤ w'.heap.size) (o : Obj) : Kept B p w (w'.alloc o) :=
  h.trans (Kept.of ((Below.refl _ _).alloc hB o))
theorem Ints.kept {n : Nat} {A : Option Addr} {zs : List Int} (h : Ints w w.heap.size A n zs) (ha : ∀ b off s, A = some ⟨b, off, s⟩ → b ≠ p) (k : Kept w.heap.size p w w') : Ints w' w'.heap.size A n zs :=
  ⟨h.1, fun hn => by
    obtain ⟨b, off, e, hb, hc⟩ := h.2 hn
    exact ⟨b, off, e, Nat.lt_of_lt_of_le hb k.size, fun j hj => (World.cell?_of_block (a := ⟨b, off + j, none⟩) (k.block b hb (ha _ _ _ e))).trans (hc j hj)⟩⟩
theorem Blk.kept {g : Nat} {t : TypeId} {cs : Array Value} (h : Blk w g t cs) (hg : g ≠ p) (k : Kept w.heap.size p w w') : Blk w' g t cs := (k.block g h.lt hg).trans h
end

theorem Own.kept {w w' : World} {base n p : Nat} {v : Value} {xs : List Int} (h : Own w base v n xs) (hne : v.ownBlock ≠ some p) (k : Kept w.heap.size p w w') : Own w' base v n xs := by
  have hlt := h.blk_lt
  obtain ⟨h1, h2⟩ := h
  refine ⟨h1, ?_⟩
  rcases h2 with h2 | ⟨g, cap, cur, rfl, hg, hh, r⟩
  · exact .inl h2
  · exact .inr ⟨g, cap, cur, rfl, hg, by rw [k.block g (hlt g rfl).2 (fun e => hne (by simp [Value.ownBlock, e]))]; exact hh, r⟩

/-- block p is a reader -/
def SrcAt (w : World) (p : Nat) : Prop :=
  ∃ (A : Option Addr) (n c k : Nat) (L : List Int), Blk w p 87 #[.slice A n c, .int .i64 k] ∧ Ints w p A n L ∧ k ≤ n ∧ n ≤ 2000

section
variable {w w' : World} {p : Nat}
theorem SrcAt.lt (h : SrcAt w p) : p < w.heap.size := by
  obtain ⟨A, n, c, k, L, h1, _⟩ := h; exact h1.lt
theorem SrcAt.below {B : Nat} (h : SrcAt w p) (hb : Below B w w') (hB : p < B) : SrcAt w' p := by
  obtain ⟨A, n, c, k, L, h1, h2, h3, h4⟩ := h
  exact ⟨A, n, c, k, L, h1.below hb hB, h2.below (hb.mono (Nat.le_of_lt hB)), h3, h4⟩
theorem SrcAt.ext (h : SrcAt w p) (hb : Below w.heap.size w w') : SrcAt w' p := h.below hb h.lt
theorem SrcAt.alloc (h : SrcAt w p) (o : Obj) : SrcAt (w.alloc o) p := h.ext (balloc w o)
theorem SrcAt.drew (h : SrcAt w p) : SrcAt w.drew p := h
theorem SrcAt.drewN (h : SrcAt w p) (n : Nat) : SrcAt (w.drewN n) p := h
theorem SrcAt.far (h : SrcAt w p) {a : Addr} (ha : p < a.block) (u : Value) : SrcAt (w.setCell a u) p := by
  obtain ⟨A, n, c, k, L, h1, h2, h3, h4⟩ := h
  refine ⟨A, n, c, k, L, h1.far (by omega) u, h2.keep fun q hq => World.cell?_setCell_other w a q u (fun e => by subst e; omega), h3, h4⟩
end

/-- the call returned a number between 0 and n - 1, and only the reader's block has turned -/
def RetN (p : Nat) (n : Int) (w : World) (e : Ending) (w' : World) : Prop :=
  ∃ x : Int, 0 ≤ x ∧ x < n ∧ e = .returned (.int .i64 x) ∧ SrcAt w' p ∧ Kept w.heap.size p w w'
def RetAny (p : Nat) (w : World) (e : Ending) (w' : World) : Prop :=
  ∃ x : Int, e = .returned (.int .i64 x) ∧ SrcAt w' p ∧ Kept w.heap.size p w w'

theorem raw_any (p : Nat) (w : World) (hS : SrcAt w p) :
    Calls Try.prog 84 #[.pointer (some ⟨p, 0, none⟩)] w (RetAny p w) := by
  have hS' := hS
  obtain ⟨A, n, c, k, L, hB, hL, hk, hn⟩ := hS
  have q0 := hB.cell 0; have q1 := hB.cell 1; have z1 := hB.frozen 1
  simp at q0 q1
  have hlt := hB.lt
  by_cases hkn : k = n
  · subst hkn
    have HL := Lib.hid hL; clear hL
    have HB := Lib.hid hB; clear hB
    have HS := Lib.hid hS'; clear hS'
    go_enter Try.func84, Try.ntmps84
    go_wp2_with fail
    go_quiet (fail)
    go_wp2
    go_ret
    exact ⟨0, rfl, HS.out.drewN _, kdrewN (Kept.refl _ _ _)⟩
  · obtain ⟨b, off, rfl, hb, hc⟩ := hL.2 (by omega)
    have hck := hc k (by omega)
    have hd : decide (n ≤ k) = false := by simp; omega
    have HL := Lib.hid hL; clear hL
    have HB := Lib.hid hB; clear hB
    have HS := Lib.hid hS'; clear hS'
    clear hc
    go_enter Try.func84, Try.ntmps84
    go_wp2_with fail
    go_quiet (fail)
    clear hd
    go_wp2_with fail
    have e1 : IntKind.i64.wrap ((k : Int) + 1 - 1) = (k : Int) := by rw [IntWalk.i64_in _ (by omega)]; omega
    have e2 : IntKind.i64.wrap (k : Int) = (k : Int) := by rw [IntWalk.i64_in _ (by omega)]
    have hk0 : 0 ≤ (k : Int) := by omega
    have hk1 : (k : Int) < n := by omega
    have hbp : b ≠ p := by omega
    go_quiet (fail)
    go_wp2
    go_ret
    refine ⟨_, rfl, SrcAt.drewN ?_ _, kdrewN (Kept.setCell (a := ⟨p, 1, none⟩) (kdrewN (Kept.refl _ _ _)) (.inl rfl) _)⟩
    exact ⟨_, n, c, k + 1, L, (HB.out.drewN _).set_ 1 _, (HL.out.drewN _).setCell (fun b' off' s e => by cases e; exact hbp) _, by omega, hn⟩

theorem tmod_bd (x n : Int) (h : 1 ≤ n) : -n < x.tmod n ∧ x.tmod n < n := by
  constructor
  · have := Int.lt_tmod_of_pos x (show 0 < n by omega); omega
  · exact Int.tmod_lt_of_pos x (by omega)

theorem mod_any (x n : Int) (w : World) (h1 : 1 ≤ n) (h2 : n ≤ 4611686018427387904) :
    Calls Try.prog 83 #[.int .i64 x, .int .i64 n] w fun e w' => (∃ y : Int, 0 ≤ y ∧ y < n ∧ e = .returned (.int .i64 y)) ∧ w = w' := by
  have hb := tmod_bd x n h1
  obtain ⟨y, hy⟩ : ∃ y, x.tmod n = y := ⟨_, rfl⟩
  rw [hy] at hb
  by_cases h0 : y < 0
  · have fin : Hid (∃ z : Int, 0 ≤ z ∧ z < n ∧ Ending.returned (.int .i64 (y + n)) = .returned (.int .i64 z)) := ⟨y + n, by omega, by omega, rfl⟩
    go_enter Try.func83, Try.ntmps83
    go_wp2
    go_ret
    exact ⟨fin.out, rfl⟩
  · have fin : Hid (∃ z : Int, 0 ≤ z ∧ z < n ∧ Ending.returned (.int .i64 y) = .returned (.int .i64 z)) := ⟨y, by omega, by omega, rfl⟩
    go_enter Try.func83, Try.ntmps83
    go_wp2
    go_ret
    exact ⟨fin.out, rfl⟩

theorem n_any (p : Nat) (n : Int) (w : World) (hS : SrcAt w p) (h1 : 1 ≤ n) (h2 : n ≤ 4611686018427387904) :
    Calls Try.prog 26 #[.pointer (some ⟨p, 0, none⟩), .int .i64 n] w (RetN p n w) := by
  go_enter Try.func26, Try.ntmps26
  go_wp2_with fail
  refine (raw_any p w hS).mono ?_
  rintro e w1 ⟨x, rfl, hS1, hk1⟩
  go_wp2_with fail
  refine (mod_any x n w1 h1 h2).mono ?_
  rintro e w2 ⟨⟨y, hy0, hy1, rfl⟩, rfl⟩
  go_wp2
  go_ret
  exact ⟨y, hy0, hy1, rfl, hS1, hk1⟩

/-- what a literal list lays -/
theorem ints_lit (w : World) (zs : List Int) : Ints (w.alloc (.cells (zs.map (Value.int .i64)).toArray 3)) (w.alloc (.cells (zs.map (Value.int .i64)).toArray 3)).heap.size (some ⟨w.heap.size, 0, none⟩) zs.length zs :=
  IBlk.ints (Blk.new w _ _)

theorem ints_lit' (w : World) (zs : List Int) (B : Nat) (hB : B = w.heap.size) : Ints (w.alloc (.cells (zs.map (Value.int .i64)).toArray 3)) (w.alloc (.cells (zs.map (Value.int .i64)).toArray 3)).heap.size (some ⟨B, 0, none⟩) zs.length zs := by
  subst hB; exact ints_lit w zs

theorem pick_any (p : Nat) (A : Option Addr) (n c : Nat) (zs : List Int) (w : World) (hS : SrcAt w p) (hA : Ints w w.heap.size A n zs) (ha : ∀ b off s, A = some ⟨b, off, s⟩ → b ≠ p) (h1 : 1 ≤ n) (h2 : (n : Int) ≤ 1000000) :
    Calls Try.prog 27 #[.pointer (some ⟨p, 0, none⟩), .slice A n c] w fun e w' => (∃ j, j < n ∧ e = .returned (.int .i64 (nth zs j))) ∧ SrcAt w' p ∧ Kept w.heap.size p w w' := by
  go_enter Try.func27, Try.ntmps27
  go_wp2_with fail
  refine (n_any p n w hS (by omega) (by omega)).mono ?_
  rintro e w1 ⟨x, hx0, hx1, rfl, hS1, hk1⟩
  have hA1 := hA.kept ha hk1
  obtain ⟨j, rfl⟩ := Int.eq_ofNat_of_zero_le hx0
  obtain ⟨b, off, rfl, hb, hc⟩ := hA1.2 (by omega)
  have hcj := hc j (by omega)
  have fin : Hid (∃ i, i < n ∧ Ending.returned (.int .i64 (nth zs j)) = .returned (.int .i64 (nth zs i))) := ⟨j, by omega, rfl⟩
  have HS := Lib.hid hS1; have HK := Lib.hid hk1
  clear hc hA1 hA ha hS hS1 hk1
  go_wp2
  go_ret
  exact ⟨fin.out, HS.out, HK.out⟩

theorem new_any (A : Option Addr) (n c : Nat) (zs : List Int) (w : World) (hA : Ints w w.heap.size A n zs) (hc : n ≤ c) (hn : (n : Int) ≤ 9223372036854775807) :
    Calls Try.prog 14 #[.slice A n c] w fun e w' => e = .returned (.pointer (some ⟨w.heap.size, 0, none⟩)) ∧ SrcAt w' w.heap.size ∧ Below w.heap.size w w' := by
  have hsrc : ∀ (m : Nat), m ≤ n → m ≤ 2000 → SrcAt (w.alloc (.cells #[.slice A m c, .int .i64 0] 87)) w.heap.size := by
    intro m h1 h2
    refine ⟨A, m, c, 0, zs.take m, Blk.new w _ _, ?_, Nat.zero_le _, h2⟩
    refine ⟨by simp [hA.1]; omega, fun hm => ?_⟩
    obtain ⟨b, off, e, hb, hc⟩ := (hA.alloc (Nat.le_refl _) (.cells #[.slice A m c, .int .i64 0] 87)).2 (by omega)
    exact ⟨b, off, e, hb, fun j hj => by rw [nth_take _ _ _ hj]; exact hc j (by omega)⟩
  have HSRC := Lib.hid hsrc; clear hsrc hA
  by_cases h2 : n ≤ 2000
  · go_enter Try.func14, Try.ntmps14
    go_wp2
    go_ret
    exact ⟨rfl, HSRC.out n (Nat.le_refl _) h2, balloc _ _⟩
  · go_enter Try.func14, Try.ntmps14
    go_wp2
    go_ret
    exact ⟨rfl, HSRC.out 2000 (by omega) (Nat.le_refl _), balloc _ _⟩
end Go.Proofs.Ythdibkmjoiipgaa
