/- Delay, Backlog and Peak of package deviation: what each returns. -/
import Derived.Test.YtbkimphcmmmaiaaGreat
import Derived.Test.YtbkimphcmmmaiaaDevPair
import Derived.Test.YtbkimphcmmmaiaaReach
import Derived.Deep.RegionHeld3
namespace Go.Proofs.Ytbkimphcmmmaiaa
open Go.RowKit
set_option linter.unusedVariables false

/-- a pair of curves in block P -/
structure DP (w : World) (P : Nat) (A : Option Addr) (n c : Nat) (a : Cv) (B : Option Addr) (m d : Nat) (b : Cv) (T : Int) (l : Bool) : Prop where
  blk : Blk w P 128 #[.slice A n c, .int .i64 a.per, .int .i64 a.inc, .slice B m d, .int .i64 b.per, .int .i64 b.inc, .int .i64 T, .bool l]
  ia : Ints w w.heap.size A n a.vals
  ib : Ints w w.heap.size B m b.vals
section
variable {w w' : World} {P n c m d : Nat} {A B : Option Addr} {a b : Cv} {T : Int} {l : Bool}
theorem DP.below (h : DP w P A n c a B m d b T l) (hb : Below w.heap.size w w') : DP w' P A n c a B m d b T l := ⟨h.blk.below hb h.blk.lt, h.ia.ext hb, h.ib.ext hb⟩
theorem DP.drew (h : DP w P A n c a B m d b T l) : DP w.drew P A n c a B m d b T l := ⟨h.blk, h.ia, h.ib⟩
theorem DP.cells (h : DP w P A n c a B m d b T l) : w.cell? ⟨P, 0, none⟩ = some (.slice A n c) ∧ w.cell? ⟨P, 1, none⟩ = some (.int .i64 a.per) ∧ w.cell? ⟨P, 2, none⟩ = some (.int .i64 a.inc) ∧
    w.cell? ⟨P, 3, none⟩ = some (.slice B m d) ∧ w.cell? ⟨P, 4, none⟩ = some (.int .i64 b.per) ∧ w.cell? ⟨P, 5, none⟩ = some (.int .i64 b.inc) ∧ P < w.heap.size := by
  have q0 := h.blk.cell 0; have q1 := h.blk.cell 1; have q2 := h.blk.cell 2; have q3 := h.blk.cell 3; have q4 := h.blk.cell 4; have q5 := h.blk.cell 5
  simp at q0 q1 q2 q3 q4 q5
  exact ⟨q0, q1, q2, q3, q4, q5, h.blk.lt⟩
theorem DP.cells2 (h : DP w P A n c a B m d b T l) : w.cell? ⟨P, 6, none⟩ = some (.int .i64 T) ∧ w.cell? ⟨P, 7, none⟩ = some (.bool l) := by
  have q0 := h.blk.cell 6; have q1 := h.blk.cell 7
  simp at q0 q1
  exact ⟨q0, q1⟩
end

/-- the wait at the tick t -/
def DelR (a b : Cv) (t : Nat) (d : Int) (ok : Bool) : Prop := ∃ r : Int, ExS (Geq b (a.at t)) r ok ∧ d = r - t
theorem at_small {a : Cv} (ha : a.Ok) {t : Nat} (ht : t ≤ 1000) : 0 ≤ a.at t ∧ (a.at t = inf ∨ a.at t ≤ 1125899906842624) := by
  refine ⟨ha.up0.nn t, ?_⟩
  rcases ha.fin_or with h | h
  · right
    have h1 := h.at_bd t
    have h2 : (t : Int) * 1073741824 ≤ 1000 * 1073741824 := Int.mul_le_mul_of_nonneg_right (by omega) (by omega)
    omega
  · by_cases hi : a.at t = inf
    · exact .inl hi
    · right
      have hlt : t < a.vals.length := by
        rcases Nat.lt_or_ge t a.vals.length with h' | h'
        · exact h'
        · exact absurd (ha.at_inf h (by omega)) hi
      rw [Cv.at_lt hlt] at hi ⊢
      have := ((okv_iff _).1 (ha.v t hlt)).resolve_left hi
      omega

set_option maxHeartbeats 1000000 in
theorem delay1_any (P : Nat) (A : Option Addr) (n c : Nat) (a : Cv) (B : Option Addr) (m d : Nat) (b : Cv) (T : Int) (l : Bool) (t : Nat) (w : World) (hE : DP w P A n c a B m d b T l) (ha : a.Ok) (hb : b.Ok) (ht : t ≤ 1000) :
    Calls Try.prog 111 #[.int .i64 t, .pointer (some ⟨P, 0, none⟩)] w (RetDi (DelR a b t) w) := by
  have E := Lib.hid hE
  have hl1 : a.vals.length = n := hE.ia.1
  have ha2 := ha.n2; have hap := ha.p1; have hai := ha.i1; have hai2 := ha.i2; have hapn := ha.pn
  rw [hl1] at ha2 hapn
  have HA := Lib.hid ha; have HB := Lib.hid hb
  have HS := Lib.hid (at_small ha ht)
  obtain ⟨x, hx⟩ : ∃ x, x = a.at t := ⟨_, rfl⟩
  have HX := Lib.hid hx
  have BW := Lib.hid (Below.refl w.heap.size w)
  clear hE hl1 ha hb hx
  go_enter Try.func111, Try.ntmps111
  obtain ⟨q0, q1, q2, q3, q4, q5, hlq⟩ := E.out.cells
  go_wp2_with fail
  go_region_held3 (fun w' => w'.cell? ⟨P, 0, none⟩ = some (.slice A n c) ∧ w'.cell? ⟨P, 1, none⟩ = some (.int .i64 a.per) ∧ w'.cell? ⟨P, 2, none⟩ = some (.int .i64 a.inc) ∧ w'.cell? ⟨P, 3, none⟩ = some (.slice B m d) ∧ w'.cell? ⟨P, 4, none⟩ = some (.int .i64 b.per) ∧ w'.cell? ⟨P, 5, none⟩ = some (.int .i64 b.inc)) (first | go_keep)
    (first
      | (go_at_call 90
         refine (at_any A n c a.per a.inc t a.vals _ (by exact E.out.drew.ia) (by omega) hap hapn hai (by omega) HA.out.nn (by omega) (by omega)).mono ?_
         rw [Int.toNat_natCast, show Cv.at ⟨a.vals, a.per, a.inc⟩ t = x from HX.out.symm]
         rintro e w1 ⟨rfl, hbq⟩
         have E := Lib.hid (E.out.drew.below hbq)
         have BW := Lib.hid (bthen (Below.drew BW.out) hbq)
         clear hbq
         clear q0 q1 q2 q3 q4 q5 hlq
         obtain ⟨q0, q1, q2, q3, q4, q5, hlq⟩ := E.out.cells
         dsimp only)
      | (go_at_call 112
         refine (reach_any B m d b.per b.inc x b.vals _ (by exact E.out.ib) HB.out (by rw [HX.out]; exact HS.out.1) (by rw [HX.out]; exact HS.out.2)).mono ?_
         rintro e w2 ⟨r, ok, hR, hr0, hr1, rfl, hbq⟩
         have HR := Lib.hid hR
         have E := Lib.hid (E.out.below hbq)
         have BW := Lib.hid (bthen BW.out hbq)
         clear hbq hR
         clear q0 q1 q2 q3 q4 q5 hlq
         obtain ⟨q0, q1, q2, q3, q4, q5, hlq⟩ := E.out.cells
         dsimp only))
  all_goals
    have bw := BW.out
    have F := Lib.hid (show DelR a b t (r - t) ok from ⟨r, by rw [← HX.out]; exact HR.out, rfl⟩)
    go_wp2_with fail
    go_ret2
    exact ⟨_, _, F.out, rfl, bw⟩

/-- the distance at the tick t, a being k ticks ahead -/
def AhR (a b : Cv) (k t : Nat) (d : Int) (ok : Bool) : Prop := (b.at t = inf ∧ d = 0 ∧ ok = true) ∨ (b.at t ≠ inf ∧ d = a.at (t + k) - b.at t ∧ ok = (a.at (t + k) != inf))
set_option maxHeartbeats 1000000 in
theorem ahead1_any (P D : Nat) (A : Option Addr) (n c : Nat) (a : Cv) (B : Option Addr) (m d : Nat) (b : Cv) (T : Int) (l : Bool) (t k : Nat) (w : World) (hE : DP w P A n c a B m d b T l) (hD : Blk w D 3 #[.int .i64 k]) (ha : a.Ok) (hb : b.Ok) (ht : t ≤ 1000) (hk : k ≤ 1) :
    Calls Try.prog 159 #[.int .i64 t, .pointer (some ⟨P, 0, none⟩), .pointer (some ⟨D, 0, none⟩)] w (RetDi (AhR a b k t) w) := by
  have E := Lib.hid hE
  have hl1 : a.vals.length = n := hE.ia.1
  have hl2 : b.vals.length = m := hE.ib.1
  have ha2 := ha.n2; have hap := ha.p1; have hai := ha.i1; have hai2 := ha.i2; have hapn := ha.pn
  have hb2 := hb.n2; have hbp := hb.p1; have hbi := hb.i1; have hbi2 := hb.i2; have hbpn := hb.pn
  rw [hl1] at ha2 hapn
  rw [hl2] at hb2 hbpn
  have HA := Lib.hid ha; have HB := Lib.hid hb
  have hs1 := ha.at_bd (n := t + k) (by omega); have hs2 := hb.at_bd (n := t) (by omega)
  have hx0 := hs1.1; have hx1 := hs1.2.1; have hy0 := hs2.1; have hy1 := hs2.2.1
  obtain ⟨x, hx⟩ : ∃ x, x = a.at (t + k) := ⟨_, rfl⟩
  obtain ⟨y, hy⟩ : ∃ y, y = b.at t := ⟨_, rfl⟩
  rw [← hx] at hx0 hx1
  rw [← hy] at hy0 hy1
  unfold inf at hx1 hy1
  have HX := Lib.hid hx; have HY := Lib.hid hy
  have BW := Lib.hid (Below.refl w.heap.size w)
  have HD := Lib.hid hD
  have e1 : IntKind.i64.wrap ((t : Int) + (k : Int)) = (t : Int) + (k : Int) := IntWalk.i64_in _ (by omega)
  have hneg : (t : Int) + (k : Int) ≤ 1001 := by omega
  clear hE hl1 hl2 ha hb hx hy hs1 hs2 hD
  go_enter Try.func159, Try.ntmps159
  obtain ⟨q0, q1, q2, q3, q4, q5, hlq⟩ := E.out.cells
  have z0 := HD.out.cell 0
  simp at z0
  have hlz := HD.out.lt
  go_wp2_with fail
  go_region_held3 (fun w' => w'.cell? ⟨P, 0, none⟩ = some (.slice A n c) ∧ w'.cell? ⟨P, 1, none⟩ = some (.int .i64 a.per) ∧ w'.cell? ⟨P, 2, none⟩ = some (.int .i64 a.inc) ∧ w'.cell? ⟨P, 3, none⟩ = some (.slice B m d) ∧ w'.cell? ⟨P, 4, none⟩ = some (.int .i64 b.per) ∧ w'.cell? ⟨P, 5, none⟩ = some (.int .i64 b.inc) ∧ w'.cell? ⟨D, 0, none⟩ = some (.int .i64 k)) (first | go_keep)
    (first
      | (go_at_call_of 90 (Value.int IntKind.i64 ((t : Int) + (k : Int)))
         refine (at_any A n c a.per a.inc _ a.vals _ (by exact E.out.drew.ia) (by omega) hap hapn hai (by omega) HA.out.nn (by omega) (by omega)).mono ?_
         rw [show ((t : Int) + (k : Int)).toNat = t + k by omega, show Cv.at ⟨a.vals, a.per, a.inc⟩ (t + k) = x from HX.out.symm]
         rintro e w1 ⟨rfl, hbq⟩
         have E := Lib.hid (E.out.drew.below hbq)
         have HD := Lib.hid (HD.out.drew.below hbq HD.out.lt)
         have BW := Lib.hid (bthen (Below.drew BW.out) hbq)
         clear hbq z0 hlz
         clear q0 q1 q2 q3 q4 q5 hlq
         obtain ⟨q0, q1, q2, q3, q4, q5, hlq⟩ := E.out.cells
         have z0 := HD.out.cell 0
         simp at z0
         have hlz := HD.out.lt
         dsimp only)
      | (go_at_call 90
         refine (at_any B m d b.per b.inc t b.vals _ (by exact E.out.ib) (by omega) hbp hbpn hbi (by omega) HB.out.nn (by omega) (by omega)).mono ?_
         rw [Int.toNat_natCast, show Cv.at ⟨b.vals, b.per, b.inc⟩ t = y from HY.out.symm]
         rintro e w2 ⟨rfl, hbq⟩
         have E := Lib.hid (E.out.below hbq)
         have HD := Lib.hid (HD.out.below hbq HD.out.lt)
         have BW := Lib.hid (bthen BW.out hbq)
         clear hbq z0 hlz
         clear q0 q1 q2 q3 q4 q5 hlq
         obtain ⟨q0, q1, q2, q3, q4, q5, hlq⟩ := E.out.cells
         have z0 := HD.out.cell 0
         simp at z0
         have hlz := HD.out.lt
         dsimp only))
  all_goals
    have bw := BW.out
    clear e1 hneg
    by_cases hyi : y = 4611686018427387904
    · have d1 : (y == 4611686018427387904) = true := by simpa using hyi
      have F := Lib.hid (show AhR a b k t 0 true from .inl ⟨by rw [← HY.out]; exact hyi, rfl, rfl⟩)
      clear hyi
      go_wp2_with fail
      go_ret2
      exact ⟨_, _, F.out, rfl, bw⟩
    · have d1 : (y == 4611686018427387904) = false := by simpa using hyi
      have F := Lib.hid (show AhR a b k t (x - y) (x != 4611686018427387904) from .inr ⟨by rw [← HY.out]; exact hyi, by rw [HX.out, HY.out], by rw [← HX.out]; rfl⟩)
      clear hyi
      go_wp2_with fail
      go_ret2
      exact ⟨_, _, F.out, rfl, bw⟩
end Go.Proofs.Ytbkimphcmmmaiaa
