/- Package order, the third part: Exceeds and AtMost. -/
import Derived.Deep.RegionHeld3
import Derived.Test.YtaejfleahamapaaGreatTa20
import Derived.Test.YtaejfleahamapaaGreatTa21
import Derived.Test.YtaejfleahamapaaGreatTa22
import Derived.Test.YtaejfleahamapaaGreatTa1
import Derived.Test.YtaejfleahamapaaGreatTa14
namespace Go.Proofs.YtaejfleahamapaaGreat
set_option linter.unusedVariables false
set_option linter.unusedSimpArgs false
section
open Go.RowKit
structure DP (w : World) (P : Nat) (A : Option Addr) (n c : Nat) (a : Cv) (B : Option Addr) (m d : Nat) (b : Cv) (T : Int) (l : Bool) : Prop where
 blk : Blk w P 102 #[.slice A n c, .int .i64 a.per, .int .i64 a.inc, .slice B m d, .int .i64 b.per, .int .i64 b.inc, .int .i64 T, .bool l]
 ia : Ints w w.heap.size A n a.vals
 ib : Ints w w.heap.size B m b.vals
section
variable {w w' : World} {P n c m d : Nat} {A B : Option Addr} {a b : Cv} {T : Int} {l : Bool}
theorem DP.below (h : DP w P A n c a B m d b T l) (hb : Below w.heap.size w w') : DP w' P A n c a B m d b T l := ⟨h.blk.below hb h.blk.lt, h.ia.ext hb, h.ib.ext hb⟩
theorem DP.drew (h : DP w P A n c a B m d b T l) : DP w.drew P A n c a B m d b T l := ⟨h.blk, h.ia, h.ib⟩
theorem DP.cells (h : DP w P A n c a B m d b T l) : w.cell? ⟨P, 0, none⟩ = some (.slice A n c) ∧ w.cell? ⟨P, 1, none⟩ = some (.int .i64 a.per) ∧ w.cell? ⟨P, 2, none⟩ = some (.int .i64 a.inc) ∧
 w.cell? ⟨P, 3, none⟩ = some (.slice B m d) ∧ w.cell? ⟨P, 4, none⟩ = some (.int .i64 b.per) ∧ w.cell? ⟨P, 5, none⟩ = some (.int .i64 b.inc) ∧ P < w.heap.size := by
 have q0 := h.blk.cell 0; have q1 := h.blk.cell 1; have q2 := h.blk.cell 2; have q3 := h.blk.cell 3; have q4 := h.blk.cell 4; have q5 := h.blk.cell 5
 simp at q0 q1 q2 q3 q4 q5
 exact ⟨q0, q1, q2, q3, q4, q5, h.blk.lt⟩
theorem DP.cells2 (h : DP w P A n c a B m d b T l) : w.cell? ⟨P, 6, none⟩ = some (.int .i64 T) ∧ w.cell? ⟨P, 7, none⟩ = some (.bool l) := by
 have q0 := h.blk.cell 6; have q1 := h.blk.cell 7
 simp at q0 q1
 exact ⟨q0, q1⟩
end
def DelR (a b : Cv) (t : Nat) (d : Int) (ok : Bool) : Prop := ∃ r : Int, ExS (Geq b (a.at t)) r ok ∧ d = r - t
theorem at_small {a : Cv} (ha : a.Ok) {t : Nat} (ht : t ≤ 1000) : 0 ≤ a.at t ∧ (a.at t = inf ∨ a.at t ≤ 1125899906842624) := by
 refine ⟨ha.up0.nn t, ?_⟩
 rcases ha.fin_or with h | h
 ·right
  have h1 := h.at_bd t
  have h2 : (t : Int) * 1073741824 ≤ 1000 * 1073741824 := Int.mul_le_mul_of_nonneg_right (by omega) (by omega)
  omega
 ·by_cases hi : a.at t = inf
  ·exact .inl hi
  ·right
   have hlt : t < a.vals.length := by
    rcases Nat.lt_or_ge t a.vals.length with h' | h'
    ·exact h'
    ·exact absurd (ha.at_inf h (by omega)) hi
   rw [Cv.at_lt hlt] at hi ⊢
   have := ((okv_iff _).1 (ha.v t hlt)).resolve_left hi
   omega
set_option maxHeartbeats 1000000 in
theorem delay1_any (P : Nat) (A : Option Addr) (n c : Nat) (a : Cv) (B : Option Addr) (m d : Nat) (b : Cv) (T : Int) (l : Bool) (t : Nat) (w : World) (hE : DP w P A n c a B m d b T l) (ha : a.Ok) (hb : b.Ok) (ht : t ≤ 1000) :
 Calls Tryz.prog 50 #[.int .i64 t, .pointer (some ⟨P, 0, none⟩)] w (RetDi (DelR a b t) w) := by
 have E := hi_ hE
 have hl1 : a.vals.length = n := hE.ia.1
 have ha2 := ha.n2; have hap := ha.p1; have hai := ha.i1; have hai2 := ha.i2; have hapn := ha.pn
 rw [hl1] at ha2 hapn
 have HA := hi_ ha; have HB := hi_ hb
 have HS := hi_ (at_small ha ht)
 obtain ⟨x, hx⟩ : ∃ x, x = a.at t := ⟨_, rfl⟩
 have HX := hi_ hx
 have BW := hi_ (Below.refl w.heap.size w)
 clear hE hl1 ha hb hx
 go_enter Tryz.func50, Tryz.ntmps50
 obtain ⟨q0, q1, q2, q3, q4, q5, hlq⟩ := E.out.cells
 go_wp2_with fail
 go_region_held3 (fun w' => w'.cell? ⟨P, 0, none⟩ = some (.slice A n c) ∧ w'.cell? ⟨P, 1, none⟩ = some (.int .i64 a.per) ∧ w'.cell? ⟨P, 2, none⟩ = some (.int .i64 a.inc) ∧ w'.cell? ⟨P, 3, none⟩ = some (.slice B m d) ∧ w'.cell? ⟨P, 4, none⟩ = some (.int .i64 b.per) ∧ w'.cell? ⟨P, 5, none⟩ = some (.int .i64 b.inc)) (first | go_keep)
  (first
   | (go_at_call 43
      refine (at_any A n c a.per a.inc t a.vals _ (by exact E.out.drew.ia) (by omega) hap hapn hai (by omega) HA.out.nn (by omega) (by omega)).mono ?_
      rw [Int.toNat_natCast, show Cv.at ⟨a.vals, a.per, a.inc⟩ t = x from HX.out.symm]
      rintro e w1 ⟨rfl, hbq⟩
      have E := hi_ (E.out.drew.below hbq)
      have BW := hi_ (bthen (Below.drew BW.out) hbq)
      clear hbq
      clear q0 q1 q2 q3 q4 q5 hlq
      obtain ⟨q0, q1, q2, q3, q4, q5, hlq⟩ := E.out.cells
      dsimp only)
   | (go_at_call 51
      refine (reach_any B m d b.per b.inc x b.vals _ (by exact E.out.ib) HB.out (by rw [HX.out]; exact HS.out.1) (by rw [HX.out]; exact HS.out.2)).mono ?_
      rintro e w2 ⟨r, ok, hR, hr0, hr1, rfl, hbq⟩
      have HR := hi_ hR
      have E := hi_ (E.out.below hbq)
      have BW := hi_ (bthen BW.out hbq)
      clear hbq hR
      clear q0 q1 q2 q3 q4 q5 hlq
      obtain ⟨q0, q1, q2, q3, q4, q5, hlq⟩ := E.out.cells
      dsimp only))
 all_goals
  have bw := BW.out
  have F := hi_ (show DelR a b t (r - t) ok from ⟨r, by rw [← HX.out]; exact HR.out, rfl⟩)
  go_wp2_with fail
  go_ret2
  exact ⟨_, _, F.out, rfl, bw⟩
def AhR (a b : Cv) (k t : Nat) (d : Int) (ok : Bool) : Prop := (b.at t = inf ∧ d = 0 ∧ ok = true) ∨ (b.at t ≠ inf ∧ d = a.at (t + k) - b.at t ∧ ok = (a.at (t + k) != inf))
set_option maxHeartbeats 1000000 in
theorem ahead1_any (P D : Nat) (A : Option Addr) (n c : Nat) (a : Cv) (B : Option Addr) (m d : Nat) (b : Cv) (T : Int) (l : Bool) (t k : Nat) (w : World) (hE : DP w P A n c a B m d b T l) (hD : Blk w D 3 #[.int .i64 k]) (ha : a.Ok) (hb : b.Ok) (ht : t ≤ 1000) (hk : k ≤ 1) :
 Calls Tryz.prog 114 #[.int .i64 t, .pointer (some ⟨P, 0, none⟩), .pointer (some ⟨D, 0, none⟩)] w (RetDi (AhR a b k t) w) := by
 have E := hi_ hE
 have hl1 : a.vals.length = n := hE.ia.1
 have hl2 : b.vals.length = m := hE.ib.1
 have ha2 := ha.n2; have hap := ha.p1; have hai := ha.i1; have hai2 := ha.i2; have hapn := ha.pn
 have hb2 := hb.n2; have hbp := hb.p1; have hbi := hb.i1; have hbi2 := hb.i2; have hbpn := hb.pn
 rw [hl1] at ha2 hapn
 rw [hl2] at hb2 hbpn
 have HA := hi_ ha; have HB := hi_ hb
 have hs1 := ha.at_bd (n := t + k) (by omega); have hs2 := hb.at_bd (n := t) (by omega)
 have hx0 := hs1.1; have hx1 := hs1.2.1; have hy0 := hs2.1; have hy1 := hs2.2.1
 obtain ⟨x, hx⟩ : ∃ x, x = a.at (t + k) := ⟨_, rfl⟩
 obtain ⟨y, hy⟩ : ∃ y, y = b.at t := ⟨_, rfl⟩
 rw [← hx] at hx0 hx1
 rw [← hy] at hy0 hy1
 unfold inf at hx1 hy1
 have HX := hi_ hx; have HY := hi_ hy
 have BW := hi_ (Below.refl w.heap.size w)
 have HD := hi_ hD
 have e1 : IntKind.i64.wrap ((t : Int) + (k : Int)) = (t : Int) + (k : Int) := IntWalk.i64_in _ (by omega)
 have hneg : (t : Int) + (k : Int) ≤ 1001 := by omega
 clear hE hl1 hl2 ha hb hx hy hs1 hs2 hD
 go_enter Tryz.func114, Tryz.ntmps114
 obtain ⟨q0, q1, q2, q3, q4, q5, hlq⟩ := E.out.cells
 have z0 := HD.out.cell 0
 simp at z0
 have hlz := HD.out.lt
 go_wp2_with fail
 go_region_held3 (fun w' => w'.cell? ⟨P, 0, none⟩ = some (.slice A n c) ∧ w'.cell? ⟨P, 1, none⟩ = some (.int .i64 a.per) ∧ w'.cell? ⟨P, 2, none⟩ = some (.int .i64 a.inc) ∧ w'.cell? ⟨P, 3, none⟩ = some (.slice B m d) ∧ w'.cell? ⟨P, 4, none⟩ = some (.int .i64 b.per) ∧ w'.cell? ⟨P, 5, none⟩ = some (.int .i64 b.inc) ∧ w'.cell? ⟨D, 0, none⟩ = some (.int .i64 k)) (first | go_keep)
  (first
   | (go_at_call_of 43 (Value.int IntKind.i64 ((t : Int) + (k : Int)))
      refine (at_any A n c a.per a.inc _ a.vals _ (by exact E.out.drew.ia) (by omega) hap hapn hai (by omega) HA.out.nn (by omega) (by omega)).mono ?_
      rw [show ((t : Int) + (k : Int)).toNat = t + k by omega, show Cv.at ⟨a.vals, a.per, a.inc⟩ (t + k) = x from HX.out.symm]
      rintro e w1 ⟨rfl, hbq⟩
      have E := hi_ (E.out.drew.below hbq)
      have HD := hi_ (HD.out.drew.below hbq HD.out.lt)
      have BW := hi_ (bthen (Below.drew BW.out) hbq)
      clear hbq z0 hlz
      clear q0 q1 q2 q3 q4 q5 hlq
      obtain ⟨q0, q1, q2, q3, q4, q5, hlq⟩ := E.out.cells
      have z0 := HD.out.cell 0
      simp at z0
      have hlz := HD.out.lt
      dsimp only)
   | (go_at_call 43
      refine (at_any B m d b.per b.inc t b.vals _ (by exact E.out.ib) (by omega) hbp hbpn hbi (by omega) HB.out.nn (by omega) (by omega)).mono ?_
      rw [Int.toNat_natCast, show Cv.at ⟨b.vals, b.per, b.inc⟩ t = y from HY.out.symm]
      rintro e w2 ⟨rfl, hbq⟩
      have E := hi_ (E.out.below hbq)
      have HD := hi_ (HD.out.below hbq HD.out.lt)
      have BW := hi_ (bthen BW.out hbq)
      clear hbq z0 hlz
      clear q0 q1 q2 q3 q4 q5 hlq
      obtain ⟨q0, q1, q2, q3, q4, q5, hlq⟩ := E.out.cells
      have z0 := HD.out.cell 0
      simp at z0
      have hlz := HD.out.lt
      dsimp only))
 all_goals
  have bw := BW.out
  clear e1 hneg
  by_cases hyi : y = 4611686018427387904
  ·have d1 : (y == 4611686018427387904) = true := by simpa using hyi
   have F := hi_ (show AhR a b k t 0 true from .inl ⟨by rw [← HY.out]; exact hyi, rfl, rfl⟩)
   clear hyi
   go_wp2_with fail
   go_ret2
   exact ⟨_, _, F.out, rfl, bw⟩
  ·have d1 : (y == 4611686018427387904) = false := by simpa using hyi
   have F := hi_ (show AhR a b k t (x - y) (x != 4611686018427387904) from .inr ⟨by rw [← HY.out]; exact hyi, by rw [HX.out, HY.out], by rw [← HX.out]; rfl⟩)
   clear hyi
   go_wp2_with fail
   go_ret2
   exact ⟨_, _, F.out, rfl, bw⟩
end
section
open Go.RowKit
def DevE (S : Bool → Nat → Nat → Prop) (f g : Cv) (i : Bool) (v A er : Int) : Prop :=
 (BothBad f g er ∧ i = false ∧ v = 0 ∧ A = 0) ∨ (f.Ok ∧ g.Ok ∧ (∃ a b, NF f.at a ∧ NF g.at b ∧ comm a.per.toNat b.per.toNat ≤ 120) ∧ er = 0 ∧ ∃ v' A' : Nat, v = v' ∧ A = A' ∧ S i v' A')
theorem BothBad.not {f g : Cv} {e : Int} (h : BothBad f g e) (hf : f.Ok) (hg : g.Ok) : ¬ ∃ a b, NF f.at a ∧ NF g.at b ∧ comm a.per.toNat b.per.toNat ≤ 120 := by
 rintro ⟨a, b, ha, hb, hc⟩
 rcases h with ⟨h0, _⟩ | ⟨_, _, _, a', b', ha', hb', hc'⟩
 ·exact h0 ⟨hf, hg⟩
 ·rw [ha.unique ha', hb.unique hb'] at hc
  omega
def RetDv (S : Bool → Nat → Nat → Prop) (f g : Cv) (w : World) (e : Ending) (w' : World) : Prop :=
 ∃ i v A er, DevE S f g i v A er ∧ e = .returned (.tuple #[.agg #[.bool i, .int .i64 v, .int .i64 A], .int .i64 er]) ∧ Below w.heap.size w w'
def DelII (a b : Cv) (k : Nat) (v A : Int) : Prop := ∃ v' A' : Nat, v = v' ∧ A = A' ∧ DelI a b k v' A'
theorem del_step {a b : Cv} (ha : a.Ok) (hb : b.Ok) {k : Nat} (hk : k ≤ 1000) {v A d : Int} (h : DelII a b k v A) (hR : DelR a b k d true) : (v < d → DelII a b (k + 1) d k) ∧ (¬ v < d → DelII a b (k + 1) v A) := by
 obtain ⟨v', A', rfl, rfl, h⟩ := h
 obtain ⟨r, hx, rfl⟩ := hR
 rcases hx with ⟨_, n, rfl, h1, h2⟩ | ⟨hx, _⟩
 ·have h3 := (geq_le (g := b) ha (t := k) (by omega) n).1 h1
  have h4 : ∀ m, m < n → ¬ LeAt a b k m := fun m hm h5 => h2 m hm ((geq_le ha (by omega) m).2 h5)
  refine ⟨fun hv => ⟨n - k, k, by omega, rfl, ?_⟩, fun hv => ⟨v', A', rfl, rfl, ?_⟩⟩
  ·exact h.more hb h3 h4 (by omega)
  ·exact h.less hb h3 (by omega)
 ·cases hx
theorem del_bad {a b : Cv} (ha : a.Ok) {k : Nat} (hk : k ≤ 1000) {d : Int} (hR : DelR a b k d false) : DelayS a b true 0 0 := by
 obtain ⟨r, hx, _⟩ := hR
 rcases hx with ⟨hx, _⟩ | ⟨_, _, hx⟩
 ·cases hx
 ·exact not_db (t := k) (fun n h => hx n ((geq_le ha (by omega) n).2 h))
def AhII (a b : Cv) (j k : Nat) (v A : Int) : Prop := ∃ v' A' : Nat, v = v' ∧ A = A' ∧ AhI a b j k v' A'
theorem ah_step {a b : Cv} (ha : a.Ok) (hb : b.Ok) {j k : Nat} (hj : j ≤ 1) (hk : k ≤ 1000) {v A d : Int} (h : AhII a b j k v A) (hR : AhR a b j k d true) : (v < d → AhII a b j (k + 1) d k) ∧ (¬ v < d → AhII a b j (k + 1) v A) := by
 obtain ⟨v', A', rfl, rfl, h⟩ := h
 have hbb := hb.at_bd (n := k) (by omega)
 have haa := ha.at_bd (n := k + j) (by omega)
 rcases hR with ⟨h1, rfl, _⟩ | ⟨h1, rfl, h2⟩
 ·exact ⟨fun hv => by omega, fun _ => ⟨v', A', rfl, rfl, h.less (.inl (hbb.2.2 h1))⟩⟩
 ·have h3 : ¬ b.infAt k := fun h => h1 h.2
  have h4 : a.at (k + j) ≠ inf := by
   have := h2.symm; rwa [bne_iff_ne] at this
  have h5 : ¬ a.infAt (k + j) := fun h => h4 h.2
  refine ⟨fun hv => ?_, fun hv => ?_⟩
  ·obtain ⟨D, hD⟩ := Int.eq_ofNat_of_zero_le (show 0 ≤ a.at (k + j) - b.at k by omega)
   rw [hD] at hv ⊢
   exact ⟨D, k, rfl, rfl, h.more h3 h5 (by omega) (by omega)⟩
  ·exact ⟨v', A', rfl, rfl, h.less (.inr ⟨h5, by omega⟩)⟩
theorem ah_bad {a b : Cv} (ha : a.Ok) (hb : b.Ok) {j k : Nat} (hj : j ≤ 1) (hk : k ≤ 1000) {d : Int} (hR : AhR a b j k d false) : AheadS a b j true 0 0 := by
 rcases hR with ⟨_, _, h⟩ | ⟨h1, _, h2⟩
 ·cases h
 ·have haa := ha.at_bd (n := k + j) (by omega)
  have h4 : a.at (k + j) = inf := by
   have := h2.symm
   rw [bne_eq_false_iff_eq] at this
   exact this
  exact not_ab (fun h => h1 h.2) (haa.2.2 h4)
set_option maxHeartbeats 2000000 in
set_option maxRecDepth 100000 in
theorem delay_any (A B : Option Addr) (n m c d : Nat) (p i q j : Int) (xs ys : List Int) (w : World) (hA : Ints w w.heap.size A n xs) (hB : Ints w w.heap.size B m ys) (hn : (n : Int) ≤ 1000000) (hm : (m : Int) ≤ 1000000) :
 Calls Tryz.prog 11 #[.agg #[.slice A n c, .int .i64 p, .int .i64 i], .agg #[.slice B m d, .int .i64 q, .int .i64 j]] w (RetDv (DelayS ⟨xs, p, i⟩ ⟨ys, q, j⟩) ⟨xs, p, i⟩ ⟨ys, q, j⟩ w) := by
 have P := hi_ ((PS.new (c := c) (p := p) (i := i) (d := d) (q := q) (j := j) hA hB).alloc (.cells #[.bool false, .int .i64 0, .int .i64 0] 35))
 have rb := Blk.new ((w.alloc (.cells #[.slice A n c, .int .i64 p, .int .i64 i] 26)).alloc (.cells #[.slice B m d, .int .i64 q, .int .i64 j] 26)) 35 #[.bool false, .int .i64 0, .int .i64 0]
 rw [World.size_alloc, World.size_alloc] at rb
 have RB := hi_ rb
 clear hA hB rb
 go_enter Tryz.func11, Tryz.ntmps11
 go_wp2_with fail
 refine (dboth_any A B n m c d p i q j xs ys _ P.out.ia P.out.ib hn hm).mono ?_
 rintro e w1 hret
 have hs0 := RB.out.lt
 rcases hret with ⟨er, hbad, rfl, hb⟩ | ⟨hf, hg, a, b, A1, n1, c1, A2, n2, c2, l, hna, hnb, hao, hbo, hc, hl, rfl, hI1, hI2, hA1, hA2, hb⟩
 ·have P := hi_ (P.out.below hb)
  have RB := hi_ (RB.out.below hb RB.out.lt)
  clear hb
  obtain ⟨r0, r1, r2⟩ : _ ∧ _ ∧ _ := ⟨RB.out.cell 0, RB.out.cell 1, RB.out.cell 2⟩
  simp at r0 r1 r2
  have y0 := RB.out.frozen 0; have y1 := RB.out.frozen 1; have y2 := RB.out.frozen 2
  have hlr := RB.out.lt
  have F := hi_ (show DevE (DelayS ⟨xs, p, i⟩ ⟨ys, q, j⟩) ⟨xs, p, i⟩ ⟨ys, q, j⟩ false 0 0 er from .inl ⟨hbad, rfl, rfl, rfl⟩)
  have hne : (er != 0) = true := by rcases hbad with ⟨_, rfl⟩ | ⟨_, _, rfl, _⟩ <;> rfl
  clear hbad
  unfold zero8
  go_wp2_with fail
  have rb := (RB.out.store3 (.bool false) (.int .i64 0) (.int .i64 0)).alloc (.cells #[.slice none 0 0, .int .i64 0, .int .i64 0, .slice none 0 0, .int .i64 0, .int .i64 0, .int .i64 0, .bool false] 102)
  have bw := P.out.bw
  exact bodyPost_ret (v := .tuple #[.agg #[.bool false, .int .i64 0, .int .i64 0], .int .i64 er]) (by simp [results, Tryz.results11, go_sem, rb.cell]) rfl ⟨_, _, _, _, F.out, rfl, bthen (b3store bw (by omega)) (balloc _ _)⟩
 ·unfold dpA
  have ob := ord_b hao hbo
  have hT : ordF a b + ordC a b ≤ 1000 := by
   have h1 := hao.n2; have h2 := hbo.n2
   unfold ordF
   have h3 : ordC a b ≤ 120 := hc
   omega
  obtain ⟨T, hTe⟩ : ∃ T, T = ordF a b + ordC a b := ⟨_, rfl⟩
  rw [← hTe] at hT
  rw [← hTe]
  have EX := hi_ (show ∃ a b, NF (Cv.at ⟨xs, p, i⟩) a ∧ NF (Cv.at ⟨ys, q, j⟩) b ∧ comm a.per.toNat b.per.toNat ≤ 120 from ⟨a, b, hna, hnb, hc⟩)
  have E := hi_ (show DP (w1.alloc (.cells #[.slice A1 n1 c1, .int .i64 a.per, .int .i64 a.inc, .slice A2 n2 c2, .int .i64 b.per, .int .i64 b.inc, .int .i64 T, .bool l] 102)) w1.heap.size A1 n1 c1 a A2 n2 c2 b T l from ⟨Blk.new _ _ _, hI1.alloc' _, hI2.alloc' _⟩)
  have RB := hi_ ((RB.out.below hb RB.out.lt).alloc (.cells #[.slice A1 n1 c1, .int .i64 a.per, .int .i64 a.inc, .slice A2 n2 c2, .int .i64 b.per, .int .i64 b.inc, .int .i64 T, .bool l] 102))
  have BW := hi_ (bthen (bthen P.out.bw hb) (balloc _ (.cells #[.slice A1 n1 c1, .int .i64 a.per, .int .i64 a.inc, .slice A2 n2 c2, .int .i64 b.per, .int .i64 b.inc, .int .i64 T, .bool l] 102)))
  have HF := hi_ hf; have HG := hi_ hg; have HNA := hi_ hna; have HNB := hi_ hnb; have HAO := hi_ hao; have HBO := hi_ hbo; have HL := hi_ hl; have HTE := hi_ hTe
  clear P hb hf hg hna hnb hao hbo hl hTe hI1 hI2 hA1 hA2 hc ob
  cases l
  case true =>
   have F := hi_ (show DevE (DelayS ⟨xs, p, i⟩ ⟨ys, q, j⟩) ⟨xs, p, i⟩ ⟨ys, q, j⟩ true 0 0 0 from .inr ⟨HF.out, HG.out, EX.out, rfl, 0, 0, rfl, rfl, (loose_del HAO.out (HL.out.1 rfl)).nf HF.out HG.out HNA.out HNB.out⟩)
   obtain ⟨r0, r1, r2⟩ : _ ∧ _ ∧ _ := ⟨RB.out.cell 0, RB.out.cell 1, RB.out.cell 2⟩
   simp at r0 r1 r2
   have y0 := RB.out.frozen 0; have y1 := RB.out.frozen 1; have y2 := RB.out.frozen 2
   have hlr := RB.out.lt
   go_wp2_with fail
   have rb := RB.out.store3 (.bool true) (.int .i64 0) (.int .i64 0)
   exact bodyPost_ret (v := .tuple #[.agg #[.bool true, .int .i64 0, .int .i64 0], .int .i64 0]) (by simp [results, Tryz.results11, go_sem, rb.cell]) rfl ⟨_, _, _, _, F.out, rfl, b3store BW.out (by omega)⟩
  case false =>
   have HNL := hi_ (show ¬ Loose a b from fun h => by have := HL.out.2 h; cases this)
   obtain ⟨q6, q7⟩ := E.out.cells2
   have hle := E.out.blk.lt
   go_wp2_with fail
   refine (greatest_any 50 #[.pointer (some ⟨w1.heap.size, 0, none⟩)] T (DelR a b) (DelII a b) (DelayS a b true 0 0) _ hT ⟨0, 0, rfl, rfl, DelI.zero a b⟩
    (fun k v A d hk hI hR => del_step HAO.out HBO.out (by omega) hI hR) (fun k d hk hR => del_bad HAO.out (by omega) hR)
    (fun t w2 ht hb => delay1_any w1.heap.size A1 n1 c1 a A2 n2 c2 b T false t w2 (E.out.below hb) HAO.out HBO.out (by omega)) (fun x w => by kernel_rfl)).mono ?_
   rintro e w2 hret
   rcases hret with ⟨hQ, rfl, hb⟩ | ⟨v, A', hI, rfl, hb⟩
   ·have F := hi_ (show DevE (DelayS ⟨xs, p, i⟩ ⟨ys, q, j⟩) ⟨xs, p, i⟩ ⟨ys, q, j⟩ true 0 0 0 from .inr ⟨HF.out, HG.out, EX.out, rfl, 0, 0, rfl, rfl, hQ.nf HF.out HG.out HNA.out HNB.out⟩)
    have RB := hi_ (RB.out.below hb RB.out.lt); have BW := hi_ (bthen BW.out hb)
    clear hb hQ
    obtain ⟨r0, r1, r2⟩ : _ ∧ _ ∧ _ := ⟨RB.out.cell 0, RB.out.cell 1, RB.out.cell 2⟩
    simp at r0 r1 r2
    have y0 := RB.out.frozen 0; have y1 := RB.out.frozen 1; have y2 := RB.out.frozen 2
    have hlr := RB.out.lt
    go_wp2_with fail
    have rb := RB.out.store3 (.bool true) (.int .i64 0) (.int .i64 0)
    exact bodyPost_ret (v := .tuple #[.agg #[.bool true, .int .i64 0, .int .i64 0], .int .i64 0]) (by simp [results, Tryz.results11, go_sem, rb.cell]) rfl ⟨_, _, _, _, F.out, rfl, b3store BW.out (by omega)⟩
   ·have F := hi_ (show DevE (DelayS ⟨xs, p, i⟩ ⟨ys, q, j⟩) ⟨xs, p, i⟩ ⟨ys, q, j⟩ false v A' 0 from .inr ⟨HF.out, HG.out, EX.out, rfl, by
     obtain ⟨v', A'', rfl, rfl, h⟩ := hI
     exact ⟨v', A'', rfl, rfl, (h.done HAO.out HBO.out HNL.out (by rw [HTE.out]; exact Nat.le_refl _)).nf HF.out HG.out HNA.out HNB.out⟩⟩)
    have RB := hi_ (RB.out.below hb RB.out.lt); have BW := hi_ (bthen BW.out hb)
    clear hb hI
    obtain ⟨r0, r1, r2⟩ : _ ∧ _ ∧ _ := ⟨RB.out.cell 0, RB.out.cell 1, RB.out.cell 2⟩
    simp at r0 r1 r2
    have y0 := RB.out.frozen 0; have y1 := RB.out.frozen 1; have y2 := RB.out.frozen 2
    have hlr := RB.out.lt
    go_wp2_with fail
    have rb := RB.out.store3 (.bool false) (.int .i64 v) (.int .i64 A')
    exact bodyPost_ret (v := .tuple #[.agg #[.bool false, .int .i64 v, .int .i64 A'], .int .i64 0]) (by simp [results, Tryz.results11, go_sem, rb.cell]) rfl ⟨_, _, _, _, F.out, rfl, b3store BW.out (by omega)⟩
set_option maxHeartbeats 2000000 in
set_option maxRecDepth 100000 in
theorem ahead_any (K : Nat) (hK : K ≤ 1) (A B : Option Addr) (n m c d : Nat) (p i q j : Int) (xs ys : List Int) (w : World) (hA : Ints w w.heap.size A n xs) (hB : Ints w w.heap.size B m ys) (hn : (n : Int) ≤ 1000000) (hm : (m : Int) ≤ 1000000) :
 Calls Tryz.prog 82 #[.agg #[.slice A n c, .int .i64 p, .int .i64 i], .agg #[.slice B m d, .int .i64 q, .int .i64 j], .int .i64 K] w (RetDv (AheadS ⟨xs, p, i⟩ ⟨ys, q, j⟩ K) ⟨xs, p, i⟩ ⟨ys, q, j⟩ w) := by
 have P := hi_ (((PS.new (c := c) (p := p) (i := i) (d := d) (q := q) (j := j) hA hB).alloc (.cells #[.int .i64 K] 3)).alloc (.cells #[.bool false, .int .i64 0, .int .i64 0] 35))
 have db := (Blk.new ((w.alloc (.cells #[.slice A n c, .int .i64 p, .int .i64 i] 26)).alloc (.cells #[.slice B m d, .int .i64 q, .int .i64 j] 26)) 3 #[.int .i64 K]).alloc (.cells #[.bool false, .int .i64 0, .int .i64 0] 35)
 rw [World.size_alloc, World.size_alloc] at db
 have DB := hi_ db
 clear db
 have rb := Blk.new (((w.alloc (.cells #[.slice A n c, .int .i64 p, .int .i64 i] 26)).alloc (.cells #[.slice B m d, .int .i64 q, .int .i64 j] 26)).alloc (.cells #[.int .i64 K] 3)) 35 #[.bool false, .int .i64 0, .int .i64 0]
 rw [World.size_alloc, World.size_alloc, World.size_alloc] at rb
 have RB := hi_ rb
 clear hA hB rb
 go_enter Tryz.func82, Tryz.ntmps82
 go_wp2_with fail
 refine (dboth_any A B n m c d p i q j xs ys _ P.out.ia P.out.ib hn hm).mono ?_
 rintro e w1 hret
 have hs0 := RB.out.lt
 rcases hret with ⟨er, hbad, rfl, hb⟩ | ⟨hf, hg, a, b, A1, n1, c1, A2, n2, c2, l, hna, hnb, hao, hbo, hc, hl, rfl, hI1, hI2, hA1, hA2, hb⟩
 ·have P := hi_ (P.out.below hb)
  have RB := hi_ (RB.out.below hb RB.out.lt)
  clear hb
  obtain ⟨r0, r1, r2⟩ : _ ∧ _ ∧ _ := ⟨RB.out.cell 0, RB.out.cell 1, RB.out.cell 2⟩
  simp at r0 r1 r2
  have y0 := RB.out.frozen 0; have y1 := RB.out.frozen 1; have y2 := RB.out.frozen 2
  have hlr := RB.out.lt
  have F := hi_ (show DevE (AheadS ⟨xs, p, i⟩ ⟨ys, q, j⟩ K) ⟨xs, p, i⟩ ⟨ys, q, j⟩ false 0 0 er from .inl ⟨hbad, rfl, rfl, rfl⟩)
  have hne : (er != 0) = true := by rcases hbad with ⟨_, rfl⟩ | ⟨_, _, rfl, _⟩ <;> rfl
  clear hbad
  unfold zero8
  go_wp2_with fail
  have rb := (RB.out.store3 (.bool false) (.int .i64 0) (.int .i64 0)).alloc (.cells #[.slice none 0 0, .int .i64 0, .int .i64 0, .slice none 0 0, .int .i64 0, .int .i64 0, .int .i64 0, .bool false] 102)
  have bw := P.out.bw
  exact bodyPost_ret (v := .tuple #[.agg #[.bool false, .int .i64 0, .int .i64 0], .int .i64 er]) (by simp [results, Tryz.results82, go_sem, rb.cell]) rfl ⟨_, _, _, _, F.out, rfl, bthen (b3store bw (by omega)) (balloc _ _)⟩
 ·unfold dpA
  have ob := ord_b hao hbo
  have hT : ordF a b + ordC a b ≤ 1000 := by
   have h1 := hao.n2; have h2 := hbo.n2
   unfold ordF
   have h3 : ordC a b ≤ 120 := hc
   omega
  obtain ⟨T, hTe⟩ : ∃ T, T = ordF a b + ordC a b := ⟨_, rfl⟩
  rw [← hTe] at hT
  rw [← hTe]
  have EX := hi_ (show ∃ a b, NF (Cv.at ⟨xs, p, i⟩) a ∧ NF (Cv.at ⟨ys, q, j⟩) b ∧ comm a.per.toNat b.per.toNat ≤ 120 from ⟨a, b, hna, hnb, hc⟩)
  have E := hi_ (show DP (w1.alloc (.cells #[.slice A1 n1 c1, .int .i64 a.per, .int .i64 a.inc, .slice A2 n2 c2, .int .i64 b.per, .int .i64 b.inc, .int .i64 T, .bool l] 102)) w1.heap.size A1 n1 c1 a A2 n2 c2 b T l from ⟨Blk.new _ _ _, hI1.alloc' _, hI2.alloc' _⟩)
  have RB := hi_ ((RB.out.below hb RB.out.lt).alloc (.cells #[.slice A1 n1 c1, .int .i64 a.per, .int .i64 a.inc, .slice A2 n2 c2, .int .i64 b.per, .int .i64 b.inc, .int .i64 T, .bool l] 102))
  have DB := hi_ ((DB.out.below hb DB.out.lt).alloc (.cells #[.slice A1 n1 c1, .int .i64 a.per, .int .i64 a.inc, .slice A2 n2 c2, .int .i64 b.per, .int .i64 b.inc, .int .i64 T, .bool l] 102))
  have BW := hi_ (bthen (bthen P.out.bw hb) (balloc _ (.cells #[.slice A1 n1 c1, .int .i64 a.per, .int .i64 a.inc, .slice A2 n2 c2, .int .i64 b.per, .int .i64 b.inc, .int .i64 T, .bool l] 102)))
  have HF := hi_ hf; have HG := hi_ hg; have HNA := hi_ hna; have HNB := hi_ hnb; have HAO := hi_ hao; have HBO := hi_ hbo; have HL := hi_ hl; have HTE := hi_ hTe
  clear P hb hf hg hna hnb hao hbo hl hTe hI1 hI2 hA1 hA2 hc ob
  cases l
  case true =>
   have F := hi_ (show DevE (AheadS ⟨xs, p, i⟩ ⟨ys, q, j⟩ K) ⟨xs, p, i⟩ ⟨ys, q, j⟩ true 0 0 0 from .inr ⟨HF.out, HG.out, EX.out, rfl, 0, 0, rfl, rfl, (loose_ahead HAO.out K (HL.out.1 rfl)).nf HF.out HG.out HNA.out HNB.out⟩)
   obtain ⟨r0, r1, r2⟩ : _ ∧ _ ∧ _ := ⟨RB.out.cell 0, RB.out.cell 1, RB.out.cell 2⟩
   simp at r0 r1 r2
   have y0 := RB.out.frozen 0; have y1 := RB.out.frozen 1; have y2 := RB.out.frozen 2
   have hlr := RB.out.lt
   go_wp2_with fail
   have rb := RB.out.store3 (.bool true) (.int .i64 0) (.int .i64 0)
   exact bodyPost_ret (v := .tuple #[.agg #[.bool true, .int .i64 0, .int .i64 0], .int .i64 0]) (by simp [results, Tryz.results82, go_sem, rb.cell]) rfl ⟨_, _, _, _, F.out, rfl, b3store BW.out (by omega)⟩
  case false =>
   have HNL := hi_ (show ¬ Loose a b from fun h => by have := HL.out.2 h; cases this)
   obtain ⟨q6, q7⟩ := E.out.cells2
   have hle := E.out.blk.lt
   go_wp2_with fail
   refine (greatest_any 114 #[.pointer (some ⟨w1.heap.size, 0, none⟩), .pointer (some ⟨w.heap.size + 1 + 1, 0, none⟩)] T (AhR a b K) (AhII a b K) (AheadS a b K true 0 0) _ hT ⟨0, 0, rfl, rfl, AhI.zero a b K⟩
    (fun k v A d hk hI hR => ah_step HAO.out HBO.out hK (by omega) hI hR) (fun k d hk hR => ah_bad HAO.out HBO.out hK (by omega) hR)
    (fun t w2 ht hb => ahead1_any w1.heap.size (w.heap.size + 1 + 1) A1 n1 c1 a A2 n2 c2 b T false t K w2 (E.out.below hb) (DB.out.below hb DB.out.lt) HAO.out HBO.out (by omega) hK) (fun x w => by kernel_rfl)).mono ?_
   rintro e w2 hret
   rcases hret with ⟨hQ, rfl, hb⟩ | ⟨v, A', hI, rfl, hb⟩
   ·have F := hi_ (show DevE (AheadS ⟨xs, p, i⟩ ⟨ys, q, j⟩ K) ⟨xs, p, i⟩ ⟨ys, q, j⟩ true 0 0 0 from .inr ⟨HF.out, HG.out, EX.out, rfl, 0, 0, rfl, rfl, hQ.nf HF.out HG.out HNA.out HNB.out⟩)
    have RB := hi_ (RB.out.below hb RB.out.lt); have BW := hi_ (bthen BW.out hb)
    clear hb hQ
    obtain ⟨r0, r1, r2⟩ : _ ∧ _ ∧ _ := ⟨RB.out.cell 0, RB.out.cell 1, RB.out.cell 2⟩
    simp at r0 r1 r2
    have y0 := RB.out.frozen 0; have y1 := RB.out.frozen 1; have y2 := RB.out.frozen 2
    have hlr := RB.out.lt
    go_wp2_with fail
    have rb := RB.out.store3 (.bool true) (.int .i64 0) (.int .i64 0)
    exact bodyPost_ret (v := .tuple #[.agg #[.bool true, .int .i64 0, .int .i64 0], .int .i64 0]) (by simp [results, Tryz.results82, go_sem, rb.cell]) rfl ⟨_, _, _, _, F.out, rfl, b3store BW.out (by omega)⟩
   ·have F := hi_ (show DevE (AheadS ⟨xs, p, i⟩ ⟨ys, q, j⟩ K) ⟨xs, p, i⟩ ⟨ys, q, j⟩ false v A' 0 from .inr ⟨HF.out, HG.out, EX.out, rfl, by
     obtain ⟨v', A'', rfl, rfl, h⟩ := hI
     exact ⟨v', A'', rfl, rfl, (h.done HAO.out HBO.out HNL.out (by rw [HTE.out]; exact Nat.le_refl _)).nf HF.out HG.out HNA.out HNB.out⟩⟩)
    have RB := hi_ (RB.out.below hb RB.out.lt); have BW := hi_ (bthen BW.out hb)
    clear hb hI
    obtain ⟨r0, r1, r2⟩ : _ ∧ _ ∧ _ := ⟨RB.out.cell 0, RB.out.cell 1, RB.out.cell 2⟩
    simp at r0 r1 r2
    have y0 := RB.out.frozen 0; have y1 := RB.out.frozen 1; have y2 := RB.out.frozen 2
    have hlr := RB.out.lt
    go_wp2_with fail
    have rb := RB.out.store3 (.bool false) (.int .i64 v) (.int .i64 A')
    exact bodyPost_ret (v := .tuple #[.agg #[.bool false, .int .i64 v, .int .i64 A'], .int .i64 0]) (by simp [results, Tryz.results82, go_sem, rb.cell]) rfl ⟨_, _, _, _, F.out, rfl, b3store BW.out (by omega)⟩
theorem backlog_any (A B : Option Addr) (n m c d : Nat) (p i q j : Int) (xs ys : List Int) (w : World) (hA : Ints w w.heap.size A n xs) (hB : Ints w w.heap.size B m ys) (hn : (n : Int) ≤ 1000000) (hm : (m : Int) ≤ 1000000) :
 Calls Tryz.prog 27 #[.agg #[.slice A n c, .int .i64 p, .int .i64 i], .agg #[.slice B m d, .int .i64 q, .int .i64 j]] w (RetDv (AheadS ⟨xs, p, i⟩ ⟨ys, q, j⟩ 0) ⟨xs, p, i⟩ ⟨ys, q, j⟩ w) := by
 have P := hi_ ((PS.new (c := c) (p := p) (i := i) (d := d) (q := q) (j := j) hA hB).alloc (.cells #[.bool false, .int .i64 0, .int .i64 0] 35))
 have rb := Blk.new ((w.alloc (.cells #[.slice A n c, .int .i64 p, .int .i64 i] 26)).alloc (.cells #[.slice B m d, .int .i64 q, .int .i64 j] 26)) 35 #[.bool false, .int .i64 0, .int .i64 0]
 rw [World.size_alloc, World.size_alloc] at rb
 have RB := hi_ rb
 clear hA hB rb
 go_enter Tryz.func27, Tryz.ntmps27
 go_wp2_with fail
 refine (ahead_any 0 (by omega) A B n m c d p i q j xs ys _ P.out.ia P.out.ib hn hm).mono ?_
 rintro e w1 ⟨I, V, W, er, hE, rfl, hb⟩
 have RB := hi_ (RB.out.below hb RB.out.lt); have BW := hi_ (bthen P.out.bw hb)
 have F := hi_ hE
 clear hE hb
 obtain ⟨r0, r1, r2⟩ : _ ∧ _ ∧ _ := ⟨RB.out.cell 0, RB.out.cell 1, RB.out.cell 2⟩
 simp at r0 r1 r2
 have y0 := RB.out.frozen 0; have y1 := RB.out.frozen 1; have y2 := RB.out.frozen 2
 have hlr := RB.out.lt
 go_wp2_with fail
 have rb := RB.out.store3 (.bool I) (.int .i64 V) (.int .i64 W)
 exact bodyPost_ret (v := .tuple #[.agg #[.bool I, .int .i64 V, .int .i64 W], .int .i64 er]) (by simp [results, Tryz.results27, go_sem, rb.cell]) rfl ⟨_, _, _, _, F.out, rfl, b3store BW.out (by omega)⟩
end
section
open Go.RowKit
section
variable {w wx wy : World} {A B : Option Addr} {n c m d : Nat} {p i q j : Int} {xs ys : List Int}
theorem PS.sto {g : Nat} (h : PS w wx A n c p i xs B m d q j ys) (s : Sto g wx wy) (hg : w.heap.size + 1 < g) (hA : ∀ b off o, A = some ⟨b, off, o⟩ → b ≠ g) (hB : ∀ b off o, B = some ⟨b, off, o⟩ → b ≠ g) : PS w wy A n c p i xs B m d q j ys :=
 ⟨h.fb.sto s (by omega), h.gb.sto s (by omega), h.ia.sto s hA, h.ib.sto s hB, bsto h.bw s (by omega)⟩
end
def loadP (a : Addr) : Sem Value := loadVar 208 a
theorem load_fold (a : Addr) : loadVar 208 a = loadP a := rfl
theorem run_loadP {w : World} {g : Nat} {z0 z1 z2 z3 z4 z5 z6 z7 z8 z9 : Value} (h : Blk w g 208 #[z0, z1, z2, z3, z4, z5, z6, z7, z8, z9]) : Sem.run Tryz.prog (loadP ⟨g, 0, none⟩) w = .ok (.agg #[z0, z1, z2, z3, z4, z5, z6, z7, z8, z9]) w :=
 run_loadVar_row w g 208 208 _ (0, 0) _ h Tryz.underlying208 rfl (by kernel_rfl)
def storeP (a : Addr) (v : Value) : Sem Unit := storeVar 208 a v
theorem store_fold (a : Addr) (v : Value) : storeVar 208 a v = storeP a v := rfl
theorem run_storeP {w : World} {g : Nat} {t : TypeId} {z0 z1 z2 z3 z4 z5 z6 z7 z8 z9 a0 a1 a2 a3 a4 a5 a6 a7 a8 a9 : Value} (hB : Blk w g t #[z0, z1, z2, z3, z4, z5, z6, z7, z8, z9]) (h1 : (#[a0, a1, a2, a3, a4, a5, a6, a7, a8, a9] : Array Value).all (·.oneCell') = true) :
 ∃ w', Sem.run Tryz.prog (storeP ⟨g, 0, none⟩ (.agg #[a0, a1, a2, a3, a4, a5, a6, a7, a8, a9])) w = .ok () w' ∧ Sto g w w' ∧ Blk w' g t #[a0, a1, a2, a3, a4, a5, a6, a7, a8, a9] := by
 refine ⟨_, run_storeVar_mid w g 0 208 #[a0, a1, a2, a3, a4, a5, a6, a7, a8, a9] ?_ (by kernel_rfl) h1, ?_, hB.store10 _ _ _ _ _ _ _ _ _ _⟩
 ·intro j hj
  have hj' : j < 10 := hj
  rw [Nat.zero_add]
  refine ⟨?_, hB.frozen j⟩
  rw [hB.cell j]
  simp [hj']
 ·exact (((((((((((Sto.refl g w).set 0 a0).set 1 a1).set 2 a2).set 3 a3).set 4 a4).set 5 a5).set 6 a6).set 7 a7).set 8 a8).set 9 a9)
def NoUp (f g : Cv) (k : Nat) : Prop := ∀ n, n < k → ¬ g.at n < f.at n
theorem NoUp.zero (f g : Cv) : NoUp f g 0 := fun n h => by omega
theorem NoUp.succ {f g : Cv} {k : Nat} (h : NoUp f g k) (h1 : ¬ g.at k < f.at k) : NoUp f g (k + 1) := fun n hn => by
 by_cases e : n = k
 ·rw [e]; exact h1
 ·exact h n (by omega)
attribute [local go_sem ↓] load_fold store_fold
theorem exceeds_bad (A B : Option Addr) (n m c d : Nat) (p i q j : Int) (xs ys : List Int) (w : World) (hA : Ints w w.heap.size A n xs) (hB : Ints w w.heap.size B m ys) (hn : (n : Int) ≤ 1000000) (hm : (m : Int) ≤ 1000000) (hbad : ¬ (Cv.Ok ⟨xs, p, i⟩ ∧ Cv.Ok ⟨ys, q, j⟩)) (S : Int → Bool → Prop) :
 Calls Tryz.prog 143 #[.agg #[.slice A n c, .int .i64 p, .int .i64 i], .agg #[.slice B m d, .int .i64 q, .int .i64 j]] w (RetE S ⟨xs, p, i⟩ ⟨ys, q, j⟩ w) := by
 have P0 := hi_ (PS.new (c := c) (p := p) (i := i) (d := d) (q := q) (j := j) hA hB)
 have HBAD := hi_ hbad
 clear hA hB hbad
 go_enter Tryz.func143, Tryz.ntmps143
 go_wp2_with fail
 refine (both_bad A B n m c d p i q j xs ys _ P0.out.ia P0.out.ib hn hm HBAD.out).mono ?_
 unfold pairV
 rintro e w1 ⟨rfl, hb⟩
 have P1 := hi_ (P0.out.below hb)
 obtain ⟨w3, hst, sto, pb⟩ := run_storeP (Blk.new w1 208 #[.slice none 0 0, .int .i64 0, .int .i64 0, .slice none 0 0, .int .i64 0, .int .i64 0, .int .i64 0, .int .i64 0, .int .i64 0, .bool false]) (a0 := .slice none 0 0) (a1 := .int .i64 0) (a2 := .int .i64 0) (a3 := .slice none 0 0) (a4 := .int .i64 0) (a5 := .int .i64 0) (a6 := .int .i64 0) (a7 := .int .i64 0) (a8 := .int .i64 0) (a9 := .bool false) (by simp [Value.oneCell'])
 have bw := bsto (oball P1.out.bw _) sto P1.out.bw.size
 clear P0 P1 hb sto pb
 have BW := hi_ bw
 clear bw
 go_wp2_with fail
 refine bodyPost_ret (v := .tuple #[.int .i64 0, .bool false, .int .i64 1]) (by simp [results, Tryz.results143, go_sem]) rfl ?_
 exact ⟨0, false, 1, .inr ⟨HBAD.out, rfl, rfl, rfl⟩, rfl, BW.out⟩
set_option maxHeartbeats 4000000 in
set_option maxRecDepth 100000 in
theorem exceeds_ok (A B : Option Addr) (n m c d : Nat) (p i q j : Int) (xs ys : List Int) (w : World) (hA : Ints w w.heap.size A n xs) (hB : Ints w w.heap.size B m ys) (hf : Cv.Ok ⟨xs, p, i⟩) (hg : Cv.Ok ⟨ys, q, j⟩) :
 Calls Tryz.prog 143 #[.agg #[.slice A n c, .int .i64 p, .int .i64 i], .agg #[.slice B m d, .int .i64 q, .int .i64 j]] w (RetE (fun t ok => ExS (Up ⟨xs, p, i⟩ ⟨ys, q, j⟩) t ok) ⟨xs, p, i⟩ ⟨ys, q, j⟩ w) := by
 have P0 := hi_ (PS.new (c := c) (p := p) (i := i) (d := d) (q := q) (j := j) hA hB)
 have OB := ord_b hf hg
 have hfr := OB.f0; have hc1 := OB.c1; have hc2 := OB.c2; have hd1 := OB.d1; have hd2 := OB.d2
 have hn := hf.n2; have hm := hg.n2; have hn1 := hf.n1; have hm1 := hg.n1
 have hl := hA.1; have hl2 := hB.1
 have hfin : (nth xs (n - 1) != inf && nth ys (m - 1) != inf) = true ↔ (Cv.Fin ⟨xs, p, i⟩ ∧ Cv.Fin ⟨ys, q, j⟩) := by
  unfold Cv.Fin
  simp only [hl, hl2, Bool.and_eq_true, bne_iff_ne]
  exact ⟨fun h => ⟨⟨hf, h.1⟩, ⟨hg, h.2⟩⟩, fun h => ⟨h.1.2, h.2.2⟩⟩
 simp only [hl, hl2] at hn hm hn1 hm1
 have HBO := fun w hA hB => both_ok A B n m c d p i q j xs ys w hA hB hf hg
 obtain ⟨fn, hfn⟩ : ∃ fn, fn = (nth xs (n - 1) != inf && nth ys (m - 1) != inf) := ⟨_, rfl⟩
 obtain ⟨fr, hfre⟩ : ∃ fr, fr = ordF ⟨xs, p, i⟩ ⟨ys, q, j⟩ := ⟨_, rfl⟩
 obtain ⟨cc, hcce⟩ : ∃ cc, cc = ordC ⟨xs, p, i⟩ ⟨ys, q, j⟩ := ⟨_, rfl⟩
 obtain ⟨dd, hdde⟩ : ∃ dd, dd = ordD ⟨xs, p, i⟩ ⟨ys, q, j⟩ := ⟨_, rfl⟩
 rw [← hfre] at hfr
 rw [← hcce] at hc1 hc2
 rw [← hdde] at hd1 hd2
 simp only [← hfn, ← hfre, ← hcce, ← hdde] at HBO
 rw [← hfn] at hfin
 have HF := hi_ hf; have HG := hi_ hg; have HFIN := hi_ hfin; have HFR := hi_ hfre; have HCC := hi_ hcce; have HDD := hi_ hdde; have HB := hi_ HBO
 have HAL := hi_ (show ∀ b off s, A = some ⟨b, off, s⟩ → b < w.heap.size from fun b off s e => by obtain ⟨b', off', e', hb, _⟩ := hA.2 (by omega); rw [e] at e'; cases e'; exact hb)
 have HBL := hi_ (show ∀ b off s, B = some ⟨b, off, s⟩ → b < w.heap.size from fun b off s e => by obtain ⟨b', off', e', hb, _⟩ := hB.2 (by omega); rw [e] at e'; cases e'; exact hb)
 clear hA hB hf hg hfin hfre hcce hdde hfn HBO hl hl2 OB
 go_enter Tryz.func143, Tryz.ntmps143
 go_wp2_with fail
 refine (HB.out _ P0.out.ia P0.out.ib).mono ?_
 unfold pairV
 rintro e w1 ⟨rfl, hb⟩
 as_aux_lemma =>
 have P1 := hi_ (P0.out.below hb)
 obtain ⟨w3, hst, sto, pb⟩ := run_storeP (Blk.new w1 208 #[.slice none 0 0, .int .i64 0, .int .i64 0, .slice none 0 0, .int .i64 0, .int .i64 0, .int .i64 0, .int .i64 0, .int .i64 0, .bool false]) (a0 := .slice A n c) (a1 := .int .i64 p) (a2 := .int .i64 i) (a3 := .slice B m d) (a4 := .int .i64 q) (a5 := .int .i64 j) (a6 := .int .i64 fr) (a7 := .int .i64 cc) (a8 := .int .i64 dd) (a9 := .bool fn) (by simp [Value.oneCell'])
 have hP1 : w.heap.size + 1 < w1.heap.size := P1.out.gb.lt
 have P3 := hi_ ((P1.out.alloc _).sto sto hP1 (fun b off s e => by have := HAL.out b off s e; omega) (fun b off s e => by have := HBL.out b off s e; omega))
 have PP := hi_ pb
 clear P0 P1 hb sto pb
 have p0 := PP.out.cell 0; have p1 := PP.out.cell 1; have p2 := PP.out.cell 2; have p3 := PP.out.cell 3; have p4 := PP.out.cell 4; have p5 := PP.out.cell 5; have p6 := PP.out.cell 6; have p7 := PP.out.cell 7; have p8 := PP.out.cell 8; have p9 := PP.out.cell 9
 simp at p0 p1 p2 p3 p4 p5 p6 p7 p8 p9
 have qz := P3.out.cells
 obtain ⟨f0, f1, f2, g0, g1, g2, hlf, hlg⟩ := qz
 have hlp := PP.out.lt
 go_wp2_with fail
 clear hst p0 p1 p2 p3 p4 p5 p6 p7 p8 p9 f0 f1 f2 g0 g1 g2 hlf hlg hlp
 go_loopg [27] (fr + 1) (fun g t wx => ∃ k : Nat, k + g = fr + 1 ∧ t = .int .i64 k ∧ NoUp ⟨xs, p, i⟩ ⟨ys, q, j⟩ k ∧ Below w3.heap.size w3 wx)
 case atStart => exact ⟨0, by omega, rfl, NoUp.zero _ _, Below.refl _ _⟩
 case round =>
  as_aux_lemma =>
  obtain ⟨k, hkg, rfl, hno, bx⟩ := hrel
  have HNO := hi_ hno; clear hno
  have PX := hi_ (P3.out.below bx); have PPX := hi_ (PP.out.below bx PP.out.lt)
  have BX := hi_ bx
  clear P3 PP bx
  by_cases hlt : k < fr + 1
  ·have hlti : (k : Int) < (fr : Int) + 1 := by omega
   have hst := run_loadP PPX.out
   go_wp2_with fail
   refine (above_any A B n m c d p i q j fr cc dd fn xs ys k _ PX.out.ia PX.out.ib HF.out HG.out (by omega) (by omega)).mono ?_
   rw [Int.toNat_natCast]
   rintro e w4 ⟨rfl, hb⟩
   have bw4 := bthen PX.out.bw hb
   by_cases hab : Cv.at ⟨ys, q, j⟩ k < Cv.at ⟨xs, p, i⟩ k
   ·rw [decide_eq_true hab]
    have F := hi_ (ex_early HF.out HG.out (by omega) HNO.out hab)
    clear hab
    go_wp2_with fail
    refine bodyPost_ret (v := .tuple #[.int .i64 k, .bool true, .int .i64 0]) (by simp [results, Tryz.results143, go_sem]) rfl ?_
    exact ⟨k, true, 0, .inl ⟨HF.out, HG.out, rfl, F.out⟩, rfl, bw4⟩
   ·rw [decide_eq_false hab]
    have F := hi_ (HNO.out.succ hab)
    clear hab
    go_wp2_with fail
    go_roundg (gk - 1)
    case measure => omega
    case rel => exact ⟨k + 1, by omega, by go_num, F.out, bthen BX.out hb⟩
  ·have hkf : k = fr + 1 := by omega
   clear hlt hkg
   subst hkf
   have qz := PX.out.cells
   obtain ⟨f0, f1, f2, g0, g1, g2, hlf, hlg⟩ := qz
   have p6 := PPX.out.cell 6; have p7 := PPX.out.cell 7; have p8 := PPX.out.cell 8; have p9 := PPX.out.cell 9
   simp at p6 p7 p8 p9
   have hlp := PPX.out.lt
   cases fn
   case false =>
    have F := hi_ (ex_inf HF.out HG.out (fun h => by have := HFIN.out.2 h; simp at this) (by rw [← HFR.out]; exact HNO.out))
    have bwx := PX.out.bw
    go_wp2_with fail
    refine bodyPost_ret (v := .tuple #[.int .i64 0, .bool false, .int .i64 0]) (by simp [results, Tryz.results143, go_sem]) rfl ?_
    exact ⟨0, false, 0, .inl ⟨HF.out, HG.out, rfl, F.out⟩, rfl, bwx⟩
   case true =>
    as_aux_lemma =>
    have FF := hi_ (HFIN.out.1 rfl)
    have HP := hi_ (ord_per FF.out.1 FF.out.2)
    rw [← HFR.out, ← HCC.out, ← HDD.out] at HP
    go_wp2_with fail
    clear f0 f1 f2 g0 g1 g2 hlf hlg p6 p7 p8 p9 hlp
    go_loopg [40, 10, 11] cc (fun g s40 s10 s11 wy => ∃ (r : Nat) (L : Int) (b : Bool), r + g = cc ∧ s40 = .int .i64 r ∧ s10 = .int .i64 L ∧ s11 = .bool b ∧ 0 ≤ L ∧ L ≤ 2305843009213693952 ∧ Hid (ExI (dif ⟨xs, p, i⟩ ⟨ys, q, j⟩) fr cc r b L) ∧ Below wr.heap.size wr wy)
    case atStart => exact ⟨0, 0, false, by omega, rfl, rfl, rfl, by omega, by omega, .inl ⟨rfl, rfl, fun r hr => by omega⟩, Below.refl _ _⟩
    case round =>
     as_aux_lemma =>
     obtain ⟨r, L, b, hrg, rfl, rfl, rfl, hL0, hL1, hex, by_⟩ := hrel
     have HEX := hi_ hex
     have PY := hi_ (PX.out.below by_); have PPY := hi_ (PPX.out.below by_ PPX.out.lt); have BY := hi_ by_
     clear PX PPX hex by_
     have qz := PY.out.cells
     obtain ⟨f0, f1, f2, g0, g1, g2, hlf, hlg⟩ := qz
     have p6 := PPY.out.cell 6; have p7 := PPY.out.cell 7; have p8 := PPY.out.cell 8
     simp at p6 p7 p8
     have hlp := PPY.out.lt
     by_cases hlt : r < cc
     ·have hlti : (r : Int) < (cc : Int) := by omega
      have hdb := dif_bd FF.out.1 FF.out.2 (n := fr + r) (by omega)
      obtain ⟨x, hx⟩ : ∃ x, x = Cv.at ⟨xs, p, i⟩ (fr + r) := ⟨_, rfl⟩
      obtain ⟨y, hy⟩ : ∃ y, y = Cv.at ⟨ys, q, j⟩ (fr + r) := ⟨_, rfl⟩
      have hxb := at_inf_bd HF.out (n := fr + r) (by omega)
      have hyb := at_inf_bd HG.out (n := fr + r) (by omega)
      rw [← hx] at hxb
      rw [← hy] at hyb
      obtain ⟨dv, hdv⟩ : ∃ dv, dv = x - y := ⟨_, rfl⟩
      have hdv2 : dif ⟨xs, p, i⟩ ⟨ys, q, j⟩ (fr + r) = dv := by rw [hdv, hx, hy]; rfl
      rw [hdv2] at hdb
      have e0 : IntKind.i64.wrap (x - y) = dv := by rw [hdv]; exact IntWalk.i64_in _ (by omega)
      have HX := hi_ hx; have HY := hi_ hy; have DV2 := hi_ hdv2; have DV := hi_ hdv
      have TN := hi_ (show ((fr : Int) + (r : Int)).toNat = fr + r by omega)
      clear hx hy hdv2 hdv
      go_upto_region 17 with fail
      go_cut [14] (fun s14 wz => s14 = .int .i64 dv ∧ Below wr.heap.size wr wz)
      case first =>
       clear p6 p7 p8 hlp
       have PZ := PY; have BZ := hi_ (Below.refl wr.heap.size wr)
       have hp1 := HF.out.p1; have hpn := HF.out.pn; have hi1 := HF.out.i1; have hi2 := HF.out.i2
       have hq1 := HG.out.p1; have hqm := HG.out.pn; have hj1 := HG.out.i1; have hj2 := HG.out.i2
       simp only [PY.out.ia.1, PY.out.ib.1] at hp1 hpn hi1 hi2 hq1 hqm hj1 hj2
       have NFx := hi_ HF.out.nn; have NGx := hi_ HG.out.nn
       go_region_held3 (fun w' => w'.cell? ⟨w.heap.size, 0, none⟩ = some (.slice A n c) ∧ w'.cell? ⟨w.heap.size, 1, none⟩ = some (.int .i64 p) ∧ w'.cell? ⟨w.heap.size, 2, none⟩ = some (.int .i64 i) ∧ w'.cell? ⟨w.heap.size + 1, 0, none⟩ = some (.slice B m d) ∧ w'.cell? ⟨w.heap.size + 1, 1, none⟩ = some (.int .i64 q) ∧ w'.cell? ⟨w.heap.size + 1, 2, none⟩ = some (.int .i64 j)) (first | go_keep)
        (first
         | (go_at_call_of 43 (Value.agg #[.slice A n c, .int .i64 p, .int .i64 i])
            refine (at_any A n c p i _ xs _ (by exact PZ.out.ia) (by omega) (by omega) (by omega) (by omega) (by omega) NFx.out (by omega) (by omega)).mono ?_
            rw [TN.out, ← HX.out]
            rintro e wq ⟨rfl, hb⟩
            have PZ := hi_ (PZ.out.below (by first | exact hb | exact bofdrew hb))
            have BZ := hi_ (bthen BZ.out (by first | exact hb | exact bofdrew hb))
            clear f0 f1 f2 g0 g1 g2 hlf hlg hb
            have qz := PZ.out.cells
            obtain ⟨f0, f1, f2, g0, g1, g2, hlf, hlg⟩ := qz)
         | (go_at_call_of 43 (Value.agg #[.slice B m d, .int .i64 q, .int .i64 j])
            refine (at_any B m d q j _ ys _ (by exact PZ.out.ib) (by omega) (by omega) (by omega) (by omega) (by omega) NGx.out (by omega) (by omega)).mono ?_
            rw [TN.out, ← HY.out]
            rintro e wq ⟨rfl, hb⟩
            have PZ := hi_ (PZ.out.below (by first | exact hb | exact bofdrew hb))
            have BZ := hi_ (bthen BZ.out (by first | exact hb | exact bofdrew hb))
            clear f0 f1 f2 g0 g1 g2 hlf hlg hb
            have qz := PZ.out.cells
            obtain ⟨f0, f1, f2, g0, g1, g2, hlf, hlg⟩ := qz))
       all_goals
        go_wp2_with fail
        go_meet
        exact ⟨by rw [DV.out], BZ.out⟩
      case rest =>
       as_aux_lemma =>
       obtain ⟨rfl, bz⟩ := hcut
       have BZ := hi_ bz
       have pz := PPY.out.below bz PPY.out.lt
       have hlz := pz.lt
       clear f0 f1 f2 g0 g1 g2 hlf hlg p6 p7 p8 hlp e0 bz
       have p6 := pz.cell 6; have p7 := pz.cell 7; have p8 := pz.cell 8
       simp at p6 p7 p8
       by_cases hd0 : dv ≤ 0
       ·by_cases hD0 : dd ≤ 0
        ·have F := hi_ (HEX.out.skip HP.out (by rw [DV2.out]; exact hd0) hD0)
         go_wp2_with fail
         go_roundg (gk - 1)
         case measure => omega
         case rel => exact ⟨r + 1, L, b, by omega, by go_num, rfl, rfl, hL0, hL1, F.out, bthen BY.out BZ.out⟩
        ·have hg := grow_first HP.out (k := r) (by omega) (by rw [DV2.out]; exact hd0)
         rw [DV2.out] at hg
         have hq0 : 0 ≤ -dv / dd := Int.ediv_nonneg (by omega) (by omega)
         have hq1 : -dv / dd ≤ -dv := Int.ediv_le_self _ (by omega)
         have ed : -(dv.tdiv dd) = -dv / dd := by rw [← Int.neg_tdiv]; exact Int.tdiv_eq_ediv_of_nonneg (by omega)
         obtain ⟨u, hu⟩ := Int.eq_ofNat_of_zero_le hq0
         rw [hu] at ed hq1 hg
         rw [Int.toNat_natCast] at hg
         have hucc : (u + 1) * cc ≤ 30000000000001 * 14400 := Nat.mul_le_mul (by omega) hc2
         obtain ⟨T, hT⟩ : ∃ T, T = fr + r + (u + 1) * cc := ⟨_, rfl⟩
         have CAND := hi_ (HEX.out.cand hg.1 hg.2 hc1)
         rw [← hT] at CAND
         have huc2 : ((u : Int) + 1) * (cc : Int) = (((u + 1) * cc : Nat) : Int) := by simp
         have hTI : (fr : Int) + (r : Int) + ((u : Int) + 1) * (cc : Int) = T := by rw [hT, huc2]; omega
         have hub : (u : Int) ≤ 30000000000000 := by omega
         have hm1 : ((u : Int) + 1) * (cc : Int) ≤ 432000000000014400 := by rw [huc2]; omega
         have hm0 : 0 ≤ ((u : Int) + 1) * (cc : Int) := by rw [huc2]; omega
         have hTb : (T : Int) ≤ 2305843009213693952 := by omega
         have hdn : dd ≠ 0 := by omega
         clear hg hq0 hq1 hu hucc hT huc2
         go_wp2_with fail
         go_quiet (fail)
         have BZ := hi_ (show Below wr.heap.size wr (wc.drewN nq) from bdrewN BZ.out)
         cases b
         case false =>
          have F := hi_ (CAND.out.1 (.inl rfl))
          go_wp2_with fail
          go_roundg (gk - 1)
          case measure => omega
          case rel => exact ⟨r + 1, T, true, by omega, by go_num, rfl, rfl, by omega, by omega, F.out, bthen BY.out BZ.out⟩
         case true =>
          by_cases hTL : (T : Int) < L
          ·have F := hi_ (CAND.out.1 (.inr hTL))
           go_wp2_with fail
           go_roundg (gk - 1)
           case measure => omega
           case rel => exact ⟨r + 1, T, true, by omega, by go_num, rfl, rfl, by omega, by omega, F.out, bthen BY.out BZ.out⟩
          ·have F := hi_ (CAND.out.2 (fun h => h.elim (fun h => by cases h) hTL))
           go_wp2_with fail
           go_roundg (gk - 1)
           case measure => omega
           case rel => exact ⟨r + 1, L, true, by omega, by go_num, rfl, rfl, hL0, hL1, F.out, bthen BY.out BZ.out⟩
       ·have CAND := hi_ (HEX.out.cand (M := 0) (by rw [Nat.zero_mul, Nat.add_zero, DV2.out]; omega) (fun m hm => by omega) hc1)
        rw [Nat.zero_mul, Nat.add_zero] at CAND
        obtain ⟨T, hT⟩ : ∃ T, T = fr + r := ⟨_, rfl⟩
        have hTI : (fr : Int) + (r : Int) = T := by omega
        rw [← hT] at CAND
        rw [hTI]
        clear hT
        cases b
        case false =>
         have F := hi_ (CAND.out.1 (.inl rfl))
         go_wp2_with fail
         go_roundg (gk - 1)
         case measure => omega
         case rel => exact ⟨r + 1, T, true, by omega, by go_num, rfl, rfl, by omega, by omega, F.out, bthen BY.out BZ.out⟩
        case true =>
         by_cases hTL : (T : Int) < L
         ·have F := hi_ (CAND.out.1 (.inr hTL))
          go_wp2_with fail
          go_roundg (gk - 1)
          case measure => omega
          case rel => exact ⟨r + 1, T, true, by omega, by go_num, rfl, rfl, by omega, by omega, F.out, bthen BY.out BZ.out⟩
         ·have F := hi_ (CAND.out.2 (fun h => h.elim (fun h => by cases h) hTL))
          go_wp2_with fail
          go_roundg (gk - 1)
          case measure => omega
          case rel => exact ⟨r + 1, L, true, by omega, by go_num, rfl, rfl, hL0, hL1, F.out, bthen BY.out BZ.out⟩
     ·have hrc : r = cc := by omega
      clear hlt hrg
      subst hrc
      have F := hi_ (HEX.out)
      go_wp2_with fail
      refine bodyPost_ret (v := .tuple #[.int .i64 L, .bool b, .int .i64 0]) (by simp [results, Tryz.results143, go_sem]) rfl ?_
      exact ⟨L, b, 0, .inl ⟨HF.out, HG.out, rfl, ex_late FF.out.1 FF.out.2 (by rw [← HFR.out, ← HCC.out]; exact F.out) (by rw [← HFR.out]; exact HNO.out)⟩, rfl, PY.out.bw⟩
theorem exceeds_any (A B : Option Addr) (n m c d : Nat) (p i q j : Int) (xs ys : List Int) (w : World) (hA : Ints w w.heap.size A n xs) (hB : Ints w w.heap.size B m ys) (hn : (n : Int) ≤ 1000000) (hm : (m : Int) ≤ 1000000) :
 Calls Tryz.prog 143 #[.agg #[.slice A n c, .int .i64 p, .int .i64 i], .agg #[.slice B m d, .int .i64 q, .int .i64 j]] w (RetE (fun t ok => ExS (Up ⟨xs, p, i⟩ ⟨ys, q, j⟩) t ok) ⟨xs, p, i⟩ ⟨ys, q, j⟩ w) := by
 by_cases h : Cv.Ok ⟨xs, p, i⟩ ∧ Cv.Ok ⟨ys, q, j⟩
 ·exact exceeds_ok A B n m c d p i q j xs ys w hA hB h.1 h.2
 ·exact exceeds_bad A B n m c d p i q j xs ys w hA hB hn hm h _
theorem atMost_any (A B : Option Addr) (n m c d : Nat) (p i q j : Int) (xs ys : List Int) (w : World) (hA : Ints w w.heap.size A n xs) (hB : Ints w w.heap.size B m ys) (hn : (n : Int) ≤ 1000000) (hm : (m : Int) ≤ 1000000) :
 Calls Tryz.prog 132 #[.agg #[.slice A n c, .int .i64 p, .int .i64 i], .agg #[.slice B m d, .int .i64 q, .int .i64 j]] w (RetM ⟨xs, p, i⟩ ⟨ys, q, j⟩ w) := by
 have P0 := hi_ (PS.new (c := c) (p := p) (i := i) (d := d) (q := q) (j := j) hA hB)
 clear hA hB
 go_enter Tryz.func132, Tryz.ntmps132
 go_wp2_with fail
 refine (exceeds_any A B n m c d p i q j xs ys _ P0.out.ia P0.out.ib hn hm).mono ?_
 rintro e w1 ⟨t, ok, er, hS, rfl, hb⟩
 have bw := bthen P0.out.bw hb
 rcases hS with ⟨h1, h2, rfl, hS⟩ | ⟨h1, rfl, rfl, rfl⟩
 ·rcases hS with ⟨rfl, x, rfl, hu, hl⟩ | ⟨rfl, rfl, hu⟩
  ·have F := hi_ (show AtM ⟨xs, p, i⟩ ⟨ys, q, j⟩ false from .inl ⟨h1, h2, by simp; exact ⟨x, hu⟩⟩)
   clear hu hl h1 h2 P0 hb
   go_wp2_with fail
   go_ret
   exact ⟨false, F.out, rfl, bw⟩
  ·have F := hi_ (show AtM ⟨xs, p, i⟩ ⟨ys, q, j⟩ true from .inl ⟨h1, h2, by simpa using hu⟩)
   clear hu h1 h2 P0 hb
   go_wp2_with fail
   go_ret
   exact ⟨true, F.out, rfl, bw⟩
 ·have F := hi_ (show AtM ⟨xs, p, i⟩ ⟨ys, q, j⟩ false from .inr ⟨h1, rfl⟩)
  clear h1 P0 hb
  go_wp2_with fail
  go_ret
  exact ⟨false, F.out, rfl, bw⟩
end
end Go.Proofs.YtaejfleahamapaaGreat
