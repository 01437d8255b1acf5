/- . -/
import Derived.Test.YtaejfleahamapaaGreatTa29
import Derived.Test.YtaejfleahamapaaGreatTa33
import Derived.Test.YtaejfleahamapaaGreatTa35
namespace Go.Proofs.YtaejfleahamapaaGreat
set_option linter.unusedVariables false
set_option linter.unusedSimpArgs false
set_option maxHeartbeats 4000000
set_option maxRecDepth 100000
open Go.RowKit
section
theorem at02a_any (A : Option Addr) (n c : Nat) (f : Cv) (t : Nat) (w : World) (hA : Ints w w.heap.size A n f.vals) (ok : f.Ok) (ht : t ≤ 2097152) :
 Calls Tryz.prog 14 #[.agg #[.slice A n c, .int .i64 f.per, .int .i64 f.inc], .int .i64 t] w fun e w' => e = .returned (.int .i64 (f.at t)) ∧ Below w.heap.size w w' := by
 have hl := hA.1
 have h1 := ok.n2; have h2 := ok.p1; have h3 := ok.pn; have h4 := ok.i1; have h5 := ok.i2
 refine (refAt_any A n c f.per f.inc (t : Int) f.vals w hA (by omega) h2 (by omega) h4 (by omega) ok.nn (by omega) (by omega)).mono ?_
 intro e w' h
 exact h
def RowAt (w : World) (b off : Nat) (zs : List Int) : Prop := ∃ cur : Array Value, Blk w b 3 cur ∧ ∀ j, j < zs.length → cur[off + j]? = some (.int .i64 (nth zs j))
section
variable {w w' : World} {b off : Nat} {zs : List Int}
theorem RowAt.of {n : Nat} (h : Ints w w.heap.size (some ⟨b, off, none⟩) n zs) (hn : 0 < n) (ht : Thaw w (some ⟨b, off, none⟩)) : RowAt w b off zs := by
 obtain ⟨cs, hc⟩ := ht b off none rfl
 obtain ⟨b', off', e, _, hj⟩ := h.2 hn
 cases e
 refine ⟨cs, hc, fun j hj2 => ?_⟩
 have := hj j (by rw [← h.1]; exact hj2)
 rw [hc.cell] at this
 exact this
theorem RowAt.lt (h : RowAt w b off zs) : b < w.heap.size := by obtain ⟨cur, h1, _⟩ := h; exact h1.lt
theorem RowAt.cell (h : RowAt w b off zs) {j : Nat} (hj : j < zs.length) : w.cell? ⟨b, off + j, none⟩ = some (.int .i64 (nth zs j)) := by
 obtain ⟨cur, h1, h2⟩ := h
 rw [h1.cell, h2 j hj]
theorem RowAt.frozen (h : RowAt w b off zs) (j : Nat) : w.frozen? ⟨b, j, none⟩ = false := by obtain ⟨cur, h1, _⟩ := h; exact h1.frozen j
theorem RowAt.set_ (h : RowAt w b off zs) {k : Nat} (hk : k < zs.length) (x : Int) : RowAt (w.setCell ⟨b, off + k, none⟩ (.int .i64 x)) b off (zs.set k x) := by
 obtain ⟨cur, h1, h2⟩ := h
 refine ⟨_, h1.set_ (off + k) _, fun j hj => ?_⟩
 rw [List.length_set] at hj
 rw [nth_set _ _ _ _ hk, Array.getElem?_setIfInBounds]
 by_cases e : j = k
 ·subst e
  have hs : off + j < cur.size := by
   rcases Nat.lt_or_ge (off + j) cur.size with g | g
   ·exact g
   ·have := h2 j hj
    rw [Array.getElem?_eq_none g] at this
    cases this
  simp [hs]
 ·rw [if_neg (by omega), if_neg e]
  exact h2 j hj
theorem RowAt.far (h : RowAt w b off zs) {p : Addr} (hp : b ≠ p.block) (u : Value) : RowAt (w.setCell p u) b off zs := by obtain ⟨cur, h1, h2⟩ := h; exact ⟨cur, h1.far hp u, h2⟩
theorem RowAt.kept {p : Nat} (h : RowAt w b off zs) (hp : b ≠ p) (k : Kept w.heap.size p w w') : RowAt w' b off zs := by obtain ⟨cur, h1, h2⟩ := h; exact ⟨cur, h1.kept hp k, h2⟩
theorem RowAt.alloc (h : RowAt w b off zs) (o : Obj) : RowAt (w.alloc o) b off zs := by obtain ⟨cur, h1, h2⟩ := h; exact ⟨cur, h1.alloc o, h2⟩
theorem RowAt.drew (h : RowAt w b off zs) : RowAt w.drew b off zs := h
theorem RowAt.ints (h : RowAt w b off zs) : Ints w w.heap.size (some ⟨b, off, none⟩) zs.length zs := ⟨rfl, fun _ => ⟨b, off, rfl, h.lt, fun j hj => h.cell hj⟩⟩
end
theorem att_any (A0 : Option Addr) (n0 c0 : Nat) (L : List Int) (w : World) (hL : Ints w w.heap.size A0 n0 L) (hc0 : n0 ≤ c0) (hn0 : (n0 : Int) ≤ 9223372036854775807) :
 Calls Tryz.prog 5 #[.slice A0 n0 c0] w fun e w' => e = .returned (.bool true) ∧ Below w.heap.size w w' := by
 go_enter Tryz.func5, Tryz.ntmps5
 go_wp2_with fail
 refine (new_any A0 n0 c0 L w hL hc0 hn0).mono ?_
 rintro e w1 ⟨rfl, hS1, hb1⟩
 have E := hi_ (EnvL.start hS1 hb1)
 clear hL hS1 hb1
 go_wp2_with fail
 refine (srcZero4_any w.heap.size 5 _ (by exact E.out.s) (by omega) (by omega)).mono ?_
 rintro e w2 ⟨f, A, n, c, ⟨⟨hD, hF⟩, hz⟩, hcf, rfl, hI, hA, hS, hk, hth⟩
 have hps := E.out.s.lt
 replace E := hi_ ((E.out.kept hS hk).alloc (.cells #[.slice A n c, .int .i64 f.per, .int .i64 f.inc] 26))
 have hn1 : 1 ≤ n := by have h1 := hF.1.n1; have h2 : f.vals.length = n := hI.1; omega
 have hn2 : n ≤ 20 := by have h1 := hD.len; have h2 : f.vals.length = n := hI.1; omega
 obtain ⟨b, off, rfl, hbl, -⟩ := id (hI.2 hn1)
 have RW := hi_ ((RowAt.of hI hn1 hth).alloc (.cells #[.slice (some ⟨b, off, none⟩) n c, .int .i64 f.per, .int .i64 f.inc] 26))
 have FB := hi_ (Blk.new w2 26 #[.slice (some ⟨b, off, none⟩) n c, .int .i64 f.per, .int .i64 f.inc])
 have hbw := hA b off none rfl
 have HN := hi_ (show b ≠ w2.heap.size ∧ w.heap.size < b ∧ w.heap.size < w2.heap.size by have := hk.size; omega)
 have HD := hi_ hD; have HF := hi_ hF; have HL := hi_ (show f.vals.length = n from hI.1)
 clear hD hF hz hI hA hS hk hth hps hcf hbl hbw
 go_upto_region 3 with fail
 generalize hwe : w2.alloc (.cells #[.slice (some ⟨b, off, none⟩) n c, .int .i64 f.per, .int .i64 f.inc] 26) = w3 at *
 clear hwe
 generalize w2.heap.size = F at *
 obtain ⟨⟨f0, f1, f2⟩, -, hlf⟩ := FB.out.c3
 go_wp2_with fail
 clear f0 f1 f2 hlf
 go_loopg [26] n (fun gg s26 wr => ∃ (k : Nat) (zs : List Int), k + gg = n ∧ s26 = .int .i64 k ∧ Hid (zs.length = n ∧ ∀ j, j < n → nth zs j = if j < k then (nth f.vals j).tdiv 4 else nth f.vals j) ∧ Hid (RowAt wr b off zs) ∧ Hid (Blk wr F 26 #[.slice (some ⟨b, off, none⟩) n c, .int .i64 f.per, .int .i64 f.inc]) ∧ Hid (EnvL w.heap.size w wr []))
 case atStart => exact ⟨0, f.vals, by omega, rfl, hi_ ⟨HL.out, fun j hj => by rw [if_neg (by omega)]⟩, RW, FB, E⟩
 case round =>
  clear RW FB E
  obtain ⟨k, zs, hkg, rfl, HZ, RW, FB, E⟩ := hrel
  obtain ⟨⟨f0, f1, f2⟩, -, hlf⟩ := FB.out.c3
  rcases Nat.lt_or_ge k n with hlt | hge
  ·have hki : (k : Int) < n := by omega
   obtain ⟨x, hx⟩ : ∃ x, x = nth zs k := ⟨_, rfl⟩
   obtain ⟨q, hq⟩ : ∃ q, q = x.tdiv 4 := ⟨_, rfl⟩
   have hck := RW.out.cell (j := k) (by rw [HZ.out.1]; exact hlt)
   rw [← hx] at hck
   have hzk := RW.out.frozen (off + k)
   have hlb := RW.out.lt
   have hxb : 0 ≤ x ∧ x ≤ 4611686018427387904 := by
    have h := HZ.out.2 k hlt
    rw [if_neg (by omega)] at h
    rw [hx, h]
    exact HF.out.1.nn k
   have hq2 : q = x / 4 := by rw [hq]; exact Int.tdiv_eq_ediv_of_nonneg hxb.1
   have ewq : IntKind.i64.wrap (x.tdiv 4) = q := by rw [← hq]; exact IntWalk.i64_in _ (by omega)
   have HX := hi_ hx; have HQ := hi_ hq
   clear hx hq hq2
   obtain ⟨n1, n2, n3⟩ := HN.out
   go_wp2_with fail
   have hF := f0
   refine wp_region_T (fun w' => w'.cell? ⟨F, 0, none⟩ = some (.slice (some ⟨b, off, none⟩) n c)) (fun w' => w'.cell? ⟨b, off + k, none⟩ = some (.int .i64 x)) 10 (by kernel_rfl) (by exact hF) (by exact hck) (fun _ => ?_)
   replace RW := hi_ RW.out.drew; replace FB := hi_ FB.out.drew; replace E := hi_ E.out.drew
   have hF : wr.drew.cell? ⟨F, 0, none⟩ = some (.slice (some ⟨b, off, none⟩) n c) := f0
   have hG : wr.drew.cell? ⟨b, off + k, none⟩ = some (.int .i64 x) := hck
   have hzk : wr.drew.frozen? ⟨b, off + k, none⟩ = false := hzk
   have hlb : b < wr.drew.heap.size := hlb
   clear f0 f1 f2 hlf hck
   generalize hwd : wr.drew = wd at *
   clear hwd
   refine ttF 0 ?_
   refine ttF 1 ?_
   refine ttF 2 ?_
   refine ttF 3 ?_
   refine ttF 4 ?_
   refine ttF 5 ?_
   refine ttF 6 ?_
   refine ttG 7 ?_
   refine ttF 8 ?_
   refine ttF 9 ?_
   refine rdT 10 (fun K hK => ?_)
   rw [if_pos (by rfl)]
   go_simp
   have RW2 := hi_ (RW.out.set_ (k := k) (by rw [HZ.out.1]; exact hlt) q)
   have FB2 := hi_ (FB.out.far (p := ⟨b, off + k, none⟩) (by simp; omega) (.int .i64 q))
   have E2 := hi_ (show EnvL w.heap.size w (wd.setCell ⟨b, off + k, none⟩ (.int .i64 q)) [] from ⟨E.out.s.far (by simp; omega) _, E.out.k.setCell (.inr (by simp; omega)) _, fun x hx => by cases hx⟩)
   have hF2 : (wd.setCell ⟨b, off + k, none⟩ (.int .i64 q)).cell? ⟨F, 0, none⟩ = some (.slice (some ⟨b, off, none⟩) n c) := by simpa using FB2.out.cell 0
   clear hF hG hzk hlb RW FB E n1 n2 n3
   generalize wd.setCell ⟨b, off + k, none⟩ (.int .i64 q) = ws at *
   have hF := hF2
   refine hK.out _ _ ⟨(by exact hF), fun h => Bool.noConfusion (show true = false from h)⟩ (fun _ => ?_)
   clear hK K
   (try simp only [Act.put]); try simp only [g8b, g8c, g8d]
   refine wpAnyT_done (by kernel_rfl) ?_ _
   clear hF hF2
   go_wp2_with fail
   go_roundg (gk - 1)
   case measure => omega
   case rel =>
    refine ⟨k + 1, zs.set k q, by omega, by go_num, hi_ ⟨by rw [List.length_set]; exact HZ.out.1, fun j hj => ?_⟩, RW2, FB2, E2⟩
    rw [nth_set _ _ _ _ (by rw [HZ.out.1]; exact hlt)]
    by_cases e : j = k
    ·have h := HZ.out.2 k hlt
     rw [if_neg (by omega)] at h
     rw [if_pos e, if_pos (by omega), HQ.out, HX.out, h, e]
    ·rw [if_neg e, HZ.out.2 j hj]
     by_cases e2 : j < k
     ·rw [if_pos e2, if_pos (by omega)]
     ·rw [if_neg e2, if_neg (by omega)]
  ·obtain rfl : k = n := by omega
   have hki : ¬ (k : Int) < k := by omega
   have hzl := HZ.out.1
   have hzq : ∀ j, j < f.vals.length → nth zs j = (nth f.vals j).tdiv 4 := fun j hj => by rw [HZ.out.2 j (by rw [← HL.out]; exact hj), if_pos (by rw [← HL.out]; exact hj)]
   have hp1 := HF.out.1.p1; have hpn := HF.out.1.pn
   rw [HL.out] at hpn
   obtain ⟨P, hP⟩ := Int.eq_ofNat_of_zero_le (show 0 ≤ f.per by omega)
   obtain ⟨J1, hJ1⟩ : ∃ J, J = k - 1 := ⟨_, rfl⟩
   obtain ⟨J3, hJ3⟩ : ∃ J, J = k - P := ⟨_, rfl⟩
   have hJ1k : J1 < k := by omega
   have hJ3k : J3 < k := by omega
   obtain ⟨y1, hy1⟩ : ∃ y, y = nth zs J1 := ⟨_, rfl⟩
   obtain ⟨y3, hy3⟩ : ∃ y, y = nth zs J3 := ⟨_, rfl⟩
   have hyb : ∀ j, j < k → 0 ≤ nth zs j ∧ nth zs j ≤ 4611686018427387904 := fun j hj => by
    have h := HF.out.1.nn j
    rw [hzq j (by rw [HL.out]; exact hj), Int.tdiv_eq_ediv_of_nonneg h.1]
    omega
   have hb1 := hyb J1 hJ1k; have hb3 := hyb J3 hJ3k
   rw [← hy1] at hb1
   rw [← hy3] at hb3
   have ew1 : IntKind.i64.wrap ((k : Int) - 1) = (J1 : Int) := by rw [hJ1, Int.ofNat_sub hn1]; exact IntWalk.i64_in _ (by omega)
   have ew3 : IntKind.i64.wrap ((k : Int) - P) = (J3 : Int) := by rw [hJ3, Int.ofNat_sub (by omega)]; exact IntWalk.i64_in _ (by omega)
   obtain ⟨Y, hY⟩ : ∃ Y, Y = y1 - y3 := ⟨_, rfl⟩
   have ewY : IntKind.i64.wrap (y1 - y3) = Y := by rw [hY]; exact IntWalk.i64_in _ (by omega)
   have hq1 := RW.out.cell (j := J1) (by omega)
   have hq3 := RW.out.cell (j := J3) (by omega)
   rw [← hy1] at hq1
   rw [← hy3] at hq3
   have hlb := RW.out.lt
   have hJ1i : (J1 : Int) < k := by omega
   have hJ3i : (J3 : Int) < k := by omega
   have HQ := hi_ (show ∀ d : Int, 0 ≤ d → d ≤ 10 → Cv.Fin ⟨zs, f.per, Y + d⟩ ∧ 0 ≤ Y ∧ Y ≤ 1073741824 from fun d d0 d1 => by
    have e1 : nth zs (f.vals.length - 1) = y1 := by rw [hy1, hJ1, HL.out]
    have e3 : nth zs (f.vals.length - f.per.toNat) = y3 := by rw [hy3, hJ3, HL.out, hP]; rfl
    have h := quart_ok (m := 5) (zs := zs) (d := d) (by omega) HD.out HF.out (by rw [hzl, HL.out]) hzq d0 d1
    rw [e1, e3, ← hY] at h
    have h0 := quart_ok (m := 5) (zs := zs) (d := 0) (by omega) HD.out HF.out (by rw [hzl, HL.out]) hzq (by omega) (by omega)
    rw [e1, e3, ← hY] at h0
    have a1 : 0 ≤ Y + 0 := h0.1.i1
    have a2 : Y + 0 ≤ 1073741824 := h0.1.i2
    exact ⟨h, by omega, by omega⟩)
   have hYb := (HQ.out 0 (by omega) (by omega)).2
   rw [hP] at f1 FB HQ
   have HZL := hi_ hzl
   obtain ⟨n1, n2, n3⟩ := HN.out
   clear hzq hJ1 hJ3 hy1 hy3 hY hyb HZ HD HF HL
   go_wp2_with fail
   refine wp_region_held_drew (S := fun w' => (w'.cell? ⟨F, 0, none⟩ = some (.slice (some ⟨b, off, none⟩) k c) ∧ w'.cell? ⟨F, 1, none⟩ = some (.int .i64 P)) ∧ w'.cell? ⟨b, off + J1, none⟩ = some (.int .i64 y1) ∧ w'.cell? ⟨b, off + J3, none⟩ = some (.int .i64 y3)) (by kernel_rfl) (by exact ⟨⟨f0, f1⟩, hq1, hq3⟩) (fun hH => ?_)
   replace RW := hi_ RW.out.drew; replace FB := hi_ FB.out.drew; replace E := hi_ E.out.drew
   have hH : (wr.drew.cell? ⟨F, 0, none⟩ = some (.slice (some ⟨b, off, none⟩) k c) ∧ wr.drew.cell? ⟨F, 1, none⟩ = some (.int .i64 P)) ∧ wr.drew.cell? ⟨b, off + J1, none⟩ = some (.int .i64 y1) ∧ wr.drew.cell? ⟨b, off + J3, none⟩ = some (.int .i64 y3) := ⟨⟨f0, f1⟩, hq1, hq3⟩
   clear f0 f1 f2 hlf hq1 hq3 hlb
   generalize hwd : wr.drew = wd at *
   clear hwd
   refine tkO [0, 1, 2, 3, 4, 5, 6, 7, 8, 9, 10, 11, 12, 13, 14, 15, 16, 17, 18, 19] ?_; (iterate 20 refine tkI ?_); refine tkX ?_
   refine rdy2 20 (fun K hK => ?_)
   go_simp
   refine (n_any w.heap.size 3 _ (by exact E.out.s) (by omega) (by omega)).mono ?_
   rintro e w4 ⟨d, d0, d1, rfl, hS, hk⟩
   have hlbd : b < wd.heap.size := RW.out.lt
   replace E := hi_ (E.out.kept hS hk)
   replace FB := hi_ (FB.out.kept (by omega) hk)
   replace RW := hi_ (RW.out.kept (by omega) hk)
   have hS2 : (w4.cell? ⟨F, 0, none⟩ = some (.slice (some ⟨b, off, none⟩) k c) ∧ w4.cell? ⟨F, 1, none⟩ = some (.int .i64 P)) ∧ w4.cell? ⟨b, off + J1, none⟩ = some (.int .i64 y1) ∧ w4.cell? ⟨b, off + J3, none⟩ = some (.int .i64 y3) := by
    have a := hk.block b hlbd (by omega)
    refine ⟨⟨by simpa using FB.out.cell 0, by simpa using FB.out.cell 1⟩, ?_, ?_⟩
    ·exact (World.cell?_of_block (a := ⟨b, off + J1, none⟩) a).trans hH.2.1
    ·exact (World.cell?_of_block (a := ⟨b, off + J3, none⟩) a).trans hH.2.2
   clear hS hk hH hlbd
   have hH := hS2
   refine bkS hK (by exact hS2) (fun hH => ?_)
   clear hS2 hH
   have hH : (w4.cell? ⟨F, 0, none⟩ = some (.slice (some ⟨b, off, none⟩) k c) ∧ w4.cell? ⟨F, 1, none⟩ = some (.int .i64 P)) ∧ w4.cell? ⟨b, off + J1, none⟩ = some (.int .i64 y1) ∧ w4.cell? ⟨b, off + J3, none⟩ = some (.int .i64 y3) := by assumption
   obtain ⟨I, hI⟩ : ∃ I, I = Y + d := ⟨_, rfl⟩
   have ewI : IntKind.i64.wrap (Y + d) = I := by rw [hI]; exact IntWalk.i64_in _ (by omega)
   have HFQ := hi_ (show Cv.Fin ⟨zs, P, I⟩ by rw [hI]; exact (HQ.out d d0 (by omega)).1)
   clear hI
   obtain ⟨⟨f0, f1, f2⟩, ⟨g0, g1, g2⟩, hlf⟩ := FB.out.c3
   refine tkO [21, 22] ?_; (iterate 2 refine tkI ?_); refine tkX ?_
   refine rdy2 23 (fun K hK => ?_)
   go_simp
   have fb2 := FB.out.set_ 2 (.int .i64 I)
   simp only [List.setIfInBounds_toArray, List.set_cons_zero, List.set_cons_succ] at fb2
   have rw2 := RW.out.far (p := ⟨F, 2, none⟩) (by simp; omega) (.int .i64 I)
   have E2 := hi_ (show EnvL w.heap.size w (w4.setCell ⟨F, 2, none⟩ (.int .i64 I)) [(F, ⟨some ⟨b, off, none⟩, k, c, ⟨zs, P, I⟩⟩)] from
    ⟨E.out.s.far (by simp; omega) _, E.out.k.setCell (.inr (by simp; omega)) _, fun x hx => by
     simp only [List.mem_singleton] at hx
     subst hx
     exact ⟨fb2, ⟨by have h := rw2.ints; rw [HZL.out] at h; exact h, fun _ b' o' s' e => by cases e; omega⟩, by simp; omega⟩⟩)
   have hS3 : ((w4.setCell ⟨F, 2, none⟩ (.int .i64 I)).cell? ⟨F, 0, none⟩ = some (.slice (some ⟨b, off, none⟩) k c) ∧ (w4.setCell ⟨F, 2, none⟩ (.int .i64 I)).cell? ⟨F, 1, none⟩ = some (.int .i64 P)) ∧ (w4.setCell ⟨F, 2, none⟩ (.int .i64 I)).cell? ⟨b, off + J1, none⟩ = some (.int .i64 y1) ∧ (w4.setCell ⟨F, 2, none⟩ (.int .i64 I)).cell? ⟨b, off + J3, none⟩ = some (.int .i64 y3) := by
    have hbb := Below.heap_setCell w4 ⟨F, 2, none⟩ (.int .i64 I) b (by simp; omega)
    refine ⟨⟨by simpa using fb2.cell 0, by simpa using fb2.cell 1⟩, ?_, ?_⟩
    ·exact (World.cell?_of_block (a := ⟨b, off + J1, none⟩) hbb).trans hH.2.1
    ·exact (World.cell?_of_block (a := ⟨b, off + J3, none⟩) hbb).trans hH.2.2
   clear fb2 rw2 f0 f1 f2 g0 g1 g2 hlf FB RW E hH
   generalize w4.setCell ⟨F, 2, none⟩ (.int .i64 I) = w5 at *
   refine bkS hK (by exact hS3) (fun hH => ?_)
   clear hS3
   refine dnH ?_
   have E := E2
   clear E2 ewI ewY ew1 ew3 HQ hYb hb1 hb3 hJ1i hJ3i hJ1k hJ3k n1 n2 n3 HN hki hp1 hpn
   obtain ⟨x0, x1, x2, hlx⟩ := (E.out.get 0 rfl).cells
   go_wp2_with fail
   refine (clof_any (some ⟨b, off, none⟩) k c ⟨zs, P, I⟩ _ (by exact (E.out.get 0 rfl).inn.ints) (by omega)).mono ?_
   rintro e w6 ⟨al, er, hSS, A6, n6, c6, -, rfl, hI6, hA6, hb⟩
   have HCL := hi_ hSS
   have hps := E.out.s.lt
   replace E := hi_ (show EnvL w.heap.size w _ _ from (E.out.below hb).push (X := ⟨A6, n6, c6, al⟩) (CR.In.new hI6 hA6 hps))
   dsimp only [List.cons_append, List.nil_append] at E
   clear hSS hI6 hA6 hb hps x0 x1 x2 hlx
   go_upto_region 10 with fail
   generalize hwe : w6.alloc (.cells #[.slice A6 n6 c6, .int .i64 al.per, .int .i64 al.inc] 26) = w7 at *
   clear hwe
   generalize w6.heap.size = Z1 at *
   go_wp2_with fail
   refine (n_any w.heap.size 4 _ (by exact E.out.s) (by omega) (by omega)).mono ?_
   rintro e w8 ⟨z, z0, z1, rfl, hS, hk⟩
   replace E := hi_ (E.out.kept hS hk)
   clear hS hk
   obtain ⟨C, hC⟩ : ∃ C, C = 1 + z := ⟨_, rfl⟩
   have ewC : IntKind.i64.wrap (1 + z) = C := by rw [hC]; exact IntWalk.i64_in _ (by omega)
   have hC1 : 1 ≤ C := by omega
   have hC2 : C ≤ 4 := by omega
   clear hC z0 z1
   go_wp2_with fail
   refine (serve_any C _ (by omega) (by omega)).mono ?_
   rintro e w9 ⟨A7, n7, c7, rfl, hI7, hA7, hb⟩
   have hn7 : n7 ≤ 1 := by have h2 : (lineCv C).vals.length = n7 := hI7.1; have : (lineCv C).vals.length = 1 := rfl; omega
   have hps := E.out.s.lt
   replace E := hi_ (show EnvL w.heap.size w _ _ from (E.out.below hb).push (X := ⟨A7, n7, c7, lineCv C⟩) (CR.In.new hI7 hA7 hps))
   dsimp only [List.cons_append, List.nil_append] at E
   clear hI7 hA7 hb hps ewC
   go_upto_region 12 with fail
   generalize hwe : w9.alloc (.cells #[.slice A7 n7 c7, .int .i64 (lineCv C).per, .int .i64 (lineCv C).inc] 26) = wa at *
   clear hwe
   generalize w9.heap.size = Z2 at *
   obtain ⟨fr, cs, hPv⟩ := HCL.out
   rcases pv_er HFQ.out.1 hPv with rfl | ⟨rfl, -⟩
   case inr =>
    clear hPv
    go_wp2_with fail
    refine (sound_any _).mono ?_
    rintro e wq ⟨rfl, hb⟩
    have bw := (E.out.below hb).fin
    go_wp2_with fail
    go_ret
    exact ⟨rfl, bw⟩
   case inl =>
   obtain ⟨aok, -, a0, alec, asub, -⟩ := ck_get (pv_ck hPv)
   have ainf : ∀ t, ¬ al.infAt t := fun t => by
    rcases alec t with h | h
    ·exact absurd h (HFQ.out.not_infAt t)
    ·exact h.1
   have afin : al.Fin := ⟨aok, fun h => ainf (al.vals.length - 1) ⟨h, by rw [Cv.at_lt (by have := aok.n1; omega)]; exact h⟩⟩
   have asub' : ∀ s u, al.at (s + u) ≤ al.at s + al.at u := fun s u => by
    rcases asub s u with h | h | h
    ·exact absurd h (ainf s)
    ·exact absurd h (ainf u)
    ·exact h.2
   have AF := hi_ afin; have A0' := hi_ a0; have AS := hi_ asub'; have AI := hi_ ainf
   have hn6 : n6 ≤ 400 := by have h1 := aok.n2; have h2 : al.vals.length = n6 := (E.out.get 1 rfl).inn.ints.1; omega
   have LF := hi_ (line_fin (c := C) (by omega) (by omega))
   clear hPv aok a0 alec asub ainf afin asub' HCL HFQ HZL
   obtain ⟨x0, x1, x2, hlx⟩ := (E.out.get 1 rfl).cells
   obtain ⟨y0, y1', y2, hly⟩ := (E.out.get 2 rfl).cells
   go_wp2_with fail
   refine (backlog_any A6 A7 n6 n7 c6 c7 al.per al.inc (lineCv C).per (lineCv C).inc al.vals (lineCv C).vals _ (by exact (E.out.get 1 rfl).inn.ints) (by exact (E.out.get 2 rfl).inn.ints) (by omega) (by omega)).mono ?_
   rintro e wb ⟨i, V, T, er, hDv, rfl, hb⟩
   have HD := hi_ (show DevE (AheadS al (lineCv C) 0) al (lineCv C) i V T er from hDv)
   have her : er = 0 ∨ er = 3 := by
    rcases HD.out with ⟨⟨h1, _⟩ | ⟨_, _, h1, _⟩, _⟩ | ⟨_, _, _, h1, _⟩
    ·exact absurd ⟨AF.out.1, LF.out.1⟩ h1
    ·exact .inr h1
    ·exact .inl h1
   replace E := hi_ ((E.out.below hb).alloc (.cells #[.bool i, .int .i64 V, .int .i64 T] 35))
   have DVB := hi_ (Blk.new wb 35 #[.bool i, .int .i64 V, .int .i64 T])
   clear hDv hb x0 x1 x2 hlx y0 y1' y2 hly
   go_upto_region 15 with fail
   generalize hwe : wb.alloc (.cells #[.bool i, .int .i64 V, .int .i64 T] 35) = wc at *
   clear hwe
   generalize wb.heap.size = ZD at *
   rcases her with rfl | rfl
   case inr =>
    go_wp2_with fail
    refine (sound_any _).mono ?_
    rintro e wq ⟨rfl, hb⟩
    have bw := (E.out.below hb).fin
    go_wp2_with fail
    go_ret
    exact ⟨rfl, bw⟩
   case inl =>
   obtain ⟨v, t, hV, hT, hAh⟩ : ∃ v t : Nat, V = v ∧ T = t ∧ AheadS al (lineCv C) 0 i v t := by
    rcases HD.out with ⟨⟨h1, h2⟩ | ⟨_, _, h1, _⟩, _⟩ | ⟨_, _, _, _, v', A', rfl, rfl, hS⟩
    ·omega
    ·omega
    ·exact ⟨v', A', rfl, rfl, hS⟩
   subst hV hT
   have HAh := hi_ hAh
   clear hAh HD
   obtain ⟨⟨d0', d1', d2'⟩, -, hld⟩ := DVB.out.c3
   cases i with
   | true =>
     go_wp2_with fail
     refine (sound_any _).mono ?_
     rintro e wq ⟨rfl, hb⟩
     have bw := (E.out.below hb).fin
     go_wp2_with fail
     go_ret
     exact ⟨rfl, bw⟩
   | false =>
   have hT1 : t ≤ 1000 := ahead_lt AF.out hC1 (by omega) HAh.out
   obtain ⟨a, ha⟩ : ∃ a, a = al.at t := ⟨_, rfl⟩
   have HA := hi_ ha
   clear ha
   obtain ⟨x0, x1, x2, hlx⟩ := (E.out.get 1 rfl).cells
   go_wp2_with fail
   refine (at02a_any A6 n6 c6 al t _ (by exact (E.out.get 1 rfl).inn.ints) AF.out.1 (by omega)).mono ?_
   rw [← HA.out]
   rintro e wd2 ⟨rfl, hb⟩
   replace E := hi_ (E.out.below hb); replace DVB := hi_ (DVB.out.below hb DVB.out.lt)
   clear hb x0 x1 x2 hlx d0' d1' d2' hld
   by_cases h60 : a ≤ 60
   case neg =>
    have dv : decide ((60 : Int) < a) = true := decide_eq_true (by omega)
    go_wp2_with fail
    refine (sound_any _).mono ?_
    rintro e wq ⟨rfl, hb⟩
    have bw := (E.out.below hb).fin
    go_wp2_with fail
    go_ret
    exact ⟨rfl, bw⟩
   case pos =>
   have dv : decide ((60 : Int) < a) = false := decide_eq_false (by omega)
   obtain ⟨hat, hall⟩ := attained AF.out.1 AI.out A0'.out AS.out hC1 (by omega) HAh.out
   have ht60 : t ≤ 60 := by
    have h1 : (1 : Int) * t ≤ C * t := Int.mul_le_mul_of_nonneg_right hC1 (by omega)
    rw [← HA.out] at hat
    omega
   have HAT := hi_ hat; have HALL := hi_ hall
   clear hat hall
   obtain ⟨⟨d0', d1', d2'⟩, -, hld⟩ := DVB.out.c3
   obtain ⟨x0, x1, x2, hlx⟩ := (E.out.get 1 rfl).cells
   go_wp2_with fail
   clear dv
   refine (greedy_any A6 n6 c6 al t _ (by exact (E.out.get 1 rfl).inn.ints) AF.out (by omega)).mono ?_
   rintro e we ⟨ts, hG, O, k', rfl, hT, -, hb⟩
   replace E := hi_ (E.out.below hb); replace DVB := hi_ (DVB.out.below hb DVB.out.lt)
   have HG := hi_ hG
   have HB := hi_ (gr_full AF.out.1 AI.out (fun n hn => (AF.out.at_bd n).1) A0'.out AS.out (A := t) (by omega) hG (by rw [← HA.out]; exact h60))
   have hgr := grS_gr AF.out.1 AI.out A0'.out AS.out hG.1
   have hle := hG.1.le AI.out
   have hlen := hG.1.len
   have HV := hi_ (gr_valid AF.out.1 A0'.out hgr hlen (fun j hj => by have := hle j hj; omega))
   have HFL := hi_ (show ∀ x ∈ ts.map unit, x.fl = 0 from fun x hx => by simp at hx; obtain ⟨y, _, rfl⟩ := hx; rfl)
   obtain ⟨m, hm⟩ : ∃ m, m = ts.length := ⟨_, rfl⟩
   rw [← hm] at hT hlen
   simp only [← hm]
   have HT := hi_ hT
   have HML := hi_ hm
   clear hT hgr hle hG hb x0 x1 x2 hlx d0' d1' d2' hld hm
   obtain ⟨⟨d0', d1', d2'⟩, -, hld⟩ := DVB.out.c3
   have ewt : IntKind.i64.wrap ((t : Int) + 1) = ((t + 1 : Nat) : Int) := by rw [Int.natCast_add]; exact IntWalk.i64_in _ (by omega)
   go_wp2_with fail
   refine (lnrun_any C 1 O m k' (ts.map unit) (t + 1) _ HT.out HV.out (fun x hx => by rw [HFL.out x hx]; decide) hC1 (by omega) (by omega) (by omega) (by omega)).mono ?_
   rintro e wf ⟨done, sent, gD, gS, gcs, hP, rfl, hd, hs, -, hb⟩
   obtain ⟨s, hmr, hon, hst, hdn, rfl⟩ := hP
   have hok := hmr.ok HV.out hC1
   obtain ⟨l, hl⟩ : ∃ l, s.sent = [l] := by
    have h := hok.ls
    match h2 : s.sent, h with
    | [l], _ => exact ⟨l, rfl⟩
   have hrow := fifo_full HV.out HFL.out hC1 hmr t (by omega) (fun j hj => by rw [HB.out j hj]; exact HALL.out j hj)
   have hll : l.length = t + 2 := by
    have h := hok.lr 0 l (by rw [hl]; rfl)
    rw [hon, hst] at h
    simpa using h
   have hr2 : nth l t = C * t := by
    have e : s.row 0 t = nth l t := by unfold RS.row; rw [hl]; rfl
    rw [← e]; exact hrow
   rw [hl] at hs
   replace HT := hi_ (HT.out.below hb)
   replace E := hi_ ((E.out.below hb).alloc (.cells #[.slice (some ⟨gD, 0, none⟩) m m, .slice (some ⟨gS, 0, none⟩) 1 1] 62)); replace DVB := hi_ ((DVB.out.below hb DVB.out.lt).alloc (.cells #[.slice (some ⟨gD, 0, none⟩) m m, .slice (some ⟨gS, 0, none⟩) 1 1] 62))
   have ba := balloc wf (.cells #[.slice (some ⟨gD, 0, none⟩) m m, .slice (some ⟨gS, 0, none⟩) 1 1] 62)
   replace HT := hi_ (HT.out.below ba)
   have HS := hi_ (hs.kx (X := fun _ => False) (KX.of ba) (fun h => h) (fun _ _ _ h => h))
   have RB := hi_ (Blk.new wf 62 #[.slice (some ⟨gD, 0, none⟩) m m, .slice (some ⟨gS, 0, none⟩) 1 1])
   have HLL := hi_ hll; have HR2 := hi_ hr2
   have hCt : 0 ≤ C * t ∧ C * t ≤ 100000 := by
    have h1 : (C : Int) * t ≤ 4 * t := Int.mul_le_mul_of_nonneg_right hC2 (by omega)
    have h0 : 0 ≤ C * (t : Int) := Int.mul_nonneg (by omega) (by omega)
    omega
   have HCT := hi_ hCt
   clear hmr hon hst hdn hok hl hrow hll hr2 hs hd hb ba d0' d1' d2' hld ewt hCt
   go_upto_region 21 with fail
   generalize hwe : wf.alloc (.cells #[.slice (some ⟨gD, 0, none⟩) m m, .slice (some ⟨gS, 0, none⟩) 1 1] 62) = wg at *
   clear hwe
   generalize wf.heap.size = ZR at *
   obtain ⟨⟨d0', d1', d2'⟩, -, hld⟩ := DVB.out.c3
   obtain ⟨r0, r1⟩ : _ ∧ _ := ⟨RB.out.cell 0, RB.out.cell 1⟩
   simp at r0 r1
   have hlr := RB.out.lt
   go_wp2_with fail
   refine (queue_any O m k' (ts.map unit) gD gS (t + 1 + 1) gcs l t _ HT.out HV.out HS.out (by have := HLL.out; omega) (by omega) (by rw [HR2.out]; exact ⟨HCT.out.1, by have := HCT.out.2; omega⟩)).mono ?_
   rintro e wh ⟨zz, rfl, hb⟩
   have hfin : aV 0 (ts.map unit) t - nth l t = v := by
    rw [HB.out t (Nat.le_refl _), HR2.out, HAT.out]
    omega
   rw [hfin]
   replace E := hi_ (E.out.below hb); replace DVB := hi_ (DVB.out.below hb DVB.out.lt)
   clear hb hfin d0' d1' d2' hld r0 r1 hlr
   obtain ⟨⟨d0', d1', d2'⟩, -, hld⟩ := DVB.out.c3
   have dvv : ((v : Int) == v) = true := by simp
   go_wp2_with fail
   refine (sound_any _).mono ?_
   rintro e wq ⟨rfl, hb⟩
   have bw := (E.out.below hb).fin
   go_wp2_with fail
   go_ret
   exact ⟨rfl, bw⟩
end
end Go.Proofs.YtaejfleahamapaaGreat
