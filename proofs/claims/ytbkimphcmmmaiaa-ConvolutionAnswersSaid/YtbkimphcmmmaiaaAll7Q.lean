/- curve.Wait (out of XMake). -/
import Derived.Test.YtbkimphcmmmaiaaRefSame
import Derived.Test.YtbkimphcmmmaiaaRefMade
import Derived.Test.YtbkimphcmmmaiaaAwake7
import Derived.Test.YtbkimphcmmmaiaaEnvL
import Derived.Test.YtbkimphcmmmaiaaAlgLaw
import Derived.Test.YtbkimphcmmmaiaaRef7O
import Derived.BigQuiet
import Derived.Deep.QuietTactic
import Derived.Deep.LoopGhost
namespace Go.Proofs.Ytbkimphcmmmaiaa
open Go.RowKit
set_option linter.unusedVariables false


/-- what curve.Wait returns -/
def waitC (t : Int) : Cv × Int := if t < 0 then (Cv.none, 2) else if 398 < t then (Cv.none, 3) else (⟨List.replicate (t.toNat + 1) 0 ++ [inf], 1, 0⟩, 0)
theorem wait_list (t : Nat) : (List.replicate (t + 2) (0 : Int)).set (t + 1) inf = List.replicate (t + 1) 0 ++ [inf] := by
  refine list_ext (by simp) (fun k hk => ?_)
  simp at hk
  rw [nth_set _ _ _ _ (by simp), nth_append, List.length_replicate]
  by_cases e : k = t + 1
  · subst e; simp [nth]
  · rw [if_neg e, if_pos (by omega), nth_replicate, nth_replicate]

set_option maxHeartbeats 1000000 in
theorem wait_any (t : Int) (w : World) : Calls Try.prog 105 #[.int .i64 t] w (RetC (waitC t).1 (waitC t).2 w) := by
  by_cases h0 : t < 0
  · rw [show waitC t = (Cv.none, 2) by unfold waitC; rw [if_pos h0]]
    go_enter Try.func105, Try.ntmps105
    go_wp2
    exact bodyPost_ret (v := .tuple #[.agg #[.slice none 0 0, .int .i64 0, .int .i64 0], .int .i64 2]) (by simp [results, Try.results105, go_sem]) rfl (retC_none0 (balloc _ _))
  · by_cases h1 : 398 < t
    · rw [show waitC t = (Cv.none, 3) by unfold waitC; rw [if_neg h0, if_pos h1]]
      go_enter Try.func105, Try.ntmps105
      go_wp2
      exact bodyPost_ret (v := .tuple #[.agg #[.slice none 0 0, .int .i64 0, .int .i64 0], .int .i64 3]) (by simp [results, Try.results105, go_sem]) rfl (retC_none0 (balloc _ _))
    · rw [show waitC t = (⟨List.replicate (t.toNat + 1) 0 ++ [inf], 1, 0⟩, 0) by unfold waitC; rw [if_neg h0, if_neg h1]]
      obtain ⟨t, rfl⟩ := Int.eq_ofNat_of_zero_le (show 0 ≤ t by omega)
      rw [Int.toNat_natCast]
      obtain ⟨i0, hi0, hz0, hz1, hz2⟩ := info_parts info_int
      go_enter Try.func105, Try.ntmps105
      go_wp2_with (at_make; refine wpList_make_full _ rfl _ _ 22 rfl w.heap.size 3 i0 _ 1 Try.underlying22 hi0 hz0 hz1 .i64 .i64 _ _ (t + 2) rfl rfl rfl rfl (by rw [hz2]; omega) (by unfold maxLen; omega) (by simp) ?_; intro w1 own1 grow1; have bw1 : Below w.heap.size w w1 := ((Below.refl _ _).alloc (Nat.le_refl _) _).grown grow1 (by simp) (by simp); have ib1 := IBlk.made own1 (by omega); have rb1 : Blk w1 w.heap.size 31 #[.slice none 0 0, .int .i64 0, .int .i64 0] := (Blk.new w _ _).grown grow1 (by simp); rw [show (w.alloc (.cells #[.slice none 0 0, .int .i64 0, .int .i64 0] 31)).heap.size = w.heap.size + 1 by simp] at ib1; have hsz1 := ib1.lt; have c1 := ib1.cell (t + 1) (by simp); have f1 := ib1.frozen (t + 1); have ib2 := ib1.set_ (t + 1) inf; rw [wait_list] at ib2; have r0 := rb1.cell 0; have r1 := rb1.cell 1; have r2 := rb1.cell 2; have z0 := rb1.frozen 0; have z1 := rb1.frozen 1; have z2 := rb1.frozen 2; simp at r0 r1 r2; have RB := Lib.hid rb1; have IB := Lib.hid ib2; have BW := Lib.hid bw1; clear own1 grow1 hi0 hz0 hz1 hz2 bw1 ib1 ib2 rb1)
      have rb2 := (RB.out.far (p := ⟨w.heap.size + 1, t + 1, none⟩) (by simp) (.int .i64 4611686018427387904)).store3 (.slice (some ⟨w.heap.size + 1, 0, none⟩) (t + 2) (t + 2)) (.int .i64 1) (.int .i64 0)
      have hI := IB.out.ints
      rw [show (List.replicate (t + 1) (0 : Int) ++ [inf]).length = t + 2 by simp] at hI
      exact bodyPost_ret (v := .tuple #[.agg #[.slice (some ⟨w.heap.size + 1, 0, none⟩) (t + 2) (t + 2), .int .i64 1, .int .i64 0], .int .i64 0]) (by simp [results, Try.results105, go_sem, rb2.cell]) rfl
        (retC_store3' (B := w.heap.size + 1) (fun b off s h => by cases h; omega) (Nat.le_refl _) (by omega) (f := ⟨List.replicate (t + 1) 0 ++ [inf], 1, 0⟩) hI (BW.out.setCell (by simp) _))
end Go.Proofs.Ytbkimphcmmmaiaa
namespace Go.Proofs.Ytbkimphcmmmaiaa
open Go.RowKit
set_option linter.unusedVariables false

def waitV (n t : Nat) : Int := if t ≤ n then 0 else inf
/-- a drawn curve, some ticks ahead, is within the limits -/
theorem wait_inf {n : Nat} {v : Cv} (hv : v.Ok) (e : v.at = waitV n) (t : Nat) : v.infAt t ↔ n < t := by
  constructor
  · intro h
    have h1 := h.2
    rw [e] at h1
    unfold waitV at h1
    split at h1
    · exact absurd h1 (by decide)
    · omega
  · intro h
    refine ⟨?_, by rw [e]; unfold waitV; rw [if_neg (by omega)]⟩
    rcases hv.fin_or with fv | iv
    · exfalso
      have h2 := hv.n2
      have h4 : v.at (n + 1) = inf := by rw [e]; unfold waitV; rw [if_neg (by omega)]
      by_cases hn : n + 1 < v.vals.length
      · rw [Cv.at_lt hn] at h4
        exact (fv.ne _ hn).1 h4
      · have s1 := fv.toL.step (n + 1) (by omega)
        have s0 := fv.toL.step (v.vals.length - v.per.toNat) (Nat.le_refl _)
        have p1 := hv.p1; have pn := hv.pn; have i2 := hv.i2; have i1 := hv.i1
        have e1 : v.at (n + 1 + v.per.toNat) = inf := by rw [e]; unfold waitV; rw [if_neg (by omega)]
        rw [h4, e1] at s1
        have hi : v.inc = 0 := by omega
        have s2 := fv.toL.step.mul (n + 1) (v.vals.length - v.per.toNat) (Nat.le_refl _)
        rw [hi, Int.mul_zero, Int.add_zero] at s2
        have hge : (n + 1) * 1 ≤ (n + 1) * v.per.toNat := Nat.mul_le_mul_left _ (by omega)
        have e2 : v.at (v.vals.length - v.per.toNat + (n + 1) * v.per.toNat) = inf := by rw [e]; unfold waitV; rw [if_neg (by omega)]
        rw [e2, Cv.at_lt (by omega)] at s2
        exact (fv.ne _ (by omega)).1 s2.symm
    · exact iv
def waitW (n : Nat) : Cv := ⟨List.replicate (n + 1) 0 ++ [inf], 1, 0⟩
theorem waitW_len (n : Nat) : (waitW n).vals.length = n + 2 := by simp [waitW]
theorem waitW_nth (n k : Nat) (hk : k < n + 2) : nth (waitW n).vals k = waitV n k := by
  show nth (List.replicate (n + 1) 0 ++ [inf]) k = waitV n k
  unfold waitV
  rw [nth_append]
  simp only [List.length_replicate]
  rcases Nat.lt_or_ge k (n + 1) with h | h
  · rw [if_pos h, if_pos (by omega), nth_replicate]
  · rw [if_neg (by omega), if_neg (by omega), show k - (n + 1) = 0 by omega]; rfl
theorem waitV_up (n : Nat) : Up0 (waitV n) := ⟨by unfold waitV; rw [if_pos (Nat.zero_le _)]; exact Int.le_refl _, fun t => by
  unfold waitV
  split <;> split
  · exact Int.le_refl _
  · decide
  · omega
  · exact Int.le_refl _⟩
theorem waitW_nf (n : Nat) : NF (waitV n) (waitW n) := by
  have hl := waitW_len n
  refine .inr ⟨rfl, rfl, by omega, fun t ht => waitW_nth n t (by omega), fun t ht => ?_, fun t ht => ?_⟩
  · unfold waitV
    rw [if_pos (by omega)]
    decide
  · unfold waitV
    rw [if_neg (by omega)]
theorem waitW_lim {n : Nat} (hn : n ≤ 300) : Lim (waitW n) := by
  have hl := waitW_len n
  refine ⟨by omega, fun k hk => (okv_iff _).2 ?_, by show (1 : Int) ≤ 120; omega, by show (0 : Int) ≤ 1073741824; omega⟩
  rw [waitW_nth n k (by omega)]
  unfold waitV
  split
  · right; omega
  · left; rfl
theorem waitW_ok {n : Nat} (hn : n ≤ 300) : (waitW n).Ok := nf_lim_ok (waitW_nf n) (waitV_up n) (waitW_lim hn)
theorem waitW_at (n : Nat) : (waitW n).at = waitV n := funext (waitW_nf n).at
theorem own_made {w : World} {g n : Nat} (h : w.ownsRow g 3 1 (.slice (some ⟨g, 0, none⟩) n n) n (madeCells #[Value.int .i64 0] n).toList) : Own w g (.slice (some ⟨g, 0, none⟩) n n) n (List.replicate n 0) := by
  have e : (madeCells #[Value.int .i64 0] n).toList = (List.replicate n 0).map (Value.int .i64) := by simp [madeCells, Nat.mod_one, List.eq_replicate_iff]
  rw [e] at h
  exact h
set_option maxHeartbeats 1000000 in
theorem refWait_any (n : Nat) (hn : n ≤ 300) (w : World) : Calls Try.prog 32 #[.int .i64 n] w (RetS2 (fun f er => f = waitW n ∧ er = 0) w) := by
  have ok := waitW_ok hn
  have hl := waitW_len n
  obtain ⟨i0, hi0, hz0, hy1, hy2⟩ := info_parts info_int
  obtain ⟨N, hN⟩ : ∃ N : Nat, N = n + 1 := ⟨_, rfl⟩
  have e1 : IntKind.i64.wrap ((n : Int) + 1) = (N : Int) := by rw [IntWalk.i64_in _ (by omega)]; omega
  have e1' : (n : Int) + 1 = (N : Int) := by omega
  have e2 : IntKind.i64.wrap (N : Int) = (N : Int) := IntWalk.i64_in _ (by omega)
  have d1 : ¬ (n : Int) < 0 := by omega
  have d2 : ¬ (n : Int) ≥ 400 := by omega
  have RB0 := Lib.hid (Blk.new w 31 #[.slice none 0 0, .int .i64 0, .int .i64 0])
  have BW0 := Lib.hid (balloc w (.cells #[.slice none 0 0, .int .i64 0, .int .i64 0] 31))
  have HN := Lib.hid hN; have OK := Lib.hid ok; have HL := Lib.hid hl
  clear ok hl hN
  go_enter Try.func32, Try.ntmps32
  go_upto_region 5 with fail
  generalize hwe : w.alloc (.cells #[.slice none 0 0, .int .i64 0, .int .i64 0] 31) = we at *
  clear hwe
  go_wp2_with (at_make; refine wpList_make_full _ rfl _ _ 22 rfl we.heap.size 3 i0 _ 1 Try.underlying22 hi0 hz0 hy1 .i64 .i64 _ _ N rfl rfl rfl rfl (by rw [hy2]; omega) (by unfold maxLen; omega) (by simp) ?_)
  intro w3 own1 grow1
  have hb3 : Below we.heap.size we w3 := (Below.refl _ _).grown grow1 (by simp) (by simp)
  have ow := own_made own1
  have own1x := ow.alloc (.cells ([inf].map (Value.int .i64)).toArray 3)
  have IAy := ints_litC w3 [inf]
  rw [World.size_alloc] at IAy
  have hs3 := hb3.size
  go_wp2_with (at_builtin; refine wpList_app rfl _ _ 22 rfl Try.underlying22 we.heap.size (.slice (some ⟨we.heap.size, 0, none⟩) N N) N (List.replicate N 0) rfl own1x (w3.heap.size + 1) (some ⟨w3.heap.size, 0, none⟩) 1 1 [inf] rfl IAy (by omega) (by simp; omega) ?_)
  intro v2 w4 own2 grow2 at2
  have hb4 : Below we.heap.size we w4 := (hb3.alloc hs3 _).grown grow2 (by simp; omega) (fun g hg => (ow.blk_lt g hg).1)
  obtain ⟨A2, c2, rfl, hc2, hI2, hf2⟩ := own2.ints
  have RB := Lib.hid (RB0.out.below hb4 RB0.out.lt)
  have BW := Lib.hid (bthen BW0.out hb4)
  have I2 := Lib.hid hI2
  have hrs := RB0.out.lt
  clear hi0 hz0 hy1 hy2 own1 grow1 ow own1x IAy own2 grow2 at2 hb3 hb4 hI2 RB0 BW0 hs3
  have hv : List.replicate N 0 ++ [inf] = (waitW n).vals := by rw [HN.out]; rfl
  have ea : Cv.at ⟨List.replicate N 0 ++ [inf], 1, 0⟩ = waitV n := by rw [hv]; exact waitW_at n
  have TB := refMade_any A2 (N + 1) c2 1 0 (List.replicate N 0 ++ [inf]) w4 (by exact I2.out) hc2 (by rw [hv]; exact OK.out.pre) (by rw [ea]; exact waitV_up n) (fun m t hm h hmt => by
    rw [hv] at hm h
    rw [ea]
    rw [HL.out] at hm
    rw [waitW_nth n m hm] at h
    unfold waitV at h ⊢
    split at h
    · exact absurd h (by decide)
    · rw [if_neg (by omega)])
  rw [ea] at TB
  have TB := Lib.hid TB
  clear hv ea
  go_wp2_with fail
  refine TB.out.mono ?_
  rintro e w5 ⟨r, er, A5, n5, c5, hS, hc5, rfl, hI5, hA5, hbq⟩
  obtain ⟨rfl, rfl⟩ := hS.unique ⟨waitW n, waitW_nf n, .inl ⟨waitW_lim hn, rfl, rfl⟩⟩
  have hs0 := RB.out.lt
  replace RB := Lib.hid (RB.out.below hbq RB.out.lt)
  replace BW := Lib.hid (bthen BW.out hbq)
  have HI5 := Lib.hid hI5; have HA5 := Lib.hid hA5
  clear hS hI5 hA5 hbq TB
  obtain ⟨⟨r0, r1, r2⟩, ⟨y0, y1, y2⟩, hlr⟩ := RB.out.c3
  go_wp2_with fail
  have rb := RB.out.store3 (.slice A5 n5 c5) (.int .i64 (waitW n).per) (.int .i64 (waitW n).inc)
  refine bodyPost_ret (v := .tuple #[.agg #[.slice A5 n5 c5, .int .i64 (waitW n).per, .int .i64 (waitW n).inc], .int .i64 0]) (by simp [results, Try.results32, go_sem, rb.cell]) rfl ?_
  exact retS2_store (f := waitW n) (er := 0) ⟨rfl, rfl⟩ hc5 HA5.out (Nat.le_refl _) hs0 HI5.out BW.out
end Go.Proofs.Ytbkimphcmmmaiaa
namespace Go.Proofs.Ytbkimphcmmmaiaa
open Go.RowKit
set_option linter.unusedVariables false
/-- the convolution of a list of curves, from acc on -/
def AllS : Cv → List Cv → Cv → Int → Prop
  | acc, [], r, e => r = acc ∧ e = 0
  | acc, x :: l, r, e => ∃ (s : Cv) (es : Int), CvS acc x s es ∧ ((es ≠ 0 ∧ r = Cv.none ∧ e = es) ∨ (es = 0 ∧ AllS s l r e))
theorem AllS.unique {l : List Cv} : ∀ {acc r r' : Cv} {e e' : Int}, AllS acc l r e → AllS acc l r' e' → r = r' ∧ e = e' := by
  induction l with
  | nil => intro acc r r' e e' h k; exact ⟨by rw [h.1, k.1], by rw [h.2, k.2]⟩
  | cons x l ih =>
    rintro acc r r' e e' ⟨s, es, h1, h2⟩ ⟨s', es', k1, k2⟩
    obtain ⟨rfl, rfl⟩ := h1.unique k1
    rcases h2 with ⟨h, rfl, rfl⟩ | ⟨h, h2⟩ <;> rcases k2 with ⟨k, rfl, rfl⟩ | ⟨k, k2⟩
    · exact ⟨rfl, rfl⟩
    · exact absurd k h
    · exact absurd h k
    · exact ih h2 k2
theorem Row.to {p q b : Nat} {w : World} {xs : List CR} (h : Row p w b xs) (hq : w.heap.size ≤ q) : Row q w b xs :=
  ⟨h.blk, fun x hx => ⟨(h.inn x hx).ints, fun hn b off s e => by
    obtain ⟨b', off', e', hb, _⟩ := (h.inn x hx).ints.2 hn
    rw [e] at e'; cases e'; omega⟩, by have := h.lt; omega⟩
theorem Row.get2 {p b : Nat} {w : World} {xs : List CR} (h : Row p w b xs) {k : Nat} (hk : k < xs.length) : ∃ x, x ∈ xs ∧ xs.drop k = x :: xs.drop (k + 1) ∧ x.In p w ∧ w.cell? ⟨b, k * 3, none⟩ = some (.slice x.A x.n x.c) ∧ w.cell? ⟨b, k * 3 + 1, none⟩ = some (.int .i64 x.f.per) ∧ w.cell? ⟨b, k * 3 + 2, none⟩ = some (.int .i64 x.f.inc) := by
  have hx : xs[k]? = some xs[k] := List.getElem?_eq_getElem hk
  refine ⟨xs[k], List.getElem_mem hk, List.drop_eq_getElem_cons hk, h.inn _ (List.getElem_mem hk), ?_, ?_, ?_⟩
  · have := h.blk.cell (k * 3 + 0)
    rw [List.getElem?_toArray, flat_get xs k 0 _ hx (by omega)] at this
    exact this
  · have := h.blk.cell (k * 3 + 1)
    rw [List.getElem?_toArray, flat_get xs k 1 _ hx (by omega)] at this
    exact this
  · have := h.blk.cell (k * 3 + 2)
    rw [List.getElem?_toArray, flat_get xs k 2 _ hx (by omega)] at this
    exact this
set_option maxHeartbeats 4000000 in
set_option maxRecDepth 100000 in
theorem cvall_any (A : Option Addr) (n cap : Nat) (xs : List CR) (w : World) (hN : xs.length = n) (hN2 : n ≤ 100) (hR : 0 < n → ∃ b, A = some ⟨b, 0, none⟩ ∧ Row w.heap.size w b xs) (h9 : ∀ x ∈ xs, (x.n : Int) ≤ 1000000) :
    Calls Try.prog 54 #[.slice A n cap] w (RetS (AllS (waitC 0).1 (xs.map CR.f)) w) := by
  have RB := Lib.hid (Blk.new w 31 #[.slice none 0 0, .int .i64 0, .int .i64 0])
  have BW := Lib.hid (balloc w (.cells #[.slice none 0 0, .int .i64 0, .int .i64 0] 31))
  have HR := Lib.hid hR
  have H9 := Lib.hid h9; have HXN := Lib.hid hN
  clear hR h9 hN
  go_enter Try.func54, Try.ntmps54
  go_wp2_with fail
  refine (wait_any 0 _).mono ?_
  rintro e w1 ⟨As, ns, cs, rfl, hI, hA, hb⟩
  have hns : ns ≤ 1000000 := by have h1 := hI.1; have h2 : (waitC 0).1.vals.length = 2 := rfl; omega
  have ew : (waitC 0).2 = 0 := rfl
  rw [ew]
  generalize (waitC 0).1 = S0 at *
  simp only [World.size_alloc] at hA
  have hsz : w.heap.size < w1.heap.size := by have := hb.size; simp only [World.size_alloc] at this; omega
  have SB := Lib.hid (Blk.new w1 31 #[.slice As ns cs, .int .i64 S0.per, .int .i64 S0.inc])
  have IS := Lib.hid (hI.alloc' (.cells #[.slice As ns cs, .int .i64 S0.per, .int .i64 S0.inc] 31))
  have AS := Lib.hid (show ∀ b off s, As = some ⟨b, off, s⟩ → w.heap.size < b from fun b off s e => by have := hA b off s e; omega)
  have RB := Lib.hid ((RB.out.below hb RB.out.lt).alloc (.cells #[.slice As ns cs, .int .i64 S0.per, .int .i64 S0.inc] 31))
  have BW := Lib.hid (bthen (bthen BW.out hb) (balloc _ (.cells #[.slice As ns cs, .int .i64 S0.per, .int .i64 S0.inc] 31)))
  have RW := Lib.hid (show 0 < n → ∃ b, A = some ⟨b, 0, none⟩ ∧ Row w1.heap.size (w1.alloc (.cells #[.slice As ns cs, .int .i64 S0.per, .int .i64 S0.inc] 31)) b xs from fun h => by obtain ⟨b, h1, h2⟩ := HR.out h; exact ⟨b, h1, (((h2.to (Nat.le_of_lt hsz)).below (balloc _ _)).below hb).below (balloc _ _)⟩)
  clear hI hA hb ew
  go_upto_region 2 with fail
  generalize hwe : w1.alloc (.cells #[.slice As ns cs, .int .i64 S0.per, .int .i64 S0.inc] 31) = we at *
  clear hwe
  generalize w1.heap.size = PS at *
  clear HR
  go_wp2_with fail
  have HW := Lib.hid (show ∀ r e, AllS S0 ((xs.drop 0).map CR.f) r e → AllS S0 (xs.map CR.f) r e from fun r e h => h)
  go_loopg [5, 7, 14] n (fun gg s5 s7 s14 wx => ∃ (k : Nat) (S : Cv) (As : Option Addr) (ns cs : Nat), k + gg = n ∧ s14 = .int .i64 k ∧ s5 = .int .i64 0 ∧ (∀ r e, AllS S ((xs.drop k).map CR.f) r e → AllS S0 (xs.map CR.f) r e) ∧ ns ≤ 1000000 ∧ Blk wx PS 31 #[.slice As ns cs, .int .i64 S.per, .int .i64 S.inc] ∧ Ints wx wx.heap.size As ns S.vals ∧ (∀ b off s, As = some ⟨b, off, s⟩ → w.heap.size < b) ∧
    (0 < n → ∃ b, A = some ⟨b, 0, none⟩ ∧ Row PS wx b xs) ∧ Blk wx w.heap.size 31 #[.slice none 0 0, .int .i64 0, .int .i64 0] ∧ Below w.heap.size w wx)
  case atStart => exact ⟨0, S0, As, ns, cs, by omega, rfl, rfl, HW.out, hns, SB.out, IS.out, AS.out, RW.out, RB.out, BW.out⟩
  case round =>
    clear SB IS AS RW RB BW HW hns
    obtain ⟨k, S, As, ns, cs, hkg, rfl, rfl, hW, hns, hSB, hIS, hAS, hRW, hRB, hBW⟩ := hrel
    have HW := Lib.hid hW; have SB := Lib.hid hSB; have IS := Lib.hid hIS; have AS := Lib.hid hAS; have RB := Lib.hid hRB; have BW := Lib.hid hBW; have RWW := Lib.hid hRW
    clear hW hSB hIS hAS hRB hBW hRW
    by_cases hk : k < n
    · obtain ⟨b, rfl, hR⟩ := RWW.out (by omega)
      clear RWW
      have hki : (k : Int) < n := by omega
      obtain ⟨x, hxm, hxd, hxi, c0, c1, c2⟩ := hR.get2 (k := k) (by rw [HXN.out]; exact hk)
      have hx9 := H9.out x hxm
      have RW := Lib.hid hR; have XI := Lib.hid hxi; have XD := Lib.hid hxd
      have hlb := hR.lt
      clear hR hxi hxd
      go_upto_region 5 with fail
      have hps := SB.out.lt
      have XB := Lib.hid (Blk.new wr 31 #[.slice x.A x.n x.c, .int .i64 x.f.per, .int .i64 x.f.inc])
      replace SB := Lib.hid (SB.out.alloc (.cells #[.slice x.A x.n x.c, .int .i64 x.f.per, .int .i64 x.f.inc] 31)); replace IS := Lib.hid (IS.out.alloc' (.cells #[.slice x.A x.n x.c, .int .i64 x.f.per, .int .i64 x.f.inc] 31)); replace RB := Lib.hid (RB.out.alloc (.cells #[.slice x.A x.n x.c, .int .i64 x.f.per, .int .i64 x.f.inc] 31)); replace BW := Lib.hid (ball BW.out (.cells #[.slice x.A x.n x.c, .int .i64 x.f.per, .int .i64 x.f.inc] 31)); replace RW := Lib.hid (RW.out.alloc (.cells #[.slice x.A x.n x.c, .int .i64 x.f.per, .int .i64 x.f.inc] 31)); replace XI := Lib.hid (XI.out.alloc (.cells #[.slice x.A x.n x.c, .int .i64 x.f.per, .int .i64 x.f.inc] 31))
      clear c0 c1 c2 hlb
      generalize hwe : wr.alloc (.cells #[.slice x.A x.n x.c, .int .i64 x.f.per, .int .i64 x.f.inc] 31) = wx at *
      clear hwe
      generalize wr.heap.size = PX at *
      obtain ⟨⟨x0, x1, x2⟩, _, hlx⟩ := XB.out.c3
      obtain ⟨⟨s0, s1, s2⟩, _, hls⟩ := SB.out.c3
      go_wp2_with fail
      refine (cvfn_any As x.A ns x.n cs x.c S.per S.inc x.f.per x.f.inc S.vals x.f.vals _ (by exact IS.out) (by exact XI.out.ints) (by omega) hx9).mono ?_
      rintro e w2 ⟨r, er, hS, A5, n5, c5, hle, rfl, hI, hA, hb⟩
      have HS := Lib.hid (show CvS S x.f r er from hS)
      have SB := Lib.hid (SB.out.below hb SB.out.lt); have RB := Lib.hid (RB.out.below hb RB.out.lt); have BW := Lib.hid (bthen BW.out hb); have RW := Lib.hid (RW.out.below hb)
      have hA5 := Lib.hid (show ∀ b off s, A5 = some ⟨b, off, s⟩ → PS < b from fun b off s e => by have := hA b off s e; omega)
      have HI := Lib.hid hI
      clear hS hle hI hA hb x0 x1 x2 hlx s0 s1 s2 hls XB XI IS
      obtain ⟨⟨s0, s1, s2⟩, ⟨v0, v1, v2⟩, hls⟩ := SB.out.c3
      go_upto_region 6 with fail
      have SB := Lib.hid (SB.out.store3 (.slice A5 n5 c5) (.int .i64 r.per) (.int .i64 r.inc))
      have RB := Lib.hid (RB.out.sto (Sto.three PS w2 (.slice A5 n5 c5) (.int .i64 r.per) (.int .i64 r.inc)) (by omega)); have BW := Lib.hid (bsto BW.out (Sto.three PS w2 (.slice A5 n5 c5) (.int .i64 r.per) (.int .i64 r.inc)) (by omega))
      have IR := Lib.hid (HI.out.sto (Sto.three PS w2 (.slice A5 n5 c5) (.int .i64 r.per) (.int .i64 r.inc)) (fun b off o e => by have := hA5.out b off o e; omega))
      have RW := Lib.hid (RW.out.kept ((((Kept.refl w2.heap.size PS w2).setCell (a := ⟨PS, 0, none⟩) (.inl rfl) (.slice A5 n5 c5)).setCell (a := ⟨PS, 1, none⟩) (.inl rfl) (.int .i64 r.per)).setCell (a := ⟨PS, 2, none⟩) (.inl rfl) (.int .i64 r.inc)))
      clear s0 s1 s2 v0 v1 v2 hls HI
      generalize hwe : ((w2.setCell ⟨PS, 0, none⟩ (.slice A5 n5 c5)).setCell ⟨PS, 1, none⟩ (.int .i64 r.per)).setCell ⟨PS, 2, none⟩ (.int .i64 r.inc) = wy at *
      clear hwe
      by_cases her : er = 0
      case neg =>
        have de : (er != 0) = true := by simpa using her
        have FIN := Lib.hid (show AllS S0 (xs.map CR.f) Cv.none er from HW.out _ _ (by rw [XD.out, List.map_cons]; exact ⟨r, er, HS.out, .inl ⟨her, rfl, rfl⟩⟩))
        clear her
        obtain ⟨⟨r0, r1, r2⟩, ⟨y0, y1, y2⟩, hlr⟩ := RB.out.c3
        go_wp2_with fail
        have rb := RB.out.store3 (.slice none 0 0) (.int .i64 0) (.int .i64 0)
        exact bodyPost_ret (v := .tuple #[.agg #[.slice none 0 0, .int .i64 0, .int .i64 0], .int .i64 er]) (by simp [results, Try.results54, go_sem, rb.cell]) rfl
          ⟨Cv.none, er, FIN.out, none, 0, 0, rfl, Ints.none_, (fun b off s h => by cases h), bsto BW.out (Sto.three _ _ _ _ _) (by omega)⟩
      case pos =>
        subst her
        have hr := (cv_get HS.out).2.2.1
        have hn5 : n5 ≤ 1000000 := by have h1 := hr.n2; have h2 := IR.out.1; omega
        have HW2 := Lib.hid (show ∀ r' e, AllS r ((xs.drop (k + 1)).map CR.f) r' e → AllS S0 (xs.map CR.f) r' e from fun r' e h => HW.out _ _ (by rw [XD.out, List.map_cons]; exact ⟨r, 0, HS.out, .inr ⟨rfl, h⟩⟩))
        clear hr
        go_wp2_with fail
        go_roundg (gk - 1)
        case measure => omega
        case rel => exact ⟨k + 1, r, A5, n5, c5, by omega, by go_num, rfl, HW2.out, hn5, SB.out, IR.out, (fun b off s e => by have := hA5.out b off s e; omega), (fun _ => ⟨b, rfl, RW.out⟩), RB.out, BW.out⟩
    · have hki : ¬ (k : Int) < n := by omega
      have hkn : k = n := by omega
      have FIN := Lib.hid (show AllS S0 (xs.map CR.f) S 0 from HW.out _ _ (by rw [hkn, ← HXN.out, List.drop_length]; exact ⟨rfl, rfl⟩))
      clear hkn hk RWW
      obtain ⟨⟨s0, s1, s2⟩, _, hls⟩ := SB.out.c3
      obtain ⟨⟨r0, r1, r2⟩, ⟨y0, y1, y2⟩, hlr⟩ := RB.out.c3
      go_wp2_with fail
      have rb := RB.out.store3 (.slice As ns cs) (.int .i64 S.per) (.int .i64 S.inc)
      exact bodyPost_ret (v := .tuple #[.agg #[.slice As ns cs, .int .i64 S.per, .int .i64 S.inc], .int .i64 0]) (by simp [results, Try.results54, go_sem, rb.cell]) rfl
        ⟨S, 0, FIN.out, As, ns, cs, rfl, IS.out.sto (Sto.three _ _ _ _ _) (fun b off o e => by have := AS.out b off o e; omega), (fun b off s e => by have := AS.out b off s e; omega), bsto BW.out (Sto.three _ _ _ _ _) (by omega)⟩
end Go.Proofs.Ytbkimphcmmmaiaa
namespace Go.Proofs.Ytbkimphcmmmaiaa
open Go.RowKit
set_option linter.unusedVariables false
set_option maxHeartbeats 4000000 in
set_option maxRecDepth 100000 in
theorem refall7_any (A : Option Addr) (n cap : Nat) (xs : List CR) (w : World) (hN : xs.length = n) (hN2 : n ≤ 100) (hR : 0 < n → ∃ b, A = some ⟨b, 0, none⟩ ∧ Row w.heap.size w b xs) (h9 : ∀ x ∈ xs, (x.n : Int) ≤ 1000000) (h8 : ∀ x ∈ xs, x.n ≤ x.c) :
    Calls Try.prog 55 #[.slice A n cap] w (RetS (AllS (waitC 0).1 (xs.map CR.f)) w) := by
  have RB := Lib.hid (Blk.new w 31 #[.slice none 0 0, .int .i64 0, .int .i64 0])
  have BW := Lib.hid (balloc w (.cells #[.slice none 0 0, .int .i64 0, .int .i64 0] 31))
  have HR := Lib.hid hR
  have H9 := Lib.hid h9; have H8 := Lib.hid h8; have HXN := Lib.hid hN
  clear hR h9 h8 hN
  go_enter Try.func55, Try.ntmps55
  go_wp2_with fail
  refine (refWait_any 0 (by omega) _).mono ?_
  rintro e w1 ⟨W0, ew, As, ns, cs, ⟨rfl, rfl⟩, hle, rfl, hI, hA, hb⟩
  rw [show waitW 0 = (waitC 0).1 from rfl] at hI
  rw [show waitW 0 = (waitC 0).1 from rfl]
  have hns : ns ≤ 1000000 := by have h1 := hI.1; have h2 : (waitC 0).1.vals.length = 2 := rfl; omega
  generalize (waitC 0).1 = S0 at *
  simp only [World.size_alloc] at hA
  have hsz : w.heap.size < w1.heap.size := by have := hb.size; simp only [World.size_alloc] at this; omega
  have SB := Lib.hid (Blk.new w1 31 #[.slice As ns cs, .int .i64 S0.per, .int .i64 S0.inc])
  have IS := Lib.hid (hI.alloc' (.cells #[.slice As ns cs, .int .i64 S0.per, .int .i64 S0.inc] 31))
  have AS := Lib.hid (show ∀ b off s, As = some ⟨b, off, s⟩ → w.heap.size < b from fun b off s e => by have := hA b off s e; omega)
  have RB := Lib.hid ((RB.out.below hb RB.out.lt).alloc (.cells #[.slice As ns cs, .int .i64 S0.per, .int .i64 S0.inc] 31))
  have BW := Lib.hid (bthen (bthen BW.out hb) (balloc _ (.cells #[.slice As ns cs, .int .i64 S0.per, .int .i64 S0.inc] 31)))
  have RW := Lib.hid (show 0 < n → ∃ b, A = some ⟨b, 0, none⟩ ∧ Row w1.heap.size (w1.alloc (.cells #[.slice As ns cs, .int .i64 S0.per, .int .i64 S0.inc] 31)) b xs from fun h => by obtain ⟨b, h1, h2⟩ := HR.out h; exact ⟨b, h1, (((h2.to (Nat.le_of_lt hsz)).below (balloc _ _)).below hb).below (balloc _ _)⟩)
  clear hI hA hb
  go_upto_region 2 with fail
  generalize hwe : w1.alloc (.cells #[.slice As ns cs, .int .i64 S0.per, .int .i64 S0.inc] 31) = we at *
  clear hwe
  generalize w1.heap.size = PS at *
  clear HR
  go_wp2_with fail
  have HW := Lib.hid (show ∀ r e, AllS S0 ((xs.drop 0).map CR.f) r e → AllS S0 (xs.map CR.f) r e from fun r e h => h)
  go_loopg [6, 7, 8] n (fun gg s6 s7 s8 wx => ∃ (k : Nat) (S : Cv) (As : Option Addr) (ns cs : Nat), k + gg = n ∧ s6 = .int .i64 k ∧ ns ≤ cs ∧ (∀ r e, AllS S ((xs.drop k).map CR.f) r e → AllS S0 (xs.map CR.f) r e) ∧ ns ≤ 1000000 ∧ Blk wx PS 31 #[.slice As ns cs, .int .i64 S.per, .int .i64 S.inc] ∧ Ints wx wx.heap.size As ns S.vals ∧ (∀ b off s, As = some ⟨b, off, s⟩ → w.heap.size < b) ∧
    (0 < n → ∃ b, A = some ⟨b, 0, none⟩ ∧ Row PS wx b xs) ∧ Blk wx w.heap.size 31 #[.slice none 0 0, .int .i64 0, .int .i64 0] ∧ Below w.heap.size w wx)
  case atStart => exact ⟨0, S0, As, ns, cs, by omega, rfl, hle, HW.out, hns, SB.out, IS.out, AS.out, RW.out, RB.out, BW.out⟩
  case round =>
    clear SB IS AS RW RB BW HW hns hle
    obtain ⟨k, S, As, ns, cs, hkg, rfl, hle, hW, hns, hSB, hIS, hAS, hRW, hRB, hBW⟩ := hrel
    have HW := Lib.hid hW; have SB := Lib.hid hSB; have IS := Lib.hid hIS; have AS := Lib.hid hAS; have RB := Lib.hid hRB; have BW := Lib.hid hBW; have RWW := Lib.hid hRW
    clear hW hSB hIS hAS hRB hBW hRW
    by_cases hk : k < n
    · obtain ⟨b, rfl, hR⟩ := RWW.out (by omega)
      clear RWW
      have hki : (k : Int) < n := by omega
      obtain ⟨x, hxm, hxd, hxi, c0, c1, c2⟩ := hR.get2 (k := k) (by rw [HXN.out]; exact hk)
      have hx9 := H9.out x hxm
      have RW := Lib.hid hR; have XI := Lib.hid hxi; have XD := Lib.hid hxd
      have hlb := hR.lt
      clear hR hxi hxd
      have hx8 := H8.out x hxm
      go_upto_region 5 with fail
      go_cut [7, 8] (fun s7 s8 wx => ∃ (PR : Nat) (r : Cv) (er : Int) (A5 : Option Addr) (n5 c5 : Nat), s7 = .pointer (some ⟨PR, 0, none⟩) ∧ s8 = .int .i64 er ∧ CvS S x.f r er ∧ n5 ≤ c5 ∧ PS < PR ∧ Blk wx PR 31 #[.slice A5 n5 c5, .int .i64 r.per, .int .i64 r.inc] ∧ Ints wx wx.heap.size A5 n5 r.vals ∧ (∀ b off s, A5 = some ⟨b, off, s⟩ → PS < b) ∧ Blk wx PS 31 #[.slice As ns cs, .int .i64 S.per, .int .i64 S.inc] ∧ Blk wx w.heap.size 31 #[.slice none 0 0, .int .i64 0, .int .i64 0] ∧ Row PS wx b xs ∧ Below w.heap.size w wx)
      case first =>
        have C0 := Lib.hid c0; have C1 := Lib.hid c1; have C2 := Lib.hid c2
        have BZ := Lib.hid (show Below wr.heap.size wr wr.drew from Below.drew (Below.refl _ _))
        clear c0 c1 c2
        obtain ⟨⟨s0, s1, s2⟩, _, hls⟩ := (SB.out.below BZ.out SB.out.lt).c3
        have c0 := (BZ.out.cell (p := ⟨b, k * 3, none⟩) hlb).trans C0.out
        have c1 := (BZ.out.cell (p := ⟨b, k * 3 + 1, none⟩) hlb).trans C1.out
        have c2 := (BZ.out.cell (p := ⟨b, k * 3 + 2, none⟩) hlb).trans C2.out
        refine wp_region_held_drew (S := fun w' => w'.cell? ⟨PS, 0, none⟩ = some (.slice As ns cs) ∧ w'.cell? ⟨PS, 1, none⟩ = some (.int .i64 S.per) ∧ w'.cell? ⟨PS, 2, none⟩ = some (.int .i64 S.inc) ∧ w'.cell? ⟨b, k * 3, none⟩ = some (.slice x.A x.n x.c) ∧ w'.cell? ⟨b, k * 3 + 1, none⟩ = some (.int .i64 x.f.per) ∧ w'.cell? ⟨b, k * 3 + 2, none⟩ = some (.int .i64 x.f.inc)) (by kernel_rfl) (by exact ⟨s0, s1, s2, c0, c1, c2⟩) (fun hHeld => ?_)
        generalize hwd : wr.drew = wd at *
        clear hwd
        refine wpAnyH_take (i := 0) (oi := _) (v := ?_) (by simp only [g8a, g8z]; rfl) (by kernel_rfl) (by kernel_rfl) (by kernel_rfl) (by exact fun _ _ _ h => h) (Or.inl ⟨by rfl, ?_⟩) (by assumption) ?_
        rotate_left 1
        · (intro w hSw; (try dsimp only at hSw); go_simp; try with_reducible rfl)
        all_goals ((try simp only [Act.put]); try simp only [g8b, g8c, g8d])
        refine wpAnyH_take (i := 1) (oi := _) (v := ?_) (by simp only [g8a, g8s, g8z]; rfl) (by kernel_rfl) (by kernel_rfl) (by kernel_rfl) (by exact fun _ _ _ h => h) (Or.inl ⟨by rfl, ?_⟩) (by assumption) ?_
        rotate_left 1
        · (intro w hSw; (try dsimp only at hSw); go_simp; try with_reducible rfl)
        all_goals ((try simp only [Act.put]); try simp only [g8b, g8c, g8d])
        refine wpAnyH_take (i := 2) (oi := _) (v := ?_) (by simp only [g8a, g8s, g8z]; rfl) (by kernel_rfl) (by kernel_rfl) (by kernel_rfl) (by exact fun _ _ _ h => h) (Or.inl ⟨by rfl, ?_⟩) (by assumption) ?_
        rotate_left 1
        · (intro w hSw; (try dsimp only at hSw); go_simp; try with_reducible rfl)
        all_goals ((try simp only [Act.put]); try simp only [g8b, g8c, g8d])
        refine wpAnyH_take (i := 3) (oi := _) (v := ?_) (by simp only [g8a, g8s, g8z]; rfl) (by kernel_rfl) (by kernel_rfl) (by kernel_rfl) (by exact fun _ _ _ h => h) (Or.inl ⟨by rfl, ?_⟩) (by assumption) ?_
        rotate_left 1
        · (intro w hSw; (try dsimp only at hSw); go_simp; try with_reducible rfl)
        all_goals ((try simp only [Act.put]); try simp only [g8b, g8c, g8d])
        refine wpAnyH_take (i := 4) (oi := _) (v := ?_) (by simp only [g8a, g8s, g8z]; rfl) (by kernel_rfl) (by kernel_rfl) (by kernel_rfl) (by exact fun _ _ _ h => h) (Or.inl ⟨by rfl, ?_⟩) (by assumption) ?_
        rotate_left 1
        · (intro w hSw; (try dsimp only at hSw); go_simp; try with_reducible rfl)
        all_goals ((try simp only [Act.put]); try simp only [g8b, g8c, g8d])
        refine wpAnyH_ready (rs := [5, 9]) (by kernel_rfl) (by simp) ?_
        refine (AllReadyH.cons (by simp only [g8a, g8s, g8z]; rfl) (fun K hK => ?_) (AllReadyH.cons (by simp only [g8a, g8s, g8z]; rfl) (fun K hK => ?_) AllReadyH.nil))
        · rw [if_pos (by rfl)]
          go_simp
          refine (refCv7_any As x.A ns x.n cs x.c S.per S.inc x.f.per x.f.inc S.vals x.f.vals _ (by exact IS.out.ext BZ.out) (by exact (XI.out.below BZ.out).ints) (by omega) hx9 hle hx8).mono ?_
          rintro e wa ⟨r, er, A5, n5, c5, hS, hle5, rfl, hI5, hA5, hbq⟩
          have HS := Lib.hid (show CvS S x.f r er from hS)
          have HI5 := Lib.hid hI5
          have HA5 := Lib.hid (show ∀ b off s, A5 = some ⟨b, off, s⟩ → PS < b from fun b off s e => by have := hA5 b off s e; omega)
          try (have HA6 := Lib.hid (show ∀ b off s, A5 = some ⟨b, off, s⟩ → PR < b from fun b off s e => by have := hA5 b off s e; have := ZB.out.lt; omega))
          have hps2 := hls
          clear hS hI5 hA5
          clear s0 s1 s2 hls c0 c1 c2
          replace BZ := Lib.hid (bthen BZ.out hbq)
          try (replace ZB := Lib.hid (ZB.out.below hbq ZB.out.lt))
          try clear hHeld
          clear hbq
          obtain ⟨⟨s0, s1, s2⟩, _, hls⟩ := (SB.out.below BZ.out SB.out.lt).c3
          have c0 := (BZ.out.cell (p := ⟨b, k * 3, none⟩) hlb).trans C0.out
          have c1 := (BZ.out.cell (p := ⟨b, k * 3 + 1, none⟩) hlb).trans C1.out
          have c2 := (BZ.out.cell (p := ⟨b, k * 3 + 2, none⟩) hlb).trans C2.out
          refine hK.out _ _ (by exact ⟨s0, s1, s2, c0, c1, c2⟩) (fun hHeld => ?_)
          clear hK K
          (try simp only [Act.put]); try simp only [g8b, g8c, g8d]
          refine wpAnyH_take (i := 6) (oi := _) (v := ?_) (by simp only [g8a, g8s, g8z]; rfl) (by kernel_rfl) (by kernel_rfl) (by kernel_rfl) (by exact fun _ _ _ h => h) (Or.inl ⟨by rfl, ?_⟩) (by assumption) ?_
          rotate_left 1
          · (intro w hSw; (try dsimp only at hSw); go_simp; try with_reducible rfl)
          all_goals ((try simp only [Act.put]); try simp only [g8b, g8c, g8d])
          refine wpAnyH_take (i := 7) (oi := _) (v := ?_) (by simp only [g8a, g8s, g8z]; rfl) (by kernel_rfl) (by kernel_rfl) (by kernel_rfl) (by exact fun _ _ _ h => h) (Or.inl ⟨by rfl, ?_⟩) (by assumption) ?_
          rotate_left 1
          · (intro w hSw; (try dsimp only at hSw); go_simp; try with_reducible rfl)
          all_goals ((try simp only [Act.put]); try simp only [g8b, g8c, g8d])
          refine wpAnyH_take (i := 8) (oi := _) (v := ?_) (by simp only [g8a, g8s, g8z]; rfl) (by kernel_rfl) (by kernel_rfl) (by kernel_rfl) (by exact fun _ _ _ h => h) (Or.inl ⟨by rfl, ?_⟩) (by assumption) ?_
          rotate_left 1
          · (intro w hSw; (try dsimp only at hSw); go_simp; try with_reducible rfl)
          all_goals ((try simp only [Act.put]); try simp only [g8b, g8c, g8d])
          refine wpAnyH_ready (rs := [9]) (by kernel_rfl) (by simp) ?_
          refine (AllReadyH.cons (by simp only [g8a, g8s, g8z]; rfl) (fun K hK => ?_) AllReadyH.nil)
          rw [if_pos (by rfl)]
          go_simp
          have hbq := balloc wa (.cells #[.slice none 0 0, .int .i64 0, .int .i64 0] 31)
          have hPR := hls
          have hPW := BZ.out.size
          clear s0 s1 s2 hls c0 c1 c2
          replace BZ := Lib.hid (bthen BZ.out hbq)
          try (replace ZB := Lib.hid (ZB.out.below hbq ZB.out.lt))
          try clear hHeld
          have ZB := Lib.hid (Blk.new wa 31 #[.slice none 0 0, .int .i64 0, .int .i64 0])
          try (have HI5 := Lib.hid (HI5.out.alloc (Nat.le_refl _) (.cells #[.slice none 0 0, .int .i64 0, .int .i64 0] 31)))
          generalize hwa : wa.alloc (.cells #[.slice none 0 0, .int .i64 0, .int .i64 0] 31) = wb at *
          clear hwa hbq
          generalize wa.heap.size = PR at *
          obtain ⟨⟨s0, s1, s2⟩, _, hls⟩ := (SB.out.below BZ.out SB.out.lt).c3
          have c0 := (BZ.out.cell (p := ⟨b, k * 3, none⟩) hlb).trans C0.out
          have c1 := (BZ.out.cell (p := ⟨b, k * 3 + 1, none⟩) hlb).trans C1.out
          have c2 := (BZ.out.cell (p := ⟨b, k * 3 + 2, none⟩) hlb).trans C2.out
          refine hK.out _ _ (by exact ⟨s0, s1, s2, c0, c1, c2⟩) (fun hHeld => ?_)
          clear hK K
          (try simp only [Act.put]); try simp only [g8b, g8c, g8d]
          refine wpAnyH_ready (rs := [10]) (by kernel_rfl) (by simp) ?_
          refine (AllReadyH.cons (by simp only [g8a, g8s, g8z]; rfl) (fun K hK => ?_) AllReadyH.nil)
          refine step_storeN rfl 31 _ _ rfl rfl ZB.out rfl rfl (by kernel_rfl) (by simp [Value.oneCell']) ?_
          intro wz hsto rz
          have bz := bsto BZ.out hsto hPW
          have iz : Ints wz wz.heap.size A5 n5 r.vals := by first | exact HI5.out.sto hsto (fun b off o e => by have := HA6.out b off o e; omega) | exact (HI5.out.stoB hsto (Nat.le_refl _)).more (by have := hsto.size; have := ZB.out.lt; omega)
          try clear hHeld
          clear s0 s1 s2 hls c0 c1 c2
          replace BZ := Lib.hid bz
          obtain ⟨⟨s0, s1, s2⟩, _, hls⟩ := (SB.out.below BZ.out SB.out.lt).c3
          have c0 := (BZ.out.cell (p := ⟨b, k * 3, none⟩) hlb).trans C0.out
          have c1 := (BZ.out.cell (p := ⟨b, k * 3 + 1, none⟩) hlb).trans C1.out
          have c2 := (BZ.out.cell (p := ⟨b, k * 3 + 2, none⟩) hlb).trans C2.out
          refine hK.out _ _ (by exact ⟨s0, s1, s2, c0, c1, c2⟩) (fun hHeld => ?_)
          clear hK K
          (try simp only [Act.put]); try simp only [g8b, g8c, g8d]
          refine wpAnyH_take (i := 11) (oi := _) (v := ?_) (by simp only [g8a, g8s, g8z]; rfl) (by kernel_rfl) (by kernel_rfl) (by kernel_rfl) (by exact fun _ _ _ h => h) (Or.inl ⟨by rfl, ?_⟩) (by assumption) ?_
          rotate_left 1
          · (intro w hSw; (try dsimp only at hSw); go_simp; try with_reducible rfl)
          all_goals ((try simp only [Act.put]); try simp only [g8b, g8c, g8d])
          refine wpAnyH_done (by kernel_rfl) ?_ _
          try clear hHeld
          go_wp2_with fail
          go_meet
          exact ⟨PR, r, er, A5, n5, c5, rfl, rfl, HS.out, hle5, hPR, rz, iz, HA5.out, SB.out.below bz SB.out.lt, RB.out.below bz RB.out.lt, RW.out.below bz, bthen BW.out bz⟩
        · rw [if_pos (by rfl)]
          go_simp
          have hbq := balloc wd (.cells #[.slice none 0 0, .int .i64 0, .int .i64 0] 31)
          have hPR := hls
          have hPW := BZ.out.size
          clear s0 s1 s2 hls c0 c1 c2
          replace BZ := Lib.hid (bthen BZ.out hbq)
          try (replace ZB := Lib.hid (ZB.out.below hbq ZB.out.lt))
          try clear hHeld
          have ZB := Lib.hid (Blk.new wd 31 #[.slice none 0 0, .int .i64 0, .int .i64 0])
          try (have HI5 := Lib.hid (HI5.out.alloc (Nat.le_refl _) (.cells #[.slice none 0 0, .int .i64 0, .int .i64 0] 31)))
          generalize hwa : wd.alloc (.cells #[.slice none 0 0, .int .i64 0, .int .i64 0] 31) = wa at *
          clear hwa hbq
          generalize wd.heap.size = PR at *
          obtain ⟨⟨s0, s1, s2⟩, _, hls⟩ := (SB.out.below BZ.out SB.out.lt).c3
          have c0 := (BZ.out.cell (p := ⟨b, k * 3, none⟩) hlb).trans C0.out
          have c1 := (BZ.out.cell (p := ⟨b, k * 3 + 1, none⟩) hlb).trans C1.out
          have c2 := (BZ.out.cell (p := ⟨b, k * 3 + 2, none⟩) hlb).trans C2.out
          refine hK.out _ _ (by exact ⟨s0, s1, s2, c0, c1, c2⟩) (fun hHeld => ?_)
          clear hK K
          (try simp only [Act.put]); try simp only [g8b, g8c, g8d]
          refine wpAnyH_ready (rs := [5]) (by kernel_rfl) (by simp) ?_
          refine (AllReadyH.cons (by simp only [g8a, g8s, g8z]; rfl) (fun K hK => ?_) AllReadyH.nil)
          rw [if_pos (by rfl)]
          go_simp
          refine (refCv7_any As x.A ns x.n cs x.c S.per S.inc x.f.per x.f.inc S.vals x.f.vals _ (by exact IS.out.ext BZ.out) (by exact (XI.out.below BZ.out).ints) (by omega) hx9 hle hx8).mono ?_
          rintro e wb ⟨r, er, A5, n5, c5, hS, hle5, rfl, hI5, hA5, hbq⟩
          have HS := Lib.hid (show CvS S x.f r er from hS)
          have HI5 := Lib.hid hI5
          have HA5 := Lib.hid (show ∀ b off s, A5 = some ⟨b, off, s⟩ → PS < b from fun b off s e => by have := hA5 b off s e; omega)
          try (have HA6 := Lib.hid (show ∀ b off s, A5 = some ⟨b, off, s⟩ → PR < b from fun b off s e => by have := hA5 b off s e; have := ZB.out.lt; omega))
          have hps2 := hls
          clear hS hI5 hA5
          clear s0 s1 s2 hls c0 c1 c2
          replace BZ := Lib.hid (bthen BZ.out hbq)
          try (replace ZB := Lib.hid (ZB.out.below hbq ZB.out.lt))
          try clear hHeld
          clear hbq
          obtain ⟨⟨s0, s1, s2⟩, _, hls⟩ := (SB.out.below BZ.out SB.out.lt).c3
          have c0 := (BZ.out.cell (p := ⟨b, k * 3, none⟩) hlb).trans C0.out
          have c1 := (BZ.out.cell (p := ⟨b, k * 3 + 1, none⟩) hlb).trans C1.out
          have c2 := (BZ.out.cell (p := ⟨b, k * 3 + 2, none⟩) hlb).trans C2.out
          refine hK.out _ _ (by exact ⟨s0, s1, s2, c0, c1, c2⟩) (fun hHeld => ?_)
          clear hK K
          (try simp only [Act.put]); try simp only [g8b, g8c, g8d]
          refine wpAnyH_take (i := 6) (oi := _) (v := ?_) (by simp only [g8a, g8s, g8z]; rfl) (by kernel_rfl) (by kernel_rfl) (by kernel_rfl) (by exact fun _ _ _ h => h) (Or.inl ⟨by rfl, ?_⟩) (by assumption) ?_
          rotate_left 1
          · (intro w hSw; (try dsimp only at hSw); go_simp; try with_reducible rfl)
          all_goals ((try simp only [Act.put]); try simp only [g8b, g8c, g8d])
          refine wpAnyH_take (i := 7) (oi := _) (v := ?_) (by simp only [g8a, g8s, g8z]; rfl) (by kernel_rfl) (by kernel_rfl) (by kernel_rfl) (by exact fun _ _ _ h => h) (Or.inl ⟨by rfl, ?_⟩) (by assumption) ?_
          rotate_left 1
          · (intro w hSw; (try dsimp only at hSw); go_simp; try with_reducible rfl)
          all_goals ((try simp only [Act.put]); try simp only [g8b, g8c, g8d])
          refine wpAnyH_take (i := 8) (oi := _) (v := ?_) (by simp only [g8a, g8s, g8z]; rfl) (by kernel_rfl) (by kernel_rfl) (by kernel_rfl) (by exact fun _ _ _ h => h) (Or.inl ⟨by rfl, ?_⟩) (by assumption) ?_
          rotate_left 1
          · (intro w hSw; (try dsimp only at hSw); go_simp; try with_reducible rfl)
          all_goals ((try simp only [Act.put]); try simp only [g8b, g8c, g8d])
          refine wpAnyH_ready (rs := [10]) (by kernel_rfl) (by simp) ?_
          refine (AllReadyH.cons (by simp only [g8a, g8s, g8z]; rfl) (fun K hK => ?_) AllReadyH.nil)
          refine step_storeN rfl 31 _ _ rfl rfl ZB.out rfl rfl (by kernel_rfl) (by simp [Value.oneCell']) ?_
          intro wz hsto rz
          have bz := bsto BZ.out hsto hPW
          have iz : Ints wz wz.heap.size A5 n5 r.vals := by first | exact HI5.out.sto hsto (fun b off o e => by have := HA6.out b off o e; omega) | exact (HI5.out.stoB hsto (Nat.le_refl _)).more (by have := hsto.size; have := ZB.out.lt; omega)
          try clear hHeld
          clear s0 s1 s2 hls c0 c1 c2
          replace BZ := Lib.hid bz
          obtain ⟨⟨s0, s1, s2⟩, _, hls⟩ := (SB.out.below BZ.out SB.out.lt).c3
          have c0 := (BZ.out.cell (p := ⟨b, k * 3, none⟩) hlb).trans C0.out
          have c1 := (BZ.out.cell (p := ⟨b, k * 3 + 1, none⟩) hlb).trans C1.out
          have c2 := (BZ.out.cell (p := ⟨b, k * 3 + 2, none⟩) hlb).trans C2.out
          refine hK.out _ _ (by exact ⟨s0, s1, s2, c0, c1, c2⟩) (fun hHeld => ?_)
          clear hK K
          (try simp only [Act.put]); try simp only [g8b, g8c, g8d]
          refine wpAnyH_take (i := 11) (oi := _) (v := ?_) (by simp only [g8a, g8s, g8z]; rfl) (by kernel_rfl) (by kernel_rfl) (by kernel_rfl) (by exact fun _ _ _ h => h) (Or.inl ⟨by rfl, ?_⟩) (by assumption) ?_
          rotate_left 1
          · (intro w hSw; (try dsimp only at hSw); go_simp; try with_reducible rfl)
          all_goals ((try simp only [Act.put]); try simp only [g8b, g8c, g8d])
          refine wpAnyH_done (by kernel_rfl) ?_ _
          try clear hHeld
          go_wp2_with fail
          go_meet
          exact ⟨PR, r, er, A5, n5, c5, rfl, rfl, HS.out, hle5, hPR, rz, iz, HA5.out, SB.out.below bz SB.out.lt, RB.out.below bz RB.out.lt, RW.out.below bz, bthen BW.out bz⟩
      case rest =>
      clear SB RB BW RW IS XI c0 c1 c2 hlb
      obtain ⟨PR, r, er, A5, n5, c5, rfl, rfl, hS, hle5, hPR, hZB, hI5, hA5, hSB, hRB, hRW, hBW⟩ := hcut
      have HS := Lib.hid hS; have ZB := Lib.hid hZB; have I5 := Lib.hid hI5; have HA5 := Lib.hid hA5; have SB := Lib.hid hSB; have RB := Lib.hid hRB; have RW := Lib.hid hRW; have BW := Lib.hid hBW
      clear hS hZB hI5 hA5 hSB hRB hRW hBW
      by_cases her : er = 0
      case neg =>
        have de : (er != 0) = true := by simpa using her
        have FIN := Lib.hid (show AllS S0 (xs.map CR.f) Cv.none er from HW.out _ _ (by rw [XD.out, List.map_cons]; exact ⟨r, er, HS.out, .inl ⟨her, rfl, rfl⟩⟩))
        clear her
        obtain ⟨⟨r0, r1, r2⟩, ⟨y0, y1, y2⟩, hlr⟩ := RB.out.c3
        go_wp2_with fail
        have rb := RB.out.store3 (.slice none 0 0) (.int .i64 0) (.int .i64 0)
        exact bodyPost_ret (v := .tuple #[.agg #[.slice none 0 0, .int .i64 0, .int .i64 0], .int .i64 er]) (by simp [results, Try.results55, go_sem, rb.cell]) rfl
          ⟨Cv.none, er, FIN.out, none, 0, 0, rfl, Ints.none_, (fun b off s h => by cases h), bsto BW.out (Sto.three _ _ _ _ _) (by omega)⟩
      case pos =>
        subst her
        have hr := (cv_get HS.out).2.2.1
        have hn5 : n5 ≤ 1000000 := by have h1 := hr.n2; have h2 := I5.out.1; omega
        have HW2 := Lib.hid (show ∀ r' e, AllS r ((xs.drop (k + 1)).map CR.f) r' e → AllS S0 (xs.map CR.f) r' e from fun r' e h => HW.out _ _ (by rw [XD.out, List.map_cons]; exact ⟨r, 0, HS.out, .inr ⟨rfl, h⟩⟩))
        clear hr
        obtain ⟨⟨r0, r1, r2⟩, _, hlr⟩ := ZB.out.c3
        obtain ⟨⟨s0, s1, s2⟩, ⟨v0, v1, v2⟩, hls⟩ := SB.out.c3
        go_wp2_with fail
        go_roundg (gk - 1)
        case measure => omega
        case rel =>
          exact ⟨k + 1, r, A5, n5, c5, by omega, by go_num, hle5, HW2.out, hn5, SB.out.store3 (.slice A5 n5 c5) (.int .i64 r.per) (.int .i64 r.inc), I5.out.sto (Sto.three PS wc (.slice A5 n5 c5) (.int .i64 r.per) (.int .i64 r.inc)) (fun b off o e => by have := HA5.out b off o e; omega), (fun b off s e => by have := HA5.out b off s e; omega), (fun _ => ⟨b, rfl, RW.out.kept ((((Kept.refl wc.heap.size PS wc).setCell (a := ⟨PS, 0, none⟩) (.inl rfl) (.slice A5 n5 c5)).setCell (a := ⟨PS, 1, none⟩) (.inl rfl) (.int .i64 r.per)).setCell (a := ⟨PS, 2, none⟩) (.inl rfl) (.int .i64 r.inc))⟩), RB.out.sto (Sto.three PS wc (.slice A5 n5 c5) (.int .i64 r.per) (.int .i64 r.inc)) (by omega), bsto BW.out (Sto.three PS wc (.slice A5 n5 c5) (.int .i64 r.per) (.int .i64 r.inc)) (by omega)⟩
    · have hki : ¬ (k : Int) < n := by omega
      have hkn : k = n := by omega
      have FIN := Lib.hid (show AllS S0 (xs.map CR.f) S 0 from HW.out _ _ (by rw [hkn, ← HXN.out, List.drop_length]; exact ⟨rfl, rfl⟩))
      clear hkn hk RWW
      obtain ⟨⟨s0, s1, s2⟩, _, hls⟩ := SB.out.c3
      obtain ⟨⟨r0, r1, r2⟩, ⟨y0, y1, y2⟩, hlr⟩ := RB.out.c3
      go_wp2_with fail
      have rb := RB.out.store3 (.slice As ns cs) (.int .i64 S.per) (.int .i64 S.inc)
      exact bodyPost_ret (v := .tuple #[.agg #[.slice As ns cs, .int .i64 S.per, .int .i64 S.inc], .int .i64 0]) (by simp [results, Try.results55, go_sem, rb.cell]) rfl
        ⟨S, 0, FIN.out, As, ns, cs, rfl, IS.out.sto (Sto.three _ _ _ _ _) (fun b off o e => by have := AS.out b off o e; omega), (fun b off s e => by have := AS.out b off s e; omega), bsto BW.out (Sto.three _ _ _ _ _) (by omega)⟩
end Go.Proofs.Ytbkimphcmmmaiaa
