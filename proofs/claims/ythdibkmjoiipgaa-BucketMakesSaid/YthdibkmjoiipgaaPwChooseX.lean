/- pointwise.choose, Minimum and Maximum: what each returns. -/
import Derived.Test.YthdibkmjoiipgaaPwBoth
import Derived.Test.YthdibkmjoiipgaaPwLaw2
import Derived.Deep.RegionHeld3
import Derived.Deep.LoopGhost
namespace Go.Proofs.Ythdibkmjoiipgaa
open Go.RowKit
set_option linter.unusedVariables false

theorem pmin1_any (x y : Int) (w : World) : Calls Try.prog 130 #[.int .i64 x, .int .i64 y] w fun e w' => e = .returned (.int .i64 (pk true x y)) ∧ w = w' := by
  rw [pk_true]
  go_enter Try.func130, Try.ntmps130
  go_wp2_with fail
  all_goals
    go_ret
    exact ⟨ret_int (by omega), rfl⟩
theorem pmax1_any (x y : Int) (w : World) : Calls Try.prog 151 #[.int .i64 x, .int .i64 y] w fun e w' => e = .returned (.int .i64 (pk false x y)) ∧ w = w' := by
  rw [pk_false]
  go_enter Try.func151, Try.ntmps151
  go_wp2_with fail
  all_goals
    go_ret
    exact ⟨ret_int (by omega), rfl⟩
open Classical in
noncomputable def frB (l : Bool) (x y : Int) : Bool := decide (firstS l x y)
theorem frB_true {l : Bool} {x y : Int} (h : firstS l x y) : frB l x y = true := by simp [frB, h]
theorem frB_false {l : Bool} {x y : Int} (h : ¬ firstS l x y) : frB l x y = false := by simp [frB, h]
theorem pmin2_any (x y : Int) (w : World) : Calls Try.prog 131 #[.int .i64 x, .int .i64 y] w fun e w' => e = .returned (.bool (frB true x y)) ∧ w = w' := by
  have e1 : frB true x y = decide (x < y) := by
    by_cases h : x < y
    · rw [frB_true (show firstS true x y from h), decide_eq_true h]
    · rw [frB_false (show ¬ firstS true x y from h), decide_eq_false h]
  rw [e1]
  go_enter Try.func131, Try.ntmps131
  go_wp2_with fail
  go_ret
  exact ⟨rfl, rfl⟩
theorem pmax2_any (x y : Int) (w : World) : Calls Try.prog 152 #[.int .i64 x, .int .i64 y] w fun e w' => e = .returned (.bool (frB false x y)) ∧ w = w' := by
  have e1 : frB false x y = decide (y < x) := by
    by_cases h : y < x
    · rw [frB_true (show firstS false x y from h), decide_eq_true h]
    · rw [frB_false (show ¬ firstS false x y from h), decide_eq_false h]
  rw [e1]
  go_enter Try.func152, Try.ntmps152
  go_wp2_with fail
  go_ret
  exact ⟨rfl, rfl⟩

/-- what the result of choose hangs on, where z is the last one -/
structure LastZ (l : Bool) (a b z : Cv) (C : Nat) : Prop where
  ok : z.Ok
  good : (∀ t, 400 ≤ t → t < 400 + C → exV l a b t = z.at t) → ∀ r er, BuildS (exV l a b) 400 z.per.toNat z.inc r er → MadeL (exV l a b) r er
  bad : ∀ t, 400 ≤ t → exV l a b t ≠ z.at t → MadeL (exV l a b) Cv.none 3
theorem LastZ.a {l : Bool} {a b : Cv} (fa : a.Fin) (fb : b.Fin) (hf : firstS l (gnA a b) (gnB a b)) : LastZ l a b a (ordC a b) :=
  ⟨fa.1, fun hall r er h => ex_build fa.1 fb.1 (by have := fa.1.p1; omega) (by have := fa.1.p2; omega) (fun _ t ht => by
    have hn := fa.1.n2
    rw [exV_stayA fa fb hf hall t ht, exV_stayA fa fb hf hall _ (by omega), fa.toL.step t (by omega)]) h, fun t ht hne => MadeL.none_ (exV_noA fa fb hf ht hne)⟩
theorem LastZ.b {l : Bool} {a b : Cv} (fa : a.Fin) (fb : b.Fin) (hf : firstS l (gnB a b) (gnA a b)) : LastZ l a b b (ordC a b) :=
  ⟨fb.1, fun hall r er h => ex_build fa.1 fb.1 (by have := fb.1.p1; omega) (by have := fb.1.p2; omega) (fun _ t ht => by
    have hn := fb.1.n2
    rw [exV_stayB fa fb hf hall t ht, exV_stayB fa fb hf hall _ (by omega), fb.toL.step t (by omega)]) h, fun t ht hne => MadeL.none_ (exV_noB fa fb hf ht hne)⟩

theorem Ints.blk_lt {w : World} {K n : Nat} {A : Option Addr} {zs : List Int} (h : Ints w K A n zs) (hn : 0 < n) : ∀ b off s, A = some ⟨b, off, s⟩ → b < K := fun b off s e => by
  obtain ⟨b', off', e', hb, _⟩ := h.2 hn
  rw [e] at e'; cases e'; exact hb
theorem Bz.stoN {L F n c g : Nat} {w w' : World} {A : Option Addr} {f : Cv} (h : Bz L w F A n c f) (s : Sto g w w') (hg : F ≠ g) (hA : ∀ b off o, A = some ⟨b, off, o⟩ → b < g) : Bz L w' F A n c f :=
  ⟨h.blk.sto s hg, h.ints.sto s (fun b off o e => by have := hA b off o e; omega), h.lo⟩
theorem Bz.putN {L F n c : Nat} {w : World} {A : Option Addr} {f : Cv} {x y z : Value} (hB : Blk w F 46 #[x, y, z]) (hI : Ints w w.heap.size A n f.vals) (hA : ∀ b off s, A = some ⟨b, off, s⟩ → L ≤ b) (hL : ∀ b off s, A = some ⟨b, off, s⟩ → b < F) :
    Bz L (((w.setCell ⟨F, 0, none⟩ (.slice A n c)).setCell ⟨F, 1, none⟩ (.int .i64 f.per)).setCell ⟨F, 2, none⟩ (.int .i64 f.inc)) F A n c f :=
  ⟨hB.store3 _ _ _, hI.sto (Sto.three F w _ _ _) (fun b off o e => by have := hL b off o e; omega), hA⟩
-- true the flag, netcalculus/pointwise.Minimum$1 the closure pick, pmin1_any its contract, choose1min_any name
set_option maxHeartbeats 1000000 in
theorem choose1min_any (L F G Q : Nat) (A : Option Addr) (n c : Nat) (a : Cv) (B : Option Addr) (m d : Nat) (b : Cv) (t : Nat) (w : World) (hF : Bz L w F A n c a) (hG : Bz L w G B m d b) (hQ : Blk w Q 101 #[.func (.func 130) #[] #[]]) (ha : a.Ok) (hb : b.Ok) (ht : t ≤ 1000000) :
    Calls Try.prog 158 (#[.int .i64 t] ++ #[.pointer (some ⟨Q, 0, none⟩), .pointer (some ⟨F, 0, none⟩), .pointer (some ⟨G, 0, none⟩)]) w fun e w' => e = .returned (.int .i64 (exV true a b t)) ∧ Below w.heap.size w w' := by
  have FA := Lib.hid hF; have FB := Lib.hid hG; have QB := Lib.hid hQ
  have hl1 : a.vals.length = n := hF.ints.1
  have hl2 : b.vals.length = m := hG.ints.1
  have ha1 := ha.n1; have ha2 := ha.n2; have hap := ha.p1; have hap2 := ha.p2; have hai := ha.i1; have hai2 := ha.i2; have hapn := ha.pn
  rw [hl1] at ha1 ha2 hapn
  have hb1 := hb.n1; have hb2 := hb.n2; have hbp := hb.p1; have hbp2 := hb.p2; have hbi := hb.i1; have hbi2 := hb.i2; have hbpn := hb.pn
  rw [hl2] at hb1 hb2 hbpn
  have HA := Lib.hid ha; have HB := Lib.hid hb
  have HPK := Lib.hid (exV_pk (l := true) ha hb (t := t) (by omega))
  obtain ⟨x, hx'⟩ : ∃ x, x = a.at t := ⟨_, rfl⟩
  obtain ⟨y, hy'⟩ : ∃ y, y = b.at t := ⟨_, rfl⟩
  have HX := Lib.hid hx'; have HY := Lib.hid hy'
  have BW := Lib.hid (Below.refl w.heap.size w)
  clear hF hG hl1 hl2 ha hb hx' hy' hQ
  rw [HPK.out, ← HX.out, ← HY.out]
  clear HPK
  obtain ⟨z, hz⟩ : ∃ z, z = pk true x y := ⟨_, rfl⟩
  have HZ := Lib.hid hz
  rw [← hz]
  clear hz
  show Calls _ _ #[.int .i64 t, .pointer (some ⟨Q, 0, none⟩), .pointer (some ⟨F, 0, none⟩), .pointer (some ⟨G, 0, none⟩)] _ _
  go_enter Try.func158, Try.ntmps158
  obtain ⟨a0, a1, a2, hla⟩ := FA.out.cells
  obtain ⟨b0, b1, b2, hlb⟩ := FB.out.cells
  have q0 := QB.out.cell 0
  simp at q0
  have hlq := QB.out.lt
  go_upto_region 1 with fail
  go_region_held3 (fun w' => w'.cell? ⟨F, 0, none⟩ = some (.slice A n c) ∧ w'.cell? ⟨F, 1, none⟩ = some (.int .i64 a.per) ∧ w'.cell? ⟨F, 2, none⟩ = some (.int .i64 a.inc) ∧ w'.cell? ⟨G, 0, none⟩ = some (.slice B m d) ∧ w'.cell? ⟨G, 1, none⟩ = some (.int .i64 b.per) ∧ w'.cell? ⟨G, 2, none⟩ = some (.int .i64 b.inc) ∧ w'.cell? ⟨Q, 0, none⟩ = some (.func (.func 130) #[] #[])) (first | go_keep)
    (first
      | (go_at_call_of 108 (Value.agg #[.slice A n c, .int .i64 a.per, .int .i64 a.inc])
         refine (at_any A n c a.per a.inc t a.vals _ (by exact FA.out.drew.ints) (by omega) hap hapn hai (by omega) HA.out.nn (by omega) (by omega)).mono ?_
         rw [Int.toNat_natCast, show Cv.at ⟨a.vals, a.per, a.inc⟩ t = x from HX.out.symm]
         rintro e w1 ⟨rfl, hbq⟩
         have hbq := bofdrew hbq
         have FA := Lib.hid (FA.out.below hbq); have FB := Lib.hid (FB.out.below hbq); have QB := Lib.hid (QB.out.below hbq QB.out.lt); have BW := Lib.hid (bthen BW.out hbq)
         clear hbq
         clear a0 a1 a2 hla b0 b1 b2 hlb q0 hlq
         obtain ⟨a0, a1, a2, hla⟩ := FA.out.cells
         obtain ⟨b0, b1, b2, hlb⟩ := FB.out.cells
         have q0 := QB.out.cell 0
         simp at q0
         have hlq := QB.out.lt
         skip)
      | (go_at_call_of 108 (Value.agg #[.slice B m d, .int .i64 b.per, .int .i64 b.inc])
         refine (at_any B m d b.per b.inc t b.vals _ (by exact FB.out.drew.ints) (by omega) hbp hbpn hbi (by omega) HB.out.nn (by omega) (by omega)).mono ?_
         rw [Int.toNat_natCast, show Cv.at ⟨b.vals, b.per, b.inc⟩ t = y from HY.out.symm]
         rintro e w1 ⟨rfl, hbq⟩
         have FA := Lib.hid (FA.out.below hbq); have FB := Lib.hid (FB.out.below hbq); have QB := Lib.hid (QB.out.below hbq QB.out.lt); have BW := Lib.hid (bthen BW.out hbq)
         clear hbq
         clear a0 a1 a2 hla b0 b1 b2 hlb q0 hlq
         obtain ⟨a0, a1, a2, hla⟩ := FA.out.cells
         obtain ⟨b0, b1, b2, hlb⟩ := FB.out.cells
         have q0 := QB.out.cell 0
         simp at q0
         have hlq := QB.out.lt
         skip)
      | (go_at_call 130
         refine (pmin1_any x y _).mono ?_
         rw [← HZ.out]
         rintro e w1 ⟨rfl, rfl⟩
         skip))
  all_goals
    have bw := BW.out
    go_wp2_with fail
    go_ret
    exact ⟨rfl, bw⟩
-- false the flag, netcalculus/pointwise.Maximum$1 the closure pick, pmax1_any its contract, choose1max_any name
set_option maxHeartbeats 1000000 in
theorem choose1max_any (L F G Q : Nat) (A : Option Addr) (n c : Nat) (a : Cv) (B : Option Addr) (m d : Nat) (b : Cv) (t : Nat) (w : World) (hF : Bz L w F A n c a) (hG : Bz L w G B m d b) (hQ : Blk w Q 101 #[.func (.func 151) #[] #[]]) (ha : a.Ok) (hb : b.Ok) (ht : t ≤ 1000000) :
    Calls Try.prog 158 (#[.int .i64 t] ++ #[.pointer (some ⟨Q, 0, none⟩), .pointer (some ⟨F, 0, none⟩), .pointer (some ⟨G, 0, none⟩)]) w fun e w' => e = .returned (.int .i64 (exV false a b t)) ∧ Below w.heap.size w w' := by
  have FA := Lib.hid hF; have FB := Lib.hid hG; have QB := Lib.hid hQ
  have hl1 : a.vals.length = n := hF.ints.1
  have hl2 : b.vals.length = m := hG.ints.1
  have ha1 := ha.n1; have ha2 := ha.n2; have hap := ha.p1; have hap2 := ha.p2; have hai := ha.i1; have hai2 := ha.i2; have hapn := ha.pn
  rw [hl1] at ha1 ha2 hapn
  have hb1 := hb.n1; have hb2 := hb.n2; have hbp := hb.p1; have hbp2 := hb.p2; have hbi := hb.i1; have hbi2 := hb.i2; have hbpn := hb.pn
  rw [hl2] at hb1 hb2 hbpn
  have HA := Lib.hid ha; have HB := Lib.hid hb
  have HPK := Lib.hid (exV_pk (l := false) ha hb (t := t) (by omega))
  obtain ⟨x, hx'⟩ : ∃ x, x = a.at t := ⟨_, rfl⟩
  obtain ⟨y, hy'⟩ : ∃ y, y = b.at t := ⟨_, rfl⟩
  have HX := Lib.hid hx'; have HY := Lib.hid hy'
  have BW := Lib.hid (Below.refl w.heap.size w)
  clear hF hG hl1 hl2 ha hb hx' hy' hQ
  rw [HPK.out, ← HX.out, ← HY.out]
  clear HPK
  obtain ⟨z, hz⟩ : ∃ z, z = pk false x y := ⟨_, rfl⟩
  have HZ := Lib.hid hz
  rw [← hz]
  clear hz
  show Calls _ _ #[.int .i64 t, .pointer (some ⟨Q, 0, none⟩), .pointer (some ⟨F, 0, none⟩), .pointer (some ⟨G, 0, none⟩)] _ _
  go_enter Try.func158, Try.ntmps158
  obtain ⟨a0, a1, a2, hla⟩ := FA.out.cells
  obtain ⟨b0, b1, b2, hlb⟩ := FB.out.cells
  have q0 := QB.out.cell 0
  simp at q0
  have hlq := QB.out.lt
  go_upto_region 1 with fail
  go_region_held3 (fun w' => w'.cell? ⟨F, 0, none⟩ = some (.slice A n c) ∧ w'.cell? ⟨F, 1, none⟩ = some (.int .i64 a.per) ∧ w'.cell? ⟨F, 2, none⟩ = some (.int .i64 a.inc) ∧ w'.cell? ⟨G, 0, none⟩ = some (.slice B m d) ∧ w'.cell? ⟨G, 1, none⟩ = some (.int .i64 b.per) ∧ w'.cell? ⟨G, 2, none⟩ = some (.int .i64 b.inc) ∧ w'.cell? ⟨Q, 0, none⟩ = some (.func (.func 151) #[] #[])) (first | go_keep)
    (first
      | (go_at_call_of 108 (Value.agg #[.slice A n c, .int .i64 a.per, .int .i64 a.inc])
         refine (at_any A n c a.per a.inc t a.vals _ (by exact FA.out.drew.ints) (by omega) hap hapn hai (by omega) HA.out.nn (by omega) (by omega)).mono ?_
         rw [Int.toNat_natCast, show Cv.at ⟨a.vals, a.per, a.inc⟩ t = x from HX.out.symm]
         rintro e w1 ⟨rfl, hbq⟩
         have hbq := bofdrew hbq
         have FA := Lib.hid (FA.out.below hbq); have FB := Lib.hid (FB.out.below hbq); have QB := Lib.hid (QB.out.below hbq QB.out.lt); have BW := Lib.hid (bthen BW.out hbq)
         clear hbq
         clear a0 a1 a2 hla b0 b1 b2 hlb q0 hlq
         obtain ⟨a0, a1, a2, hla⟩ := FA.out.cells
         obtain ⟨b0, b1, b2, hlb⟩ := FB.out.cells
         have q0 := QB.out.cell 0
         simp at q0
         have hlq := QB.out.lt
         skip)
      | (go_at_call_of 108 (Value.agg #[.slice B m d, .int .i64 b.per, .int .i64 b.inc])
         refine (at_any B m d b.per b.inc t b.vals _ (by exact FB.out.drew.ints) (by omega) hbp hbpn hbi (by omega) HB.out.nn (by omega) (by omega)).mono ?_
         rw [Int.toNat_natCast, show Cv.at ⟨b.vals, b.per, b.inc⟩ t = y from HY.out.symm]
         rintro e w1 ⟨rfl, hbq⟩
         have FA := Lib.hid (FA.out.below hbq); have FB := Lib.hid (FB.out.below hbq); have QB := Lib.hid (QB.out.below hbq QB.out.lt); have BW := Lib.hid (bthen BW.out hbq)
         clear hbq
         clear a0 a1 a2 hla b0 b1 b2 hlb q0 hlq
         obtain ⟨a0, a1, a2, hla⟩ := FA.out.cells
         obtain ⟨b0, b1, b2, hlb⟩ := FB.out.cells
         have q0 := QB.out.cell 0
         simp at q0
         have hlq := QB.out.lt
         skip)
      | (go_at_call 151
         refine (pmax1_any x y _).mono ?_
         rw [← HZ.out]
         rintro e w1 ⟨rfl, rfl⟩
         skip))
  all_goals
    have bw := BW.out
    go_wp2_with fail
    go_ret
    exact ⟨rfl, bw⟩

-- true flag, netcalculus/pointwise.Minimum$1 pick, netcalculus/pointwise.Minimum$2 first, pmin2_any first's contract, choose1min_any choose1's contract, chooseMin_any the name
set_option maxHeartbeats 4000000 in
set_option maxRecDepth 100000 in
theorem chooseMin_any (A0 B0 : Option Addr) (n0 m0 c0 d0 : Nat) (p i q j : Int) (xs ys : List Int) (w : World) (hA : Ints w w.heap.size A0 n0 xs) (hB : Ints w w.heap.size B0 m0 ys) (hn : (n0 : Int) ≤ 1000000) (hm : (m0 : Int) ≤ 1000000) :
    Calls Try.prog 129 #[.agg #[.slice A0 n0 c0, .int .i64 p, .int .i64 i], .agg #[.slice B0 m0 d0, .int .i64 q, .int .i64 j], .func (.func 130) #[] #[], .func (.func 131) #[] #[]] w (RetS (ExtS true ⟨xs, p, i⟩ ⟨ys, q, j⟩) w) := by
  have P := Lib.hid (((PT.new (c := c0) (p := p) (i := i) (d := d0) (q := q) (j := j) hA hB).alloc (.cells #[.func (.func 130) #[] #[]] 101)).alloc (.cells #[.slice none 0 0, .int .i64 0, .int .i64 0] 46))
  have qb := (Blk.new ((w.alloc (.cells #[.slice A0 n0 c0, .int .i64 p, .int .i64 i] 46)).alloc (.cells #[.slice B0 m0 d0, .int .i64 q, .int .i64 j] 46)) 101 #[.func (.func 130) #[] #[]]).alloc (.cells #[.slice none 0 0, .int .i64 0, .int .i64 0] 46)
  have rb := Blk.new (((w.alloc (.cells #[.slice A0 n0 c0, .int .i64 p, .int .i64 i] 46)).alloc (.cells #[.slice B0 m0 d0, .int .i64 q, .int .i64 j] 46)).alloc (.cells #[.func (.func 130) #[] #[]] 101)) 46 #[.slice none 0 0, .int .i64 0, .int .i64 0]
  rw [World.size_alloc, World.size_alloc] at qb
  rw [World.size_alloc, World.size_alloc, World.size_alloc] at rb
  have QB := Lib.hid qb; have RB := Lib.hid rb
  clear hA hB rb qb
  go_enter Try.func129, Try.ntmps129
  go_wp2_with fail
  refine (pboth_any A0 B0 n0 m0 c0 d0 p i q j xs ys _ P.out.ia P.out.ib hn hm).mono ?_
  rintro e w1 hret
  rcases hret with ⟨er, hbad, rfl, hb⟩ | ⟨hf, hg, a, b, A, n, c, B, m, d, hna, hnb, hao, hbo, hc, rfl, hI1, hI2, hA1, hA2, hb⟩
  · have hs0 := (RB.out.below hb RB.out.lt).lt
    have hne := hbad.ne
    have F9 := Lib.hid (show ExtS true ⟨xs, p, i⟩ ⟨ys, q, j⟩ Cv.none er from hbad.to)
    replace RB := Lib.hid (((RB.out.below hb RB.out.lt).alloc (.cells #[.slice none 0 0, .int .i64 0, .int .i64 0] 46)).alloc (.cells #[.slice none 0 0, .int .i64 0, .int .i64 0] 46))
    have bw := bthen (bthen (bthen P.out.bw hb) (balloc _ (.cells #[.slice none 0 0, .int .i64 0, .int .i64 0] 46))) (balloc _ (.cells #[.slice none 0 0, .int .i64 0, .int .i64 0] 46))
    clear hbad hb P QB
    unfold zc
    go_upto_region 2 with fail
    obtain ⟨⟨r0, r1, r2⟩, ⟨y0, y1, y2⟩, hlr⟩ := RB.out.c3
    go_wp2_with fail
    have rb := RB.out.store3 (.slice none 0 0) (.int .i64 0) (.int .i64 0)
    refine bodyPost_ret (v := .tuple #[.agg #[(.slice none 0 0), .int .i64 0, .int .i64 0], .int .i64 er]) (by simp [results, Try.results129, go_sem, rb.cell]) rfl ?_
    exact retS_none F9.out (bst3 bw (by omega) _ _ _)
  · have hs0 := (RB.out.below hb RB.out.lt).lt
    obtain ⟨L, hL⟩ : ∃ L, L = w.heap.size + 1 + 1 + 1 + 1 := ⟨_, rfl⟩
    have F1 := Lib.hid (Bz.mk (L := L) (c := c) (f := a) (Blk.new w1 46 #[.slice A n c, .int .i64 a.per, .int .i64 a.inc]) (hI1.alloc' _) (fun b off s e => by have := hA1 b off s e; simp at this; omega))
    have F2 := Lib.hid (Bz.mk (L := L) (c := d) (f := b) (Blk.new (w1.alloc (.cells #[.slice A n c, .int .i64 a.per, .int .i64 a.inc] 46)) 46 #[.slice B m d, .int .i64 b.per, .int .i64 b.inc]) ((hI2.alloc' _).alloc' _) (fun b off s e => by have := hA2 b off s e; simp at this; omega))
    replace RB := Lib.hid (((RB.out.below hb RB.out.lt).alloc (.cells #[.slice A n c, .int .i64 a.per, .int .i64 a.inc] 46)).alloc (.cells #[.slice B m d, .int .i64 b.per, .int .i64 b.inc] 46))
    replace QB := Lib.hid (((QB.out.below hb QB.out.lt).alloc (.cells #[.slice A n c, .int .i64 a.per, .int .i64 a.inc] 46)).alloc (.cells #[.slice B m d, .int .i64 b.per, .int .i64 b.inc] 46))
    have BW := Lib.hid (bthen (bthen (bthen P.out.bw hb) (balloc _ (.cells #[.slice A n c, .int .i64 a.per, .int .i64 a.inc] 46))) (balloc _ (.cells #[.slice B m d, .int .i64 b.per, .int .i64 b.inc] 46)))
    have hl1 : a.vals.length = n := hI1.1
    have hl2 : b.vals.length = m := hI2.1
    have ob := ord_b hao hbo
    have FB := Lib.hid F2.out
    have FA := Lib.hid (F1.out.alloc (.cells #[.slice B m d, .int .i64 b.per, .int .i64 b.inc] 46))
    rw [World.size_alloc] at FB
    clear F1 F2 hb P hI1 hI2 hA1 hA2
    go_upto_region 5 with fail
    generalize hwz : (w1.alloc (.cells #[.slice A n c, .int .i64 a.per, .int .i64 a.inc] 46)).alloc (.cells #[.slice B m d, .int .i64 b.per, .int .i64 b.inc] 46) = wz at *
    clear hwz
    obtain ⟨F, hFe⟩ : ∃ F, F = w1.heap.size := ⟨_, rfl⟩
    obtain ⟨G, hGe⟩ : ∃ G, G = F + 1 := ⟨_, rfl⟩
    rw [← hFe, ← hGe] at FB
    rw [← hFe] at FA
    rw [← hFe, ← hGe]
    have hne1 : w.heap.size + 1 + 1 + 1 ≠ F := by omega
    have hne2 : w.heap.size + 1 + 1 + 1 ≠ G := by omega
    have hne3 : w.heap.size + 1 + 1 ≠ F := by omega
    have hne4 : w.heap.size + 1 + 1 ≠ G := by omega
    have HLL := Lib.hid hL
    clear hFe hGe hs0 hL
    have ha1 := hao.n1; have ha2 := hao.n2; have hap := hao.p1; have hap2 := hao.p2; have hai := hao.i1; have hai2 := hao.i2; have hapn := hao.pn
    rw [hl1] at ha1 ha2 hapn
    have hb1 := hbo.n1; have hb2 := hbo.n2; have hbp := hbo.p1; have hbp2 := hbo.p2; have hbi := hbo.i1; have hbi2 := hbo.i2; have hbpn := hbo.pn
    rw [hl2] at hb1 hb2 hbpn
    obtain ⟨C, hC⟩ : ∃ C, C = ordC a b := ⟨_, rfl⟩
    obtain ⟨S, hS⟩ : ∃ S, S = ordF a b := ⟨_, rfl⟩
    obtain ⟨GA, hGA⟩ : ∃ GA : Int, GA = gnA a b := ⟨_, rfl⟩
    obtain ⟨GB, hGB⟩ : ∃ GB : Int, GB = gnB a b := ⟨_, rfl⟩
    have hmx : (if (n : Int) - a.per < (m : Int) - b.per then (m : Int) - b.per else (n : Int) - a.per) = (S : Int) := by
      rw [hS]; unfold ordF; rw [hl1, hl2]; split <;> omega
    have hSb : (S : Int) ≤ 400 := by rw [hS]; unfold ordF; rw [hl1, hl2]; omega
    have hCb : (C : Int) ≤ 120 := by rw [hC]; omega
    have hC1 : 1 ≤ C := by rw [hC]; exact ob.c1
    have hga := ob.a1; have hgb := ob.a2
    have eGA : ((((C : Nat) : Int).toNat / a.per.toNat : Nat) : Int) * a.inc = GA := by rw [hGA, hC, Int.toNat_natCast]; rfl
    have eGB : ((((C : Nat) : Int).toNat / b.per.toNat : Nat) : Int) * b.inc = GB := by rw [hGB, hC, Int.toNat_natCast]; rfl
    have hGAb : 0 ≤ GA ∧ GA ≤ 128849018880 := by rw [hGA]; exact hga
    have hGBb : 0 ≤ GB ∧ GB ≤ 128849018880 := by rw [hGB]; exact hgb
    obtain ⟨hGA0, hGA1⟩ := hGAb
    obtain ⟨hGB0, hGB1⟩ := hGBb
    rw [← hC]
    have EXT := Lib.hid (show ∀ r er, MadeL (exV true a b) r er → ExtS true ⟨xs, p, i⟩ ⟨ys, q, j⟩ r er from fun r er h => .inr ⟨hf, hg, a, b, hna, hnb, .inr ⟨hc, h⟩⟩)
    have HVAL := Lib.hid (show ∀ k : Nat, (k : Int) < 1000 → 0 ≤ exV true a b k ∧ exV true a b k ≤ 4611686018427387904 from fun k hk => exV_small hao hbo (by omega))
    have HA := Lib.hid hao; have HB := Lib.hid hbo
    have HC := Lib.hid hC; have HS := Lib.hid hS; have HGA := Lib.hid hGA; have HGB := Lib.hid hGB; have HL1 := Lib.hid hl1; have HL2 := Lib.hid hl2
    clear hf hg hna hnb hao hbo hc hl1 hl2 ob hC hS hGA hGB hga hgb
    obtain ⟨⟨r0, r1, r2⟩, ⟨y0, y1, y2⟩, hlr⟩ := RB.out.c3
    obtain ⟨a0, a1, a2, hla⟩ := FA.out.cells
    obtain ⟨b0, b1, b2, hlb⟩ := FB.out.cells
    have q0 := QB.out.cell 0
    simp at q0
    have hlq := QB.out.lt
    go_region_held3 (fun w' => w'.cell? ⟨F, 0, none⟩ = some (.slice A n c) ∧ w'.cell? ⟨F, 1, none⟩ = some (.int .i64 a.per) ∧ w'.cell? ⟨F, 2, none⟩ = some (.int .i64 a.inc) ∧ w'.cell? ⟨G, 0, none⟩ = some (.slice B m d) ∧ w'.cell? ⟨G, 1, none⟩ = some (.int .i64 b.per) ∧ w'.cell? ⟨G, 2, none⟩ = some (.int .i64 b.inc)) (first | go_keep)
      (first
        | (go_at_call_of 94 (Value.agg #[.slice A n c, .int .i64 a.per, .int .i64 a.inc])
           refine (start_any A n c a.per a.inc _ (by omega) (by omega) (by omega)).mono ?_
           rintro e w4 ⟨rfl, hbq⟩
           have hbq := bofdrew hbq
           have FA := Lib.hid (FA.out.below hbq); have FB := Lib.hid (FB.out.below hbq); have QB := Lib.hid (QB.out.below hbq QB.out.lt); have RB := Lib.hid (RB.out.below hbq RB.out.lt); have BW := Lib.hid (bthen BW.out hbq)
           clear hbq
           clear a0 a1 a2 hla b0 b1 b2 hlb q0 hlq
           obtain ⟨a0, a1, a2, hla⟩ := FA.out.cells
           obtain ⟨b0, b1, b2, hlb⟩ := FB.out.cells
           have q0 := QB.out.cell 0
           simp at q0
           have hlq := QB.out.lt
           skip)
        | (go_at_call_of 94 (Value.agg #[.slice B m d, .int .i64 b.per, .int .i64 b.inc])
           refine (start_any B m d b.per b.inc _ (by omega) (by omega) (by omega)).mono ?_
           rintro e w4 ⟨rfl, hbq⟩
           have FA := Lib.hid (FA.out.below hbq); have FB := Lib.hid (FB.out.below hbq); have QB := Lib.hid (QB.out.below hbq QB.out.lt); have RB := Lib.hid (RB.out.below hbq RB.out.lt); have BW := Lib.hid (bthen BW.out hbq)
           clear hbq
           clear a0 a1 a2 hla b0 b1 b2 hlb q0 hlq
           obtain ⟨a0, a1, a2, hla⟩ := FA.out.cells
           obtain ⟨b0, b1, b2, hlb⟩ := FB.out.cells
           have q0 := QB.out.cell 0
           simp at q0
           have hlq := QB.out.lt
           skip))
    clear hmx
    clear r0 r1 r2 y0 y1 y2 hlr
    obtain ⟨⟨r0, r1, r2⟩, ⟨y0, y1, y2⟩, hlr⟩ := RB.out.c3
    by_cases hfin : a.Fin ∧ b.Fin
    · have hfa : (nth a.vals (n - 1) != inf) = true := by rw [bne_iff_ne, ← HL1.out]; exact hfin.1.2
      have hfb : (nth b.vals (m - 1) != inf) = true := by rw [bne_iff_ne, ← HL2.out]; exact hfin.2.2
      have HFIN := Lib.hid hfin
      clear hfin
      go_wp2_with fail
      refine (finite_any A n c a.per a.inc a.vals _ (by exact FA.out.ints) (by omega) (by omega)).mono ?_
      rw [hfa]
      rintro e w4 ⟨rfl, hbq⟩
      have FA := Lib.hid (FA.out.below hbq); have FB := Lib.hid (FB.out.below hbq); have QB := Lib.hid (QB.out.below hbq QB.out.lt); have RB := Lib.hid (RB.out.below hbq RB.out.lt); have BW := Lib.hid (bthen BW.out hbq)
      clear hbq
      clear a0 a1 a2 hla b0 b1 b2 hlb q0 hlq
      clear r0 r1 r2 y0 y1 y2 hlr
      obtain ⟨a0, a1, a2, hla⟩ := FA.out.cells
      obtain ⟨b0, b1, b2, hlb⟩ := FB.out.cells
      have q0 := QB.out.cell 0
      simp at q0
      have hlq := QB.out.lt
      obtain ⟨⟨r0, r1, r2⟩, ⟨y0, y1, y2⟩, hlr⟩ := RB.out.c3
      go_wp2_with fail
      refine (finite_any B m d b.per b.inc b.vals _ (by exact FB.out.ints) (by omega) (by omega)).mono ?_
      rw [hfb]
      rintro e w4 ⟨rfl, hbq⟩
      have FA := Lib.hid (FA.out.below hbq); have FB := Lib.hid (FB.out.below hbq); have QB := Lib.hid (QB.out.below hbq QB.out.lt); have RB := Lib.hid (RB.out.below hbq RB.out.lt); have BW := Lib.hid (bthen BW.out hbq)
      clear hbq
      clear a0 a1 a2 hla b0 b1 b2 hlb q0 hlq
      clear r0 r1 r2 y0 y1 y2 hlr
      obtain ⟨a0, a1, a2, hla⟩ := FA.out.cells
      obtain ⟨b0, b1, b2, hlb⟩ := FB.out.cells
      have q0 := QB.out.cell 0
      simp at q0
      have hlq := QB.out.lt
      obtain ⟨⟨r0, r1, r2⟩, ⟨y0, y1, y2⟩, hlr⟩ := RB.out.c3
      go_upto_region 13 with fail
      go_region_held3 (fun w' => w'.cell? ⟨F, 0, none⟩ = some (.slice A n c) ∧ w'.cell? ⟨F, 1, none⟩ = some (.int .i64 a.per) ∧ w'.cell? ⟨F, 2, none⟩ = some (.int .i64 a.inc) ∧ w'.cell? ⟨G, 0, none⟩ = some (.slice B m d) ∧ w'.cell? ⟨G, 1, none⟩ = some (.int .i64 b.per) ∧ w'.cell? ⟨G, 2, none⟩ = some (.int .i64 b.inc)) (first | go_keep)
        (first
          | (go_at_call_of 159 (Value.agg #[.slice A n c, .int .i64 a.per, .int .i64 a.inc])
             refine (pgain_any A n c a.per a.inc (C : Int) _ (by omega) (by omega) (by omega) (by omega) (by omega)).mono ?_
             rw [eGA]
             rintro e w4 ⟨rfl, hbq⟩
             have hbq := bofdrew hbq
             have FA := Lib.hid (FA.out.below hbq); have FB := Lib.hid (FB.out.below hbq); have QB := Lib.hid (QB.out.below hbq QB.out.lt); have RB := Lib.hid (RB.out.below hbq RB.out.lt); have BW := Lib.hid (bthen BW.out hbq)
             clear hbq
             clear a0 a1 a2 hla b0 b1 b2 hlb q0 hlq
             obtain ⟨a0, a1, a2, hla⟩ := FA.out.cells
             obtain ⟨b0, b1, b2, hlb⟩ := FB.out.cells
             have q0 := QB.out.cell 0
             simp at q0
             have hlq := QB.out.lt
             skip)
          | (go_at_call_of 159 (Value.agg #[.slice B m d, .int .i64 b.per, .int .i64 b.inc])
             refine (pgain_any B m d b.per b.inc (C : Int) _ (by omega) (by omega) (by omega) (by omega) (by omega)).mono ?_
             rw [eGB]
             rintro e w4 ⟨rfl, hbq⟩
             have FA := Lib.hid (FA.out.below hbq); have FB := Lib.hid (FB.out.below hbq); have QB := Lib.hid (QB.out.below hbq QB.out.lt); have RB := Lib.hid (RB.out.below hbq RB.out.lt); have BW := Lib.hid (bthen BW.out hbq)
             clear hbq
             clear a0 a1 a2 hla b0 b1 b2 hlb q0 hlq
             obtain ⟨a0, a1, a2, hla⟩ := FA.out.cells
             obtain ⟨b0, b1, b2, hlb⟩ := FB.out.cells
             have q0 := QB.out.cell 0
             simp at q0
             have hlq := QB.out.lt
             skip))
      clear eGA eGB
      clear r0 r1 r2 y0 y1 y2 hlr
      obtain ⟨⟨r0, r1, r2⟩, ⟨y0, y1, y2⟩, hlr⟩ := RB.out.c3
      by_cases hGG : GA = GB
      · have g1 : (GA == GB) = true := by simpa using hGG
        have HGG := Lib.hid hGG
        clear hGG
        go_wp2_with fail
        -- true flag choose1min_any choose1 S start C period GA increment ex_build HA.out HB.out (s := S) (p := C) (i := GA) (by omega) (by omega) (fun _ => by rw [HGA.out, HC.out]; exact exV_eq HFIN.out.1 HFIN.out.2 (by rw [← HGA.out, ← HGB.out]; exact HGG.out) (by rw [HS.out]; exact Nat.le_refl _)): what FN is made of
        refine (build_any 158 #[.pointer (some ⟨w.heap.size + 1 + 1, 0, none⟩), .pointer (some ⟨F, 0, none⟩), .pointer (some ⟨G, 0, none⟩)] S C GA (exV true a b) _ (by omega) (by omega) (by omega) (by omega) (by omega) (by omega) (by exact fun k hk => HVAL.out k (by omega)) (by exact fun t w1 ht hb => choose1min_any _ F G _ A n c a B m d b t w1 (FA.out.below hb) (FB.out.below hb) (QB.out.below hb QB.out.lt) HA.out HB.out (by omega)) (fun x w => by kernel_rfl)).mono ?_
        rintro e w5 ⟨r, er, hS, A5, n5, c5, rfl, hI5, hA5, hbq⟩
        have FN := Lib.hid (EXT.out _ _ (ex_build HA.out HB.out (s := S) (p := C) (i := GA) (by omega) (by omega) (fun _ => by rw [HGA.out, HC.out]; exact exV_eq HFIN.out.1 HFIN.out.2 (by rw [← HGA.out, ← HGB.out]; exact HGG.out) (by rw [HS.out]; exact Nat.le_refl _)) hS))
        have hs0 := RB.out.lt
        have HI5 := Lib.hid hI5; have HA5 := Lib.hid hA5
        clear hS hI5 hA5
        have FA := Lib.hid (FA.out.below hbq); have FB := Lib.hid (FB.out.below hbq); have QB := Lib.hid (QB.out.below hbq QB.out.lt); have RB := Lib.hid (RB.out.below hbq RB.out.lt); have BW := Lib.hid (bthen BW.out hbq)
        clear hbq
        clear a0 a1 a2 hla b0 b1 b2 hlb q0 hlq
        clear r0 r1 r2 y0 y1 y2 hlr
        obtain ⟨a0, a1, a2, hla⟩ := FA.out.cells
        obtain ⟨b0, b1, b2, hlb⟩ := FB.out.cells
        have q0 := QB.out.cell 0
        simp at q0
        have hlq := QB.out.lt
        obtain ⟨⟨r0, r1, r2⟩, ⟨y0, y1, y2⟩, hlr⟩ := RB.out.c3
        go_wp2_with fail
        have rb := RB.out.store3 (.slice A5 n5 c5) (.int .i64 r.per) (.int .i64 r.inc)
        refine bodyPost_ret (v := .tuple #[.agg #[(.slice A5 n5 c5), .int .i64 r.per, .int .i64 r.inc], .int .i64 er]) (by simp [results, Try.results129, go_sem, rb.cell]) rfl ?_
        exact retS_store FN.out HA5.out (by omega) hs0 HI5.out BW.out
      · have g1 : (GA == GB) = false := by simpa using hGG
        by_cases hfirst : firstS true GA GB
        · have LZ := Lib.hid (show LastZ true a b a C from by rw [HC.out]; exact LastZ.a HFIN.out.1 HFIN.out.2 (by rw [← HGA.out, ← HGB.out]; exact hfirst))
          have hfr := frB_true hfirst
          clear hfirst hGG
          go_upto_region 17 with fail
          -- a new variable with the curve a; the world at hand is w4
          have ZB := Lib.hid (Bz.mk (L := L) (c := c) (f := a) (Blk.new w4 46 #[.slice A n c, .int .i64 a.per, .int .i64 a.inc]) ((FA.out.ints).alloc' _) FA.out.lo)
          have hAZ := FA.out.ints.blk_lt (by omega)
          have hBZ := FB.out.ints.blk_lt (by omega)
          have hFZ := FA.out.lt
          have hGZ := FB.out.lt
          have hQZ := QB.out.lt
          have hRZ := RB.out.lt
          have hbq := balloc w4 (.cells #[.slice A n c, .int .i64 a.per, .int .i64 a.inc] 46)
          have FA := Lib.hid (FA.out.below hbq); have FB := Lib.hid (FB.out.below hbq); have QB := Lib.hid (QB.out.below hbq QB.out.lt); have RB := Lib.hid (RB.out.below hbq RB.out.lt); have BW := Lib.hid (bthen BW.out hbq)
          clear hbq
          clear a0 a1 a2 hla b0 b1 b2 hlb q0 hlq
          clear r0 r1 r2 y0 y1 y2 hlr
          generalize hwe : w4.alloc (.cells #[.slice A n c, .int .i64 a.per, .int .i64 a.inc] 46) = we at *
          clear hwe
          generalize w4.heap.size = Z at *
          go_wp2_with fail
          refine (pmin2_any GA GB _).mono ?_
          rw [hfr]
          rintro e w5 ⟨rfl, rfl⟩
          -- true flag choose1min_any choose1 ; z is a, its list A n c
          have hz1 := LZ.out.ok.n1; have hz2 := LZ.out.ok.n2; have hzp := LZ.out.ok.p1; have hzp2 := LZ.out.ok.p2; have hzi := LZ.out.ok.i1; have hzi2 := LZ.out.ok.i2; have hzpn := LZ.out.ok.pn
          have hlzz : a.vals.length = n := ZB.out.ints.1
          rw [hlzz] at hz1 hz2 hzpn
          clear hlzz
          go_wp2_with fail
          go_loopg [20] C (fun gg s20 wx => ∃ t : Nat, t + gg = 400 + C ∧ 400 ≤ t ∧ s20 = .int .i64 t ∧ (∀ u, 400 ≤ u → u < t → exV true a b u = a.at u) ∧ Bz L wx F A n c a ∧ Bz L wx G B m d b ∧ Blk wx (w.heap.size + 1 + 1) 101 #[.func (.func 130) #[] #[]] ∧ Blk wx (w.heap.size + 1 + 1 + 1) 46 #[.slice none 0 0, .int .i64 0, .int .i64 0] ∧ Below w.heap.size w wx ∧ Bz L wx Z A n c a)
          case atStart => exact ⟨400, by omega, by omega, rfl, fun u h1 h2 => by omega, FA.out, FB.out, QB.out, RB.out, BW.out, ZB.out⟩
          case round =>
            clear FA FB QB RB BW ZB
            obtain ⟨t, htg, ht4, rfl, hall, fa', fb', qb', rb', bw', zb'⟩ := hrel
            have FA := Lib.hid fa'; have FB := Lib.hid fb'; have QB := Lib.hid qb'; have RB := Lib.hid rb'; have BW := Lib.hid bw'; have ZB := Lib.hid zb'; have HALL := Lib.hid hall
            clear fa' fb' qb' rb' bw' zb' hall
            have e1 : IntKind.i64.wrap ((400 : Int) + (C : Int)) = (400 : Int) + (C : Int) := IntWalk.i64_in _ (by omega)
            by_cases htC : t < 400 + C
            · have hti : (t : Int) < 400 + (C : Int) := by omega
              obtain ⟨x, hx⟩ : ∃ x, x = exV true a b t := ⟨_, rfl⟩
              obtain ⟨y, hy⟩ : ∃ y, y = a.at t := ⟨_, rfl⟩
              have HX := Lib.hid hx; have HY := Lib.hid hy
              clear hx hy
              go_upto_region 22 with fail
              obtain ⟨l0, l1, l2, hlz⟩ := ZB.out.cells
              clear e1
              by_cases hxy : x = y
              · have d1 : (x != y) = false := by simp only [bne_eq_false_iff_eq]; exact hxy
                have HALL2 := Lib.hid (show ∀ u, 400 ≤ u → u < t + 1 → exV true a b u = a.at u from fun u h1 h2 => by
                  by_cases e : u = t
                  · rw [e, ← HX.out, ← HY.out]; exact hxy
                  · exact HALL.out u h1 (by omega))
                clear hxy
                go_region_held3 (fun w' => w'.cell? ⟨Z, 0, none⟩ = some (.slice A n c) ∧ w'.cell? ⟨Z, 1, none⟩ = some (.int .i64 a.per) ∧ w'.cell? ⟨Z, 2, none⟩ = some (.int .i64 a.inc)) (first | go_keep)
                  (first
                    | (go_at_call 158
                       refine (choose1min_any _ F G _ A n c a B m d b t _ (by exact FA.out.drew) (by exact FB.out.drew) (by exact QB.out.drew) HA.out HB.out (by omega)).mono ?_
                       rw [← HX.out]
                       rintro e w1 ⟨rfl, hbq⟩
                       have hbq := bofdrew hbq
                       have ZB := Lib.hid (ZB.out.below hbq)
                       have FA := Lib.hid (FA.out.below hbq); have FB := Lib.hid (FB.out.below hbq); have QB := Lib.hid (QB.out.below hbq QB.out.lt); have RB := Lib.hid (RB.out.below hbq RB.out.lt); have BW := Lib.hid (bthen BW.out hbq)
                       clear hbq
                       clear l0 l1 l2 hlz
                       obtain ⟨l0, l1, l2, hlz⟩ := ZB.out.cells
                       skip)
                    | (go_at_call 108
                       refine (at_any A n c a.per a.inc t a.vals _ (by exact ZB.out.ints) (by omega) hzp hzpn hzi (by omega) LZ.out.ok.nn (by omega) (by omega)).mono ?_
                       rw [Int.toNat_natCast, show Cv.at ⟨a.vals, a.per, a.inc⟩ t = y from HY.out.symm]
                       rintro e w1 ⟨rfl, hbq⟩
                       have ZB := Lib.hid (ZB.out.below hbq)
                       have FA := Lib.hid (FA.out.below hbq); have FB := Lib.hid (FB.out.below hbq); have QB := Lib.hid (QB.out.below hbq QB.out.lt); have RB := Lib.hid (RB.out.below hbq RB.out.lt); have BW := Lib.hid (bthen BW.out hbq)
                       clear hbq
                       clear l0 l1 l2 hlz
                       obtain ⟨l0, l1, l2, hlz⟩ := ZB.out.cells
                       skip))
                all_goals
                  go_wp2_with fail
                  go_roundg (gk - 1)
                  case measure => omega
                  case rel => exact ⟨t + 1, by omega, by omega, by go_num, HALL2.out, FA.out, FB.out, QB.out, RB.out, BW.out, ZB.out⟩
              · have d1 : (x != y) = true := by simp only [bne_iff_ne, ne_eq]; exact hxy
                have FN := Lib.hid (EXT.out _ _ (LZ.out.bad t ht4 (by rw [← HX.out, ← HY.out]; exact hxy)))
                clear hxy
                go_region_held3 (fun w' => w'.cell? ⟨Z, 0, none⟩ = some (.slice A n c) ∧ w'.cell? ⟨Z, 1, none⟩ = some (.int .i64 a.per) ∧ w'.cell? ⟨Z, 2, none⟩ = some (.int .i64 a.inc)) (first | go_keep)
                  (first
                    | (go_at_call 158
                       refine (choose1min_any _ F G _ A n c a B m d b t _ (by exact FA.out.drew) (by exact FB.out.drew) (by exact QB.out.drew) HA.out HB.out (by omega)).mono ?_
                       rw [← HX.out]
                       rintro e w1 ⟨rfl, hbq⟩
                       have hbq := bofdrew hbq
                       have ZB := Lib.hid (ZB.out.below hbq)
                       have FA := Lib.hid (FA.out.below hbq); have FB := Lib.hid (FB.out.below hbq); have QB := Lib.hid (QB.out.below hbq QB.out.lt); have RB := Lib.hid (RB.out.below hbq RB.out.lt); have BW := Lib.hid (bthen BW.out hbq)
                       clear hbq
                       clear l0 l1 l2 hlz
                       obtain ⟨l0, l1, l2, hlz⟩ := ZB.out.cells
                       skip)
                    | (go_at_call 108
                       refine (at_any A n c a.per a.inc t a.vals _ (by exact ZB.out.ints) (by omega) hzp hzpn hzi (by omega) LZ.out.ok.nn (by omega) (by omega)).mono ?_
                       rw [Int.toNat_natCast, show Cv.at ⟨a.vals, a.per, a.inc⟩ t = y from HY.out.symm]
                       rintro e w1 ⟨rfl, hbq⟩
                       have ZB := Lib.hid (ZB.out.below hbq)
                       have FA := Lib.hid (FA.out.below hbq); have FB := Lib.hid (FB.out.below hbq); have QB := Lib.hid (QB.out.below hbq QB.out.lt); have RB := Lib.hid (RB.out.below hbq RB.out.lt); have BW := Lib.hid (bthen BW.out hbq)
                       clear hbq
                       clear l0 l1 l2 hlz
                       obtain ⟨l0, l1, l2, hlz⟩ := ZB.out.cells
                       skip))
                all_goals
                  obtain ⟨⟨r0, r1, r2⟩, ⟨y0, y1, y2⟩, hlr⟩ := RB.out.c3
                  go_wp2_with fail
                  have rb := RB.out.store3 (.slice none 0 0) (.int .i64 0) (.int .i64 0)
                  refine bodyPost_ret (v := .tuple #[.agg #[(.slice none 0 0), .int .i64 0, .int .i64 0], .int .i64 3]) (by simp [results, Try.results129, go_sem, rb.cell]) rfl ?_
                  exact retS_none FN.out (bst3 BW.out (by omega) _ _ _)
            · have hti : ¬ (t : Int) < 400 + (C : Int) := by omega
              have hte : t = 400 + C := by omega
              have HGOOD := Lib.hid (LZ.out.good (fun u h1 h2 => HALL.out u h1 (by omega)))
              clear htC htg hte
              obtain ⟨l0, l1, l2, hlz⟩ := ZB.out.cells
              obtain ⟨a0, a1, a2, hla⟩ := FA.out.cells
              obtain ⟨b0, b1, b2, hlb⟩ := FB.out.cells
              have q0 := QB.out.cell 0
              simp at q0
              have hlq := QB.out.lt
              obtain ⟨⟨r0, r1, r2⟩, ⟨y0, y1, y2⟩, hlr⟩ := RB.out.c3
              go_wp2_with fail
              -- true flag choose1min_any choose1 400 start a.per period a.inc increment HGOOD.out _ _: what FN is made of
              refine (build_any 158 #[.pointer (some ⟨w.heap.size + 1 + 1, 0, none⟩), .pointer (some ⟨F, 0, none⟩), .pointer (some ⟨G, 0, none⟩)] 400 a.per a.inc (exV true a b) _ (by omega) (by omega) (by omega) (by omega) (by omega) (by omega) (by exact fun k hk => HVAL.out k (by omega)) (by exact fun t w1 ht hb => choose1min_any _ F G _ A n c a B m d b t w1 (FA.out.below hb) (FB.out.below hb) (QB.out.below hb QB.out.lt) HA.out HB.out (by omega)) (fun x w => by kernel_rfl)).mono ?_
              rintro e w5 ⟨r, er, hS, A5, n5, c5, rfl, hI5, hA5, hbq⟩
              have FN := Lib.hid (EXT.out _ _ (HGOOD.out _ _ hS))
              have hs0 := RB.out.lt
              have HI5 := Lib.hid hI5; have HA5 := Lib.hid hA5
              clear hS hI5 hA5
              have FA := Lib.hid (FA.out.below hbq); have FB := Lib.hid (FB.out.below hbq); have QB := Lib.hid (QB.out.below hbq QB.out.lt); have RB := Lib.hid (RB.out.below hbq RB.out.lt); have BW := Lib.hid (bthen BW.out hbq)
              clear hbq
              clear a0 a1 a2 hla b0 b1 b2 hlb q0 hlq
              clear r0 r1 r2 y0 y1 y2 hlr
              obtain ⟨a0, a1, a2, hla⟩ := FA.out.cells
              obtain ⟨b0, b1, b2, hlb⟩ := FB.out.cells
              have q0 := QB.out.cell 0
              simp at q0
              have hlq := QB.out.lt
              obtain ⟨⟨r0, r1, r2⟩, ⟨y0, y1, y2⟩, hlr⟩ := RB.out.c3
              go_wp2_with fail
              have rb := RB.out.store3 (.slice A5 n5 c5) (.int .i64 r.per) (.int .i64 r.inc)
              refine bodyPost_ret (v := .tuple #[.agg #[(.slice A5 n5 c5), .int .i64 r.per, .int .i64 r.inc], .int .i64 er]) (by simp [results, Try.results129, go_sem, rb.cell]) rfl ?_
              exact retS_store FN.out HA5.out (by omega) hs0 HI5.out BW.out
        · have LZ := Lib.hid (show LastZ true a b b C from by
            rw [HC.out]
            refine LastZ.b HFIN.out.1 HFIN.out.2 ?_
            rw [← HGA.out, ← HGB.out]
            unfold firstS at hfirst ⊢
            split at hfirst <;> rename_i hl
            · rw [if_pos hl]; omega
            · rw [if_neg hl]; omega)
          have hfr := frB_false hfirst
          clear hfirst hGG
          go_upto_region 17 with fail
          -- a new variable with the curve a; the world at hand is w4
          have ZB := Lib.hid (Bz.mk (L := L) (c := c) (f := a) (Blk.new w4 46 #[.slice A n c, .int .i64 a.per, .int .i64 a.inc]) ((FA.out.ints).alloc' _) FA.out.lo)
          have hAZ := FA.out.ints.blk_lt (by omega)
          have hBZ := FB.out.ints.blk_lt (by omega)
          have hFZ := FA.out.lt
          have hGZ := FB.out.lt
          have hQZ := QB.out.lt
          have hRZ := RB.out.lt
          have hbq := balloc w4 (.cells #[.slice A n c, .int .i64 a.per, .int .i64 a.inc] 46)
          have FA := Lib.hid (FA.out.below hbq); have FB := Lib.hid (FB.out.below hbq); have QB := Lib.hid (QB.out.below hbq QB.out.lt); have RB := Lib.hid (RB.out.below hbq RB.out.lt); have BW := Lib.hid (bthen BW.out hbq)
          clear hbq
          clear a0 a1 a2 hla b0 b1 b2 hlb q0 hlq
          clear r0 r1 r2 y0 y1 y2 hlr
          generalize hwe : w4.alloc (.cells #[.slice A n c, .int .i64 a.per, .int .i64 a.inc] 46) = we at *
          clear hwe
          generalize w4.heap.size = Z at *
          go_wp2_with fail
          refine (pmin2_any GA GB _).mono ?_
          rw [hfr]
          rintro e w5 ⟨rfl, rfl⟩
          obtain ⟨⟨l0, l1, l2⟩, ⟨k0, k1, k2⟩, hlz⟩ := ZB.out.blk.c3
          obtain ⟨a0, a1, a2, hla⟩ := FA.out.cells
          obtain ⟨b0, b1, b2, hlb⟩ := FB.out.cells
          have q0 := QB.out.cell 0
          simp at q0
          have hlq := QB.out.lt
          go_upto_region 19 with fail
          clear l0 l1 l2 k0 k1 k2 hlz
          clear a0 a1 a2 hla b0 b1 b2 hlb q0 hlq
          -- the curve b is stored to the new variable; the world at hand is we
          have st := Sto.three Z we (.slice B m d) (.int .i64 b.per) (.int .i64 b.inc)
          have ZB := Lib.hid (Bz.putN (c := d) ZB.out.blk FB.out.ints FB.out.lo hBZ)
          have FA := Lib.hid (FA.out.stoN st (by omega) hAZ); have FB := Lib.hid (FB.out.stoN st (by omega) hBZ); have QB := Lib.hid (QB.out.sto st (by omega)); have RB := Lib.hid (RB.out.sto st (by omega)); have BW := Lib.hid (bsto BW.out st (by omega))
          clear st
          generalize hwe : ((we.setCell ⟨Z, 0, none⟩ (.slice B m d)).setCell ⟨Z, 1, none⟩ (.int .i64 b.per)).setCell ⟨Z, 2, none⟩ (.int .i64 b.inc) = wf at *
          clear hwe
          -- true flag choose1min_any choose1 ; z is b, its list B m d
          have hz1 := LZ.out.ok.n1; have hz2 := LZ.out.ok.n2; have hzp := LZ.out.ok.p1; have hzp2 := LZ.out.ok.p2; have hzi := LZ.out.ok.i1; have hzi2 := LZ.out.ok.i2; have hzpn := LZ.out.ok.pn
          have hlzz : b.vals.length = m := ZB.out.ints.1
          rw [hlzz] at hz1 hz2 hzpn
          clear hlzz
          go_wp2_with fail
          go_loopg [20] C (fun gg s20 wx => ∃ t : Nat, t + gg = 400 + C ∧ 400 ≤ t ∧ s20 = .int .i64 t ∧ (∀ u, 400 ≤ u → u < t → exV true a b u = b.at u) ∧ Bz L wx F A n c a ∧ Bz L wx G B m d b ∧ Blk wx (w.heap.size + 1 + 1) 101 #[.func (.func 130) #[] #[]] ∧ Blk wx (w.heap.size + 1 + 1 + 1) 46 #[.slice none 0 0, .int .i64 0, .int .i64 0] ∧ Below w.heap.size w wx ∧ Bz L wx Z B m d b)
          case atStart => exact ⟨400, by omega, by omega, rfl, fun u h1 h2 => by omega, FA.out, FB.out, QB.out, RB.out, BW.out, ZB.out⟩
          case round =>
            clear FA FB QB RB BW ZB
            obtain ⟨t, htg, ht4, rfl, hall, fa', fb', qb', rb', bw', zb'⟩ := hrel
            have FA := Lib.hid fa'; have FB := Lib.hid fb'; have QB := Lib.hid qb'; have RB := Lib.hid rb'; have BW := Lib.hid bw'; have ZB := Lib.hid zb'; have HALL := Lib.hid hall
            clear fa' fb' qb' rb' bw' zb' hall
            have e1 : IntKind.i64.wrap ((400 : Int) + (C : Int)) = (400 : Int) + (C : Int) := IntWalk.i64_in _ (by omega)
            by_cases htC : t < 400 + C
            · have hti : (t : Int) < 400 + (C : Int) := by omega
              obtain ⟨x, hx⟩ : ∃ x, x = exV true a b t := ⟨_, rfl⟩
              obtain ⟨y, hy⟩ : ∃ y, y = b.at t := ⟨_, rfl⟩
              have HX := Lib.hid hx; have HY := Lib.hid hy
              clear hx hy
              go_upto_region 22 with fail
              obtain ⟨l0, l1, l2, hlz⟩ := ZB.out.cells
              clear e1
              by_cases hxy : x = y
              · have d1 : (x != y) = false := by simp only [bne_eq_false_iff_eq]; exact hxy
                have HALL2 := Lib.hid (show ∀ u, 400 ≤ u → u < t + 1 → exV true a b u = b.at u from fun u h1 h2 => by
                  by_cases e : u = t
                  · rw [e, ← HX.out, ← HY.out]; exact hxy
                  · exact HALL.out u h1 (by omega))
                clear hxy
                go_region_held3 (fun w' => w'.cell? ⟨Z, 0, none⟩ = some (.slice B m d) ∧ w'.cell? ⟨Z, 1, none⟩ = some (.int .i64 b.per) ∧ w'.cell? ⟨Z, 2, none⟩ = some (.int .i64 b.inc)) (first | go_keep)
                  (first
                    | (go_at_call 158
                       refine (choose1min_any _ F G _ A n c a B m d b t _ (by exact FA.out.drew) (by exact FB.out.drew) (by exact QB.out.drew) HA.out HB.out (by omega)).mono ?_
                       rw [← HX.out]
                       rintro e w1 ⟨rfl, hbq⟩
                       have hbq := bofdrew hbq
                       have ZB := Lib.hid (ZB.out.below hbq)
                       have FA := Lib.hid (FA.out.below hbq); have FB := Lib.hid (FB.out.below hbq); have QB := Lib.hid (QB.out.below hbq QB.out.lt); have RB := Lib.hid (RB.out.below hbq RB.out.lt); have BW := Lib.hid (bthen BW.out hbq)
                       clear hbq
                       clear l0 l1 l2 hlz
                       obtain ⟨l0, l1, l2, hlz⟩ := ZB.out.cells
                       skip)
                    | (go_at_call 108
                       refine (at_any B m d b.per b.inc t b.vals _ (by exact ZB.out.ints) (by omega) hzp hzpn hzi (by omega) LZ.out.ok.nn (by omega) (by omega)).mono ?_
                       rw [Int.toNat_natCast, show Cv.at ⟨b.vals, b.per, b.inc⟩ t = y from HY.out.symm]
                       rintro e w1 ⟨rfl, hbq⟩
                       have ZB := Lib.hid (ZB.out.below hbq)
                       have FA := Lib.hid (FA.out.below hbq); have FB := Lib.hid (FB.out.below hbq); have QB := Lib.hid (QB.out.below hbq QB.out.lt); have RB := Lib.hid (RB.out.below hbq RB.out.lt); have BW := Lib.hid (bthen BW.out hbq)
                       clear hbq
                       clear l0 l1 l2 hlz
                       obtain ⟨l0, l1, l2, hlz⟩ := ZB.out.cells
                       skip))
                all_goals
                  go_wp2_with fail
                  go_roundg (gk - 1)
                  case measure => omega
                  case rel => exact ⟨t + 1, by omega, by omega, by go_num, HALL2.out, FA.out, FB.out, QB.out, RB.out, BW.out, ZB.out⟩
              · have d1 : (x != y) = true := by simp only [bne_iff_ne, ne_eq]; exact hxy
                have FN := Lib.hid (EXT.out _ _ (LZ.out.bad t ht4 (by rw [← HX.out, ← HY.out]; exact hxy)))
                clear hxy
                go_region_held3 (fun w' => w'.cell? ⟨Z, 0, none⟩ = some (.slice B m d) ∧ w'.cell? ⟨Z, 1, none⟩ = some (.int .i64 b.per) ∧ w'.cell? ⟨Z, 2, none⟩ = some (.int .i64 b.inc)) (first | go_keep)
                  (first
                    | (go_at_call 158
                       refine (choose1min_any _ F G _ A n c a B m d b t _ (by exact FA.out.drew) (by exact FB.out.drew) (by exact QB.out.drew) HA.out HB.out (by omega)).mono ?_
                       rw [← HX.out]
                       rintro e w1 ⟨rfl, hbq⟩
                       have hbq := bofdrew hbq
                       have ZB := Lib.hid (ZB.out.below hbq)
                       have FA := Lib.hid (FA.out.below hbq); have FB := Lib.hid (FB.out.below hbq); have QB := Lib.hid (QB.out.below hbq QB.out.lt); have RB := Lib.hid (RB.out.below hbq RB.out.lt); have BW := Lib.hid (bthen BW.out hbq)
                       clear hbq
                       clear l0 l1 l2 hlz
                       obtain ⟨l0, l1, l2, hlz⟩ := ZB.out.cells
                       skip)
                    | (go_at_call 108
                       refine (at_any B m d b.per b.inc t b.vals _ (by exact ZB.out.ints) (by omega) hzp hzpn hzi (by omega) LZ.out.ok.nn (by omega) (by omega)).mono ?_
                       rw [Int.toNat_natCast, show Cv.at ⟨b.vals, b.per, b.inc⟩ t = y from HY.out.symm]
                       rintro e w1 ⟨rfl, hbq⟩
                       have ZB := Lib.hid (ZB.out.below hbq)
                       have FA := Lib.hid (FA.out.below hbq); have FB := Lib.hid (FB.out.below hbq); have QB := Lib.hid (QB.out.below hbq QB.out.lt); have RB := Lib.hid (RB.out.below hbq RB.out.lt); have BW := Lib.hid (bthen BW.out hbq)
                       clear hbq
                       clear l0 l1 l2 hlz
                       obtain ⟨l0, l1, l2, hlz⟩ := ZB.out.cells
                       skip))
                all_goals
                  obtain ⟨⟨r0, r1, r2⟩, ⟨y0, y1, y2⟩, hlr⟩ := RB.out.c3
                  go_wp2_with fail
                  have rb := RB.out.store3 (.slice none 0 0) (.int .i64 0) (.int .i64 0)
                  refine bodyPost_ret (v := .tuple #[.agg #[(.slice none 0 0), .int .i64 0, .int .i64 0], .int .i64 3]) (by simp [results, Try.results129, go_sem, rb.cell]) rfl ?_
                  exact retS_none FN.out (bst3 BW.out (by omega) _ _ _)
            · have hti : ¬ (t : Int) < 400 + (C : Int) := by omega
              have hte : t = 400 + C := by omega
              have HGOOD := Lib.hid (LZ.out.good (fun u h1 h2 => HALL.out u h1 (by omega)))
              clear htC htg hte
              obtain ⟨l0, l1, l2, hlz⟩ := ZB.out.cells
              obtain ⟨a0, a1, a2, hla⟩ := FA.out.cells
              obtain ⟨b0, b1, b2, hlb⟩ := FB.out.cells
              have q0 := QB.out.cell 0
              simp at q0
              have hlq := QB.out.lt
              obtain ⟨⟨r0, r1, r2⟩, ⟨y0, y1, y2⟩, hlr⟩ := RB.out.c3
              go_wp2_with fail
              -- true flag choose1min_any choose1 400 start b.per period b.inc increment HGOOD.out _ _: what FN is made of
              refine (build_any 158 #[.pointer (some ⟨w.heap.size + 1 + 1, 0, none⟩), .pointer (some ⟨F, 0, none⟩), .pointer (some ⟨G, 0, none⟩)] 400 b.per b.inc (exV true a b) _ (by omega) (by omega) (by omega) (by omega) (by omega) (by omega) (by exact fun k hk => HVAL.out k (by omega)) (by exact fun t w1 ht hb => choose1min_any _ F G _ A n c a B m d b t w1 (FA.out.below hb) (FB.out.below hb) (QB.out.below hb QB.out.lt) HA.out HB.out (by omega)) (fun x w => by kernel_rfl)).mono ?_
              rintro e w5 ⟨r, er, hS, A5, n5, c5, rfl, hI5, hA5, hbq⟩
              have FN := Lib.hid (EXT.out _ _ (HGOOD.out _ _ hS))
              have hs0 := RB.out.lt
              have HI5 := Lib.hid hI5; have HA5 := Lib.hid hA5
              clear hS hI5 hA5
              have FA := Lib.hid (FA.out.below hbq); have FB := Lib.hid (FB.out.below hbq); have QB := Lib.hid (QB.out.below hbq QB.out.lt); have RB := Lib.hid (RB.out.below hbq RB.out.lt); have BW := Lib.hid (bthen BW.out hbq)
              clear hbq
              clear a0 a1 a2 hla b0 b1 b2 hlb q0 hlq
              clear r0 r1 r2 y0 y1 y2 hlr
              obtain ⟨a0, a1, a2, hla⟩ := FA.out.cells
              obtain ⟨b0, b1, b2, hlb⟩ := FB.out.cells
              have q0 := QB.out.cell 0
              simp at q0
              have hlq := QB.out.lt
              obtain ⟨⟨r0, r1, r2⟩, ⟨y0, y1, y2⟩, hlr⟩ := RB.out.c3
              go_wp2_with fail
              have rb := RB.out.store3 (.slice A5 n5 c5) (.int .i64 r.per) (.int .i64 r.inc)
              refine bodyPost_ret (v := .tuple #[.agg #[(.slice A5 n5 c5), .int .i64 r.per, .int .i64 r.inc], .int .i64 er]) (by simp [results, Try.results129, go_sem, rb.cell]) rfl ?_
              exact retS_store FN.out HA5.out (by omega) hs0 HI5.out BW.out
    · have HNF := Lib.hid hfin
      by_cases hfa' : a.Fin
      · have hfb' : nth b.vals (b.vals.length - 1) = inf := HB.out.fin_or.resolve_left (fun h => hfin ⟨hfa', h⟩)
        have hfa : (nth a.vals (n - 1) != inf) = true := by rw [bne_iff_ne, ← HL1.out]; exact hfa'.2
        have hfb : (nth b.vals (m - 1) != inf) = false := by rw [bne_eq_false_iff_eq, ← HL2.out]; exact hfb'
        have HFA := Lib.hid hfa'
        clear hfa' hfb' hfin
        go_wp2_with fail
        refine (finite_any A n c a.per a.inc a.vals _ (by exact FA.out.ints) (by omega) (by omega)).mono ?_
        rw [hfa]
        rintro e w4 ⟨rfl, hbq⟩
        have FA := Lib.hid (FA.out.below hbq); have FB := Lib.hid (FB.out.below hbq); have QB := Lib.hid (QB.out.below hbq QB.out.lt); have RB := Lib.hid (RB.out.below hbq RB.out.lt); have BW := Lib.hid (bthen BW.out hbq)
        clear hbq
        clear a0 a1 a2 hla b0 b1 b2 hlb q0 hlq
        clear r0 r1 r2 y0 y1 y2 hlr
        obtain ⟨a0, a1, a2, hla⟩ := FA.out.cells
        obtain ⟨b0, b1, b2, hlb⟩ := FB.out.cells
        have q0 := QB.out.cell 0
        simp at q0
        have hlq := QB.out.lt
        obtain ⟨⟨r0, r1, r2⟩, ⟨y0, y1, y2⟩, hlr⟩ := RB.out.c3
        go_wp2_with fail
        refine (finite_any B m d b.per b.inc b.vals _ (by exact FB.out.ints) (by omega) (by omega)).mono ?_
        rw [hfb]
        rintro e w4 ⟨rfl, hbq⟩
        have FA := Lib.hid (FA.out.below hbq); have FB := Lib.hid (FB.out.below hbq); have QB := Lib.hid (QB.out.below hbq QB.out.lt); have RB := Lib.hid (RB.out.below hbq RB.out.lt); have BW := Lib.hid (bthen BW.out hbq)
        clear hbq
        clear a0 a1 a2 hla b0 b1 b2 hlb q0 hlq
        clear r0 r1 r2 y0 y1 y2 hlr
        obtain ⟨a0, a1, a2, hla⟩ := FA.out.cells
        obtain ⟨b0, b1, b2, hlb⟩ := FB.out.cells
        have q0 := QB.out.cell 0
        simp at q0
        have hlq := QB.out.lt
        obtain ⟨⟨r0, r1, r2⟩, ⟨y0, y1, y2⟩, hlr⟩ := RB.out.c3
        -- true flag choose1min_any choose1
        go_wp2_with fail
        refine (choose1min_any _ F G _ A n c a B m d b S _ (by exact FA.out) (by exact FB.out) (by exact QB.out) HA.out HB.out (by omega)).mono ?_
        obtain ⟨v, hv⟩ : ∃ v, v = exV true a b S := ⟨_, rfl⟩
        rw [← hv]
        rintro e w4 ⟨rfl, hbq⟩
        have HV := Lib.hid hv
        clear hv
        have FA := Lib.hid (FA.out.below hbq); have FB := Lib.hid (FB.out.below hbq); have QB := Lib.hid (QB.out.below hbq QB.out.lt); have RB := Lib.hid (RB.out.below hbq RB.out.lt); have BW := Lib.hid (bthen BW.out hbq)
        clear hbq
        clear a0 a1 a2 hla b0 b1 b2 hlb q0 hlq
        clear r0 r1 r2 y0 y1 y2 hlr
        obtain ⟨a0, a1, a2, hla⟩ := FA.out.cells
        obtain ⟨b0, b1, b2, hlb⟩ := FB.out.cells
        have q0 := QB.out.cell 0
        simp at q0
        have hlq := QB.out.lt
        obtain ⟨⟨r0, r1, r2⟩, ⟨y0, y1, y2⟩, hlr⟩ := RB.out.c3
        by_cases hvi : v = 4611686018427387904
        · have d1 : (v == 4611686018427387904) = true := by simpa using hvi
          have HVI := Lib.hid (show exV true a b S = inf from by rw [← HV.out]; exact hvi)
          clear hvi
          go_wp2_with fail
          -- true flag choose1min_any choose1 S start 1 period 0 increment ex_build HA.out HB.out (s := S) (p := 1) (i := 0) (by omega) (by omega) (fun hne => absurd HVI.out (hne S (by omega))): what FN is made of
          refine (build_any 158 #[.pointer (some ⟨w.heap.size + 1 + 1, 0, none⟩), .pointer (some ⟨F, 0, none⟩), .pointer (some ⟨G, 0, none⟩)] S 1 0 (exV true a b) _ (by omega) (by omega) (by omega) (by omega) (by omega) (by omega) (by exact fun k hk => HVAL.out k (by omega)) (by exact fun t w1 ht hb => choose1min_any _ F G _ A n c a B m d b t w1 (FA.out.below hb) (FB.out.below hb) (QB.out.below hb QB.out.lt) HA.out HB.out (by omega)) (fun x w => by kernel_rfl)).mono ?_
          rintro e w5 ⟨r, er, hS, A5, n5, c5, rfl, hI5, hA5, hbq⟩
          have FN := Lib.hid (EXT.out _ _ (ex_build HA.out HB.out (s := S) (p := 1) (i := 0) (by omega) (by omega) (fun hne => absurd HVI.out (hne S (by omega))) hS))
          have hs0 := RB.out.lt
          have HI5 := Lib.hid hI5; have HA5 := Lib.hid hA5
          clear hS hI5 hA5
          have FA := Lib.hid (FA.out.below hbq); have FB := Lib.hid (FB.out.below hbq); have QB := Lib.hid (QB.out.below hbq QB.out.lt); have RB := Lib.hid (RB.out.below hbq RB.out.lt); have BW := Lib.hid (bthen BW.out hbq)
          clear hbq
          clear a0 a1 a2 hla b0 b1 b2 hlb q0 hlq
          clear r0 r1 r2 y0 y1 y2 hlr
          obtain ⟨a0, a1, a2, hla⟩ := FA.out.cells
          obtain ⟨b0, b1, b2, hlb⟩ := FB.out.cells
          have q0 := QB.out.cell 0
          simp at q0
          have hlq := QB.out.lt
          obtain ⟨⟨r0, r1, r2⟩, ⟨y0, y1, y2⟩, hlr⟩ := RB.out.c3
          go_wp2_with fail
          have rb := RB.out.store3 (.slice A5 n5 c5) (.int .i64 r.per) (.int .i64 r.inc)
          refine bodyPost_ret (v := .tuple #[.agg #[(.slice A5 n5 c5), .int .i64 r.per, .int .i64 r.inc], .int .i64 er]) (by simp [results, Try.results129, go_sem, rb.cell]) rfl ?_
          exact retS_store FN.out HA5.out (by omega) hs0 HI5.out BW.out
        have d1 : (v == 4611686018427387904) = false := by simpa using hvi
        have ONE := Lib.hid (exV_one (l := true) HA.out HB.out HNF.out (by rw [← HS.out, ← HV.out]; exact hvi))
        clear hvi
        go_upto_region 10 with fail
        -- a new variable with the curve a; the world at hand is w4
        have ZB := Lib.hid (Bz.mk (L := L) (c := c) (f := a) (Blk.new w4 46 #[.slice A n c, .int .i64 a.per, .int .i64 a.inc]) ((FA.out.ints).alloc' _) FA.out.lo)
        have hAZ := FA.out.ints.blk_lt (by omega)
        have hBZ := FB.out.ints.blk_lt (by omega)
        have hFZ := FA.out.lt
        have hGZ := FB.out.lt
        have hQZ := QB.out.lt
        have hRZ := RB.out.lt
        have hbq := balloc w4 (.cells #[.slice A n c, .int .i64 a.per, .int .i64 a.inc] 46)
        have FA := Lib.hid (FA.out.below hbq); have FB := Lib.hid (FB.out.below hbq); have QB := Lib.hid (QB.out.below hbq QB.out.lt); have RB := Lib.hid (RB.out.below hbq RB.out.lt); have BW := Lib.hid (bthen BW.out hbq)
        clear hbq
        clear a0 a1 a2 hla b0 b1 b2 hlb q0 hlq
        clear r0 r1 r2 y0 y1 y2 hlr
        generalize hwe : w4.alloc (.cells #[.slice A n c, .int .i64 a.per, .int .i64 a.inc] 46) = we at *
        clear hwe
        generalize w4.heap.size = Z at *
        have PA := Lib.hid (show ∀ t, S ≤ t → exV true a b t = a.at t from by
          rcases ONE.out with ⟨_, h⟩ | ⟨h, _⟩
          · rw [HS.out]; exact h
          · exact absurd HFA.out h)
        -- Finite(a) with the new variable at hand
        obtain ⟨a0, a1, a2, hla⟩ := FA.out.cells
        obtain ⟨b0, b1, b2, hlb⟩ := FB.out.cells
        have q0 := QB.out.cell 0
        simp at q0
        have hlq := QB.out.lt
        go_wp2_with fail
        refine (finite_any A n c a.per a.inc a.vals _ (by exact FA.out.ints) (by omega) (by omega)).mono ?_
        rw [hfa]
        rintro e w4 ⟨rfl, hbq⟩
        have ZB := Lib.hid (ZB.out.below hbq)
        have FA := Lib.hid (FA.out.below hbq); have FB := Lib.hid (FB.out.below hbq); have QB := Lib.hid (QB.out.below hbq QB.out.lt); have RB := Lib.hid (RB.out.below hbq RB.out.lt); have BW := Lib.hid (bthen BW.out hbq)
        clear hbq
        clear a0 a1 a2 hla b0 b1 b2 hlb q0 hlq
        obtain ⟨l0, l1, l2, hlz⟩ := ZB.out.cells
        obtain ⟨a0, a1, a2, hla⟩ := FA.out.cells
        obtain ⟨b0, b1, b2, hlb⟩ := FB.out.cells
        have q0 := QB.out.cell 0
        simp at q0
        have hlq := QB.out.lt
        obtain ⟨⟨r0, r1, r2⟩, ⟨y0, y1, y2⟩, hlr⟩ := RB.out.c3
        go_wp2_with fail
        -- true flag choose1min_any choose1 S start a.per period a.inc increment ex_build HA.out HB.out (s := S) (p := a.per.toNat) (i := a.inc) (by omega) (by omega) (fun _ t ht => by rw [PA.out t ht, PA.out _ (by omega)]; exact HFA.out.toL.step t (by have h1 := (ord_b HA.out HB.out).fs; rw [← HS.out] at h1; omega)): what FN is made of
        refine (build_any 158 #[.pointer (some ⟨w.heap.size + 1 + 1, 0, none⟩), .pointer (some ⟨F, 0, none⟩), .pointer (some ⟨G, 0, none⟩)] S a.per a.inc (exV true a b) _ (by omega) (by omega) (by omega) (by omega) (by omega) (by omega) (by exact fun k hk => HVAL.out k (by omega)) (by exact fun t w1 ht hb => choose1min_any _ F G _ A n c a B m d b t w1 (FA.out.below hb) (FB.out.below hb) (QB.out.below hb QB.out.lt) HA.out HB.out (by omega)) (fun x w => by kernel_rfl)).mono ?_
        rintro e w5 ⟨r, er, hS, A5, n5, c5, rfl, hI5, hA5, hbq⟩
        have FN := Lib.hid (EXT.out _ _ (ex_build HA.out HB.out (s := S) (p := a.per.toNat) (i := a.inc) (by omega) (by omega) (fun _ t ht => by rw [PA.out t ht, PA.out _ (by omega)]; exact HFA.out.toL.step t (by have h1 := (ord_b HA.out HB.out).fs; rw [← HS.out] at h1; omega)) hS))
        have hs0 := RB.out.lt
        have HI5 := Lib.hid hI5; have HA5 := Lib.hid hA5
        clear hS hI5 hA5
        have FA := Lib.hid (FA.out.below hbq); have FB := Lib.hid (FB.out.below hbq); have QB := Lib.hid (QB.out.below hbq QB.out.lt); have RB := Lib.hid (RB.out.below hbq RB.out.lt); have BW := Lib.hid (bthen BW.out hbq)
        clear hbq
        clear a0 a1 a2 hla b0 b1 b2 hlb q0 hlq
        clear r0 r1 r2 y0 y1 y2 hlr
        obtain ⟨a0, a1, a2, hla⟩ := FA.out.cells
        obtain ⟨b0, b1, b2, hlb⟩ := FB.out.cells
        have q0 := QB.out.cell 0
        simp at q0
        have hlq := QB.out.lt
        obtain ⟨⟨r0, r1, r2⟩, ⟨y0, y1, y2⟩, hlr⟩ := RB.out.c3
        go_wp2_with fail
        have rb := RB.out.store3 (.slice A5 n5 c5) (.int .i64 r.per) (.int .i64 r.inc)
        refine bodyPost_ret (v := .tuple #[.agg #[(.slice A5 n5 c5), .int .i64 r.per, .int .i64 r.inc], .int .i64 er]) (by simp [results, Try.results129, go_sem, rb.cell]) rfl ?_
        exact retS_store FN.out HA5.out (by omega) hs0 HI5.out BW.out
      · have hfa2 : nth a.vals (a.vals.length - 1) = inf := HA.out.fin_or.resolve_left hfa'
        have hfa : (nth a.vals (n - 1) != inf) = false := by rw [bne_eq_false_iff_eq, ← HL1.out]; exact hfa2
        have HFA := Lib.hid hfa'
        clear hfa' hfa2 hfin
        go_wp2_with fail
        refine (finite_any A n c a.per a.inc a.vals _ (by exact FA.out.ints) (by omega) (by omega)).mono ?_
        rw [hfa]
        rintro e w4 ⟨rfl, hbq⟩
        have FA := Lib.hid (FA.out.below hbq); have FB := Lib.hid (FB.out.below hbq); have QB := Lib.hid (QB.out.below hbq QB.out.lt); have RB := Lib.hid (RB.out.below hbq RB.out.lt); have BW := Lib.hid (bthen BW.out hbq)
        clear hbq
        clear a0 a1 a2 hla b0 b1 b2 hlb q0 hlq
        clear r0 r1 r2 y0 y1 y2 hlr
        obtain ⟨a0, a1, a2, hla⟩ := FA.out.cells
        obtain ⟨b0, b1, b2, hlb⟩ := FB.out.cells
        have q0 := QB.out.cell 0
        simp at q0
        have hlq := QB.out.lt
        obtain ⟨⟨r0, r1, r2⟩, ⟨y0, y1, y2⟩, hlr⟩ := RB.out.c3
        -- true flag choose1min_any choose1
        go_wp2_with fail
        refine (choose1min_any _ F G _ A n c a B m d b S _ (by exact FA.out) (by exact FB.out) (by exact QB.out) HA.out HB.out (by omega)).mono ?_
        obtain ⟨v, hv⟩ : ∃ v, v = exV true a b S := ⟨_, rfl⟩
        rw [← hv]
        rintro e w4 ⟨rfl, hbq⟩
        have HV := Lib.hid hv
        clear hv
        have FA := Lib.hid (FA.out.below hbq); have FB := Lib.hid (FB.out.below hbq); have QB := Lib.hid (QB.out.below hbq QB.out.lt); have RB := Lib.hid (RB.out.below hbq RB.out.lt); have BW := Lib.hid (bthen BW.out hbq)
        clear hbq
        clear a0 a1 a2 hla b0 b1 b2 hlb q0 hlq
        clear r0 r1 r2 y0 y1 y2 hlr
        obtain ⟨a0, a1, a2, hla⟩ := FA.out.cells
        obtain ⟨b0, b1, b2, hlb⟩ := FB.out.cells
        have q0 := QB.out.cell 0
        simp at q0
        have hlq := QB.out.lt
        obtain ⟨⟨r0, r1, r2⟩, ⟨y0, y1, y2⟩, hlr⟩ := RB.out.c3
        by_cases hvi : v = 4611686018427387904
        · have d1 : (v == 4611686018427387904) = true := by simpa using hvi
          have HVI := Lib.hid (show exV true a b S = inf from by rw [← HV.out]; exact hvi)
          clear hvi
          go_wp2_with fail
          -- true flag choose1min_any choose1 S start 1 period 0 increment ex_build HA.out HB.out (s := S) (p := 1) (i := 0) (by omega) (by omega) (fun hne => absurd HVI.out (hne S (by omega))): what FN is made of
          refine (build_any 158 #[.pointer (some ⟨w.heap.size + 1 + 1, 0, none⟩), .pointer (some ⟨F, 0, none⟩), .pointer (some ⟨G, 0, none⟩)] S 1 0 (exV true a b) _ (by omega) (by omega) (by omega) (by omega) (by omega) (by omega) (by exact fun k hk => HVAL.out k (by omega)) (by exact fun t w1 ht hb => choose1min_any _ F G _ A n c a B m d b t w1 (FA.out.below hb) (FB.out.below hb) (QB.out.below hb QB.out.lt) HA.out HB.out (by omega)) (fun x w => by kernel_rfl)).mono ?_
          rintro e w5 ⟨r, er, hS, A5, n5, c5, rfl, hI5, hA5, hbq⟩
          have FN := Lib.hid (EXT.out _ _ (ex_build HA.out HB.out (s := S) (p := 1) (i := 0) (by omega) (by omega) (fun hne => absurd HVI.out (hne S (by omega))) hS))
          have hs0 := RB.out.lt
          have HI5 := Lib.hid hI5; have HA5 := Lib.hid hA5
          clear hS hI5 hA5
          have FA := Lib.hid (FA.out.below hbq); have FB := Lib.hid (FB.out.below hbq); have QB := Lib.hid (QB.out.below hbq QB.out.lt); have RB := Lib.hid (RB.out.below hbq RB.out.lt); have BW := Lib.hid (bthen BW.out hbq)
          clear hbq
          clear a0 a1 a2 hla b0 b1 b2 hlb q0 hlq
          clear r0 r1 r2 y0 y1 y2 hlr
          obtain ⟨a0, a1, a2, hla⟩ := FA.out.cells
          obtain ⟨b0, b1, b2, hlb⟩ := FB.out.cells
          have q0 := QB.out.cell 0
          simp at q0
          have hlq := QB.out.lt
          obtain ⟨⟨r0, r1, r2⟩, ⟨y0, y1, y2⟩, hlr⟩ := RB.out.c3
          go_wp2_with fail
          have rb := RB.out.store3 (.slice A5 n5 c5) (.int .i64 r.per) (.int .i64 r.inc)
          refine bodyPost_ret (v := .tuple #[.agg #[(.slice A5 n5 c5), .int .i64 r.per, .int .i64 r.inc], .int .i64 er]) (by simp [results, Try.results129, go_sem, rb.cell]) rfl ?_
          exact retS_store FN.out HA5.out (by omega) hs0 HI5.out BW.out
        have d1 : (v == 4611686018427387904) = false := by simpa using hvi
        have ONE := Lib.hid (exV_one (l := true) HA.out HB.out HNF.out (by rw [← HS.out, ← HV.out]; exact hvi))
        clear hvi
        go_upto_region 10 with fail
        -- a new variable with the curve a; the world at hand is w4
        have ZB := Lib.hid (Bz.mk (L := L) (c := c) (f := a) (Blk.new w4 46 #[.slice A n c, .int .i64 a.per, .int .i64 a.inc]) ((FA.out.ints).alloc' _) FA.out.lo)
        have hAZ := FA.out.ints.blk_lt (by omega)
        have hBZ := FB.out.ints.blk_lt (by omega)
        have hFZ := FA.out.lt
        have hGZ := FB.out.lt
        have hQZ := QB.out.lt
        have hRZ := RB.out.lt
        have hbq := balloc w4 (.cells #[.slice A n c, .int .i64 a.per, .int .i64 a.inc] 46)
        have FA := Lib.hid (FA.out.below hbq); have FB := Lib.hid (FB.out.below hbq); have QB := Lib.hid (QB.out.below hbq QB.out.lt); have RB := Lib.hid (RB.out.below hbq RB.out.lt); have BW := Lib.hid (bthen BW.out hbq)
        clear hbq
        clear a0 a1 a2 hla b0 b1 b2 hlb q0 hlq
        clear r0 r1 r2 y0 y1 y2 hlr
        generalize hwe : w4.alloc (.cells #[.slice A n c, .int .i64 a.per, .int .i64 a.inc] 46) = we at *
        clear hwe
        generalize w4.heap.size = Z at *
        have PB := Lib.hid (show b.Fin ∧ ∀ t, S ≤ t → exV true a b t = b.at t from by
          rcases ONE.out with ⟨h, _⟩ | ⟨_, h1, h2⟩
          · exact absurd h HFA.out
          · rw [HS.out]; exact ⟨h1, h2⟩)
        -- Finite(a) with the new variable at hand
        obtain ⟨a0, a1, a2, hla⟩ := FA.out.cells
        obtain ⟨b0, b1, b2, hlb⟩ := FB.out.cells
        have q0 := QB.out.cell 0
        simp at q0
        have hlq := QB.out.lt
        go_wp2_with fail
        refine (finite_any A n c a.per a.inc a.vals _ (by exact FA.out.ints) (by omega) (by omega)).mono ?_
        rw [hfa]
        rintro e w4 ⟨rfl, hbq⟩
        have ZB := Lib.hid (ZB.out.below hbq)
        have FA := Lib.hid (FA.out.below hbq); have FB := Lib.hid (FB.out.below hbq); have QB := Lib.hid (QB.out.below hbq QB.out.lt); have RB := Lib.hid (RB.out.below hbq RB.out.lt); have BW := Lib.hid (bthen BW.out hbq)
        clear hbq
        clear a0 a1 a2 hla b0 b1 b2 hlb q0 hlq
        obtain ⟨⟨l0, l1, l2⟩, ⟨k0, k1, k2⟩, hlz⟩ := ZB.out.blk.c3
        obtain ⟨a0, a1, a2, hla⟩ := FA.out.cells
        obtain ⟨b0, b1, b2, hlb⟩ := FB.out.cells
        have q0 := QB.out.cell 0
        simp at q0
        have hlq := QB.out.lt
        obtain ⟨⟨r0, r1, r2⟩, ⟨y0, y1, y2⟩, hlr⟩ := RB.out.c3
        go_upto_region 12 with fail
        clear l0 l1 l2 k0 k1 k2 hlz
        clear a0 a1 a2 hla b0 b1 b2 hlb q0 hlq
        clear r0 r1 r2 y0 y1 y2 hlr
        -- the curve b is stored to the new variable; the world at hand is w4
        have st := Sto.three Z w4 (.slice B m d) (.int .i64 b.per) (.int .i64 b.inc)
        have ZB := Lib.hid (Bz.putN (c := d) ZB.out.blk FB.out.ints FB.out.lo hBZ)
        have FA := Lib.hid (FA.out.stoN st (by omega) hAZ); have FB := Lib.hid (FB.out.stoN st (by omega) hBZ); have QB := Lib.hid (QB.out.sto st (by omega)); have RB := Lib.hid (RB.out.sto st (by omega)); have BW := Lib.hid (bsto BW.out st (by omega))
        clear st
        generalize hwe : ((w4.setCell ⟨Z, 0, none⟩ (.slice B m d)).setCell ⟨Z, 1, none⟩ (.int .i64 b.per)).setCell ⟨Z, 2, none⟩ (.int .i64 b.inc) = wf at *
        clear hwe
        obtain ⟨l0, l1, l2, hlz⟩ := ZB.out.cells
        obtain ⟨a0, a1, a2, hla⟩ := FA.out.cells
        obtain ⟨b0, b1, b2, hlb⟩ := FB.out.cells
        have q0 := QB.out.cell 0
        simp at q0
        have hlq := QB.out.lt
        obtain ⟨⟨r0, r1, r2⟩, ⟨y0, y1, y2⟩, hlr⟩ := RB.out.c3
        go_wp2_with fail
        -- true flag choose1min_any choose1 S start b.per period b.inc increment ex_build HA.out HB.out (s := S) (p := b.per.toNat) (i := b.inc) (by omega) (by omega) (fun _ t ht => by rw [PB.out.2 t ht, PB.out.2 _ (by omega)]; exact PB.out.1.toL.step t (by have h1 := (ord_b HA.out HB.out).gs; rw [← HS.out] at h1; omega)): what FN is made of
        refine (build_any 158 #[.pointer (some ⟨w.heap.size + 1 + 1, 0, none⟩), .pointer (some ⟨F, 0, none⟩), .pointer (some ⟨G, 0, none⟩)] S b.per b.inc (exV true a b) _ (by omega) (by omega) (by omega) (by omega) (by omega) (by omega) (by exact fun k hk => HVAL.out k (by omega)) (by exact fun t w1 ht hb => choose1min_any _ F G _ A n c a B m d b t w1 (FA.out.below hb) (FB.out.below hb) (QB.out.below hb QB.out.lt) HA.out HB.out (by omega)) (fun x w => by kernel_rfl)).mono ?_
        rintro e w5 ⟨r, er, hS, A5, n5, c5, rfl, hI5, hA5, hbq⟩
        have FN := Lib.hid (EXT.out _ _ (ex_build HA.out HB.out (s := S) (p := b.per.toNat) (i := b.inc) (by omega) (by omega) (fun _ t ht => by rw [PB.out.2 t ht, PB.out.2 _ (by omega)]; exact PB.out.1.toL.step t (by have h1 := (ord_b HA.out HB.out).gs; rw [← HS.out] at h1; omega)) hS))
        have hs0 := RB.out.lt
        have HI5 := Lib.hid hI5; have HA5 := Lib.hid hA5
        clear hS hI5 hA5
        have FA := Lib.hid (FA.out.below hbq); have FB := Lib.hid (FB.out.below hbq); have QB := Lib.hid (QB.out.below hbq QB.out.lt); have RB := Lib.hid (RB.out.below hbq RB.out.lt); have BW := Lib.hid (bthen BW.out hbq)
        clear hbq
        clear a0 a1 a2 hla b0 b1 b2 hlb q0 hlq
        clear r0 r1 r2 y0 y1 y2 hlr
        obtain ⟨a0, a1, a2, hla⟩ := FA.out.cells
        obtain ⟨b0, b1, b2, hlb⟩ := FB.out.cells
        have q0 := QB.out.cell 0
        simp at q0
        have hlq := QB.out.lt
        obtain ⟨⟨r0, r1, r2⟩, ⟨y0, y1, y2⟩, hlr⟩ := RB.out.c3
        go_wp2_with fail
        have rb := RB.out.store3 (.slice A5 n5 c5) (.int .i64 r.per) (.int .i64 r.inc)
        refine bodyPost_ret (v := .tuple #[.agg #[(.slice A5 n5 c5), .int .i64 r.per, .int .i64 r.inc], .int .i64 er]) (by simp [results, Try.results129, go_sem, rb.cell]) rfl ?_
        exact retS_store FN.out HA5.out (by omega) hs0 HI5.out BW.out
end Go.Proofs.Ythdibkmjoiipgaa
namespace Go.Proofs.Ythdibkmjoiipgaa
open Go.RowKit
set_option linter.unusedVariables false
-- false flag, netcalculus/pointwise.Maximum$1 pick, netcalculus/pointwise.Maximum$2 first, pmax2_any first's contract, choose1max_any choose1's contract, chooseMax_any the name
set_option maxHeartbeats 4000000 in
set_option maxRecDepth 100000 in
theorem chooseMax_any (A0 B0 : Option Addr) (n0 m0 c0 d0 : Nat) (p i q j : Int) (xs ys : List Int) (w : World) (hA : Ints w w.heap.size A0 n0 xs) (hB : Ints w w.heap.size B0 m0 ys) (hn : (n0 : Int) ≤ 1000000) (hm : (m0 : Int) ≤ 1000000) :
    Calls Try.prog 129 #[.agg #[.slice A0 n0 c0, .int .i64 p, .int .i64 i], .agg #[.slice B0 m0 d0, .int .i64 q, .int .i64 j], .func (.func 151) #[] #[], .func (.func 152) #[] #[]] w (RetS (ExtS false ⟨xs, p, i⟩ ⟨ys, q, j⟩) w) := by
  have P := Lib.hid (((PT.new (c := c0) (p := p) (i := i) (d := d0) (q := q) (j := j) hA hB).alloc (.cells #[.func (.func 151) #[] #[]] 101)).alloc (.cells #[.slice none 0 0, .int .i64 0, .int .i64 0] 46))
  have qb := (Blk.new ((w.alloc (.cells #[.slice A0 n0 c0, .int .i64 p, .int .i64 i] 46)).alloc (.cells #[.slice B0 m0 d0, .int .i64 q, .int .i64 j] 46)) 101 #[.func (.func 151) #[] #[]]).alloc (.cells #[.slice none 0 0, .int .i64 0, .int .i64 0] 46)
  have rb := Blk.new (((w.alloc (.cells #[.slice A0 n0 c0, .int .i64 p, .int .i64 i] 46)).alloc (.cells #[.slice B0 m0 d0, .int .i64 q, .int .i64 j] 46)).alloc (.cells #[.func (.func 151) #[] #[]] 101)) 46 #[.slice none 0 0, .int .i64 0, .int .i64 0]
  rw [World.size_alloc, World.size_alloc] at qb
  rw [World.size_alloc, World.size_alloc, World.size_alloc] at rb
  have QB := Lib.hid qb; have RB := Lib.hid rb
  clear hA hB rb qb
  go_enter Try.func129, Try.ntmps129
  go_wp2_with fail
  refine (pboth_any A0 B0 n0 m0 c0 d0 p i q j xs ys _ P.out.ia P.out.ib hn hm).mono ?_
  rintro e w1 hret
  rcases hret with ⟨er, hbad, rfl, hb⟩ | ⟨hf, hg, a, b, A, n, c, B, m, d, hna, hnb, hao, hbo, hc, rfl, hI1, hI2, hA1, hA2, hb⟩
  · have hs0 := (RB.out.below hb RB.out.lt).lt
    have hne := hbad.ne
    have F9 := Lib.hid (show ExtS false ⟨xs, p, i⟩ ⟨ys, q, j⟩ Cv.none er from hbad.to)
    replace RB := Lib.hid (((RB.out.below hb RB.out.lt).alloc (.cells #[.slice none 0 0, .int .i64 0, .int .i64 0] 46)).alloc (.cells #[.slice none 0 0, .int .i64 0, .int .i64 0] 46))
    have bw := bthen (bthen (bthen P.out.bw hb) (balloc _ (.cells #[.slice none 0 0, .int .i64 0, .int .i64 0] 46))) (balloc _ (.cells #[.slice none 0 0, .int .i64 0, .int .i64 0] 46))
    clear hbad hb P QB
    unfold zc
    go_upto_region 2 with fail
    obtain ⟨⟨r0, r1, r2⟩, ⟨y0, y1, y2⟩, hlr⟩ := RB.out.c3
    go_wp2_with fail
    have rb := RB.out.store3 (.slice none 0 0) (.int .i64 0) (.int .i64 0)
    refine bodyPost_ret (v := .tuple #[.agg #[(.slice none 0 0), .int .i64 0, .int .i64 0], .int .i64 er]) (by simp [results, Try.results129, go_sem, rb.cell]) rfl ?_
    exact retS_none F9.out (bst3 bw (by omega) _ _ _)
  · have hs0 := (RB.out.below hb RB.out.lt).lt
    obtain ⟨L, hL⟩ : ∃ L, L = w.heap.size + 1 + 1 + 1 + 1 := ⟨_, rfl⟩
    have F1 := Lib.hid (Bz.mk (L := L) (c := c) (f := a) (Blk.new w1 46 #[.slice A n c, .int .i64 a.per, .int .i64 a.inc]) (hI1.alloc' _) (fun b off s e => by have := hA1 b off s e; simp at this; omega))
    have F2 := Lib.hid (Bz.mk (L := L) (c := d) (f := b) (Blk.new (w1.alloc (.cells #[.slice A n c, .int .i64 a.per, .int .i64 a.inc] 46)) 46 #[.slice B m d, .int .i64 b.per, .int .i64 b.inc]) ((hI2.alloc' _).alloc' _) (fun b off s e => by have := hA2 b off s e; simp at this; omega))
    replace RB := Lib.hid (((RB.out.below hb RB.out.lt).alloc (.cells #[.slice A n c, .int .i64 a.per, .int .i64 a.inc] 46)).alloc (.cells #[.slice B m d, .int .i64 b.per, .int .i64 b.inc] 46))
    replace QB := Lib.hid (((QB.out.below hb QB.out.lt).alloc (.cells #[.slice A n c, .int .i64 a.per, .int .i64 a.inc] 46)).alloc (.cells #[.slice B m d, .int .i64 b.per, .int .i64 b.inc] 46))
    have BW := Lib.hid (bthen (bthen (bthen P.out.bw hb) (balloc _ (.cells #[.slice A n c, .int .i64 a.per, .int .i64 a.inc] 46))) (balloc _ (.cells #[.slice B m d, .int .i64 b.per, .int .i64 b.inc] 46)))
    have hl1 : a.vals.length = n := hI1.1
    have hl2 : b.vals.length = m := hI2.1
    have ob := ord_b hao hbo
    have FB := Lib.hid F2.out
    have FA := Lib.hid (F1.out.alloc (.cells #[.slice B m d, .int .i64 b.per, .int .i64 b.inc] 46))
    rw [World.size_alloc] at FB
    clear F1 F2 hb P hI1 hI2 hA1 hA2
    go_upto_region 5 with fail
    generalize hwz : (w1.alloc (.cells #[.slice A n c, .int .i64 a.per, .int .i64 a.inc] 46)).alloc (.cells #[.slice B m d, .int .i64 b.per, .int .i64 b.inc] 46) = wz at *
    clear hwz
    obtain ⟨F, hFe⟩ : ∃ F, F = w1.heap.size := ⟨_, rfl⟩
    obtain ⟨G, hGe⟩ : ∃ G, G = F + 1 := ⟨_, rfl⟩
    rw [← hFe, ← hGe] at FB
    rw [← hFe] at FA
    rw [← hFe, ← hGe]
    have hne1 : w.heap.size + 1 + 1 + 1 ≠ F := by omega
    have hne2 : w.heap.size + 1 + 1 + 1 ≠ G := by omega
    have hne3 : w.heap.size + 1 + 1 ≠ F := by omega
    have hne4 : w.heap.size + 1 + 1 ≠ G := by omega
    have HLL := Lib.hid hL
    clear hFe hGe hs0 hL
    have ha1 := hao.n1; have ha2 := hao.n2; have hap := hao.p1; have hap2 := hao.p2; have hai := hao.i1; have hai2 := hao.i2; have hapn := hao.pn
    rw [hl1] at ha1 ha2 hapn
    have hb1 := hbo.n1; have hb2 := hbo.n2; have hbp := hbo.p1; have hbp2 := hbo.p2; have hbi := hbo.i1; have hbi2 := hbo.i2; have hbpn := hbo.pn
    rw [hl2] at hb1 hb2 hbpn
    obtain ⟨C, hC⟩ : ∃ C, C = ordC a b := ⟨_, rfl⟩
    obtain ⟨S, hS⟩ : ∃ S, S = ordF a b := ⟨_, rfl⟩
    obtain ⟨GA, hGA⟩ : ∃ GA : Int, GA = gnA a b := ⟨_, rfl⟩
    obtain ⟨GB, hGB⟩ : ∃ GB : Int, GB = gnB a b := ⟨_, rfl⟩
    have hmx : (if (n : Int) - a.per < (m : Int) - b.per then (m : Int) - b.per else (n : Int) - a.per) = (S : Int) := by
      rw [hS]; unfold ordF; rw [hl1, hl2]; split <;> omega
    have hSb : (S : Int) ≤ 400 := by rw [hS]; unfold ordF; rw [hl1, hl2]; omega
    have hCb : (C : Int) ≤ 120 := by rw [hC]; omega
    have hC1 : 1 ≤ C := by rw [hC]; exact ob.c1
    have hga := ob.a1; have hgb := ob.a2
    have eGA : ((((C : Nat) : Int).toNat / a.per.toNat : Nat) : Int) * a.inc = GA := by rw [hGA, hC, Int.toNat_natCast]; rfl
    have eGB : ((((C : Nat) : Int).toNat / b.per.toNat : Nat) : Int) * b.inc = GB := by rw [hGB, hC, Int.toNat_natCast]; rfl
    have hGAb : 0 ≤ GA ∧ GA ≤ 128849018880 := by rw [hGA]; exact hga
    have hGBb : 0 ≤ GB ∧ GB ≤ 128849018880 := by rw [hGB]; exact hgb
    obtain ⟨hGA0, hGA1⟩ := hGAb
    obtain ⟨hGB0, hGB1⟩ := hGBb
    rw [← hC]
    have EXT := Lib.hid (show ∀ r er, MadeL (exV false a b) r er → ExtS false ⟨xs, p, i⟩ ⟨ys, q, j⟩ r er from fun r er h => .inr ⟨hf, hg, a, b, hna, hnb, .inr ⟨hc, h⟩⟩)
    have HVAL := Lib.hid (show ∀ k : Nat, (k : Int) < 1000 → 0 ≤ exV false a b k ∧ exV false a b k ≤ 4611686018427387904 from fun k hk => exV_small hao hbo (by omega))
    have HA := Lib.hid hao; have HB := Lib.hid hbo
    have HC := Lib.hid hC; have HS := Lib.hid hS; have HGA := Lib.hid hGA; have HGB := Lib.hid hGB; have HL1 := Lib.hid hl1; have HL2 := Lib.hid hl2
    clear hf hg hna hnb hao hbo hc hl1 hl2 ob hC hS hGA hGB hga hgb
    obtain ⟨⟨r0, r1, r2⟩, ⟨y0, y1, y2⟩, hlr⟩ := RB.out.c3
    obtain ⟨a0, a1, a2, hla⟩ := FA.out.cells
    obtain ⟨b0, b1, b2, hlb⟩ := FB.out.cells
    have q0 := QB.out.cell 0
    simp at q0
    have hlq := QB.out.lt
    go_region_held3 (fun w' => w'.cell? ⟨F, 0, none⟩ = some (.slice A n c) ∧ w'.cell? ⟨F, 1, none⟩ = some (.int .i64 a.per) ∧ w'.cell? ⟨F, 2, none⟩ = some (.int .i64 a.inc) ∧ w'.cell? ⟨G, 0, none⟩ = some (.slice B m d) ∧ w'.cell? ⟨G, 1, none⟩ = some (.int .i64 b.per) ∧ w'.cell? ⟨G, 2, none⟩ = some (.int .i64 b.inc)) (first | go_keep)
      (first
        | (go_at_call_of 94 (Value.agg #[.slice A n c, .int .i64 a.per, .int .i64 a.inc])
           refine (start_any A n c a.per a.inc _ (by omega) (by omega) (by omega)).mono ?_
           rintro e w4 ⟨rfl, hbq⟩
           have hbq := bofdrew hbq
           have FA := Lib.hid (FA.out.below hbq); have FB := Lib.hid (FB.out.below hbq); have QB := Lib.hid (QB.out.below hbq QB.out.lt); have RB := Lib.hid (RB.out.below hbq RB.out.lt); have BW := Lib.hid (bthen BW.out hbq)
           clear hbq
           clear a0 a1 a2 hla b0 b1 b2 hlb q0 hlq
           obtain ⟨a0, a1, a2, hla⟩ := FA.out.cells
           obtain ⟨b0, b1, b2, hlb⟩ := FB.out.cells
           have q0 := QB.out.cell 0
           simp at q0
           have hlq := QB.out.lt
           skip)
        | (go_at_call_of 94 (Value.agg #[.slice B m d, .int .i64 b.per, .int .i64 b.inc])
           refine (start_any B m d b.per b.inc _ (by omega) (by omega) (by omega)).mono ?_
           rintro e w4 ⟨rfl, hbq⟩
           have FA := Lib.hid (FA.out.below hbq); have FB := Lib.hid (FB.out.below hbq); have QB := Lib.hid (QB.out.below hbq QB.out.lt); have RB := Lib.hid (RB.out.below hbq RB.out.lt); have BW := Lib.hid (bthen BW.out hbq)
           clear hbq
           clear a0 a1 a2 hla b0 b1 b2 hlb q0 hlq
           obtain ⟨a0, a1, a2, hla⟩ := FA.out.cells
           obtain ⟨b0, b1, b2, hlb⟩ := FB.out.cells
           have q0 := QB.out.cell 0
           simp at q0
           have hlq := QB.out.lt
           skip))
    clear hmx
    clear r0 r1 r2 y0 y1 y2 hlr
    obtain ⟨⟨r0, r1, r2⟩, ⟨y0, y1, y2⟩, hlr⟩ := RB.out.c3
    by_cases hfin : a.Fin ∧ b.Fin
    · have hfa : (nth a.vals (n - 1) != inf) = true := by rw [bne_iff_ne, ← HL1.out]; exact hfin.1.2
      have hfb : (nth b.vals (m - 1) != inf) = true := by rw [bne_iff_ne, ← HL2.out]; exact hfin.2.2
      have HFIN := Lib.hid hfin
      clear hfin
      go_wp2_with fail
      refine (finite_any A n c a.per a.inc a.vals _ (by exact FA.out.ints) (by omega) (by omega)).mono ?_
      rw [hfa]
      rintro e w4 ⟨rfl, hbq⟩
      have FA := Lib.hid (FA.out.below hbq); have FB := Lib.hid (FB.out.below hbq); have QB := Lib.hid (QB.out.below hbq QB.out.lt); have RB := Lib.hid (RB.out.below hbq RB.out.lt); have BW := Lib.hid (bthen BW.out hbq)
      clear hbq
      clear a0 a1 a2 hla b0 b1 b2 hlb q0 hlq
      clear r0 r1 r2 y0 y1 y2 hlr
      obtain ⟨a0, a1, a2, hla⟩ := FA.out.cells
      obtain ⟨b0, b1, b2, hlb⟩ := FB.out.cells
      have q0 := QB.out.cell 0
      simp at q0
      have hlq := QB.out.lt
      obtain ⟨⟨r0, r1, r2⟩, ⟨y0, y1, y2⟩, hlr⟩ := RB.out.c3
      go_wp2_with fail
      refine (finite_any B m d b.per b.inc b.vals _ (by exact FB.out.ints) (by omega) (by omega)).mono ?_
      rw [hfb]
      rintro e w4 ⟨rfl, hbq⟩
      have FA := Lib.hid (FA.out.below hbq); have FB := Lib.hid (FB.out.below hbq); have QB := Lib.hid (QB.out.below hbq QB.out.lt); have RB := Lib.hid (RB.out.below hbq RB.out.lt); have BW := Lib.hid (bthen BW.out hbq)
      clear hbq
      clear a0 a1 a2 hla b0 b1 b2 hlb q0 hlq
      clear r0 r1 r2 y0 y1 y2 hlr
      obtain ⟨a0, a1, a2, hla⟩ := FA.out.cells
      obtain ⟨b0, b1, b2, hlb⟩ := FB.out.cells
      have q0 := QB.out.cell 0
      simp at q0
      have hlq := QB.out.lt
      obtain ⟨⟨r0, r1, r2⟩, ⟨y0, y1, y2⟩, hlr⟩ := RB.out.c3
      go_upto_region 13 with fail
      go_region_held3 (fun w' => w'.cell? ⟨F, 0, none⟩ = some (.slice A n c) ∧ w'.cell? ⟨F, 1, none⟩ = some (.int .i64 a.per) ∧ w'.cell? ⟨F, 2, none⟩ = some (.int .i64 a.inc) ∧ w'.cell? ⟨G, 0, none⟩ = some (.slice B m d) ∧ w'.cell? ⟨G, 1, none⟩ = some (.int .i64 b.per) ∧ w'.cell? ⟨G, 2, none⟩ = some (.int .i64 b.inc)) (first | go_keep)
        (first
          | (go_at_call_of 159 (Value.agg #[.slice A n c, .int .i64 a.per, .int .i64 a.inc])
             refine (pgain_any A n c a.per a.inc (C : Int) _ (by omega) (by omega) (by omega) (by omega) (by omega)).mono ?_
             rw [eGA]
             rintro e w4 ⟨rfl, hbq⟩
             have hbq := bofdrew hbq
             have FA := Lib.hid (FA.out.below hbq); have FB := Lib.hid (FB.out.below hbq); have QB := Lib.hid (QB.out.below hbq QB.out.lt); have RB := Lib.hid (RB.out.below hbq RB.out.lt); have BW := Lib.hid (bthen BW.out hbq)
             clear hbq
             clear a0 a1 a2 hla b0 b1 b2 hlb q0 hlq
             obtain ⟨a0, a1, a2, hla⟩ := FA.out.cells
             obtain ⟨b0, b1, b2, hlb⟩ := FB.out.cells
             have q0 := QB.out.cell 0
             simp at q0
             have hlq := QB.out.lt
             skip)
          | (go_at_call_of 159 (Value.agg #[.slice B m d, .int .i64 b.per, .int .i64 b.inc])
             refine (pgain_any B m d b.per b.inc (C : Int) _ (by omega) (by omega) (by omega) (by omega) (by omega)).mono ?_
             rw [eGB]
             rintro e w4 ⟨rfl, hbq⟩
             have FA := Lib.hid (FA.out.below hbq); have FB := Lib.hid (FB.out.below hbq); have QB := Lib.hid (QB.out.below hbq QB.out.lt); have RB := Lib.hid (RB.out.below hbq RB.out.lt); have BW := Lib.hid (bthen BW.out hbq)
             clear hbq
             clear a0 a1 a2 hla b0 b1 b2 hlb q0 hlq
             obtain ⟨a0, a1, a2, hla⟩ := FA.out.cells
             obtain ⟨b0, b1, b2, hlb⟩ := FB.out.cells
             have q0 := QB.out.cell 0
             simp at q0
             have hlq := QB.out.lt
             skip))
      clear eGA eGB
      clear r0 r1 r2 y0 y1 y2 hlr
      obtain ⟨⟨r0, r1, r2⟩, ⟨y0, y1, y2⟩, hlr⟩ := RB.out.c3
      by_cases hGG : GA = GB
      · have g1 : (GA == GB) = true := by simpa using hGG
        have HGG := Lib.hid hGG
        clear hGG
        go_wp2_with fail
        -- false flag choose1max_any choose1 S start C period GA increment ex_build HA.out HB.out (s := S) (p := C) (i := GA) (by omega) (by omega) (fun _ => by rw [HGA.out, HC.out]; exact exV_eq HFIN.out.1 HFIN.out.2 (by rw [← HGA.out, ← HGB.out]; exact HGG.out) (by rw [HS.out]; exact Nat.le_refl _)): what FN is made of
        refine (build_any 158 #[.pointer (some ⟨w.heap.size + 1 + 1, 0, none⟩), .pointer (some ⟨F, 0, none⟩), .pointer (some ⟨G, 0, none⟩)] S C GA (exV false a b) _ (by omega) (by omega) (by omega) (by omega) (by omega) (by omega) (by exact fun k hk => HVAL.out k (by omega)) (by exact fun t w1 ht hb => choose1max_any _ F G _ A n c a B m d b t w1 (FA.out.below hb) (FB.out.below hb) (QB.out.below hb QB.out.lt) HA.out HB.out (by omega)) (fun x w => by kernel_rfl)).mono ?_
        rintro e w5 ⟨r, er, hS, A5, n5, c5, rfl, hI5, hA5, hbq⟩
        have FN := Lib.hid (EXT.out _ _ (ex_build HA.out HB.out (s := S) (p := C) (i := GA) (by omega) (by omega) (fun _ => by rw [HGA.out, HC.out]; exact exV_eq HFIN.out.1 HFIN.out.2 (by rw [← HGA.out, ← HGB.out]; exact HGG.out) (by rw [HS.out]; exact Nat.le_refl _)) hS))
        have hs0 := RB.out.lt
        have HI5 := Lib.hid hI5; have HA5 := Lib.hid hA5
        clear hS hI5 hA5
        have FA := Lib.hid (FA.out.below hbq); have FB := Lib.hid (FB.out.below hbq); have QB := Lib.hid (QB.out.below hbq QB.out.lt); have RB := Lib.hid (RB.out.below hbq RB.out.lt); have BW := Lib.hid (bthen BW.out hbq)
        clear hbq
        clear a0 a1 a2 hla b0 b1 b2 hlb q0 hlq
        clear r0 r1 r2 y0 y1 y2 hlr
        obtain ⟨a0, a1, a2, hla⟩ := FA.out.cells
        obtain ⟨b0, b1, b2, hlb⟩ := FB.out.cells
        have q0 := QB.out.cell 0
        simp at q0
        have hlq := QB.out.lt
        obtain ⟨⟨r0, r1, r2⟩, ⟨y0, y1, y2⟩, hlr⟩ := RB.out.c3
        go_wp2_with fail
        have rb := RB.out.store3 (.slice A5 n5 c5) (.int .i64 r.per) (.int .i64 r.inc)
        refine bodyPost_ret (v := .tuple #[.agg #[(.slice A5 n5 c5), .int .i64 r.per, .int .i64 r.inc], .int .i64 er]) (by simp [results, Try.results129, go_sem, rb.cell]) rfl ?_
        exact retS_store FN.out HA5.out (by omega) hs0 HI5.out BW.out
      · have g1 : (GA == GB) = false := by simpa using hGG
        by_cases hfirst : firstS false GA GB
        · have LZ := Lib.hid (show LastZ false a b a C from by rw [HC.out]; exact LastZ.a HFIN.out.1 HFIN.out.2 (by rw [← HGA.out, ← HGB.out]; exact hfirst))
          have hfr := frB_true hfirst
          clear hfirst hGG
          go_upto_region 17 with fail
          -- a new variable with the curve a; the world at hand is w4
          have ZB := Lib.hid (Bz.mk (L := L) (c := c) (f := a) (Blk.new w4 46 #[.slice A n c, .int .i64 a.per, .int .i64 a.inc]) ((FA.out.ints).alloc' _) FA.out.lo)
          have hAZ := FA.out.ints.blk_lt (by omega)
          have hBZ := FB.out.ints.blk_lt (by omega)
          have hFZ := FA.out.lt
          have hGZ := FB.out.lt
          have hQZ := QB.out.lt
          have hRZ := RB.out.lt
          have hbq := balloc w4 (.cells #[.slice A n c, .int .i64 a.per, .int .i64 a.inc] 46)
          have FA := Lib.hid (FA.out.below hbq); have FB := Lib.hid (FB.out.below hbq); have QB := Lib.hid (QB.out.below hbq QB.out.lt); have RB := Lib.hid (RB.out.below hbq RB.out.lt); have BW := Lib.hid (bthen BW.out hbq)
          clear hbq
          clear a0 a1 a2 hla b0 b1 b2 hlb q0 hlq
          clear r0 r1 r2 y0 y1 y2 hlr
          generalize hwe : w4.alloc (.cells #[.slice A n c, .int .i64 a.per, .int .i64 a.inc] 46) = we at *
          clear hwe
          generalize w4.heap.size = Z at *
          go_wp2_with fail
          refine (pmax2_any GA GB _).mono ?_
          rw [hfr]
          rintro e w5 ⟨rfl, rfl⟩
          -- false flag choose1max_any choose1 ; z is a, its list A n c
          have hz1 := LZ.out.ok.n1; have hz2 := LZ.out.ok.n2; have hzp := LZ.out.ok.p1; have hzp2 := LZ.out.ok.p2; have hzi := LZ.out.ok.i1; have hzi2 := LZ.out.ok.i2; have hzpn := LZ.out.ok.pn
          have hlzz : a.vals.length = n := ZB.out.ints.1
          rw [hlzz] at hz1 hz2 hzpn
          clear hlzz
          go_wp2_with fail
          go_loopg [20] C (fun gg s20 wx => ∃ t : Nat, t + gg = 400 + C ∧ 400 ≤ t ∧ s20 = .int .i64 t ∧ (∀ u, 400 ≤ u → u < t → exV false a b u = a.at u) ∧ Bz L wx F A n c a ∧ Bz L wx G B m d b ∧ Blk wx (w.heap.size + 1 + 1) 101 #[.func (.func 151) #[] #[]] ∧ Blk wx (w.heap.size + 1 + 1 + 1) 46 #[.slice none 0 0, .int .i64 0, .int .i64 0] ∧ Below w.heap.size w wx ∧ Bz L wx Z A n c a)
          case atStart => exact ⟨400, by omega, by omega, rfl, fun u h1 h2 => by omega, FA.out, FB.out, QB.out, RB.out, BW.out, ZB.out⟩
          case round =>
            clear FA FB QB RB BW ZB
            obtain ⟨t, htg, ht4, rfl, hall, fa', fb', qb', rb', bw', zb'⟩ := hrel
            have FA := Lib.hid fa'; have FB := Lib.hid fb'; have QB := Lib.hid qb'; have RB := Lib.hid rb'; have BW := Lib.hid bw'; have ZB := Lib.hid zb'; have HALL := Lib.hid hall
            clear fa' fb' qb' rb' bw' zb' hall
            have e1 : IntKind.i64.wrap ((400 : Int) + (C : Int)) = (400 : Int) + (C : Int) := IntWalk.i64_in _ (by omega)
            by_cases htC : t < 400 + C
            · have hti : (t : Int) < 400 + (C : Int) := by omega
              obtain ⟨x, hx⟩ : ∃ x, x = exV false a b t := ⟨_, rfl⟩
              obtain ⟨y, hy⟩ : ∃ y, y = a.at t := ⟨_, rfl⟩
              have HX := Lib.hid hx; have HY := Lib.hid hy
              clear hx hy
              go_upto_region 22 with fail
              obtain ⟨l0, l1, l2, hlz⟩ := ZB.out.cells
              clear e1
              by_cases hxy : x = y
              · have d1 : (x != y) = false := by simp only [bne_eq_false_iff_eq]; exact hxy
                have HALL2 := Lib.hid (show ∀ u, 400 ≤ u → u < t + 1 → exV false a b u = a.at u from fun u h1 h2 => by
                  by_cases e : u = t
                  · rw [e, ← HX.out, ← HY.out]; exact hxy
                  · exact HALL.out u h1 (by omega))
                clear hxy
                go_region_held3 (fun w' => w'.cell? ⟨Z, 0, none⟩ = some (.slice A n c) ∧ w'.cell? ⟨Z, 1, none⟩ = some (.int .i64 a.per) ∧ w'.cell? ⟨Z, 2, none⟩ = some (.int .i64 a.inc)) (first | go_keep)
                  (first
                    | (go_at_call 158
                       refine (choose1max_any _ F G _ A n c a B m d b t _ (by exact FA.out.drew) (by exact FB.out.drew) (by exact QB.out.drew) HA.out HB.out (by omega)).mono ?_
                       rw [← HX.out]
                       rintro e w1 ⟨rfl, hbq⟩
                       have hbq := bofdrew hbq
                       have ZB := Lib.hid (ZB.out.below hbq)
                       have FA := Lib.hid (FA.out.below hbq); have FB := Lib.hid (FB.out.below hbq); have QB := Lib.hid (QB.out.below hbq QB.out.lt); have RB := Lib.hid (RB.out.below hbq RB.out.lt); have BW := Lib.hid (bthen BW.out hbq)
                       clear hbq
                       clear l0 l1 l2 hlz
                       obtain ⟨l0, l1, l2, hlz⟩ := ZB.out.cells
                       skip)
                    | (go_at_call 108
                       refine (at_any A n c a.per a.inc t a.vals _ (by exact ZB.out.ints) (by omega) hzp hzpn hzi (by omega) LZ.out.ok.nn (by omega) (by omega)).mono ?_
                       rw [Int.toNat_natCast, show Cv.at ⟨a.vals, a.per, a.inc⟩ t = y from HY.out.symm]
                       rintro e w1 ⟨rfl, hbq⟩
                       have ZB := Lib.hid (ZB.out.below hbq)
                       have FA := Lib.hid (FA.out.below hbq); have FB := Lib.hid (FB.out.below hbq); have QB := Lib.hid (QB.out.below hbq QB.out.lt); have RB := Lib.hid (RB.out.below hbq RB.out.lt); have BW := Lib.hid (bthen BW.out hbq)
                       clear hbq
                       clear l0 l1 l2 hlz
                       obtain ⟨l0, l1, l2, hlz⟩ := ZB.out.cells
                       skip))
                all_goals
                  go_wp2_with fail
                  go_roundg (gk - 1)
                  case measure => omega
                  case rel => exact ⟨t + 1, by omega, by omega, by go_num, HALL2.out, FA.out, FB.out, QB.out, RB.out, BW.out, ZB.out⟩
              · have d1 : (x != y) = true := by simp only [bne_iff_ne, ne_eq]; exact hxy
                have FN := Lib.hid (EXT.out _ _ (LZ.out.bad t ht4 (by rw [← HX.out, ← HY.out]; exact hxy)))
                clear hxy
                go_region_held3 (fun w' => w'.cell? ⟨Z, 0, none⟩ = some (.slice A n c) ∧ w'.cell? ⟨Z, 1, none⟩ = some (.int .i64 a.per) ∧ w'.cell? ⟨Z, 2, none⟩ = some (.int .i64 a.inc)) (first | go_keep)
                  (first
                    | (go_at_call 158
                       refine (choose1max_any _ F G _ A n c a B m d b t _ (by exact FA.out.drew) (by exact FB.out.drew) (by exact QB.out.drew) HA.out HB.out (by omega)).mono ?_
                       rw [← HX.out]
                       rintro e w1 ⟨rfl, hbq⟩
                       have hbq := bofdrew hbq
                       have ZB := Lib.hid (ZB.out.below hbq)
                       have FA := Lib.hid (FA.out.below hbq); have FB := Lib.hid (FB.out.below hbq); have QB := Lib.hid (QB.out.below hbq QB.out.lt); have RB := Lib.hid (RB.out.below hbq RB.out.lt); have BW := Lib.hid (bthen BW.out hbq)
                       clear hbq
                       clear l0 l1 l2 hlz
                       obtain ⟨l0, l1, l2, hlz⟩ := ZB.out.cells
                       skip)
                    | (go_at_call 108
                       refine (at_any A n c a.per a.inc t a.vals _ (by exact ZB.out.ints) (by omega) hzp hzpn hzi (by omega) LZ.out.ok.nn (by omega) (by omega)).mono ?_
                       rw [Int.toNat_natCast, show Cv.at ⟨a.vals, a.per, a.inc⟩ t = y from HY.out.symm]
                       rintro e w1 ⟨rfl, hbq⟩
                       have ZB := Lib.hid (ZB.out.below hbq)
                       have FA := Lib.hid (FA.out.below hbq); have FB := Lib.hid (FB.out.below hbq); have QB := Lib.hid (QB.out.below hbq QB.out.lt); have RB := Lib.hid (RB.out.below hbq RB.out.lt); have BW := Lib.hid (bthen BW.out hbq)
                       clear hbq
                       clear l0 l1 l2 hlz
                       obtain ⟨l0, l1, l2, hlz⟩ := ZB.out.cells
                       skip))
                all_goals
                  obtain ⟨⟨r0, r1, r2⟩, ⟨y0, y1, y2⟩, hlr⟩ := RB.out.c3
                  go_wp2_with fail
                  have rb := RB.out.store3 (.slice none 0 0) (.int .i64 0) (.int .i64 0)
                  refine bodyPost_ret (v := .tuple #[.agg #[(.slice none 0 0), .int .i64 0, .int .i64 0], .int .i64 3]) (by simp [results, Try.results129, go_sem, rb.cell]) rfl ?_
                  exact retS_none FN.out (bst3 BW.out (by omega) _ _ _)
            · have hti : ¬ (t : Int) < 400 + (C : Int) := by omega
              have hte : t = 400 + C := by omega
              have HGOOD := Lib.hid (LZ.out.good (fun u h1 h2 => HALL.out u h1 (by omega)))
              clear htC htg hte
              obtain ⟨l0, l1, l2, hlz⟩ := ZB.out.cells
              obtain ⟨a0, a1, a2, hla⟩ := FA.out.cells
              obtain ⟨b0, b1, b2, hlb⟩ := FB.out.cells
              have q0 := QB.out.cell 0
              simp at q0
              have hlq := QB.out.lt
              obtain ⟨⟨r0, r1, r2⟩, ⟨y0, y1, y2⟩, hlr⟩ := RB.out.c3
              go_wp2_with fail
              -- false flag choose1max_any choose1 400 start a.per period a.inc increment HGOOD.out _ _: what FN is made of
              refine (build_any 158 #[.pointer (some ⟨w.heap.size + 1 + 1, 0, none⟩), .pointer (some ⟨F, 0, none⟩), .pointer (some ⟨G, 0, none⟩)] 400 a.per a.inc (exV false a b) _ (by omega) (by omega) (by omega) (by omega) (by omega) (by omega) (by exact fun k hk => HVAL.out k (by omega)) (by exact fun t w1 ht hb => choose1max_any _ F G _ A n c a B m d b t w1 (FA.out.below hb) (FB.out.below hb) (QB.out.below hb QB.out.lt) HA.out HB.out (by omega)) (fun x w => by kernel_rfl)).mono ?_
              rintro e w5 ⟨r, er, hS, A5, n5, c5, rfl, hI5, hA5, hbq⟩
              have FN := Lib.hid (EXT.out _ _ (HGOOD.out _ _ hS))
              have hs0 := RB.out.lt
              have HI5 := Lib.hid hI5; have HA5 := Lib.hid hA5
              clear hS hI5 hA5
              have FA := Lib.hid (FA.out.below hbq); have FB := Lib.hid (FB.out.below hbq); have QB := Lib.hid (QB.out.below hbq QB.out.lt); have RB := Lib.hid (RB.out.below hbq RB.out.lt); have BW := Lib.hid (bthen BW.out hbq)
              clear hbq
              clear a0 a1 a2 hla b0 b1 b2 hlb q0 hlq
              clear r0 r1 r2 y0 y1 y2 hlr
              obtain ⟨a0, a1, a2, hla⟩ := FA.out.cells
              obtain ⟨b0, b1, b2, hlb⟩ := FB.out.cells
              have q0 := QB.out.cell 0
              simp at q0
              have hlq := QB.out.lt
              obtain ⟨⟨r0, r1, r2⟩, ⟨y0, y1, y2⟩, hlr⟩ := RB.out.c3
              go_wp2_with fail
              have rb := RB.out.store3 (.slice A5 n5 c5) (.int .i64 r.per) (.int .i64 r.inc)
              refine bodyPost_ret (v := .tuple #[.agg #[(.slice A5 n5 c5), .int .i64 r.per, .int .i64 r.inc], .int .i64 er]) (by simp [results, Try.results129, go_sem, rb.cell]) rfl ?_
              exact retS_store FN.out HA5.out (by omega) hs0 HI5.out BW.out
        · have LZ := Lib.hid (show LastZ false a b b C from by
            rw [HC.out]
            refine LastZ.b HFIN.out.1 HFIN.out.2 ?_
            rw [← HGA.out, ← HGB.out]
            unfold firstS at hfirst ⊢
            split at hfirst <;> rename_i hl
            · rw [if_pos hl]; omega
            · rw [if_neg hl]; omega)
          have hfr := frB_false hfirst
          clear hfirst hGG
          go_upto_region 17 with fail
          -- a new variable with the curve a; the world at hand is w4
          have ZB := Lib.hid (Bz.mk (L := L) (c := c) (f := a) (Blk.new w4 46 #[.slice A n c, .int .i64 a.per, .int .i64 a.inc]) ((FA.out.ints).alloc' _) FA.out.lo)
          have hAZ := FA.out.ints.blk_lt (by omega)
          have hBZ := FB.out.ints.blk_lt (by omega)
          have hFZ := FA.out.lt
          have hGZ := FB.out.lt
          have hQZ := QB.out.lt
          have hRZ := RB.out.lt
          have hbq := balloc w4 (.cells #[.slice A n c, .int .i64 a.per, .int .i64 a.inc] 46)
          have FA := Lib.hid (FA.out.below hbq); have FB := Lib.hid (FB.out.below hbq); have QB := Lib.hid (QB.out.below hbq QB.out.lt); have RB := Lib.hid (RB.out.below hbq RB.out.lt); have BW := Lib.hid (bthen BW.out hbq)
          clear hbq
          clear a0 a1 a2 hla b0 b1 b2 hlb q0 hlq
          clear r0 r1 r2 y0 y1 y2 hlr
          generalize hwe : w4.alloc (.cells #[.slice A n c, .int .i64 a.per, .int .i64 a.inc] 46) = we at *
          clear hwe
          generalize w4.heap.size = Z at *
          go_wp2_with fail
          refine (pmax2_any GA GB _).mono ?_
          rw [hfr]
          rintro e w5 ⟨rfl, rfl⟩
          obtain ⟨⟨l0, l1, l2⟩, ⟨k0, k1, k2⟩, hlz⟩ := ZB.out.blk.c3
          obtain ⟨a0, a1, a2, hla⟩ := FA.out.cells
          obtain ⟨b0, b1, b2, hlb⟩ := FB.out.cells
          have q0 := QB.out.cell 0
          simp at q0
          have hlq := QB.out.lt
          go_upto_region 19 with fail
          clear l0 l1 l2 k0 k1 k2 hlz
          clear a0 a1 a2 hla b0 b1 b2 hlb q0 hlq
          -- the curve b is stored to the new variable; the world at hand is we
          have st := Sto.three Z we (.slice B m d) (.int .i64 b.per) (.int .i64 b.inc)
          have ZB := Lib.hid (Bz.putN (c := d) ZB.out.blk FB.out.ints FB.out.lo hBZ)
          have FA := Lib.hid (FA.out.stoN st (by omega) hAZ); have FB := Lib.hid (FB.out.stoN st (by omega) hBZ); have QB := Lib.hid (QB.out.sto st (by omega)); have RB := Lib.hid (RB.out.sto st (by omega)); have BW := Lib.hid (bsto BW.out st (by omega))
          clear st
          generalize hwe : ((we.setCell ⟨Z, 0, none⟩ (.slice B m d)).setCell ⟨Z, 1, none⟩ (.int .i64 b.per)).setCell ⟨Z, 2, none⟩ (.int .i64 b.inc) = wf at *
          clear hwe
          -- false flag choose1max_any choose1 ; z is b, its list B m d
          have hz1 := LZ.out.ok.n1; have hz2 := LZ.out.ok.n2; have hzp := LZ.out.ok.p1; have hzp2 := LZ.out.ok.p2; have hzi := LZ.out.ok.i1; have hzi2 := LZ.out.ok.i2; have hzpn := LZ.out.ok.pn
          have hlzz : b.vals.length = m := ZB.out.ints.1
          rw [hlzz] at hz1 hz2 hzpn
          clear hlzz
          go_wp2_with fail
          go_loopg [20] C (fun gg s20 wx => ∃ t : Nat, t + gg = 400 + C ∧ 400 ≤ t ∧ s20 = .int .i64 t ∧ (∀ u, 400 ≤ u → u < t → exV false a b u = b.at u) ∧ Bz L wx F A n c a ∧ Bz L wx G B m d b ∧ Blk wx (w.heap.size + 1 + 1) 101 #[.func (.func 151) #[] #[]] ∧ Blk wx (w.heap.size + 1 + 1 + 1) 46 #[.slice none 0 0, .int .i64 0, .int .i64 0] ∧ Below w.heap.size w wx ∧ Bz L wx Z B m d b)
          case atStart => exact ⟨400, by omega, by omega, rfl, fun u h1 h2 => by omega, FA.out, FB.out, QB.out, RB.out, BW.out, ZB.out⟩
          case round =>
            clear FA FB QB RB BW ZB
            obtain ⟨t, htg, ht4, rfl, hall, fa', fb', qb', rb', bw', zb'⟩ := hrel
            have FA := Lib.hid fa'; have FB := Lib.hid fb'; have QB := Lib.hid qb'; have RB := Lib.hid rb'; have BW := Lib.hid bw'; have ZB := Lib.hid zb'; have HALL := Lib.hid hall
            clear fa' fb' qb' rb' bw' zb' hall
            have e1 : IntKind.i64.wrap ((400 : Int) + (C : Int)) = (400 : Int) + (C : Int) := IntWalk.i64_in _ (by omega)
            by_cases htC : t < 400 + C
            · have hti : (t : Int) < 400 + (C : Int) := by omega
              obtain ⟨x, hx⟩ : ∃ x, x = exV false a b t := ⟨_, rfl⟩
              obtain ⟨y, hy⟩ : ∃ y, y = b.at t := ⟨_, rfl⟩
              have HX := Lib.hid hx; have HY := Lib.hid hy
              clear hx hy
              go_upto_region 22 with fail
              obtain ⟨l0, l1, l2, hlz⟩ := ZB.out.cells
              clear e1
              by_cases hxy : x = y
              · have d1 : (x != y) = false := by simp only [bne_eq_false_iff_eq]; exact hxy
                have HALL2 := Lib.hid (show ∀ u, 400 ≤ u → u < t + 1 → exV false a b u = b.at u from fun u h1 h2 => by
                  by_cases e : u = t
                  · rw [e, ← HX.out, ← HY.out]; exact hxy
                  · exact HALL.out u h1 (by omega))
                clear hxy
                go_region_held3 (fun w' => w'.cell? ⟨Z, 0, none⟩ = some (.slice B m d) ∧ w'.cell? ⟨Z, 1, none⟩ = some (.int .i64 b.per) ∧ w'.cell? ⟨Z, 2, none⟩ = some (.int .i64 b.inc)) (first | go_keep)
                  (first
                    | (go_at_call 158
                       refine (choose1max_any _ F G _ A n c a B m d b t _ (by exact FA.out.drew) (by exact FB.out.drew) (by exact QB.out.drew) HA.out HB.out (by omega)).mono ?_
                       rw [← HX.out]
                       rintro e w1 ⟨rfl, hbq⟩
                       have hbq := bofdrew hbq
                       have ZB := Lib.hid (ZB.out.below hbq)
                       have FA := Lib.hid (FA.out.below hbq); have FB := Lib.hid (FB.out.below hbq); have QB := Lib.hid (QB.out.below hbq QB.out.lt); have RB := Lib.hid (RB.out.below hbq RB.out.lt); have BW := Lib.hid (bthen BW.out hbq)
                       clear hbq
                       clear l0 l1 l2 hlz
                       obtain ⟨l0, l1, l2, hlz⟩ := ZB.out.cells
                       skip)
                    | (go_at_call 108
                       refine (at_any B m d b.per b.inc t b.vals _ (by exact ZB.out.ints) (by omega) hzp hzpn hzi (by omega) LZ.out.ok.nn (by omega) (by omega)).mono ?_
                       rw [Int.toNat_natCast, show Cv.at ⟨b.vals, b.per, b.inc⟩ t = y from HY.out.symm]
                       rintro e w1 ⟨rfl, hbq⟩
                       have ZB := Lib.hid (ZB.out.below hbq)
                       have FA := Lib.hid (FA.out.below hbq); have FB := Lib.hid (FB.out.below hbq); have QB := Lib.hid (QB.out.below hbq QB.out.lt); have RB := Lib.hid (RB.out.below hbq RB.out.lt); have BW := Lib.hid (bthen BW.out hbq)
                       clear hbq
                       clear l0 l1 l2 hlz
                       obtain ⟨l0, l1, l2, hlz⟩ := ZB.out.cells
                       skip))
                all_goals
                  go_wp2_with fail
                  go_roundg (gk - 1)
                  case measure => omega
                  case rel => exact ⟨t + 1, by omega, by omega, by go_num, HALL2.out, FA.out, FB.out, QB.out, RB.out, BW.out, ZB.out⟩
              · have d1 : (x != y) = true := by simp only [bne_iff_ne, ne_eq]; exact hxy
                have FN := Lib.hid (EXT.out _ _ (LZ.out.bad t ht4 (by rw [← HX.out, ← HY.out]; exact hxy)))
                clear hxy
                go_region_held3 (fun w' => w'.cell? ⟨Z, 0, none⟩ = some (.slice B m d) ∧ w'.cell? ⟨Z, 1, none⟩ = some (.int .i64 b.per) ∧ w'.cell? ⟨Z, 2, none⟩ = some (.int .i64 b.inc)) (first | go_keep)
                  (first
                    | (go_at_call 158
                       refine (choose1max_any _ F G _ A n c a B m d b t _ (by exact FA.out.drew) (by exact FB.out.drew) (by exact QB.out.drew) HA.out HB.out (by omega)).mono ?_
                       rw [← HX.out]
                       rintro e w1 ⟨rfl, hbq⟩
                       have hbq := bofdrew hbq
                       have ZB := Lib.hid (ZB.out.below hbq)
                       have FA := Lib.hid (FA.out.below hbq); have FB := Lib.hid (FB.out.below hbq); have QB := Lib.hid (QB.out.below hbq QB.out.lt); have RB := Lib.hid (RB.out.below hbq RB.out.lt); have BW := Lib.hid (bthen BW.out hbq)
                       clear hbq
                       clear l0 l1 l2 hlz
                       obtain ⟨l0, l1, l2, hlz⟩ := ZB.out.cells
                       skip)
                    | (go_at_call 108
                       refine (at_any B m d b.per b.inc t b.vals _ (by exact ZB.out.ints) (by omega) hzp hzpn hzi (by omega) LZ.out.ok.nn (by omega) (by omega)).mono ?_
                       rw [Int.toNat_natCast, show Cv.at ⟨b.vals, b.per, b.inc⟩ t = y from HY.out.symm]
                       rintro e w1 ⟨rfl, hbq⟩
                       have ZB := Lib.hid (ZB.out.below hbq)
                       have FA := Lib.hid (FA.out.below hbq); have FB := Lib.hid (FB.out.below hbq); have QB := Lib.hid (QB.out.below hbq QB.out.lt); have RB := Lib.hid (RB.out.below hbq RB.out.lt); have BW := Lib.hid (bthen BW.out hbq)
                       clear hbq
                       clear l0 l1 l2 hlz
                       obtain ⟨l0, l1, l2, hlz⟩ := ZB.out.cells
                       skip))
                all_goals
                  obtain ⟨⟨r0, r1, r2⟩, ⟨y0, y1, y2⟩, hlr⟩ := RB.out.c3
                  go_wp2_with fail
                  have rb := RB.out.store3 (.slice none 0 0) (.int .i64 0) (.int .i64 0)
                  refine bodyPost_ret (v := .tuple #[.agg #[(.slice none 0 0), .int .i64 0, .int .i64 0], .int .i64 3]) (by simp [results, Try.results129, go_sem, rb.cell]) rfl ?_
                  exact retS_none FN.out (bst3 BW.out (by omega) _ _ _)
            · have hti : ¬ (t : Int) < 400 + (C : Int) := by omega
              have hte : t = 400 + C := by omega
              have HGOOD := Lib.hid (LZ.out.good (fun u h1 h2 => HALL.out u h1 (by omega)))
              clear htC htg hte
              obtain ⟨l0, l1, l2, hlz⟩ := ZB.out.cells
              obtain ⟨a0, a1, a2, hla⟩ := FA.out.cells
              obtain ⟨b0, b1, b2, hlb⟩ := FB.out.cells
              have q0 := QB.out.cell 0
              simp at q0
              have hlq := QB.out.lt
              obtain ⟨⟨r0, r1, r2⟩, ⟨y0, y1, y2⟩, hlr⟩ := RB.out.c3
              go_wp2_with fail
              -- false flag choose1max_any choose1 400 start b.per period b.inc increment HGOOD.out _ _: what FN is made of
              refine (build_any 158 #[.pointer (some ⟨w.heap.size + 1 + 1, 0, none⟩), .pointer (some ⟨F, 0, none⟩), .pointer (some ⟨G, 0, none⟩)] 400 b.per b.inc (exV false a b) _ (by omega) (by omega) (by omega) (by omega) (by omega) (by omega) (by exact fun k hk => HVAL.out k (by omega)) (by exact fun t w1 ht hb => choose1max_any _ F G _ A n c a B m d b t w1 (FA.out.below hb) (FB.out.below hb) (QB.out.below hb QB.out.lt) HA.out HB.out (by omega)) (fun x w => by kernel_rfl)).mono ?_
              rintro e w5 ⟨r, er, hS, A5, n5, c5, rfl, hI5, hA5, hbq⟩
              have FN := Lib.hid (EXT.out _ _ (HGOOD.out _ _ hS))
              have hs0 := RB.out.lt
              have HI5 := Lib.hid hI5; have HA5 := Lib.hid hA5
              clear hS hI5 hA5
              have FA := Lib.hid (FA.out.below hbq); have FB := Lib.hid (FB.out.below hbq); have QB := Lib.hid (QB.out.below hbq QB.out.lt); have RB := Lib.hid (RB.out.below hbq RB.out.lt); have BW := Lib.hid (bthen BW.out hbq)
              clear hbq
              clear a0 a1 a2 hla b0 b1 b2 hlb q0 hlq
              clear r0 r1 r2 y0 y1 y2 hlr
              obtain ⟨a0, a1, a2, hla⟩ := FA.out.cells
              obtain ⟨b0, b1, b2, hlb⟩ := FB.out.cells
              have q0 := QB.out.cell 0
              simp at q0
              have hlq := QB.out.lt
              obtain ⟨⟨r0, r1, r2⟩, ⟨y0, y1, y2⟩, hlr⟩ := RB.out.c3
              go_wp2_with fail
              have rb := RB.out.store3 (.slice A5 n5 c5) (.int .i64 r.per) (.int .i64 r.inc)
              refine bodyPost_ret (v := .tuple #[.agg #[(.slice A5 n5 c5), .int .i64 r.per, .int .i64 r.inc], .int .i64 er]) (by simp [results, Try.results129, go_sem, rb.cell]) rfl ?_
              exact retS_store FN.out HA5.out (by omega) hs0 HI5.out BW.out
    · have HNF := Lib.hid hfin
      by_cases hfa' : a.Fin
      · have hfb' : nth b.vals (b.vals.length - 1) = inf := HB.out.fin_or.resolve_left (fun h => hfin ⟨hfa', h⟩)
        have hfa : (nth a.vals (n - 1) != inf) = true := by rw [bne_iff_ne, ← HL1.out]; exact hfa'.2
        have hfb : (nth b.vals (m - 1) != inf) = false := by rw [bne_eq_false_iff_eq, ← HL2.out]; exact hfb'
        have HFA := Lib.hid hfa'
        clear hfa' hfb' hfin
        go_wp2_with fail
        refine (finite_any A n c a.per a.inc a.vals _ (by exact FA.out.ints) (by omega) (by omega)).mono ?_
        rw [hfa]
        rintro e w4 ⟨rfl, hbq⟩
        have FA := Lib.hid (FA.out.below hbq); have FB := Lib.hid (FB.out.below hbq); have QB := Lib.hid (QB.out.below hbq QB.out.lt); have RB := Lib.hid (RB.out.below hbq RB.out.lt); have BW := Lib.hid (bthen BW.out hbq)
        clear hbq
        clear a0 a1 a2 hla b0 b1 b2 hlb q0 hlq
        clear r0 r1 r2 y0 y1 y2 hlr
        obtain ⟨a0, a1, a2, hla⟩ := FA.out.cells
        obtain ⟨b0, b1, b2, hlb⟩ := FB.out.cells
        have q0 := QB.out.cell 0
        simp at q0
        have hlq := QB.out.lt
        obtain ⟨⟨r0, r1, r2⟩, ⟨y0, y1, y2⟩, hlr⟩ := RB.out.c3
        go_wp2_with fail
        refine (finite_any B m d b.per b.inc b.vals _ (by exact FB.out.ints) (by omega) (by omega)).mono ?_
        rw [hfb]
        rintro e w4 ⟨rfl, hbq⟩
        have FA := Lib.hid (FA.out.below hbq); have FB := Lib.hid (FB.out.below hbq); have QB := Lib.hid (QB.out.below hbq QB.out.lt); have RB := Lib.hid (RB.out.below hbq RB.out.lt); have BW := Lib.hid (bthen BW.out hbq)
        clear hbq
        clear a0 a1 a2 hla b0 b1 b2 hlb q0 hlq
        clear r0 r1 r2 y0 y1 y2 hlr
        obtain ⟨a0, a1, a2, hla⟩ := FA.out.cells
        obtain ⟨b0, b1, b2, hlb⟩ := FB.out.cells
        have q0 := QB.out.cell 0
        simp at q0
        have hlq := QB.out.lt
        obtain ⟨⟨r0, r1, r2⟩, ⟨y0, y1, y2⟩, hlr⟩ := RB.out.c3
        -- false flag choose1max_any choose1
        go_wp2_with fail
        refine (choose1max_any _ F G _ A n c a B m d b S _ (by exact FA.out) (by exact FB.out) (by exact QB.out) HA.out HB.out (by omega)).mono ?_
        obtain ⟨v, hv⟩ : ∃ v, v = exV false a b S := ⟨_, rfl⟩
        rw [← hv]
        rintro e w4 ⟨rfl, hbq⟩
        have HV := Lib.hid hv
        clear hv
        have FA := Lib.hid (FA.out.below hbq); have FB := Lib.hid (FB.out.below hbq); have QB := Lib.hid (QB.out.below hbq QB.out.lt); have RB := Lib.hid (RB.out.below hbq RB.out.lt); have BW := Lib.hid (bthen BW.out hbq)
        clear hbq
        clear a0 a1 a2 hla b0 b1 b2 hlb q0 hlq
        clear r0 r1 r2 y0 y1 y2 hlr
        obtain ⟨a0, a1, a2, hla⟩ := FA.out.cells
        obtain ⟨b0, b1, b2, hlb⟩ := FB.out.cells
        have q0 := QB.out.cell 0
        simp at q0
        have hlq := QB.out.lt
        obtain ⟨⟨r0, r1, r2⟩, ⟨y0, y1, y2⟩, hlr⟩ := RB.out.c3
        by_cases hvi : v = 4611686018427387904
        · have d1 : (v == 4611686018427387904) = true := by simpa using hvi
          have HVI := Lib.hid (show exV false a b S = inf from by rw [← HV.out]; exact hvi)
          clear hvi
          go_wp2_with fail
          -- false flag choose1max_any choose1 S start 1 period 0 increment ex_build HA.out HB.out (s := S) (p := 1) (i := 0) (by omega) (by omega) (fun hne => absurd HVI.out (hne S (by omega))): what FN is made of
          refine (build_any 158 #[.pointer (some ⟨w.heap.size + 1 + 1, 0, none⟩), .pointer (some ⟨F, 0, none⟩), .pointer (some ⟨G, 0, none⟩)] S 1 0 (exV false a b) _ (by omega) (by omega) (by omega) (by omega) (by omega) (by omega) (by exact fun k hk => HVAL.out k (by omega)) (by exact fun t w1 ht hb => choose1max_any _ F G _ A n c a B m d b t w1 (FA.out.below hb) (FB.out.below hb) (QB.out.below hb QB.out.lt) HA.out HB.out (by omega)) (fun x w => by kernel_rfl)).mono ?_
          rintro e w5 ⟨r, er, hS, A5, n5, c5, rfl, hI5, hA5, hbq⟩
          have FN := Lib.hid (EXT.out _ _ (ex_build HA.out HB.out (s := S) (p := 1) (i := 0) (by omega) (by omega) (fun hne => absurd HVI.out (hne S (by omega))) hS))
          have hs0 := RB.out.lt
          have HI5 := Lib.hid hI5; have HA5 := Lib.hid hA5
          clear hS hI5 hA5
          have FA := Lib.hid (FA.out.below hbq); have FB := Lib.hid (FB.out.below hbq); have QB := Lib.hid (QB.out.below hbq QB.out.lt); have RB := Lib.hid (RB.out.below hbq RB.out.lt); have BW := Lib.hid (bthen BW.out hbq)
          clear hbq
          clear a0 a1 a2 hla b0 b1 b2 hlb q0 hlq
          clear r0 r1 r2 y0 y1 y2 hlr
          obtain ⟨a0, a1, a2, hla⟩ := FA.out.cells
          obtain ⟨b0, b1, b2, hlb⟩ := FB.out.cells
          have q0 := QB.out.cell 0
          simp at q0
          have hlq := QB.out.lt
          obtain ⟨⟨r0, r1, r2⟩, ⟨y0, y1, y2⟩, hlr⟩ := RB.out.c3
          go_wp2_with fail
          have rb := RB.out.store3 (.slice A5 n5 c5) (.int .i64 r.per) (.int .i64 r.inc)
          refine bodyPost_ret (v := .tuple #[.agg #[(.slice A5 n5 c5), .int .i64 r.per, .int .i64 r.inc], .int .i64 er]) (by simp [results, Try.results129, go_sem, rb.cell]) rfl ?_
          exact retS_store FN.out HA5.out (by omega) hs0 HI5.out BW.out
        have d1 : (v == 4611686018427387904) = false := by simpa using hvi
        have ONE := Lib.hid (exV_one (l := false) HA.out HB.out HNF.out (by rw [← HS.out, ← HV.out]; exact hvi))
        clear hvi
        go_upto_region 10 with fail
        -- a new variable with the curve a; the world at hand is w4
        have ZB := Lib.hid (Bz.mk (L := L) (c := c) (f := a) (Blk.new w4 46 #[.slice A n c, .int .i64 a.per, .int .i64 a.inc]) ((FA.out.ints).alloc' _) FA.out.lo)
        have hAZ := FA.out.ints.blk_lt (by omega)
        have hBZ := FB.out.ints.blk_lt (by omega)
        have hFZ := FA.out.lt
        have hGZ := FB.out.lt
        have hQZ := QB.out.lt
        have hRZ := RB.out.lt
        have hbq := balloc w4 (.cells #[.slice A n c, .int .i64 a.per, .int .i64 a.inc] 46)
        have FA := Lib.hid (FA.out.below hbq); have FB := Lib.hid (FB.out.below hbq); have QB := Lib.hid (QB.out.below hbq QB.out.lt); have RB := Lib.hid (RB.out.below hbq RB.out.lt); have BW := Lib.hid (bthen BW.out hbq)
        clear hbq
        clear a0 a1 a2 hla b0 b1 b2 hlb q0 hlq
        clear r0 r1 r2 y0 y1 y2 hlr
        generalize hwe : w4.alloc (.cells #[.slice A n c, .int .i64 a.per, .int .i64 a.inc] 46) = we at *
        clear hwe
        generalize w4.heap.size = Z at *
        have PA := Lib.hid (show ∀ t, S ≤ t → exV false a b t = a.at t from by
          rcases ONE.out with ⟨_, h⟩ | ⟨h, _⟩
          · rw [HS.out]; exact h
          · exact absurd HFA.out h)
        -- Finite(a) with the new variable at hand
        obtain ⟨a0, a1, a2, hla⟩ := FA.out.cells
        obtain ⟨b0, b1, b2, hlb⟩ := FB.out.cells
        have q0 := QB.out.cell 0
        simp at q0
        have hlq := QB.out.lt
        go_wp2_with fail
        refine (finite_any A n c a.per a.inc a.vals _ (by exact FA.out.ints) (by omega) (by omega)).mono ?_
        rw [hfa]
        rintro e w4 ⟨rfl, hbq⟩
        have ZB := Lib.hid (ZB.out.below hbq)
        have FA := Lib.hid (FA.out.below hbq); have FB := Lib.hid (FB.out.below hbq); have QB := Lib.hid (QB.out.below hbq QB.out.lt); have RB := Lib.hid (RB.out.below hbq RB.out.lt); have BW := Lib.hid (bthen BW.out hbq)
        clear hbq
        clear a0 a1 a2 hla b0 b1 b2 hlb q0 hlq
        obtain ⟨l0, l1, l2, hlz⟩ := ZB.out.cells
        obtain ⟨a0, a1, a2, hla⟩ := FA.out.cells
        obtain ⟨b0, b1, b2, hlb⟩ := FB.out.cells
        have q0 := QB.out.cell 0
        simp at q0
        have hlq := QB.out.lt
        obtain ⟨⟨r0, r1, r2⟩, ⟨y0, y1, y2⟩, hlr⟩ := RB.out.c3
        go_wp2_with fail
        -- false flag choose1max_any choose1 S start a.per period a.inc increment ex_build HA.out HB.out (s := S) (p := a.per.toNat) (i := a.inc) (by omega) (by omega) (fun _ t ht => by rw [PA.out t ht, PA.out _ (by omega)]; exact HFA.out.toL.step t (by have h1 := (ord_b HA.out HB.out).fs; rw [← HS.out] at h1; omega)): what FN is made of
        refine (build_any 158 #[.pointer (some ⟨w.heap.size + 1 + 1, 0, none⟩), .pointer (some ⟨F, 0, none⟩), .pointer (some ⟨G, 0, none⟩)] S a.per a.inc (exV false a b) _ (by omega) (by omega) (by omega) (by omega) (by omega) (by omega) (by exact fun k hk => HVAL.out k (by omega)) (by exact fun t w1 ht hb => choose1max_any _ F G _ A n c a B m d b t w1 (FA.out.below hb) (FB.out.below hb) (QB.out.below hb QB.out.lt) HA.out HB.out (by omega)) (fun x w => by kernel_rfl)).mono ?_
        rintro e w5 ⟨r, er, hS, A5, n5, c5, rfl, hI5, hA5, hbq⟩
        have FN := Lib.hid (EXT.out _ _ (ex_build HA.out HB.out (s := S) (p := a.per.toNat) (i := a.inc) (by omega) (by omega) (fun _ t ht => by rw [PA.out t ht, PA.out _ (by omega)]; exact HFA.out.toL.step t (by have h1 := (ord_b HA.out HB.out).fs; rw [← HS.out] at h1; omega)) hS))
        have hs0 := RB.out.lt
        have HI5 := Lib.hid hI5; have HA5 := Lib.hid hA5
        clear hS hI5 hA5
        have FA := Lib.hid (FA.out.below hbq); have FB := Lib.hid (FB.out.below hbq); have QB := Lib.hid (QB.out.below hbq QB.out.lt); have RB := Lib.hid (RB.out.below hbq RB.out.lt); have BW := Lib.hid (bthen BW.out hbq)
        clear hbq
        clear a0 a1 a2 hla b0 b1 b2 hlb q0 hlq
        clear r0 r1 r2 y0 y1 y2 hlr
        obtain ⟨a0, a1, a2, hla⟩ := FA.out.cells
        obtain ⟨b0, b1, b2, hlb⟩ := FB.out.cells
        have q0 := QB.out.cell 0
        simp at q0
        have hlq := QB.out.lt
        obtain ⟨⟨r0, r1, r2⟩, ⟨y0, y1, y2⟩, hlr⟩ := RB.out.c3
        go_wp2_with fail
        have rb := RB.out.store3 (.slice A5 n5 c5) (.int .i64 r.per) (.int .i64 r.inc)
        refine bodyPost_ret (v := .tuple #[.agg #[(.slice A5 n5 c5), .int .i64 r.per, .int .i64 r.inc], .int .i64 er]) (by simp [results, Try.results129, go_sem, rb.cell]) rfl ?_
        exact retS_store FN.out HA5.out (by omega) hs0 HI5.out BW.out
      · have hfa2 : nth a.vals (a.vals.length - 1) = inf := HA.out.fin_or.resolve_left hfa'
        have hfa : (nth a.vals (n - 1) != inf) = false := by rw [bne_eq_false_iff_eq, ← HL1.out]; exact hfa2
        have HFA := Lib.hid hfa'
        clear hfa' hfa2 hfin
        go_wp2_with fail
        refine (finite_any A n c a.per a.inc a.vals _ (by exact FA.out.ints) (by omega) (by omega)).mono ?_
        rw [hfa]
        rintro e w4 ⟨rfl, hbq⟩
        have FA := Lib.hid (FA.out.below hbq); have FB := Lib.hid (FB.out.below hbq); have QB := Lib.hid (QB.out.below hbq QB.out.lt); have RB := Lib.hid (RB.out.below hbq RB.out.lt); have BW := Lib.hid (bthen BW.out hbq)
        clear hbq
        clear a0 a1 a2 hla b0 b1 b2 hlb q0 hlq
        clear r0 r1 r2 y0 y1 y2 hlr
        obtain ⟨a0, a1, a2, hla⟩ := FA.out.cells
        obtain ⟨b0, b1, b2, hlb⟩ := FB.out.cells
        have q0 := QB.out.cell 0
        simp at q0
        have hlq := QB.out.lt
        obtain ⟨⟨r0, r1, r2⟩, ⟨y0, y1, y2⟩, hlr⟩ := RB.out.c3
        -- false flag choose1max_any choose1
        go_wp2_with fail
        refine (choose1max_any _ F G _ A n c a B m d b S _ (by exact FA.out) (by exact FB.out) (by exact QB.out) HA.out HB.out (by omega)).mono ?_
        obtain ⟨v, hv⟩ : ∃ v, v = exV false a b S := ⟨_, rfl⟩
        rw [← hv]
        rintro e w4 ⟨rfl, hbq⟩
        have HV := Lib.hid hv
        clear hv
        have FA := Lib.hid (FA.out.below hbq); have FB := Lib.hid (FB.out.below hbq); have QB := Lib.hid (QB.out.below hbq QB.out.lt); have RB := Lib.hid (RB.out.below hbq RB.out.lt); have BW := Lib.hid (bthen BW.out hbq)
        clear hbq
        clear a0 a1 a2 hla b0 b1 b2 hlb q0 hlq
        clear r0 r1 r2 y0 y1 y2 hlr
        obtain ⟨a0, a1, a2, hla⟩ := FA.out.cells
        obtain ⟨b0, b1, b2, hlb⟩ := FB.out.cells
        have q0 := QB.out.cell 0
        simp at q0
        have hlq := QB.out.lt
        obtain ⟨⟨r0, r1, r2⟩, ⟨y0, y1, y2⟩, hlr⟩ := RB.out.c3
        by_cases hvi : v = 4611686018427387904
        · have d1 : (v == 4611686018427387904) = true := by simpa using hvi
          have HVI := Lib.hid (show exV false a b S = inf from by rw [← HV.out]; exact hvi)
          clear hvi
          go_wp2_with fail
          -- false flag choose1max_any choose1 S start 1 period 0 increment ex_build HA.out HB.out (s := S) (p := 1) (i := 0) (by omega) (by omega) (fun hne => absurd HVI.out (hne S (by omega))): what FN is made of
          refine (build_any 158 #[.pointer (some ⟨w.heap.size + 1 + 1, 0, none⟩), .pointer (some ⟨F, 0, none⟩), .pointer (some ⟨G, 0, none⟩)] S 1 0 (exV false a b) _ (by omega) (by omega) (by omega) (by omega) (by omega) (by omega) (by exact fun k hk => HVAL.out k (by omega)) (by exact fun t w1 ht hb => choose1max_any _ F G _ A n c a B m d b t w1 (FA.out.below hb) (FB.out.below hb) (QB.out.below hb QB.out.lt) HA.out HB.out (by omega)) (fun x w => by kernel_rfl)).mono ?_
          rintro e w5 ⟨r, er, hS, A5, n5, c5, rfl, hI5, hA5, hbq⟩
          have FN := Lib.hid (EXT.out _ _ (ex_build HA.out HB.out (s := S) (p := 1) (i := 0) (by omega) (by omega) (fun hne => absurd HVI.out (hne S (by omega))) hS))
          have hs0 := RB.out.lt
          have HI5 := Lib.hid hI5; have HA5 := Lib.hid hA5
          clear hS hI5 hA5
          have FA := Lib.hid (FA.out.below hbq); have FB := Lib.hid (FB.out.below hbq); have QB := Lib.hid (QB.out.below hbq QB.out.lt); have RB := Lib.hid (RB.out.below hbq RB.out.lt); have BW := Lib.hid (bthen BW.out hbq)
          clear hbq
          clear a0 a1 a2 hla b0 b1 b2 hlb q0 hlq
          clear r0 r1 r2 y0 y1 y2 hlr
          obtain ⟨a0, a1, a2, hla⟩ := FA.out.cells
          obtain ⟨b0, b1, b2, hlb⟩ := FB.out.cells
          have q0 := QB.out.cell 0
          simp at q0
          have hlq := QB.out.lt
          obtain ⟨⟨r0, r1, r2⟩, ⟨y0, y1, y2⟩, hlr⟩ := RB.out.c3
          go_wp2_with fail
          have rb := RB.out.store3 (.slice A5 n5 c5) (.int .i64 r.per) (.int .i64 r.inc)
          refine bodyPost_ret (v := .tuple #[.agg #[(.slice A5 n5 c5), .int .i64 r.per, .int .i64 r.inc], .int .i64 er]) (by simp [results, Try.results129, go_sem, rb.cell]) rfl ?_
          exact retS_store FN.out HA5.out (by omega) hs0 HI5.out BW.out
        have d1 : (v == 4611686018427387904) = false := by simpa using hvi
        have ONE := Lib.hid (exV_one (l := false) HA.out HB.out HNF.out (by rw [← HS.out, ← HV.out]; exact hvi))
        clear hvi
        go_upto_region 10 with fail
        -- a new variable with the curve a; the world at hand is w4
        have ZB := Lib.hid (Bz.mk (L := L) (c := c) (f := a) (Blk.new w4 46 #[.slice A n c, .int .i64 a.per, .int .i64 a.inc]) ((FA.out.ints).alloc' _) FA.out.lo)
        have hAZ := FA.out.ints.blk_lt (by omega)
        have hBZ := FB.out.ints.blk_lt (by omega)
        have hFZ := FA.out.lt
        have hGZ := FB.out.lt
        have hQZ := QB.out.lt
        have hRZ := RB.out.lt
        have hbq := balloc w4 (.cells #[.slice A n c, .int .i64 a.per, .int .i64 a.inc] 46)
        have FA := Lib.hid (FA.out.below hbq); have FB := Lib.hid (FB.out.below hbq); have QB := Lib.hid (QB.out.below hbq QB.out.lt); have RB := Lib.hid (RB.out.below hbq RB.out.lt); have BW := Lib.hid (bthen BW.out hbq)
        clear hbq
        clear a0 a1 a2 hla b0 b1 b2 hlb q0 hlq
        clear r0 r1 r2 y0 y1 y2 hlr
        generalize hwe : w4.alloc (.cells #[.slice A n c, .int .i64 a.per, .int .i64 a.inc] 46) = we at *
        clear hwe
        generalize w4.heap.size = Z at *
        have PB := Lib.hid (show b.Fin ∧ ∀ t, S ≤ t → exV false a b t = b.at t from by
          rcases ONE.out with ⟨h, _⟩ | ⟨_, h1, h2⟩
          · exact absurd h HFA.out
          · rw [HS.out]; exact ⟨h1, h2⟩)
        -- Finite(a) with the new variable at hand
        obtain ⟨a0, a1, a2, hla⟩ := FA.out.cells
        obtain ⟨b0, b1, b2, hlb⟩ := FB.out.cells
        have q0 := QB.out.cell 0
        simp at q0
        have hlq := QB.out.lt
        go_wp2_with fail
        refine (finite_any A n c a.per a.inc a.vals _ (by exact FA.out.ints) (by omega) (by omega)).mono ?_
        rw [hfa]
        rintro e w4 ⟨rfl, hbq⟩
        have ZB := Lib.hid (ZB.out.below hbq)
        have FA := Lib.hid (FA.out.below hbq); have FB := Lib.hid (FB.out.below hbq); have QB := Lib.hid (QB.out.below hbq QB.out.lt); have RB := Lib.hid (RB.out.below hbq RB.out.lt); have BW := Lib.hid (bthen BW.out hbq)
        clear hbq
        clear a0 a1 a2 hla b0 b1 b2 hlb q0 hlq
        obtain ⟨⟨l0, l1, l2⟩, ⟨k0, k1, k2⟩, hlz⟩ := ZB.out.blk.c3
        obtain ⟨a0, a1, a2, hla⟩ := FA.out.cells
        obtain ⟨b0, b1, b2, hlb⟩ := FB.out.cells
        have q0 := QB.out.cell 0
        simp at q0
        have hlq := QB.out.lt
        obtain ⟨⟨r0, r1, r2⟩, ⟨y0, y1, y2⟩, hlr⟩ := RB.out.c3
        go_upto_region 12 with fail
        clear l0 l1 l2 k0 k1 k2 hlz
        clear a0 a1 a2 hla b0 b1 b2 hlb q0 hlq
        clear r0 r1 r2 y0 y1 y2 hlr
        -- the curve b is stored to the new variable; the world at hand is w4
        have st := Sto.three Z w4 (.slice B m d) (.int .i64 b.per) (.int .i64 b.inc)
        have ZB := Lib.hid (Bz.putN (c := d) ZB.out.blk FB.out.ints FB.out.lo hBZ)
        have FA := Lib.hid (FA.out.stoN st (by omega) hAZ); have FB := Lib.hid (FB.out.stoN st (by omega) hBZ); have QB := Lib.hid (QB.out.sto st (by omega)); have RB := Lib.hid (RB.out.sto st (by omega)); have BW := Lib.hid (bsto BW.out st (by omega))
        clear st
        generalize hwe : ((w4.setCell ⟨Z, 0, none⟩ (.slice B m d)).setCell ⟨Z, 1, none⟩ (.int .i64 b.per)).setCell ⟨Z, 2, none⟩ (.int .i64 b.inc) = wf at *
        clear hwe
        obtain ⟨l0, l1, l2, hlz⟩ := ZB.out.cells
        obtain ⟨a0, a1, a2, hla⟩ := FA.out.cells
        obtain ⟨b0, b1, b2, hlb⟩ := FB.out.cells
        have q0 := QB.out.cell 0
        simp at q0
        have hlq := QB.out.lt
        obtain ⟨⟨r0, r1, r2⟩, ⟨y0, y1, y2⟩, hlr⟩ := RB.out.c3
        go_wp2_with fail
        -- false flag choose1max_any choose1 S start b.per period b.inc increment ex_build HA.out HB.out (s := S) (p := b.per.toNat) (i := b.inc) (by omega) (by omega) (fun _ t ht => by rw [PB.out.2 t ht, PB.out.2 _ (by omega)]; exact PB.out.1.toL.step t (by have h1 := (ord_b HA.out HB.out).gs; rw [← HS.out] at h1; omega)): what FN is made of
        refine (build_any 158 #[.pointer (some ⟨w.heap.size + 1 + 1, 0, none⟩), .pointer (some ⟨F, 0, none⟩), .pointer (some ⟨G, 0, none⟩)] S b.per b.inc (exV false a b) _ (by omega) (by omega) (by omega) (by omega) (by omega) (by omega) (by exact fun k hk => HVAL.out k (by omega)) (by exact fun t w1 ht hb => choose1max_any _ F G _ A n c a B m d b t w1 (FA.out.below hb) (FB.out.below hb) (QB.out.below hb QB.out.lt) HA.out HB.out (by omega)) (fun x w => by kernel_rfl)).mono ?_
        rintro e w5 ⟨r, er, hS, A5, n5, c5, rfl, hI5, hA5, hbq⟩
        have FN := Lib.hid (EXT.out _ _ (ex_build HA.out HB.out (s := S) (p := b.per.toNat) (i := b.inc) (by omega) (by omega) (fun _ t ht => by rw [PB.out.2 t ht, PB.out.2 _ (by omega)]; exact PB.out.1.toL.step t (by have h1 := (ord_b HA.out HB.out).gs; rw [← HS.out] at h1; omega)) hS))
        have hs0 := RB.out.lt
        have HI5 := Lib.hid hI5; have HA5 := Lib.hid hA5
        clear hS hI5 hA5
        have FA := Lib.hid (FA.out.below hbq); have FB := Lib.hid (FB.out.below hbq); have QB := Lib.hid (QB.out.below hbq QB.out.lt); have RB := Lib.hid (RB.out.below hbq RB.out.lt); have BW := Lib.hid (bthen BW.out hbq)
        clear hbq
        clear a0 a1 a2 hla b0 b1 b2 hlb q0 hlq
        clear r0 r1 r2 y0 y1 y2 hlr
        obtain ⟨a0, a1, a2, hla⟩ := FA.out.cells
        obtain ⟨b0, b1, b2, hlb⟩ := FB.out.cells
        have q0 := QB.out.cell 0
        simp at q0
        have hlq := QB.out.lt
        obtain ⟨⟨r0, r1, r2⟩, ⟨y0, y1, y2⟩, hlr⟩ := RB.out.c3
        go_wp2_with fail
        have rb := RB.out.store3 (.slice A5 n5 c5) (.int .i64 r.per) (.int .i64 r.inc)
        refine bodyPost_ret (v := .tuple #[.agg #[(.slice A5 n5 c5), .int .i64 r.per, .int .i64 r.inc], .int .i64 er]) (by simp [results, Try.results129, go_sem, rb.cell]) rfl ?_
        exact retS_store FN.out HA5.out (by omega) hs0 HI5.out BW.out

-- netcalculus/pointwise.Minimum the function, true flag, chooseMin_any the contract of choose, pmin_any the name
set_option maxHeartbeats 1000000 in
set_option maxRecDepth 100000 in
theorem pmin_any (A0 B0 : Option Addr) (n0 m0 c0 d0 : Nat) (p i q j : Int) (xs ys : List Int) (w : World) (hA : Ints w w.heap.size A0 n0 xs) (hB : Ints w w.heap.size B0 m0 ys) (hn : (n0 : Int) ≤ 1000000) (hm : (m0 : Int) ≤ 1000000) :
    Calls Try.prog 87 #[.agg #[.slice A0 n0 c0, .int .i64 p, .int .i64 i], .agg #[.slice B0 m0 d0, .int .i64 q, .int .i64 j]] w (RetS (ExtS true ⟨xs, p, i⟩ ⟨ys, q, j⟩) w) := by
  have P := Lib.hid ((PT.new (c := c0) (p := p) (i := i) (d := d0) (q := q) (j := j) hA hB).alloc (.cells #[.slice none 0 0, .int .i64 0, .int .i64 0] 46))
  have rb := Blk.new ((w.alloc (.cells #[.slice A0 n0 c0, .int .i64 p, .int .i64 i] 46)).alloc (.cells #[.slice B0 m0 d0, .int .i64 q, .int .i64 j] 46)) 46 #[.slice none 0 0, .int .i64 0, .int .i64 0]
  rw [World.size_alloc, World.size_alloc] at rb
  have RB := Lib.hid rb
  clear hA hB rb
  go_enter Try.func87, Try.ntmps87
  go_wp2_with fail
  refine (chooseMin_any A0 B0 n0 m0 c0 d0 p i q j xs ys _ P.out.ia P.out.ib hn hm).mono ?_
  rintro e w1 ⟨r, er, hS, A5, n5, c5, rfl, hI5, hA5, hb⟩
  have hs0 := RB.out.lt
  replace RB := Lib.hid (RB.out.below hb RB.out.lt)
  have BW := Lib.hid (bthen P.out.bw hb)
  have FN := Lib.hid hS; have HI5 := Lib.hid hI5; have HA5 := Lib.hid hA5
  clear hS hI5 hA5 hb P
  obtain ⟨⟨r0, r1, r2⟩, ⟨y0, y1, y2⟩, hlr⟩ := RB.out.c3
  go_wp2_with fail
  have rb := RB.out.store3 (.slice A5 n5 c5) (.int .i64 r.per) (.int .i64 r.inc)
  refine bodyPost_ret (v := .tuple #[.agg #[.slice A5 n5 c5, .int .i64 r.per, .int .i64 r.inc], .int .i64 er]) (by simp [results, Try.results87, go_sem, rb.cell]) rfl ?_
  exact retS_store FN.out HA5.out (by omega) hs0 HI5.out BW.out
-- netcalculus/pointwise.Maximum the function, false flag, chooseMax_any the contract of choose, pmax_any the name
set_option maxHeartbeats 1000000 in
set_option maxRecDepth 100000 in
theorem pmax_any (A0 B0 : Option Addr) (n0 m0 c0 d0 : Nat) (p i q j : Int) (xs ys : List Int) (w : World) (hA : Ints w w.heap.size A0 n0 xs) (hB : Ints w w.heap.size B0 m0 ys) (hn : (n0 : Int) ≤ 1000000) (hm : (m0 : Int) ≤ 1000000) :
    Calls Try.prog 119 #[.agg #[.slice A0 n0 c0, .int .i64 p, .int .i64 i], .agg #[.slice B0 m0 d0, .int .i64 q, .int .i64 j]] w (RetS (ExtS false ⟨xs, p, i⟩ ⟨ys, q, j⟩) w) := by
  have P := Lib.hid ((PT.new (c := c0) (p := p) (i := i) (d := d0) (q := q) (j := j) hA hB).alloc (.cells #[.slice none 0 0, .int .i64 0, .int .i64 0] 46))
  have rb := Blk.new ((w.alloc (.cells #[.slice A0 n0 c0, .int .i64 p, .int .i64 i] 46)).alloc (.cells #[.slice B0 m0 d0, .int .i64 q, .int .i64 j] 46)) 46 #[.slice none 0 0, .int .i64 0, .int .i64 0]
  rw [World.size_alloc, World.size_alloc] at rb
  have RB := Lib.hid rb
  clear hA hB rb
  go_enter Try.func119, Try.ntmps119
  go_wp2_with fail
  refine (chooseMax_any A0 B0 n0 m0 c0 d0 p i q j xs ys _ P.out.ia P.out.ib hn hm).mono ?_
  rintro e w1 ⟨r, er, hS, A5, n5, c5, rfl, hI5, hA5, hb⟩
  have hs0 := RB.out.lt
  replace RB := Lib.hid (RB.out.below hb RB.out.lt)
  have BW := Lib.hid (bthen P.out.bw hb)
  have FN := Lib.hid hS; have HI5 := Lib.hid hI5; have HA5 := Lib.hid hA5
  clear hS hI5 hA5 hb P
  obtain ⟨⟨r0, r1, r2⟩, ⟨y0, y1, y2⟩, hlr⟩ := RB.out.c3
  go_wp2_with fail
  have rb := RB.out.store3 (.slice A5 n5 c5) (.int .i64 r.per) (.int .i64 r.inc)
  refine bodyPost_ret (v := .tuple #[.agg #[.slice A5 n5 c5, .int .i64 r.per, .int .i64 r.inc], .int .i64 er]) (by simp [results, Try.results119, go_sem, rb.cell]) rfl ?_
  exact retS_store FN.out HA5.out (by omega) hs0 HI5.out BW.out
end Go.Proofs.Ythdibkmjoiipgaa
