/- pointwise.Raise, Ahead, Lower and Later: what each returns. -/
import Derived.Test.YtmieikfmbnaoaaaPwSum
namespace Go.Proofs.Ytmieikfmbnaoaaa
open Go.RowKit
set_option linter.unusedVariables false


set_option maxHeartbeats 1000000 in
theorem raise1_any (L F D : Nat) (A : Option Addr) (n c : Nat) (a : Cv) (d : Int) (t : Nat) (w : World) (hF : Bz L w F A n c a) (hD : Blk w D 3 #[.int .i64 d]) (ha : a.Ok) (hd0 : 0 ≤ d) (hd : d ≤ 1073741824) (ht : t ≤ 1000000) :
    Calls Try.prog 120 (#[.int .i64 t] ++ #[.pointer (some ⟨F, 0, none⟩), .pointer (some ⟨D, 0, none⟩)]) w fun e w' => e = .returned (.int .i64 (raiseV a d t)) ∧ Below w.heap.size w w' := by
  have FA := Lib.hid hF; have DB := Lib.hid hD
  have hl1 : a.vals.length = n := hF.ints.1
  have ha1 := ha.n1; have ha2 := ha.n2; have hap := ha.p1; have hap2 := ha.p2; have hai := ha.i1; have hai2 := ha.i2; have hapn := ha.pn
  rw [hl1] at ha1 ha2 hapn
  have HA := Lib.hid ha
  have BW := Lib.hid (Below.refl w.heap.size w)
  show Calls _ _ #[.int .i64 t, .pointer (some ⟨F, 0, none⟩), .pointer (some ⟨D, 0, none⟩)] _ _
  rcases Nat.eq_zero_or_pos t with ht0 | ht0
  · subst ht0
    rw [raiseV_zero]
    clear hF hD hl1 ha
    go_enter Try.func120, Try.ntmps120
    have bw := BW.out
    go_wp2_with fail
    go_ret
    exact ⟨rfl, bw⟩
  · have hx := at_near ha (t := t) (by omega)
    rw [raise_pl ha hd ht0 (by omega)]
    obtain ⟨x, hx'⟩ : ∃ x, x = a.at t := ⟨_, rfl⟩
    have HX := Lib.hid hx'
    rw [← hx'] at hx ⊢
    have HXB := Lib.hid hx
    have hti : 0 < (t : Int) := by omega
    have d1 : ((t : Int) == 0) = false := by simp only [beq_eq_false_iff_ne]; omega
    clear hF hD hl1 ha hx hx'
    go_enter Try.func120, Try.ntmps120
    obtain ⟨a0, a1, a2, hla⟩ := FA.out.cells
    have z0 := DB.out.cell 0
    simp at z0
    have hlz := DB.out.lt
    go_upto_region 3 with fail
    go_region_held3 (fun w' => w'.cell? ⟨F, 0, none⟩ = some (.slice A n c) ∧ w'.cell? ⟨F, 1, none⟩ = some (.int .i64 a.per) ∧ w'.cell? ⟨F, 2, none⟩ = some (.int .i64 a.inc) ∧ w'.cell? ⟨D, 0, none⟩ = some (.int .i64 d)) (first | go_keep)
      (first
        | (go_at_call 94
           refine (at_any A n c a.per a.inc t a.vals _ (by exact FA.out.drew.ints) (by omega) hap hapn hai (by omega) HA.out.nn (by omega) (by omega)).mono ?_
           rw [Int.toNat_natCast, show Cv.at ⟨a.vals, a.per, a.inc⟩ t = x from HX.out.symm]
           rintro e w1 ⟨rfl, hbq⟩
           have hbq := bofdrew hbq
           have FA := Lib.hid (FA.out.below hbq); have DB := Lib.hid (DB.out.below hbq DB.out.lt); have BW := Lib.hid (bthen BW.out hbq)
           clear hbq
           clear a0 a1 a2 hla z0 hlz
           obtain ⟨a0, a1, a2, hla⟩ := FA.out.cells
           have z0 := DB.out.cell 0
           simp at z0
           have hlz := DB.out.lt
           skip)
        | (go_at_call 105
           refine (plus_any x d _ HXB.out.1 HXB.out.2 hd0 (.inr (by omega))).mono ?_
           rintro e w1 ⟨rfl, rfl⟩
           skip))
    all_goals
      have bw := BW.out
      go_wp2_with fail
      go_ret
      exact ⟨rfl, bw⟩

theorem ahead1f_any (L F D : Nat) (A : Option Addr) (n c : Nat) (a : Cv) (d : Int) (t : Nat) (w : World) (hF : Bz L w F A n c a) (hD : Blk w D 3 #[.int .i64 d]) (ha : a.Ok) (D0 : Nat) (hD0 : d = (D0 : Int)) (hd : D0 ≤ 1048576) (ht : t ≤ 1000000) :
    Calls Try.prog 119 (#[.int .i64 t] ++ #[.pointer (some ⟨F, 0, none⟩), .pointer (some ⟨D, 0, none⟩)]) w fun e w' => e = .returned (.int .i64 (aheadV a D0 t)) ∧ Below w.heap.size w w' := by
  subst hD0
  have FA := Lib.hid hF; have DB := Lib.hid hD
  have hl1 : a.vals.length = n := hF.ints.1
  have ha1 := ha.n1; have ha2 := ha.n2; have hap := ha.p1; have hap2 := ha.p2; have hai := ha.i1; have hai2 := ha.i2; have hapn := ha.pn
  rw [hl1] at ha1 ha2 hapn
  have HA := Lib.hid ha
  have BW := Lib.hid (Below.refl w.heap.size w)
  show Calls _ _ #[.int .i64 t, .pointer (some ⟨F, 0, none⟩), .pointer (some ⟨D, 0, none⟩)] _ _
  rcases Nat.eq_zero_or_pos t with ht0 | ht0
  · subst ht0
    rw [aheadV_zero]
    clear hF hD hl1 ha
    go_enter Try.func119, Try.ntmps119
    have bw := BW.out
    go_wp2_with fail
    go_ret
    exact ⟨rfl, bw⟩
  · rw [aheadV_pos ht0]
    have d1 : ((t : Int) == 0) = false := by simp only [beq_eq_false_iff_ne]; omega
    have e1 : IntKind.i64.wrap ((t : Int) + (D0 : Int)) = (t : Int) + (D0 : Int) := IntWalk.i64_in _ (by omega)
    clear hF hD hl1 ha
    go_enter Try.func119, Try.ntmps119
    obtain ⟨a0, a1, a2, hla⟩ := FA.out.cells
    have z0 := DB.out.cell 0
    simp at z0
    have hlz := DB.out.lt
    go_wp2_with fail
    refine (at_any A n c a.per a.inc _ a.vals _ (by exact FA.out.ints) (by omega) hap hapn hai (by omega) HA.out.nn (by omega) (by omega)).mono ?_
    rw [show ((t : Int) + (D0 : Int)).toNat = t + D0 by omega]
    rintro e w1 ⟨rfl, hbq⟩
    go_wp2_with fail
    go_ret
    exact ⟨rfl, hbq⟩

set_option maxHeartbeats 1000000 in
theorem lower1_any (L F D : Nat) (A : Option Addr) (n c : Nat) (a : Cv) (d : Int) (t : Nat) (w : World) (hF : Bz L w F A n c a) (hD : Blk w D 3 #[.int .i64 d]) (ha : a.Ok) (hd0 : 0 ≤ d) (hd : d ≤ 1073741824) (ht : t ≤ 1000000) :
    Calls Try.prog 118 (#[.int .i64 t] ++ #[.pointer (some ⟨F, 0, none⟩), .pointer (some ⟨D, 0, none⟩)]) w fun e w' => e = .returned (.int .i64 (lowerV a d t)) ∧ Below w.heap.size w w' := by
  have FA := Lib.hid hF; have DB := Lib.hid hD
  have hl1 : a.vals.length = n := hF.ints.1
  have ha1 := ha.n1; have ha2 := ha.n2; have hap := ha.p1; have hap2 := ha.p2; have hai := ha.i1; have hai2 := ha.i2; have hapn := ha.pn
  rw [hl1] at ha1 ha2 hapn
  have HA := Lib.hid ha
  have BW := Lib.hid (Below.refl w.heap.size w)
  show Calls _ _ #[.int .i64 t, .pointer (some ⟨F, 0, none⟩), .pointer (some ⟨D, 0, none⟩)] _ _
  have hx := at_near ha (t := t) (by omega)
  have hv := lower_at ha (t := t) (c := d) (by omega)
  obtain ⟨x, hx'⟩ : ∃ x, x = a.at t := ⟨_, rfl⟩
  obtain ⟨v, hv'⟩ : ∃ v, v = lowerV a d t := ⟨_, rfl⟩
  have HX := Lib.hid hx'
  rw [← hx'] at hx hv
  rw [← hv'] at hv ⊢
  have HV := Lib.hid hv
  have HXB := Lib.hid hx
  clear hF hD hl1 ha hx hx' hv hv'
  go_enter Try.func118, Try.ntmps118
  obtain ⟨a0, a1, a2, hla⟩ := FA.out.cells
  have z0 := DB.out.cell 0
  simp at z0
  have hlz := DB.out.lt
  go_wp2_with fail
  refine (at_any A n c a.per a.inc t a.vals _ (by exact FA.out.ints) (by omega) hap hapn hai (by omega) HA.out.nn (by omega) (by omega)).mono ?_
  rw [Int.toNat_natCast, show Cv.at ⟨a.vals, a.per, a.inc⟩ t = x from HX.out.symm]
  rintro e w1 ⟨rfl, hbq⟩
  have FA := Lib.hid (FA.out.below hbq); have DB := Lib.hid (DB.out.below hbq DB.out.lt); have BW := Lib.hid (bthen BW.out hbq)
  clear hbq
  clear a0 a1 a2 hla z0 hlz
  obtain ⟨a0, a1, a2, hla⟩ := FA.out.cells
  have z0 := DB.out.cell 0
  simp at z0
  have hlz := DB.out.lt
  by_cases hi : x = 4611686018427387904
  · have d1 : (x == 4611686018427387904) = true := by simpa using hi
    have F9 := Lib.hid (show x = v by rw [HV.out, if_pos (show x = inf from hi)]; exact hi)
    have bw := BW.out
    clear hi
    go_wp2_with fail
    go_ret
    exact ⟨ret_int F9.out, bw⟩
  · have d1 : (x == 4611686018427387904) = false := by simpa using hi
    have hx0 := HXB.out.1
    have hx1 : x ≤ 1152921504606846976 := HXB.out.2.resolve_left hi
    have HM := Lib.hid (show (if (0 : Int) < x - d then x - d else 0) = v by
      rw [HV.out, if_neg (show ¬ x = inf from hi)]; split <;> omega)
    have e1 : IntKind.i64.wrap (x - d) = x - d := IntWalk.i64_in _ (by omega)
    have bw := BW.out
    clear hi
    go_wp2_with fail
    all_goals
      go_ret
      exact ⟨ret_int (by have := HM.out; split at this <;> omega), bw⟩

theorem later1_any (L F D : Nat) (A : Option Addr) (n c : Nat) (a : Cv) (d : Int) (t : Nat) (w : World) (hF : Bz L w F A n c a) (hD : Blk w D 3 #[.int .i64 d]) (ha : a.Ok) (D0 : Nat) (hD0 : d = (D0 : Int)) (hd : D0 ≤ 1048576) (ht : t ≤ 1000000) :
    Calls Try.prog 117 (#[.int .i64 t] ++ #[.pointer (some ⟨D, 0, none⟩), .pointer (some ⟨F, 0, none⟩)]) w fun e w' => e = .returned (.int .i64 (laterV a D0 t)) ∧ Below w.heap.size w w' := by
  subst hD0
  have FA := Lib.hid hF; have DB := Lib.hid hD
  have hl1 : a.vals.length = n := hF.ints.1
  have ha1 := ha.n1; have ha2 := ha.n2; have hap := ha.p1; have hap2 := ha.p2; have hai := ha.i1; have hai2 := ha.i2; have hapn := ha.pn
  rw [hl1] at ha1 ha2 hapn
  have HA := Lib.hid ha
  have BW := Lib.hid (Below.refl w.heap.size w)
  show Calls _ _ #[.int .i64 t, .pointer (some ⟨D, 0, none⟩), .pointer (some ⟨F, 0, none⟩)] _ _
  have z0 := DB.out.cell 0
  simp at z0
  have hlz := DB.out.lt
  obtain ⟨a0, a1, a2, hla⟩ := FA.out.cells
  rcases Nat.lt_or_ge t D0 with ht0 | ht0
  · rw [laterV_lt ht0]
    have d1 : (t : Int) < (D0 : Int) := by omega
    clear hF hD hl1 ha
    go_enter Try.func117, Try.ntmps117
    have bw := BW.out
    go_wp2_with fail
    go_ret
    exact ⟨rfl, bw⟩
  · rw [laterV_ge ht0]
    have d1 : ¬ (t : Int) < (D0 : Int) := by omega
    have e1 : IntKind.i64.wrap ((t : Int) - (D0 : Int)) = (t : Int) - (D0 : Int) := IntWalk.i64_in _ (by omega)
    clear hF hD hl1 ha
    go_enter Try.func117, Try.ntmps117
    go_wp2_with fail
    refine (at_any A n c a.per a.inc _ a.vals _ (by exact FA.out.ints) (by omega) hap hapn hai (by omega) HA.out.nn (by omega) (by omega)).mono ?_
    rw [show ((t : Int) - (D0 : Int)).toNat = t - D0 by omega]
    rintro e w1 ⟨rfl, hbq⟩
    go_wp2_with fail
    go_ret
    exact ⟨rfl, hbq⟩

set_option maxHeartbeats 2000000 in
set_option maxRecDepth 100000 in
theorem praise_any (A0 : Option Addr) (n0 c0 : Nat) (p i d : Int) (xs : List Int) (w : World) (hA : Ints w w.heap.size A0 n0 xs) (hn : (n0 : Int) ≤ 1000000) : Calls Try.prog 65 #[.agg #[.slice A0 n0 c0, .int .i64 p, .int .i64 i], .int .i64 d] w (RetS (RaiseS ⟨xs, p, i⟩ d) w) := by
  -- netcalculus/pointwise.Raise the function, 0 1073741824 the range, RaiseS the spec, {4} its word
  have E := Lib.hid (((L1.new (c := c0) (p := p) (i := i) hA).alloc (.cells #[.int .i64 d] 3)).alloc (.cells #[.slice none 0 0, .int .i64 0, .int .i64 0] 41))
  have db := (Blk.new (w.alloc (.cells #[.slice A0 n0 c0, .int .i64 p, .int .i64 i] 41)) 3 #[.int .i64 d]).alloc (.cells #[.slice none 0 0, .int .i64 0, .int .i64 0] 41)
  have rb := Blk.new ((w.alloc (.cells #[.slice A0 n0 c0, .int .i64 p, .int .i64 i] 41)).alloc (.cells #[.int .i64 d] 3)) 41 #[.slice none 0 0, .int .i64 0, .int .i64 0]
  rw [World.size_alloc] at db
  rw [World.size_alloc, World.size_alloc] at rb
  have DB := Lib.hid db; have RB := Lib.hid rb
  clear hA db rb
  go_enter Try.func65, Try.ntmps65
  go_wp2_with fail
  refine (one_any A0 n0 c0 p i d 0 1073741824 xs _ E.out.ints hn).mono ?_
  rintro e w1 ⟨a, er, hN, A, n, c, rfl, hI1, hA1, hb⟩
  simp only [World.size_alloc] at hA1
  have hs0 := (RB.out.below hb RB.out.lt).lt
  have FA := Lib.hid (Bz.mk (L := w.heap.size + 1 + 1 + 1) (c := c) (f := a) (Blk.new w1 41 #[.slice A n c, .int .i64 a.per, .int .i64 a.inc]) (hI1.alloc' _) hA1)
  replace DB := Lib.hid ((DB.out.below hb DB.out.lt).alloc (.cells #[.slice A n c, .int .i64 a.per, .int .i64 a.inc] 41))
  replace RB := Lib.hid ((RB.out.below hb RB.out.lt).alloc (.cells #[.slice A n c, .int .i64 a.per, .int .i64 a.inc] 41))
  have BW := Lib.hid (bthen (bthen E.out.bw hb) (balloc _ (.cells #[.slice A n c, .int .i64 a.per, .int .i64 a.inc] 41)))
  have hl1 : a.vals.length = n := hI1.1
  clear hI1 hA1 hb E
  go_upto_region 2 with fail
  generalize hwz : w1.alloc (.cells #[.slice A n c, .int .i64 a.per, .int .i64 a.inc] 41) = wz at *
  clear hwz
  generalize hFe : w1.heap.size = F at *
  have hne1 : w.heap.size + 1 + 1 ≠ F := by omega
  have hne2 : w.heap.size + 1 + 1 ≠ w.heap.size + 1 := by omega
  clear hFe
  obtain ⟨⟨r0, r1, r2⟩, ⟨y0, y1, y2⟩, hlr⟩ := RB.out.c3
  have hN2 : (er ≠ 0 ∧ a = Cv.none ∧ RaiseS ⟨xs, p, i⟩ d Cv.none er) ∨ (Cv.Ok ⟨xs, p, i⟩ ∧ 0 ≤ d ∧ d ≤ 1073741824 ∧ NF (Cv.at ⟨xs, p, i⟩) a ∧ a.Ok ∧ er = 0) := by
    rcases hN with ⟨h1, h2, rfl⟩ | ⟨h1, h2, h3, rfl⟩ | h1
    · exact .inl ⟨by decide, h2, .inl ⟨h1, rfl, rfl⟩⟩
    · exact .inl ⟨by decide, h3, .inr (.inl ⟨h1, h2, rfl, rfl⟩)⟩
    · exact .inr h1
  clear hN
  rcases hN2 with ⟨hne, _, hS⟩ | ⟨hf, hd0, hd1, hna, hao, rfl⟩
  rotate_left 1
  rotate_left 1
  · have F9 := Lib.hid hS
    have hne' : (er != 0) = true := by simpa using hne
    clear hS hne
    go_wp2_with fail
    have rb := RB.out.store3 (.slice none 0 0) (.int .i64 0) (.int .i64 0)
    refine bodyPost_ret (v := .tuple #[.agg #[(.slice none 0 0), .int .i64 0, .int .i64 0], .int .i64 er]) (by simp [results, Try.results65, go_sem, rb.cell]) rfl ?_
    exact retS_none F9.out (bst3 BW.out (by omega) _ _ _)
  · have ha1 := hao.n1; have ha2 := hao.n2; have hap := hao.p1; have hap2 := hao.p2; have hai := hao.i1; have hai2 := hao.i2; have hapn := hao.pn
    rw [hl1] at ha1 ha2 hapn
    obtain ⟨S, hS⟩ : ∃ S, S = max 1 (a.vals.length - a.per.toNat) := ⟨_, rfl⟩
    have hmx : (if (1 : Int) < (n : Int) - a.per then (n : Int) - a.per else 1) = (S : Int) := by
      rw [hS, hl1]; split <;> omega
    have hSb : 1 ≤ S ∧ S ≤ 400 := by rw [hS, hl1]; omega
    obtain ⟨hS1, hS2⟩ := hSb
    have FIN := Lib.hid (show ∀ r er, BuildS (raiseV a d) ((S : Int)).toNat a.per.toNat a.inc r er → RaiseS ⟨xs, p, i⟩ d r er from fun r er h => .inr (.inr ⟨hf, hd0, hd1, a, hna, raise_build hao hd0 hd1 (s := S) hS1 (by rw [hS]; omega) (by omega) h⟩))
    have HVAL := Lib.hid (show ∀ k : Nat, (k : Int) < (S : Int) + a.per → 0 ≤ raiseV a d k ∧ raiseV a d k ≤ 4611686018427387904 from fun k hk => raise_small hao hd0 hd1 (by omega))
    have HA := Lib.hid hao
    clear hf hna hao hl1 hS
    obtain ⟨a0, a1, a2, hla⟩ := FA.out.cells
    have z0 := DB.out.cell 0
    simp at z0
    have hlz := DB.out.lt
    go_upto_region 5 with fail
    go_region_held3 (fun w' => w'.cell? ⟨F, 0, none⟩ = some (.slice A n c) ∧ w'.cell? ⟨F, 1, none⟩ = some (.int .i64 a.per) ∧ w'.cell? ⟨F, 2, none⟩ = some (.int .i64 a.inc) ∧ w'.cell? ⟨w.heap.size + 1, 0, none⟩ = some (.int .i64 d)) (first | go_keep | exact ⟨(cell_set3 hne1).trans a0, (cell_set3 hne1).trans a1, (cell_set3 hne1).trans a2, (cell_set3 hne2).trans z0⟩)
      (first
        | (go_at_call 106
           refine (start_any A n c a.per a.inc _ (by omega) (by omega) (by omega)).mono ?_
           rintro e w4 ⟨rfl, hbq⟩
           have FA := Lib.hid FA.out.drew; have DB := Lib.hid (Blk.drew DB.out); have BW := Lib.hid (Below.drew BW.out); have RB := Lib.hid (Blk.drew RB.out)
           have FA := Lib.hid (FA.out.below hbq); have DB := Lib.hid (DB.out.below hbq DB.out.lt); have BW := Lib.hid (bthen BW.out hbq); have RB := Lib.hid (RB.out.below hbq RB.out.lt)
           clear hbq
           clear a0 a1 a2 hla z0 hlz
           obtain ⟨a0, a1, a2, hla⟩ := FA.out.cells
           have z0 := DB.out.cell 0
           simp at z0
           have hlz := DB.out.lt
           skip)
        -- netcalculus/pointwise.Raise$1 closure, #[.pointer (some ⟨F, 0, none⟩), .pointer (some ⟨w.heap.size + 1, 0, none⟩)] captures, S start, (raiseV a d) values, raise1_any _ F _ A n c a d t w1 (FA.out.below hb) (DB.out.below hb DB.out.lt) HA.out hd0 hd1 (by omega) the closure's contract
        | (go_at_call 81
           refine (build_any 120 #[.pointer (some ⟨F, 0, none⟩), .pointer (some ⟨w.heap.size + 1, 0, none⟩)] S a.per a.inc (raiseV a d) _ (by omega) (by omega) (by omega) (by omega) (by omega) (by omega) HVAL.out (by exact fun t w1 ht hb => raise1_any _ F _ A n c a d t w1 (FA.out.below hb) (DB.out.below hb DB.out.lt) HA.out hd0 hd1 (by omega)) (fun x w => by kernel_rfl)).mono ?_
           rintro e w5 ⟨r, er, hS, A5, n5, c5, rfl, hI5, hA5, hbq⟩
           have FN := Lib.hid (FIN.out _ _ hS)
           have hs0 := RB.out.lt
           have HI5 := Lib.hid hI5; have HA5 := Lib.hid hA5
           clear hS hI5 hA5
           clear r0 r1 r2 y0 y1 y2 hlr
           have FA := Lib.hid (FA.out.below hbq); have DB := Lib.hid (DB.out.below hbq DB.out.lt); have BW := Lib.hid (bthen BW.out hbq); have RB := Lib.hid (RB.out.below hbq RB.out.lt)
           clear hbq
           clear a0 a1 a2 hla z0 hlz
           obtain ⟨a0, a1, a2, hla⟩ := FA.out.cells
           have z0 := DB.out.cell 0
           simp at z0
           have hlz := DB.out.lt
           obtain ⟨⟨r0, r1, r2⟩, ⟨y0, y1, y2⟩, hlr⟩ := RB.out.c3
           skip)
      )
    all_goals
      go_wp2_with fail
      have rb := RB.out.store3 (.slice A5 n5 c5) (.int .i64 r.per) (.int .i64 r.inc)
      refine bodyPost_ret (v := .tuple #[.agg #[(.slice A5 n5 c5), .int .i64 r.per, .int .i64 r.inc], .int .i64 er]) (by simp [results, Try.results65, go_sem, rb.cell]) rfl ?_
      exact retS_store FN.out HA5.out (by omega) hs0 HI5.out BW.out
set_option maxHeartbeats 2000000 in
set_option maxRecDepth 100000 in
theorem paheadF_any (A0 : Option Addr) (n0 c0 : Nat) (p i d : Int) (xs : List Int) (w : World) (hA : Ints w w.heap.size A0 n0 xs) (hn : (n0 : Int) ≤ 1000000) : Calls Try.prog 64 #[.agg #[.slice A0 n0 c0, .int .i64 p, .int .i64 i], .int .i64 d] w (RetS (AheadFS ⟨xs, p, i⟩ d) w) := by
  -- netcalculus/pointwise.Ahead the function, 0 1048576 the range, AheadFS the spec, {4} its word
  have E := Lib.hid (((L1.new (c := c0) (p := p) (i := i) hA).alloc (.cells #[.int .i64 d] 3)).alloc (.cells #[.slice none 0 0, .int .i64 0, .int .i64 0] 41))
  have db := (Blk.new (w.alloc (.cells #[.slice A0 n0 c0, .int .i64 p, .int .i64 i] 41)) 3 #[.int .i64 d]).alloc (.cells #[.slice none 0 0, .int .i64 0, .int .i64 0] 41)
  have rb := Blk.new ((w.alloc (.cells #[.slice A0 n0 c0, .int .i64 p, .int .i64 i] 41)).alloc (.cells #[.int .i64 d] 3)) 41 #[.slice none 0 0, .int .i64 0, .int .i64 0]
  rw [World.size_alloc] at db
  rw [World.size_alloc, World.size_alloc] at rb
  have DB := Lib.hid db; have RB := Lib.hid rb
  clear hA db rb
  go_enter Try.func64, Try.ntmps64
  go_wp2_with fail
  refine (one_any A0 n0 c0 p i d 0 1048576 xs _ E.out.ints hn).mono ?_
  rintro e w1 ⟨a, er, hN, A, n, c, rfl, hI1, hA1, hb⟩
  simp only [World.size_alloc] at hA1
  have hs0 := (RB.out.below hb RB.out.lt).lt
  have FA := Lib.hid (Bz.mk (L := w.heap.size + 1 + 1 + 1) (c := c) (f := a) (Blk.new w1 41 #[.slice A n c, .int .i64 a.per, .int .i64 a.inc]) (hI1.alloc' _) hA1)
  replace DB := Lib.hid ((DB.out.below hb DB.out.lt).alloc (.cells #[.slice A n c, .int .i64 a.per, .int .i64 a.inc] 41))
  replace RB := Lib.hid ((RB.out.below hb RB.out.lt).alloc (.cells #[.slice A n c, .int .i64 a.per, .int .i64 a.inc] 41))
  have BW := Lib.hid (bthen (bthen E.out.bw hb) (balloc _ (.cells #[.slice A n c, .int .i64 a.per, .int .i64 a.inc] 41)))
  have hl1 : a.vals.length = n := hI1.1
  clear hI1 hA1 hb E
  go_upto_region 2 with fail
  generalize hwz : w1.alloc (.cells #[.slice A n c, .int .i64 a.per, .int .i64 a.inc] 41) = wz at *
  clear hwz
  generalize hFe : w1.heap.size = F at *
  have hne1 : w.heap.size + 1 + 1 ≠ F := by omega
  have hne2 : w.heap.size + 1 + 1 ≠ w.heap.size + 1 := by omega
  clear hFe
  obtain ⟨⟨r0, r1, r2⟩, ⟨y0, y1, y2⟩, hlr⟩ := RB.out.c3
  have hN2 : (er ≠ 0 ∧ a = Cv.none ∧ AheadFS ⟨xs, p, i⟩ d Cv.none er) ∨ (Cv.Ok ⟨xs, p, i⟩ ∧ 0 ≤ d ∧ d ≤ 1048576 ∧ NF (Cv.at ⟨xs, p, i⟩) a ∧ a.Ok ∧ er = 0) := by
    rcases hN with ⟨h1, h2, rfl⟩ | ⟨h1, h2, h3, rfl⟩ | h1
    · exact .inl ⟨by decide, h2, .inl ⟨h1, rfl, rfl⟩⟩
    · exact .inl ⟨by decide, h3, .inr (.inl ⟨h1, h2, rfl, rfl⟩)⟩
    · exact .inr h1
  clear hN
  rcases hN2 with ⟨hne, _, hS⟩ | ⟨hf, hd0, hd1, hna, hao, rfl⟩
  rotate_left 1
  rotate_left 1
  · have F9 := Lib.hid hS
    have hne' : (er != 0) = true := by simpa using hne
    clear hS hne
    go_wp2_with fail
    have rb := RB.out.store3 (.slice none 0 0) (.int .i64 0) (.int .i64 0)
    refine bodyPost_ret (v := .tuple #[.agg #[(.slice none 0 0), .int .i64 0, .int .i64 0], .int .i64 er]) (by simp [results, Try.results64, go_sem, rb.cell]) rfl ?_
    exact retS_none F9.out (bst3 BW.out (by omega) _ _ _)
  · obtain ⟨D0, rfl⟩ := Int.eq_ofNat_of_zero_le hd0
    have ha1 := hao.n1; have ha2 := hao.n2; have hap := hao.p1; have hap2 := hao.p2; have hai := hao.i1; have hai2 := hao.i2; have hapn := hao.pn
    rw [hl1] at ha1 ha2 hapn
    obtain ⟨S, hS⟩ : ∃ S, S = max 1 (a.vals.length - a.per.toNat - D0) := ⟨_, rfl⟩
    have e2 : IntKind.i64.wrap ((n : Int) - a.per - (D0 : Int)) = (n : Int) - a.per - (D0 : Int) := IntWalk.i64_in _ (by omega)
    have hmx : (if (1 : Int) < (n : Int) - a.per - (D0 : Int) then (n : Int) - a.per - (D0 : Int) else 1) = (S : Int) := by
      rw [hS, hl1]; split <;> omega
    have hSb : 1 ≤ S ∧ S ≤ 400 := by rw [hS, hl1]; omega
    obtain ⟨hS1, hS2⟩ := hSb
    have FIN := Lib.hid (show ∀ r er, BuildS (aheadV a D0) ((S : Int)).toNat a.per.toNat a.inc r er → AheadFS ⟨xs, p, i⟩ (D0 : Int) r er from fun r er h => .inr (.inr ⟨hf, hd0, hd1, a, hna, by rw [Int.toNat_natCast]; exact ahead_build hao (s := S) hS1 (by rw [hS]; omega) (by omega) h⟩))
    have HVAL := Lib.hid (show ∀ k : Nat, (k : Int) < (S : Int) + a.per → 0 ≤ aheadV a D0 k ∧ aheadV a D0 k ≤ 4611686018427387904 from fun k hk => ahead_small hao (by omega))
    have HA := Lib.hid hao
    clear hf hna hao hl1 hS
    obtain ⟨a0, a1, a2, hla⟩ := FA.out.cells
    have z0 := DB.out.cell 0
    simp at z0
    have hlz := DB.out.lt
    go_upto_region 5 with fail
    go_region_held3 (fun w' => w'.cell? ⟨F, 0, none⟩ = some (.slice A n c) ∧ w'.cell? ⟨F, 1, none⟩ = some (.int .i64 a.per) ∧ w'.cell? ⟨F, 2, none⟩ = some (.int .i64 a.inc) ∧ w'.cell? ⟨w.heap.size + 1, 0, none⟩ = some (.int .i64 (D0 : Int))) (first | go_keep | exact ⟨(cell_set3 hne1).trans a0, (cell_set3 hne1).trans a1, (cell_set3 hne1).trans a2, (cell_set3 hne2).trans z0⟩)
      (first
        | (go_at_call 106
           refine (start_any A n c a.per a.inc _ (by omega) (by omega) (by omega)).mono ?_
           rintro e w4 ⟨rfl, hbq⟩
           have FA := Lib.hid FA.out.drew; have DB := Lib.hid (Blk.drew DB.out); have BW := Lib.hid (Below.drew BW.out); have RB := Lib.hid (Blk.drew RB.out)
           have FA := Lib.hid (FA.out.below hbq); have DB := Lib.hid (DB.out.below hbq DB.out.lt); have BW := Lib.hid (bthen BW.out hbq); have RB := Lib.hid (RB.out.below hbq RB.out.lt)
           clear hbq
           clear a0 a1 a2 hla z0 hlz
           obtain ⟨a0, a1, a2, hla⟩ := FA.out.cells
           have z0 := DB.out.cell 0
           simp at z0
           have hlz := DB.out.lt
           skip)
        -- netcalculus/pointwise.Ahead$1 closure, #[.pointer (some ⟨F, 0, none⟩), .pointer (some ⟨w.heap.size + 1, 0, none⟩)] captures, S start, (aheadV a D0) values, ahead1f_any _ F _ A n c a D0 t w1 (FA.out.below hb) (DB.out.below hb DB.out.lt) HA.out D0 rfl (by omega) (by omega) the closure's contract
        | (go_at_call 81
           refine (build_any 119 #[.pointer (some ⟨F, 0, none⟩), .pointer (some ⟨w.heap.size + 1, 0, none⟩)] S a.per a.inc (aheadV a D0) _ (by omega) (by omega) (by omega) (by omega) (by omega) (by omega) HVAL.out (by exact fun t w1 ht hb => ahead1f_any _ F _ A n c a D0 t w1 (FA.out.below hb) (DB.out.below hb DB.out.lt) HA.out D0 rfl (by omega) (by omega)) (fun x w => by kernel_rfl)).mono ?_
           rintro e w5 ⟨r, er, hS, A5, n5, c5, rfl, hI5, hA5, hbq⟩
           have FN := Lib.hid (FIN.out _ _ hS)
           have hs0 := RB.out.lt
           have HI5 := Lib.hid hI5; have HA5 := Lib.hid hA5
           clear hS hI5 hA5
           clear r0 r1 r2 y0 y1 y2 hlr
           have FA := Lib.hid (FA.out.below hbq); have DB := Lib.hid (DB.out.below hbq DB.out.lt); have BW := Lib.hid (bthen BW.out hbq); have RB := Lib.hid (RB.out.below hbq RB.out.lt)
           clear hbq
           clear a0 a1 a2 hla z0 hlz
           obtain ⟨a0, a1, a2, hla⟩ := FA.out.cells
           have z0 := DB.out.cell 0
           simp at z0
           have hlz := DB.out.lt
           obtain ⟨⟨r0, r1, r2⟩, ⟨y0, y1, y2⟩, hlr⟩ := RB.out.c3
           skip)
      )
    all_goals
      go_wp2_with fail
      have rb := RB.out.store3 (.slice A5 n5 c5) (.int .i64 r.per) (.int .i64 r.inc)
      refine bodyPost_ret (v := .tuple #[.agg #[(.slice A5 n5 c5), .int .i64 r.per, .int .i64 r.inc], .int .i64 er]) (by simp [results, Try.results64, go_sem, rb.cell]) rfl ?_
      exact retS_store FN.out HA5.out (by omega) hs0 HI5.out BW.out

set_option maxHeartbeats 2000000 in
set_option maxRecDepth 100000 in
theorem plower_any (A0 : Option Addr) (n0 c0 : Nat) (p i d : Int) (xs : List Int) (w : World) (hA : Ints w w.heap.size A0 n0 xs) (hn : (n0 : Int) ≤ 1000000) : Calls Try.prog 63 #[.agg #[.slice A0 n0 c0, .int .i64 p, .int .i64 i], .int .i64 d] w (RetS (LowerS ⟨xs, p, i⟩ d) w) := by
  -- netcalculus/pointwise.Lower the function, 0 1073741824 the range, LowerS the spec, {4} its word
  have E := Lib.hid (((L1.new (c := c0) (p := p) (i := i) hA).alloc (.cells #[.int .i64 d] 3)).alloc (.cells #[.slice none 0 0, .int .i64 0, .int .i64 0] 41))
  have db := (Blk.new (w.alloc (.cells #[.slice A0 n0 c0, .int .i64 p, .int .i64 i] 41)) 3 #[.int .i64 d]).alloc (.cells #[.slice none 0 0, .int .i64 0, .int .i64 0] 41)
  have rb := Blk.new ((w.alloc (.cells #[.slice A0 n0 c0, .int .i64 p, .int .i64 i] 41)).alloc (.cells #[.int .i64 d] 3)) 41 #[.slice none 0 0, .int .i64 0, .int .i64 0]
  rw [World.size_alloc] at db
  rw [World.size_alloc, World.size_alloc] at rb
  have DB := Lib.hid db; have RB := Lib.hid rb
  clear hA db rb
  go_enter Try.func63, Try.ntmps63
  go_wp2_with fail
  refine (one_any A0 n0 c0 p i d 0 1073741824 xs _ E.out.ints hn).mono ?_
  rintro e w1 ⟨a, er, hN, A, n, c, rfl, hI1, hA1, hb⟩
  simp only [World.size_alloc] at hA1
  have hs0 := (RB.out.below hb RB.out.lt).lt
  have FA := Lib.hid (Bz.mk (L := w.heap.size + 1 + 1 + 1) (c := c) (f := a) (Blk.new w1 41 #[.slice A n c, .int .i64 a.per, .int .i64 a.inc]) (hI1.alloc' _) hA1)
  replace DB := Lib.hid ((DB.out.below hb DB.out.lt).alloc (.cells #[.slice A n c, .int .i64 a.per, .int .i64 a.inc] 41))
  replace RB := Lib.hid ((RB.out.below hb RB.out.lt).alloc (.cells #[.slice A n c, .int .i64 a.per, .int .i64 a.inc] 41))
  have BW := Lib.hid (bthen (bthen E.out.bw hb) (balloc _ (.cells #[.slice A n c, .int .i64 a.per, .int .i64 a.inc] 41)))
  have hl1 : a.vals.length = n := hI1.1
  clear hI1 hA1 hb E
  go_upto_region 2 with fail
  generalize hwz : w1.alloc (.cells #[.slice A n c, .int .i64 a.per, .int .i64 a.inc] 41) = wz at *
  clear hwz
  generalize hFe : w1.heap.size = F at *
  have hne1 : w.heap.size + 1 + 1 ≠ F := by omega
  have hne2 : w.heap.size + 1 + 1 ≠ w.heap.size + 1 := by omega
  clear hFe
  obtain ⟨⟨r0, r1, r2⟩, ⟨y0, y1, y2⟩, hlr⟩ := RB.out.c3
  have hN2 : (er ≠ 0 ∧ a = Cv.none ∧ LowerS ⟨xs, p, i⟩ d Cv.none er) ∨ (Cv.Ok ⟨xs, p, i⟩ ∧ 0 ≤ d ∧ d ≤ 1073741824 ∧ NF (Cv.at ⟨xs, p, i⟩) a ∧ a.Ok ∧ er = 0) := by
    rcases hN with ⟨h1, h2, rfl⟩ | ⟨h1, h2, h3, rfl⟩ | h1
    · exact .inl ⟨by decide, h2, .inl ⟨h1, rfl, rfl⟩⟩
    · exact .inl ⟨by decide, h3, .inr (.inl ⟨h1, h2, rfl, rfl⟩)⟩
    · exact .inr h1
  clear hN
  rcases hN2 with ⟨hne, _, hS⟩ | ⟨hf, hd0, hd1, hna, hao, rfl⟩
  rotate_left 1
  rotate_left 1
  · have F9 := Lib.hid hS
    have hne' : (er != 0) = true := by simpa using hne
    clear hS hne
    go_wp2_with fail
    have rb := RB.out.store3 (.slice none 0 0) (.int .i64 0) (.int .i64 0)
    refine bodyPost_ret (v := .tuple #[.agg #[(.slice none 0 0), .int .i64 0, .int .i64 0], .int .i64 er]) (by simp [results, Try.results63, go_sem, rb.cell]) rfl ?_
    exact retS_none F9.out (bst3 BW.out (by omega) _ _ _)
  · have ha1 := hao.n1; have ha2 := hao.n2; have hap := hao.p1; have hap2 := hao.p2; have hai := hao.i1; have hai2 := hao.i2; have hapn := hao.pn
    rw [hl1] at ha1 ha2 hapn
    have HA := Lib.hid hao
    obtain ⟨S, hS⟩ : ∃ S, S = a.vals.length - a.per.toNat := ⟨_, rfl⟩
    have hSi : (n : Int) - a.per = (S : Int) := by rw [hS, hl1]; omega
    have hS2 : S ≤ 400 := by omega
    obtain ⟨a0, a1, a2, hla⟩ := FA.out.cells
    have z0 := DB.out.cell 0
    simp at z0
    have hlz := DB.out.lt
    go_wp2_with fail
    refine (start_any A n c a.per a.inc _ (by omega) (by omega) (by omega)).mono ?_
    rw [hSi]
    rintro e w4 ⟨rfl, hbq⟩
    clear r0 r1 r2 y0 y1 y2 hlr
    have FA := Lib.hid (FA.out.below hbq); have DB := Lib.hid (DB.out.below hbq DB.out.lt); have BW := Lib.hid (bthen BW.out hbq); have RB := Lib.hid (RB.out.below hbq RB.out.lt)
    clear hbq
    clear a0 a1 a2 hla z0 hlz
    obtain ⟨a0, a1, a2, hla⟩ := FA.out.cells
    have z0 := DB.out.cell 0
    simp at z0
    have hlz := DB.out.lt
    obtain ⟨⟨r0, r1, r2⟩, ⟨y0, y1, y2⟩, hlr⟩ := RB.out.c3
    by_cases hi0 : a.inc = 0
    · have g1 : ¬ (0 : Int) < a.inc := by omega
      have FIN := Lib.hid (show ∀ r er, BuildS (lowerV a d) ((S : Int)).toNat a.per.toNat a.inc r er → LowerS ⟨xs, p, i⟩ d r er from fun r er h => .inr (.inr ⟨hf, hd0, hd1, a, hna, lower_build0 hao hd0 hi0 (by rw [← hS]; exact h)⟩))
      have HVAL := Lib.hid (show ∀ k : Nat, (k : Int) < (S : Int) + a.per → 0 ≤ lowerV a d k ∧ lowerV a d k ≤ 4611686018427387904 from fun k hk => lower_small hao hd0 (by omega))
      clear hf hna hao hl1 hS hSi hi0
      go_wp2_with fail
      -- the call of Build outside a drawn region: netcalculus/pointwise.Lower$1 closure, #[.pointer (some ⟨F, 0, none⟩), .pointer (some ⟨w.heap.size + 1, 0, none⟩)] captures, S start, (lowerV a d) values, lower1_any _ F _ A n c a d t w1 (FA.out.below hb) (DB.out.below hb DB.out.lt) HA.out hd0 hd1 (by omega) the closure's contract, netcalculus/pointwise.Lower the function
      refine (build_any 118 #[.pointer (some ⟨F, 0, none⟩), .pointer (some ⟨w.heap.size + 1, 0, none⟩)] S a.per a.inc (lowerV a d) _ (by omega) (by omega) (by omega) (by omega) (by omega) (by omega) HVAL.out (by exact fun t w1 ht hb => lower1_any _ F _ A n c a d t w1 (FA.out.below hb) (DB.out.below hb DB.out.lt) HA.out hd0 hd1 (by omega)) (fun x w => by kernel_rfl)).mono ?_
      rintro e w5 ⟨r, er, hS, A5, n5, c5, rfl, hI5, hA5, hbq⟩
      have FN := Lib.hid (FIN.out _ _ hS)
      have hs0 := RB.out.lt
      have HI5 := Lib.hid hI5; have HA5 := Lib.hid hA5
      clear hS hI5 hA5
      clear r0 r1 r2 y0 y1 y2 hlr
      have FA := Lib.hid (FA.out.below hbq); have DB := Lib.hid (DB.out.below hbq DB.out.lt); have BW := Lib.hid (bthen BW.out hbq); have RB := Lib.hid (RB.out.below hbq RB.out.lt)
      clear hbq
      clear a0 a1 a2 hla z0 hlz
      obtain ⟨a0, a1, a2, hla⟩ := FA.out.cells
      have z0 := DB.out.cell 0
      simp at z0
      have hlz := DB.out.lt
      obtain ⟨⟨r0, r1, r2⟩, ⟨y0, y1, y2⟩, hlr⟩ := RB.out.c3
      go_wp2_with fail
      have rb := RB.out.store3 (.slice A5 n5 c5) (.int .i64 r.per) (.int .i64 r.inc)
      refine bodyPost_ret (v := .tuple #[.agg #[(.slice A5 n5 c5), .int .i64 r.per, .int .i64 r.inc], .int .i64 er]) (by simp [results, Try.results63, go_sem, rb.cell]) rfl ?_
      exact retS_store FN.out HA5.out (by omega) hs0 HI5.out BW.out
    · have g1 : (0 : Int) < a.inc := by omega
      have hi1 : 0 < a.inc := g1
      obtain ⟨x, hx⟩ : ∃ x, x = a.at 400 := ⟨_, rfl⟩
      have HX := Lib.hid hx
      clear hl1 hS hSi hi0
      by_cases hxd : x < d
      · have FN := Lib.hid (show LowerS ⟨xs, p, i⟩ d Cv.none 3 from .inr (.inr ⟨hf, hd0, hd1, a, hna, MadeL.none_ (lower_no hao hi1 (by rw [← hx]; exact hxd))⟩))
        clear hf hna hao hx
        go_upto_region 8 with fail
        go_region_held3 (fun w' => w'.cell? ⟨F, 0, none⟩ = some (.slice A n c) ∧ w'.cell? ⟨F, 1, none⟩ = some (.int .i64 a.per) ∧ w'.cell? ⟨F, 2, none⟩ = some (.int .i64 a.inc) ∧ w'.cell? ⟨w.heap.size + 1, 0, none⟩ = some (.int .i64 d)) (first | go_keep)
          (first
            | (go_at_call 94
               refine (at_any A n c a.per a.inc 400 a.vals _ (by exact FA.out.drew.ints) (by omega) hap hapn hai (by omega) HA.out.nn (by omega) (by omega)).mono ?_
               rw [show ((400 : Int)).toNat = 400 from rfl, show Cv.at ⟨a.vals, a.per, a.inc⟩ 400 = x from HX.out.symm]
               rintro e w6 ⟨rfl, hbq⟩
               have hbq := bofdrew hbq
               clear r0 r1 r2 y0 y1 y2 hlr
               have FA := Lib.hid (FA.out.below hbq); have DB := Lib.hid (DB.out.below hbq DB.out.lt); have BW := Lib.hid (bthen BW.out hbq); have RB := Lib.hid (RB.out.below hbq RB.out.lt)
               clear hbq
               clear a0 a1 a2 hla z0 hlz
               obtain ⟨a0, a1, a2, hla⟩ := FA.out.cells
               have z0 := DB.out.cell 0
               simp at z0
               have hlz := DB.out.lt
               obtain ⟨⟨r0, r1, r2⟩, ⟨y0, y1, y2⟩, hlr⟩ := RB.out.c3
               skip))
        all_goals
          go_wp2_with fail
          have rb := RB.out.store3 (.slice none 0 0) (.int .i64 0) (.int .i64 0)
          refine bodyPost_ret (v := .tuple #[.agg #[(.slice none 0 0), .int .i64 0, .int .i64 0], .int .i64 3]) (by simp [results, Try.results63, go_sem, rb.cell]) rfl ?_
          exact retS_none FN.out (bst3 BW.out (by omega) _ _ _)
      · have FIN := Lib.hid (show ∀ r er, BuildS (lowerV a d) ((400 : Int)).toNat a.per.toNat a.inc r er → LowerS ⟨xs, p, i⟩ d r er from fun r er h => .inr (.inr ⟨hf, hd0, hd1, a, hna, lower_build1 hao hd0 (by omega) h⟩))
        have HVAL := Lib.hid (show ∀ k : Nat, (k : Int) < (400 : Int) + a.per → 0 ≤ lowerV a d k ∧ lowerV a d k ≤ 4611686018427387904 from fun k hk => lower_small hao hd0 (by omega))
        clear hf hna hao hx
        go_upto_region 8 with fail
        go_region_held3 (fun w' => w'.cell? ⟨F, 0, none⟩ = some (.slice A n c) ∧ w'.cell? ⟨F, 1, none⟩ = some (.int .i64 a.per) ∧ w'.cell? ⟨F, 2, none⟩ = some (.int .i64 a.inc) ∧ w'.cell? ⟨w.heap.size + 1, 0, none⟩ = some (.int .i64 d)) (first | go_keep)
          (first
            | (go_at_call 94
               refine (at_any A n c a.per a.inc 400 a.vals _ (by exact FA.out.drew.ints) (by omega) hap hapn hai (by omega) HA.out.nn (by omega) (by omega)).mono ?_
               rw [show ((400 : Int)).toNat = 400 from rfl, show Cv.at ⟨a.vals, a.per, a.inc⟩ 400 = x from HX.out.symm]
               rintro e w6 ⟨rfl, hbq⟩
               have hbq := bofdrew hbq
               clear r0 r1 r2 y0 y1 y2 hlr
               have FA := Lib.hid (FA.out.below hbq); have DB := Lib.hid (DB.out.below hbq DB.out.lt); have BW := Lib.hid (bthen BW.out hbq); have RB := Lib.hid (RB.out.below hbq RB.out.lt)
               clear hbq
               clear a0 a1 a2 hla z0 hlz
               obtain ⟨a0, a1, a2, hla⟩ := FA.out.cells
               have z0 := DB.out.cell 0
               simp at z0
               have hlz := DB.out.lt
               obtain ⟨⟨r0, r1, r2⟩, ⟨y0, y1, y2⟩, hlr⟩ := RB.out.c3
               skip))
        all_goals
          go_wp2_with fail
          -- the call of Build outside a drawn region: netcalculus/pointwise.Lower$1 closure, #[.pointer (some ⟨F, 0, none⟩), .pointer (some ⟨w.heap.size + 1, 0, none⟩)] captures, 400 start, (lowerV a d) values, lower1_any _ F _ A n c a d t w1 (FA.out.below hb) (DB.out.below hb DB.out.lt) HA.out hd0 hd1 (by omega) the closure's contract, netcalculus/pointwise.Lower the function
          refine (build_any 118 #[.pointer (some ⟨F, 0, none⟩), .pointer (some ⟨w.heap.size + 1, 0, none⟩)] 400 a.per a.inc (lowerV a d) _ (by omega) (by omega) (by omega) (by omega) (by omega) (by omega) HVAL.out (by exact fun t w1 ht hb => lower1_any _ F _ A n c a d t w1 (FA.out.below hb) (DB.out.below hb DB.out.lt) HA.out hd0 hd1 (by omega)) (fun x w => by kernel_rfl)).mono ?_
          rintro e w5 ⟨r, er, hS, A5, n5, c5, rfl, hI5, hA5, hbq⟩
          have FN := Lib.hid (FIN.out _ _ hS)
          have hs0 := RB.out.lt
          have HI5 := Lib.hid hI5; have HA5 := Lib.hid hA5
          clear hS hI5 hA5
          clear r0 r1 r2 y0 y1 y2 hlr
          have FA := Lib.hid (FA.out.below hbq); have DB := Lib.hid (DB.out.below hbq DB.out.lt); have BW := Lib.hid (bthen BW.out hbq); have RB := Lib.hid (RB.out.below hbq RB.out.lt)
          clear hbq
          clear a0 a1 a2 hla z0 hlz
          obtain ⟨a0, a1, a2, hla⟩ := FA.out.cells
          have z0 := DB.out.cell 0
          simp at z0
          have hlz := DB.out.lt
          obtain ⟨⟨r0, r1, r2⟩, ⟨y0, y1, y2⟩, hlr⟩ := RB.out.c3
          go_wp2_with fail
          have rb := RB.out.store3 (.slice A5 n5 c5) (.int .i64 r.per) (.int .i64 r.inc)
          refine bodyPost_ret (v := .tuple #[.agg #[(.slice A5 n5 c5), .int .i64 r.per, .int .i64 r.inc], .int .i64 er]) (by simp [results, Try.results63, go_sem, rb.cell]) rfl ?_
          exact retS_store FN.out HA5.out (by omega) hs0 HI5.out BW.out

theorem flat_is {f a : Cv} (hna : NF f.at a) (h1 : a.vals.length = 1) (h2 : nth a.vals 0 = 0) (h3 : a.inc = 0) (hao : a.Ok) : a = ⟨[0], 1, 0⟩ := by
  have hp1 := hao.p1; have hpn := hao.pn
  refine cv_ext (list_ext (by rw [h1]; rfl) (fun k hk => ?_)) (by show a.per = 1; omega) h3
  rw [show k = 0 by omega, h2]; rfl
theorem later_not {f a : Cv} (hna : NF f.at a) (h : ¬ (a.vals.length = 1 ∧ nth a.vals 0 = 0 ∧ a.inc = 0)) : ∃ t, a.at t ≠ 0 := Classical.byContradiction fun hx => by
  have e := nf_zero hna (fun t => Classical.byContradiction fun h2 => hx ⟨t, h2⟩)
  exact h (by rw [e]; exact ⟨rfl, rfl, rfl⟩)
set_option maxHeartbeats 4000000 in
set_option maxRecDepth 100000 in
theorem platerF_any (A0 : Option Addr) (n0 c0 : Nat) (p i d : Int) (xs : List Int) (w : World) (hA : Ints w w.heap.size A0 n0 xs) (hn : (n0 : Int) ≤ 1000000) : Calls Try.prog 62 #[.agg #[.slice A0 n0 c0, .int .i64 p, .int .i64 i], .int .i64 d] w (RetS (LaterS ⟨xs, p, i⟩ d) w) := by
  -- netcalculus/pointwise.Later the function, 0 1048576 the range, LaterS the spec, {4} its word
  have E := Lib.hid (((L1.new (c := c0) (p := p) (i := i) hA).alloc (.cells #[.int .i64 d] 3)).alloc (.cells #[.slice none 0 0, .int .i64 0, .int .i64 0] 41))
  have db := (Blk.new (w.alloc (.cells #[.slice A0 n0 c0, .int .i64 p, .int .i64 i] 41)) 3 #[.int .i64 d]).alloc (.cells #[.slice none 0 0, .int .i64 0, .int .i64 0] 41)
  have rb := Blk.new ((w.alloc (.cells #[.slice A0 n0 c0, .int .i64 p, .int .i64 i] 41)).alloc (.cells #[.int .i64 d] 3)) 41 #[.slice none 0 0, .int .i64 0, .int .i64 0]
  rw [World.size_alloc] at db
  rw [World.size_alloc, World.size_alloc] at rb
  have DB := Lib.hid db; have RB := Lib.hid rb
  clear hA db rb
  go_enter Try.func62, Try.ntmps62
  go_wp2_with fail
  refine (one_any A0 n0 c0 p i d 0 1048576 xs _ E.out.ints hn).mono ?_
  rintro e w1 ⟨a, er, hN, A, n, c, rfl, hI1, hA1, hb⟩
  simp only [World.size_alloc] at hA1
  have hs0 := (RB.out.below hb RB.out.lt).lt
  have FA := Lib.hid (Bz.mk (L := w.heap.size + 1 + 1 + 1) (c := c) (f := a) (Blk.new w1 41 #[.slice A n c, .int .i64 a.per, .int .i64 a.inc]) (hI1.alloc' _) hA1)
  replace DB := Lib.hid ((DB.out.below hb DB.out.lt).alloc (.cells #[.slice A n c, .int .i64 a.per, .int .i64 a.inc] 41))
  replace RB := Lib.hid ((RB.out.below hb RB.out.lt).alloc (.cells #[.slice A n c, .int .i64 a.per, .int .i64 a.inc] 41))
  have BW := Lib.hid (bthen (bthen E.out.bw hb) (balloc _ (.cells #[.slice A n c, .int .i64 a.per, .int .i64 a.inc] 41)))
  have hl1 : a.vals.length = n := hI1.1
  clear hI1 hA1 hb E
  go_upto_region 2 with fail
  generalize hwz : w1.alloc (.cells #[.slice A n c, .int .i64 a.per, .int .i64 a.inc] 41) = wz at *
  clear hwz
  generalize hFe : w1.heap.size = F at *
  have hne1 : w.heap.size + 1 + 1 ≠ F := by omega
  have hne2 : w.heap.size + 1 + 1 ≠ w.heap.size + 1 := by omega
  clear hFe
  obtain ⟨⟨r0, r1, r2⟩, ⟨y0, y1, y2⟩, hlr⟩ := RB.out.c3
  have hN2 : (er ≠ 0 ∧ a = Cv.none ∧ LaterS ⟨xs, p, i⟩ d Cv.none er) ∨ (Cv.Ok ⟨xs, p, i⟩ ∧ 0 ≤ d ∧ d ≤ 1048576 ∧ NF (Cv.at ⟨xs, p, i⟩) a ∧ a.Ok ∧ er = 0) := by
    rcases hN with ⟨h1, h2, rfl⟩ | ⟨h1, h2, h3, rfl⟩ | h1
    · exact .inl ⟨by decide, h2, .inl ⟨h1, rfl, rfl⟩⟩
    · exact .inl ⟨by decide, h3, .inr (.inl ⟨h1, h2, rfl, rfl⟩)⟩
    · exact .inr h1
  clear hN
  rcases hN2 with ⟨hne, _, hS⟩ | ⟨hf, hd0, hd1, hna, hao, rfl⟩
  rotate_left 1
  rotate_left 1
  · have F9 := Lib.hid hS
    have hne' : (er != 0) = true := by simpa using hne
    clear hS hne
    go_wp2_with fail
    have rb := RB.out.store3 (.slice none 0 0) (.int .i64 0) (.int .i64 0)
    refine bodyPost_ret (v := .tuple #[.agg #[(.slice none 0 0), .int .i64 0, .int .i64 0], .int .i64 er]) (by simp [results, Try.results62, go_sem, rb.cell]) rfl ?_
    exact retS_none F9.out (bst3 BW.out (by omega) _ _ _)
  · obtain ⟨D0, rfl⟩ := Int.eq_ofNat_of_zero_le hd0
    have ha1 := hao.n1; have ha2 := hao.n2; have hap := hao.p1; have hap2 := hao.p2; have hai := hao.i1; have hai2 := hao.i2; have hapn := hao.pn
    rw [hl1] at ha1 ha2 hapn
    have HA := Lib.hid hao
    obtain ⟨S, hS⟩ : ∃ S, S = D0 + (a.vals.length - a.per.toNat) := ⟨_, rfl⟩
    obtain ⟨b, off, hAe, hbl, hcell⟩ := FA.out.ints.2 (by omega)
    subst hAe
    have hc0 := hcell 0 (by omega)
    rw [Nat.add_zero] at hc0
    obtain ⟨x, hx⟩ : ∃ x, x = nth a.vals 0 := ⟨_, rfl⟩
    rw [← hx] at hc0
    have HX := Lib.hid hx
    clear hx
    obtain ⟨a0, a1, a2, hla⟩ := FA.out.cells
    have z0 := DB.out.cell 0
    simp at z0
    have hlz := DB.out.lt
    clear hcell
    by_cases h1 : n = 1
    · have g1 : ((n : Int) == 1) = true := by simp only [beq_iff_eq]; omega
      by_cases h2 : x = 0
      · have g2 : (x == 0) = true := by simpa using h2
        by_cases h3 : a.inc = 0
        · have g3 : (a.inc == 0) = true := by simpa using h3
          have FN := Lib.hid (show LaterS ⟨xs, p, i⟩ (D0 : Int) a 0 from .inr (.inr ⟨hf, hd0, hd1, a, hna, by
            rw [flat_is hna (by rw [hl1]; exact h1) (by rw [← HX.out]; exact h2) h3 hao, Int.toNat_natCast]; exact later_zero D0⟩))
          have hs0' := FA.out.lo b off none rfl
          clear hf hna hao hl1 hS h1 h2 h3
          go_wp2_with fail
          have rb := RB.out.store3 (.slice (some ⟨b, off, none⟩) n c) (.int .i64 a.per) (.int .i64 a.inc)
          refine bodyPost_ret (v := .tuple #[.agg #[.slice (some ⟨b, off, none⟩) n c, .int .i64 a.per, .int .i64 a.inc], .int .i64 0]) (by simp [results, Try.results62, go_sem, rb.cell]) rfl ?_
          exact retS_store FN.out (B := w.heap.size + 1 + 1 + 1) FA.out.lo (by omega) (by omega) FA.out.ints BW.out
        · have g3 : (a.inc == 0) = false := by simpa using h3
          have HNZ := Lib.hid (show ¬ (a.vals.length = 1 ∧ nth a.vals 0 = 0 ∧ a.inc = 0) from fun h => h3 h.2.2)
          clear h1 h2 h3
          -- the tail of Later behind its first test
          by_cases hD : 400 < D0
          · have FN := Lib.hid (show LaterS ⟨xs, p, i⟩ (D0 : Int) Cv.none 3 from .inr (.inr ⟨hf, hd0, hd1, a, hna, by rw [Int.toNat_natCast]; exact later_none hf hna hD (later_not hna HNZ.out)⟩))
            have hD2 : (400 : Int) < (D0 : Int) := by omega
            clear hf hna hao hD hl1 hS
            go_wp2_with fail
            have rb := RB.out.store3 (.slice none 0 0) (.int .i64 0) (.int .i64 0)
            refine bodyPost_ret (v := .tuple #[.agg #[(.slice none 0 0), .int .i64 0, .int .i64 0], .int .i64 3]) (by simp [results, Try.results62, go_sem, rb.cell]) rfl ?_
            exact retS_none FN.out (bst3 BW.out (by omega) _ _ _)
          · have hD2 : ¬ (400 : Int) < (D0 : Int) := by omega
            have e2 : IntKind.i64.wrap ((D0 : Int) + ((n : Int) - a.per)) = (S : Int) := by rw [hS, hl1, IntWalk.i64_in _ (by omega)]; omega
            have hS2 : S ≤ 800 := by omega
            have FIN := Lib.hid (show ∀ r er, BuildS (laterV a D0) ((S : Int)).toNat a.per.toNat a.inc r er → LaterS ⟨xs, p, i⟩ (D0 : Int) r er from fun r er h => .inr (.inr ⟨hf, hd0, hd1, a, hna, by
              rw [Int.toNat_natCast] at h ⊢
              refine build_made (by omega) (fun t u ht htu hi => (later_inf hao (by omega) hi htu).2) (fun hne => ?_) h
              have hF : a.Fin := ⟨hao, fun e => hne (D0 + (a.vals.length - 1)) (by omega) (by rw [laterV_ge (by omega), hao.at_inf e (by omega)])⟩
              rw [hS]
              exact later_per hF D0⟩))
            have HVAL := Lib.hid (show ∀ k : Nat, (k : Int) < (S : Int) + a.per → 0 ≤ laterV a D0 k ∧ laterV a D0 k ≤ 4611686018427387904 from fun k hk => by
              refine ⟨(later_up hao D0).nn k, ?_⟩
              unfold laterV
              split
              · omega
              · exact (hao.at_bd (by omega)).2.1)
            clear hf hna hao hl1 hS hD
            go_upto_region 9 with fail
            go_region_held3 (fun w' => w'.cell? ⟨F, 0, none⟩ = some (.slice (some ⟨b, off, none⟩) n c) ∧ w'.cell? ⟨F, 1, none⟩ = some (.int .i64 a.per) ∧ w'.cell? ⟨F, 2, none⟩ = some (.int .i64 a.inc) ∧ w'.cell? ⟨w.heap.size + 1, 0, none⟩ = some (.int .i64 (D0 : Int))) (first | go_keep | exact ⟨(cell_set3 hne1).trans a0, (cell_set3 hne1).trans a1, (cell_set3 hne1).trans a2, (cell_set3 hne2).trans z0⟩)
              (first
                | (go_at_call 106
                   refine (start_any (some ⟨b, off, none⟩) n c a.per a.inc _ (by omega) (by omega) (by omega)).mono ?_
                   rintro e w4 ⟨rfl, hbq⟩
                   have FA := Lib.hid FA.out.drew; have DB := Lib.hid (Blk.drew DB.out); have BW := Lib.hid (Below.drew BW.out); have RB := Lib.hid (Blk.drew RB.out)
                   have FA := Lib.hid (FA.out.below hbq); have DB := Lib.hid (DB.out.below hbq DB.out.lt); have BW := Lib.hid (bthen BW.out hbq); have RB := Lib.hid (RB.out.below hbq RB.out.lt)
                   clear hbq
                   clear a0 a1 a2 hla z0 hlz
                   obtain ⟨a0, a1, a2, hla⟩ := FA.out.cells
                   have z0 := DB.out.cell 0
                   simp at z0
                   have hlz := DB.out.lt
                   skip)
                -- netcalculus/pointwise.Later$1 closure, #[.pointer (some ⟨w.heap.size + 1, 0, none⟩), .pointer (some ⟨F, 0, none⟩)] captures, S start, (laterV a D0) values, later1_any _ F _ (some ⟨b, off, none⟩) n c a D0 t w1 (FA.out.below hb) (DB.out.below hb DB.out.lt) HA.out D0 rfl (by omega) (by omega) the closure's contract
                | (go_at_call 81
                   refine (build_any 117 #[.pointer (some ⟨w.heap.size + 1, 0, none⟩), .pointer (some ⟨F, 0, none⟩)] S a.per a.inc (laterV a D0) _ (by omega) (by omega) (by omega) (by omega) (by omega) (by omega) HVAL.out (by exact fun t w1 ht hb => later1_any _ F _ (some ⟨b, off, none⟩) n c a D0 t w1 (FA.out.below hb) (DB.out.below hb DB.out.lt) HA.out D0 rfl (by omega) (by omega)) (fun x w => by kernel_rfl)).mono ?_
                   rintro e w5 ⟨r, er, hS, A5, n5, c5, rfl, hI5, hA5, hbq⟩
                   have FN := Lib.hid (FIN.out _ _ hS)
                   have hs0 := RB.out.lt
                   have HI5 := Lib.hid hI5; have HA5 := Lib.hid hA5
                   clear hS hI5 hA5
                   clear r0 r1 r2 y0 y1 y2 hlr
                   have FA := Lib.hid (FA.out.below hbq); have DB := Lib.hid (DB.out.below hbq DB.out.lt); have BW := Lib.hid (bthen BW.out hbq); have RB := Lib.hid (RB.out.below hbq RB.out.lt)
                   clear hbq
                   clear a0 a1 a2 hla z0 hlz
                   obtain ⟨a0, a1, a2, hla⟩ := FA.out.cells
                   have z0 := DB.out.cell 0
                   simp at z0
                   have hlz := DB.out.lt
                   obtain ⟨⟨r0, r1, r2⟩, ⟨y0, y1, y2⟩, hlr⟩ := RB.out.c3
                   skip)
              )
            all_goals
              go_wp2_with fail
              have rb := RB.out.store3 (.slice A5 n5 c5) (.int .i64 r.per) (.int .i64 r.inc)
              refine bodyPost_ret (v := .tuple #[.agg #[(.slice A5 n5 c5), .int .i64 r.per, .int .i64 r.inc], .int .i64 er]) (by simp [results, Try.results62, go_sem, rb.cell]) rfl ?_
              exact retS_store FN.out HA5.out (by omega) hs0 HI5.out BW.out
      · have g2 : (x == 0) = false := by simpa using h2
        have HNZ := Lib.hid (show ¬ (a.vals.length = 1 ∧ nth a.vals 0 = 0 ∧ a.inc = 0) from fun h => h2 (by rw [HX.out]; exact h.2.1))
        clear h1 h2
        -- the tail of Later behind its first test
        by_cases hD : 400 < D0
        · have FN := Lib.hid (show LaterS ⟨xs, p, i⟩ (D0 : Int) Cv.none 3 from .inr (.inr ⟨hf, hd0, hd1, a, hna, by rw [Int.toNat_natCast]; exact later_none hf hna hD (later_not hna HNZ.out)⟩))
          have hD2 : (400 : Int) < (D0 : Int) := by omega
          clear hf hna hao hD hl1 hS
          go_wp2_with fail
          have rb := RB.out.store3 (.slice none 0 0) (.int .i64 0) (.int .i64 0)
          refine bodyPost_ret (v := .tuple #[.agg #[(.slice none 0 0), .int .i64 0, .int .i64 0], .int .i64 3]) (by simp [results, Try.results62, go_sem, rb.cell]) rfl ?_
          exact retS_none FN.out (bst3 BW.out (by omega) _ _ _)
        · have hD2 : ¬ (400 : Int) < (D0 : Int) := by omega
          have e2 : IntKind.i64.wrap ((D0 : Int) + ((n : Int) - a.per)) = (S : Int) := by rw [hS, hl1, IntWalk.i64_in _ (by omega)]; omega
          have hS2 : S ≤ 800 := by omega
          have FIN := Lib.hid (show ∀ r er, BuildS (laterV a D0) ((S : Int)).toNat a.per.toNat a.inc r er → LaterS ⟨xs, p, i⟩ (D0 : Int) r er from fun r er h => .inr (.inr ⟨hf, hd0, hd1, a, hna, by
            rw [Int.toNat_natCast] at h ⊢
            refine build_made (by omega) (fun t u ht htu hi => (later_inf hao (by omega) hi htu).2) (fun hne => ?_) h
            have hF : a.Fin := ⟨hao, fun e => hne (D0 + (a.vals.length - 1)) (by omega) (by rw [laterV_ge (by omega), hao.at_inf e (by omega)])⟩
            rw [hS]
            exact later_per hF D0⟩))
          have HVAL := Lib.hid (show ∀ k : Nat, (k : Int) < (S : Int) + a.per → 0 ≤ laterV a D0 k ∧ laterV a D0 k ≤ 4611686018427387904 from fun k hk => by
            refine ⟨(later_up hao D0).nn k, ?_⟩
            unfold laterV
            split
            · omega
            · exact (hao.at_bd (by omega)).2.1)
          clear hf hna hao hl1 hS hD
          go_upto_region 9 with fail
          go_region_held3 (fun w' => w'.cell? ⟨F, 0, none⟩ = some (.slice (some ⟨b, off, none⟩) n c) ∧ w'.cell? ⟨F, 1, none⟩ = some (.int .i64 a.per) ∧ w'.cell? ⟨F, 2, none⟩ = some (.int .i64 a.inc) ∧ w'.cell? ⟨w.heap.size + 1, 0, none⟩ = some (.int .i64 (D0 : Int))) (first | go_keep | exact ⟨(cell_set3 hne1).trans a0, (cell_set3 hne1).trans a1, (cell_set3 hne1).trans a2, (cell_set3 hne2).trans z0⟩)
            (first
              | (go_at_call 106
                 refine (start_any (some ⟨b, off, none⟩) n c a.per a.inc _ (by omega) (by omega) (by omega)).mono ?_
                 rintro e w4 ⟨rfl, hbq⟩
                 have FA := Lib.hid FA.out.drew; have DB := Lib.hid (Blk.drew DB.out); have BW := Lib.hid (Below.drew BW.out); have RB := Lib.hid (Blk.drew RB.out)
                 have FA := Lib.hid (FA.out.below hbq); have DB := Lib.hid (DB.out.below hbq DB.out.lt); have BW := Lib.hid (bthen BW.out hbq); have RB := Lib.hid (RB.out.below hbq RB.out.lt)
                 clear hbq
                 clear a0 a1 a2 hla z0 hlz
                 obtain ⟨a0, a1, a2, hla⟩ := FA.out.cells
                 have z0 := DB.out.cell 0
                 simp at z0
                 have hlz := DB.out.lt
                 skip)
              -- netcalculus/pointwise.Later$1 closure, #[.pointer (some ⟨w.heap.size + 1, 0, none⟩), .pointer (some ⟨F, 0, none⟩)] captures, S start, (laterV a D0) values, later1_any _ F _ (some ⟨b, off, none⟩) n c a D0 t w1 (FA.out.below hb) (DB.out.below hb DB.out.lt) HA.out D0 rfl (by omega) (by omega) the closure's contract
              | (go_at_call 81
                 refine (build_any 117 #[.pointer (some ⟨w.heap.size + 1, 0, none⟩), .pointer (some ⟨F, 0, none⟩)] S a.per a.inc (laterV a D0) _ (by omega) (by omega) (by omega) (by omega) (by omega) (by omega) HVAL.out (by exact fun t w1 ht hb => later1_any _ F _ (some ⟨b, off, none⟩) n c a D0 t w1 (FA.out.below hb) (DB.out.below hb DB.out.lt) HA.out D0 rfl (by omega) (by omega)) (fun x w => by kernel_rfl)).mono ?_
                 rintro e w5 ⟨r, er, hS, A5, n5, c5, rfl, hI5, hA5, hbq⟩
                 have FN := Lib.hid (FIN.out _ _ hS)
                 have hs0 := RB.out.lt
                 have HI5 := Lib.hid hI5; have HA5 := Lib.hid hA5
                 clear hS hI5 hA5
                 clear r0 r1 r2 y0 y1 y2 hlr
                 have FA := Lib.hid (FA.out.below hbq); have DB := Lib.hid (DB.out.below hbq DB.out.lt); have BW := Lib.hid (bthen BW.out hbq); have RB := Lib.hid (RB.out.below hbq RB.out.lt)
                 clear hbq
                 clear a0 a1 a2 hla z0 hlz
                 obtain ⟨a0, a1, a2, hla⟩ := FA.out.cells
                 have z0 := DB.out.cell 0
                 simp at z0
                 have hlz := DB.out.lt
                 obtain ⟨⟨r0, r1, r2⟩, ⟨y0, y1, y2⟩, hlr⟩ := RB.out.c3
                 skip)
            )
          all_goals
            go_wp2_with fail
            have rb := RB.out.store3 (.slice A5 n5 c5) (.int .i64 r.per) (.int .i64 r.inc)
            refine bodyPost_ret (v := .tuple #[.agg #[(.slice A5 n5 c5), .int .i64 r.per, .int .i64 r.inc], .int .i64 er]) (by simp [results, Try.results62, go_sem, rb.cell]) rfl ?_
            exact retS_store FN.out HA5.out (by omega) hs0 HI5.out BW.out
    · have g1 : ((n : Int) == 1) = false := by simp only [beq_eq_false_iff_ne]; omega
      have HNZ := Lib.hid (show ¬ (a.vals.length = 1 ∧ nth a.vals 0 = 0 ∧ a.inc = 0) from fun h => h1 (by rw [← hl1]; exact h.1))
      clear h1
      -- the tail of Later behind its first test
      by_cases hD : 400 < D0
      · have FN := Lib.hid (show LaterS ⟨xs, p, i⟩ (D0 : Int) Cv.none 3 from .inr (.inr ⟨hf, hd0, hd1, a, hna, by rw [Int.toNat_natCast]; exact later_none hf hna hD (later_not hna HNZ.out)⟩))
        have hD2 : (400 : Int) < (D0 : Int) := by omega
        clear hf hna hao hD hl1 hS
        go_wp2_with fail
        have rb := RB.out.store3 (.slice none 0 0) (.int .i64 0) (.int .i64 0)
        refine bodyPost_ret (v := .tuple #[.agg #[(.slice none 0 0), .int .i64 0, .int .i64 0], .int .i64 3]) (by simp [results, Try.results62, go_sem, rb.cell]) rfl ?_
        exact retS_none FN.out (bst3 BW.out (by omega) _ _ _)
      · have hD2 : ¬ (400 : Int) < (D0 : Int) := by omega
        have e2 : IntKind.i64.wrap ((D0 : Int) + ((n : Int) - a.per)) = (S : Int) := by rw [hS, hl1, IntWalk.i64_in _ (by omega)]; omega
        have hS2 : S ≤ 800 := by omega
        have FIN := Lib.hid (show ∀ r er, BuildS (laterV a D0) ((S : Int)).toNat a.per.toNat a.inc r er → LaterS ⟨xs, p, i⟩ (D0 : Int) r er from fun r er h => .inr (.inr ⟨hf, hd0, hd1, a, hna, by
          rw [Int.toNat_natCast] at h ⊢
          refine build_made (by omega) (fun t u ht htu hi => (later_inf hao (by omega) hi htu).2) (fun hne => ?_) h
          have hF : a.Fin := ⟨hao, fun e => hne (D0 + (a.vals.length - 1)) (by omega) (by rw [laterV_ge (by omega), hao.at_inf e (by omega)])⟩
          rw [hS]
          exact later_per hF D0⟩))
        have HVAL := Lib.hid (show ∀ k : Nat, (k : Int) < (S : Int) + a.per → 0 ≤ laterV a D0 k ∧ laterV a D0 k ≤ 4611686018427387904 from fun k hk => by
          refine ⟨(later_up hao D0).nn k, ?_⟩
          unfold laterV
          split
          · omega
          · exact (hao.at_bd (by omega)).2.1)
        clear hf hna hao hl1 hS hD
        go_upto_region 9 with fail
        go_region_held3 (fun w' => w'.cell? ⟨F, 0, none⟩ = some (.slice (some ⟨b, off, none⟩) n c) ∧ w'.cell? ⟨F, 1, none⟩ = some (.int .i64 a.per) ∧ w'.cell? ⟨F, 2, none⟩ = some (.int .i64 a.inc) ∧ w'.cell? ⟨w.heap.size + 1, 0, none⟩ = some (.int .i64 (D0 : Int))) (first | go_keep | exact ⟨(cell_set3 hne1).trans a0, (cell_set3 hne1).trans a1, (cell_set3 hne1).trans a2, (cell_set3 hne2).trans z0⟩)
          (first
            | (go_at_call 106
               refine (start_any (some ⟨b, off, none⟩) n c a.per a.inc _ (by omega) (by omega) (by omega)).mono ?_
               rintro e w4 ⟨rfl, hbq⟩
               have FA := Lib.hid FA.out.drew; have DB := Lib.hid (Blk.drew DB.out); have BW := Lib.hid (Below.drew BW.out); have RB := Lib.hid (Blk.drew RB.out)
               have FA := Lib.hid (FA.out.below hbq); have DB := Lib.hid (DB.out.below hbq DB.out.lt); have BW := Lib.hid (bthen BW.out hbq); have RB := Lib.hid (RB.out.below hbq RB.out.lt)
               clear hbq
               clear a0 a1 a2 hla z0 hlz
               obtain ⟨a0, a1, a2, hla⟩ := FA.out.cells
               have z0 := DB.out.cell 0
               simp at z0
               have hlz := DB.out.lt
               skip)
            -- netcalculus/pointwise.Later$1 closure, #[.pointer (some ⟨w.heap.size + 1, 0, none⟩), .pointer (some ⟨F, 0, none⟩)] captures, S start, (laterV a D0) values, later1_any _ F _ (some ⟨b, off, none⟩) n c a D0 t w1 (FA.out.below hb) (DB.out.below hb DB.out.lt) HA.out D0 rfl (by omega) (by omega) the closure's contract
            | (go_at_call 81
               refine (build_any 117 #[.pointer (some ⟨w.heap.size + 1, 0, none⟩), .pointer (some ⟨F, 0, none⟩)] S a.per a.inc (laterV a D0) _ (by omega) (by omega) (by omega) (by omega) (by omega) (by omega) HVAL.out (by exact fun t w1 ht hb => later1_any _ F _ (some ⟨b, off, none⟩) n c a D0 t w1 (FA.out.below hb) (DB.out.below hb DB.out.lt) HA.out D0 rfl (by omega) (by omega)) (fun x w => by kernel_rfl)).mono ?_
               rintro e w5 ⟨r, er, hS, A5, n5, c5, rfl, hI5, hA5, hbq⟩
               have FN := Lib.hid (FIN.out _ _ hS)
               have hs0 := RB.out.lt
               have HI5 := Lib.hid hI5; have HA5 := Lib.hid hA5
               clear hS hI5 hA5
               clear r0 r1 r2 y0 y1 y2 hlr
               have FA := Lib.hid (FA.out.below hbq); have DB := Lib.hid (DB.out.below hbq DB.out.lt); have BW := Lib.hid (bthen BW.out hbq); have RB := Lib.hid (RB.out.below hbq RB.out.lt)
               clear hbq
               clear a0 a1 a2 hla z0 hlz
               obtain ⟨a0, a1, a2, hla⟩ := FA.out.cells
               have z0 := DB.out.cell 0
               simp at z0
               have hlz := DB.out.lt
               obtain ⟨⟨r0, r1, r2⟩, ⟨y0, y1, y2⟩, hlr⟩ := RB.out.c3
               skip)
          )
        all_goals
          go_wp2_with fail
          have rb := RB.out.store3 (.slice A5 n5 c5) (.int .i64 r.per) (.int .i64 r.inc)
          refine bodyPost_ret (v := .tuple #[.agg #[(.slice A5 n5 c5), .int .i64 r.per, .int .i64 r.inc], .int .i64 er]) (by simp [results, Try.results62, go_sem, rb.cell]) rfl ?_
          exact retS_store FN.out HA5.out (by omega) hs0 HI5.out BW.out
end Go.Proofs.Ytmieikfmbnaoaaa
