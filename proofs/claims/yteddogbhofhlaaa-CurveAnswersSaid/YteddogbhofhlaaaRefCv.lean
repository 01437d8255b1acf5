/- netcalculusref02's Normal, Start, Value, Equal, and curve.Start: what each returns. -/
import Derived.Test.YteddogbhofhlaaaLeast
import Derived.Test.YteddogbhofhlaaaEqual
namespace Go.Proofs.Yteddogbhofhlaaa
open Go.RowKit
set_option linter.unusedVariables false

/-- what the two functions of the normal form return -/
def NormR (f g : Cv) (er : Int) : Prop := (f.Ok ∧ NF f.at g ∧ g.Ok ∧ er = 0) ∨ (¬ f.Ok ∧ g = Cv.none ∧ er = 1)
theorem NormR.unique {f g g' : Cv} {er er' : Int} (h : NormR f g er) (k : NormR f g' er') : g = g' ∧ er = er' := by
  rcases h with ⟨h1, h2, _, rfl⟩ | ⟨h1, rfl, rfl⟩ <;> rcases k with ⟨k1, k2, _, rfl⟩ | ⟨k1, rfl, rfl⟩
  · exact ⟨h2.unique k2, rfl⟩
  · exact absurd h1 k1
  · exact absurd k1 h1
  · exact ⟨rfl, rfl⟩
theorem NormR.of {f g : Cv} {er : Int} (h : NormalS f g er) : NormR f g er := by
  by_cases hf : f.Ok
  · obtain ⟨h1, h2, h3, _⟩ := normal_ok hf h
    exact .inl ⟨hf, h2, h3, h1⟩
  · rcases h with ⟨h, _⟩ | ⟨_, h1, h2⟩
    · exact absurd (Cv.okB_iff.1 h) hf
    · exact .inr ⟨hf, h1, h2⟩
theorem NormR.len {f g : Cv} {er : Int} (h : NormR f g er) : g.vals.length ≤ 400 := by
  rcases h with ⟨_, _, h, _⟩ | ⟨_, rfl, _⟩
  · exact h.n2
  · decide
/-- what the two functions of the start return -/
def StartR (f : Cv) (r : Int) : Prop := (f.Ok ∧ ∃ g, NF f.at g ∧ r = (g.vals.length : Int) - g.per) ∨ (¬ f.Ok ∧ r = 0)
theorem StartR.unique {f : Cv} {r r' : Int} (h : StartR f r) (k : StartR f r') : r = r' := by
  rcases h with ⟨h1, g, h2, rfl⟩ | ⟨h1, rfl⟩ <;> rcases k with ⟨k1, g', k2, rfl⟩ | ⟨k1, rfl⟩
  · rw [h2.unique k2]
  · exact absurd h1 k1
  · exact absurd k1 h1
  · rfl
def RetSt (f : Cv) (w : World) (e : Ending) (w' : World) : Prop := ∃ r, StartR f r ∧ e = .returned (.int .i64 r) ∧ Below w.heap.size w w'


set_option maxHeartbeats 1000000 in
theorem refNormal_any (A : Option Addr) (n c : Nat) (p i : Int) (zs : List Int) (w : World) (hA : Ints w w.heap.size A n zs) (hc : n ≤ c) (hn : (n : Int) ≤ 1000000) :
    Calls Try.prog 43 #[.agg #[.slice A n c, .int .i64 p, .int .i64 i]] w (RetS (NormR ⟨zs, p, i⟩) w) := by
  have E0 := Lib.hid (LB.new (p := p) (i := i) (c := c) hA)
  by_cases ok : Cv.Ok ⟨zs, p, i⟩
  · have hob := Cv.okB_true ok
    have OK := Lib.hid ok
    clear ok hA
    go_enter Try.func43, Try.ntmps43
    go_wp2_with fail
    refine (refValid_any A n c p i zs _ E0.out.ints hn).mono ?_
    rintro e w1 ⟨rfl, hb⟩
    rw [hob]
    have E := Lib.hid (E0.out.below hb)
    clear E0 hb
    obtain ⟨f0, f1, f2, hlf⟩ := E.out.cells
    obtain ⟨r0, r1, r2, z0, z1, z2, hlr⟩ := E.out.rcells
    go_wp2_with fail
    refine (refLeast_any A n c p i zs _ E.out.ints hc OK.out.pre).mono ?_
    rintro e w2 ⟨g, A2, n2, c2, hS, hc2, rfl, hI, hge, hb⟩
    obtain ⟨hnf, hok, _⟩ := LeastS.ok OK.out hS
    have F := Lib.hid (show NormR ⟨zs, p, i⟩ g 0 from .inl ⟨OK.out, hnf, hok, rfl⟩)
    have HI := Lib.hid hI
    have hl1 := Nat.lt_of_lt_of_le hlr hb.size
    have E := Lib.hid (E.out.below hb)
    clear hb hI hnf hok hS f0 f1 f2 r0 r1 r2 z0 z1 z2
    obtain ⟨r0, r1, r2, z0, z1, z2, hlr2⟩ := E.out.rcells
    go_wp2_with fail
    have rb := E.out.rb.store3 (.slice A2 n2 c2) (.int .i64 g.per) (.int .i64 g.inc)
    have bw := E.out.bw
    exact bodyPost_ret (v := .tuple #[.agg #[.slice A2 n2 c2, .int .i64 g.per, .int .i64 g.inc], .int .i64 0]) (by simp [results, Try.results43, go_sem, rb.cell]) rfl
      ⟨g, 0, F.out, retC_store3' hge (by omega) hlr HI.out bw⟩
  · have hob := Cv.okB_false ok
    have F := Lib.hid (show NormR ⟨zs, p, i⟩ Cv.none 1 from .inr ⟨ok, rfl, rfl⟩)
    clear ok hA
    go_enter Try.func43, Try.ntmps43
    go_wp2_with fail
    refine (refValid_any A n c p i zs _ E0.out.ints hn).mono ?_
    rintro e w1 ⟨rfl, hb⟩
    rw [hob]
    have E := Lib.hid (E0.out.below hb)
    clear E0 hb
    obtain ⟨f0, f1, f2, hlf⟩ := E.out.cells
    obtain ⟨r0, r1, r2, z0, z1, z2, hlr⟩ := E.out.rcells
    go_wp2_with fail
    have rb := E.out.rb.store3 (.slice none 0 0) (.int .i64 0) (.int .i64 0)
    have bw := E.out.bw
    exact bodyPost_ret (v := .tuple #[.agg #[.slice none 0 0, .int .i64 0, .int .i64 0], .int .i64 1]) (by simp [results, Try.results43, go_sem, rb.cell]) rfl
      ⟨Cv.none, 1, F.out, none, 0, 0, rfl, Ints.none_, (fun b off s h => by cases h), ((bw.setCell (by simp) _).setCell (by simp) _).setCell (by simp) _⟩

/-- in a function with one curve as argument: the boxed curve -/
structure L1 (w wx : World) (A : Option Addr) (n c : Nat) (p i : Int) (zs : List Int) : Prop where
  fb : Blk wx w.heap.size 26 #[.slice A n c, .int .i64 p, .int .i64 i]
  ib : Ints wx w.heap.size A n zs
  bw : Below w.heap.size w wx
section
variable {w wx wy : World} {A : Option Addr} {n c : Nat} {p i : Int} {zs : List Int}
theorem L1.new (hA : Ints w w.heap.size A n zs) : L1 w (w.alloc (.cells #[.slice A n c, .int .i64 p, .int .i64 i] 26)) A n c p i zs :=
  ⟨Blk.new w _ _, hA.alloc (Nat.le_refl _) _, balloc w _⟩
theorem L1.ints (h : L1 w wx A n c p i zs) : Ints wx wx.heap.size A n zs := h.ib.more h.bw.size
theorem L1.below (h : L1 w wx A n c p i zs) (hb : Below wx.heap.size wx wy) : L1 w wy A n c p i zs := ⟨h.fb.below hb h.fb.lt, h.ib.below (hb.mono h.bw.size), bthen h.bw hb⟩
theorem L1.alloc (h : L1 w wx A n c p i zs) (o : Obj) : L1 w (wx.alloc o) A n c p i zs := h.below (balloc wx o)
theorem L1.cells (h : L1 w wx A n c p i zs) : wx.cell? ⟨w.heap.size, 0, none⟩ = some (.slice A n c) ∧ wx.cell? ⟨w.heap.size, 1, none⟩ = some (.int .i64 p) ∧ wx.cell? ⟨w.heap.size, 2, none⟩ = some (.int .i64 i) ∧ w.heap.size < wx.heap.size := by
  have q0 := h.fb.cell 0; have q1 := h.fb.cell 1; have q2 := h.fb.cell 2
  simp at q0 q1 q2
  exact ⟨q0, q1, q2, h.fb.lt⟩
end

theorem refStart_any (A : Option Addr) (n c : Nat) (p i : Int) (zs : List Int) (w : World) (hA : Ints w w.heap.size A n zs) (hc : n ≤ c) (hn : (n : Int) ≤ 1000000) :
    Calls Try.prog 47 #[.agg #[.slice A n c, .int .i64 p, .int .i64 i]] w (RetSt ⟨zs, p, i⟩ w) := by
  have E0 := Lib.hid (L1.new (p := p) (i := i) (c := c) hA)
  by_cases ok : Cv.Ok ⟨zs, p, i⟩
  · have hob := Cv.okB_true ok
    have OK := Lib.hid ok
    clear ok hA
    go_enter Try.func47, Try.ntmps47
    go_wp2_with fail
    refine (refValid_any A n c p i zs _ E0.out.ints hn).mono ?_
    rintro e w1 ⟨rfl, hb⟩
    rw [hob]
    have E := Lib.hid (E0.out.below hb)
    clear E0 hb
    obtain ⟨f0, f1, f2, hlf⟩ := E.out.cells
    go_wp2_with fail
    refine (refLeast_any A n c p i zs _ E.out.ints hc OK.out.pre).mono ?_
    rintro e w2 ⟨g, A2, n2, c2, hS, hc2, rfl, hI, hge, hb⟩
    obtain ⟨hnf, hok, _⟩ := LeastS.ok OK.out hS
    have hlg : g.vals.length = n2 := hI.1
    have h1 := hok.p1; have h2 := hok.p2; have h3 := hok.n2
    rw [hlg] at h3
    have F := Lib.hid (show StartR ⟨zs, p, i⟩ ((n2 : Int) - g.per) from .inl ⟨OK.out, g, hnf, by rw [hlg]⟩)
    have bw := bthen (bthen E.out.bw hb) (balloc w2 (.cells #[.slice A2 n2 c2, .int .i64 g.per, .int .i64 g.inc] 26))
    have e1 : IntKind.i64.wrap ((n2 : Int) - g.per) = (n2 : Int) - g.per := IntWalk.i64_in _ (by omega)
    clear hb hI hnf hok hS f0 f1 f2 hlg hlf
    go_wp2_with fail
    go_ret
    exact ⟨_, F.out, rfl, bw⟩
  · have hob := Cv.okB_false ok
    have F := Lib.hid (show StartR ⟨zs, p, i⟩ 0 from .inr ⟨ok, rfl⟩)
    clear ok hA
    go_enter Try.func47, Try.ntmps47
    go_wp2_with fail
    refine (refValid_any A n c p i zs _ E0.out.ints hn).mono ?_
    rintro e w1 ⟨rfl, hb⟩
    rw [hob]
    have E := Lib.hid (E0.out.below hb)
    clear E0 hb
    obtain ⟨f0, f1, f2, hlf⟩ := E.out.cells
    have bw := E.out.bw
    go_wp2_with fail
    go_ret
    exact ⟨_, F.out, rfl, bw⟩

/-- curve.Start, of any curve -/
theorem cstart_any (A : Option Addr) (n c : Nat) (p i : Int) (zs : List Int) (w : World) (hA : Ints w w.heap.size A n zs) (hn : (n : Int) ≤ 1000000) :
    Calls Try.prog 39 #[.agg #[.slice A n c, .int .i64 p, .int .i64 i]] w (RetSt ⟨zs, p, i⟩ w) := by
  go_enter Try.func39, Try.ntmps39
  go_wp2_with fail
  refine (normal_any A n c p i zs _ (hA.alloc' _) hn).mono ?_
  rintro e w1 ⟨g, er, hN, A1, n1, c1, rfl, hI1, hA1, hb⟩
  have bw := bthen (balloc w _) hb
  have hl1 : g.vals.length = n1 := hI1.1
  have HN := Lib.hid (NormR.of hN)
  have HI := Lib.hid hI1; have BW := Lib.hid bw; have HL1 := Lib.hid hl1
  clear hN hI1 hA1 hb bw hl1 hA
  rcases HN.out with ⟨hok, hnf, okg, rfl⟩ | ⟨hno, rfl, rfl⟩
  · have hgn := okg.n2; have hg1 := okg.p1; have hg2 := okg.p2
    rw [HL1.out] at hgn
    have F := Lib.hid (show StartR ⟨zs, p, i⟩ ((n1 : Int) - g.per) from .inl ⟨hok, g, hnf, by rw [HL1.out]⟩)
    clear HN hok hnf okg
    go_wp2_with fail
    refine (start_any A1 n1 c1 g.per g.inc _ (by omega) (by omega) (by omega)).mono ?_
    rintro e w2 ⟨rfl, hb⟩
    have bw := bthen (bthen BW.out (balloc _ _)) hb
    clear hb
    go_wp2_with fail
    go_ret
    exact ⟨_, F.out, rfl, bw⟩
  · have F := Lib.hid (show StartR ⟨zs, p, i⟩ 0 from .inr ⟨hno, rfl⟩)
    have bw := bthen BW.out (balloc w1 (.cells #[.slice A1 n1 c1, .int .i64 Cv.none.per, .int .i64 Cv.none.inc] 26))
    clear HN hno
    go_wp2_with fail
    go_ret
    exact ⟨_, F.out, rfl, bw⟩

theorem refValue_any (A : Option Addr) (n c : Nat) (p i t : Int) (zs : List Int) (w : World) (hA : Ints w w.heap.size A n zs) (hn : (n : Int) ≤ 1000000) :
    Calls Try.prog 49 #[.agg #[.slice A n c, .int .i64 p, .int .i64 i], .int .i64 t] w fun e w' => e = .returned (.tuple #[.int .i64 (Cv.value ⟨zs, p, i⟩ t).1, .int .i64 (Cv.value ⟨zs, p, i⟩ t).2]) ∧ Below w.heap.size w w' := by
  have E0 := Lib.hid (L1.new (p := p) (i := i) (c := c) hA)
  by_cases ok : Cv.Ok ⟨zs, p, i⟩
  · have hob := Cv.okB_true ok
    by_cases ht : t < 0 ∨ 1048576 < t
    · have fin : Cv.value ⟨zs, p, i⟩ t = (0, 2) := by unfold Cv.value; rw [if_pos hob, if_pos ht]
      rw [fin]
      clear fin ok hA
      rcases ht with ht | ht
      all_goals
        go_enter Try.func49, Try.ntmps49
        go_wp2_with fail
        refine (refValid_any A n c p i zs _ E0.out.ints hn).mono ?_
        rintro e w1 ⟨rfl, hb⟩
        rw [hob]
        have E := Lib.hid (E0.out.below hb)
        clear E0 hb
        obtain ⟨f0, f1, f2, hlf⟩ := E.out.cells
        have bw := E.out.bw
        go_wp2_with fail
        go_ret2
        exact ⟨rfl, bw⟩
    · have fin : Cv.value ⟨zs, p, i⟩ t = (Cv.at ⟨zs, p, i⟩ t.toNat, 0) := by unfold Cv.value; rw [if_pos hob, if_neg ht]
      rw [fin]
      have h0 : 0 ≤ t := by omega
      have h1 : t ≤ 1048576 := by omega
      have hn4 := ok.n2
      have hp1 := ok.p1; have hpn := ok.pn; have hi1 := ok.i1; have hi2 := ok.i2
      have HNN := Lib.hid ok.nn
      simp only [hA.1] at hn4 hpn hp1 hi1 hi2
      clear fin ht ok hA
      go_enter Try.func49, Try.ntmps49
      go_wp2_with fail
      refine (refValid_any A n c p i zs _ E0.out.ints hn).mono ?_
      rintro e w1 ⟨rfl, hb⟩
      rw [hob]
      have E := Lib.hid (E0.out.below hb)
      clear E0 hb
      obtain ⟨f0, f1, f2, hlf⟩ := E.out.cells
      go_wp2_with fail
      refine (refAt_any A n c p i t zs _ E.out.ints hn hp1 hpn hi1 (by omega) HNN.out h0 (by omega)).mono ?_
      rintro e w2 ⟨rfl, hb⟩
      have bw := bthen E.out.bw hb
      go_wp2_with fail
      go_ret2
      exact ⟨rfl, bw⟩
  · have hob := Cv.okB_false ok
    have fin : Cv.value ⟨zs, p, i⟩ t = (0, 1) := by unfold Cv.value; rw [if_neg (by simp [hob])]
    rw [fin]
    clear fin ok hA
    go_enter Try.func49, Try.ntmps49
    go_wp2_with fail
    refine (refValid_any A n c p i zs _ E0.out.ints hn).mono ?_
    rintro e w1 ⟨rfl, hb⟩
    rw [hob]
    have E := Lib.hid (E0.out.below hb)
    clear E0 hb
    obtain ⟨f0, f1, f2, hlf⟩ := E.out.cells
    have bw := E.out.bw
    go_wp2_with fail
    go_ret2
    exact ⟨rfl, bw⟩
end Go.Proofs.Yteddogbhofhlaaa
