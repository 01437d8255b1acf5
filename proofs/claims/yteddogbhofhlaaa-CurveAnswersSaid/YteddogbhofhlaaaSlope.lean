/- curve.Slope and curve.Start: what each returns. -/
import Derived.Test.YteddogbhofhlaaaFrac
import Derived.Test.YteddogbhofhlaaaTheory
import Derived.Test.YteddogbhofhlaaaCurve2
namespace Go.Proofs.Yteddogbhofhlaaa
open Go.RowKit
set_option linter.unusedVariables false

/-- what curve.Slope returns -/
noncomputable def Cv.slope (f : Cv) : Int × Int × Bool := if f.finB = true then (((f.inc.toNat / Nat.gcd f.inc.toNat f.per.toNat : Nat) : Int), ((f.per.toNat / Nat.gcd f.inc.toNat f.per.toNat : Nat) : Int), true) else (0, 0, false)

def RetSl (f : Cv) (w : World) (e : Ending) (w' : World) : Prop := e = .returned (.tuple #[.agg #[.int .i64 f.slope.1, .int .i64 f.slope.2.1], .bool f.slope.2.2]) ∧ Below w.heap.size w w'

set_option maxHeartbeats 1000000 in
theorem slope_any (A : Option Addr) (n c : Nat) (p i : Int) (zs : List Int) (w : World) (hA : Ints w w.heap.size A n zs) (hn : (n : Int) ≤ 1000000) :
    Calls Try.prog 40 #[.agg #[.slice A n c, .int .i64 p, .int .i64 i]] w (RetSl ⟨zs, p, i⟩ w) := by
  have FB := Lib.hid ((Blk.new w 26 #[.slice A n c, .int .i64 p, .int .i64 i]).alloc (.cells #[.int .i64 0, .int .i64 0] 49))
  have rb := Blk.new (w.alloc (.cells #[.slice A n c, .int .i64 p, .int .i64 i] 26)) 49 #[.int .i64 0, .int .i64 0]
  rw [World.size_alloc] at rb
  have RB := Lib.hid rb
  have IA := Lib.hid ((hA.alloc' (.cells #[.slice A n c, .int .i64 p, .int .i64 i] 26)).alloc' (.cells #[.int .i64 0, .int .i64 0] 49))
  have BW := Lib.hid (bthen (balloc w (.cells #[.slice A n c, .int .i64 p, .int .i64 i] 26)) (balloc _ (.cells #[.int .i64 0, .int .i64 0] 49)))
  clear rb
  by_cases hfb : Cv.finB ⟨zs, p, i⟩ = true
  · have hok : Cv.Ok ⟨zs, p, i⟩ := by
      apply Cv.okB_iff.1
      unfold Cv.finB at hfb
      simp only [Bool.and_eq_true] at hfb
      exact hfb.1
    have hp1 := hok.p1; have hp2 := hok.p2; have hi1 := hok.i1; have hi2 := hok.i2
    simp only at hp1 hp2 hi1 hi2
    obtain ⟨p, rfl⟩ := Int.eq_ofNat_of_zero_le (show 0 ≤ p by omega)
    obtain ⟨i, rfl⟩ := Int.eq_ofNat_of_zero_le hi1
    have hs : Cv.slope ⟨zs, p, i⟩ = (((i / Nat.gcd i p : Nat) : Int), ((p / Nat.gcd i p : Nat) : Int), true) := by
      unfold Cv.slope; rw [if_pos hfb]; simp only [Int.toNat_natCast]
    unfold RetSl
    rw [hs]
    clear hok hs hA
    obtain ⟨x, hx⟩ : ∃ x, x = i / Nat.gcd i p := ⟨_, rfl⟩
    obtain ⟨y, hy⟩ : ∃ y, y = p / Nat.gcd i p := ⟨_, rfl⟩
    have HFR := Lib.hid (frac_any i p)
    rw [← hx, ← hy] at HFR
    rw [← hx, ← hy]
    clear hx hy
    go_enter Try.func40, Try.ntmps40
    go_wp2_with fail
    refine (finite2_any A n c p i zs _ IA.out hn).mono ?_
    rw [hfb]
    rintro e w1 ⟨rfl, hb⟩
    have FB := Lib.hid (FB.out.below hb FB.out.lt); have RB := Lib.hid (RB.out.below hb RB.out.lt); have BW := Lib.hid (bthen BW.out hb)
    clear hb
    have f1 := FB.out.cell 1; have f2 := FB.out.cell 2
    simp at f1 f2
    have hlf := FB.out.lt
    go_wp2_with fail
    refine (HFR.out _ (by omega) (by omega) (by omega)).mono ?_
    rintro e w2 ⟨rfl, hb⟩
    have RB := Lib.hid (RB.out.below hb RB.out.lt); have BW := Lib.hid (bthen BW.out hb)
    have r0 := RB.out.cell 0; have r1 := RB.out.cell 1; have v0 := RB.out.frozen 0; have v1 := RB.out.frozen 1
    simp at r0 r1
    have hlr := RB.out.lt
    clear hb f1 f2 hlf
    go_wp2_with fail
    have rb := ((RB.out.set_ 0 (.int .i64 x)).set_ 1 (.int .i64 y)).alloc (.cells #[.int .i64 x, .int .i64 y] 49)
    exact bodyPost_ret (v := .tuple #[.agg #[.int .i64 x, .int .i64 y], .bool true]) (by simp [results, Try.results40, go_sem, rb.cell]) rfl ⟨rfl, bthen ((BW.out.setCell (by show _ ≤ w.heap.size + 1; omega) _).setCell (by show _ ≤ w.heap.size + 1; omega) _) (balloc _ _)⟩
  · have hf : Cv.finB ⟨zs, p, i⟩ = false := by simpa using hfb
    have hs : Cv.slope ⟨zs, p, i⟩ = (0, 0, false) := by unfold Cv.slope; rw [if_neg hfb]
    unfold RetSl
    rw [hs]
    clear hfb hs hA
    go_enter Try.func40, Try.ntmps40
    go_wp2_with fail
    refine (finite2_any A n c p i zs _ IA.out hn).mono ?_
    rw [hf]
    rintro e w1 ⟨rfl, hb⟩
    have RB := Lib.hid (RB.out.below hb RB.out.lt); have BW := Lib.hid (bthen BW.out hb)
    have r0 := RB.out.cell 0; have r1 := RB.out.cell 1; have v0 := RB.out.frozen 0; have v1 := RB.out.frozen 1
    simp at r0 r1
    have hlr := RB.out.lt
    clear hb
    go_wp2_with fail
    have rb := (RB.out.set_ 0 (.int .i64 0)).set_ 1 (.int .i64 0)
    exact bodyPost_ret (v := .tuple #[.agg #[.int .i64 0, .int .i64 0], .bool false]) (by simp [results, Try.results40, go_sem, rb.cell]) rfl ⟨rfl, (BW.out.setCell (by show _ ≤ w.heap.size + 1; omega) _).setCell (by show _ ≤ w.heap.size + 1; omega) _⟩

theorem start2_any (A : Option Addr) (n c : Nat) (p i : Int) (zs : List Int) (w : World) (hA : Ints w w.heap.size A n zs) (ok : Cv.Ok ⟨zs, p, i⟩) :
    Calls Try.prog 39 #[.agg #[.slice A n c, .int .i64 p, .int .i64 i]] w fun e w' => (∃ g : Cv, NF (Cv.at ⟨zs, p, i⟩) g ∧ g.Ok ∧ g.vals.length ≤ n ∧ e = .returned (.int .i64 ((g.vals.length : Int) - g.per))) ∧ Below w.heap.size w w' := by
  have hn := ok.n2
  have hl := hA.1
  simp only [hl] at hn
  have OK := Lib.hid ok
  go_enter Try.func39, Try.ntmps39
  go_wp2_with fail
  refine (normal_any A n c p i zs _ (hA.alloc' _) (by omega)).mono ?_
  rintro e w1 ⟨g, er, hN, A1, n1, c1, rfl, hI1, hA1, hb⟩
  obtain ⟨rfl, hnf, okg, hgl, hgp⟩ := normal_ok OK.out hN
  have hl1 : g.vals.length = n1 := hI1.1
  have bw := bthen (balloc w _) hb
  have hgn := okg.n2; have hg1 := okg.p1; have hg2 := okg.p2
  rw [hl1] at hgn
  have NFG := Lib.hid hnf; have OKG := Lib.hid okg; have HI := Lib.hid hI1; have BW := Lib.hid bw; have HL1 := Lib.hid hl1
  have HGL := Lib.hid (show g.vals.length ≤ n from by rw [← hl]; exact hgl)
  clear hN hI1 hA1 hb hnf okg hgl hgp bw hl1 hA ok
  go_wp2_with fail
  refine (start_any A1 n1 c1 g.per g.inc _ (by omega) (by omega) (by omega)).mono ?_
  rintro e w2 ⟨rfl, hb⟩
  have bw := bthen (bthen BW.out (balloc _ _)) hb
  clear hb
  go_wp2_with fail
  go_ret
  exact ⟨⟨g, NFG.out, OKG.out, HGL.out, by rw [HL1.out]; rfl⟩, bw⟩
end Go.Proofs.Yteddogbhofhlaaa
