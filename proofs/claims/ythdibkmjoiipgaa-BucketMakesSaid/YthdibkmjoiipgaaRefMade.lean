/- netcalculusref02.Made: what it returns. -/
import Derived.Test.YthdibkmjoiipgaaRefNormal
import Derived.Test.YthdibkmjoiipgaaMade
namespace Go.Proofs.Ythdibkmjoiipgaa
open Go.RowKit
set_option linter.unusedVariables false

/-- the call returned a curve and an error with S, in memory of its own, with room enough -/
def RetS2 (S : Cv → Int → Prop) (w : World) (e : Ending) (w' : World) : Prop :=
  ∃ (f : Cv) (er : Int) (A : Option Addr) (n c : Nat), S f er ∧ n ≤ c ∧ e = .returned (.tuple #[.agg #[.slice A n c, .int .i64 f.per, .int .i64 f.inc], .int .i64 er]) ∧ Ints w' w'.heap.size A n f.vals ∧ (∀ b off s, A = some ⟨b, off, s⟩ → w.heap.size ≤ b) ∧ Below w.heap.size w w'
theorem RetS2.to {S : Cv → Int → Prop} {w w' : World} {e : Ending} (h : RetS2 S w e w') : RetS S w e w' := by
  obtain ⟨f, er, A, n, c, hS, _, he, hI, hA, hb⟩ := h
  exact ⟨f, er, hS, A, n, c, he, hI, hA, hb⟩
theorem RetS2.imp {S T : Cv → Int → Prop} {w w' : World} {e : Ending} (h : RetS2 S w e w') (k : ∀ f er, S f er → T f er) : RetS2 T w e w' := by
  obtain ⟨f, er, A, n, c, hS, hc, he, hI, hA, hb⟩ := h
  exact ⟨f, er, A, n, c, k _ _ hS, hc, he, hI, hA, hb⟩
theorem retS2_none {S : Cv → Int → Prop} {w w1 : World} {er : Int} (hS : S Cv.none er) (bw : Below w.heap.size w w1) : RetS2 S w (.returned (.tuple #[.agg #[.slice none 0 0, .int .i64 0, .int .i64 0], .int .i64 er])) w1 :=
  ⟨Cv.none, er, none, 0, 0, hS, Nat.le_refl _, rfl, Ints.none_, (fun b off s h => by cases h), bw⟩
theorem retS2_store {S : Cv → Int → Prop} {f : Cv} {er : Int} {w w1 : World} {B g0 : Nat} {A : Option Addr} {n c : Nat} {x y z : Value} (hS : S f er) (hc : n ≤ c) (hf : ∀ b off s, A = some ⟨b, off, s⟩ → B ≤ b) (h0 : w.heap.size ≤ g0) (hB : g0 < B) (hI : Ints w1 w1.heap.size A n f.vals) (bw : Below w.heap.size w w1) :
    RetS2 S w (.returned (.tuple #[.agg #[.slice A n c, .int .i64 f.per, .int .i64 f.inc], .int .i64 er])) (((w1.setCell ⟨g0, 0, none⟩ x).setCell ⟨g0, 1, none⟩ y).setCell ⟨g0, 2, none⟩ z) :=
  ⟨f, er, A, n, c, hS, hc, rfl, by
    simpa using (((hI.setCell (fun b off s h => by have := hf b off s h; simp; omega) _).setCell (fun b off s h => by have := hf b off s h; simp; omega) _).setCell (fun b off s h => by have := hf b off s h; simp; omega) _),
    (fun b off s h => by have := hf b off s h; omega), ((bw.setCell (by simpa using h0) _).setCell (by simpa using h0) _).setCell (by simpa using h0) _⟩
theorem retS2_store0 {S : Cv → Int → Prop} {er : Int} {w w1 : World} {g0 : Nat} {x y z : Value} (hS : S Cv.none er) (h0 : w.heap.size ≤ g0) (bw : Below w.heap.size w w1) :
    RetS2 S w (.returned (.tuple #[.agg #[.slice none 0 0, .int .i64 0, .int .i64 0], .int .i64 er])) (((w1.setCell ⟨g0, 0, none⟩ x).setCell ⟨g0, 1, none⟩ y).setCell ⟨g0, 2, none⟩ z) :=
  retS2_none hS (((bw.setCell (by simpa using h0) _).setCell (by simpa using h0) _).setCell (by simpa using h0) _)

set_option maxHeartbeats 1000000 in
theorem refMade_any (A : Option Addr) (n c : Nat) (p i : Int) (zs : List Int) (w : World) (hA : Ints w w.heap.size A n zs) (hc : n ≤ c) (pre : Pre ⟨zs, p, i⟩) (up : Up0 (Cv.at ⟨zs, p, i⟩))
    (hinf : ∀ m t, m < zs.length → nth zs m = inf → m ≤ t → Cv.at ⟨zs, p, i⟩ t = inf) :
    Calls Try.prog 82 #[.agg #[.slice A n c, .int .i64 p, .int .i64 i]] w (RetS2 (MadeS (Cv.at ⟨zs, p, i⟩)) w) := by
  have PRE := Lib.hid pre; have UP := Lib.hid up; have HINF := Lib.hid hinf; have HC := Lib.hid hc
  have E0 := Lib.hid (LB.new (p := p) (i := i) (c := c) hA)
  clear pre up hinf hA hc
  go_enter Try.func82, Try.ntmps82
  go_wp2_with fail
  refine (refLeast_any A n c p i zs _ E0.out.ints HC.out PRE.out).mono ?_
  rintro e w1 ⟨g, A2, n2, c2, hS, hc2, rfl, hI, hge, hb⟩
  have hlen := hS.len PRE.out
  have hlg : g.vals.length = n2 := hI.1
  have hn2 := PRE.out.n2
  have hnf := hS.nf HINF.out
  rw [hlg] at hlen
  have hn3 : (n2 : Int) ≤ 1000000 := by omega
  have HNF := Lib.hid hnf
  have E := Lib.hid ((E0.out.below hb).alloc (.cells #[.slice A2 n2 c2, .int .i64 g.per, .int .i64 g.inc] 46))
  have OB := Lib.hid (Blk.new w1 46 #[.slice A2 n2 c2, .int .i64 g.per, .int .i64 g.inc])
  have HI := Lib.hid (hI.alloc' (.cells #[.slice A2 n2 c2, .int .i64 g.per, .int .i64 g.inc] 46))
  have HGE := Lib.hid hge
  clear hS hI hge hnf hlen hlg hn2 hb E0
  go_wp2_with fail
  refine (refValid_any A2 n2 c2 g.per g.inc g.vals _ HI.out hn3).mono ?_
  rintro e w2 ⟨rfl, hb⟩
  have E := Lib.hid (E.out.below hb)
  have hlo := OB.out.lt
  have OB := Lib.hid (OB.out.below hb OB.out.lt)
  have HI := Lib.hid (HI.out.ext hb)
  clear hb
  obtain ⟨r0, r1, r2, z0, z1, z2, hlr⟩ := E.out.rcells
  obtain ⟨o0, o1, o2⟩ : _ ∧ _ ∧ _ := ⟨OB.out.cell 0, OB.out.cell 1, OB.out.cell 2⟩
  simp at o0 o1 o2
  have hl2 := OB.out.lt
  have HW := Lib.hid E.out.bw.size
  by_cases ok : Cv.Ok g
  · have hob : Cv.okB ⟨g.vals, g.per, g.inc⟩ = true := Cv.okB_true ok
    rw [hob]
    have F := Lib.hid (show MadeS (Cv.at ⟨zs, p, i⟩) g 0 from MadeS.of_nf HNF.out UP.out (.inl ⟨ok, rfl, rfl⟩))
    clear ok hob
    go_wp2_with fail
    have rb := E.out.rb.store3 (.slice A2 n2 c2) (.int .i64 g.per) (.int .i64 g.inc)
    have bw := E.out.bw
    exact bodyPost_ret (v := .tuple #[.agg #[.slice A2 n2 c2, .int .i64 g.per, .int .i64 g.inc], .int .i64 0]) (by simp [results, Try.results82, go_sem, rb.cell]) rfl
      (retS2_store F.out hc2 HGE.out (by simp) (by simp) HI.out bw)
  · have hob : Cv.okB ⟨g.vals, g.per, g.inc⟩ = false := Cv.okB_false ok
    rw [hob]
    have F := Lib.hid (show MadeS (Cv.at ⟨zs, p, i⟩) Cv.none 3 from MadeS.of_nf HNF.out UP.out (.inr ⟨ok, rfl, rfl⟩))
    clear ok hob
    go_wp2_with fail
    have rb := E.out.rb.store3 (.slice none 0 0) (.int .i64 0) (.int .i64 0)
    have bw := E.out.bw
    exact bodyPost_ret (v := .tuple #[.agg #[.slice none 0 0, .int .i64 0, .int .i64 0], .int .i64 3]) (by simp [results, Try.results82, go_sem, rb.cell]) rfl
      (retS2_store0 F.out (by simp) bw)
theorem Own.one_ (w : World) (x : Int) {base : Nat} (hb : base ≤ w.heap.size) : Own (w.alloc (.cells #[.int .i64 x] 3)) base (.slice (some ⟨w.heap.size, 0, none⟩) 1 1) 1 [x] :=
  ⟨by simp, .inr ⟨w.heap.size, 1, #[.int .i64 x], rfl, hb, heap_alloc_new w _, Nat.le_refl _, by unfold maxLen; omega, rfl, rfl⟩⟩
/-- what Made wants of a list of values -/
theorem tab_pre {h : Nat → Int} {P I : Int} {N : Nat} (up : Up0 h) (hP : 1 ≤ P) (hPN : P ≤ N) (hI0 : 0 ≤ I) (hI1 : I ≤ 1099511627776) (hN : N ≤ 100000) (hsm : ∀ r, r < N → 0 ≤ h r ∧ h r ≤ 4611686018427387904) (hinf : ∀ m t, m < N → h m = inf → m ≤ t → h t = inf) (TAB : ∀ t, Cv.at ⟨tab h 0 N, P, I⟩ t = h t) :
    Pre ⟨tab h 0 N, P, I⟩ ∧ Up0 (Cv.at ⟨tab h 0 N, P, I⟩) ∧ ∀ m t, m < (tab h 0 N).length → nth (tab h 0 N) m = inf → m ≤ t → Cv.at ⟨tab h 0 N, P, I⟩ t = inf := by
  have hlk : (tab h 0 N).length = N := tab_length _ _ _
  refine ⟨⟨hP, by show P ≤ ((tab h 0 N).length : Nat); rw [hlk]; exact hPN, hI0, hI1, by show (tab h 0 N).length ≤ 100000; rw [hlk]; exact hN, fun r => ?_⟩, (by rw [show Cv.at ⟨tab h 0 N, P, I⟩ = h from funext TAB]; exact up), fun m t hm h1 hmt => ?_⟩
  · show 0 ≤ nth (tab h 0 N) r ∧ nth (tab h 0 N) r ≤ 4611686018427387904
    by_cases hr : r < N
    · rw [tab_nth _ _ _ _ hr, Nat.zero_add]; exact hsm r hr
    · rw [nth_out _ _ (by rw [hlk]; omega)]; omega
  · rw [hlk] at hm
    rw [tab_nth _ _ _ _ hm, Nat.zero_add] at h1
    rw [TAB t]
    exact hinf m t hm h1 hmt
theorem tab_one (h : Nat → Int) (h0 : h 0 = 0) : [0] = tab h 0 1 := by
  simp [tab, h0]
end Go.Proofs.Ythdibkmjoiipgaa
