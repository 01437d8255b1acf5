/- The statement OrderAnswers: the walk. -/
import Derived.Test.YteddogbhofhlaaaCvs
import Derived.Test.YteddogbhofhlaaaRefSet
import Derived.Test.YteddogbhofhlaaaBent
import Derived.Test.YteddogbhofhlaaaNormalLaw
namespace Go.Proofs.Yteddogbhofhlaaa
open Go.RowKit
set_option linter.unusedVariables false

/-- a reader at block p, and a list of curves at block b -/
structure LE (p : Nat) (w0 w : World) (b : Nat) (xs : List CR) : Prop where
  s : SrcAt w p
  k : Kept w0.heap.size p w0 w
  row : Row p w b xs
section
variable {p b : Nat} {w0 w w' : World} {xs : List CR}
theorem LE.below (h : LE p w0 w b xs) (hb : Below w.heap.size w w') : LE p w0 w' b xs := ⟨h.s.ext hb, kbel h.k hb, h.row.below hb⟩
theorem LE.alloc (h : LE p w0 w b xs) (o : Obj) : LE p w0 (w.alloc o) b xs := h.below (balloc w o)
theorem LE.fin {w0 : World} (h : LE w0.heap.size w0 w b xs) : Below w0.heap.size w0 w := h.k.below (Nat.le_refl _)
theorem CR.In.old {x : CR} (h : Ints w w.heap.size x.A x.n x.f.vals) : x.In w.heap.size w := ⟨h, fun hn b off s e => by
  obtain ⟨b', off', e', hb, _⟩ := h.2 hn
  rw [e] at e'; cases e'; omega⟩
theorem CR.In.new {x : CR} {B : Nat} (h : Ints w w.heap.size x.A x.n x.f.vals) (hB : ∀ b off s, x.A = some ⟨b, off, s⟩ → B ≤ b) (hp : p < B) : x.In p w := ⟨h, fun _ b off s e => by have := hB b off s e; omega⟩
end

theorem OrdS.unique {S S' : Int → Bool → Prop} {f g : Cv} {t t' er er' : Int} {ok ok' : Bool} (hu : f.Ok → g.Ok → S t ok → S' t' ok' → t' = t ∧ ok' = ok) (h : OrdS (S t ok) f g t ok er) (h' : OrdS (S' t' ok') f g t' ok' er') : t' = t ∧ ok' = ok ∧ er' = er := by
  rcases h with ⟨hf, hg, rfl, hS⟩ | ⟨hn, rfl, rfl, rfl⟩ <;> rcases h' with ⟨hf', hg', rfl, hS'⟩ | ⟨hn', rfl, rfl, rfl⟩
  · obtain ⟨e1, e2⟩ := hu hf hg hS hS'
    exact ⟨e1, e2, rfl⟩
  · exact absurd ⟨hf, hg⟩ hn'
  · exact absurd ⟨hf', hg'⟩ hn
  · exact ⟨rfl, rfl, rfl⟩

set_option maxHeartbeats 8000000 in
set_option maxRecDepth 100000 in
theorem ordAnsLaw_any (A1 : Option Addr) (n1 c1 : Nat) (p1 i1 : Int) (L1 : List Int) (A2 : Option Addr) (n2 c2 : Nat) (p2 i2 : Int) (L2 : List Int) (A0 : Option Addr) (n0 c0 : Nat) (L : List Int) (W : World)
    (hI1 : Ints W W.heap.size A1 n1 L1) (hn1 : (n1 : Int) ≤ 9223372036854775807) (hI2 : Ints W W.heap.size A2 n2 L2) (hn2 : (n2 : Int) ≤ 9223372036854775807) (hL0 : Ints W W.heap.size A0 n0 L) (hc0 : n0 ≤ c0) (hn0 : (n0 : Int) ≤ 9223372036854775807) :
    Calls Try.prog 5 #[.agg #[.slice A1 n1 c1, .int .i64 p1, .int .i64 i1], .agg #[.slice A2 n2 c2, .int .i64 p2, .int .i64 i2], .slice A0 n0 c0] W fun e w' => e = .returned (.bool true) ∧ Below W.heap.size W w' := by
  have RI := Lib.hid ((hI1.alloc' (.cells #[.slice A1 n1 c1, .int .i64 p1, .int .i64 i1] 26)).alloc' (.cells #[.slice A2 n2 c2, .int .i64 p2, .int .i64 i2] 26))
  have OI := Lib.hid ((hI2.alloc' (.cells #[.slice A1 n1 c1, .int .i64 p1, .int .i64 i1] 26)).alloc' (.cells #[.slice A2 n2 c2, .int .i64 p2, .int .i64 i2] 26))
  have LI := Lib.hid ((hL0.alloc' (.cells #[.slice A1 n1 c1, .int .i64 p1, .int .i64 i1] 26)).alloc' (.cells #[.slice A2 n2 c2, .int .i64 p2, .int .i64 i2] 26))
  have RX := Lib.hid ((Blk.new W 26 #[.slice A1 n1 c1, .int .i64 p1, .int .i64 i1]).alloc (.cells #[.slice A2 n2 c2, .int .i64 p2, .int .i64 i2] 26))
  have OX := Lib.hid (show Blk ((W.alloc (.cells #[.slice A1 n1 c1, .int .i64 p1, .int .i64 i1] 26)).alloc (.cells #[.slice A2 n2 c2, .int .i64 p2, .int .i64 i2] 26)) (W.heap.size + 1) 26 #[.slice A2 n2 c2, .int .i64 p2, .int .i64 i2] from by
    have := Blk.new (W.alloc (.cells #[.slice A1 n1 c1, .int .i64 p1, .int .i64 i1] 26)) 26 #[.slice A2 n2 c2, .int .i64 p2, .int .i64 i2]
    simpa using this)
  have BW := Lib.hid (bthen (balloc W (.cells #[.slice A1 n1 c1, .int .i64 p1, .int .i64 i1] 26)) (balloc _ (.cells #[.slice A2 n2 c2, .int .i64 p2, .int .i64 i2] 26)))
  clear hI1 hI2 hL0
  go_enter Try.func5, Try.ntmps5
  go_wp2_with fail
  refine (small_any A1 n1 c1 p1 i1 _ hn1).mono ?_
  rintro e wa ⟨rfl, hb⟩
  have RI := Lib.hid (RI.out.ext hb); have OI := Lib.hid (OI.out.ext hb); have LI := Lib.hid (LI.out.ext hb)
  have RX := Lib.hid (RX.out.below hb RX.out.lt); have OX := Lib.hid (OX.out.below hb OX.out.lt); have BW := Lib.hid (bthen BW.out hb)
  clear hb
  have q0 := OX.out.cell 0; have q1 := OX.out.cell 1; have q2 := OX.out.cell 2
  simp at q0 q1 q2
  have hlq := OX.out.lt
  by_cases h1 : (n1 : Int) ≤ 800
  · rw [decide_eq_true h1]
    go_wp2_with fail
    refine (small_any A2 n2 c2 p2 i2 _ hn2).mono ?_
    rintro e w ⟨rfl, hb⟩
    have RI := Lib.hid (RI.out.ext hb); have OI := Lib.hid (OI.out.ext hb); have LI := Lib.hid (LI.out.ext hb)
    have RX := Lib.hid (RX.out.below hb RX.out.lt); have OX := Lib.hid (OX.out.below hb OX.out.lt); have BW := Lib.hid (bthen BW.out hb)
    clear hb q0 q1 q2 hlq
    by_cases h2 : (n2 : Int) ≤ 800
    · rw [decide_eq_true h2]
      have RB := Lib.hid (show Lc w.heap.size w W.heap.size ⟨A1, n1, c1, ⟨L1, p1, i1⟩⟩ from ⟨RX.out, CR.In.old RI.out, Nat.ne_of_lt RX.out.lt⟩)
      have OB := Lib.hid (show Lc w.heap.size w (W.heap.size + 1) ⟨A2, n2, c2, ⟨L2, p2, i2⟩⟩ from ⟨OX.out, CR.In.old OI.out, Nat.ne_of_lt OX.out.lt⟩)
      have hL := LI.out
      clear RI OI LI RX OX
      go_wp2_with fail
      refine (new_any A0 n0 c0 L w hL hc0 hn0).mono ?_
      rintro e w1 ⟨rfl, hS1, hb1⟩
      have hpl := hS1.lt
      clear hL
      go_wp2_with fail
      refine (srcCurve_any w.heap.size 7 w1 hS1 (by omega) (by omega)).mono ?_
      rintro e w2 ⟨f, A, n, c, hD, rfl, hI, hA, hS2, hk2⟩
      go_wp2_with fail
      refine (srcCurve_any w.heap.size 7 w2 hS2 (by omega) (by omega)).mono ?_
      rintro e w3 ⟨g, B, m, d, hD2, rfl, hI2, hB, hS3, hk3⟩
      have E := Lib.hid (Env2.drawn (c := c) (d := d) (kstep (Kept.of hb1) hk2) hI hA hpl hI2 hB hS2.lt hS3 hk3)
      have hn : n ≤ 20 := by have h1 := hD.len; have h2 : f.vals.length = n := hI.1; have : (7 : Int).toNat = 7 := rfl; omega
      have hm : m ≤ 20 := by have h1 := hD2.len; have h2 : g.vals.length = m := hI2.1; have : (7 : Int).toNat = 7 := rfl; omega
      have HD := Lib.hid (show DrawC 7 f from hD); have HD2 := Lib.hid (show DrawC 7 g from hD2)
      have RB := Lib.hid (((((RB.out.below hb1).kept hk2).kept hk3).alloc (.cells #[.slice A n c, .int .i64 f.per, .int .i64 f.inc] 26)).alloc (.cells #[.slice B m d, .int .i64 g.per, .int .i64 g.inc] 26))
      have OB := Lib.hid (((((OB.out.below hb1).kept hk2).kept hk3).alloc (.cells #[.slice A n c, .int .i64 f.per, .int .i64 f.inc] 26)).alloc (.cells #[.slice B m d, .int .i64 g.per, .int .i64 g.inc] 26))
      have HDL := Lib.hid (show DrawC 9 g from ⟨hD2.ok, by have := hD2.len; omega, hD2.per, hD2.inc, hD2.small, hD2.slope⟩)
      have hp3 : w.heap.size < w3.heap.size := hS3.lt
      clear hD hI hA hS1 hS2 hk2 hb1 hpl hD2 hI2 hB hS3 hk3
      obtain ⟨f0, f1, f2, g0, g1, g2, hlf, hlg, hlp⟩ := E.out.cells
      obtain ⟨r0, r1, r2, hlr⟩ := RB.out.cells
      obtain ⟨q0, q1, q2, hlq⟩ := OB.out.cells
      go_upto_region 5 with fail
      go_cut [10] (fun s10 wx => ∃ (b : Nat) (xs : List CR), s10 = .slice (some ⟨b, 0, none⟩) 6 6 ∧ xs.length = 6 ∧ (∀ x ∈ xs, x.n ≤ 1000) ∧ LE w.heap.size w wx b xs)
      case first =>
        have hdp := HDL.out.per; have hdi := HDL.out.inc; have hdi0 := HDL.out.ok.i1; have hdp0 := HDL.out.ok.p1
        go_region_held3 (fun w' => (w'.cell? ⟨W.heap.size, 0, none⟩ = some (.slice A1 n1 c1) ∧ w'.cell? ⟨W.heap.size, 1, none⟩ = some (.int .i64 p1) ∧ w'.cell? ⟨W.heap.size, 2, none⟩ = some (.int .i64 i1)) ∧ (w'.cell? ⟨W.heap.size + 1, 0, none⟩ = some (.slice A2 n2 c2) ∧ w'.cell? ⟨W.heap.size + 1, 1, none⟩ = some (.int .i64 p2) ∧ w'.cell? ⟨W.heap.size + 1, 2, none⟩ = some (.int .i64 i2)) ∧ (w'.cell? ⟨w3.heap.size, 0, none⟩ = some (.slice A n c) ∧ w'.cell? ⟨w3.heap.size, 1, none⟩ = some (.int .i64 f.per) ∧ w'.cell? ⟨w3.heap.size, 2, none⟩ = some (.int .i64 f.inc)) ∧ w'.cell? ⟨w3.heap.size + 1, 0, none⟩ = some (.slice B m d) ∧ w'.cell? ⟨w3.heap.size + 1, 1, none⟩ = some (.int .i64 g.per) ∧ w'.cell? ⟨w3.heap.size + 1, 2, none⟩ = some (.int .i64 g.inc)) (first | go_keep)
          (first
            | (go_at_call 26
               refine (srcBent_any w.heap.size A n c f.per f.inc f.vals _ (by exact E.out.s) (by exact E.out.lf.ints) (by omega)).mono ?_
               rintro q w7 ⟨gB, AB, nB, cB, hlB, rfl, hIB, hBB, hSB, hkB⟩
               have hkB := kofdrew hkB
               have hnB : nB ≤ 1000 := by have h2 : gB.vals.length = nB := hIB.1; omega
               have E := Lib.hid (E.out.kept hSB hkB); have RB := Lib.hid (RB.out.kept hkB); have OB := Lib.hid (OB.out.kept hkB)
               have hX := (show (CR.mk AB nB cB gB).In w.heap.size w7 from CR.In.new hIB hBB (by simp; omega))
               have XB := Lib.hid hX
               clear hIB hBB hSB hkB hX hlB
               clear f0 f1 f2 g0 g1 g2 hlf hlg hlp
               clear r0 r1 r2 hlr q0 q1 q2 hlq
               obtain ⟨f0, f1, f2, g0, g1, g2, hlf, hlg, hlp⟩ := E.out.cells
               obtain ⟨r0, r1, r2, hlr⟩ := RB.out.cells
               obtain ⟨q0, q1, q2, hlq⟩ := OB.out.cells
               dsimp only)
            | (go_at_call_of 19 (Value.int IntKind.i64 3)
               have TOK := hx80
               refine (n_any w.heap.size 3 _ (by exact E.out.s) (by omega) (by omega)).mono ?_
               rintro q w9 ⟨x9, hx90, hx91, rfl, hS, hkk⟩
               have E := Lib.hid (E.out.kept hS hkk); have RB := Lib.hid (RB.out.kept hkk); have OB := Lib.hid (OB.out.kept hkk); have XB := Lib.hid (XB.out.kept hkk)
               have e9 : IntKind.i64.wrap (1 + x9) = 1 + x9 := IntWalk.i64_in _ (by omega)
               clear hS hkk
               clear f0 f1 f2 g0 g1 g2 hlf hlg hlp
               clear r0 r1 r2 hlr q0 q1 q2 hlq
               obtain ⟨f0, f1, f2, g0, g1, g2, hlf, hlg, hlp⟩ := E.out.cells
               obtain ⟨r0, r1, r2, hlr⟩ := RB.out.cells
               obtain ⟨q0, q1, q2, hlq⟩ := OB.out.cells
               dsimp only)
            | (go_at_call_of 19 (Value.int IntKind.i64 3)
               refine (n_any w.heap.size 3 _ (by exact E.out.s) (by omega) (by omega)).mono ?_
               rintro q w8 ⟨x8, hx80, hx81, rfl, hS, hkk⟩
               have E := Lib.hid (E.out.kept hS hkk); have RB := Lib.hid (RB.out.kept hkk); have OB := Lib.hid (OB.out.kept hkk); have XB := Lib.hid (XB.out.kept hkk)
               clear hS hkk
               clear f0 f1 f2 g0 g1 g2 hlf hlg hlp
               clear r0 r1 r2 hlr q0 q1 q2 hlq
               obtain ⟨f0, f1, f2, g0, g1, g2, hlf, hlg, hlp⟩ := E.out.cells
               obtain ⟨r0, r1, r2, hlr⟩ := RB.out.cells
               obtain ⟨q0, q1, q2, hlq⟩ := OB.out.cells
               dsimp only)
            | (go_at_call 18
               refine (longer_any B m d g.per g.inc x8 (1 + x9) g.vals _ (by exact E.out.lg.ints) HDL.out.ok (by omega) (by omega) (by omega) (by omega)).mono ?_
               rintro q w10 ⟨g', hk', A5, n5, c5, rfl, hI5, hA5, hk10⟩
               have hap5 : ∀ b off s, A5 = some ⟨b, off, s⟩ → b ≠ w.heap.size := fun b off s e => by
                 rcases hA5 with h1 | h1
                 · exact E.out.lg.ap b off s (by rw [← h1]; exact e)
                 · have h2 := h1 b off s e; have h3 := E.out.s.lt; omega
               have hlk := longer_facts HDL.out (by omega) (by omega) (by omega) (by omega) hk'
               have hn5 : n5 ≤ 400 := by have h1 := hlk.1.n2; have h2 : g'.vals.length = n5 := hI5.1; omega
               have E := Lib.hid (E.out.below hk10); have RB := Lib.hid (RB.out.below hk10); have OB := Lib.hid (OB.out.below hk10); have XB := Lib.hid (XB.out.below hk10)
               have hX := (show (CR.mk A5 n5 c5 g').In w.heap.size w10 from ⟨hI5, fun _ => hap5⟩)
               have XL := Lib.hid hX
               clear hI5 hk' hk10 hlk hA5 hap5 hX
               clear f0 f1 f2 g0 g1 g2 hlf hlg hlp
               clear r0 r1 r2 hlr q0 q1 q2 hlq
               obtain ⟨f0, f1, f2, g0, g1, g2, hlf, hlg, hlp⟩ := E.out.cells
               obtain ⟨r0, r1, r2, hlr⟩ := RB.out.cells
               obtain ⟨q0, q1, q2, hlq⟩ := OB.out.cells
               dsimp only))
        all_goals
          go_wp2_with fail
          go_meet
          exact ⟨w10.heap.size, [⟨A1, n1, c1, ⟨L1, p1, i1⟩⟩, ⟨A2, n2, c2, ⟨L2, p2, i2⟩⟩, ⟨A, n, c, f⟩, ⟨B, m, d, g⟩, ⟨AB, nB, cB, gB⟩, ⟨A5, n5, c5, g'⟩], rfl, rfl, (by
            intro x hx
            simp only [List.mem_cons, List.not_mem_nil, or_false] at hx
            rcases hx with rfl | rfl | rfl | rfl | rfl | rfl <;> (simp only; omega)), E.out.s.alloc _, kall E.out.k _, Blk.new _ _ _, (by
            intro x hx
            simp only [List.mem_cons, List.not_mem_nil, or_false] at hx
            rcases hx with rfl | rfl | rfl | rfl | rfl | rfl
            · exact RB.out.inn.alloc _
            · exact OB.out.inn.alloc _
            · exact (E.out.lf.lc).inn.alloc _
            · exact (E.out.lg.lc).inn.alloc _
            · exact XB.out.alloc _
            · exact XL.out.alloc _), Nat.ne_of_gt E.out.s.lt⟩
      case rest =>
        as_aux_lemma =>
        obtain ⟨b, xs, rfl, hxl, hxn, hE⟩ := hcut
        clear E RB OB HDL HD HD2
        clear f0 f1 f2 g0 g1 g2 hlf hlg hlp
        clear r0 r1 r2 hlr q0 q1 q2 hlq
        have E := Lib.hid hE; have HXL := Lib.hid hxl; have HXN := Lib.hid hxn
        clear hE hxl hxn
        go_wp2_with fail
        go_loopg [59] 6 (fun gg s59 wx => ∃ k : Nat, k + gg = 6 ∧ s59 = .int .i64 k ∧ LE w.heap.size w wx b xs)
        case atStart => exact ⟨0, rfl, rfl, E.out⟩
        case round =>
          clear E
          as_aux_lemma =>
          obtain ⟨k, hkg, rfl, hE⟩ := hrel
          have E := Lib.hid hE
          clear hE
          by_cases hk : k < 6
          · have hki : (k : Int) < 6 := by omega
            obtain ⟨X, hXm, hXi, k0, k1, k2⟩ := E.out.row.get (k := k) (by rw [HXL.out]; exact hk)
            have hlb := E.out.row.lt
            have LX := Lib.hid (Lc.new hXi E.out.s.lt)
            have hXn := HXN.out X hXm
            have hlw := E.out.row.lt
            go_wp2_with fail
            obtain ⟨wo, hwo⟩ : ∃ wo : World, wo = wr := ⟨_, rfl⟩
            subst hwo
            obtain ⟨go, hgo⟩ : ∃ go : Nat, go = gk := ⟨_, rfl⟩
            subst hgo
            clear k0 k1 k2 hXi
            go_loopg [65] 6 (fun gg s65 wy => ∃ j : Nat, j + gg = 6 ∧ s65 = .int .i64 j ∧ LE w.heap.size w wy b xs ∧ Lc w.heap.size wy wo.heap.size X)
            case atStart => exact ⟨0, rfl, rfl, E.out.alloc _, LX.out⟩
            case round =>
              clear E LX
              as_aux_lemma =>
              obtain ⟨j, hjg, rfl, hE, hLX⟩ := hrel
              have E := Lib.hid hE; have LX := Lib.hid hLX
              clear hE hLX
              by_cases hj : j < 6
              · have hji : (j : Int) < 6 := by omega
                obtain ⟨Y, hYm, hYi, k0, k1, k2⟩ := E.out.row.get (k := j) (by rw [HXL.out]; exact hj)
                have hYn := HXN.out Y hYm
                have LY := Lib.hid (Lc.new hYi E.out.s.lt)
                obtain ⟨x0, x1, x2, hlx⟩ := LX.out.cells
                have hlw := E.out.row.lt
                go_wp2_with fail
                have E := Lib.hid (E.out.alloc (.cells #[.slice Y.A Y.n Y.c, .int .i64 Y.f.per, .int .i64 Y.f.inc] 26))
                have LX := Lib.hid (LX.out.alloc (.cells #[.slice Y.A Y.n Y.c, .int .i64 Y.f.per, .int .i64 Y.f.inc] 26))
                obtain ⟨wi, hwi⟩ : ∃ wi : World, wi = wr := ⟨_, rfl⟩
                subst hwi
                clear x0 x1 x2 hlx k0 k1 k2 hYi hlw hXm hYm
                obtain ⟨x0, x1, x2, hlx⟩ := LX.out.cells
                obtain ⟨y0, y1, y2, hly⟩ := LY.out.cells
                go_wp2_with fail
                refine (exceeds_any X.A Y.A X.n Y.n X.c Y.c X.f.per X.f.inc Y.f.per Y.f.inc X.f.vals Y.f.vals _ (by exact LX.out.inn.ints) (by exact LY.out.inn.ints) (by omega) (by omega)).mono ?_
                rintro q wq ⟨t, ok, er, hS, rfl, hbq⟩
                have HS := Lib.hid hS
                clear hS
                have E := Lib.hid (E.out.below (by first | exact hbq | exact bofdrew hbq))
                have LX := Lib.hid (LX.out.below (by first | exact hbq | exact bofdrew hbq))
                have LY := Lib.hid (LY.out.below (by first | exact hbq | exact bofdrew hbq))
                clear hbq
                clear x0 x1 x2 hlx y0 y1 y2 hly
                obtain ⟨x0, x1, x2, hlx⟩ := LX.out.cells
                obtain ⟨y0, y1, y2, hly⟩ := LY.out.cells
                go_wp2_with fail
                refine (refExceeds_any X.A Y.A X.n Y.n X.c Y.c X.f.per X.f.inc Y.f.per Y.f.inc X.f.vals Y.f.vals _ (by exact LX.out.inn.ints) (by exact LY.out.inn.ints) (by omega) (by omega)).mono ?_
                rintro q wq ⟨t', ok', er', hS, rfl, hbq⟩
                obtain ⟨rfl, rfl, rfl⟩ := OrdS.unique (fun _ _ a b => ⟨(ExS.unique a b).1.symm, (ExS.unique a b).2.symm⟩) HS.out hS
                clear hS HS
                have E := Lib.hid (E.out.below (by first | exact hbq | exact bofdrew hbq))
                have LX := Lib.hid (LX.out.below (by first | exact hbq | exact bofdrew hbq))
                have LY := Lib.hid (LY.out.below (by first | exact hbq | exact bofdrew hbq))
                clear hbq
                clear x0 x1 x2 hlx y0 y1 y2 hly
                obtain ⟨x0, x1, x2, hlx⟩ := LX.out.cells
                obtain ⟨y0, y1, y2, hly⟩ := LY.out.cells
                have h1 : (t' != t') = false := by simp
                have h2 : (ok' != ok') = false := by simp
                have h3 : (er' != er') = false := by simp
                go_wp2_with fail
                go_region_held3 (fun w' => w'.cell? ⟨wo.heap.size, 0, none⟩ = some (.slice X.A X.n X.c) ∧ w'.cell? ⟨wo.heap.size, 1, none⟩ = some (.int .i64 X.f.per) ∧ w'.cell? ⟨wo.heap.size, 2, none⟩ = some (.int .i64 X.f.inc) ∧ w'.cell? ⟨wi.heap.size, 0, none⟩ = some (.slice Y.A Y.n Y.c) ∧ w'.cell? ⟨wi.heap.size, 1, none⟩ = some (.int .i64 Y.f.per) ∧ w'.cell? ⟨wi.heap.size, 2, none⟩ = some (.int .i64 Y.f.inc)) (first | go_keep)
                  (first
                    | (go_at_call 29
                       refine (atMost_any X.A Y.A X.n Y.n X.c Y.c X.f.per X.f.inc Y.f.per Y.f.inc X.f.vals Y.f.vals _ (by exact LX.out.inn.ints) (by exact LY.out.inn.ints) (by omega) (by omega)).mono ?_
                       rintro q wq ⟨ba, hba, rfl, hbq⟩
                       have HBA := Lib.hid hba
                       clear hba
                       have E := Lib.hid (E.out.below (by first | exact hbq | exact bofdrew hbq))
                       have LX := Lib.hid (LX.out.below (by first | exact hbq | exact bofdrew hbq))
                       have LY := Lib.hid (LY.out.below (by first | exact hbq | exact bofdrew hbq))
                       clear hbq
                       clear x0 x1 x2 hlx y0 y1 y2 hly
                       obtain ⟨x0, x1, x2, hlx⟩ := LX.out.cells
                       obtain ⟨y0, y1, y2, hly⟩ := LY.out.cells
                       dsimp only)
                    | (go_at_call 30
                       refine (refAtMost_any X.A Y.A X.n Y.n X.c Y.c X.f.per X.f.inc Y.f.per Y.f.inc X.f.vals Y.f.vals _ (by exact LX.out.inn.ints) (by exact LY.out.inn.ints) (by omega) (by omega)).mono ?_
                       rintro q wq ⟨bb, hbb, rfl, hbq⟩
                       obtain rfl := AtM.unique HBA.out hbb
                       clear hbb HBA
                       have h4 : (ba != ba) = false := by simp
                       have E := Lib.hid (E.out.below (by first | exact hbq | exact bofdrew hbq))
                       have LX := Lib.hid (LX.out.below (by first | exact hbq | exact bofdrew hbq))
                       have LY := Lib.hid (LY.out.below (by first | exact hbq | exact bofdrew hbq))
                       clear hbq
                       clear x0 x1 x2 hlx y0 y1 y2 hly
                       obtain ⟨x0, x1, x2, hlx⟩ := LX.out.cells
                       obtain ⟨y0, y1, y2, hly⟩ := LY.out.cells
                       dsimp only))
                all_goals
                  clear h1 h2 h3 h4
                  go_wp2_with fail
                  refine (settles_any X.A Y.A X.n Y.n X.c Y.c X.f.per X.f.inc Y.f.per Y.f.inc X.f.vals Y.f.vals _ (by exact LX.out.inn.ints) (by exact LY.out.inn.ints) (by omega) (by omega)).mono ?_
                  rintro q wq ⟨t2, ok2, er2, hS, rfl, hbq⟩
                  have HS := Lib.hid hS
                  clear hS
                  have E := Lib.hid (E.out.below (by first | exact hbq | exact bofdrew hbq))
                  have LX := Lib.hid (LX.out.below (by first | exact hbq | exact bofdrew hbq))
                  have LY := Lib.hid (LY.out.below (by first | exact hbq | exact bofdrew hbq))
                  clear hbq
                  clear x0 x1 x2 hlx y0 y1 y2 hly
                  obtain ⟨x0, x1, x2, hlx⟩ := LX.out.cells
                  obtain ⟨y0, y1, y2, hly⟩ := LY.out.cells
                  go_wp2_with fail
                  refine (refSettles_any X.A Y.A X.n Y.n X.c Y.c X.f.per X.f.inc Y.f.per Y.f.inc X.f.vals Y.f.vals _ (by exact LX.out.inn.ints) (by exact LY.out.inn.ints) (by omega) (by omega)).mono ?_
                  rintro q wq ⟨t', ok', er', hS, rfl, hbq⟩
                  obtain ⟨rfl, rfl, rfl⟩ := OrdS.unique (fun _ _ a b => ⟨(SeS.unique a b).1.symm, (SeS.unique a b).2.symm⟩) HS.out hS
                  clear hS HS
                  have E := Lib.hid (E.out.below (by first | exact hbq | exact bofdrew hbq))
                  have LX := Lib.hid (LX.out.below (by first | exact hbq | exact bofdrew hbq))
                  have LY := Lib.hid (LY.out.below (by first | exact hbq | exact bofdrew hbq))
                  clear hbq
                  clear x0 x1 x2 hlx y0 y1 y2 hly
                  obtain ⟨x0, x1, x2, hlx⟩ := LX.out.cells
                  obtain ⟨y0, y1, y2, hly⟩ := LY.out.cells
                  go_wp2_with fail
                  refine (meets_any X.A Y.A X.n Y.n X.c Y.c X.f.per X.f.inc Y.f.per Y.f.inc X.f.vals Y.f.vals _ (by exact LX.out.inn.ints) (by exact LY.out.inn.ints) (by omega) (by omega)).mono ?_
                  rintro q wq ⟨t3, ok3, er3, hS, rfl, hbq⟩
                  have HS := Lib.hid hS
                  clear hS
                  have E := Lib.hid (E.out.below (by first | exact hbq | exact bofdrew hbq))
                  have LX := Lib.hid (LX.out.below (by first | exact hbq | exact bofdrew hbq))
                  have LY := Lib.hid (LY.out.below (by first | exact hbq | exact bofdrew hbq))
                  clear hbq
                  clear x0 x1 x2 hlx y0 y1 y2 hly
                  obtain ⟨x0, x1, x2, hlx⟩ := LX.out.cells
                  obtain ⟨y0, y1, y2, hly⟩ := LY.out.cells
                  go_wp2_with fail
                  refine (refMeets_any X.A Y.A X.n Y.n X.c Y.c X.f.per X.f.inc Y.f.per Y.f.inc X.f.vals Y.f.vals _ (by exact LX.out.inn.ints) (by exact LY.out.inn.ints) (by omega) (by omega)).mono ?_
                  rintro q wq ⟨t4, ok4, er4, hS, rfl, hbq⟩
                  obtain ⟨rfl, rfl, rfl⟩ := OrdS.unique (fun _ _ a b => by
                    obtain ⟨m1, m2, o1, o2, s1, s2, rfl, rfl⟩ := b
                    obtain ⟨e1, e2⟩ := meets_ref s1 s2 a
                    exact ⟨e2.symm, e1.symm⟩) HS.out hS
                  clear hS HS
                  have E := Lib.hid (E.out.below (by first | exact hbq | exact bofdrew hbq))
                  have LX := Lib.hid (LX.out.below (by first | exact hbq | exact bofdrew hbq))
                  have LY := Lib.hid (LY.out.below (by first | exact hbq | exact bofdrew hbq))
                  clear hbq
                  clear x0 x1 x2 hlx y0 y1 y2 hly
                  obtain ⟨x0, x1, x2, hlx⟩ := LX.out.cells
                  obtain ⟨y0, y1, y2, hly⟩ := LY.out.cells
                  have h1 : (t' != t') = false := by simp
                  have h2 : (ok' != ok') = false := by simp
                  have h3 : (er' != er') = false := by simp
                  have h4 : (t4 != t4) = false := by simp
                  have h5 : (ok4 != ok4) = false := by simp
                  have h6 : (er4 != er4) = false := by simp
                  go_wp2_with fail
                  go_roundg (gk - 1)
                  case measure => omega
                  case rel => exact ⟨j + 1, by omega, by go_num, E.out, LX.out⟩
              · have hj6 : j = 6 := by omega
                subst hj6
                clear hj hjg
                go_wp2_with fail
                go_roundg (go - 1)
                case measure => omega
                case rel => exact ⟨k + 1, by omega, by go_num, E.out⟩
          · have hk6 : k = 6 := by omega
            subst hk6
            clear hk hkg
            go_wp2_with fail
            refine (awake4_any _).mono ?_
            rintro q wq ⟨rfl, hbq⟩
            have bw := bthen BW.out (E.out.below hbq).fin
            go_wp2_with fail
            go_ret
            exact ⟨rfl, bw⟩
    · rw [decide_eq_false h2]
      go_wp2_with fail
      refine (awake4_any _).mono ?_
      rintro q wq ⟨rfl, hbq⟩
      have bw := bthen BW.out hbq
      go_wp2_with fail
      go_ret
      exact ⟨rfl, bw⟩
  · rw [decide_eq_false h1]
    go_wp2_with fail
    refine (awake4_any _).mono ?_
    rintro q wq ⟨rfl, hbq⟩
    have bw := bthen BW.out hbq
    go_wp2_with fail
    go_ret
    exact ⟨rfl, bw⟩
end Go.Proofs.Yteddogbhofhlaaa
