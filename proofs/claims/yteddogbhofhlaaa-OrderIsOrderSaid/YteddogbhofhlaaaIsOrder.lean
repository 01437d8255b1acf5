/- The statement OrderIsOrder: the walk. -/
import Derived.Test.YteddogbhofhlaaaEnv2
import Derived.Test.YteddogbhofhlaaaEqual
import Derived.Test.YteddogbhofhlaaaRefValid
import Derived.Test.YteddogbhofhlaaaNormalLaw
namespace Go.Proofs.Yteddogbhofhlaaa
open Go.RowKit
set_option linter.unusedVariables false

/-- a reader at block p; three curves in the blocks F, G, H -/
structure Env3 (p : Nat) (w0 w : World) (F : Nat) (A : Option Addr) (n c : Nat) (f : Cv) (G : Nat) (B : Option Addr) (m d : Nat) (g : Cv) (H : Nat) (C : Option Addr) (k e : Nat) (h : Cv) : Prop where
  two : Env2 p w0 w F A n c f G B m d g
  lh : Loc p w H C k e h
section
variable {p : Nat} {w0 w w' : World} {A B C : Option Addr} {F G H n c m d k e : Nat} {f g h : Cv}
theorem Env3.below (E : Env3 p w0 w F A n c f G B m d g H C k e h) (hb : Below w.heap.size w w') : Env3 p w0 w' F A n c f G B m d g H C k e h := ⟨E.two.below hb, E.lh.below hb⟩
theorem Env3.kept (E : Env3 p w0 w F A n c f G B m d g H C k e h) (hS : SrcAt w' p) (hk : Kept w.heap.size p w w') : Env3 p w0 w' F A n c f G B m d g H C k e h := ⟨E.two.kept hS hk, E.lh.kept hk⟩
theorem Env3.cells (E : Env3 p w0 w F A n c f G B m d g H C k e h) : w.cell? ⟨F, 0, none⟩ = some (.slice A n c) ∧ w.cell? ⟨F, 1, none⟩ = some (.int .i64 f.per) ∧ w.cell? ⟨F, 2, none⟩ = some (.int .i64 f.inc) ∧
    w.cell? ⟨G, 0, none⟩ = some (.slice B m d) ∧ w.cell? ⟨G, 1, none⟩ = some (.int .i64 g.per) ∧ w.cell? ⟨G, 2, none⟩ = some (.int .i64 g.inc) ∧
    w.cell? ⟨H, 0, none⟩ = some (.slice C k e) ∧ w.cell? ⟨H, 1, none⟩ = some (.int .i64 h.per) ∧ w.cell? ⟨H, 2, none⟩ = some (.int .i64 h.inc) ∧ F < w.heap.size ∧ G < w.heap.size ∧ H < w.heap.size ∧ p < w.heap.size := by
  obtain ⟨f0, f1, f2, g0, g1, g2, hlf, hlg, hlp⟩ := E.two.cells
  obtain ⟨k0, k1, k2, hlh⟩ := E.lh.cells
  exact ⟨f0, f1, f2, g0, g1, g2, k0, k1, k2, hlf, hlg, hlh, hlp⟩
/-- the second curve's variable is written anew -/
theorem Env3.store2 {B' : Option Addr} {m' d' : Nat} {g' : Cv} (E : Env3 p w0 w F A n c f G B m d g H C k e h) (hI : Ints w w.heap.size B' m' g'.vals) (hB : ∀ b off s, B' = some ⟨b, off, s⟩ → b ≠ G ∧ b ≠ p) (hFG : F ≠ G) (hHG : H ≠ G)
    (hA : ∀ b off s, A = some ⟨b, off, s⟩ → b ≠ G) (hC : ∀ b off s, C = some ⟨b, off, s⟩ → b ≠ G) (hp : p < G) (h0 : w0.heap.size ≤ G) :
    Env3 p w0 (((w.setCell ⟨G, 0, none⟩ (.slice B' m' d')).setCell ⟨G, 1, none⟩ (.int .i64 g'.per)).setCell ⟨G, 2, none⟩ (.int .i64 g'.inc)) F A n c f G B' m' d' g' H C k e h :=
  ⟨⟨E.two.s.far3 hp, E.two.k.set3 h0, E.two.lf.far3 hFG hA, ⟨E.two.lg.blk.store3 _ _ _, by
    simpa using ((hI.setCell (p := ⟨G, 0, none⟩) (fun b off s e => (hB b off s e).1) (.slice B' m' d')).setCell (p := ⟨G, 1, none⟩) (fun b off s e => (hB b off s e).1) (.int .i64 g'.per)).setCell (p := ⟨G, 2, none⟩) (fun b off s e => (hB b off s e).1) (.int .i64 g'.inc),
    by omega, fun b off s e => (hB b off s e).2⟩⟩, E.lh.far3 hHG hC⟩
end

/-! plain words on the order -/
theorem not_up_self (f : Cv) (n : Nat) : ¬ Up f f n := fun h => by
  rcases h.2 with h2 | h2
  · exact h.1 h2
  · omega
theorem not_up_trans {f g h : Cv} {n : Nat} (h1 : ¬ Up f g n) (h2 : ¬ Up g h n) : ¬ Up f h n := fun hu => by
  have a1 : h.infAt n = False := eq_false hu.1
  have a2 : ¬ g.infAt n := fun e => h2 ⟨hu.1, .inl e⟩
  have a3 : ¬ f.infAt n := fun e => h1 ⟨a2, .inl e⟩
  have a4 : ¬ g.at n < f.at n := fun e => h1 ⟨a2, .inr e⟩
  have a5 : ¬ h.at n < g.at n := fun e => h2 ⟨hu.1, .inr e⟩
  rcases hu.2 with h3 | h3
  · exact a3 h3
  · omega
theorem at_eq_of {f g : Cv} (h1 : ∀ n, ¬ Up f g n) (h2 : ∀ n, ¬ Up g f n) : f.at = g.at := by
  funext n
  by_cases hg : g.infAt n
  · by_cases hf : f.infAt n
    · rw [hf.2, hg.2]
    · exact absurd ⟨hf, .inl hg⟩ (h2 n)
  · by_cases hf : f.infAt n
    · exact absurd ⟨hg, .inl hf⟩ (h1 n)
    · have a1 : ¬ g.at n < f.at n := fun e => h1 n ⟨hg, .inr e⟩
      have a2 : ¬ f.at n < g.at n := fun e => h2 n ⟨hf, .inr e⟩
      omega
theorem infAt_of_eq {f g : Cv} (hf : f.Ok) (hg : g.Ok) (h : f.at = g.at) (n : Nat) (hi : f.infAt n) : g.infAt n := by
  refine ⟨?_, by rw [← h]; exact hi.2⟩
  have h1 : f.at 400 = inf := hf.at_inf hi.1 (by have := hf.n2; omega)
  rw [h] at h1
  exact ((hg.at_bd (n := 400) (by omega)).2.2 h1).1
theorem not_up_of_eq {f g : Cv} (hf : f.Ok) (hg : g.Ok) (h : f.at = g.at) (n : Nat) : ¬ Up f g n := fun hu => by
  rcases hu.2 with h2 | h2
  · exact hu.1 (infAt_of_eq hf hg h n h2)
  · rw [h] at h2; omega

/-- the statement OrderIsOrder, plain -/
theorem is_order_plain {f g h : Cv} {a b c gf ok same : Bool} {t : Int} (hf : f.Ok) (hg : g.Ok) (hh : h.Ok) (h1 : AtM f g a) (h2 : AtM g h b) (h3 : AtM f h c) (h4 : AtM g f gf) (h5 : SeS (Ne2 f g) t ok) (h6 : EqS f g same) :
    (a = true → b = true → c = true) ∧ (a = true → gf = same) ∧ (a = false → same = false) ∧ (ok = true → (t == 0) = same) ∧ (ok = false → same = false) := by
  have e1 : a = true ↔ ∀ n, ¬ Up f g n := by rcases h1 with ⟨_, _, h⟩ | ⟨h, _⟩; exact h; exact absurd ⟨hf, hg⟩ h
  have e2 : b = true ↔ ∀ n, ¬ Up g h n := by rcases h2 with ⟨_, _, h⟩ | ⟨h, _⟩; exact h; exact absurd ⟨hg, hh⟩ h
  have e3 : c = true ↔ ∀ n, ¬ Up f h n := by rcases h3 with ⟨_, _, h⟩ | ⟨h, _⟩; exact h; exact absurd ⟨hf, hh⟩ h
  have e4 : gf = true ↔ ∀ n, ¬ Up g f n := by rcases h4 with ⟨_, _, h⟩ | ⟨h, _⟩; exact h; exact absurd ⟨hg, hf⟩ h
  have e6 : same = true ↔ f.at = g.at := by rcases h6 with ⟨_, _, h⟩ | ⟨h, _⟩; exact h; exact absurd ⟨hf, hg⟩ h
  have e7 : f.at = g.at ↔ (∀ n, ¬ Up f g n) ∧ ∀ n, ¬ Up g f n := ⟨fun h => ⟨not_up_of_eq hf hg h, not_up_of_eq hg hf h.symm⟩, fun h => at_eq_of h.1 h.2⟩
  have e8 : f.at = g.at ↔ ∀ n, ¬ Ne2 f g n := by
    rw [e7]
    exact ⟨fun h n hu => hu.elim (h.1 n) (h.2 n), fun h => ⟨fun n hu => h n (.inl hu), fun n hu => h n (.inr hu)⟩⟩
  refine ⟨fun ha hb => e3.2 fun n => not_up_trans (e1.1 ha n) (e2.1 hb n), fun ha => ?_, fun ha => ?_, fun ho => ?_, fun ho => ?_⟩
  · have : gf = true ↔ same = true := by
      rw [e6, e7, e4]
      exact ⟨fun h => ⟨e1.1 ha, h⟩, fun h => h.2⟩
    cases gf <;> cases same <;> simp_all
  · cases hs : same
    · rfl
    · have := e1.2 (e7.1 (e6.1 hs)).1
      rw [ha] at this; cases this
  · rcases h5 with ⟨_, x, rfl, k1, k2⟩ | ⟨h, _⟩
    · have : ((x : Int) == 0) = true ↔ same = true := by
        rw [e6, e8, beq_iff_eq]
        constructor
        · intro hx n
          exact k1 n (by omega)
        · intro hn
          rcases x with _ | y
          · rfl
          · exact absurd (k2 y rfl) (hn y)
      cases hx : ((x : Int) == 0) <;> cases hs : same <;> simp_all
    · rw [ho] at h; cases h
  · cases hs : same
    · rfl
    · rcases h5 with ⟨h, _⟩ | ⟨_, _, k1⟩
      · rw [ho] at h; cases h
      · obtain ⟨n, _, hn⟩ := k1 0
        exact absurd hn (e8.1 (e6.1 hs) n)

set_option maxHeartbeats 8000000 in
set_option maxRecDepth 100000 in
theorem isOrderLaw_any (A0 : Option Addr) (n0 c0 : Nat) (L : List Int) (w : World) (hL : Ints w w.heap.size A0 n0 L) (hc0 : n0 ≤ c0) (hn0 : (n0 : Int) ≤ 9223372036854775807) :
    Calls Try.prog 13 #[.slice A0 n0 c0] w fun e w' => e = .returned (.bool true) ∧ Below w.heap.size w w' := by
  go_enter Try.func13, Try.ntmps13
  go_wp2_with fail
  refine (new_any A0 n0 c0 L w hL hc0 hn0).mono ?_
  rintro e w1 ⟨rfl, hS1, hb1⟩
  have hpl := hS1.lt
  clear hL
  go_wp2_with fail
  refine (srcCurve_any w.heap.size 4 w1 hS1 (by omega) (by omega)).mono ?_
  rintro e w2 ⟨f, A, n, c, hD, rfl, hI, hA, hS2, hk2⟩
  go_wp2_with fail
  refine (srcCurve_any w.heap.size 4 w2 hS2 (by omega) (by omega)).mono ?_
  rintro e w3 ⟨g, B, m, d, hD2, rfl, hI2, hB, hS3, hk3⟩
  go_wp2_with fail
  refine (srcCurve_any w.heap.size 4 w3 hS3 (by omega) (by omega)).mono ?_
  rintro q w4 ⟨h, C, k, e, hD3, rfl, hI3, hC, hS4, hk4⟩
  have E := Lib.hid (show Env3 w.heap.size w (((w4.alloc (.cells #[.slice A n c, .int .i64 f.per, .int .i64 f.inc] 26)).alloc (.cells #[.slice B m d, .int .i64 g.per, .int .i64 g.inc] 26)).alloc (.cells #[.slice C k e, .int .i64 h.per, .int .i64 h.inc] 26)) w4.heap.size A n c f (w4.heap.size + 1) B m d g (w4.heap.size + 1 + 1) C k e h from by
    have p2 := hS2.lt; have p3 := hS3.lt; have p4 := hS4.lt
    have neA : ∀ b off s, A = some ⟨b, off, s⟩ → b ≠ w.heap.size := fun b off s e => by have := hA b off s e; omega
    have neB : ∀ b off s, B = some ⟨b, off, s⟩ → b ≠ w.heap.size := fun b off s e => by have := hB b off s e; omega
    have iA := (hI.kept neA hk3).kept neA hk4
    have iB := hI2.kept neB hk4
    have l1 := ((Loc.new (c := c) iA hA hpl p4).alloc (.cells #[.slice B m d, .int .i64 g.per, .int .i64 g.inc] 26)).alloc (.cells #[.slice C k e, .int .i64 h.per, .int .i64 h.inc] 26)
    have l2 := (Loc.new (c := d) (iB.alloc' (.cells #[.slice A n c, .int .i64 f.per, .int .i64 f.inc] 26)) hB p2 (hS4.alloc _).lt).alloc (.cells #[.slice C k e, .int .i64 h.per, .int .i64 h.inc] 26)
    have l3 := Loc.new (c := e) ((hI3.alloc' (.cells #[.slice A n c, .int .i64 f.per, .int .i64 f.inc] 26)).alloc' (.cells #[.slice B m d, .int .i64 g.per, .int .i64 g.inc] 26)) hC p3 ((hS4.alloc _).alloc _).lt
    simp only [World.size_alloc] at l2 l3
    exact ⟨⟨((hS4.alloc _).alloc _).alloc _, kall (kall (kall (kstep (kstep (kstep (Kept.of (p := w.heap.size) hb1) hk2) hk3) hk4) _) _) _, l1, l2⟩, l3⟩)
  have HD := Lib.hid (show DrawC 9 f from ⟨hD.ok, by have := hD.len; omega, hD.per, hD.inc, hD.small⟩)
  have HG := Lib.hid hD2.ok; have HH := Lib.hid hD3.ok
  have hp4 := hS4.lt
  have HAL := Lib.hid (show ∀ b off s, A = some ⟨b, off, s⟩ → b < w4.heap.size from fun b off s e => by
    obtain ⟨b', off', e', hb, _⟩ := hI.2 (by have h1 := hD.ok.n1; rw [hI.1] at h1; exact h1)
    rw [e] at e'; cases e'
    have := hk3.size; have := hk4.size; omega)
  have HCL := Lib.hid (show ∀ b off s, C = some ⟨b, off, s⟩ → b < w4.heap.size from fun b off s e => by
    obtain ⟨b', off', e', hb, _⟩ := hI3.2 (by have h1 := hD3.ok.n1; rw [hI3.1] at h1; exact h1)
    rw [e] at e'; cases e'; exact hb)
  have HAP := Lib.hid (show ∀ b off s, A = some ⟨b, off, s⟩ → b ≠ w.heap.size from fun b off s e => by have := hA b off s e; omega)
  have hn : n ≤ 400 := by have h1 := hD.ok.n2; have h2 : f.vals.length = n := hI.1; omega
  have hm : m ≤ 400 := by have h1 := hD2.ok.n2; have h2 : g.vals.length = m := hI2.1; omega
  have hk : k ≤ 400 := by have h1 := hD3.ok.n2; have h2 : h.vals.length = k := hI3.1; omega
  clear hD hI hA hS1 hS2 hk2 hb1 hpl hD2 hI2 hB hS3 hk3 hD3 hI3 hC hS4 hk4
  as_aux_lemma =>
  obtain ⟨f0, f1, f2, g0, g1, g2, k0, k1, k2, hlf, hlg, hlh, hlp⟩ := E.out.cells
  go_upto_region 3 with fail
  go_cut [24] (fun s24 wx => ∃ bx : Bool, s24 = .bool bx ∧ w4.heap.size + 1 + 1 < wx.heap.size ∧ Env3 w.heap.size w wx w4.heap.size A n c f (w4.heap.size + 1) B m d g (w4.heap.size + 1 + 1) C k e h)
  case first =>
    go_wp2_with fail
    refine (n_any w.heap.size 3 _ E.out.two.s (by omega) (by omega)).mono ?_
    rintro q w5 ⟨x, hx0, hx1, rfl, hS, hkk⟩
    have E := Lib.hid (E.out.kept hS hkk)
    clear hS hkk f0 f1 f2 g0 g1 g2 k0 k1 k2 hlf hlg hlh hlp
    have hlh := E.out.lh.lt
    go_wp2_with fail
    go_meet
    exact ⟨x == 0, rfl, hlh, E.out⟩
  case rest =>
  as_aux_lemma =>
  obtain ⟨bx, rfl, sz5, e3⟩ := hcut
  have E := Lib.hid e3
  clear e3
  clear f0 f1 f2 g0 g1 g2 k0 k1 k2 hlf hlg hlh hlp
  obtain ⟨f0, f1, f2, g0, g1, g2, k0, k1, k2, hlf, hlg, hlh, hlp⟩ := E.out.cells
  go_upto_if 24 with fail
  go_cut [] (fun wx => ∃ (B : Option Addr) (m d : Nat) (g : Cv), g.Ok ∧ m ≤ 400 ∧ Env3 w.heap.size w wx w4.heap.size A n c f (w4.heap.size + 1) B m d g (w4.heap.size + 1 + 1) C k e h)
  case first =>
    cases bx
    case false =>
      go_wp2_with fail
      go_meet
      exact ⟨B, m, d, g, HG.out, hm, E.out⟩
    case true =>
      have hpk := HD.out.per; have hik := HD.out.inc; have hi0 := HD.out.ok.i1; have hp0 := HD.out.ok.p1
      have gz := E.out.two.lg.blk
      have z0 := gz.frozen 0; have z1 := gz.frozen 1; have z2 := gz.frozen 2
      clear gz
      go_wp2_with fail
      go_region_held3 (fun w' => w'.cell? ⟨w4.heap.size, 0, none⟩ = some (.slice A n c) ∧ w'.cell? ⟨w4.heap.size, 1, none⟩ = some (.int .i64 f.per) ∧ w'.cell? ⟨w4.heap.size, 2, none⟩ = some (.int .i64 f.inc)) (first | go_keep | exact ⟨(cell_set3 (by omega)).trans f0, (cell_set3 (by omega)).trans f1, (cell_set3 (by omega)).trans f2⟩)
        (first
          | (go_at_call_of 19 (Value.int IntKind.i64 4)
             refine (n_any w.heap.size 4 _ (by exact E.out.two.s) (by omega) (by omega)).mono ?_
             rintro q w6 ⟨x8, hx80, hx81, rfl, hS, hkk⟩
             have E := Lib.hid (E.out.kept hS (kofdrew hkk))
             have sz6 := hkk.size
             simp only [World.size_drew] at sz6
             clear hS hkk
             clear f0 f1 f2 g0 g1 g2 k0 k1 k2 hlf hlg hlh hlp
             obtain ⟨f0, f1, f2, g0, g1, g2, k0, k1, k2, hlf, hlg, hlh, hlp⟩ := E.out.cells
             have TWO := 0)
          | (go_at_call_of 19 (Value.int IntKind.i64 3)
             refine (n_any w.heap.size 3 _ (by exact E.out.two.s) (by omega) (by omega)).mono ?_
             rintro q w7 ⟨x9, hx90, hx91, rfl, hS, hkk⟩
             have E := Lib.hid (E.out.kept hS hkk)
             have sz7 := hkk.size
             have e9 : IntKind.i64.wrap (1 + x9) = 1 + x9 := IntWalk.i64_in _ (by omega)
             clear hS hkk
             clear f0 f1 f2 g0 g1 g2 k0 k1 k2 hlf hlg hlh hlp
             obtain ⟨f0, f1, f2, g0, g1, g2, k0, k1, k2, hlf, hlg, hlh, hlp⟩ := E.out.cells
             have THREE := 0)
          | (go_at_call 18
             refine (longer_any A n c f.per f.inc x8 (1 + x9) f.vals _ (by exact E.out.two.lf.ints) HD.out.ok (by omega) (by omega) (by omega) (by omega)).mono ?_
             rintro q w10 ⟨g', hk', A5, n5, c5, rfl, hI5, hA5, hk10⟩
             have E := Lib.hid (E.out.below hk10)
             have sz10 := hk10.size
             have hlk := longer_facts HD.out (by omega) (by omega) (by omega) (by omega) hk'
             have hn5 : n5 ≤ 400 := by have h1 := hlk.1.n2; have h2 : g'.vals.length = n5 := hI5.1; omega
             have HG5 := Lib.hid hlk.1; have HI5 := Lib.hid hI5
             have HA5 := Lib.hid (show ∀ b off s, A5 = some ⟨b, off, s⟩ → b ≠ w4.heap.size + 1 ∧ b ≠ w.heap.size from fun b off s e => by
               rcases hA5 with h1 | h1
               · have h2 := HAL.out b off s (by rw [← h1]; exact e)
                 have h3 := HAP.out b off s (by rw [← h1]; exact e)
                 omega
               · have h2 := h1 b off s e
                 omega)
             clear hI5 hk' hk10 hlk hA5
             clear f0 f1 f2 g0 g1 g2 k0 k1 k2 hlf hlg hlh hlp
             obtain ⟨f0, f1, f2, g0, g1, g2, k0, k1, k2, hlf, hlg, hlh, hlp⟩ := E.out.cells
             have gz := E.out.two.lg.blk
             clear z0 z1 z2
             have z0 := gz.frozen 0; have z1 := gz.frozen 1; have z2 := gz.frozen 2
             clear gz))
      all_goals
        go_wp2_with fail
        go_meet
        exact ⟨A5, n5, c5, g', HG5.out, hn5, E.out.store2 HI5.out HA5.out (by omega) (by omega) (fun b off s e => by have := HAL.out b off s e; omega) (fun b off s e => by have := HCL.out b off s e; omega) (by omega) (by omega)⟩
  case rest =>
    as_aux_lemma =>
    clear E HG hm f0 f1 f2 g0 g1 g2 k0 k1 k2 hlf hlg hlh hlp
    obtain ⟨B, m, d, g, hg, hm, e3⟩ := hcut
    have E := Lib.hid e3; have HG := Lib.hid hg
    clear e3 hg
    obtain ⟨f0, f1, f2, g0, g1, g2, k0, k1, k2, hlf, hlg, hlh, hlp⟩ := E.out.cells
    go_wp2_with fail
    go_region_held3 (fun w' => w'.cell? ⟨w4.heap.size, 0, none⟩ = some (.slice A n c) ∧ w'.cell? ⟨w4.heap.size, 1, none⟩ = some (.int .i64 f.per) ∧ w'.cell? ⟨w4.heap.size, 2, none⟩ = some (.int .i64 f.inc) ∧
        w'.cell? ⟨w4.heap.size + 1, 0, none⟩ = some (.slice B m d) ∧ w'.cell? ⟨w4.heap.size + 1, 1, none⟩ = some (.int .i64 g.per) ∧ w'.cell? ⟨w4.heap.size + 1, 2, none⟩ = some (.int .i64 g.inc) ∧
        w'.cell? ⟨w4.heap.size + 1 + 1, 0, none⟩ = some (.slice C k e) ∧ w'.cell? ⟨w4.heap.size + 1 + 1, 1, none⟩ = some (.int .i64 h.per) ∧ w'.cell? ⟨w4.heap.size + 1 + 1, 2, none⟩ = some (.int .i64 h.inc)) (first | go_keep)
      (first
        | (go_at_call 29
           have := Hrb
           refine (atMost_any A C n k c e f.per f.inc h.per h.inc f.vals h.vals _ (by exact E.out.two.lf.ints) (by exact E.out.lh.ints) (by omega) (by omega)).mono ?_
           rintro q x3 ⟨rc, hres, rfl, hbq⟩
           have Hrc := Lib.hid hres
           have E := Lib.hid (E.out.below (by first | exact hbq | exact bofdrew hbq))
           clear hres hbq
           clear f0 f1 f2 g0 g1 g2 k0 k1 k2 hlf hlg hlh hlp
           obtain ⟨f0, f1, f2, g0, g1, g2, k0, k1, k2, hlf, hlg, hlh, hlp⟩ := E.out.cells)
        | (go_at_call 29
           have := Hra
           refine (atMost_any B C m k d e g.per g.inc h.per h.inc g.vals h.vals _ (by exact E.out.two.lg.ints) (by exact E.out.lh.ints) (by omega) (by omega)).mono ?_
           rintro q x2 ⟨rb, hres, rfl, hbq⟩
           have Hrb := Lib.hid hres
           have E := Lib.hid (E.out.below (by first | exact hbq | exact bofdrew hbq))
           clear hres hbq
           clear f0 f1 f2 g0 g1 g2 k0 k1 k2 hlf hlg hlh hlp
           obtain ⟨f0, f1, f2, g0, g1, g2, k0, k1, k2, hlf, hlg, hlh, hlp⟩ := E.out.cells)
        | (go_at_call 29
           skip
           refine (atMost_any A B n m c d f.per f.inc g.per g.inc f.vals g.vals _ (by exact E.out.two.lf.ints) (by exact E.out.two.lg.ints) (by omega) (by omega)).mono ?_
           rintro q x1 ⟨ra, hres, rfl, hbq⟩
           have Hra := Lib.hid hres
           have E := Lib.hid (E.out.below (by first | exact hbq | exact bofdrew hbq))
           clear hres hbq
           clear f0 f1 f2 g0 g1 g2 k0 k1 k2 hlf hlg hlh hlp
           obtain ⟨f0, f1, f2, g0, g1, g2, k0, k1, k2, hlf, hlg, hlh, hlp⟩ := E.out.cells))
    go_wp2_with fail
    refine (meets_any A B n m c d f.per f.inc g.per g.inc f.vals g.vals _ E.out.two.lf.ints E.out.two.lg.ints (by omega) (by omega)).mono ?_
    intro q w20 hr
    obtain ⟨t, ok, h5, rfl, hbq⟩ := RetE.ok HD.out.ok HG.out hr
    as_aux_lemma =>
    have E := Lib.hid (E.out.below hbq); have H5 := Lib.hid h5
    clear hr hbq h5
    clear f0 f1 f2 g0 g1 g2 k0 k1 k2 hlf hlg hlh hlp
    obtain ⟨f0, f1, f2, g0, g1, g2, k0, k1, k2, hlf, hlg, hlh, hlp⟩ := E.out.cells
    go_wp2_with fail
    refine (equal_any A B n m c d f.per f.inc g.per g.inc f.vals g.vals _ E.out.two.lf.ints E.out.two.lg.ints (by omega) (by omega)).mono ?_
    rintro q w21 ⟨same, h6, rfl, hbq⟩
    as_aux_lemma =>
    have E := Lib.hid (E.out.below hbq)
    obtain ⟨gf, hgf⟩ : ∃ gf, AtM g f gf := by
      by_cases hx : ∀ n, ¬ Up g f n
      · exact ⟨true, .inl ⟨HG.out, HD.out.ok, by simpa using hx⟩⟩
      · exact ⟨false, .inl ⟨HG.out, HD.out.ok, by simpa using hx⟩⟩
    obtain ⟨P1, P2, P3, P4, P5⟩ := is_order_plain HD.out.ok HG.out HH.out Hra.out Hrb.out Hrc.out hgf H5.out h6
    have HFF := Lib.hid (show AtM f f true from .inl ⟨HD.out.ok, HD.out.ok, by simp; exact not_up_self f⟩)
    have HOKF := Lib.hid (show Cv.okB ⟨f.vals, f.per, f.inc⟩ = true from Cv.okB_true HD.out.ok)
    have HGF0 := Lib.hid hgf
    clear hbq h6 hgf Hra Hrb Hrc H5 HH HG HAL HCL HAP
    clear f0 f1 f2 g0 g1 g2 k0 k1 k2 hlf hlg hlh hlp
    obtain ⟨f0, f1, f2, g0, g1, g2, k0, k1, k2, hlf, hlg, hlh, hlp⟩ := E.out.cells
    go_wp2_with fail
    refine (atMost_any A A n n c c f.per f.inc f.per f.inc f.vals f.vals _ E.out.two.lf.ints E.out.two.lf.ints (by omega) (by omega)).mono ?_
    intro q y1 hr
    obtain ⟨rfl, hbq⟩ := RetM.of HFF.out hr
    as_aux_lemma =>
    have E := Lib.hid (E.out.below hbq)
    clear hr hbq HFF
    clear f0 f1 f2 g0 g1 g2 k0 k1 k2 hlf hlg hlh hlp
    obtain ⟨f0, f1, f2, g0, g1, g2, k0, k1, k2, hlf, hlg, hlh, hlp⟩ := E.out.cells
    cases ra
    case false =>
      obtain rfl : same = false := P3 rfl
      clear P1 P2 P3 HGF0
      cases ok
      case false =>
        clear P4 P5
        go_wp2_with fail
        refine (refValid_any A n c f.per f.inc f.vals _ E.out.two.lf.ints (by omega)).mono ?_
        rw [HOKF.out]
        rintro q y3 ⟨rfl, hbq⟩
        have E := Lib.hid (E.out.below hbq)
        clear hbq f0 f1 f2 g0 g1 g2 k0 k1 k2 hlf hlg hlh hlp
        go_wp2_with fail
        refine (awake4_any _).mono ?_
        rintro q y4 ⟨rfl, hbq⟩
        have bw := (E.out.below hbq).two.fin
        go_wp2_with fail
        go_ret
        exact ⟨rfl, bw⟩
      case true =>
        have ht := P4 rfl
        clear P4 P5
        go_wp2_with fail
        refine (refValid_any A n c f.per f.inc f.vals _ E.out.two.lf.ints (by omega)).mono ?_
        rw [HOKF.out]
        rintro q y3 ⟨rfl, hbq⟩
        have E := Lib.hid (E.out.below hbq)
        clear hbq f0 f1 f2 g0 g1 g2 k0 k1 k2 hlf hlg hlh hlp
        go_wp2_with fail
        refine (awake4_any _).mono ?_
        rintro q y4 ⟨rfl, hbq⟩
        have bw := (E.out.below hbq).two.fin
        go_wp2_with fail
        go_ret
        exact ⟨rfl, bw⟩
    case true =>
      obtain rfl : gf = same := P2 rfl
      have HGF := HGF0
      cases rb
      case false =>
        clear P1 P2 P3 HGF0
        cases ok
        case false =>
          obtain rfl : gf = false := P5 rfl
          clear P4 P5
          go_wp2_with fail
          refine (atMost_any B A m n d c g.per g.inc f.per f.inc g.vals f.vals _ E.out.two.lg.ints E.out.two.lf.ints (by omega) (by omega)).mono ?_
          intro q y2 hr
          obtain ⟨rfl, hbq⟩ := RetM.of HGF.out hr
          have E := Lib.hid (E.out.below hbq)
          clear hr hbq
          clear f0 f1 f2 g0 g1 g2 k0 k1 k2 hlf hlg hlh hlp
          obtain ⟨f0, f1, f2, g0, g1, g2, k0, k1, k2, hlf, hlg, hlh, hlp⟩ := E.out.cells
          go_wp2_with fail
          refine (refValid_any A n c f.per f.inc f.vals _ E.out.two.lf.ints (by omega)).mono ?_
          rw [HOKF.out]
          rintro q y3 ⟨rfl, hbq⟩
          have E := Lib.hid (E.out.below hbq)
          clear hbq f0 f1 f2 g0 g1 g2 k0 k1 k2 hlf hlg hlh hlp
          go_wp2_with fail
          refine (awake4_any _).mono ?_
          rintro q y4 ⟨rfl, hbq⟩
          have bw := (E.out.below hbq).two.fin
          go_wp2_with fail
          go_ret
          exact ⟨rfl, bw⟩
        case true =>
          have ht := P4 rfl
          clear P4 P5
          go_wp2_with fail
          refine (atMost_any B A m n d c g.per g.inc f.per f.inc g.vals f.vals _ E.out.two.lg.ints E.out.two.lf.ints (by omega) (by omega)).mono ?_
          intro q y2 hr
          obtain ⟨rfl, hbq⟩ := RetM.of HGF.out hr
          have E := Lib.hid (E.out.below hbq)
          clear hr hbq
          clear f0 f1 f2 g0 g1 g2 k0 k1 k2 hlf hlg hlh hlp
          obtain ⟨f0, f1, f2, g0, g1, g2, k0, k1, k2, hlf, hlg, hlh, hlp⟩ := E.out.cells
          go_wp2_with fail
          refine (refValid_any A n c f.per f.inc f.vals _ E.out.two.lf.ints (by omega)).mono ?_
          rw [HOKF.out]
          rintro q y3 ⟨rfl, hbq⟩
          have E := Lib.hid (E.out.below hbq)
          clear hbq f0 f1 f2 g0 g1 g2 k0 k1 k2 hlf hlg hlh hlp
          go_wp2_with fail
          refine (awake4_any _).mono ?_
          rintro q y4 ⟨rfl, hbq⟩
          have bw := (E.out.below hbq).two.fin
          go_wp2_with fail
          go_ret
          exact ⟨rfl, bw⟩
      case true =>
        obtain rfl : rc = true := P1 rfl rfl
        clear P1 P2 P3 HGF0
        cases ok
        case false =>
          obtain rfl : gf = false := P5 rfl
          clear P4 P5
          go_wp2_with fail
          refine (atMost_any B A m n d c g.per g.inc f.per f.inc g.vals f.vals _ E.out.two.lg.ints E.out.two.lf.ints (by omega) (by omega)).mono ?_
          intro q y2 hr
          obtain ⟨rfl, hbq⟩ := RetM.of HGF.out hr
          have E := Lib.hid (E.out.below hbq)
          clear hr hbq
          clear f0 f1 f2 g0 g1 g2 k0 k1 k2 hlf hlg hlh hlp
          obtain ⟨f0, f1, f2, g0, g1, g2, k0, k1, k2, hlf, hlg, hlh, hlp⟩ := E.out.cells
          go_wp2_with fail
          refine (refValid_any A n c f.per f.inc f.vals _ E.out.two.lf.ints (by omega)).mono ?_
          rw [HOKF.out]
          rintro q y3 ⟨rfl, hbq⟩
          have E := Lib.hid (E.out.below hbq)
          clear hbq f0 f1 f2 g0 g1 g2 k0 k1 k2 hlf hlg hlh hlp
          go_wp2_with fail
          refine (awake4_any _).mono ?_
          rintro q y4 ⟨rfl, hbq⟩
          have bw := (E.out.below hbq).two.fin
          go_wp2_with fail
          go_ret
          exact ⟨rfl, bw⟩
        case true =>
          have ht := P4 rfl
          clear P4 P5
          go_wp2_with fail
          refine (atMost_any B A m n d c g.per g.inc f.per f.inc g.vals f.vals _ E.out.two.lg.ints E.out.two.lf.ints (by omega) (by omega)).mono ?_
          intro q y2 hr
          obtain ⟨rfl, hbq⟩ := RetM.of HGF.out hr
          have E := Lib.hid (E.out.below hbq)
          clear hr hbq
          clear f0 f1 f2 g0 g1 g2 k0 k1 k2 hlf hlg hlh hlp
          obtain ⟨f0, f1, f2, g0, g1, g2, k0, k1, k2, hlf, hlg, hlh, hlp⟩ := E.out.cells
          go_wp2_with fail
          refine (refValid_any A n c f.per f.inc f.vals _ E.out.two.lf.ints (by omega)).mono ?_
          rw [HOKF.out]
          rintro q y3 ⟨rfl, hbq⟩
          have E := Lib.hid (E.out.below hbq)
          clear hbq f0 f1 f2 g0 g1 g2 k0 k1 k2 hlf hlg hlh hlp
          go_wp2_with fail
          refine (awake4_any _).mono ?_
          rintro q y4 ⟨rfl, hbq⟩
          have bw := (E.out.below hbq).two.fin
          go_wp2_with fail
          go_ret
          exact ⟨rfl, bw⟩
end Go.Proofs.Yteddogbhofhlaaa
