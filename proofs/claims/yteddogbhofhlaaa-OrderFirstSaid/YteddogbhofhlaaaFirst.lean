/- The statement OrderFirst: the walk. -/
import Derived.Test.YteddogbhofhlaaaEnv2
import Derived.Test.YteddogbhofhlaaaValue4
import Derived.Test.YteddogbhofhlaaaZero
import Derived.Lib.AppendZerosOnto
namespace Go.Proofs.Yteddogbhofhlaaa
open Go.RowKit
set_option linter.unusedVariables false

/-- 'append([]int{0}, make([]int, 3)...)' -/
theorem wpList_appz {w : World} {ops : Array Oper} {rest : List Oper} {o : Oper} {a : Act} {Q : Exit → Act → World → Prop} (hgd : o.guard = none) (s x : Operand) (t tn : TypeId)
    (ho : o.op = .call { callee := .builtin .append, args := #[s, x], argTypes := #[t, tn] }) (ht : Try.prog.underlying t = some (.slice 3)) (htn : Try.prog.underlying tn = some (.int .i64))
    (b : Nat) (hs : a.eval s = .slice (some ⟨b, 0, none⟩) 1 1) (hx : a.eval x = .int .i64 3) (hc : w.cell? ⟨b, 0, none⟩ = some (.int .i64 0))
    (h : ∀ c w', 4 ≤ c → RowI w' w.heap.size [0, 0, 0, 0] → Below w.heap.size w w' → w'.heap.size = w.heap.size + 1 → wpList Try.prog ops Q rest (a.put o.dst (.slice (some ⟨w.heap.size, 0, none⟩) 4 c)) w') : wpList Try.prog ops Q (o :: rest) a w :=
  wpList_plain hgd fun K hK => by
    obtain ⟨i0, hi0, hz0, hz1, hz2⟩ := info_parts info_int
    have hf := run_firstCells_some (P := Try.prog) w.drew i0.size 1 ⟨b, 0, none⟩ 1 1 [.int .i64 0] (by rw [hz1]; rfl) (by
      intro j v hj
      rcases j with _ | j
      · simp at hj; subst hj; simpa [Addr.add] using hc
      · simp at hj)
    have hrun := Lib.run_append_grow_zeros (P := Try.prog) w t tn o.type 3 i0 (.int .i64 0) .i64 .i64 ht htn hi0 hz0 (some ⟨b, 0, none⟩) 1 1 [.int .i64 0] hf 3 (by omega) (by omega) (by omega) (by omega) (by rw [hz2]; omega) (by rw [hz2]; decide)
    have hge := grownCap_ge w (1 + 3) 1 3
    unfold Oper.wp execOp
    have hx' : a.eval x = .int .i64 ((3 : Nat) : Int) := hx
    simp only [ho, resolve, invoke, builtin, Sem.run_bind, Sem.run_pure, Result.andThen_ok, List.map_toArray, List.map_cons, List.map_nil, hs, hx', hrun]
    refine hK _ _ (h _ _ hge ⟨_, Blk.new _ _ _, fun j hj => ?_⟩ (bofdrew (balloc w.drew _)) (by simp))
    have hz : Builtin.zeroCells (Value.int IntKind.i64 0).cells 3 = #[.int .i64 0, .int .i64 0, .int .i64 0] := by kernel_rfl
    rw [hz, Array.getElem?_append_left (by simp; simp at hj; omega)]
    simp at hj
    have : j = 0 ∨ j = 1 ∨ j = 2 ∨ j = 3 := by omega
    rcases this with rfl | rfl | rfl | rfl <;> rfl

theorem RowI.kept {w w' : World} {g p : Nat} {zs : List Int} (h : RowI w g zs) (hg : g ≠ p) (k : Kept w.heap.size p w w') : RowI w' g zs := by obtain ⟨cur, h1, h2⟩ := h; exact ⟨cur, h1.kept hg k, h2⟩
theorem Loc.far1 {p F n c : Nat} {w : World} {A : Option Addr} {f : Cv} (h : Loc p w F A n c f) {q : Addr} (hF : F ≠ q.block) (hA : ∀ b off s, A = some ⟨b, off, s⟩ → b ≠ q.block) (u : Value) : Loc p (w.setCell q u) F A n c f :=
  ⟨h.blk.far hF u, by simpa using h.ints.setCell (p := q) hA u, h.ne, h.ap⟩
theorem RowI.drew {w : World} {g : Nat} {zs : List Int} (h : RowI w g zs) : RowI w.drew g zs := h

/-- the curve that OrderFirst makes by itself -/
theorem ok_steep {pp q : Nat} {x : Int} (h : pp + q = 4) (h1 : 1 ≤ pp) (h2 : pp ≤ 3) (hx0 : 0 ≤ x) (hx1 : x ≤ 3) : Cv.Ok ⟨[0, 2000, 4000, 6000], pp, 6000 - 2000 * (q : Int) + x⟩ := by
  have hv : ∀ k, k < 4 → nth [0, 2000, 4000, 6000] k = 2000 * (k : Int) := by
    intro k hk
    have : k = 0 ∨ k = 1 ∨ k = 2 ∨ k = 3 := by omega
    rcases this with rfl | rfl | rfl | rfl <;> rfl
  refine ⟨by show 1 ≤ 4; omega, by show 4 ≤ 400; omega, by show (1 : Int) ≤ pp; omega, by show (pp : Int) ≤ 120; omega, by show (pp : Int) ≤ 4; omega, by show 0 ≤ 6000 - 2000 * (q : Int) + x; omega, by show 6000 - 2000 * (q : Int) + x ≤ 1073741824; omega, fun k hk => (okv_iff _).2 (.inr ?_), by show 0 ≤ nth [0, 2000, 4000, 6000] 0; decide, fun k hk => ?_, fun e => ?_, fun _ => ?_⟩
  · have hk4 : k < 4 := hk
    rw [hv k hk4]; omega
  · have hk4 : k + 1 < 4 := hk
    rw [hv k (by omega), hv (k + 1) hk4]; omega
  · have e' : nth [0, 2000, 4000, 6000] 3 = inf := e
    exact absurd e' (by decide)
  · show nth [0, 2000, 4000, 6000] 3 ≤ nth [0, 2000, 4000, 6000] (4 - ((pp : Nat) : Int).toNat) + (6000 - 2000 * (q : Int) + x)
    rw [Int.toNat_natCast, show 4 - pp = q by omega, hv q (by omega), hv 3 (by omega)]
    omega

set_option maxHeartbeats 8000000 in
set_option maxRecDepth 100000 in
theorem firstLaw_any (A0 : Option Addr) (n0 c0 : Nat) (L : List Int) (t0 : Int) (w : World) (hL : Ints w w.heap.size A0 n0 L) (hc0 : n0 ≤ c0) (hn0 : (n0 : Int) ≤ 9223372036854775807) :
    Calls Try.prog 8 #[.slice A0 n0 c0, .int .i64 t0] w fun e w' => e = .returned (.bool true) ∧ Below w.heap.size w w' := by
  go_enter Try.func8, Try.ntmps8
  go_wp2_with fail
  refine (new_any A0 n0 c0 L w hL hc0 hn0).mono ?_
  rintro e w1 ⟨rfl, hS1, hb1⟩
  have hpl := hS1.lt
  clear hL
  go_wp2_with fail
  refine (srcCurve_any w.heap.size 7 w1 hS1 (by omega) (by omega)).mono ?_
  rintro e w2 ⟨f, A, n, c, hD, rfl, hI, hA, hS2, hk2⟩
  go_wp2_with fail
  refine (srcCurve_any w.heap.size 7 w2 hS2 (by omega) (by omega)).mono ?_
  rintro e w3 ⟨g, B, m, d, hD2, rfl, hI2, hB, hS3, hk3⟩
  have E := Lib.hid (Env2.drawn (c := c) (d := d) (kstep (Kept.of hb1) hk2) hI hA hpl hI2 hB hS2.lt hS3 hk3)
  have hn : n ≤ 20 := by have h1 := hD.len; have h2 : f.vals.length = n := hI.1; have : (7 : Int).toNat = 7 := rfl; omega
  have hm : m ≤ 20 := by have h1 := hD2.len; have h2 : g.vals.length = m := hI2.1; have : (7 : Int).toNat = 7 := rfl; omega
  have HD := Lib.hid (show DrawC 7 f from hD); have HD2 := Lib.hid (show DrawC 7 g from hD2)
  have hp3 : w.heap.size < w3.heap.size := hS3.lt
  clear hD hI hA hS1 hS2 hk2 hb1 hpl hD2 hI2 hB hS3 hk3
  as_aux_lemma =>
  obtain ⟨f0, f1, f2, g0, g1, g2, hlf, hlg, hlp⟩ := E.out.cells
  go_wp2_with fail
  refine (n_any w.heap.size 4 _ E.out.s (by omega) (by omega)).mono ?_
  rintro q w5 ⟨x, hx0, hx1, rfl, hS, hkk⟩
  have E := Lib.hid (E.out.kept hS hkk)
  clear hS hkk
  clear f0 f1 f2 g0 g1 g2 hlf hlg hlp
  obtain ⟨f0, f1, f2, g0, g1, g2, hlf, hlg, hlp⟩ := E.out.cells
  go_upto_if 23 with fail
  go_cut [] (fun wx => ∃ (A : Option Addr) (n c : Nat) (f : Cv) (B : Option Addr) (m d : Nat) (g : Cv), f.Ok ∧ g.Ok ∧ n ≤ 20 ∧ m ≤ 20 ∧ Env2 w.heap.size w wx w3.heap.size A n c f (w3.heap.size + 1) B m d g)
  case first =>
    by_cases hx : x = 0
    · subst hx
      have fz := E.out.lf.blk
      have v0 := fz.frozen 0; have v1 := fz.frozen 1; have v2 := fz.frozen 2
      have gz := E.out.lg.blk
      have z0 := gz.frozen 0; have z1 := gz.frozen 1; have z2 := gz.frozen 2
      clear fz gz
      have hplw := hlp; have hlgw := hlg
      have AP1 := Lib.hid (show Loc w.heap.size (((((w5.setCell ⟨w3.heap.size, 0, none⟩ (.slice (some ⟨w5.heap.size, 0, none⟩) 1 1)).setCell ⟨w3.heap.size, 1, none⟩ (.int .i64 1)).setCell ⟨w3.heap.size, 2, none⟩ (.int .i64 3))).alloc (.cells #[.int .i64 0] 3)) w3.heap.size (some ⟨w5.heap.size, 0, none⟩) 1 1 ⟨[0], 1, 3⟩ from
        ⟨(E.out.lf.blk.store3 _ _ _).alloc _, by simpa using ints_lit (((w5.setCell ⟨w3.heap.size, 0, none⟩ (.slice (some ⟨w5.heap.size, 0, none⟩) 1 1)).setCell ⟨w3.heap.size, 1, none⟩ (.int .i64 1)).setCell ⟨w3.heap.size, 2, none⟩ (.int .i64 3)) [0], E.out.lf.ne, fun b off s e => by cases e; omega⟩)
      have hFG : w3.heap.size + 1 ≠ w3.heap.size := by omega
      have AP2 := Lib.hid (((E.out.lg.blk.far (p := ⟨w3.heap.size, 0, none⟩) hFG (.slice (some ⟨w5.heap.size, 0, none⟩) 1 1)).far (p := ⟨w3.heap.size, 1, none⟩) hFG (.int .i64 1)).far (p := ⟨w3.heap.size, 2, none⟩) hFG (.int .i64 3))
      have AP3 := Lib.hid (E.out.s.far3 (G := w3.heap.size) (x := .slice (some ⟨w5.heap.size, 0, none⟩) 1 1) (y := .int .i64 1) (z := .int .i64 3) hp3)
      have AP4 := Lib.hid (E.out.k.set3 (G := w3.heap.size) (x := .slice (some ⟨w5.heap.size, 0, none⟩) 1 1) (y := .int .i64 1) (z := .int .i64 3) (by omega))
      clear E
      go_wp2_with (at_builtin; refine wpList_appz rfl _ _ 22 3 rfl Try.underlying22 Try.underlying3 (w5.heap.size + 1) rfl rfl (by go_simp) ?_; intro c4 w6 hc4 hrow hb6 hs6; clear f0 f1 f2 g0 g1 g2 hlf hlg hlp v0 v1 v2 z0 z1 z2)
      have sz6 : w6.heap.size = w5.heap.size + 3 := by simpa using hs6
      have R6 := Lib.hid (show RowI w6 (w5.heap.size + 1 + 1) [0, 0, 0, 0] by simpa using hrow)
      have L6 := Lib.hid ((AP1.out.alloc _).below hb6)
      have G6 := Lib.hid (((AP2.out.alloc _).alloc _).below hb6 (by simp; omega))
      have S6 := Lib.hid (((AP3.out.alloc _).alloc _).ext hb6)
      have K6 := Lib.hid (kbel (kall (kall AP4.out _) _) hb6)
      clear hrow hb6 hs6 AP1 AP2 AP3 AP4
      refine (n_any w.heap.size 3 _ S6.out (by omega) (by omega)).mono ?_
      rintro q w7 ⟨z, hz0, hz1, rfl, hS7, hk7⟩
      obtain ⟨pp, hpp⟩ : ∃ pp : Nat, 1 + z = (pp : Int) := ⟨(1 + z).toNat, by omega⟩
      have hpp1 : 1 ≤ pp ∧ pp ≤ 3 := by omega
      have L7 := Lib.hid (L6.out.kept hk7); have G7 := Lib.hid (G6.out.kept (by omega) hk7); have R7 := Lib.hid (R6.out.kept (by omega) hk7); have K7 := Lib.hid (kstep K6.out hk7); have S7 := Lib.hid hS7
      have sz7 := hk7.size
      clear L6 G6 R6 S6 K6 hk7 hS7
      obtain ⟨g0, g1, g2⟩ : _ ∧ _ ∧ _ := ⟨G7.out.cell 0, G7.out.cell 1, G7.out.cell 2⟩
      simp at g0 g1 g2
      have z0 := G7.out.frozen 0; have z1 := G7.out.frozen 1; have z2 := G7.out.frozen 2
      have hlg := G7.out.lt
      go_wp2_with fail
      clear g0 g1 g2 z0 z1 z2 hlg
      have hFG' : ∀ b off s, (some ⟨w5.heap.size, 0, none⟩ : Option Addr) = some ⟨b, off, s⟩ → b ≠ w3.heap.size + 1 := fun b off s e => by cases e; omega
      have L8 := Lib.hid (L7.out.far3 (x := .slice (some ⟨w5.heap.size + 1 + 1, 0, none⟩) 4 c4) (y := .int .i64 pp) (z := .int .i64 3) (show w3.heap.size ≠ w3.heap.size + 1 by omega) hFG')
      have G8 := Lib.hid (G7.out.store3 (.slice (some ⟨w5.heap.size + 1 + 1, 0, none⟩) 4 c4) (.int .i64 pp) (.int .i64 3))
      have hRG : w5.heap.size + 1 + 1 ≠ w3.heap.size + 1 := by omega
      have R8 := Lib.hid (((R7.out.far (p := ⟨w3.heap.size + 1, 0, none⟩) hRG (.slice (some ⟨w5.heap.size + 1 + 1, 0, none⟩) 4 c4)).far (p := ⟨w3.heap.size + 1, 1, none⟩) hRG (.int .i64 pp)).far (p := ⟨w3.heap.size + 1, 2, none⟩) hRG (.int .i64 3))
      have S8 := Lib.hid (S7.out.far3 (G := w3.heap.size + 1) (x := .slice (some ⟨w5.heap.size + 1 + 1, 0, none⟩) 4 c4) (y := .int .i64 pp) (z := .int .i64 3) (by omega))
      have K8 := Lib.hid (K7.out.set3 (G := w3.heap.size + 1) (x := .slice (some ⟨w5.heap.size + 1 + 1, 0, none⟩) 4 c4) (y := .int .i64 pp) (z := .int .i64 3) (by omega))
      clear L7 G7 R7 S7 K7
      go_loopg [35] 4 (fun gg s35 wx => ∃ (k : Nat) (ys : List Int), k + gg = 4 ∧ s35 = .int .i64 k ∧ RowI wx (w5.heap.size + 1 + 1) ys ∧ Hid (ys.length = 4 ∧ ∀ j, j < 4 → nth ys j = if j < k then 2000 * (j : Int) else 0) ∧
        Blk wx (w3.heap.size + 1) 26 #[.slice (some ⟨w5.heap.size + 1 + 1, 0, none⟩) 4 c4, .int .i64 pp, .int .i64 3] ∧ Loc w.heap.size wx w3.heap.size (some ⟨w5.heap.size, 0, none⟩) 1 1 ⟨[0], 1, 3⟩ ∧ SrcAt wx w.heap.size ∧ Kept w.heap.size w.heap.size w wx)
      case atStart => exact ⟨0, [0, 0, 0, 0], rfl, rfl, R8.out, ⟨rfl, fun j hj => by
        rw [if_neg (by omega)]
        have : j = 0 ∨ j = 1 ∨ j = 2 ∨ j = 3 := by omega
        rcases this with rfl | rfl | rfl | rfl <;> rfl⟩, G8.out, L8.out, S8.out, K8.out⟩
      case round =>
        as_aux_lemma =>
        clear L8 G8 R8 S8 K8
        obtain ⟨k, ys, hkg, rfl, row, hys, gb, lf, ss, kk⟩ := hrel
        have ROW := Lib.hid row; have GB := Lib.hid gb; have LF := Lib.hid lf; have SS := Lib.hid ss; have KK := Lib.hid kk; have HYS := Lib.hid hys
        clear row gb lf ss kk hys
        obtain ⟨g0, g1, g2⟩ : _ ∧ _ ∧ _ := ⟨GB.out.cell 0, GB.out.cell 1, GB.out.cell 2⟩
        simp at g0 g1 g2
        have hlg := GB.out.lt
        have hlr := ROW.out.lt
        by_cases hk : k < 4
        · have hki : (k : Int) < 4 := by omega
          have hck := ROW.out.cell k (by have := HYS.out.out.1; omega)
          have hzk := ROW.out.frozen k
          obtain ⟨y, hy⟩ : ∃ y, y = nth ys k := ⟨_, rfl⟩
          rw [← hy] at hck
          clear hy
          have e1 : IntKind.i64.wrap (2000 * (k : Int)) = 2000 * (k : Int) := IntWalk.i64_in _ (by omega)
          have e2 : IntKind.i64.wrap (0 + 2000 * (k : Int)) = 2000 * (k : Int) := by rw [IntWalk.i64_in _ (by omega)]; omega
          go_wp2_with fail
          go_region_held3 (fun w' => w'.cell? ⟨w3.heap.size + 1, 0, none⟩ = some (.slice (some ⟨w5.heap.size + 1 + 1, 0, none⟩) 4 c4)) (first | go_keep | exact (cell_set1 (by omega)).trans g0)
            (first
              | (go_at_call_of 19 (Value.int IntKind.i64 1)
                 refine (n_any w.heap.size 1 _ (by exact SS.out) (by omega) (by omega)).mono ?_
                 rintro q w9 ⟨x, hx0, hx1, rfl, hS, hkk⟩
                 obtain rfl : x = 0 := by omega
                 have hkk := kofdrew hkk
                 have ROW := Lib.hid (ROW.out.kept (by omega) hkk); have GB := Lib.hid (GB.out.kept (by omega) hkk); have LF := Lib.hid (LF.out.kept hkk); have SS := Lib.hid hS; have KK := Lib.hid (kstep KK.out hkk)
                 clear hS hkk g0 g1 g2 hlg hlr hck hzk hx0 hx1
                 obtain ⟨g0, g1, g2⟩ : _ ∧ _ ∧ _ := ⟨GB.out.cell 0, GB.out.cell 1, GB.out.cell 2⟩
                 simp at g0 g1 g2
                 have hlg := GB.out.lt
                 have hlr := ROW.out.lt
                 have hck := ROW.out.cell k (by have := HYS.out.out.1; omega)
                 have hzk := ROW.out.frozen k))
          go_wp2_with fail
          go_roundg (gk - 1)
          case measure => omega
          case rel => exact ⟨k + 1, ys.set k (2000 * (k : Int)), by omega, by go_num, ROW.out.set_ k (by have := HYS.out.out.1; omega) _, ⟨by rw [List.length_set]; exact HYS.out.out.1, fun j hj => by
              rw [nth_set _ _ _ _ (by have := HYS.out.out.1; omega)]
              by_cases e : j = k
              · rw [if_pos e, if_pos (by omega), e]
              · rw [if_neg e, HYS.out.out.2 j hj]
                by_cases e2 : j < k
                · rw [if_pos e2, if_pos (by omega)]
                · rw [if_neg e2, if_neg (by omega)]⟩, GB.out.far (by show w3.heap.size + 1 ≠ w5.heap.size + 1 + 1; omega) _, LF.out.far1 (by show w3.heap.size ≠ w5.heap.size + 1 + 1; omega) (fun b off s e => by cases e; show w5.heap.size ≠ w5.heap.size + 1 + 1; omega) _, SS.out.far (by show w.heap.size < w5.heap.size + 1 + 1; omega) _, KK.out.setCell (.inr (by show w.heap.size ≤ w5.heap.size + 1 + 1; omega)) _⟩
        · have hk4 : k = 4 := by omega
          subst hk4
          clear hk hkg
          obtain ⟨qq, hqq⟩ : ∃ qq : Nat, qq = 4 - pp := ⟨_, rfl⟩
          have hyl := HYS.out.out.1
          have hys : ys = [0, 2000, 4000, 6000] := list_ext hyl (fun j hj => by
            have hj4 : j < 4 := by omega
            rw [HYS.out.out.2 j hj4, if_pos hj4]
            have : j = 0 ∨ j = 1 ∨ j = 2 ∨ j = 3 := by omega
            rcases this with rfl | rfl | rfl | rfl <;> rfl)
          obtain ⟨v1, hv1⟩ : ∃ v1, v1 = 2000 * (qq : Int) := ⟨_, rfl⟩
          have hc3 := ROW.out.cell 3 (by omega)
          have hcq := ROW.out.cell qq (by omega)
          rw [show nth ys 3 = 6000 by rw [hys]; rfl] at hc3
          rw [show nth ys qq = v1 by rw [HYS.out.out.2 qq (by omega), if_pos (by omega), hv1]] at hcq
          have HYE := Lib.hid hys
          have HV1 := Lib.hid hv1
          have hv1b : 2000 ≤ v1 ∧ v1 ≤ 6000 := by omega
          have e1 : IntKind.i64.wrap (4 - (pp : Int)) = (qq : Int) := by rw [IntWalk.i64_in _ (by omega)]; omega
          have e2 : IntKind.i64.wrap (6000 - v1) = 6000 - v1 := IntWalk.i64_in _ (by omega)
          have HQ := Lib.hid hqq
          have hq4 : (qq : Int) < 4 := by omega
          have z0 := GB.out.frozen 0; have z1 := GB.out.frozen 1; have z2 := GB.out.frozen 2
          have hk4i : ¬ ((4 : Int) < 4) := by omega
          clear hys hv1 hqq hyl
          go_wp2_with fail
          go_region_held3 (fun w' => w'.cell? ⟨w3.heap.size + 1, 0, none⟩ = some (.slice (some ⟨w5.heap.size + 1 + 1, 0, none⟩) 4 c4) ∧ w'.cell? ⟨w3.heap.size + 1, 1, none⟩ = some (.int .i64 pp) ∧ w'.cell? ⟨w5.heap.size + 1 + 1, 3, none⟩ = some (.int .i64 6000) ∧ w'.cell? ⟨w5.heap.size + 1 + 1, qq, none⟩ = some (.int .i64 v1)) (first | go_keep | exact ⟨(cell_set_off (by omega)).trans g0, (cell_set_off (by omega)).trans g1, (cell_set1 (by omega)).trans hc3, (cell_set1 (by omega)).trans hcq⟩)
            (first
              | (go_at_call_of 19 (Value.int IntKind.i64 4)
                 refine (n_any w.heap.size 4 _ (by exact SS.out) (by omega) (by omega)).mono ?_
                 rintro q w9 ⟨x, hx0, hx1, rfl, hS, hkk⟩
                 have hkk := kofdrew hkk
                 have ROW := Lib.hid (ROW.out.kept (by omega) hkk); have GB := Lib.hid (GB.out.kept (by omega) hkk); have LF := Lib.hid (LF.out.kept hkk); have SS := Lib.hid hS; have KK := Lib.hid (kstep KK.out hkk)
                 clear hS hkk g0 g1 g2 hlg hlr hc3 hcq z0 z1 z2
                 obtain ⟨g0, g1, g2⟩ : _ ∧ _ ∧ _ := ⟨GB.out.cell 0, GB.out.cell 1, GB.out.cell 2⟩
                 simp at g0 g1 g2
                 have z0 := GB.out.frozen 0; have z1 := GB.out.frozen 1; have z2 := GB.out.frozen 2
                 have hlg := GB.out.lt
                 have hlr := ROW.out.lt
                 have hc3 := ROW.out.cell 3 (by rw [HYE.out]; decide)
                 have hcq := ROW.out.cell qq (by rw [HYE.out]; have := HQ.out; simp; omega)
                 rw [show nth ys 3 = 6000 by rw [HYE.out]; rfl] at hc3
                 rw [show nth ys qq = v1 by rw [HYS.out.out.2 qq (by have := HQ.out; omega), if_pos (by have := HQ.out; omega), HV1.out]] at hcq
                 have e3 : IntKind.i64.wrap (6000 - v1 + x) = 6000 - v1 + x := IntWalk.i64_in _ (by omega)))
          all_goals
            go_wp2_with fail
            go_meet
            have hok := ok_steep (pp := pp) (q := qq) (x := x) (by have := HQ.out; omega) hpp1.1 hpp1.2 hx0 (by omega)
            rw [← HV1.out] at hok
            have gi := ROW.out.ints
            rw [HYE.out] at gi
            exact ⟨some ⟨w5.heap.size, 0, none⟩, 1, 1, ⟨[0], 1, 3⟩, some ⟨w5.heap.size + 1 + 1, 0, none⟩, 4, c4, ⟨[0, 2000, 4000, 6000], pp, 6000 - v1 + x⟩, exF_fin.1, hok, by omega, by omega,
              SS.out.far (by show w.heap.size < w3.heap.size + 1; omega) _, KK.out.setCell (.inr (by show w.heap.size ≤ w3.heap.size + 1; omega)) _, LF.out.far1 (by show w3.heap.size ≠ w3.heap.size + 1; omega) (fun b off s e => by cases e; show w5.heap.size ≠ w3.heap.size + 1; omega) _,
              ⟨GB.out.set_ 2 _, by simpa using gi.setCell (p := ⟨w3.heap.size + 1, 2, none⟩) (fun b off s e => by cases e; show w5.heap.size + 1 + 1 ≠ w3.heap.size + 1; omega) (.int .i64 (6000 - v1 + x)), by omega, fun b off s e => by cases e; omega⟩⟩
    · have hxb : (x == 0) = false := by simpa using hx
      go_wp2_with fail
      go_meet
      exact ⟨A, n, c, f, B, m, d, g, HD.out.ok, HD2.out.ok, hn, hm, E.out⟩
  case rest =>
  as_aux_lemma =>
  clear E HD HD2 hn hm
  clear f0 f1 f2 g0 g1 g2 hlf hlg hlp
  obtain ⟨A, n, c, f, B, m, d, g, hf, hg, hn, hm, hE⟩ := hcut
  have HF := Lib.hid hf; have HG := Lib.hid hg; have E := Lib.hid hE
  clear hf hg hE
  obtain ⟨f0, f1, f2, g0, g1, g2, hlf, hlg, hlp⟩ := E.out.cells
  go_wp2_with fail
  refine (exceeds_any A B n m c d f.per f.inc g.per g.inc f.vals g.vals _ E.out.lf.ints E.out.lg.ints (by omega) (by omega)).mono ?_
  intro e w4 hr
  obtain ⟨t, ok, h1, rfl, hb⟩ := RetE.ok HF.out HG.out hr
  as_aux_lemma =>
  have E := Lib.hid (E.out.below hb)
  clear hr hb
  clear f0 f1 f2 g0 g1 g2 hlf hlg hlp
  obtain ⟨f0, f1, f2, g0, g1, g2, hlf, hlg, hlp⟩ := E.out.cells
  rcases h1 with ⟨rfl, tn, rfl, h1, h2⟩ | ⟨rfl, rfl, h1⟩
  · have HAM := Lib.hid (show AtM f g false from .inl ⟨HF.out, HG.out, by
      simp only [Bool.false_eq_true, false_iff]
      intro hk
      exact hk tn h1⟩)
    have H1 := Lib.hid h1; have H2 := Lib.hid h2
    clear h1 h2
    have d0 : decide ((tn : Int) < 0) = false := by simp
    by_cases ht : (1048576 : Int) < (tn : Int)
    · go_wp2_with fail
      refine (awake4_any _).mono ?_
      rintro q wq ⟨rfl, hbq⟩
      have bw := (E.out.below hbq).fin
      go_wp2_with fail
      go_ret
      exact ⟨rfl, bw⟩
    · have ht' : (tn : Int) ≤ 1048576 := by omega
      have dt : decide ((1048576 : Int) < (tn : Int)) = false := by simp; omega
      have TN := Lib.hid (show ((tn : Int)).toNat = tn by omega)
      clear ht
      obtain ⟨x, hx⟩ : ∃ x, x = f.at (tn) := ⟨_, rfl⟩
      obtain ⟨y, hy⟩ : ∃ y, y = g.at (tn) := ⟨_, rfl⟩
      have HX := Lib.hid hx; have HY := Lib.hid hy
      clear hx hy
      have hxy : decide (x ≤ y) = false := by
        have h := H1.out
        rw [up_iff HF.out HG.out (by omega), ← HX.out, ← HY.out] at h
        simp; omega
      go_wp2_with fail
      go_region_held3 (fun w' => w'.cell? ⟨w3.heap.size, 0, none⟩ = some (.slice A n c) ∧ w'.cell? ⟨w3.heap.size, 1, none⟩ = some (.int .i64 f.per) ∧ w'.cell? ⟨w3.heap.size, 2, none⟩ = some (.int .i64 f.inc) ∧ w'.cell? ⟨w3.heap.size + 1, 0, none⟩ = some (.slice B m d) ∧ w'.cell? ⟨w3.heap.size + 1, 1, none⟩ = some (.int .i64 g.per) ∧ w'.cell? ⟨w3.heap.size + 1, 2, none⟩ = some (.int .i64 g.inc)) (first | go_keep)
        (first
          | (go_at_call_of 38 (Value.agg #[.slice A n c, .int .i64 f.per, .int .i64 f.inc])
             refine (value4_any A n c f.per f.inc _ f.vals _ (by exact E.out.lf.ints) HF.out (by omega) (by omega)).mono ?_
             rw [TN.out, ← HX.out]
             rintro q wq ⟨rfl, hbq⟩
             have E := Lib.hid (E.out.below (by first | exact hbq | exact bofdrew hbq))
             clear hbq
             clear f0 f1 f2 g0 g1 g2 hlf hlg hlp
             obtain ⟨f0, f1, f2, g0, g1, g2, hlf, hlg, hlp⟩ := E.out.cells
             skip)
          | (go_at_call_of 38 (Value.agg #[.slice B m d, .int .i64 g.per, .int .i64 g.inc])
             refine (value4_any B m d g.per g.inc _ g.vals _ (by exact E.out.lg.ints) HG.out (by omega) (by omega)).mono ?_
             rw [TN.out, ← HY.out]
             rintro q wq ⟨rfl, hbq⟩
             have E := Lib.hid (E.out.below (by first | exact hbq | exact bofdrew hbq))
             clear hbq
             clear f0 f1 f2 g0 g1 g2 hlf hlg hlp
             obtain ⟨f0, f1, f2, g0, g1, g2, hlf, hlg, hlp⟩ := E.out.cells
             skip)
          | (go_at_call 29
             refine (atMost_any A B n m c d f.per f.inc g.per g.inc f.vals g.vals _ (by exact E.out.lf.ints) (by exact E.out.lg.ints) (by omega) (by omega)).mono ?_
             intro q wq hr
             obtain ⟨rfl, hbq⟩ := RetM.of HAM.out hr
             clear hr
             have E := Lib.hid (E.out.below (by first | exact hbq | exact bofdrew hbq))
             clear hbq
             clear f0 f1 f2 g0 g1 g2 hlf hlg hlp
             obtain ⟨f0, f1, f2, g0, g1, g2, hlf, hlg, hlp⟩ := E.out.cells
             skip))
      all_goals
        clear hxy dt d0
        go_wp2_with fail
        clear f0 f1 f2 g0 g1 g2 hlf hlg hlp
        clear HX HY
        go_loopg [13] 50 (fun gg s13 wx => ∃ k : Nat, k + gg = 50 ∧ s13 = .int .i64 k ∧ Env2 w.heap.size w wx w3.heap.size A n c f (w3.heap.size + 1) B m d g)
        case atStart => exact ⟨0, rfl, rfl, E.out⟩
        case round =>
          as_aux_lemma =>
          obtain ⟨k, hkg, rfl, hE⟩ := hrel
          clear E
          have E := Lib.hid hE
          clear hE
          obtain ⟨f0, f1, f2, g0, g1, g2, hlf, hlg, hlp⟩ := E.out.cells
          by_cases hk : k < 50 ∧ k < tn
          · have hki : (k : Int) < 50 := by omega
            have hkt : decide (k < tn) = true := by simp; omega
            go_wp2_with fail
            refine (n_any w.heap.size tn _ E.out.s (by omega) (by omega)).mono ?_
            rintro q w6 ⟨z, hz0, hz1, rfl, hS, hkk⟩
            obtain ⟨z, rfl⟩ := Int.eq_ofNat_of_zero_le hz0
            have E := Lib.hid (E.out.kept hS hkk)
            clear hS hkk
            clear f0 f1 f2 g0 g1 g2 hlf hlg hlp
            obtain ⟨f0, f1, f2, g0, g1, g2, hlf, hlg, hlp⟩ := E.out.cells
            clear TN
            have TN := Lib.hid (show ((z : Int)).toNat = z by omega)
            obtain ⟨x, hx⟩ : ∃ x, x = f.at (z) := ⟨_, rfl⟩
            obtain ⟨y, hy⟩ : ∃ y, y = g.at (z) := ⟨_, rfl⟩
            have HX := Lib.hid hx; have HY := Lib.hid hy
            clear hx hy
            have hxy : decide (y < x) = false := by
              have h := H2.out z (by omega)
              rw [up_iff HF.out HG.out (by omega), ← HX.out, ← HY.out] at h
              simpa using h
            clear hkt
            go_wp2_with fail
            go_region_held3 (fun w' => w'.cell? ⟨w3.heap.size, 0, none⟩ = some (.slice A n c) ∧ w'.cell? ⟨w3.heap.size, 1, none⟩ = some (.int .i64 f.per) ∧ w'.cell? ⟨w3.heap.size, 2, none⟩ = some (.int .i64 f.inc) ∧ w'.cell? ⟨w3.heap.size + 1, 0, none⟩ = some (.slice B m d) ∧ w'.cell? ⟨w3.heap.size + 1, 1, none⟩ = some (.int .i64 g.per) ∧ w'.cell? ⟨w3.heap.size + 1, 2, none⟩ = some (.int .i64 g.inc)) (first | go_keep)
              (first
                | (go_at_call_of 38 (Value.agg #[.slice A n c, .int .i64 f.per, .int .i64 f.inc])
                   refine (value4_any A n c f.per f.inc _ f.vals _ (by exact E.out.lf.ints) HF.out (by omega) (by omega)).mono ?_
                   rw [TN.out, ← HX.out]
                   rintro q wq ⟨rfl, hbq⟩
                   have E := Lib.hid (E.out.below (by first | exact hbq | exact bofdrew hbq))
                   clear hbq
                   clear f0 f1 f2 g0 g1 g2 hlf hlg hlp
                   obtain ⟨f0, f1, f2, g0, g1, g2, hlf, hlg, hlp⟩ := E.out.cells
                   skip)
                | (go_at_call_of 38 (Value.agg #[.slice B m d, .int .i64 g.per, .int .i64 g.inc])
                   refine (value4_any B m d g.per g.inc _ g.vals _ (by exact E.out.lg.ints) HG.out (by omega) (by omega)).mono ?_
                   rw [TN.out, ← HY.out]
                   rintro q wq ⟨rfl, hbq⟩
                   have E := Lib.hid (E.out.below (by first | exact hbq | exact bofdrew hbq))
                   clear hbq
                   clear f0 f1 f2 g0 g1 g2 hlf hlg hlp
                   obtain ⟨f0, f1, f2, g0, g1, g2, hlf, hlg, hlp⟩ := E.out.cells
                   skip))
            all_goals
              go_wp2_with fail
              go_roundg (gk - 1)
              case measure => omega
              case rel => exact ⟨k + 1, by omega, by go_num, E.out⟩
          · have hkx : (50 ≤ k) ∨ (k < 50 ∧ tn ≤ k) := by omega
            clear hk
            rcases Nat.eq_zero_or_pos tn with h0 | hpos
            · subst h0
              have hk0 : decide ((k : Int) < 0) = false := by simp
              have hk0' : decide (k < 0) = false := by simp
              obtain ⟨b50, hb50⟩ : ∃ b50, decide ((k : Int) < 50) = b50 := ⟨_, rfl⟩
              cases b50
              all_goals
                go_wp2_with fail
                refine wp_region_held_drew (S := fun _ => True) (by kernel_rfl) trivial (fun hHeld => ?_)
                refine wpAnyH_take (i := 0) (oi := _) (v := ?_) (by simp only [List.getElem?_toArray, List.getElem?_cons_zero]; rfl) (by kernel_rfl) (by kernel_rfl) (by kernel_rfl) (by exact fun _ _ _ h => h) (Or.inl ⟨by rfl, ?_⟩) trivial ?_
                rotate_left 1
                · (intro w _; go_simp; try with_reducible rfl)
                all_goals try simp only [Act.put, List.setIfInBounds_toArray, List.set_cons_zero, List.set_cons_succ]
                refine wpAnyH_take (i := 1) (oi := _) (v := ?_) (by simp only [List.getElem?_toArray, List.getElem?_cons_succ, List.getElem?_cons_zero]; rfl) (by kernel_rfl) (by kernel_rfl) (by kernel_rfl) (by exact fun _ _ _ h => h) (Or.inl ⟨by rfl, ?_⟩) trivial ?_
                rotate_left 1
                · (intro w _; go_simp; try with_reducible rfl)
                all_goals try simp only [Act.put, List.setIfInBounds_toArray, List.set_cons_zero, List.set_cons_succ]
                refine wpAnyH_take (i := 2) (oi := _) (v := ?_) (by simp only [List.getElem?_toArray, List.getElem?_cons_succ, List.getElem?_cons_zero]; rfl) (by kernel_rfl) (by kernel_rfl) (by kernel_rfl) (by exact fun _ _ _ h => h) (Or.inl ⟨by rfl, ?_⟩) trivial ?_
                rotate_left 1
                · (intro w _; go_simp; try with_reducible rfl)
                all_goals try simp only [Act.put, List.setIfInBounds_toArray, List.set_cons_zero, List.set_cons_succ]
                refine wpAnyH_take (i := 3) (oi := _) (v := undef) (by simp only [List.getElem?_toArray, List.getElem?_cons_succ, List.getElem?_cons_zero]; rfl) (by kernel_rfl) (by kernel_rfl) (by kernel_rfl) (by exact fun _ _ _ h => h) (Or.inr ⟨by rfl, rfl⟩) trivial ?_
                try simp only [Act.put, List.setIfInBounds_toArray, List.set_cons_zero, List.set_cons_succ]
                refine wpAnyH_take (i := 4) (oi := _) (v := undef) (by simp only [List.getElem?_toArray, List.getElem?_cons_succ, List.getElem?_cons_zero]; rfl) (by kernel_rfl) (by kernel_rfl) (by kernel_rfl) (by exact fun _ _ _ h => h) (Or.inr ⟨by rfl, rfl⟩) trivial ?_
                try simp only [Act.put, List.setIfInBounds_toArray, List.set_cons_zero, List.set_cons_succ]
                refine wpAnyH_take (i := 5) (oi := _) (v := undef) (by simp only [List.getElem?_toArray, List.getElem?_cons_succ, List.getElem?_cons_zero]; rfl) (by kernel_rfl) (by kernel_rfl) (by kernel_rfl) (by exact fun _ _ _ h => h) (Or.inr ⟨by rfl, rfl⟩) trivial ?_
                try simp only [Act.put, List.setIfInBounds_toArray, List.set_cons_zero, List.set_cons_succ]
                refine wpAnyH_take (i := 6) (oi := _) (v := undef) (by simp only [List.getElem?_toArray, List.getElem?_cons_succ, List.getElem?_cons_zero]; rfl) (by kernel_rfl) (by kernel_rfl) (by kernel_rfl) (by exact fun _ _ _ h => h) (Or.inr ⟨by rfl, rfl⟩) trivial ?_
                try simp only [Act.put, List.setIfInBounds_toArray, List.set_cons_zero, List.set_cons_succ]
                refine wpAnyH_take (i := 7) (oi := _) (v := undef) (by simp only [List.getElem?_toArray, List.getElem?_cons_succ, List.getElem?_cons_zero]; rfl) (by kernel_rfl) (by kernel_rfl) (by kernel_rfl) (by exact fun _ _ _ h => h) (Or.inr ⟨by rfl, rfl⟩) trivial ?_
                try simp only [Act.put, List.setIfInBounds_toArray, List.set_cons_zero, List.set_cons_succ]
                refine wpAnyH_take (i := 8) (oi := _) (v := undef) (by simp only [List.getElem?_toArray, List.getElem?_cons_succ, List.getElem?_cons_zero]; rfl) (by kernel_rfl) (by kernel_rfl) (by kernel_rfl) (by exact fun _ _ _ h => h) (Or.inr ⟨by rfl, rfl⟩) trivial ?_
                try simp only [Act.put, List.setIfInBounds_toArray, List.set_cons_zero, List.set_cons_succ]
                refine wpAnyH_take (i := 9) (oi := _) (v := undef) (by simp only [List.getElem?_toArray, List.getElem?_cons_succ, List.getElem?_cons_zero]; rfl) (by kernel_rfl) (by kernel_rfl) (by kernel_rfl) (by exact fun _ _ _ h => h) (Or.inr ⟨by rfl, rfl⟩) trivial ?_
                try simp only [Act.put, List.setIfInBounds_toArray, List.set_cons_zero, List.set_cons_succ]
                refine wpAnyH_take (i := 10) (oi := _) (v := undef) (by simp only [List.getElem?_toArray, List.getElem?_cons_succ, List.getElem?_cons_zero]; rfl) (by kernel_rfl) (by kernel_rfl) (by kernel_rfl) (by exact fun _ _ _ h => h) (Or.inr ⟨by rfl, rfl⟩) trivial ?_
                try simp only [Act.put, List.setIfInBounds_toArray, List.set_cons_zero, List.set_cons_succ]
                refine wpAnyH_take (i := 11) (oi := _) (v := undef) (by simp only [List.getElem?_toArray, List.getElem?_cons_succ, List.getElem?_cons_zero]; rfl) (by kernel_rfl) (by kernel_rfl) (by kernel_rfl) (by exact fun _ _ _ h => h) (Or.inr ⟨by rfl, rfl⟩) trivial ?_
                try simp only [Act.put, List.setIfInBounds_toArray, List.set_cons_zero, List.set_cons_succ]
                refine wpAnyH_take (i := 12) (oi := _) (v := undef) (by simp only [List.getElem?_toArray, List.getElem?_cons_succ, List.getElem?_cons_zero]; rfl) (by kernel_rfl) (by kernel_rfl) (by kernel_rfl) (by exact fun _ _ _ h => h) (Or.inr ⟨by rfl, rfl⟩) trivial ?_
                try simp only [Act.put, List.setIfInBounds_toArray, List.set_cons_zero, List.set_cons_succ]
                refine wpAnyH_take (i := 13) (oi := _) (v := undef) (by simp only [List.getElem?_toArray, List.getElem?_cons_succ, List.getElem?_cons_zero]; rfl) (by kernel_rfl) (by kernel_rfl) (by kernel_rfl) (by exact fun _ _ _ h => h) (Or.inr ⟨by rfl, rfl⟩) trivial ?_
                try simp only [Act.put, List.setIfInBounds_toArray, List.set_cons_zero, List.set_cons_succ]
                refine wpAnyH_take (i := 14) (oi := _) (v := undef) (by simp only [List.getElem?_toArray, List.getElem?_cons_succ, List.getElem?_cons_zero]; rfl) (by kernel_rfl) (by kernel_rfl) (by kernel_rfl) (by exact fun _ _ _ h => h) (Or.inr ⟨by rfl, rfl⟩) trivial ?_
                try simp only [Act.put, List.setIfInBounds_toArray, List.set_cons_zero, List.set_cons_succ]
                refine wpAnyH_take (i := 15) (oi := _) (v := ?_) (by simp only [List.getElem?_toArray, List.getElem?_cons_succ, List.getElem?_cons_zero]; rfl) (by kernel_rfl) (by kernel_rfl) (by kernel_rfl) (by exact fun _ _ _ h => h) (Or.inl ⟨by rfl, ?_⟩) trivial ?_
                rotate_left 1
                · (intro w _; go_simp; try with_reducible rfl)
                all_goals try simp only [Act.put, List.setIfInBounds_toArray, List.set_cons_zero, List.set_cons_succ]
                refine wpAnyH_take (i := 16) (oi := _) (v := ?_) (by simp only [List.getElem?_toArray, List.getElem?_cons_succ, List.getElem?_cons_zero]; rfl) (by kernel_rfl) (by kernel_rfl) (by kernel_rfl) (by exact fun _ _ _ h => h) (Or.inl ⟨by rfl, ?_⟩) trivial ?_
                rotate_left 1
                · (intro w _; go_simp; try with_reducible rfl)
                all_goals try simp only [Act.put, List.setIfInBounds_toArray, List.set_cons_zero, List.set_cons_succ]
                refine wpAnyH_done (by kernel_rfl) ?_ _
                go_wp2_with fail
                have bw := E.out.drew.fin
                go_ret
                exact ⟨rfl, bw⟩
            · obtain ⟨u, hu⟩ : ∃ u, tn = u + 1 := ⟨tn - 1, by omega⟩
              have hb2 : (tn == 0) = false := by simp; omega
              have hb3 : ((tn : Int) == 0) = false := by simp; omega
              have e1 : IntKind.i64.wrap ((tn : Int) - 1) = (u : Int) := by rw [IntWalk.i64_in _ (by omega)]; omega
              have e2 : (tn : Int) - 1 = (u : Int) := by omega
              have e3 : IntKind.i64.wrap (u : Int) = (u : Int) := IntWalk.i64_in _ (by omega)
              have hub : (u : Int) ≤ 1048576 := by omega
              have HU := Lib.hid hu
              clear TN
              have TN := Lib.hid (show ((u : Int)).toNat = u by omega)
              obtain ⟨x, hx⟩ : ∃ x, x = f.at (u) := ⟨_, rfl⟩
              obtain ⟨y, hy⟩ : ∃ y, y = g.at (u) := ⟨_, rfl⟩
              have HX := Lib.hid hx; have HY := Lib.hid hy
              clear hx hy
              have hxy : decide (x ≤ y) = true := by
                have h := H2.out u (by omega)
                rw [up_iff HF.out HG.out (by omega), ← HX.out, ← HY.out] at h
                simp; omega
              obtain ⟨b50, hb50⟩ : ∃ b50, decide ((k : Int) < 50) = b50 := ⟨_, rfl⟩
              have hbk : b50 = true → decide (k < tn) = false := by
                intro h; rw [h] at hb50; simp at hb50; simp; omega
              have HBK := Lib.hid hbk
              clear hu hbk hkx hpos
              cases b50
              case' true => have hbk := HBK.out rfl
              all_goals
                go_wp2_with fail
                go_region_held3 (fun w' => w'.cell? ⟨w3.heap.size, 0, none⟩ = some (.slice A n c) ∧ w'.cell? ⟨w3.heap.size, 1, none⟩ = some (.int .i64 f.per) ∧ w'.cell? ⟨w3.heap.size, 2, none⟩ = some (.int .i64 f.inc) ∧ w'.cell? ⟨w3.heap.size + 1, 0, none⟩ = some (.slice B m d) ∧ w'.cell? ⟨w3.heap.size + 1, 1, none⟩ = some (.int .i64 g.per) ∧ w'.cell? ⟨w3.heap.size + 1, 2, none⟩ = some (.int .i64 g.inc)) (first | go_keep)
                  (first
                    | (go_at_call_of 38 (Value.agg #[.slice A n c, .int .i64 f.per, .int .i64 f.inc])
                       refine (value4_any A n c f.per f.inc _ f.vals _ (by exact E.out.lf.ints) HF.out (by omega) (by omega)).mono ?_
                       rw [TN.out, ← HX.out]
                       rintro q wq ⟨rfl, hbq⟩
                       have E := Lib.hid (E.out.below (by first | exact hbq | exact bofdrew hbq))
                       clear hbq
                       clear f0 f1 f2 g0 g1 g2 hlf hlg hlp
                       obtain ⟨f0, f1, f2, g0, g1, g2, hlf, hlg, hlp⟩ := E.out.cells
                       skip)
                    | (go_at_call_of 38 (Value.agg #[.slice B m d, .int .i64 g.per, .int .i64 g.inc])
                       refine (value4_any B m d g.per g.inc _ g.vals _ (by exact E.out.lg.ints) HG.out (by omega) (by omega)).mono ?_
                       rw [TN.out, ← HY.out]
                       rintro q wq ⟨rfl, hbq⟩
                       have E := Lib.hid (E.out.below (by first | exact hbq | exact bofdrew hbq))
                       clear hbq
                       clear f0 f1 f2 g0 g1 g2 hlf hlg hlp
                       obtain ⟨f0, f1, f2, g0, g1, g2, hlf, hlg, hlp⟩ := E.out.cells
                       skip)
                    | (go_at_call 25
                       refine (awake4_any _).mono ?_
                       rintro q wq ⟨rfl, hbq⟩
                       have E := Lib.hid (E.out.below (by first | exact hbq | exact bofdrew hbq))
                       clear hbq
                       clear f0 f1 f2 g0 g1 g2 hlf hlg hlp
                       obtain ⟨f0, f1, f2, g0, g1, g2, hlf, hlg, hlp⟩ := E.out.cells
                       skip))
                go_wp2_with fail
                have bw := E.out.fin
                go_ret
                exact ⟨rfl, bw⟩
  · have HAM := Lib.hid (show AtM f g true from .inl ⟨HF.out, HG.out, by
      simp only [true_iff]
      exact h1⟩)
    have H1 := Lib.hid h1
    clear h1
    go_wp2_with fail
    refine (mod_any t0 3000 _ (by omega) (by omega)).mono ?_
    rintro q w6 ⟨⟨z, hz0, hz1, rfl⟩, rfl⟩
    obtain ⟨z, rfl⟩ := Int.eq_ofNat_of_zero_le hz0
    have TN := Lib.hid (show ((z : Int)).toNat = z by omega)
    obtain ⟨x, hx⟩ : ∃ x, x = f.at (z) := ⟨_, rfl⟩
    obtain ⟨y, hy⟩ : ∃ y, y = g.at (z) := ⟨_, rfl⟩
    have HX := Lib.hid hx; have HY := Lib.hid hy
    clear hx hy
    have hxy : decide (x ≤ y) = true := by
      have h := H1.out z
      rw [up_iff HF.out HG.out (by omega), ← HX.out, ← HY.out] at h
      simp; omega
    go_wp2_with fail
    go_region_held3 (fun w' => w'.cell? ⟨w3.heap.size, 0, none⟩ = some (.slice A n c) ∧ w'.cell? ⟨w3.heap.size, 1, none⟩ = some (.int .i64 f.per) ∧ w'.cell? ⟨w3.heap.size, 2, none⟩ = some (.int .i64 f.inc) ∧ w'.cell? ⟨w3.heap.size + 1, 0, none⟩ = some (.slice B m d) ∧ w'.cell? ⟨w3.heap.size + 1, 1, none⟩ = some (.int .i64 g.per) ∧ w'.cell? ⟨w3.heap.size + 1, 2, none⟩ = some (.int .i64 g.inc)) (first | go_keep)
      (first
        | (go_at_call_of 38 (Value.agg #[.slice A n c, .int .i64 f.per, .int .i64 f.inc])
           refine (value4_any A n c f.per f.inc _ f.vals _ (by exact E.out.lf.ints) HF.out (by omega) (by omega)).mono ?_
           rw [TN.out, ← HX.out]
           rintro q wq ⟨rfl, hbq⟩
           have E := Lib.hid (E.out.below (by first | exact hbq | exact bofdrew hbq))
           clear hbq
           clear f0 f1 f2 g0 g1 g2 hlf hlg hlp
           obtain ⟨f0, f1, f2, g0, g1, g2, hlf, hlg, hlp⟩ := E.out.cells
           skip)
        | (go_at_call_of 38 (Value.agg #[.slice B m d, .int .i64 g.per, .int .i64 g.inc])
           refine (value4_any B m d g.per g.inc _ g.vals _ (by exact E.out.lg.ints) HG.out (by omega) (by omega)).mono ?_
           rw [TN.out, ← HY.out]
           rintro q wq ⟨rfl, hbq⟩
           have E := Lib.hid (E.out.below (by first | exact hbq | exact bofdrew hbq))
           clear hbq
           clear f0 f1 f2 g0 g1 g2 hlf hlg hlp
           obtain ⟨f0, f1, f2, g0, g1, g2, hlf, hlg, hlp⟩ := E.out.cells
           skip)
        | (go_at_call 29
           refine (atMost_any A B n m c d f.per f.inc g.per g.inc f.vals g.vals _ (by exact E.out.lf.ints) (by exact E.out.lg.ints) (by omega) (by omega)).mono ?_
           intro q wq hr
           obtain ⟨rfl, hbq⟩ := RetM.of HAM.out hr
           clear hr
           have E := Lib.hid (E.out.below (by first | exact hbq | exact bofdrew hbq))
           clear hbq
           clear f0 f1 f2 g0 g1 g2 hlf hlg hlp
           obtain ⟨f0, f1, f2, g0, g1, g2, hlf, hlg, hlp⟩ := E.out.cells
           skip)
        | (go_at_call 25
           refine (awake4_any _).mono ?_
           rintro q wq ⟨rfl, hbq⟩
           have E := Lib.hid (E.out.below (by first | exact hbq | exact bofdrew hbq))
           clear hbq
           clear f0 f1 f2 g0 g1 g2 hlf hlg hlp
           obtain ⟨f0, f1, f2, g0, g1, g2, hlf, hlg, hlp⟩ := E.out.cells
           skip))
    all_goals
      go_wp2_with fail
      have bw := E.out.fin
      go_ret
      exact ⟨rfl, bw⟩
end Go.Proofs.Yteddogbhofhlaaa
