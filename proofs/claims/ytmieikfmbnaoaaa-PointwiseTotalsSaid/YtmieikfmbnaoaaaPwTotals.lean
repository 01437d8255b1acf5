/- The statement PointwiseTotals: the walk. -/
import Derived.Test.YtmieikfmbnaoaaaAwake5
import Derived.Test.YtmieikfmbnaoaaaEnvL2
import Derived.Test.YtmieikfmbnaoaaaMixed
import Derived.Test.YtmieikfmbnaoaaaTotPw
import Derived.Test.YtmieikfmbnaoaaaCOwn
import Derived.Test.YtmieikfmbnaoaaaRefSame
import Derived.Deep.LoopGhost
import Derived.Deep.DeepCutAuto
namespace Go.Proofs.Ytmieikfmbnaoaaa
open Go.RowKit
set_option linter.unusedVariables false

def crN : CR := ⟨none, 0, 0, Cv.none⟩
/-- the curves in the order of zs -/
def pickC (xs : List CR) (zs : List Int) : List CR := zs.map fun z => xs.getD z.toNat crN
theorem pickC_upto (xs : List CR) : pickC xs (upto xs.length) = xs := by
  unfold pickC upto
  refine List.ext_getElem (by simp) (fun k h1 h2 => ?_)
  simp [h2]
theorem pickC_perm {xs : List CR} {zs : List Int} (h : zs.Perm (upto xs.length)) : (pickC xs zs).Perm xs := by
  have := h.map fun z => xs.getD z.toNat crN
  rw [show (upto xs.length).map (fun z => xs.getD z.toNat crN) = xs from pickC_upto xs] at this
  exact this
theorem perm_nth {zs : List Int} {n k : Nat} (h : zs.Perm (upto n)) (hk : k < n) : ∃ i : Nat, nth zs k = (i : Int) ∧ i < n := by
  have hl : zs.length = n := by rw [h.length_eq, upto_len]
  have hm : nth zs k ∈ upto n := h.mem_iff.1 (by rw [nth_get zs k (by omega)]; exact List.getElem_mem _)
  obtain ⟨i, hi, he⟩ := List.mem_map.1 hm
  exact ⟨i, he.symm, List.mem_range.1 hi⟩
theorem pickC_take {xs : List CR} {zs : List Int} {k i : Nat} {x : CR} (hk : k < zs.length) (hi : nth zs k = (i : Int)) (hx : xs[i]? = some x) : (pickC xs zs).take (k + 1) = (pickC xs zs).take k ++ [x] := by
  have e : (pickC xs zs)[k]? = some x := by
    unfold pickC
    rw [List.getElem?_map, List.getElem?_eq_getElem hk, ← nth_get zs k hk, hi]
    simp [hx]
  rw [List.take_add_one, e]; rfl

attribute [local go_sem ↓] app_foldC
set_option maxHeartbeats 8000000 in
set_option maxRecDepth 100000 in
theorem totLaw_any (A0 : Option Addr) (n0 c0 : Nat) (L : List Int) (w : World) (hL : Ints w w.heap.size A0 n0 L) (hc0 : n0 ≤ c0) (hn0 : (n0 : Int) ≤ 9223372036854775807) :
    Calls Try.prog 10 #[.slice A0 n0 c0] w fun e w' => e = .returned (.bool true) ∧ Below w.heap.size w w' := by
  go_enter Try.func10, Try.ntmps10
  go_wp2_with fail
  refine (new_any A0 n0 c0 L w hL hc0 hn0).mono ?_
  rintro e w1 ⟨rfl, hS1, hb1⟩
  have E := Lib.hid (EnvL.start hS1 hb1)
  clear hL hS1 hb1
  -- a curve drawn, not yet in a variable: srcCurve2_any the contract, 5 most, _ w2 the worlds, f the curve, A n c, DrawC 5 f its facts
  go_wp2_with fail
  refine (srcCurve2_any w.heap.size 5 _ (by exact E.out.s) (by omega) (by omega)).mono ?_
  rintro e w2 ⟨f, A, n, c, hD, hcf, rfl, hI, hA, hS, hk⟩
  have hps := E.out.s.lt
  have E := Lib.hid (E.out.kept hS hk)
  have Vf := Lib.hid (show (CR.mk A n c f).In w.heap.size w2 from CR.In.new hI hA hps)
  have Hf := Lib.hid (show DrawC 5 f from hD)
  have HCf := Lib.hid hcf
  have hlenf := hI.1
  try simp only at hlenf
  have hnf : n ≤ 20 := by have h1 := Hf.out.len; omega
  clear hlenf
  clear hD hI hA hS hk hps hcf
  -- a curve drawn, not yet in a variable: srcCurve2_any the contract, 5 most, _ w3 the worlds, g the curve, B m d, DrawC 5 g its facts
  go_wp2_with fail
  refine (srcCurve2_any w.heap.size 5 _ (by exact E.out.s) (by omega) (by omega)).mono ?_
  rintro e w3 ⟨g, B, m, d, hD, hcf, rfl, hI, hA, hS, hk⟩
  have hps := E.out.s.lt
  have E := Lib.hid (E.out.kept hS hk)
  have Vg := Lib.hid (show (CR.mk B m d g).In w.heap.size w3 from CR.In.new hI hA hps)
  have Hg := Lib.hid (show DrawC 5 g from hD)
  have HCg := Lib.hid hcf
  have hleng := hI.1
  try simp only at hleng
  have hmg : m ≤ 20 := by have h1 := Hg.out.len; omega
  clear hleng
  have Vf := Lib.hid (Vf.out.kept hk)
  clear hD hI hA hS hk hps hcf
  -- a curve drawn, not yet in a variable: srcCurve2_any the contract, 4 most, _ w4 the worlds, h the curve, D k q, DrawC 4 h its facts
  go_wp2_with fail
  refine (srcCurve2_any w.heap.size 4 _ (by exact E.out.s) (by omega) (by omega)).mono ?_
  rintro e w4 ⟨h, D, k, q, hD, hcf, rfl, hI, hA, hS, hk⟩
  have hps := E.out.s.lt
  have E := Lib.hid (E.out.kept hS hk)
  have Vh := Lib.hid (show (CR.mk D k q h).In w.heap.size w4 from CR.In.new hI hA hps)
  have Hh := Lib.hid (show DrawC 4 h from hD)
  have HCh := Lib.hid hcf
  have hlenh := hI.1
  try simp only at hlenh
  have hkh : k ≤ 20 := by have h1 := Hh.out.len; omega
  clear hlenh
  have Vf := Lib.hid (Vf.out.kept hk)
  have Vg := Lib.hid (Vg.out.kept hk)
  clear hD hI hA hS hk hps hcf
  -- a curve drawn, not yet in a variable: srcCurve2_any the contract, 4 most, _ w5 the worlds, u the curve, G l r, DrawC 4 u its facts
  go_wp2_with fail
  refine (srcCurve2_any w.heap.size 4 _ (by exact E.out.s) (by omega) (by omega)).mono ?_
  rintro e w5 ⟨u, G, l, r, hD, hcf, rfl, hI, hA, hS, hk⟩
  have hps := E.out.s.lt
  have E := Lib.hid (E.out.kept hS hk)
  have Vu := Lib.hid (show (CR.mk G l r u).In w.heap.size w5 from CR.In.new hI hA hps)
  have Hu := Lib.hid (show DrawC 4 u from hD)
  have HCu := Lib.hid hcf
  have hlenu := hI.1
  try simp only at hlenu
  have hlu : l ≤ 20 := by have h1 := Hu.out.len; omega
  clear hlenu
  have Vf := Lib.hid (Vf.out.kept hk)
  have Vg := Lib.hid (Vg.out.kept hk)
  have Vh := Lib.hid (Vh.out.kept hk)
  clear hD hI hA hS hk hps hcf
  obtain ⟨xs, hxs⟩ : ∃ xs : List CR, xs = [⟨A, n, c, f⟩, ⟨B, m, d, g⟩, ⟨D, k, q, h⟩, ⟨G, l, r, u⟩] := ⟨_, rfl⟩
  have hxl : xs.length = 4 := by rw [hxs]; rfl
  have hxn : ∀ x ∈ xs, x.n ≤ 20 := by
    intro x hx
    rw [hxs] at hx
    simp only [List.mem_cons, List.not_mem_nil, or_false] at hx
    rcases hx with rfl | rfl | rfl | rfl <;> (simp only; omega)
  have hxd : ∀ x ∈ xs, Nice 1 x.f := by
    intro x hx
    rw [hxs] at hx
    simp only [List.mem_cons, List.not_mem_nil, or_false] at hx
    rcases hx with rfl | rfl | rfl | rfl
    · exact Hf.out.nice (by omega)
    · exact Hg.out.nice (by omega)
    · exact Hh.out.nice (by omega)
    · exact Hu.out.nice (by omega)
  have RW := Lib.hid (show Row w.heap.size (w5.alloc (.cells #[.slice A n c, .int .i64 f.per, .int .i64 f.inc, .slice B m d, .int .i64 g.per, .int .i64 g.inc, .slice D k q, .int .i64 h.per, .int .i64 h.inc, .slice G l r, .int .i64 u.per, .int .i64 u.inc] 41)) w5.heap.size xs from by
    rw [hxs]
    exact ⟨Blk.new _ _ _, (by
      intro x hx
      simp only [List.mem_cons, List.not_mem_nil, or_false] at hx
      rcases hx with rfl | rfl | rfl | rfl
      · exact Vf.out.alloc _
      · exact Vg.out.alloc _
      · exact Vh.out.alloc _
      · exact Vu.out.alloc _), Nat.ne_of_gt E.out.s.lt⟩)
  have E := Lib.hid (E.out.alloc (.cells #[.slice A n c, .int .i64 f.per, .int .i64 f.inc, .slice B m d, .int .i64 g.per, .int .i64 g.inc, .slice D k q, .int .i64 h.per, .int .i64 h.inc, .slice G l r, .int .i64 u.per, .int .i64 u.inc] 41))
  have HXD := Lib.hid hxd; have HXN := Lib.hid hxn; have HXL := Lib.hid hxl
  clear hxs hxd hxn hxl Vf Vg Vh Vu Hf Hg Hh Hu HCf HCg HCh HCu
  go_upto_region 3 with fail
  generalize hwe : w5.alloc (.cells #[.slice A n c, .int .i64 f.per, .int .i64 f.inc, .slice B m d, .int .i64 g.per, .int .i64 g.inc, .slice D k q, .int .i64 h.per, .int .i64 h.inc, .slice G l r, .int .i64 u.per, .int .i64 u.inc] 41) = we at *
  clear hwe
  generalize w5.heap.size = b at *
  go_wp2_with fail
  refine (mixed_any w.heap.size 4 we (by exact E.out.s) (by omega) (by omega)).mono ?_
  rintro e wm ⟨zs, rfl, hzp, hzb, hS, hk⟩
  have E := Lib.hid (E.out.kept hS hk)
  have RW := Lib.hid (RW.out.kept hk)
  have ZP := Lib.hid hzp; have ZB := Lib.hid hzb
  have ZL := Lib.hid (show zs.length = 4 from by rw [hzp.length_eq, upto_len])
  have hzs := hzb.lt
  clear hzp hzb hS hk
  generalize we.heap.size = Z at *
  go_wp2_with fail
  go_loopg [5, 7, 28] 4 (fun gg s5 s7 s28 wx => ∃ (k : Nat), k + gg = 4 ∧ s28 = .int .i64 k ∧ COwn wx wm.heap.size s5 k ((pickC xs zs).take k) ∧ Below wm.heap.size wm wx)
  case atStart => exact ⟨0, rfl, rfl, COwn.nil_ _ _, Below.refl _ _⟩
  case round =>
    obtain ⟨k, hkg, rfl, hO, hBW⟩ := hrel
    have OW := Lib.hid hO; have BW := Lib.hid hBW
    clear hO hBW
    by_cases hk : k < 4
    · have hki : (k : Int) < 4 := by omega
      obtain ⟨i, hi, hi4⟩ := perm_nth ZP.out hk
      have hii : (i : Int) < 4 := by omega
      have q0 := (ZB.out.below BW.out hzs).cell k (by rw [ZL.out]; exact hk)
      rw [hi] at q0
      obtain ⟨x, hx, hix, x0, x1, x2⟩ := (RW.out.toC.below BW.out).get (k := i) (by rw [HXL.out]; exact hi4)
      have hbl := (RW.out.toC.below BW.out).lt
      have hzl := (ZB.out.below BW.out hzs).lt
      obtain ⟨v', w', hrun, ho2, hb2⟩ := run_appSemC OW.out x BW.out.size (by omega)
      rw [← pickC_take (by rw [ZL.out]; exact hk) hi hx] at ho2
      have OW2 := Lib.hid ho2; have BW2 := Lib.hid (BW.out.trans hb2)
      clear ho2 hb2 hi hx hix
      go_wp2_with fail
      go_roundg (gk - 1)
      case measure => omega
      case rel => exact ⟨k + 1, by omega, by go_num, OW2.out, BW2.out⟩
    · have hk4 : k = 4 := by omega
      subst hk4
      have hpm : (pickC xs zs).Perm xs := pickC_perm (by rw [HXL.out]; exact ZP.out)
      have hpl : (pickC xs zs).length = 4 := by rw [hpm.length_eq]; exact HXL.out
      have hpi : ∀ x ∈ pickC xs zs, x ∈ xs := fun x hx => hpm.mem_iff.1 hx
      rw [List.take_of_length_le (by omega)] at OW
      have E := Lib.hid (E.out.below BW.out)
      have R1 := Lib.hid (RW.out.toC.below BW.out)
      obtain ⟨g, c, rfl, hgb, hr2⟩ := OW.out.row (by omega) (fun x hx => R1.out.inn x (hpi x hx))
      have R2 := Lib.hid hr2; have HPM := Lib.hid hpm; have HPL := Lib.hid hpl; have HPI := Lib.hid hpi
      clear hpm hpl hpi hgb hr2 OW hk hkg
      go_wp2_with fail
      refine (total_any (some ⟨b, 0, none⟩) 4 4 xs _ HXL.out (by omega) (by exact fun _ => ⟨b, rfl, R1.out⟩) (fun x hx => by have := HXN.out x hx; omega)).mono ?_
      -- a curve is returned and laid into a new variable: w6 the world, s the curve, er its error, A1 n1 c1
      rintro e w6 ⟨s, er, hSS, A1, n1, c1, rfl, hI, hA, hb⟩
      have HS1 := Lib.hid hSS
      replace R2 := Lib.hid ((R2.out.below hb).below (balloc _ (.cells #[.slice A1 n1 c1, .int .i64 s.per, .int .i64 s.inc] 41)))
      have hI1 := Lib.hid hI.1
      have hps := E.out.s.lt
      have E := Lib.hid (show EnvL w.heap.size w _ _ from (E.out.below hb).push (X := ⟨A1, n1, c1, s⟩) (CR.In.new hI hA hps))
      dsimp only [List.cons_append, List.nil_append] at E
      clear hSS hI hA hb hps
      go_wp2_with fail
      refine (total_any (some ⟨g, 0, none⟩) 4 c (pickC xs zs) _ HPL.out (by omega) (by exact fun _ => ⟨g, rfl, R2.out⟩) (fun x hx => by have := HXN.out x (HPI.out x hx); omega)).mono ?_
      -- a curve is returned and laid into a new variable: w7 the world, t the curve, er2 its error, A2 n2 c2
      rintro e w7 ⟨t, er2, hSS, A2, n2, c2, rfl, hI, hA, hb⟩
      obtain ⟨rfl, rfl, hok, rfl⟩ := tot_perm (fs := xs.map CR.f) (gs := (pickC xs zs).map CR.f) (by rw [List.length_map, HXL.out]; omega) (HPM.out.map _) (fun f hf => by
        obtain ⟨x, hx, rfl⟩ := List.mem_map.1 hf
        exact HXD.out x hx) HS1.out hSS
      have hn1 : n1 ≤ 400 := by have h1 := hok.n2; have h2 : t.vals.length = n1 := hI1.out; omega
      have hn2 : n2 ≤ 400 := by have h1 := hok.n2; have h2 : t.vals.length = n2 := hI.1; omega
      have hps := E.out.s.lt
      have E := Lib.hid (show EnvL w.heap.size w _ _ from (E.out.below hb).push (X := ⟨A2, n2, c2, t⟩) (CR.In.new hI hA hps))
      dsimp only [List.cons_append, List.nil_append] at E
      clear hSS hI hA hb hps
      clear R1 R2 HS1 hI1 hok
      obtain ⟨x0, x1, x2, hlx⟩ := (E.out.get 0 rfl).cells
      obtain ⟨y0, y1, y2, hly⟩ := (E.out.get 1 rfl).cells
      go_wp2_with fail
      refine (refSame_any A1 A2 n1 n2 c1 c2 t.per t.per t.inc t.inc t.vals t.vals _ (by exact (E.out.get 0 rfl).inn.ints) (by exact (E.out.get 1 rfl).inn.ints) (by omega) (by omega)).mono ?_
      rw [(Cv.same_iff _ _).2 rfl]
      rintro e wa ⟨rfl, hb⟩
      have E := Lib.hid (E.out.below hb)
      clear hb
      clear x0 x1 x2 hlx
      clear y0 y1 y2 hly
      go_wp2_with fail
      refine (awake5_any _).mono ?_
      rintro e wq ⟨rfl, hb⟩
      have bw := (E.out.below hb).fin
      go_wp2_with fail
      go_ret
      exact ⟨rfl, bw⟩
end Go.Proofs.Ytmieikfmbnaoaaa
