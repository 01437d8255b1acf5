/- bucket.Excess, and that of the reference. -/
import Derived.Test.YthdibkmjoiipgaaBk
namespace Go.Proofs.Ythdibkmjoiipgaa
open Go.RowKit
set_option linter.unusedVariables false

def RetX (S : Int → Int → Int → Prop) (w : World) (e : Ending) (w' : World) : Prop :=
  ∃ x y er, S x y er ∧ e = .returned (.tuple #[.agg #[.int .i64 x, .int .i64 y], .int .i64 er]) ∧ Below w.heap.size w w'
theorem SzOk.zero (z : List Int) : SzOk z 0 := fun k h => by omega
theorem SzOk.succ {z : List Int} {k : Nat} (h : SzOk z k) (h1 : 0 ≤ nth z k) (h2 : nth z k ≤ 1500) : SzOk z (k + 1) := fun j hj => by
  by_cases e : j = k
  · rw [e]; exact ⟨h1, h2⟩
  · exact h j (by omega)
/-- the environment: the bucket, the result's block, the sizes -/
structure XE (w wx : World) (B b R r : Int) (A : Option Addr) (n : Nat) (z : List Int) : Prop where
  e : BE w wx B b R r
  zb : Blk wx (w.heap.size + 1) 23 #[.int .i64 0, .int .i64 0]
  ia : Ints wx wx.heap.size A n z
section
variable {w wx wy : World} {B b R r : Int} {A : Option Addr} {n : Nat} {z : List Int}
theorem XE.new (hA : Ints w w.heap.size A n z) : XE w ((w.alloc (.cells #[.int .i64 B, .int .i64 b, .int .i64 R, .int .i64 r] 27)).alloc (.cells #[.int .i64 0, .int .i64 0] 23)) B b R r A n z :=
  ⟨(BE.new w B b R r).alloc _, by
    have := Blk.new (w.alloc (.cells #[.int .i64 B, .int .i64 b, .int .i64 R, .int .i64 r] 27)) 23 #[.int .i64 0, .int .i64 0]
    rw [World.size_alloc] at this; exact this, (hA.alloc' _).alloc' _⟩
theorem XE.below (h : XE w wx B b R r A n z) (hb : Below wx.heap.size wx wy) : XE w wy B b R r A n z := ⟨h.e.below hb, h.zb.below hb h.zb.lt, h.ia.ext hb⟩
theorem XE.zc (h : XE w wx B b R r A n z) : (wx.cell? ⟨w.heap.size + 1, 0, none⟩ = some (.int .i64 0) ∧ wx.cell? ⟨w.heap.size + 1, 1, none⟩ = some (.int .i64 0)) ∧ wx.frozen? ⟨w.heap.size + 1, 0, none⟩ = false ∧ wx.frozen? ⟨w.heap.size + 1, 1, none⟩ = false ∧ w.heap.size + 1 < wx.heap.size := by
  have q0 := h.zb.cell 0; have q1 := h.zb.cell 1
  simp at q0 q1
  exact ⟨⟨q0, q1⟩, h.zb.frozen 0, h.zb.frozen 1, h.zb.lt⟩
end
set_option maxHeartbeats 2000000 in
set_option maxRecDepth 100000 in
theorem excess_any (B b R r : Int) (A : Option Addr) (n c : Nat) (z : List Int) (w : World) (hA : Ints w w.heap.size A n z) (hn : (n : Int) ≤ 1000000) :
    Calls Try.prog 76 #[.agg #[.int .i64 B, .int .i64 b, .int .i64 R, .int .i64 r], .slice A n c] w (RetX (ExcS B b R r z n) w) := by
  have E := Lib.hid (XE.new (B := B) (b := b) (R := R) (r := r) hA)
  clear hA
  go_enter Try.func76, Try.ntmps76
  obtain ⟨f0, f1, f2, f3, hlf⟩ := E.out.e.cells
  go_wp2_with fail
  refine (bvalid_any B b R r _).mono ?_
  by_cases hok : GOk B b ∧ GOk R r
  · rw [bokB_t hok]
    have OK := Lib.hid hok
    have hR0 : 0 ≤ R := hok.2.2; have hR1 : R ≤ 1073741824 := hok.2.1.2.2.2.1; have hr1 : 1 ≤ r := hok.2.1.1; have hr2 : r ≤ 1073741824 := hok.2.1.2.1
    clear hok
    rintro e w1 ⟨rfl, hb⟩
    have E := Lib.hid (E.out.below hb)
    clear hb f0 f1 f2 f3 hlf
    obtain ⟨f0, f1, f2, f3, hlf⟩ := E.out.e.cells
    by_cases hn2 : n ≤ 381
    · have c1 : decide ((381 : Int) < n) = false := by simp; omega
      have c1' : decide (381 < n) = false := by simp; omega
      go_wp2_with fail
      clear f0 f1 f2 f3 hlf
      go_loopg [7, 23] n (fun gg s7 s23 wx => ∃ k : Nat, k + gg = n ∧ s23 = .int .i64 k ∧ SzOk z k ∧ XE w wx B b R r A n z)
      case atStart => exact ⟨0, by omega, rfl, SzOk.zero z, E.out⟩
      case round =>
        clear E
        obtain ⟨k, hkg, rfl, hsz, hE⟩ := hrel
        have E := Lib.hid hE; have SZ := Lib.hid hsz
        clear hE hsz
        by_cases hk : k < n
        · have hki : (k : Int) < n := by omega
          obtain ⟨ab, off, hAe, hbl, hcell⟩ := E.out.ia.2 (by omega)
          subst hAe
          have hck := hcell k hk
          obtain ⟨x, hx⟩ : ∃ x, x = nth z k := ⟨_, rfl⟩
          rw [← hx] at hck
          have HX := Lib.hid hx
          clear hx hcell
          by_cases hx0 : x < 0
          · have F := Lib.hid (show ExcS B b R r z n 0 0 2 from .inl ⟨fun h => by have := (h.2.2.2 k hk).1; rw [← HX.out] at this; omega, rfl, rfl, rfl⟩)
            -- netcalculus/bucket.Excess the function, 0 0 2 the results
            obtain ⟨⟨z0, z1⟩, v0, v1, hlz⟩ := E.out.zc
            go_wp2_with fail
            have rb := (E.out.zb.set_ 0 (.int .i64 0)).set_ 1 (.int .i64 0)
            exact bodyPost_ret (v := .tuple #[.agg #[.int .i64 0, .int .i64 0], .int .i64 2]) (by simp [results, Try.results76, go_sem, rb.cell]) rfl ⟨_, _, _, F.out, rfl, ((E.out.e.bw.setCell (by simp) _).setCell (by simp) _)⟩
          · by_cases hx1 : 1500 < x
            · have F := Lib.hid (show ExcS B b R r z n 0 0 2 from .inl ⟨fun h => by have := (h.2.2.2 k hk).2; rw [← HX.out] at this; omega, rfl, rfl, rfl⟩)
              -- netcalculus/bucket.Excess the function, 0 0 2 the results
              obtain ⟨⟨z0, z1⟩, v0, v1, hlz⟩ := E.out.zc
              go_wp2_with fail
              have rb := (E.out.zb.set_ 0 (.int .i64 0)).set_ 1 (.int .i64 0)
              exact bodyPost_ret (v := .tuple #[.agg #[.int .i64 0, .int .i64 0], .int .i64 2]) (by simp [results, Try.results76, go_sem, rb.cell]) rfl ⟨_, _, _, F.out, rfl, ((E.out.e.bw.setCell (by simp) _).setCell (by simp) _)⟩
            · have F := Lib.hid (SZ.out.succ (by rw [← HX.out]; omega) (by rw [← HX.out]; omega))
              go_wp2_with fail
              go_roundg (gk - 1)
              case measure => omega
              case rel => exact ⟨k + 1, by omega, by go_num, F.out, E.out⟩
        · have hkn : k = n := by omega
          subst hkn
          clear hk hkg
          obtain ⟨n, hnn⟩ : ∃ n : Nat, n = k := ⟨_, rfl⟩
          subst hnn
          go_wp2_with fail
          go_loopg [8, 9, 11, 37] n (fun gg s8 s9 s11 s37 wx => ∃ (k : Nat) (m q : Int), k + gg = n ∧ s37 = .int .i64 k ∧ s8 = .int .i64 m ∧ s9 = .int .i64 q ∧ ExcM z R r k m ∧ NeedS z R r k q ∧ XE w wx B b R r A n z)
          case atStart => exact ⟨0, 0, 0, by omega, rfl, rfl, rfl, ExcM.zero z R r, NeedS.zero z R r, E.out⟩
          case round =>
            clear E
            obtain ⟨k, m, q, hkg, rfl, rfl, rfl, hm, hq, hE⟩ := hrel
            have E := Lib.hid hE; have HM := Lib.hid hm; have HQ := Lib.hid hq
            clear hE hm hq
            have hbig : 1500 * (n : Int) * r ≤ 571500 * 1073741824 := Int.mul_le_mul (by omega) hr2 (by omega) (by omega)
            obtain ⟨f0, f1, f2, f3, hlf⟩ := E.out.e.cells
            by_cases hk : k < n
            · have hki : (k : Int) < n := by omega
              have hm0 := HM.out.1; have hq0 := HQ.out.1
              have hq1 : q ≤ 571500 * 1073741824 := Int.le_trans (HQ.out.le SZ.out (by omega) hR0 (by omega)) hbig
              obtain ⟨ab, off, hAe, hbl, hcell⟩ := E.out.ia.2 (by omega)
              subst hAe
              have hck := hcell k hk
              have hxb := SZ.out k hk
              have NX := HQ.out.succ hxb.1 hR0 (show 0 ≤ r by omega)
              have MX := HM.out.succ NX
              obtain ⟨x, hx⟩ : ∃ x, x = nth z k := ⟨_, rfl⟩
              rw [← hx] at hck hxb NX MX
              have hp0 : 0 ≤ x * r := Int.mul_nonneg hxb.1 (by omega)
              have hp1 : x * r ≤ 1500 * 1073741824 := Int.mul_le_mul hxb.2 hr2 (by omega) (by omega)
              clear hx hcell hbig
              by_cases g1 : 0 < q - R
              · rw [if_pos g1] at NX MX
                by_cases g2 : m < q - R + x * r
                · rw [if_pos g2] at MX
                  have NX := Lib.hid NX; have MX := Lib.hid MX
                  go_wp2_with fail
                  go_roundg (gk - 1)
                  case measure => omega
                  case rel => exact ⟨k + 1, _, _, by omega, by go_num, rfl, rfl, MX.out, NX.out, E.out⟩
                · rw [if_neg g2] at MX
                  have NX := Lib.hid NX; have MX := Lib.hid MX
                  go_wp2_with fail
                  go_roundg (gk - 1)
                  case measure => omega
                  case rel => exact ⟨k + 1, _, _, by omega, by go_num, rfl, rfl, MX.out, NX.out, E.out⟩
              · rw [if_neg g1, Int.zero_add] at NX MX
                by_cases g2 : m < x * r
                · rw [if_pos g2] at MX
                  have NX := Lib.hid NX; have MX := Lib.hid MX
                  go_wp2_with fail
                  go_roundg (gk - 1)
                  case measure => omega
                  case rel => exact ⟨k + 1, x * r, x * r, by omega, by go_num, by go_num, by go_num, MX.out, NX.out, E.out⟩
                · rw [if_neg g2] at MX
                  have NX := Lib.hid NX; have MX := Lib.hid MX
                  go_wp2_with fail
                  go_roundg (gk - 1)
                  case measure => omega
                  case rel => exact ⟨k + 1, m, x * r, by omega, by go_num, rfl, by go_num, MX.out, NX.out, E.out⟩
            · have hkn : k = n := by omega
              subst hkn
              clear hk hkg
              have hm1 : m ≤ 571500 * 1073741824 := Int.le_trans (HM.out.le SZ.out (Nat.le_refl _) hR0 (by omega)) hbig
              have hm0 := HM.out.1
              have F := Lib.hid (show ExcS B b R r z k (fnew m r).1 (fnew m r).2.1 (fnew m r).2.2 from .inr ⟨⟨OK.out.1, OK.out.2, hn2, SZ.out⟩, m, HM.out, rfl, rfl, rfl⟩)
              clear hbig
              go_wp2_with fail
              refine (fnewI_any m r _ (by omega) (by omega) hr1 (by omega)).mono ?_
              generalize (fnew m r).1 = x at *
              generalize (fnew m r).2.1 = y at *
              generalize (fnew m r).2.2 = er at *
              rintro e w2 ⟨rfl, hb⟩
              have E := Lib.hid (E.out.below hb)
              clear hb f0 f1 f2 f3 hlf
              obtain ⟨f0, f1, f2, f3, hlf⟩ := E.out.e.cells
              -- netcalculus/bucket.Excess the function, x y er the results
              obtain ⟨⟨z0, z1⟩, v0, v1, hlz⟩ := E.out.zc
              go_wp2_with fail
              have rb := (E.out.zb.set_ 0 (.int .i64 x)).set_ 1 (.int .i64 y)
              exact bodyPost_ret (v := .tuple #[.agg #[.int .i64 x, .int .i64 y], .int .i64 er]) (by simp [results, Try.results76, go_sem, rb.cell]) rfl ⟨_, _, _, F.out, rfl, ((E.out.e.bw.setCell (by simp) _).setCell (by simp) _)⟩
    · have c1 : decide ((381 : Int) < n) = true := by simp; omega
      have c1' : decide (381 < n) = true := by simp; omega
      have F := Lib.hid (show ExcS B b R r z n 0 0 2 from .inl ⟨fun h => hn2 h.2.2.1, rfl, rfl, rfl⟩)
      clear hn2
      -- netcalculus/bucket.Excess the function, 0 0 2 the results
      obtain ⟨⟨z0, z1⟩, v0, v1, hlz⟩ := E.out.zc
      go_wp2_with fail
      have rb := (E.out.zb.set_ 0 (.int .i64 0)).set_ 1 (.int .i64 0)
      exact bodyPost_ret (v := .tuple #[.agg #[.int .i64 0, .int .i64 0], .int .i64 2]) (by simp [results, Try.results76, go_sem, rb.cell]) rfl ⟨_, _, _, F.out, rfl, ((E.out.e.bw.setCell (by simp) _).setCell (by simp) _)⟩
  · rw [bokB_f hok]
    have F := Lib.hid (show ExcS B b R r z n 0 0 2 from .inl ⟨fun h => hok ⟨h.1, h.2.1⟩, rfl, rfl, rfl⟩)
    clear hok
    rintro e w1 ⟨rfl, hb⟩
    have E := Lib.hid (E.out.below hb)
    clear hb f0 f1 f2 f3 hlf
    obtain ⟨f0, f1, f2, f3, hlf⟩ := E.out.e.cells
    -- netcalculus/bucket.Excess the function, 0 0 2 the results
    obtain ⟨⟨z0, z1⟩, v0, v1, hlz⟩ := E.out.zc
    go_wp2_with fail
    have rb := (E.out.zb.set_ 0 (.int .i64 0)).set_ 1 (.int .i64 0)
    exact bodyPost_ret (v := .tuple #[.agg #[.int .i64 0, .int .i64 0], .int .i64 2]) (by simp [results, Try.results76, go_sem, rb.cell]) rfl ⟨_, _, _, F.out, rfl, ((E.out.e.bw.setCell (by simp) _).setCell (by simp) _)⟩
end Go.Proofs.Ythdibkmjoiipgaa
