/- wave.Table: what it returns. -/
import Derived.Test.YthdibkmjoiipgaaSto
import Derived.Test.YthdibkmjoiipgaaRowI
import Derived.Test.YthdibkmjoiipgaaBuild2
import Derived.Deep.LoopGhost
import Derived.Deep.DeepCutAuto
import Derived.Deep.RegionHeld3
namespace Go.Proofs.Ythdibkmjoiipgaa
open Go.RowKit
set_option linter.unusedVariables false

theorem own_zeros2 {w : World} {g n : Nat} (h : w.ownsRow g 3 1 (.slice (some ⟨g, 0, none⟩) n n) n (madeCells (Value.int .i64 0).cells (n * 1)).toList) : RowI w g (List.replicate n 0) := by
  have e : (madeCells (Value.int .i64 0).cells (n * 1)).toList = (List.replicate n 0).map (Value.int .i64) := by simp [madeCells, Value.cells, Nat.mod_one, List.eq_replicate_iff]
  rw [e] at h
  exact Own.row0 (xs := List.replicate n 0) h
/-- a slice of the call's own with the values of h -/
def RetTab (h : Nat → Int) (N : Nat) (w : World) (e : Ending) (w' : World) : Prop :=
  ∃ g, e = .returned (.slice (some ⟨g, 0, none⟩) N N) ∧ RowI w' g (tab h 0 N) ∧ w.heap.size ≤ g ∧ Below w.heap.size w w'
/-- the first i of the values are those of h -/
def UpTo (h : Nat → Int) (zs : List Int) (N i : Nat) : Prop := zs.length = N ∧ ∀ x, x < i → nth zs x = h x
theorem UpTo.step {h : Nat → Int} {zs : List Int} {N i : Nat} (H : UpTo h zs N i) (hi : i < N) : UpTo h (zs.set i (h i)) N (i + 1) :=
  ⟨by rw [List.length_set]; exact H.1, fun x hx => by
    rw [nth_set _ _ _ _ (by rw [H.1]; exact hi)]
    split
    · rename_i e; rw [e]
    · exact H.2 x (by omega)⟩
theorem UpTo.done {h : Nat → Int} {zs : List Int} {N : Nat} (H : UpTo h zs N N) : zs = tab h 0 N := eq_tab H.1 (fun j hj => by rw [Nat.zero_add]; exact H.2 j hj)
set_option maxHeartbeats 1000000 in
theorem table_any (A : Option Addr) (n c : Nat) (p i : Int) (N : Nat) (zs : List Int) (w : World) (hA : Ints w w.heap.size A n zs) (hf : Cv.Ok ⟨zs, p, i⟩) (hN : N ≤ 3000) :
    Calls Try.prog 92 #[.agg #[.slice A n c, .int .i64 p, .int .i64 i], .int .i64 N] w (RetTab (Cv.at ⟨zs, p, i⟩) N w) := by
  have f1' := hf.n1; have f2' := hf.n2; have f3 := hf.p1; have f4 := hf.p2; have f5 := hf.pn; have f6 := hf.i1; have f7 := hf.i2
  have hlm : zs.length = n := hA.1
  simp only at f1' f2' f3 f4 f5 f6 f7
  rw [hlm] at f1' f2' f5
  obtain ⟨i0, hi0, hz0, hy1, hy2⟩ := info_parts info_int
  have E := Lib.hid (L1.new (c := c) (p := p) (i := i) hA)
  have HF := Lib.hid hf
  clear hA hf
  go_enter Try.func92, Try.ntmps92
  go_upto_region 1 with fail
  generalize hwe : w.alloc (.cells #[.slice A n c, .int .i64 p, .int .i64 i] 46) = we at *
  clear hwe
  go_wp2_with (at_make; refine wpList_make_full _ rfl _ _ 29 rfl we.heap.size 3 i0 _ 1 Try.underlying29 hi0 hz0 hy1 .i64 .i64 _ _ N rfl rfl rfl rfl (by rw [hy2]; omega) (by unfold maxLen; omega) (by simp) ?_; intro w3 own1 grow1)
  have hb3 : Below we.heap.size we w3 := (Below.refl _ _).grown grow1 (by simp) (by simp)
  have SM := Lib.hid (own_zeros2 own1)
  have hsz := E.out.bw.size
  have hfs := E.out.fb.lt
  have E := Lib.hid (E.out.below hb3)
  clear hi0 hz0 hy1 hy2 own1 grow1 hb3
  generalize we.heap.size = g at *
  go_loopg [6, 11] N (fun gg s6 s11 wx => ∃ (k : Nat) (vs : List Int), k + gg = N ∧ s11 = .int .i64 k ∧ UpTo (Cv.at ⟨zs, p, i⟩) vs N k ∧ RowI wx g vs ∧ L1 w wx A n c p i zs)
  case atStart => exact ⟨0, List.replicate N 0, by omega, rfl, ⟨by simp, fun x hx => by omega⟩, SM.out, E.out⟩
  case round =>
    clear SM E
    obtain ⟨k, vs, hkg, rfl, hu, hR, hE⟩ := hrel
    have SM := Lib.hid hR; have E := Lib.hid hE; have HU := Lib.hid hu
    clear hR hE hu
    by_cases hk : k < N
    · have hki : (k : Int) < N := by omega
      obtain ⟨f0, f1, f2, hlf⟩ := E.out.cells
      go_wp2_with fail
      refine (at_any A n c p i (k : Int) zs _ (by exact E.out.ints) (by omega) (by omega) (by omega) (by omega) (by omega) HF.out.nn (by omega) (by omega)).mono ?_
      rw [Int.toNat_natCast]
      obtain ⟨v, hv⟩ : ∃ v, v = Cv.at ⟨zs, p, i⟩ k := ⟨_, rfl⟩
      rw [← hv]
      have F := Lib.hid (HU.out.step hk)
      rw [← hv] at F
      rintro e wq ⟨rfl, hb⟩
      have hgl := SM.out.lt
      have E := Lib.hid (E.out.below hb); have SM := Lib.hid (SM.out.below hb hgl)
      clear hb f0 f1 f2 hlf hv
      have q0 := SM.out.cell k (by rw [HU.out.1]; exact hk)
      have z0 := SM.out.frozen k
      have hlt := SM.out.lt
      go_wp2_with fail
      go_roundg (gk - 1)
      case measure => omega
      case rel => exact ⟨k + 1, _, by omega, by go_num, F.out, SM.out.set_ k (by rw [HU.out.1]; exact hk) v,
        ⟨E.out.fb.far (by show w.heap.size ≠ g; omega) _, E.out.ib.keep (fun q hq => World.cell?_setCell_other _ _ _ _ (fun e => by subst e; simp at hq; omega)), E.out.bw.setCell (by show w.heap.size ≤ g; omega) _⟩⟩
    · have hkN : k = N := by omega
      subst hkN
      have F := HU.out.done
      have hr := SM.out
      rw [F] at hr
      have bw := E.out.bw
      go_wp2_with fail
      go_ret
      exact ⟨g, rfl, hr, by omega, bw⟩
end Go.Proofs.Ythdibkmjoiipgaa
