/- curve.Flat(0): what it returns. -/
import Derived.Test.YthdibkmjoiipgaaPwKit
import Derived.Test.YthdibkmjoiipgaaPwLaw
import Derived.Deep.LoopGhost
namespace Go.Proofs.Ythdibkmjoiipgaa
open Go.RowKit
set_option linter.unusedVariables false

def cvZ : Cv := ⟨[0], 1, 0⟩
theorem cvZ_lim : Lim cvZ := by
  refine ⟨by decide, fun k hk => ?_, by decide, by decide⟩
  have hk' : k < 1 := hk
  rw [show k = 0 by omega]; decide
theorem flat1_any (D : Nat) (t : Nat) (w : World) (hD : Blk w D 3 #[.int .i64 0]) (ht : t ≤ 1000) :
    Calls Try.prog 128 (#[.int .i64 t] ++ #[.pointer (some ⟨D, 0, none⟩)]) w fun e w' => e = .returned (.int .i64 0) ∧ Below w.heap.size w w' := by
  have q0 := hD.cell 0
  simp at q0
  show Calls _ _ #[.int .i64 t, .pointer (some ⟨D, 0, none⟩)] _ _
  go_enter Try.func128, Try.ntmps128
  go_wp2_with fail
  all_goals
    go_ret
    first
      | exact ⟨rfl, Below.refl _ _⟩
      | exact ⟨ret_int (by simp [IntKind.wrap]), Below.refl _ _⟩
set_option maxHeartbeats 1000000 in
theorem flat0K_any (w : World) : Calls Try.prog 85 #[.int .i64 0] w (RetK cvZ 0 w) := by
  have DB := Lib.hid ((Blk.new w 3 #[.int .i64 0]).alloc (.cells #[.slice none 0 0, .int .i64 0, .int .i64 0] 46))
  have rb := Blk.new (w.alloc (.cells #[.int .i64 0] 3)) 46 #[.slice none 0 0, .int .i64 0, .int .i64 0]
  rw [World.size_alloc] at rb
  have RB := Lib.hid rb
  have BW := Lib.hid (bthen (balloc w (.cells #[.int .i64 0] 3)) (balloc _ (.cells #[.slice none 0 0, .int .i64 0, .int .i64 0] 46)))
  clear rb
  go_enter Try.func85, Try.ntmps85
  go_wp2_with fail
  refine (buildK_any 128 #[.pointer (some ⟨w.heap.size, 0, none⟩)] 1 1 0 (fun _ => 0) _ (by omega) (by omega) (by omega) (by omega) (by omega) (by omega) (fun k hk => by omega) (by exact fun t w1 ht hb => flat1_any w.heap.size t w1 (DB.out.below hb DB.out.lt) (by omega)) (fun x w => by kernel_rfl)).mono ?_
  rintro e w5 ⟨r, er, hS, A5, n5, c5, hc5, rfl, hI5, hA5, hbq⟩
  have hm := (build_made (h := fun _ => 0) (s := 1) (p := 1) (i := 0) (by omega) (fun t u _ _ h => h) (fun _ t ht => by show (0 : Int) = 0 + 0; omega) hS)
  obtain ⟨rfl, rfl⟩ := MadeS.unique hm ⟨_, zero_nf, .inl ⟨cvZ_lim, rfl, rfl⟩⟩
  have hs0 := RB.out.lt
  replace RB := Lib.hid (RB.out.below hbq RB.out.lt)
  replace BW := Lib.hid (bthen BW.out hbq)
  have HI5 := Lib.hid hI5; have HA5 := Lib.hid hA5
  clear hS hI5 hA5 hbq hm
  obtain ⟨⟨r0, r1, r2⟩, ⟨y0, y1, y2⟩, hlr⟩ := RB.out.c3
  go_wp2_with fail
  have rb := RB.out.store3 (.slice A5 n5 c5) (.int .i64 1) (.int .i64 0)
  refine bodyPost_ret (v := .tuple #[.agg #[.slice A5 n5 c5, .int .i64 1, .int .i64 0], .int .i64 0]) (by simp [results, Try.results85, go_sem, rb.cell]) rfl ?_
  exact retK_store3' (f := cvZ) hc5 HA5.out (by omega) hs0 HI5.out BW.out
theorem flat0_any (w : World) : Calls Try.prog 85 #[.int .i64 0] w (RetC cvZ 0 w) := (flat0K_any w).mono fun _ _ h => h.to

end Go.Proofs.Ythdibkmjoiipgaa
