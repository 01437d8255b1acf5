/- curve.Wait: the curve that is 0 up to a tick, with room. -/
import Derived.Test.YthdibkmjoiipgaaBuild2
import Derived.Test.YthdibkmjoiipgaaEnvL
import Derived.Test.YthdibkmjoiipgaaClLaw
import Derived.Test.YthdibkmjoiipgaaCurve2
import Derived.Test.YthdibkmjoiipgaaPwKit
import Derived.Test.YthdibkmjoiipgaaSto
import Derived.Test.YthdibkmjoiipgaaRefSame
import Derived.BigQuiet
import Derived.Deep.QuietTactic
import Derived.Deep.LoopGhost
import Derived.Deep.DeepCutAuto
import Derived.StillTailTactics
namespace Go.Proofs.Ythdibkmjoiipgaa
open Go.RowKit
set_option linter.unusedVariables false

theorem wait_list (t : Nat) : (List.replicate (t + 2) (0 : Int)).set (t + 1) inf = List.replicate (t + 1) 0 ++ [inf] := by
  refine list_ext (by simp) (fun k hk => ?_)
  simp at hk
  rw [nth_set _ _ _ _ (by simp), nth_append, List.length_replicate]
  by_cases e : k = t + 1
  · subst e; simp [nth]
  · rw [if_neg e, if_pos (by omega), nth_replicate, nth_replicate]

set_option maxHeartbeats 1000000 in
set_option maxRecDepth 100000 in
theorem waitK_any (t : Nat) (ht : t ≤ 398) (w : World) : Calls Try.prog 132 #[.int .i64 t] w (RetK ⟨List.replicate (t + 1) 0 ++ [inf], 1, 0⟩ 0 w) := by
  obtain ⟨i0, hi0, hz0, hz1, hz2⟩ := info_parts info_int
  go_enter Try.func132, Try.ntmps132
  go_wp2_with (at_make; refine wpList_make_full _ rfl _ _ 29 rfl w.heap.size 3 i0 _ 1 Try.underlying29 hi0 hz0 hz1 .i64 .i64 _ _ (t + 2) rfl rfl rfl rfl (by rw [hz2]; omega) (by unfold maxLen; omega) (by simp) ?_; intro w1 own1 grow1; have bw1 : Below w.heap.size w w1 := ((Below.refl _ _).alloc (Nat.le_refl _) _).grown grow1 (by simp) (by simp); have ib1 := IBlk.made own1 (by omega); have rb1 : Blk w1 w.heap.size 46 #[.slice none 0 0, .int .i64 0, .int .i64 0] := (Blk.new w _ _).grown grow1 (by simp); rw [show (w.alloc (.cells #[.slice none 0 0, .int .i64 0, .int .i64 0] 46)).heap.size = w.heap.size + 1 by simp] at ib1; have hsz1 := ib1.lt; have c1 := ib1.cell (t + 1) (by simp); have f1 := ib1.frozen (t + 1); have ib2 := ib1.set_ (t + 1) inf; rw [wait_list] at ib2; have r0 := rb1.cell 0; have r1 := rb1.cell 1; have r2 := rb1.cell 2; have z0 := rb1.frozen 0; have z1 := rb1.frozen 1; have z2 := rb1.frozen 2; simp at r0 r1 r2; have RB := Lib.hid rb1; have IB := Lib.hid ib2; have BW := Lib.hid bw1; clear own1 grow1 hi0 hz0 hz1 hz2 bw1 ib1 ib2 rb1)
  have rb2 := (RB.out.far (p := ⟨w.heap.size + 1, t + 1, none⟩) (by simp) (.int .i64 4611686018427387904)).store3 (.slice (some ⟨w.heap.size + 1, 0, none⟩) (t + 2) (t + 2)) (.int .i64 1) (.int .i64 0)
  have hI := IB.out.ints
  rw [show (List.replicate (t + 1) (0 : Int) ++ [inf]).length = t + 2 by simp] at hI
  exact bodyPost_ret (v := .tuple #[.agg #[.slice (some ⟨w.heap.size + 1, 0, none⟩) (t + 2) (t + 2), .int .i64 1, .int .i64 0], .int .i64 0]) (by simp [results, Try.results132, go_sem, rb2.cell]) rfl
    (retK_store3' (Nat.le_refl _) (B := w.heap.size + 1) (fun b off s h => by cases h; omega) (Nat.le_refl _) (by omega) (f := ⟨List.replicate (t + 1) 0 ++ [inf], 1, 0⟩) hI (BW.out.setCell (by simp) _))
theorem wait0_any (w : World) : Calls Try.prog 132 #[.int .i64 0] w (RetK ⟨[0, inf], 1, 0⟩ 0 w) := waitK_any 0 (by omega) w
end Go.Proofs.Ythdibkmjoiipgaa
namespace Go.Proofs.Ythdibkmjoiipgaa
open Go.RowKit
set_option linter.unusedVariables false
/-- make([]int, 1, n): one 0, with room -/
theorem wpList_make_one {w : World} {ops : Array Oper} {rest : List Oper} {o : Oper} {a : Act} {Q : Exit → Act → World → Prop} (hg : o.guard = none) (l c : Operand) (t : TypeId) (hop : o.op = Op.makeSlice t l c) (base : Nat) (ht : Try.prog.underlying t = some (.slice 3))
    (n : Nat) (hl : a.eval l = .int .i64 1) (hc : a.eval c = .int .i64 n) (hn : 1 ≤ n) (hn2 : n ≤ 100000) (hb : base ≤ w.heap.size)
    (hK : ∀ w', Own w' base (.slice (some ⟨w.heap.size, 0, none⟩) 1 n) 1 [0] → w.grownBy w' none → wpList Try.prog ops Q rest (a.put o.dst (.slice (some ⟨w.heap.size, 0, none⟩) 1 n)) w') : wpList Try.prog ops Q (o :: rest) a w := by
  obtain ⟨i0, hi0, hz0, hz1, hz2⟩ := info_parts info_int
  refine wpList_plain hg fun K hK' => ?_
  have hr := run_make (P := Try.prog) w t 3 i0 _ ht hi0 hz0 .i64 .i64 1 n (by omega) (by omega) (by rw [hz2]; omega) (by omega)
  rw [hz1, Int.toNat_natCast, Nat.mul_one] at hr
  unfold Oper.wp
  simp [execOp, hop, hl, hc, hr, Result.andThen]
  refine hK' _ _ (hK _ ⟨rfl, .inr ⟨w.heap.size, n, _, rfl, hb, heap_alloc_new w _, hn, by unfold maxLen; omega, by rw [size_madeCells, Nat.mul_one], ?_⟩⟩ (World.grownBy_alloc w _ none))
  obtain ⟨m, rfl⟩ : ∃ m, n = m + 1 := ⟨n - 1, by omega⟩
  have e : (madeCells (Value.int .i64 0).cells (m + 1)).toList = (List.replicate (m + 1) 0).map (Value.int .i64) := by simp [madeCells, Value.cells, Nat.mod_one, List.eq_replicate_iff]
  rw [e]
  rfl
theorem tab_snoc' (h : Nat → Int) (k : Nat) : tab h 0 k ++ [h k] = tab h 0 (k + 1) := by
  refine list_ext (by simp [tab_length]) (fun q hq => ?_)
  simp [tab_length] at hq
  rw [nth_append, tab_length, tab_nth _ _ _ _ hq, Nat.zero_add]
  by_cases hqj : q < k
  · rw [if_pos hqj, tab_nth _ _ _ _ hqj, Nat.zero_add]
  · rw [if_neg hqj, show q = k by omega, Nat.sub_self]; rfl
/-- the blocks of a call of candidate -/
structure CE (w wx : World) (A : Option Addr) (n c : Nat) (f : Cv) : Prop where
  fb : Blk wx w.heap.size 46 #[.slice A n c, .int .i64 f.per, .int .i64 f.inc]
  rb : Blk wx (w.heap.size + 1) 46 #[.slice none 0 0, .int .i64 0, .int .i64 0]
  ib : Ints wx w.heap.size A n f.vals
  bw : Below w.heap.size w wx
section
variable {w wx wy : World} {A : Option Addr} {n c : Nat} {f : Cv}
theorem CE.new (hA : Ints w w.heap.size A n f.vals) : CE w ((w.alloc (.cells #[.slice A n c, .int .i64 f.per, .int .i64 f.inc] 46)).alloc (.cells #[.slice none 0 0, .int .i64 0, .int .i64 0] 46)) A n c f :=
  ⟨(Blk.new w _ _).alloc _, by simpa using Blk.new (w.alloc (.cells #[.slice A n c, .int .i64 f.per, .int .i64 f.inc] 46)) 46 #[.slice none 0 0, .int .i64 0, .int .i64 0], (hA.alloc (Nat.le_refl _) _).alloc (by simp) _, bthen (balloc _ _) (balloc _ _)⟩
theorem CE.ja (h : CE w wx A n c f) : Ints wx wx.heap.size A n f.vals := h.ib.more h.bw.size
theorem CE.upto (h : CE w wx A n c f) {B : Nat} (hb : Below B wx wy) (hB : w.heap.size + 2 ≤ B) : CE w wy A n c f :=
  ⟨h.fb.below hb (by omega), h.rb.below hb (by omega), h.ib.below (hb.mono (by omega)), h.bw.trans (hb.mono (by omega))⟩
theorem CE.below (h : CE w wx A n c f) (hb : Below wx.heap.size wx wy) : CE w wy A n c f := h.upto hb h.rb.lt
theorem CE.alloc (h : CE w wx A n c f) (o : Obj) : CE w (wx.alloc o) A n c f := h.below (balloc wx o)
theorem CE.drew (h : CE w wx A n c f) : CE w wx.drew A n c f := ⟨h.fb, h.rb, h.ib, Below.drew h.bw⟩
theorem CE.sto (h : CE w wx A n c f) {g : Nat} (s : Sto g wx wy) (hg : w.heap.size + 2 ≤ g) : CE w wy A n c f :=
  ⟨h.fb.sto s (by omega), h.rb.sto s (by omega), h.ib.keep (fun q hq => World.cell?_of_block (a := q) (s.block q.block (by omega))), bsto h.bw s (by omega)⟩
end
theorem cand1_any (V n c t : Nat) (A : Option Addr) (zs : List Int) (w : World) (hV : Blk w V 29 #[.slice A n c]) (hI : Ints w w.heap.size A n zs) (ht : t < n) (hn : n ≤ 100000) :
    Calls Try.prog 133 (#[.int .i64 t] ++ #[.pointer (some ⟨V, 0, none⟩)]) w fun e w' => e = .returned (.int .i64 (nth zs t)) ∧ Below w.heap.size w w' := by
  show Calls _ _ #[.int .i64 t, .pointer (some ⟨V, 0, none⟩)] _ _
  obtain ⟨b, off, hAe, hbl, hcell⟩ := hI.2 (by omega)
  subst hAe
  have q0 := hV.cell 0
  have s0 := hcell t ht
  simp at q0
  have hlq := hV.lt
  have hti : (t : Int) < n := by omega
  clear hV hI hcell
  go_enter Try.func133, Try.ntmps133
  go_wp2_with fail
  go_ret
  exact ⟨rfl, Below.refl _ _⟩
set_option maxHeartbeats 4000000 in
set_option maxRecDepth 100000 in
theorem cand_any (A : Option Addr) (n c : Nat) (f : Cv) (w : World) (hA : Ints w w.heap.size A n f.vals) (hf : f.Ok) :
    Calls Try.prog 90 #[.agg #[.slice A n c, .int .i64 f.per, .int .i64 f.inc]] w (RetSK (CandS (clo f.at)) w) := by
  have a1 := hf.n1; have a2 := hf.n2; have a3 := hf.p1; have a4 := hf.p2; have a5 := hf.pn; have a6 := hf.i1; have a7 := hf.i2
  have hln : f.vals.length = n := hA.1
  rw [hln] at a1 a2 a5
  have E := Lib.hid (CE.new (c := c) hA)
  obtain ⟨vf, hvf⟩ : ∃ z, z = f.at 1 := ⟨_, rfl⟩
  have HV1 := Lib.hid hvf; have HF := Lib.hid hf; have HLN := Lib.hid hln
  clear hA hvf hf hln
  go_enter Try.func90, Try.ntmps90
  go_wp2_with fail
  go_step3
  go_upto_region 1 with fail
  generalize hwe : (w.alloc (.cells #[.slice A n c, .int .i64 f.per, .int .i64 f.inc] 46)).alloc (.cells #[.slice none 0 0, .int .i64 0, .int .i64 0] 46) = we at *
  clear hwe
  obtain ⟨⟨f0, f1, f2⟩, _, hlf⟩ := E.out.fb.c3
  go_wp2_with fail
  refine (at_any A n c f.per f.inc 1 f.vals _ (by exact E.out.ja) (by omega) (by omega) (by omega) (by omega) (by omega) HF.out.nn (by omega) (by omega)).mono ?_
  rw [show (1 : Int).toNat = 1 from rfl, ← HV1.out]
  rintro e w1 ⟨rfl, hb⟩
  replace E := Lib.hid (E.out.below hb)
  clear hb
  clear f0 f1 f2 hlf
  by_cases hvi : vf = inf
  · have d1 : (vf == 4611686018427387904) = true := by unfold inf at hvi; simpa using hvi
    have F := Lib.hid (show CandS (clo f.at) ⟨[0, inf], 1, 0⟩ 0 from cand_wait fun t ht => (((nfa_at HF.out (by omega)).1 (by rw [← HV1.out]; exact hvi)).later HF.out ht).2)
    clear hvi
    go_wp2_with fail
    refine (wait0_any _).mono ?_
    rintro e w2 ⟨A5, n5, c5, hc5, rfl, hI5, hA5, hb⟩
    have hsz := E.out.rb.lt
    replace E := Lib.hid (E.out.below hb)
    have HI5 := Lib.hid hI5; have HA5 := Lib.hid hA5
    clear hI5 hA5 hb
    obtain ⟨⟨r0, r1, r2⟩, ⟨y0, y1, y2⟩, hlr⟩ := E.out.rb.c3
    go_wp2_with fail
    have rb := E.out.rb.store3 (.slice A5 n5 c5) (.int .i64 1) (.int .i64 0)
    try rw [Exit.noGoto_ret]
    refine bodyPost_ret (v := .tuple #[.agg #[.slice A5 n5 c5, .int .i64 1, .int .i64 0], .int .i64 0]) (by simp [results, Try.results90, go_sem, rb.cell]) rfl ?_
    exact ⟨⟨[0, inf], 1, 0⟩, 0, F.out, retK_store3' hc5 HA5.out (by omega) (by exact hsz) HI5.out E.out.bw⟩
  · have d1 : (vf == 4611686018427387904) = false := by unfold inf at hvi; simpa using hvi
    have f1' : f.at 1 ≤ 2147483648 := by
      have hF : f.Fin ∨ nth f.vals (f.vals.length - 1) = inf := HF.out.fin_or
      rw [HV1.out] at hvi
      rcases hF with hF | hF
      · have := hF.at_bd 1; omega
      · by_cases k : 1 < f.vals.length
        · have := (okv_iff _).1 (HF.out.v 1 k)
          rw [← Cv.at_lt k] at this
          have := this.resolve_left hvi
          omega
        · exact absurd (HF.out.at_inf hF (by omega)) hvi
    have HN0 := Lib.hid (HF.out.up0.nn)
    have HF1 := Lib.hid f1'
    have CNE := Lib.hid (show ∀ t, t < 640 → clo f.at t ≠ inf from fun t ht => clo_ne HN0.out HF1.out (by omega))
    have CBD := Lib.hid (show ∀ t, t ≤ 640 → 0 ≤ clo f.at t ∧ clo f.at t ≤ 1374389534720 from fun t ht => ⟨clo_nn HN0.out t, by have := clo_bd HN0.out HF1.out t (by omega); omega⟩)
    have CUP := Lib.hid (show ∀ t, t + 1 < 640 → clo f.at t ≤ clo f.at (t + 1) from fun t ht => clo_mono HF.out.up0 HF1.out t (by omega))
    have CPL := Lib.hid (show ∀ s u, s ≤ 640 → u ≤ 640 → pl (clo f.at s) (clo f.at u) = clo f.at s + clo f.at u from fun s u hs hu => clo_pl HN0.out HF1.out (by omega) (by omega))
    have HCI := Lib.hid (show ∀ t, 1 ≤ t → CloI f.at (clo f.at) t t (clo f.at t) from fun t ht => clo_I f.at ht)
    have HC0 := Lib.hid (clo_zero f.at)
    have CB4 := Lib.hid (show clo f.at 400 ≤ 1000000000000 from by have := clo_bd HN0.out HF1.out 400 (by omega); omega)
    clear hvi f1'
    obtain ⟨C, hC⟩ : ∃ C, C = clo f.at := ⟨_, rfl⟩
    rw [← hC] at CNE CBD CUP CPL HCI HC0 CB4
    have HCC := Lib.hid hC
    clear hC
    have hP1 := E.out.rb.lt
    go_upto_region 4 with (refine wpList_make_one rfl _ _ 29 rfl (w.heap.size + 2) Try.underlying29 640 rfl rfl (by omega) (by omega) (by omega) ?_; intro w5 own1 grow1)
    have hb5 : Below w1.heap.size w1 w5 := (Below.refl _ _).grown grow1 (by simp) (by simp)
    obtain ⟨V, hV⟩ : ∃ V, V = w5.heap.size := ⟨_, rfl⟩
    have hV2 : w.heap.size + 2 ≤ V := by have := hb5.size; omega
    have VB := Lib.hid (Blk.new w5 29 #[.slice (some ⟨w1.heap.size, 0, none⟩) 1 640])
    have OWN := Lib.hid (own1.alloc (.cells #[.slice (some ⟨w1.heap.size, 0, none⟩) 1 640] 29))
    replace E := Lib.hid ((E.out.below hb5).alloc (.cells #[.slice (some ⟨w1.heap.size, 0, none⟩) 1 640] 29))
    clear own1 grow1 hb5
    rw [← hV] at VB ⊢
    generalize hwe : w5.alloc (.cells #[.slice (some ⟨w1.heap.size, 0, none⟩) 1 640] 29) = w6 at *
    clear hwe hV
    generalize (some (Addr.mk w1.heap.size 0 none)) = Am0 at *
    go_wp2_with fail
    go_loopg [5, 6, 7] 639 (fun gg s5 s6 s7 wx => ∃ (t : Nat) (Am : Option Addr) (cm : Nat), t + gg = 640 ∧ 1 ≤ t ∧ s5 = .int .i64 t ∧ Blk wx V 29 #[.slice Am t cm] ∧ Own wx (w.heap.size + 2) (.slice Am t cm) t (tab C 0 t) ∧ CE w wx A n c f)
    case atStart => exact ⟨1, Am0, 640, rfl, by omega, rfl, VB.out, by
      have : tab C 0 1 = [0] := by
        refine list_ext rfl fun k hk => ?_
        have hk' : k < 1 := hk
        rw [tab_nth _ _ _ _ hk', Nat.zero_add, show k = 0 by omega, HC0.out]
        rfl
      rw [this]
      exact OWN.out, E.out⟩
    case round =>
      clear VB OWN E
      obtain ⟨t, Am, cm, htg, ht1, rfl, hVB, hOWN, hE⟩ := hrel
      have VB := Lib.hid hVB; have OWN := Lib.hid hOWN; have E := Lib.hid hE
      clear hVB hOWN hE
      obtain ⟨go, hgo⟩ : ∃ go : Nat, go = gk := ⟨_, rfl⟩
      subst hgo
      by_cases ht : t < 640
      · have hti : (t : Int) < 640 := by omega
        obtain ⟨⟨f0, f1, f2⟩, _, hlf⟩ := E.out.fb.c3
        obtain ⟨x, hx⟩ : ∃ x, x = f.at t := ⟨_, rfl⟩
        have HX := Lib.hid hx
        clear hx
        go_wp2_with fail
        refine (at_any A n c f.per f.inc (t : Int) f.vals _ (by exact E.out.ja) (by omega) (by omega) (by omega) (by omega) (by omega) HF.out.nn (by omega) (by omega)).mono ?_
        rw [Int.toNat_natCast, ← HX.out]
        rintro e w7 ⟨rfl, hb⟩
        have hvlt := VB.out.lt
        replace E := Lib.hid (E.out.below hb)
        replace VB := Lib.hid (VB.out.below hb VB.out.lt)
        replace OWN := Lib.hid (OWN.out.below hb (fun g hg => (OWN.out.blk_lt g hg).2))
        clear hb hvlt
        clear f0 f1 f2 hlf
        obtain ⟨H, hH⟩ : ∃ H : Nat, H = t / 2 := ⟨_, rfl⟩
        have e1 : (t : Int).tdiv 2 = (H : Int) := by rw [Int.tdiv_eq_ediv_of_nonneg (by omega)]; omega
        have e1' : (t : Int) / 2 = (H : Int) := by omega
        have hH9 : H ≤ 320 := by omega
        have HH := Lib.hid hH
        clear hH
        have hx0 := Lib.hid (HF.out.at_bd (n := t) (by omega))
        go_wp2_with fail
        go_loopg [6, 7] H (fun gg s6 s7 wx => ∃ (s : Nat) (v : Int), s + gg = H + 1 ∧ 1 ≤ s ∧ s6 = .int .i64 v ∧ s7 = .int .i64 s ∧ CloI f.at C t s v ∧ Blk wx V 29 #[.slice Am t cm] ∧ Own wx (w.heap.size + 2) (.slice Am t cm) t (tab C 0 t) ∧ CE w wx A n c f)
        case atStart => exact ⟨1, x, by omega, by omega, rfl, rfl, by rw [HX.out]; exact CloI.start, VB.out, OWN.out, E.out⟩
        case round =>
          clear VB OWN E
          obtain ⟨s, v, hsg, hs1, rfl, rfl, hI, hVB, hOWN, hE⟩ := hrel
          have VB := Lib.hid hVB; have OWN := Lib.hid hOWN; have E := Lib.hid hE; have HI := Lib.hid hI
          clear hVB hOWN hE hI
          by_cases hs : s ≤ H
          · have hsi : (s : Int) ≤ (H : Int) := by omega
            obtain ⟨z, hz⟩ : ∃ z : Nat, z = t - s := ⟨_, rfl⟩
            have hst : s < t := by have := HH.out; omega
            have hzt : z < t := by omega
            have ez1 : IntKind.i64.wrap ((t : Int) - (s : Int)) = (z : Int) := by rw [IntWalk.i64_in _ (by omega)]; omega
            have ez2 : (t : Int) - (s : Int) = (z : Int) := by omega
            have ez3 : IntKind.i64.wrap (z : Int) = (z : Int) := IntWalk.i64_in _ (by omega)
            have hsti : (s : Int) < (t : Int) := by omega
            have hzti : (z : Int) < (t : Int) := by omega
            have hz0 : 0 ≤ (z : Int) := by omega
            obtain ⟨A9, c9, hsl, hc9, hI9, hf9⟩ := OWN.out.ints
            injection hsl with q1 q2 q3
            subst q1 q3
            obtain ⟨b, off, hAe, hbl, hcell⟩ := hI9.2 (by omega)
            subst hAe
            have cs := hcell s hst; have cz := hcell z hzt
            rw [tab_nth _ _ _ _ hst, Nat.zero_add] at cs
            rw [tab_nth _ _ _ _ hzt, Nat.zero_add] at cz
            obtain ⟨x1, hx1⟩ : ∃ x1, x1 = C s := ⟨_, rfl⟩
            obtain ⟨x2, hx2⟩ : ∃ x2, x2 = C z := ⟨_, rfl⟩
            rw [← hx1] at cs
            rw [← hx2] at cz
            have b1 := CBD.out s (by omega); have b2 := CBD.out z (by omega)
            rw [← hx1] at b1
            rw [← hx2] at b2
            obtain ⟨y, hy⟩ : ∃ y, y = x1 + x2 := ⟨_, rfl⟩
            have ey1 : IntKind.i64.wrap (x1 + x2) = y := by rw [← hy]; exact IntWalk.i64_in _ (by omega)
            have ey2 : x1 + x2 = y := hy.symm
            have ey3 : IntKind.i64.wrap y = y := IntWalk.i64_in _ (by omega)
            obtain ⟨m', hm'⟩ : ∃ m', m' = min v y := ⟨_, rfl⟩
            have hmn : (if y < v then y else v) = m' := by rw [hm']; split <;> omega
            have NI := Lib.hid (show CloI f.at C t (s + 1) m' from by
              have := HI.out.step hs1
              rw [CPL.out s (t - s) (by omega) (by omega), ← hz, ← hx1, ← hx2, ← hy, ← hm'] at this
              exact this)
            clear hx1 hx2 hy hm' hz hcell hI9 hf9 hc9 q2
            have CS := Lib.hid cs; have CZ := Lib.hid cz
            obtain ⟨v0, hlv⟩ : _ ∧ _ := ⟨VB.out.cell 0, VB.out.lt⟩
            simp at v0
            go_upto_region 11 with fail
            replace E := Lib.hid (CE.drew E.out); replace VB := Lib.hid (Blk.drew VB.out); replace OWN := Lib.hid (show Own wr.drew (w.heap.size + 2) (.slice (some ⟨b, off, none⟩) t cm) t (tab C 0 t) from World.ownsRow.drew OWN.out)
            refine wp_region_held_drew (S := (fun w' => w'.cell? ⟨V, 0, none⟩ = some (.slice (some ⟨b, off, none⟩) t cm) ∧ w'.cell? ⟨b, off + s, none⟩ = some (.int .i64 x1) ∧ w'.cell? ⟨b, off + z, none⟩ = some (.int .i64 x2))) (by kernel_rfl) (by exact ⟨v0, cs, cz⟩) (fun hHeld => ?_)
            clear v0 hlv
            clear cs cz
            have cs : wr.drew.cell? ⟨b, off + s, none⟩ = some (.int .i64 x1) := CS.out
            have cz : wr.drew.cell? ⟨b, off + z, none⟩ = some (.int .i64 x2) := CZ.out
            have hbl : b < wr.drew.heap.size := hbl
            clear CS CZ
            generalize hwd : wr.drew = wd at *
            clear hwd
            obtain ⟨v0, hlv⟩ : _ ∧ _ := ⟨VB.out.cell 0, VB.out.lt⟩
            simp at v0
            refine wpAnyH_take (i := 0) (oi := _) (v := ?_) (by simp only [g8a, g8z]; rfl) (by kernel_rfl) (by kernel_rfl) (by kernel_rfl) (by exact fun _ _ _ h => h) (Or.inl ⟨by rfl, ?_⟩) (by assumption) ?_
            rotate_left 1
            · (intro w hSw; (try dsimp only at hSw); go_simp; try with_reducible rfl)
            all_goals ((try simp only [Act.put]); try simp only [g8b, g8c, g8d])
            refine wpAnyH_take (i := 1) (oi := _) (v := ?_) (by simp only [g8a, g8s, g8z]; rfl) (by kernel_rfl) (by kernel_rfl) (by kernel_rfl) (by exact fun _ _ _ h => h) (Or.inl ⟨by rfl, ?_⟩) (by assumption) ?_
            rotate_left 1
            · (intro w hSw; (try dsimp only at hSw); go_simp; try with_reducible rfl)
            all_goals ((try simp only [Act.put]); try simp only [g8b, g8c, g8d])
            refine wpAnyH_take (i := 2) (oi := _) (v := ?_) (by simp only [g8a, g8s, g8z]; rfl) (by kernel_rfl) (by kernel_rfl) (by kernel_rfl) (by exact fun _ _ _ h => h) (Or.inl ⟨by rfl, ?_⟩) (by assumption) ?_
            rotate_left 1
            · (intro w hSw; (try dsimp only at hSw); go_simp; try with_reducible rfl)
            all_goals ((try simp only [Act.put]); try simp only [g8b, g8c, g8d])
            refine wpAnyH_take (i := 3) (oi := _) (v := ?_) (by simp only [g8a, g8s, g8z]; rfl) (by kernel_rfl) (by kernel_rfl) (by kernel_rfl) (by exact fun _ _ _ h => h) (Or.inl ⟨by rfl, ?_⟩) (by assumption) ?_
            rotate_left 1
            · (intro w hSw; (try dsimp only at hSw); go_simp; try with_reducible rfl)
            all_goals ((try simp only [Act.put]); try simp only [g8b, g8c, g8d])
            refine wpAnyH_take (i := 4) (oi := _) (v := ?_) (by simp only [g8a, g8s, g8z]; rfl) (by kernel_rfl) (by kernel_rfl) (by kernel_rfl) (by exact fun _ _ _ h => h) (Or.inl ⟨by rfl, ?_⟩) (by assumption) ?_
            rotate_left 1
            · (intro w hSw; (try dsimp only at hSw); go_simp; try with_reducible rfl)
            all_goals ((try simp only [Act.put]); try simp only [g8b, g8c, g8d])
            refine wpAnyH_take (i := 5) (oi := _) (v := ?_) (by simp only [g8a, g8s, g8z]; rfl) (by kernel_rfl) (by kernel_rfl) (by kernel_rfl) (by exact fun _ _ _ h => h) (Or.inl ⟨by rfl, ?_⟩) (by assumption) ?_
            rotate_left 1
            · (intro w hSw; (try dsimp only at hSw); go_simp; try with_reducible rfl)
            all_goals ((try simp only [Act.put]); try simp only [g8b, g8c, g8d])
            refine wpAnyH_take (i := 6) (oi := _) (v := ?_) (by simp only [g8a, g8s, g8z]; rfl) (by kernel_rfl) (by kernel_rfl) (by kernel_rfl) (by exact fun _ _ _ h => h) (Or.inl ⟨by rfl, ?_⟩) (by assumption) ?_
            rotate_left 1
            · (intro w hSw; (try dsimp only at hSw); go_simp; try with_reducible rfl)
            all_goals ((try simp only [Act.put]); try simp only [g8b, g8c, g8d])
            refine wpAnyH_take (i := 7) (oi := _) (v := ?_) (by simp only [g8a, g8s, g8z]; rfl) (by kernel_rfl) (by kernel_rfl) (by kernel_rfl) (by exact fun _ _ _ h => h) (Or.inl ⟨by rfl, ?_⟩) (by assumption) ?_
            rotate_left 1
            · (intro w hSw; (try dsimp only at hSw); go_simp; try with_reducible rfl)
            all_goals ((try simp only [Act.put]); try simp only [g8b, g8c, g8d])
            refine wpAnyH_take (i := 8) (oi := _) (v := ?_) (by simp only [g8a, g8s, g8z]; rfl) (by kernel_rfl) (by kernel_rfl) (by kernel_rfl) (by exact fun _ _ _ h => h) (Or.inl ⟨by rfl, ?_⟩) (by assumption) ?_
            rotate_left 1
            · (intro w hSw; (try dsimp only at hSw); go_simp; try with_reducible rfl)
            all_goals ((try simp only [Act.put]); try simp only [g8b, g8c, g8d])
            refine wpAnyH_take (i := 9) (oi := _) (v := ?_) (by simp only [g8a, g8s, g8z]; rfl) (by kernel_rfl) (by kernel_rfl) (by kernel_rfl) (by exact fun _ _ _ h => h) (Or.inl ⟨by rfl, ?_⟩) (by assumption) ?_
            rotate_left 1
            · (intro w hSw; (try dsimp only at hSw); go_simp; try with_reducible rfl)
            all_goals ((try simp only [Act.put]); try simp only [g8b, g8c, g8d])
            refine wpAnyH_take (i := 10) (oi := _) (v := ?_) (by simp only [g8a, g8s, g8z]; rfl) (by kernel_rfl) (by kernel_rfl) (by kernel_rfl) (by exact fun _ _ _ h => h) (Or.inl ⟨by rfl, ?_⟩) (by assumption) ?_
            rotate_left 1
            · (intro w hSw; (try dsimp only at hSw); go_simp; try with_reducible rfl)
            all_goals ((try simp only [Act.put]); try simp only [g8b, g8c, g8d])
            refine wpAnyH_take (i := 11) (oi := _) (v := ?_) (by simp only [g8a, g8s, g8z]; rfl) (by kernel_rfl) (by kernel_rfl) (by kernel_rfl) (by exact fun _ _ _ h => h) (Or.inl ⟨by rfl, ?_⟩) (by assumption) ?_
            rotate_left 1
            · (intro w hSw; (try dsimp only at hSw); go_simp; try with_reducible rfl)
            all_goals ((try simp only [Act.put]); try simp only [g8b, g8c, g8d])
            clear ez1 ez2 ez3 ey1 ey2 ey3
            refine wpAnyH_ready (rs := [12]) (by kernel_rfl) (by simp) ?_
            refine (AllReadyH.cons (by simp only [g8a, g8s, g8z]; rfl) (fun K hK => ?_) AllReadyH.nil)
            rw [if_pos (by rfl)]
            go_simp
            refine hK.out _ _ (by exact ⟨v0, cs, cz⟩) (fun hHeld => ?_)
            clear hK K
            (try simp only [Act.put]); try simp only [g8b, g8c, g8d]
            refine wpAnyH_take (i := 13) (oi := _) (v := ?_) (by simp only [g8a, g8s, g8z]; rfl) (by kernel_rfl) (by kernel_rfl) (by kernel_rfl) (by exact fun _ _ _ h => h) (Or.inl ⟨by rfl, ?_⟩) (by assumption) ?_
            rotate_left 1
            · (intro w hSw; (try dsimp only at hSw); go_simp; try with_reducible rfl)
            all_goals ((try simp only [Act.put]); try simp only [g8b, g8c, g8d])
            refine wpAnyH_done (by kernel_rfl) ?_ _
            clear hHeld hmn
            clear v0 hlv
            go_wp2_with fail
            go_roundg (gk - 1)
            case measure => omega
            case rel => exact ⟨s + 1, m', by omega, by omega, rfl, by go_num, NI.out, VB.out, OWN.out, E.out⟩
          · have hsi : ¬ (s : Int) ≤ (H : Int) := by omega
            have hsH : s = t / 2 + 1 := by have := HH.out; omega
            have HZ := Lib.hid (show v = C t from (HI.out.half ht1 hsH).unique (HCI.out t ht1))
            clear hsH HI
            have hvn : 0 ≤ v ∧ v ≤ 1374389534720 := by rw [HZ.out]; exact CBD.out t (by omega)
            have hP := VB.out.lt
            obtain ⟨v0, hlv⟩ : _ ∧ _ := ⟨VB.out.cell 0, VB.out.lt⟩
            simp at v0
            go_wp2_with (at_builtin; refine wpList_app rfl _ _ 29 rfl Try.underlying29 (w.heap.size + 2) (.slice Am t cm) t (tab C 0 t) rfl (OWN.out.alloc (.cells ([v].map (Value.int .i64)).toArray 3)) _ (some ⟨wr.heap.size, 0, none⟩) 1 1 [v] rfl (ints_litC wr [v]) (by omega) (by simp; omega) ?_; intro v2 w2 own2 grow2 at2; have hb2 : Below (w.heap.size + 2) wr w2 := ((balloc wr (.cells ([v].map (Value.int .i64)).toArray 3)).mono (by omega)).trans (Below.grown (Below.refl _ _) grow2 (by simp; omega) (fun g hg => (OWN.out.blk_lt g hg).1)); have vb2 := (VB.out.alloc (.cells ([v].map (Value.int .i64)).toArray 3)).grown grow2 (fun e => OWN.out.ne_blk VB.out (by decide) e.symm); obtain ⟨A9, c9, rfl, hc9, hI9, hf9⟩ := own2.ints; rw [HZ.out, tab_snoc'] at own2; have OWN := Lib.hid own2; replace E := Lib.hid (E.out.upto hb2 (by omega)); replace VB := Lib.hid vb2; clear own2 grow2 at2 hb2 hI9 hf9 hc9 vb2; clear v0 hlv; (obtain ⟨v0, hlv⟩ : _ ∧ _ := ⟨VB.out.cell 0, VB.out.lt⟩); simp at v0; have z0 := VB.out.frozen 0)
            go_roundg (go - 1)
            case measure => omega
            case rel => exact ⟨t + 1, A9, c9, by omega, by omega, by go_num, VB.out.set_ 0 _, OWN.out.far (p := ⟨V, 0, none⟩) (fun e => OWN.out.ne_blk VB.out (by decide) e) _, E.out.sto ((Sto.refl V _).set 0 _) hV2⟩
      · have ht6 : t = 640 := by omega
        subst ht6
        clear ht htg ht1
        go_wp2_with fail
        go_step3
        go_wp2_with fail
        go_loopg [8, 9, 10, 11] 120 (fun gg s8 s9 s10 s11 wx => ∃ p : Nat, p + gg = 121 ∧ 1 ≤ p ∧ s8 = .int .i64 p ∧ Hid (∀ q, 1 ≤ q → q < p → ¬ PerW C (400 - q) q (C 400 - C (400 - q))) ∧ Blk wx V 29 #[.slice Am 640 cm] ∧ Own wx (w.heap.size + 2) (.slice Am 640 cm) 640 (tab C 0 640) ∧ CE w wx A n c f)
        case atStart => exact ⟨1, rfl, by omega, rfl, Lib.hid (fun q h1 h2 => by omega), VB.out, OWN.out, E.out⟩
        case round =>
          clear VB OWN E
          obtain ⟨p, hpg, hp1, rfl, hno, hVB, hOWN, hE⟩ := hrel
          have VB := Lib.hid hVB; have OWN := Lib.hid hOWN; have E := Lib.hid hE
          clear hVB hOWN hE
          obtain ⟨go, hgo⟩ : ∃ go : Nat, go = gk := ⟨_, rfl⟩
          subst hgo
          by_cases hp : p ≤ 120
          · have hpi : (p : Int) ≤ 120 := by omega
            obtain ⟨fr, hfr⟩ : ∃ fr : Nat, fr = 400 - p := ⟨_, rfl⟩
            have ef1 : IntKind.i64.wrap (400 - (p : Int)) = (fr : Int) := by rw [IntWalk.i64_in _ (by omega)]; omega
            have ef2 : 400 - (p : Int) = (fr : Int) := by omega
            have hfr9 : 280 ≤ fr ∧ fr < 400 := by omega
            have hfri : (fr : Int) < 640 := by omega
            have hfr0 : 0 ≤ (fr : Int) := by omega
            have HFR := Lib.hid hfr
            clear hfr
            obtain ⟨A9, c9, hsl, hc9, hI9, hf9⟩ := OWN.out.ints
            injection hsl with q1 q2 q3
            subst q1 q3
            obtain ⟨b, off, hAe, hbl, hcell⟩ := hI9.2 (by omega)
            subst hAe
            have cs := hcell 400 (by omega); have cz := hcell fr (by omega)
            rw [tab_nth _ _ _ _ (show 400 < 640 by omega), Nat.zero_add] at cs
            rw [tab_nth _ _ _ _ (show fr < 640 by omega), Nat.zero_add] at cz
            obtain ⟨x1, hx1⟩ : ∃ x1, x1 = C 400 := ⟨_, rfl⟩
            obtain ⟨x2, hx2⟩ : ∃ x2, x2 = C fr := ⟨_, rfl⟩
            rw [← hx1] at cs
            rw [← hx2] at cz
            have b1 := CBD.out 400 (by omega); have b2 := CBD.out fr (by omega)
            have mono : ∀ u v, u ≤ v → v < 640 → C u ≤ C v := fun u v huv hv => by
              induction v with
              | zero => rw [show u = 0 by omega]; exact Int.le_refl _
              | succ v ih =>
                by_cases e : u = v + 1
                · rw [e]; exact Int.le_refl _
                · exact Int.le_trans (ih (by omega) (by omega)) (CUP.out v hv)
            have hle := mono fr 400 (by omega) (by omega)
            rw [← hx1] at b1 hle
            rw [← hx2] at b2 hle
            obtain ⟨i, hi⟩ : ∃ i, i = x1 - x2 := ⟨_, rfl⟩
            have hi0 : 0 ≤ i := by omega
            have h4 := CB4.out
            rw [← hx1] at h4
            have hi9 : i ≤ 1099511627776 := by omega
            clear h4
            have ei1 : IntKind.i64.wrap (x1 - x2) = i := by rw [← hi]; exact IntWalk.i64_in _ (by omega)
            have ei2 : x1 - x2 = i := hi.symm
            have ei3 : IntKind.i64.wrap i = i := IntWalk.i64_in _ (by omega)
            have HI := Lib.hid (show i = C 400 - C (400 - p) from by rw [hi, hx1, hx2, HFR.out])
            clear hx1 hx2 hi hle mono hI9 hf9 hc9 q2
            have CS := Lib.hid cs; have CZ := Lib.hid cz; have HCE := Lib.hid hcell
            clear hcell
            obtain ⟨v0, hlv⟩ : _ ∧ _ := ⟨VB.out.cell 0, VB.out.lt⟩
            simp at v0
            go_upto_region 17 with fail
            replace E := Lib.hid (CE.drew E.out); replace VB := Lib.hid (Blk.drew VB.out); replace OWN := Lib.hid (show Own wr.drew (w.heap.size + 2) (.slice (some ⟨b, off, none⟩) 640 cm) 640 (tab C 0 640) from World.ownsRow.drew OWN.out)
            refine wp_region_held_drew (S := (fun w' => w'.cell? ⟨V, 0, none⟩ = some (.slice (some ⟨b, off, none⟩) 640 cm) ∧ w'.cell? ⟨b, off + 400, none⟩ = some (.int .i64 x1) ∧ w'.cell? ⟨b, off + fr, none⟩ = some (.int .i64 x2))) (by kernel_rfl) (by exact ⟨v0, cs, cz⟩) (fun hHeld => ?_)
            clear v0 hlv
            clear cs cz
            have cs : wr.drew.cell? ⟨b, off + 400, none⟩ = some (.int .i64 x1) := CS.out
            have cz : wr.drew.cell? ⟨b, off + fr, none⟩ = some (.int .i64 x2) := CZ.out
            replace HCE : Hid (∀ j, j < 640 → wr.drew.cell? ⟨b, off + j, none⟩ = some (.int .i64 (nth (tab C 0 640) j))) := HCE
            have hbl : b < wr.drew.heap.size := hbl
            clear CS CZ
            generalize hwd : wr.drew = wd at *
            clear hwd
            obtain ⟨v0, hlv⟩ : _ ∧ _ := ⟨VB.out.cell 0, VB.out.lt⟩
            simp at v0
            refine wpAnyH_take (i := 0) (oi := _) (v := ?_) (by simp only [g8a, g8z]; rfl) (by kernel_rfl) (by kernel_rfl) (by kernel_rfl) (by exact fun _ _ _ h => h) (Or.inl ⟨by rfl, ?_⟩) (by assumption) ?_
            rotate_left 1
            · (intro w hSw; (try dsimp only at hSw); go_simp; try with_reducible rfl)
            all_goals ((try simp only [Act.put]); try simp only [g8b, g8c, g8d])
            refine wpAnyH_take (i := 1) (oi := _) (v := ?_) (by simp only [g8a, g8s, g8z]; rfl) (by kernel_rfl) (by kernel_rfl) (by kernel_rfl) (by exact fun _ _ _ h => h) (Or.inl ⟨by rfl, ?_⟩) (by assumption) ?_
            rotate_left 1
            · (intro w hSw; (try dsimp only at hSw); go_simp; try with_reducible rfl)
            all_goals ((try simp only [Act.put]); try simp only [g8b, g8c, g8d])
            refine wpAnyH_take (i := 2) (oi := _) (v := ?_) (by simp only [g8a, g8s, g8z]; rfl) (by kernel_rfl) (by kernel_rfl) (by kernel_rfl) (by exact fun _ _ _ h => h) (Or.inl ⟨by rfl, ?_⟩) (by assumption) ?_
            rotate_left 1
            · (intro w hSw; (try dsimp only at hSw); go_simp; try with_reducible rfl)
            all_goals ((try simp only [Act.put]); try simp only [g8b, g8c, g8d])
            refine wpAnyH_take (i := 3) (oi := _) (v := ?_) (by simp only [g8a, g8s, g8z]; rfl) (by kernel_rfl) (by kernel_rfl) (by kernel_rfl) (by exact fun _ _ _ h => h) (Or.inl ⟨by rfl, ?_⟩) (by assumption) ?_
            rotate_left 1
            · (intro w hSw; (try dsimp only at hSw); go_simp; try with_reducible rfl)
            all_goals ((try simp only [Act.put]); try simp only [g8b, g8c, g8d])
            refine wpAnyH_take (i := 4) (oi := _) (v := ?_) (by simp only [g8a, g8s, g8z]; rfl) (by kernel_rfl) (by kernel_rfl) (by kernel_rfl) (by exact fun _ _ _ h => h) (Or.inl ⟨by rfl, ?_⟩) (by assumption) ?_
            rotate_left 1
            · (intro w hSw; (try dsimp only at hSw); go_simp; try with_reducible rfl)
            all_goals ((try simp only [Act.put]); try simp only [g8b, g8c, g8d])
            refine wpAnyH_take (i := 5) (oi := _) (v := ?_) (by simp only [g8a, g8s, g8z]; rfl) (by kernel_rfl) (by kernel_rfl) (by kernel_rfl) (by exact fun _ _ _ h => h) (Or.inl ⟨by rfl, ?_⟩) (by assumption) ?_
            rotate_left 1
            · (intro w hSw; (try dsimp only at hSw); go_simp; try with_reducible rfl)
            all_goals ((try simp only [Act.put]); try simp only [g8b, g8c, g8d])
            refine wpAnyH_take (i := 6) (oi := _) (v := ?_) (by simp only [g8a, g8s, g8z]; rfl) (by kernel_rfl) (by kernel_rfl) (by kernel_rfl) (by exact fun _ _ _ h => h) (Or.inl ⟨by rfl, ?_⟩) (by assumption) ?_
            rotate_left 1
            · (intro w hSw; (try dsimp only at hSw); go_simp; try with_reducible rfl)
            all_goals ((try simp only [Act.put]); try simp only [g8b, g8c, g8d])
            refine wpAnyH_take (i := 7) (oi := _) (v := ?_) (by simp only [g8a, g8s, g8z]; rfl) (by kernel_rfl) (by kernel_rfl) (by kernel_rfl) (by exact fun _ _ _ h => h) (Or.inl ⟨by rfl, ?_⟩) (by assumption) ?_
            rotate_left 1
            · (intro w hSw; (try dsimp only at hSw); go_simp; try with_reducible rfl)
            all_goals ((try simp only [Act.put]); try simp only [g8b, g8c, g8d])
            refine wpAnyH_take (i := 8) (oi := _) (v := ?_) (by simp only [g8a, g8s, g8z]; rfl) (by kernel_rfl) (by kernel_rfl) (by kernel_rfl) (by exact fun _ _ _ h => h) (Or.inl ⟨by rfl, ?_⟩) (by assumption) ?_
            rotate_left 1
            · (intro w hSw; (try dsimp only at hSw); go_simp; try with_reducible rfl)
            all_goals ((try simp only [Act.put]); try simp only [g8b, g8c, g8d])
            refine wpAnyH_done (by kernel_rfl) ?_ _
            clear hHeld ei1 ei2 ei3 ef1 ef2 cs cz
            clear v0 hlv
            clear b1 b2
            go_wp2_with fail
            clear HCE hbl
            go_loopg [11] 240 (fun gg s11 wx => ∃ t : Nat, t + gg = fr + 240 ∧ fr ≤ t ∧ s11 = .int .i64 t ∧ Hid (∀ u, fr ≤ u → u < t → C (u + p) = C u + i) ∧ Blk wx V 29 #[.slice (some ⟨b, off, none⟩) 640 cm] ∧ Own wx (w.heap.size + 2) (.slice (some ⟨b, off, none⟩) 640 cm) 640 (tab C 0 640) ∧ CE w wx A n c f)
            case atStart => exact ⟨fr, rfl, Nat.le_refl _, rfl, Lib.hid (fun u h1 h2 => by omega), VB.out, OWN.out, E.out⟩
            case round =>
              clear VB OWN E
              obtain ⟨t, htg, htf, rfl, hgood, hVB, hOWN, hE⟩ := hrel
              have VB := Lib.hid hVB; have OWN := Lib.hid hOWN; have E := Lib.hid hE
              clear hVB hOWN hE
              obtain ⟨y, hy⟩ : ∃ y : Nat, y = t + p := ⟨_, rfl⟩
              have hy9 : y ≤ 640 := by have := HFR.out; omega
              have ey1 : IntKind.i64.wrap ((t : Int) + (p : Int)) = (y : Int) := by rw [IntWalk.i64_in _ (by omega)]; omega
              have ey2 : (t : Int) + (p : Int) = (y : Int) := by omega
              have ey3 : IntKind.i64.wrap (y : Int) = (y : Int) := IntWalk.i64_in _ (by omega)
              by_cases hyt : y < 640
              · have hyi : (y : Int) < 640 := by omega
                have hti : (t : Int) < 640 := by omega
                have hy0 : 0 ≤ (y : Int) := by omega
                have ht0 : 0 ≤ (t : Int) := by omega
                obtain ⟨A9, c9, hsl, hc9, hI9, hf9⟩ := OWN.out.ints
                obtain ⟨b', off', hAe, hbl, hcell⟩ := hI9.2 (by omega)
                injection hsl with q1 q2 q3
                rw [← q1] at hAe
                injection hAe with hAe
                injection hAe with q4 q5
                subst q4 q5
                have cs := hcell y hyt; have cz := hcell t (by omega)
                rw [tab_nth _ _ _ _ hyt, Nat.zero_add] at cs
                rw [tab_nth _ _ _ _ (show t < 640 by omega), Nat.zero_add] at cz
                obtain ⟨x1, hx1⟩ : ∃ x1, x1 = C y := ⟨_, rfl⟩
                obtain ⟨x2, hx2⟩ : ∃ x2, x2 = C t := ⟨_, rfl⟩
                rw [← hx1] at cs
                rw [← hx2] at cz
                have b1 := CBD.out y (by omega); have b2 := CBD.out t (by omega)
                rw [← hx1] at b1
                rw [← hx2] at b2
                obtain ⟨x3, hx3⟩ : ∃ x3, x3 = x2 + i := ⟨_, rfl⟩
                have ei1 : IntKind.i64.wrap (x2 + i) = x3 := by rw [← hx3]; exact IntWalk.i64_in _ (by omega)
                have ei2 : x2 + i = x3 := hx3.symm
                have ei3 : IntKind.i64.wrap x3 = x3 := IntWalk.i64_in _ (by omega)
                have FT := Lib.hid (show x1 = x3 ↔ C (t + p) = C t + i from by rw [hx1, hx3, hx2, hy])
                have hgp : t < fr + 240 := by have := HFR.out; omega
                have HTY := Lib.hid (show t + p < 640 from by omega)
                clear hx1 hx2 hx3 hcell hI9 hf9 hc9 q1 q2 q3 hy
                have CS := Lib.hid cs; have CZ := Lib.hid cz
                obtain ⟨v0, hlv⟩ : _ ∧ _ := ⟨VB.out.cell 0, VB.out.lt⟩
                simp at v0
                go_upto_region 21 with fail
                replace E := Lib.hid (CE.drew E.out); replace VB := Lib.hid (Blk.drew VB.out); replace OWN := Lib.hid (show Own wr.drew (w.heap.size + 2) (.slice (some ⟨b, off, none⟩) 640 cm) 640 (tab C 0 640) from World.ownsRow.drew OWN.out)
                refine wp_region_held_drew (S := (fun w' => w'.cell? ⟨V, 0, none⟩ = some (.slice (some ⟨b, off, none⟩) 640 cm) ∧ w'.cell? ⟨b, off + y, none⟩ = some (.int .i64 x1) ∧ w'.cell? ⟨b, off + t, none⟩ = some (.int .i64 x2))) (by kernel_rfl) (by exact ⟨v0, cs, cz⟩) (fun hHeld => ?_)
                clear v0 hlv
                clear cs cz
                have cs : wr.drew.cell? ⟨b, off + y, none⟩ = some (.int .i64 x1) := CS.out
                have cz : wr.drew.cell? ⟨b, off + t, none⟩ = some (.int .i64 x2) := CZ.out
                have hbl : b < wr.drew.heap.size := hbl
                clear CS CZ
                generalize hwd : wr.drew = wd at *
                clear hwd
                obtain ⟨v0, hlv⟩ : _ ∧ _ := ⟨VB.out.cell 0, VB.out.lt⟩
                simp at v0
                by_cases hxx : x1 = x3
                · have d3 : (x1 != x3) = false := by simpa using hxx
                  have GD := Lib.hid (FT.out.1 hxx)
                  clear hxx
                  refine wpAnyH_take (i := 0) (oi := _) (v := ?_) (by simp only [g8a, g8z]; rfl) (by kernel_rfl) (by kernel_rfl) (by kernel_rfl) (by exact fun _ _ _ h => h) (Or.inl ⟨by rfl, ?_⟩) (by assumption) ?_
                  rotate_left 1
                  · (intro w hSw; (try dsimp only at hSw); go_simp; try with_reducible rfl)
                  all_goals ((try simp only [Act.put]); try simp only [g8b, g8c, g8d])
                  refine wpAnyH_take (i := 1) (oi := _) (v := ?_) (by simp only [g8a, g8s, g8z]; rfl) (by kernel_rfl) (by kernel_rfl) (by kernel_rfl) (by exact fun _ _ _ h => h) (Or.inl ⟨by rfl, ?_⟩) (by assumption) ?_
                  rotate_left 1
                  · (intro w hSw; (try dsimp only at hSw); go_simp; try with_reducible rfl)
                  all_goals ((try simp only [Act.put]); try simp only [g8b, g8c, g8d])
                  refine wpAnyH_take (i := 2) (oi := _) (v := ?_) (by simp only [g8a, g8s, g8z]; rfl) (by kernel_rfl) (by kernel_rfl) (by kernel_rfl) (by exact fun _ _ _ h => h) (Or.inl ⟨by rfl, ?_⟩) (by assumption) ?_
                  rotate_left 1
                  · (intro w hSw; (try dsimp only at hSw); go_simp; try with_reducible rfl)
                  all_goals ((try simp only [Act.put]); try simp only [g8b, g8c, g8d])
                  refine wpAnyH_take (i := 3) (oi := _) (v := ?_) (by simp only [g8a, g8s, g8z]; rfl) (by kernel_rfl) (by kernel_rfl) (by kernel_rfl) (by exact fun _ _ _ h => h) (Or.inl ⟨by rfl, ?_⟩) (by assumption) ?_
                  rotate_left 1
                  · (intro w hSw; (try dsimp only at hSw); go_simp; try with_reducible rfl)
                  all_goals ((try simp only [Act.put]); try simp only [g8b, g8c, g8d])
                  refine wpAnyH_take (i := 4) (oi := _) (v := ?_) (by simp only [g8a, g8s, g8z]; rfl) (by kernel_rfl) (by kernel_rfl) (by kernel_rfl) (by exact fun _ _ _ h => h) (Or.inl ⟨by rfl, ?_⟩) (by assumption) ?_
                  rotate_left 1
                  · (intro w hSw; (try dsimp only at hSw); go_simp; try with_reducible rfl)
                  all_goals ((try simp only [Act.put]); try simp only [g8b, g8c, g8d])
                  refine wpAnyH_take (i := 5) (oi := _) (v := ?_) (by simp only [g8a, g8s, g8z]; rfl) (by kernel_rfl) (by kernel_rfl) (by kernel_rfl) (by exact fun _ _ _ h => h) (Or.inl ⟨by rfl, ?_⟩) (by assumption) ?_
                  rotate_left 1
                  · (intro w hSw; (try dsimp only at hSw); go_simp; try with_reducible rfl)
                  all_goals ((try simp only [Act.put]); try simp only [g8b, g8c, g8d])
                  refine wpAnyH_take (i := 6) (oi := _) (v := ?_) (by simp only [g8a, g8s, g8z]; rfl) (by kernel_rfl) (by kernel_rfl) (by kernel_rfl) (by exact fun _ _ _ h => h) (Or.inl ⟨by rfl, ?_⟩) (by assumption) ?_
                  rotate_left 1
                  · (intro w hSw; (try dsimp only at hSw); go_simp; try with_reducible rfl)
                  all_goals ((try simp only [Act.put]); try simp only [g8b, g8c, g8d])
                  refine wpAnyH_take (i := 7) (oi := _) (v := ?_) (by simp only [g8a, g8s, g8z]; rfl) (by kernel_rfl) (by kernel_rfl) (by kernel_rfl) (by exact fun _ _ _ h => h) (Or.inl ⟨by rfl, ?_⟩) (by assumption) ?_
                  rotate_left 1
                  · (intro w hSw; (try dsimp only at hSw); go_simp; try with_reducible rfl)
                  all_goals ((try simp only [Act.put]); try simp only [g8b, g8c, g8d])
                  refine wpAnyH_take (i := 8) (oi := _) (v := ?_) (by simp only [g8a, g8s, g8z]; rfl) (by kernel_rfl) (by kernel_rfl) (by kernel_rfl) (by exact fun _ _ _ h => h) (Or.inl ⟨by rfl, ?_⟩) (by assumption) ?_
                  rotate_left 1
                  · (intro w hSw; (try dsimp only at hSw); go_simp; try with_reducible rfl)
                  all_goals ((try simp only [Act.put]); try simp only [g8b, g8c, g8d])
                  refine wpAnyH_take (i := 9) (oi := _) (v := ?_) (by simp only [g8a, g8s, g8z]; rfl) (by kernel_rfl) (by kernel_rfl) (by kernel_rfl) (by exact fun _ _ _ h => h) (Or.inl ⟨by rfl, ?_⟩) (by assumption) ?_
                  rotate_left 1
                  · (intro w hSw; (try dsimp only at hSw); go_simp; try with_reducible rfl)
                  all_goals ((try simp only [Act.put]); try simp only [g8b, g8c, g8d])
                  refine wpAnyH_take (i := 10) (oi := _) (v := ?_) (by simp only [g8a, g8s, g8z]; rfl) (by kernel_rfl) (by kernel_rfl) (by kernel_rfl) (by exact fun _ _ _ h => h) (Or.inl ⟨by rfl, ?_⟩) (by assumption) ?_
                  rotate_left 1
                  · (intro w hSw; (try dsimp only at hSw); go_simp; try with_reducible rfl)
                  all_goals ((try simp only [Act.put]); try simp only [g8b, g8c, g8d])
                  refine wpAnyH_take (i := 11) (oi := _) (v := ?_) (by simp only [g8a, g8s, g8z]; rfl) (by kernel_rfl) (by kernel_rfl) (by kernel_rfl) (by exact fun _ _ _ h => h) (Or.inl ⟨by rfl, ?_⟩) (by assumption) ?_
                  rotate_left 1
                  · (intro w hSw; (try dsimp only at hSw); go_simp; try with_reducible rfl)
                  all_goals ((try simp only [Act.put]); try simp only [g8b, g8c, g8d])
                  refine wpAnyH_take (i := 12) (oi := _) (v := ?_) (by simp only [g8a, g8s, g8z]; rfl) (by kernel_rfl) (by kernel_rfl) (by kernel_rfl) (by exact fun _ _ _ h => h) (Or.inl ⟨by rfl, ?_⟩) (by assumption) ?_
                  rotate_left 1
                  · (intro w hSw; (try dsimp only at hSw); go_simp; try with_reducible rfl)
                  all_goals ((try simp only [Act.put]); try simp only [g8b, g8c, g8d])
                  refine wpAnyH_done (by kernel_rfl) ?_ _
                  clear hHeld
                  clear v0 hlv
                  clear ey1 ey2 ey3 ei1 ei2 ei3
                  go_wp2_with fail
                  go_roundg (gk - 1)
                  case measure => omega
                  case rel => exact ⟨t + 1, by omega, by omega, by go_num, Lib.hid (fun u h1 h2 => by
                    by_cases e : u = t
                    · subst e; exact GD.out
                    · exact hgood.out u h1 (by omega)), VB.out, OWN.out, E.out⟩
                · have d3 : (x1 != x3) = true := by simpa using hxx
                  have BD := Lib.hid (show ¬ C (t + p) = C t + i from fun k => hxx (FT.out.2 k))
                  clear hxx
                  refine wpAnyH_take (i := 0) (oi := _) (v := ?_) (by simp only [g8a, g8z]; rfl) (by kernel_rfl) (by kernel_rfl) (by kernel_rfl) (by exact fun _ _ _ h => h) (Or.inl ⟨by rfl, ?_⟩) (by assumption) ?_
                  rotate_left 1
                  · (intro w hSw; (try dsimp only at hSw); go_simp; try with_reducible rfl)
                  all_goals ((try simp only [Act.put]); try simp only [g8b, g8c, g8d])
                  refine wpAnyH_take (i := 1) (oi := _) (v := ?_) (by simp only [g8a, g8s, g8z]; rfl) (by kernel_rfl) (by kernel_rfl) (by kernel_rfl) (by exact fun _ _ _ h => h) (Or.inl ⟨by rfl, ?_⟩) (by assumption) ?_
                  rotate_left 1
                  · (intro w hSw; (try dsimp only at hSw); go_simp; try with_reducible rfl)
                  all_goals ((try simp only [Act.put]); try simp only [g8b, g8c, g8d])
                  refine wpAnyH_take (i := 2) (oi := _) (v := ?_) (by simp only [g8a, g8s, g8z]; rfl) (by kernel_rfl) (by kernel_rfl) (by kernel_rfl) (by exact fun _ _ _ h => h) (Or.inl ⟨by rfl, ?_⟩) (by assumption) ?_
                  rotate_left 1
                  · (intro w hSw; (try dsimp only at hSw); go_simp; try with_reducible rfl)
                  all_goals ((try simp only [Act.put]); try simp only [g8b, g8c, g8d])
                  refine wpAnyH_take (i := 3) (oi := _) (v := ?_) (by simp only [g8a, g8s, g8z]; rfl) (by kernel_rfl) (by kernel_rfl) (by kernel_rfl) (by exact fun _ _ _ h => h) (Or.inl ⟨by rfl, ?_⟩) (by assumption) ?_
                  rotate_left 1
                  · (intro w hSw; (try dsimp only at hSw); go_simp; try with_reducible rfl)
                  all_goals ((try simp only [Act.put]); try simp only [g8b, g8c, g8d])
                  refine wpAnyH_take (i := 4) (oi := _) (v := ?_) (by simp only [g8a, g8s, g8z]; rfl) (by kernel_rfl) (by kernel_rfl) (by kernel_rfl) (by exact fun _ _ _ h => h) (Or.inl ⟨by rfl, ?_⟩) (by assumption) ?_
                  rotate_left 1
                  · (intro w hSw; (try dsimp only at hSw); go_simp; try with_reducible rfl)
                  all_goals ((try simp only [Act.put]); try simp only [g8b, g8c, g8d])
                  refine wpAnyH_take (i := 5) (oi := _) (v := ?_) (by simp only [g8a, g8s, g8z]; rfl) (by kernel_rfl) (by kernel_rfl) (by kernel_rfl) (by exact fun _ _ _ h => h) (Or.inl ⟨by rfl, ?_⟩) (by assumption) ?_
                  rotate_left 1
                  · (intro w hSw; (try dsimp only at hSw); go_simp; try with_reducible rfl)
                  all_goals ((try simp only [Act.put]); try simp only [g8b, g8c, g8d])
                  refine wpAnyH_take (i := 6) (oi := _) (v := ?_) (by simp only [g8a, g8s, g8z]; rfl) (by kernel_rfl) (by kernel_rfl) (by kernel_rfl) (by exact fun _ _ _ h => h) (Or.inl ⟨by rfl, ?_⟩) (by assumption) ?_
                  rotate_left 1
                  · (intro w hSw; (try dsimp only at hSw); go_simp; try with_reducible rfl)
                  all_goals ((try simp only [Act.put]); try simp only [g8b, g8c, g8d])
                  refine wpAnyH_take (i := 7) (oi := _) (v := ?_) (by simp only [g8a, g8s, g8z]; rfl) (by kernel_rfl) (by kernel_rfl) (by kernel_rfl) (by exact fun _ _ _ h => h) (Or.inl ⟨by rfl, ?_⟩) (by assumption) ?_
                  rotate_left 1
                  · (intro w hSw; (try dsimp only at hSw); go_simp; try with_reducible rfl)
                  all_goals ((try simp only [Act.put]); try simp only [g8b, g8c, g8d])
                  refine wpAnyH_take (i := 8) (oi := _) (v := ?_) (by simp only [g8a, g8s, g8z]; rfl) (by kernel_rfl) (by kernel_rfl) (by kernel_rfl) (by exact fun _ _ _ h => h) (Or.inl ⟨by rfl, ?_⟩) (by assumption) ?_
                  rotate_left 1
                  · (intro w hSw; (try dsimp only at hSw); go_simp; try with_reducible rfl)
                  all_goals ((try simp only [Act.put]); try simp only [g8b, g8c, g8d])
                  refine wpAnyH_take (i := 9) (oi := _) (v := ?_) (by simp only [g8a, g8s, g8z]; rfl) (by kernel_rfl) (by kernel_rfl) (by kernel_rfl) (by exact fun _ _ _ h => h) (Or.inl ⟨by rfl, ?_⟩) (by assumption) ?_
                  rotate_left 1
                  · (intro w hSw; (try dsimp only at hSw); go_simp; try with_reducible rfl)
                  all_goals ((try simp only [Act.put]); try simp only [g8b, g8c, g8d])
                  refine wpAnyH_take (i := 10) (oi := _) (v := ?_) (by simp only [g8a, g8s, g8z]; rfl) (by kernel_rfl) (by kernel_rfl) (by kernel_rfl) (by exact fun _ _ _ h => h) (Or.inl ⟨by rfl, ?_⟩) (by assumption) ?_
                  rotate_left 1
                  · (intro w hSw; (try dsimp only at hSw); go_simp; try with_reducible rfl)
                  all_goals ((try simp only [Act.put]); try simp only [g8b, g8c, g8d])
                  refine wpAnyH_take (i := 11) (oi := _) (v := ?_) (by simp only [g8a, g8s, g8z]; rfl) (by kernel_rfl) (by kernel_rfl) (by kernel_rfl) (by exact fun _ _ _ h => h) (Or.inl ⟨by rfl, ?_⟩) (by assumption) ?_
                  rotate_left 1
                  · (intro w hSw; (try dsimp only at hSw); go_simp; try with_reducible rfl)
                  all_goals ((try simp only [Act.put]); try simp only [g8b, g8c, g8d])
                  refine wpAnyH_take (i := 12) (oi := _) (v := ?_) (by simp only [g8a, g8s, g8z]; rfl) (by kernel_rfl) (by kernel_rfl) (by kernel_rfl) (by exact fun _ _ _ h => h) (Or.inl ⟨by rfl, ?_⟩) (by assumption) ?_
                  rotate_left 1
                  · (intro w hSw; (try dsimp only at hSw); go_simp; try with_reducible rfl)
                  all_goals ((try simp only [Act.put]); try simp only [g8b, g8c, g8d])
                  refine wpAnyH_done (by kernel_rfl) ?_ _
                  clear hHeld
                  clear v0 hlv
                  clear ey1 ey2 ey3 ei1 ei2 ei3
                  go_wp2_with fail
                  go_roundg (go - 1)
                  case measure => omega
                  case rel => exact ⟨p + 1, by omega, by omega, by go_num, Lib.hid (fun q h1 h2 => by
                    by_cases e : q = p
                    · subst e
                      intro k
                      rw [← HI.out] at k
                      exact BD.out (k t (by rw [← HFR.out]; exact htf) HTY.out)
                    · exact hno.out q h1 (by omega)), VB.out, OWN.out, E.out⟩
              · have hyi : ¬ (y : Int) < 640 := by omega
                have W := Lib.hid (show PerW C (400 - p) p i from fun u h1 h2 => hgood.out u (by rw [HFR.out]; exact h1) (by have := HFR.out; omega))
                clear hgood hy
                obtain ⟨X, hX⟩ : ∃ X : Cv, X = ⟨tab C 0 400, p, i⟩ := ⟨_, rfl⟩
                have XA := Lib.hid (show ∀ u, u < 400 → X.at u = C u from fun u hu => by
                  rw [hX, Cv.at_lt (by show u < (tab C 0 400).length; rw [tab_length]; exact hu)]
                  show nth (tab C 0 400) u = _
                  rw [tab_nth _ _ _ _ hu, Nat.zero_add])
                have HXX := Lib.hid hX
                clear hX
                obtain ⟨A9, c9, hsl, hc9, hI9, hf9⟩ := OWN.out.ints
                injection hsl with q1 q2 q3
                subst q1
                have IN := Lib.hid hI9
                clear hI9 hf9 hc9 q2 q3
                go_wp2_with fail
                refine (buildK_any 133 #[.pointer (some ⟨V, 0, none⟩)] (fr : Int) (p : Int) i X.at _ (by omega) (by omega) (by omega) (by omega) hi0 hi9 (fun k hk => by
                  have h4 : k < 400 := by have := HFR.out; omega
                  rw [XA.out k h4]
                  have := CBD.out k (by omega)
                  omega) (by exact Lib.hid (fun k w9 hk hb => by
                  have h4 : k < 400 := by have := HFR.out; omega
                  have := cand1_any V 640 cm k _ (tab C 0 640) w9 (VB.out.below hb VB.out.lt) (IN.out.ext hb) (by omega) (by omega)
                  rw [tab_nth _ _ _ _ (show k < 640 by omega), Nat.zero_add, ← XA.out k h4] at this
                  exact this)) (fun x w => by kernel_rfl)).mono ?_
                rintro e w7 ⟨r, er, hB, A5, n5, c5, hc5, rfl, hI5, hA5, hb⟩
                have F := Lib.hid (show CandS (clo f.at) r er from by
                  rw [← HCC.out]
                  rw [Int.toNat_natCast, Int.toNat_natCast, HFR.out, HXX.out] at hB
                  exact cand_yes hp1 hp CNE.out (by rw [HC0.out]; exact Int.le_refl _) CUP.out W.out hB)
                have hsz := E.out.rb.lt
                replace E := Lib.hid (E.out.below hb)
                have HI5 := Lib.hid hI5; have HA5 := Lib.hid hA5
                clear hI5 hA5 hb hB ey1 ey2 ey3
                obtain ⟨⟨r0, r1, r2⟩, ⟨y0, y1, y2⟩, hlr⟩ := E.out.rb.c3
                go_wp2_with fail
                have rb := E.out.rb.store3 (.slice A5 n5 c5) (.int .i64 r.per) (.int .i64 r.inc)
                try rw [Exit.noGoto_ret]
                refine bodyPost_ret (v := .tuple #[.agg #[.slice A5 n5 c5, .int .i64 r.per, .int .i64 r.inc], .int .i64 er]) (by simp [results, Try.results90, go_sem, rb.cell]) rfl ?_
                exact ⟨r, er, F.out, retK_store3' hc5 HA5.out (by omega) (by exact hsz) HI5.out E.out.bw⟩
          · have hpi : ¬ (p : Int) ≤ 120 := by omega
            have F := Lib.hid (show CandS (clo f.at) Cv.none 3 from by rw [← HCC.out]; exact cand_no CNE.out fun q h1 h2 => hno.out q h1 (by omega))
            clear hno
            obtain ⟨⟨r0, r1, r2⟩, ⟨y0, y1, y2⟩, hlr⟩ := E.out.rb.c3
            go_wp2_with fail
            have rb := E.out.rb.store3 (.slice none 0 0) (.int .i64 0) (.int .i64 0)
            try rw [Exit.noGoto_ret]
            refine bodyPost_ret (v := .tuple #[.agg #[.slice none 0 0, .int .i64 0, .int .i64 0], .int .i64 3]) (by simp [results, Try.results90, go_sem, rb.cell]) rfl ?_
            exact ⟨Cv.none, 3, F.out, none, 0, 0, Nat.le_refl _, rfl, ⟨rfl, fun h => by omega⟩, (fun b off s h => by cases h), bst3 E.out.bw (by omega) _ _ _⟩
end Go.Proofs.Ythdibkmjoiipgaa
