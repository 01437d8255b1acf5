/- The run of two packets of 15 bytes on a line of 10 bytes: they are done in the ticks 1 and 2 (plain). -/
import Derived.Test.YtaejfleahamapaaGreatTc9
namespace Go.Proofs.YtaejfleahamapaaGreat
open Go.RowKit
set_option linter.unusedVariables false
set_option linter.unusedSimpArgs false
def RunOf {σ : Type} (cap : Int) (cls : Nat) (ps : List PK) (ticks : Nat) (Ch : RS σ → Int → σ → Prop) (sg0 : σ) (done : List Int) (sent : List (List Int)) : Prop :=
  ∃ s : RS σ, MRun cap cls ps ticks Ch sg0 s ∧ s.on = false ∧ s.t = ticks ∧ s.done = done ∧ s.sent = sent
def RetRn (n cls ticks : Nat) (P : List Int → List (List Int) → Prop) (w : World) (e : Ending) (w' : World) : Prop :=
  ∃ (done : List Int) (sent : List (List Int)) (gD gS : Nat) (gcs : List Nat), P done sent ∧ e = .returned (.tuple #[.agg #[.slice (some ⟨gD, 0, none⟩) n n, .slice (some ⟨gS, 0, none⟩) cls cls], .int .i64 0]) ∧ IBlk w' gD done ∧ SN w' gS gcs (ticks + 1) sent ∧
    (w.heap.size ≤ gD ∧ w.heap.size ≤ gS ∧ ∀ (c g : Nat), gcs[c]? = some g → w.heap.size ≤ g) ∧ Below w.heap.size w w'
theorem below_kx {B : Nat} {w w1 w2 : World} {X : Nat → Prop} (hb : Below B w w1) (hk : KX X w1 w2) (hx : ∀ k, X k → B ≤ k) (hB : B ≤ w1.heap.size) : Below B w w2 :=
  ⟨hk.os.trans hb.os, hk.tape.trans hb.tape, hk.output.trans hb.output, Nat.le_trans hb.size hk.size, fun k hk2 => (hk.block k (by omega) (fun h => by have := hx k h; omega)).trans (hb.block k hk2)⟩
def PrC (cls : Nat) (ps : List PK) : RS Unit → Int → Unit → Prop := fun s r _ => PrCh cls ps s.t s.begun r
set_option maxHeartbeats 2000000 in
theorem prrun_any (cap : Int) (cls : Nat) (A : Option Addr) (n c : Nat) (ps : List PK) (ticks : Nat) (w : World) (hT : LsT w A n c ps) (hv : Valid ps) (hfl : ∀ x ∈ ps, x.fl < cls) (hc1 : 1 ≤ cap) (hc2 : cap ≤ 4000) (hl1 : 1 ≤ cls) (hl2 : cls ≤ 6) (ht : ticks ≤ 2000) :
    Calls Tryz.prog 179 #[.int .i64 cap, .int .i64 cls, .slice A n c, .int .i64 ticks] w (RetRn n cls ticks (RunOf cap cls ps ticks (PrC cls ps) ()) w) := by
  have hn : n ≤ 60 := by have := hv.len; have := hT.1; omega
  have CB := Lib.hid ((Blk.new w 3 #[.int .i64 cls]).alloc (.cells #[.slice none 0 0, .slice none 0 0] 62))
  have rb := Blk.new (w.alloc (.cells #[.int .i64 cls] 3)) 62 #[.slice none 0 0, .slice none 0 0]
  simp only [World.size_alloc] at rb
  have RB := Lib.hid rb
  have BW := Lib.hid (bthen (balloc w (.cells #[.int .i64 cls] 3)) (balloc _ (.cells #[.slice none 0 0, .slice none 0 0] 62)))
  have HS := Lib.hid (show w.heap.size + 2 = ((w.alloc (.cells #[.int .i64 cls] 3)).alloc (.cells #[.slice none 0 0, .slice none 0 0] 62)).heap.size by simp [World.size_alloc])
  have HT := Lib.hid (hT.below BW.out); have HV := Lib.hid hv; have HF := Lib.hid hfl
  have HLT := Lib.hid (show ∀ g o, 0 < n → A = some ⟨g, o, none⟩ → g < w.heap.size from fun g o h0 e => by
    obtain ⟨g', o', e', hr⟩ := hT.2.2 h0
    rw [e] at e'; cases e'
    exact hr.lt)
  clear hT hv hfl rb
  go_enter Tryz.func179, Tryz.ntmps179
  go_upto_region 1 with fail
  generalize hwe : (w.alloc (.cells #[.int .i64 cls] 3)).alloc (.cells #[.slice none 0 0, .slice none 0 0] 62) = w1 at *
  clear hwe
  go_wp2_with fail
  refine (validate_any A n c ps w1 HT.out HV.out).mono ?_
  rintro e w2 ⟨rfl, hb⟩
  replace HT := Lib.hid (HT.out.below hb); replace CB := Lib.hid (CB.out.below hb CB.out.lt); replace RB := Lib.hid (RB.out.below hb RB.out.lt)
  replace HS := Lib.hid (show w.heap.size + 2 ≤ w2.heap.size by have := hb.size; have := HS.out; omega)
  replace BW := Lib.hid (bthen BW.out hb)
  clear hb
  have cc := CB.out.cell 0
  simp at cc
  have hlc := CB.out.lt
  go_wp2_with fail
  refine (mcheck_any A n c cap cls ticks ps w2 HT.out hc1 hc2 (by omega) (by omega) (by omega) (by omega) HF.out hn).mono ?_
  rintro e w3 ⟨rfl, hb⟩
  replace HT := Lib.hid (HT.out.below hb); replace CB := Lib.hid (CB.out.below hb CB.out.lt); replace RB := Lib.hid (RB.out.below hb RB.out.lt)
  have HS4 := Lib.hid (show w.heap.size + 2 ≤ w3.heap.size by have := hb.size; have := HS.out; omega)
  replace BW := Lib.hid (bthen BW.out hb)
  clear hb cc hlc HS
  have cc := CB.out.cell 0
  simp at cc
  have hlc := CB.out.lt
  go_wp2_with fail
  refine (mrun_any cap cls A n c ps ticks 182 #[.pointer (some ⟨w.heap.size, 0, none⟩)] (PrC cls ps) () (fun _ w' => Blk w' w.heap.size 3 #[.int .i64 cls]) (fun k => k = w.heap.size) w3 HT.out HV.out HF.out hc1 hc2 hl1 hl2 ht
    (Lib.hid (fun _ w w' X h k hx => h.kx k (hx _ rfl))) (Lib.hid (fun k hk => by have := HS4.out; omega)) (Lib.hid (fun g o h0 e h => by have := HLT.out g o h0 e; omega)) CB
    (Lib.hid (fun gs bef Bg s w1 hm hon hnw hlf hse hhr hkx hgs => (prchoose_any gs n c bef cls w.heap.size s.t s.left A Bg ps s.begun w1 hse HV.out hhr (by have := HS4.out; omega) hl2).mono (fun e w2 h => by
      obtain ⟨r, hr, rfl, hse2, hk⟩ := h
      refine ⟨r, (), hr, ?_, rfl, hse2, hhr.kx hk (by have := HS4.out; omega), hk.mono (fun _ _ h => .inl h)⟩
      rcases hr with ⟨k, _, _, h, _⟩ | ⟨rfl, _⟩
      · rcases h.cases with h | ⟨i, h, hi⟩
        · exact .inl h
        · exact .inr ⟨i, h, by have := HT.out.1; omega⟩
      · exact .inl rfl))) (fun x w => by kernel_rfl)).mono ?_
  rintro e w4 ⟨s, gD, gS, gcs, hm, hon, htt, rfl, hd, hsn, h1, h2, h3, hhr, hkx⟩
  have RB4 := Lib.hid (RB.out.kx hkx (by omega))
  have BW4 := Lib.hid (below_kx BW.out hkx (fun k hk => by omega) (by have := HS4.out; omega))
  have HM := Lib.hid hm; have HD := Lib.hid hd; have HSN := Lib.hid hsn; have HH := Lib.hid (And.intro h1 (And.intro h2 h3)); have HO := Lib.hid (And.intro hon htt)
  clear hm hd hsn h1 h2 h3 hhr hkx hon htt RB BW
  obtain ⟨⟨c0, c1⟩, ⟨z0, z1⟩, hl0⟩ : (_ ∧ _) ∧ (_ ∧ _) ∧ _ := ⟨⟨RB4.out.cell 0, RB4.out.cell 1⟩, ⟨RB4.out.frozen 0, RB4.out.frozen 1⟩, RB4.out.lt⟩
  simp at c0 c1
  go_wp2_with fail
  have rb := (RB4.out.set_ 0 (.slice (some ⟨gD, 0, none⟩) n n)).set_ 1 (.slice (some ⟨gS, 0, none⟩) cls cls)
  simp only [List.setIfInBounds_toArray, List.set_cons_zero, List.set_cons_succ] at rb
  have kk := (set_kx w4 (w.heap.size + 1) 0 (.slice (some ⟨gD, 0, none⟩) n n)).trans (set_kx _ (w.heap.size + 1) 1 (.slice (some ⟨gS, 0, none⟩) cls cls))
  obtain ⟨k1, k2, k3⟩ := HH.out
  have BS := HS4.out
  have hR : RetRn n cls ticks (RunOf cap cls ps ticks (PrC cls ps) ()) w (.returned (.tuple #[.agg #[.slice (some ⟨gD, 0, none⟩) n n, .slice (some ⟨gS, 0, none⟩) cls cls], .int .i64 0])) ((w4.setCell ⟨(w.heap.size + 1), 0, none⟩ (.slice (some ⟨gD, 0, none⟩) n n)).setCell ⟨(w.heap.size + 1), 1, none⟩ (.slice (some ⟨gS, 0, none⟩) cls cls)) :=
    ⟨s.done, s.sent, gD, gS, gcs, ⟨s, HM.out, HO.out.1, HO.out.2, rfl, rfl⟩, rfl, HD.out.kx kk (by omega), HSN.out.kx kk (by omega) (fun c g hg => by have := k3 c g hg; omega), ⟨by omega, by omega, fun c g hg => by have := k3 c g hg; omega⟩, below_kx BW4.out kk (fun k hk => by omega) (by have := BW4.out.size; omega)⟩
  exact bodyPost_ret (v := .tuple #[.agg #[.slice (some ⟨gD, 0, none⟩) n n, .slice (some ⟨gS, 0, none⟩) cls cls], .int .i64 0]) (by simp [results, Tryz.results179, go_sem, rb.cell]) rfl hR
end Go.Proofs.YtaejfleahamapaaGreat

namespace Go.Proofs.YtaejfleahamapaaGreat
set_option linter.unusedVariables false
set_option linter.unusedSimpArgs false
def ps15 : List PK := [⟨0, 0, 15⟩, ⟨0, 0, 15⟩]
theorem pr_one {ps : List PK} {t : Int} {bs : List Bool} {r : Int} (h : PrCh 1 ps t bs r) : NxS ps bs t 0 r := by
  rcases h with ⟨k, hk, _, h, _⟩ | ⟨rfl, h⟩
  · obtain rfl : k = 0 := by omega
    exact h
  · exact h 0 (by omega)
theorem pr_ff {r : Int} (h : PrCh 1 ps15 0 [false, false] r) : r = 0 := by
  refine (pr_one h).unique (.inl ⟨0, ⟨0, 0, 15⟩, rfl, rfl, rfl, by decide, rfl, fun j y hj => by omega⟩)
theorem pr_tf {r : Int} (h : PrCh 1 ps15 1 [true, false] r) : r = 1 := by
  refine (pr_one h).unique (.inl ⟨1, ⟨0, 0, 15⟩, rfl, rfl, rfl, by decide, rfl, fun j y hj hy hb => ?_⟩)
  obtain rfl : j = 0 := by omega
  cases hb
theorem pr_tt {t r : Int} (h : PrCh 1 ps15 t [true, true] r) : r = -1 := by
  refine (pr_one h).unique (.inr ⟨rfl, fun j y hy hb => ?_⟩)
  rcases j with _ | _ | j <;> cases hb
def vw (s : RS Unit) : Nat × Bool × Option Nat × Int × Int × List Bool × List Int := (s.t, s.on, s.now, s.rest, s.left, s.begun, s.done)
def V15 (v : Nat × Bool × Option Nat × Int × Int × List Bool × List Int) : Prop :=
  v = (0, false, none, 0, 0, [false, false], [-1, -1]) ∨ v = (0, true, none, 0, 10, [false, false], [-1, -1]) ∨ v = (0, true, some 0, 15, 10, [true, false], [-1, -1]) ∨ v = (0, true, some 0, 5, 0, [true, false], [-1, -1]) ∨
  v = (1, false, some 0, 5, 0, [true, false], [-1, -1]) ∨ v = (1, true, some 0, 5, 10, [true, false], [-1, -1]) ∨ v = (1, true, none, 0, 5, [true, false], [1, -1]) ∨ v = (1, true, some 1, 15, 5, [true, true], [1, -1]) ∨ v = (1, true, some 1, 10, 0, [true, true], [1, -1]) ∨
  v = (2, false, some 1, 10, 0, [true, true], [1, -1]) ∨ v = (2, true, some 1, 10, 10, [true, true], [1, -1]) ∨ v = (2, true, none, 0, 0, [true, true], [1, 2]) ∨
  v = (3, false, none, 0, 0, [true, true], [1, 2]) ∨ v = (3, true, none, 0, 10, [true, true], [1, 2]) ∨ v = (4, false, none, 0, 10, [true, true], [1, 2]) ∨ v = (4, true, none, 0, 10, [true, true], [1, 2]) ∨ v = (5, false, none, 0, 10, [true, true], [1, 2])
set_option maxHeartbeats 4000000 in
theorem run15 {s : RS Unit} (h : MRun 10 1 ps15 5 (PrC 1 ps15) () s) : V15 (vw s) := by
  induction h with
  | start => exact .inl rfl
  | tick s _ hon ht ih =>
    obtain ⟨t, on, now, rest, left, begun, done, sent, sg⟩ := s
    simp only [V15, vw, Prod.mk.injEq] at ih hon ht ⊢
    subst hon
    rcases ih with h | h | h | h | h | h | h | h | h | h | h | h | h | h | h | h | h <;> obtain ⟨rfl, h2, rfl, rfl, rfl, rfl, rfl⟩ := h <;> simp_all
  | close s _ hon hl ih =>
    obtain ⟨t, on, now, rest, left, begun, done, sent, sg⟩ := s
    simp only [V15, vw, Prod.mk.injEq] at ih hon hl ⊢
    subst hon
    rcases ih with h | h | h | h | h | h | h | h | h | h | h | h | h | h | h | h | h <;> obtain ⟨rfl, h2, rfl, rfl, rfl, rfl, rfl⟩ := h <;> simp_all
  | idle s sg _ hon hl hn hch ih =>
    obtain ⟨t, on, now, rest, left, begun, done, sent, sg⟩ := s
    simp only [V15, vw, Prod.mk.injEq, PrC] at ih hon hl hn hch ⊢
    subst hon hn
    rcases ih with h | h | h | h | h | h | h | h | h | h | h | h | h | h | h | h | h <;> obtain ⟨rfl, h2, h3, rfl, rfl, rfl, rfl⟩ := h <;> first | (cases h2; done) | (cases h3; done) | (exfalso; omega) | (have := pr_ff hch; omega) | (have := pr_tf hch; omega) | simp_all
  | begin_ s sg i x _ hon hl hn hch hx ih =>
    obtain ⟨t, on, now, rest, left, begun, done, sent, sg⟩ := s
    simp only [V15, vw, Prod.mk.injEq, PrC] at ih hon hl hn hch ⊢
    subst hon hn
    rcases ih with h | h | h | h | h | h | h | h | h | h | h | h | h | h | h | h | h <;> obtain ⟨rfl, h2, h3, rfl, rfl, rfl, rfl⟩ := h <;> first | (cases h2; done) | (cases h3; done) | (exfalso; omega) | (have := pr_tt hch; omega) | skip
    · have := pr_ff hch
      obtain rfl : i = 0 := by omega
      cases hx
      simp
    · have := pr_tf hch
      obtain rfl : i = 1 := by omega
      cases hx
      simp
  | send s i x _ hon hl hn hx hlt ih =>
    obtain ⟨t, on, now, rest, left, begun, done, sent, sg⟩ := s
    simp only [V15, vw, Prod.mk.injEq] at ih hon hl hn hlt ⊢
    subst hon hn
    rcases ih with h | h | h | h | h | h | h | h | h | h | h | h | h | h | h | h | h <;> obtain ⟨rfl, h2, h3, rfl, rfl, rfl, rfl⟩ := h <;> first | (cases h2; done) | (cases h3; done) | (exfalso; omega) | (cases h3; simp)
  | fin s i x _ hon hl hn hx hlt ih =>
    obtain ⟨t, on, now, rest, left, begun, done, sent, sg⟩ := s
    simp only [V15, vw, Prod.mk.injEq] at ih hon hl hn hlt ⊢
    subst hon hn
    rcases ih with h | h | h | h | h | h | h | h | h | h | h | h | h | h | h | h | h <;> obtain ⟨rfl, h2, h3, rfl, rfl, rfl, rfl⟩ := h <;> first | (cases h2; done) | (cases h3; done) | (exfalso; omega) | (cases h3; simp)
theorem done15 {done : List Int} {sent : List (List Int)} (h : RunOf 10 1 ps15 5 (PrC 1 ps15) () done sent) : done = [1, 2] := by
  obtain ⟨s, hm, hon, ht, rfl, rfl⟩ := h
  have := run15 hm
  simp only [V15, vw, Prod.mk.injEq, hon, ht] at this
  simp at this
  exact this.2.2.2.2
end Go.Proofs.YtaejfleahamapaaGreat

