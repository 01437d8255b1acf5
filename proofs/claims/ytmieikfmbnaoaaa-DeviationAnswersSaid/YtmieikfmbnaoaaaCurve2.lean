/- The functions of package curve: what each returns, the second part. -/
import Derived.Test.YtmieikfmbnaoaaaCurve
import Derived.Deep.RegionHeld3
namespace Go.Proofs.Ytmieikfmbnaoaaa
open Go.RowKit
set_option linter.unusedVariables false

theorem ret_ints {k l : IntKind} {a b c d : Int} (h : a = b) (h2 : c = d) : Ending.returned (.tuple #[.int k a, .int l c]) = .returned (.tuple #[.int k b, .int l d]) := by rw [h, h2]

theorem retC_store3' {f : Cv} {er : Int} {w w1 : World} {B g0 : Nat} {A : Option Addr} {n c : Nat} {x y z : Value} (hf : ∀ b off s, A = some ⟨b, off, s⟩ → B ≤ b) (h0 : w.heap.size ≤ g0) (hB : g0 < B) (hI : Ints w1 w1.heap.size A n f.vals) (bw : Below w.heap.size w w1) :
    RetC f er w (.returned (.tuple #[.agg #[.slice A n c, .int .i64 f.per, .int .i64 f.inc], .int .i64 er])) (((w1.setCell ⟨g0, 0, none⟩ x).setCell ⟨g0, 1, none⟩ y).setCell ⟨g0, 2, none⟩ z) :=
  ⟨A, n, c, rfl, by
    simpa using (((hI.setCell (fun b off s h => by have := hf b off s h; simp; omega) _).setCell (fun b off s h => by have := hf b off s h; simp; omega) _).setCell (fun b off s h => by have := hf b off s h; simp; omega) _),
    (fun b off s h => by have := hf b off s h; omega), ((bw.setCell (by simpa using h0) _).setCell (by simpa using h0) _).setCell (by simpa using h0) _⟩

set_option maxHeartbeats 1000000 in
theorem value_any (A : Option Addr) (n c : Nat) (p i t : Int) (zs : List Int) (w : World) (hA : Ints w w.heap.size A n zs) (hn : (n : Int) ≤ 1000000) :
    Calls Try.prog 56 #[.agg #[.slice A n c, .int .i64 p, .int .i64 i], .int .i64 t] w fun e w' => e = .returned (.tuple #[.int .i64 (Cv.value ⟨zs, p, i⟩ t).1, .int .i64 (Cv.value ⟨zs, p, i⟩ t).2]) ∧ Below w.heap.size w w' := by
  have hl := hA.1
  by_cases ok : Cv.okB ⟨zs, p, i⟩ = true
  · have hok := Cv.okB_iff.1 ok
    by_cases ht : t < 0 ∨ 1048576 < t
    · have fin : Cv.value ⟨zs, p, i⟩ t = (0, 2) := by unfold Cv.value; rw [if_pos ok, if_pos ht]
      rw [fin]
      clear fin hok
      rcases ht with ht | ht
      all_goals
        go_enter Try.func56, Try.ntmps56
        go_wp2_with fail
        refine (valid_any A n c p i zs _ (hA.alloc' _) hn).mono ?_
        rintro e w1 ⟨rfl, hb⟩
        rw [ok]
        obtain ⟨hc, hf⟩ := bcell hb
        go_wp2_with fail
        go_ret2
        exact ⟨rfl, bthen (balloc _ _) hb⟩
    · have fin : Cv.value ⟨zs, p, i⟩ t = (Cv.at ⟨zs, p, i⟩ t.toNat, 0) := by unfold Cv.value; rw [if_pos ok, if_neg ht]
      rw [fin]
      have h0 : 0 ≤ t := by omega
      have h1 : t ≤ 1048576 := by omega
      clear fin ht
      have hn4 := hok.n2
      have hp1 := hok.p1; have hpn := hok.pn; have hi1 := hok.i1; have hi2 := hok.i2
      have HNN := Lib.hid hok.nn
      simp only [hl] at hn4 hpn hp1 hi1 hi2
      clear hok
      have HL := Lib.hid hl; clear hl
      go_enter Try.func56, Try.ntmps56
      go_wp2_with fail
      refine (valid_any A n c p i zs _ (hA.alloc' _) hn).mono ?_
      rintro e w1 ⟨rfl, hb⟩
      rw [ok]
      obtain ⟨hc, hf⟩ := bcell hb
      go_wp2_with fail
      refine (at_any A n c p i t zs _ ((hA.alloc' _).ext hb) (by omega) hp1 hpn hi1 (by omega) HNN.out h0 (by omega)).mono ?_
      rintro e w2 ⟨rfl, hb2⟩
      go_wp2_with fail
      go_ret2
      exact ⟨rfl, bthen (bthen (balloc _ _) hb) hb2⟩
  · have fin : Cv.value ⟨zs, p, i⟩ t = (0, 1) := by unfold Cv.value; rw [if_neg ok]
    rw [fin]
    have ok' : Cv.okB ⟨zs, p, i⟩ = false := by simpa using ok
    clear fin ok
    go_enter Try.func56, Try.ntmps56
    go_wp2_with fail
    refine (valid_any A n c p i zs _ (hA.alloc' _) hn).mono ?_
    rintro e w1 ⟨rfl, hb⟩
    rw [ok']
    obtain ⟨hc, hf⟩ := bcell hb
    go_wp2_with fail
    go_ret2
    exact ⟨rfl, bthen (balloc _ _) hb⟩

/-- the call returned a slice of its own that reads as zs -/
def RetL (zs : List Int) (w : World) (e : Ending) (w' : World) : Prop :=
  ∃ A n c, e = .returned (.slice A n c) ∧ Ints w' w'.heap.size A n zs ∧ (∀ b off s, A = some ⟨b, off, s⟩ → w.heap.size ≤ b) ∧ Below w.heap.size w w'

theorem clone_any (A : Option Addr) (n c : Nat) (zs : List Int) (w : World) (hA : Ints w w.heap.size A n zs) (hn : (n : Int) ≤ 1000000) :
    Calls Try.prog 121 #[.slice A n c] w (RetL zs w) := by
  have hnil := fun (W : World) (a : Option Addr) => Lib.run_eql_slice_nil (P := Try.prog) W 26 3 a n c 0 0 Try.underlying26
  rcases A with _ | ad
  · have hn0 : n = 0 := by
      rcases Nat.eq_zero_or_pos n with h | h
      · exact h
      · obtain ⟨b, off, e, _⟩ := hA.2 h; cases e
    have hz : zs = [] := List.eq_nil_of_length_eq_zero (by rw [hA.1, hn0])
    subst hz hn0
    go_enter Try.func121, Try.ntmps121
    go_wp2
    go_ret
    exact ⟨none, 0, 0, rfl, Ints.none_, (fun b off s h => by cases h), Below.refl _ _⟩
  · go_enter Try.func121, Try.ntmps121
    go_wp2_with (at_builtin; refine wpList_app rfl _ _ 26 rfl Try.underlying26 w.heap.size (.slice (some ⟨w.heap.size, 0, none⟩) 0 0) 0 [] rfl (Own.empty_ w (Nat.le_refl _)) _ (some ad) n c zs rfl (hA.alloc' _) (by omega) (by simp) ?_; intro v1 w1 own1 grow1 at1; simp only [Nat.zero_add, List.nil_append] at own1; obtain ⟨A1, c1, rfl, hc1, hI1, hf1⟩ := own1.ints)
    go_ret
    exact ⟨A1, n, c1, rfl, hI1, hf1, (balloc _ _).grown grow1 (by simp) (by simp [Value.ownBlock])⟩

theorem normal1_any (B : Nat) (A : Option Addr) (n c : Nat) (p i t : Int) (zs : List Int) (w : World) (hB : Blk w B 41 #[.slice A n c, .int .i64 p, .int .i64 i]) (hA : Ints w w.heap.size A n zs)
    (hok : Cv.Ok ⟨zs, p, i⟩) (ht0 : 0 ≤ t) (ht : t ≤ 2097152) :
    Calls Try.prog 122 #[.int .i64 t, .pointer (some ⟨B, 0, none⟩)] w fun e w' => e = .returned (.int .i64 (Cv.at ⟨zs, p, i⟩ t.toNat)) ∧ Below w.heap.size w w' := by
  have hl := hA.1
  have hn4 := hok.n2
  have hp1 := hok.p1; have hpn := hok.pn; have hi1 := hok.i1; have hi2 := hok.i2
  have HNN := Lib.hid hok.nn
  simp only [hl] at hn4 hpn hp1 hi1 hi2
  clear hok
  have HL := Lib.hid hl; clear hl
  have q0 := hB.cell 0; have q1 := hB.cell 1; have q2 := hB.cell 2
  simp at q0 q1 q2
  go_enter Try.func122, Try.ntmps122
  go_wp2_with fail
  refine (at_any A n c p i t zs _ hA (by omega) hp1 hpn hi1 (by omega) HNN.out ht0 ht).mono ?_
  rintro e w2 ⟨rfl, hb2⟩
  go_wp2_with fail
  go_ret
  exact ⟨rfl, hb2⟩

theorem enters59 (x y : Value) (w : World) : Sem.run Try.prog (callFunc 122 (#[x] ++ #[y])) w = .ok (.enter 122 (#[x] ++ #[y])) w := by kernel_rfl

set_option maxHeartbeats 1000000 in
theorem normal_any (A : Option Addr) (n c : Nat) (p i : Int) (zs : List Int) (w : World) (hA : Ints w w.heap.size A n zs) (hn : (n : Int) ≤ 1000000) :
    Calls Try.prog 66 #[.agg #[.slice A n c, .int .i64 p, .int .i64 i]] w (RetS (NormalS ⟨zs, p, i⟩) w) := by
  by_cases ok : Cv.okB ⟨zs, p, i⟩ = true
  · have hok := Cv.okB_iff.1 ok
    have hl := hA.1
    have hn4 := hok.n2
    have hp1 := hok.p1; have hp2 := hok.p2; have hpn := hok.pn; have hi1 := hok.i1; have hi2 := hok.i2
    simp only [hl] at hn4 hpn hp1 hp2 hi1 hi2
    have HOK := Lib.hid hok; clear hok
    have HL := Lib.hid hl; clear hl
    go_enter Try.func66, Try.ntmps66
    go_wp2_with fail
    refine (valid_any A n c p i zs _ ((hA.alloc' _).alloc' _) hn).mono ?_
    rintro e w1 ⟨rfl, hb⟩
    rw [ok]
    have hA1 := ((hA.alloc' _).alloc' _).ext hb
    have fb1 := ((Blk.new w 41 #[.slice A n c, .int .i64 p, .int .i64 i]).alloc (.cells #[.slice none 0 0, .int .i64 0, .int .i64 0] 41)).below hb (by simp <;> omega)
    have rb1 := (Blk.new (w.alloc (.cells #[.slice A n c, .int .i64 p, .int .i64 i] 41)) 41 #[.slice none 0 0, .int .i64 0, .int .i64 0]).below hb (by simp)
    simp at rb1
    have bw1 := bthen (bthen (balloc w (.cells #[.slice A n c, .int .i64 p, .int .i64 i] 41)) (balloc _ _)) hb
    have q0 := fb1.cell 0; have q1 := fb1.cell 1; have q2 := fb1.cell 2; have z0 := fb1.frozen 0
    simp at q0 q1 q2
    clear hb
    go_wp2_with fail
    refine (clone_any A n c zs _ hA1 hn).mono ?_
    rintro e w2 ⟨A2, n2, c2, rfl, hA2, hf2, hb2⟩
    have hl2 := hA2.1
    obtain rfl : n2 = n := by rw [← hl2, HL.out]
    have fb2 := (fb1.below hb2 fb1.lt).set_ 0 (.slice A2 n2 c2)
    have rb2 := (rb1.below hb2 rb1.lt).far (p := ⟨w.heap.size, 0, none⟩) (by simp) (.slice A2 n2 c2)
    have bw2 := (bthen bw1 hb2).setCell (p := ⟨w.heap.size, 0, none⟩) (by simp) (.slice A2 n2 c2)
    have hA2' := hA2.setCell (p := ⟨w.heap.size, 0, none⟩) (fun b off s e => by have := hf2 b off s e; have := fb1.lt; simp; omega) (.slice A2 n2 c2)
    have q0 := (fb1.below hb2 fb1.lt).cell 0; have q1 := (fb1.below hb2 fb1.lt).cell 1; have q2 := (fb1.below hb2 fb1.lt).cell 2; have z0 := (fb1.below hb2 fb1.lt).frozen 0
    simp at q0 q1 q2 fb2
    have hsz2 := hb2.size
    clear hb2 fb1 rb1 bw1 hA1
    go_wp2_with fail
    have hA3 : Ints (w2.setCell ⟨w.heap.size, 0, none⟩ (.slice A2 n2 c2)) (w2.setCell ⟨w.heap.size, 0, none⟩ (.slice A2 n2 c2)).heap.size A2 n2 zs := by simpa using hA2'
    clear hA2' hA2 hf2 q0 q1 q2 z0
    generalize w2.setCell ⟨w.heap.size, 0, none⟩ (.slice A2 n2 c2) = w3 at *
    have q0 := fb2.cell 0; have q1 := fb2.cell 1; have q2 := fb2.cell 2
    simp at q0 q1 q2
    have hlf := fb2.lt
    have hlr := rb2.lt
    have HA := Lib.hid hA3
    have HFB := Lib.hid fb2
    have HRB := Lib.hid rb2
    have HBW := Lib.hid bw2
    clear hA3 fb2 rb2 bw2
    have hd0 : 0 ≤ (n2 : Int) - p := by omega
    have hat : ∀ w', Below w3.heap.size w3 w' → Hid (∀ (t : Nat) (w1 : World), (t : Int) < (n2 : Int) - p + p → Below w'.heap.size w' w1 →
        Calls Try.prog 122 (#[.int .i64 t] ++ #[.pointer (some ⟨w.heap.size, 0, none⟩)]) w1 fun e w2 => e = .returned (.int .i64 (Cv.at ⟨zs, p, i⟩ t)) ∧ Below w1.heap.size w1 w2) := by
      intro w' hb' t w1 ht hb1
      have hb2 := bthen hb' hb1
      exact normal1_any w.heap.size A2 n2 c2 p i t zs w1 (HFB.out.below hb2 hlf) (HA.out.ext hb2) HOK.out (by omega) (by omega)
    have hval : ∀ k : Nat, (k : Int) < (n2 : Int) - p + p → 0 ≤ Cv.at ⟨zs, p, i⟩ k ∧ Cv.at ⟨zs, p, i⟩ k ≤ 4611686018427387904 := by
      intro k hk
      have : Cv.at ⟨zs, p, i⟩ k = nth zs k := by unfold Cv.at; rw [if_pos (by show k < zs.length; rw [HL.out]; omega)]
      rw [this]
      exact HOK.out.nn k
    have HAT := Lib.hid hat; clear hat
    have HVAL := Lib.hid hval; clear hval
    have fin : ∀ g er, BuildS (Cv.at ⟨zs, p, i⟩) ((n2 : Int) - p).toNat p.toNat i g er → NormalS ⟨zs, p, i⟩ g er := by
      intro g er h
      refine .inl ⟨ok, ?_⟩
      rw [show (Cv.mk zs p i).vals.length - (Cv.mk zs p i).per.toNat = ((n2 : Int) - p).toNat by show zs.length - p.toNat = _; rw [HL.out]; omega]
      exact h
    have FIN := Lib.hid fin; clear fin
    go_region_held3 (fun w' => w'.cell? ⟨w.heap.size, 0, none⟩ = some (.slice A2 n2 c2) ∧ w'.cell? ⟨w.heap.size, 1, none⟩ = some (.int .i64 p) ∧ w'.cell? ⟨w.heap.size, 2, none⟩ = some (.int .i64 i)) (go_keep)
      (first
        | (go_at_call 106; refine (start_any A2 n2 c2 p i _ (by omega) (by omega) (by omega)).mono ?_; rintro e w4 ⟨rfl, hb4⟩; have q40 := (hb4.cell (p := ⟨w.heap.size, 0, none⟩) hlf).trans q0; have q41 := (hb4.cell (p := ⟨w.heap.size, 1, none⟩) hlf).trans q1; have q42 := (hb4.cell (p := ⟨w.heap.size, 2, none⟩) hlf).trans q2)
        | (go_at_call 81; refine (build_any 122 #[.pointer (some ⟨w.heap.size, 0, none⟩)] ((n2 : Int) - p) p i (Cv.at ⟨zs, p, i⟩) _ hd0 (by omega) hp1 (by omega) hi1 (by omega) HVAL.out (HAT.out _ (by exact bofdrew hb4)) (fun x w => enters59 x _ w)).mono ?_; rintro e w5 ⟨g, er, hg, A5, n5, c5, rfl, hI5, hf5, hb5⟩; have hlf4 := Nat.lt_of_lt_of_le hlf hb4.size; have hlr4 := Nat.lt_of_lt_of_le hlr hb4.size; have q50 := (hb5.cell (p := ⟨w.heap.size, 0, none⟩) hlf4).trans q40; have q51 := (hb5.cell (p := ⟨w.heap.size, 1, none⟩) hlf4).trans q41; have q52 := (hb5.cell (p := ⟨w.heap.size, 2, none⟩) hlf4).trans q42; have rb5 := (HRB.out.below (bofdrew hb4) hlr).below hb5 hlr4; have r0 := rb5.cell 0; have r1 := rb5.cell 1; have r2 := rb5.cell 2; have z0 := rb5.frozen 0; have z1 := rb5.frozen 1; have z2 := rb5.frozen 2; simp at r0 r1 r2; have hlr5 := rb5.lt; have HI5 := Lib.hid hI5; clear hI5))
    go_wp2
    all_goals
     have rb6 := rb5.store3 (.slice A5 n5 c5) (.int .i64 g.per) (.int .i64 g.inc)
     have bw5 : Below w.heap.size w w5 := bthen (bthen HBW.out (bofdrew hb4)) hb5
     exact bodyPost_ret (v := .tuple #[.agg #[.slice A5 n5 c5, .int .i64 g.per, .int .i64 g.inc], .int .i64 er]) (by simp [results, Try.results66, go_sem, rb6.cell]) rfl
      ⟨g, er, FIN.out _ _ hg, retC_store3' hf5 (by omega) hlr4 HI5.out bw5⟩
  · have ok' : Cv.okB ⟨zs, p, i⟩ = false := by simpa using ok
    have fin : NormalS ⟨zs, p, i⟩ Cv.none 1 := .inr ⟨ok', rfl, rfl⟩
    have F := Lib.hid fin
    clear fin ok
    go_enter Try.func66, Try.ntmps66
    go_wp2_with fail
    refine (valid_any A n c p i zs _ ((hA.alloc' _).alloc' _) hn).mono ?_
    rintro e w1 ⟨rfl, hb⟩
    rw [ok']
    have rb1 := (Blk.new (w.alloc (.cells #[.slice A n c, .int .i64 p, .int .i64 i] 41)) 41 #[.slice none 0 0, .int .i64 0, .int .i64 0]).below hb (by simp)
    simp at rb1
    have q0 := rb1.cell 0; have q1 := rb1.cell 1; have q2 := rb1.cell 2; have z0 := rb1.frozen 0; have z1 := rb1.frozen 1; have z2 := rb1.frozen 2; simp at q0 q1 q2
    have hlr := rb1.lt
    go_wp2_with fail
    have rb5 := rb1.store3 (.slice none 0 0) (.int .i64 0) (.int .i64 0)
    exact bodyPost_ret (v := .tuple #[.agg #[.slice none 0 0, .int .i64 0, .int .i64 0], .int .i64 1]) (by simp [results, Try.results66, go_sem, rb5.cell]) rfl
      ⟨Cv.none, 1, F.out, none, 0, 0, rfl, Ints.none_, (fun b off s h => by cases h), (((bthen (bthen (balloc _ _) (balloc _ _)) hb).setCell (by simp) _).setCell (by simp) _).setCell (by simp) _⟩
end Go.Proofs.Ytmieikfmbnaoaaa
