/- Delay, Backlog and Peak of package deviation, with their errors. -/
import Derived.Deep.RegionHeld3
import Derived.Test.YtaejfleahamapaaGreatTc21
import Derived.Test.YtaejfleahamapaaGreatTc22
import Derived.Test.YtaejfleahamapaaGreatTc23
namespace Go.Proofs.YtaejfleahamapaaGreat
open Go.RowKit
set_option linter.unusedVariables false

structure DP (w : World) (P : Nat) (A : Option Addr) (n c : Nat) (a : Cv) (B : Option Addr) (m d : Nat) (b : Cv) (T : Int) (l : Bool) : Prop where
  blk : Blk w P 102 #[.slice A n c, .int .i64 a.per, .int .i64 a.inc, .slice B m d, .int .i64 b.per, .int .i64 b.inc, .int .i64 T, .bool l]
  ia : Ints w w.heap.size A n a.vals
  ib : Ints w w.heap.size B m b.vals
section
variable {w w' : World} {P n c m d : Nat} {A B : Option Addr} {a b : Cv} {T : Int} {l : Bool}
theorem DP.below (h : DP w P A n c a B m d b T l) (hb : Below w.heap.size w w') : DP w' P A n c a B m d b T l := ⟨h.blk.below hb h.blk.lt, h.ia.ext hb, h.ib.ext hb⟩
theorem DP.drew (h : DP w P A n c a B m d b T l) : DP w.drew P A n c a B m d b T l := ⟨h.blk, h.ia, h.ib⟩
theorem DP.cells (h : DP w P A n c a B m d b T l) : w.cell? ⟨P, 0, none⟩ = some (.slice A n c) ∧ w.cell? ⟨P, 1, none⟩ = some (.int .i64 a.per) ∧ w.cell? ⟨P, 2, none⟩ = some (.int .i64 a.inc) ∧
    w.cell? ⟨P, 3, none⟩ = some (.slice B m d) ∧ w.cell? ⟨P, 4, none⟩ = some (.int .i64 b.per) ∧ w.cell? ⟨P, 5, none⟩ = some (.int .i64 b.inc) ∧ P < w.heap.size := by
  have q0 := h.blk.cell 0; have q1 := h.blk.cell 1; have q2 := h.blk.cell 2; have q3 := h.blk.cell 3; have q4 := h.blk.cell 4; have q5 := h.blk.cell 5
  simp at q0 q1 q2 q3 q4 q5
  exact ⟨q0, q1, q2, q3, q4, q5, h.blk.lt⟩
theorem DP.cells2 (h : DP w P A n c a B m d b T l) : w.cell? ⟨P, 6, none⟩ = some (.int .i64 T) ∧ w.cell? ⟨P, 7, none⟩ = some (.bool l) := by
  have q0 := h.blk.cell 6; have q1 := h.blk.cell 7
  simp at q0 q1
  exact ⟨q0, q1⟩
end

def DelR (a b : Cv) (t : Nat) (d : Int) (ok : Bool) : Prop := ∃ r : Int, ExS (Geq b (a.at t)) r ok ∧ d = r - t
theorem at_small {a : Cv} (ha : a.Ok) {t : Nat} (ht : t ≤ 1000) : 0 ≤ a.at t ∧ (a.at t = inf ∨ a.at t ≤ 1125899906842624) := by
  refine ⟨ha.up0.nn t, ?_⟩
  rcases ha.fin_or with h | h
  · right
    have h1 := h.at_bd t
    have h2 : (t : Int) * 1073741824 ≤ 1000 * 1073741824 := Int.mul_le_mul_of_nonneg_right (by omega) (by omega)
    omega
  · by_cases hi : a.at t = inf
    · exact .inl hi
    · right
      have hlt : t < a.vals.length := by
        rcases Nat.lt_or_ge t a.vals.length with h' | h'
        · exact h'
        · exact absurd (ha.at_inf h (by omega)) hi
      rw [Cv.at_lt hlt] at hi ⊢
      have := ((okv_iff _).1 (ha.v t hlt)).resolve_left hi
      omega

set_option maxHeartbeats 1000000 in
theorem delay1_any (P : Nat) (A : Option Addr) (n c : Nat) (a : Cv) (B : Option Addr) (m d : Nat) (b : Cv) (T : Int) (l : Bool) (t : Nat) (w : World) (hE : DP w P A n c a B m d b T l) (ha : a.Ok) (hb : b.Ok) (ht : t ≤ 1000) :
    Calls Tryz.prog 50 #[.int .i64 t, .pointer (some ⟨P, 0, none⟩)] w (RetDi (DelR a b t) w) := by
  have E := Lib.hid hE
  have hl1 : a.vals.length = n := hE.ia.1
  have ha2 := ha.n2; have hap := ha.p1; have hai := ha.i1; have hai2 := ha.i2; have hapn := ha.pn
  rw [hl1] at ha2 hapn
  have HA := Lib.hid ha; have HB := Lib.hid hb
  have HS := Lib.hid (at_small ha ht)
  obtain ⟨x, hx⟩ : ∃ x, x = a.at t := ⟨_, rfl⟩
  have HX := Lib.hid hx
  have BW := Lib.hid (Below.refl w.heap.size w)
  clear hE hl1 ha hb hx
  go_enter Tryz.func50, Tryz.ntmps50
  obtain ⟨q0, q1, q2, q3, q4, q5, hlq⟩ := E.out.cells
  go_wp2_with fail
  go_region_held3 (fun w' => w'.cell? ⟨P, 0, none⟩ = some (.slice A n c) ∧ w'.cell? ⟨P, 1, none⟩ = some (.int .i64 a.per) ∧ w'.cell? ⟨P, 2, none⟩ = some (.int .i64 a.inc) ∧ w'.cell? ⟨P, 3, none⟩ = some (.slice B m d) ∧ w'.cell? ⟨P, 4, none⟩ = some (.int .i64 b.per) ∧ w'.cell? ⟨P, 5, none⟩ = some (.int .i64 b.inc)) (first | go_keep)
    (first
      | (go_at_call 43
         refine (at_any A n c a.per a.inc t a.vals _ (by exact E.out.drew.ia) (by omega) hap hapn hai (by omega) HA.out.nn (by omega) (by omega)).mono ?_
         rw [Int.toNat_natCast, show Cv.at ⟨a.vals, a.per, a.inc⟩ t = x from HX.out.symm]
         rintro e w1 ⟨rfl, hbq⟩
         have E := Lib.hid (E.out.drew.below hbq)
         have BW := Lib.hid (bthen (Below.drew BW.out) hbq)
         clear hbq
         clear q0 q1 q2 q3 q4 q5 hlq
         obtain ⟨q0, q1, q2, q3, q4, q5, hlq⟩ := E.out.cells
         dsimp only)
      | (go_at_call 51
         refine (reach_any B m d b.per b.inc x b.vals _ (by exact E.out.ib) HB.out (by rw [HX.out]; exact HS.out.1) (by rw [HX.out]; exact HS.out.2)).mono ?_
         rintro e w2 ⟨r, ok, hR, hr0, hr1, rfl, hbq⟩
         have HR := Lib.hid hR
         have E := Lib.hid (E.out.below hbq)
         have BW := Lib.hid (bthen BW.out hbq)
         clear hbq hR
         clear q0 q1 q2 q3 q4 q5 hlq
         obtain ⟨q0, q1, q2, q3, q4, q5, hlq⟩ := E.out.cells
         dsimp only))
  all_goals
    have bw := BW.out
    have F := Lib.hid (show DelR a b t (r - t) ok from ⟨r, by rw [← HX.out]; exact HR.out, rfl⟩)
    go_wp2_with fail
    go_ret2
    exact ⟨_, _, F.out, rfl, bw⟩

end Go.Proofs.YtaejfleahamapaaGreat

namespace Go.Proofs.YtaejfleahamapaaGreat
open Go.RowKit
set_option linter.unusedVariables false

def DevE (S : Bool → Nat → Nat → Prop) (f g : Cv) (i : Bool) (v A er : Int) : Prop :=
  (BothBad f g er ∧ i = false ∧ v = 0 ∧ A = 0) ∨ (f.Ok ∧ g.Ok ∧ (∃ a b, NF f.at a ∧ NF g.at b ∧ comm a.per.toNat b.per.toNat ≤ 120) ∧ er = 0 ∧ ∃ v' A' : Nat, v = v' ∧ A = A' ∧ S i v' A')
theorem BothBad.unique {f g : Cv} {e e' : Int} (h : BothBad f g e) (k : BothBad f g e') : e = e' := by
  rcases h with ⟨h0, rfl⟩ | ⟨h0, h1, rfl, _⟩ <;> rcases k with ⟨k0, rfl⟩ | ⟨k0, k1, rfl, _⟩
  · rfl
  · exact absurd ⟨k0, k1⟩ h0
  · exact absurd ⟨h0, h1⟩ k0
  · rfl
theorem BothBad.not {f g : Cv} {e : Int} (h : BothBad f g e) (hf : f.Ok) (hg : g.Ok) : ¬ ∃ a b, NF f.at a ∧ NF g.at b ∧ comm a.per.toNat b.per.toNat ≤ 120 := by
  rintro ⟨a, b, ha, hb, hc⟩
  rcases h with ⟨h0, _⟩ | ⟨_, _, _, a', b', ha', hb', hc'⟩
  · exact h0 ⟨hf, hg⟩
  · rw [ha.unique ha', hb.unique hb'] at hc
    omega
theorem DevE.unique {S : Bool → Nat → Nat → Prop} {f g : Cv} (hS : f.Ok → g.Ok → ∀ {i j : Bool} {v A w B : Nat}, S i v A → S j w B → i = j ∧ v = w ∧ A = B) {i j : Bool} {v A e w B e' : Int} (h : DevE S f g i v A e) (k : DevE S f g j w B e') : i = j ∧ v = w ∧ A = B ∧ e = e' := by
  rcases h with ⟨h0, rfl, rfl, rfl⟩ | ⟨h0, h1, h2, rfl, v1, A1, rfl, rfl, h⟩ <;> rcases k with ⟨k0, rfl, rfl, rfl⟩ | ⟨k0, k1, k2, rfl, v2, A2, rfl, rfl, k⟩
  · exact ⟨rfl, rfl, rfl, h0.unique k0⟩
  · exact absurd k2 (h0.not k0 k1)
  · exact absurd h2 (k0.not h0 h1)
  · obtain ⟨rfl, rfl, rfl⟩ := hS h0 h1 h k
    exact ⟨rfl, rfl, rfl, rfl⟩
def RetDv (S : Bool → Nat → Nat → Prop) (f g : Cv) (w : World) (e : Ending) (w' : World) : Prop :=
  ∃ i v A er, DevE S f g i v A er ∧ e = .returned (.tuple #[.agg #[.bool i, .int .i64 v, .int .i64 A], .int .i64 er]) ∧ Below w.heap.size w w'

def DelII (a b : Cv) (k : Nat) (v A : Int) : Prop := ∃ v' A' : Nat, v = v' ∧ A = A' ∧ DelI a b k v' A'
theorem del_step {a b : Cv} (ha : a.Ok) (hb : b.Ok) {k : Nat} (hk : k ≤ 1000) {v A d : Int} (h : DelII a b k v A) (hR : DelR a b k d true) : (v < d → DelII a b (k + 1) d k) ∧ (¬ v < d → DelII a b (k + 1) v A) := by
  obtain ⟨v', A', rfl, rfl, h⟩ := h
  obtain ⟨r, hx, rfl⟩ := hR
  rcases hx with ⟨_, n, rfl, h1, h2⟩ | ⟨hx, _⟩
  · have h3 := (geq_le (g := b) ha (t := k) (by omega) n).1 h1
    have h4 : ∀ m, m < n → ¬ LeAt a b k m := fun m hm h5 => h2 m hm ((geq_le ha (by omega) m).2 h5)
    refine ⟨fun hv => ⟨n - k, k, by omega, rfl, ?_⟩, fun hv => ⟨v', A', rfl, rfl, ?_⟩⟩
    · exact h.more hb h3 h4 (by omega)
    · exact h.less hb h3 (by omega)
  · cases hx
theorem del_bad {a b : Cv} (ha : a.Ok) {k : Nat} (hk : k ≤ 1000) {d : Int} (hR : DelR a b k d false) : DelayS a b true 0 0 := by
  obtain ⟨r, hx, _⟩ := hR
  rcases hx with ⟨hx, _⟩ | ⟨_, _, hx⟩
  · cases hx
  · exact not_db (t := k) (fun n h => hx n ((geq_le ha (by omega) n).2 h))
set_option maxHeartbeats 2000000 in
set_option maxRecDepth 100000 in
theorem delay_any (A B : Option Addr) (n m c d : Nat) (p i q j : Int) (xs ys : List Int) (w : World) (hA : Ints w w.heap.size A n xs) (hB : Ints w w.heap.size B m ys) (hn : (n : Int) ≤ 1000000) (hm : (m : Int) ≤ 1000000) :
    Calls Tryz.prog 11 #[.agg #[.slice A n c, .int .i64 p, .int .i64 i], .agg #[.slice B m d, .int .i64 q, .int .i64 j]] w (RetDv (DelayS ⟨xs, p, i⟩ ⟨ys, q, j⟩) ⟨xs, p, i⟩ ⟨ys, q, j⟩ w) := by
  have P := Lib.hid ((PS.new (c := c) (p := p) (i := i) (d := d) (q := q) (j := j) hA hB).alloc (.cells #[.bool false, .int .i64 0, .int .i64 0] 35))
  have rb := Blk.new ((w.alloc (.cells #[.slice A n c, .int .i64 p, .int .i64 i] 26)).alloc (.cells #[.slice B m d, .int .i64 q, .int .i64 j] 26)) 35 #[.bool false, .int .i64 0, .int .i64 0]
  rw [World.size_alloc, World.size_alloc] at rb
  have RB := Lib.hid rb
  clear hA hB rb
  go_enter Tryz.func11, Tryz.ntmps11
  go_wp2_with fail
  refine (dboth_any A B n m c d p i q j xs ys _ P.out.ia P.out.ib hn hm).mono ?_
  rintro e w1 hret
  have hs0 := RB.out.lt
  rcases hret with ⟨er, hbad, rfl, hb⟩ | ⟨hf, hg, a, b, A1, n1, c1, A2, n2, c2, l, hna, hnb, hao, hbo, hc, hl, rfl, hI1, hI2, hA1, hA2, hb⟩
  · have P := Lib.hid (P.out.below hb)
    have RB := Lib.hid (RB.out.below hb RB.out.lt)
    clear hb
    obtain ⟨r0, r1, r2⟩ : _ ∧ _ ∧ _ := ⟨RB.out.cell 0, RB.out.cell 1, RB.out.cell 2⟩
    simp at r0 r1 r2
    have y0 := RB.out.frozen 0; have y1 := RB.out.frozen 1; have y2 := RB.out.frozen 2
    have hlr := RB.out.lt
    have F := Lib.hid (show DevE (DelayS ⟨xs, p, i⟩ ⟨ys, q, j⟩) ⟨xs, p, i⟩ ⟨ys, q, j⟩ false 0 0 er from .inl ⟨hbad, rfl, rfl, rfl⟩)
    have hne : (er != 0) = true := by rcases hbad with ⟨_, rfl⟩ | ⟨_, _, rfl, _⟩ <;> rfl
    clear hbad
    unfold zero8
    go_wp2_with fail
    have rb := (RB.out.store3 (.bool false) (.int .i64 0) (.int .i64 0)).alloc (.cells #[.slice none 0 0, .int .i64 0, .int .i64 0, .slice none 0 0, .int .i64 0, .int .i64 0, .int .i64 0, .bool false] 102)
    have bw := P.out.bw
    exact bodyPost_ret (v := .tuple #[.agg #[.bool false, .int .i64 0, .int .i64 0], .int .i64 er]) (by simp [results, Tryz.results11, go_sem, rb.cell]) rfl ⟨_, _, _, _, F.out, rfl, bthen (b3store bw (by omega)) (balloc _ _)⟩
  · unfold dpA
    have ob := ord_b hao hbo
    have hT : ordF a b + ordC a b ≤ 1000 := by
      have h1 := hao.n2; have h2 := hbo.n2
      unfold ordF
      have h3 : ordC a b ≤ 120 := hc
      omega
    obtain ⟨T, hTe⟩ : ∃ T, T = ordF a b + ordC a b := ⟨_, rfl⟩
    rw [← hTe] at hT
    rw [← hTe]
    have EX := Lib.hid (show ∃ a b, NF (Cv.at ⟨xs, p, i⟩) a ∧ NF (Cv.at ⟨ys, q, j⟩) b ∧ comm a.per.toNat b.per.toNat ≤ 120 from ⟨a, b, hna, hnb, hc⟩)
    have E := Lib.hid (show DP (w1.alloc (.cells #[.slice A1 n1 c1, .int .i64 a.per, .int .i64 a.inc, .slice A2 n2 c2, .int .i64 b.per, .int .i64 b.inc, .int .i64 T, .bool l] 102)) w1.heap.size A1 n1 c1 a A2 n2 c2 b T l from ⟨Blk.new _ _ _, hI1.alloc' _, hI2.alloc' _⟩)
    have RB := Lib.hid ((RB.out.below hb RB.out.lt).alloc (.cells #[.slice A1 n1 c1, .int .i64 a.per, .int .i64 a.inc, .slice A2 n2 c2, .int .i64 b.per, .int .i64 b.inc, .int .i64 T, .bool l] 102))
    have BW := Lib.hid (bthen (bthen P.out.bw hb) (balloc _ (.cells #[.slice A1 n1 c1, .int .i64 a.per, .int .i64 a.inc, .slice A2 n2 c2, .int .i64 b.per, .int .i64 b.inc, .int .i64 T, .bool l] 102)))
    have HF := Lib.hid hf; have HG := Lib.hid hg; have HNA := Lib.hid hna; have HNB := Lib.hid hnb; have HAO := Lib.hid hao; have HBO := Lib.hid hbo; have HL := Lib.hid hl; have HTE := Lib.hid hTe
    clear P hb hf hg hna hnb hao hbo hl hTe hI1 hI2 hA1 hA2 hc ob
    cases l
    case true =>
      have F := Lib.hid (show DevE (DelayS ⟨xs, p, i⟩ ⟨ys, q, j⟩) ⟨xs, p, i⟩ ⟨ys, q, j⟩ true 0 0 0 from .inr ⟨HF.out, HG.out, EX.out, rfl, 0, 0, rfl, rfl, (loose_del HAO.out (HL.out.1 rfl)).nf HF.out HG.out HNA.out HNB.out⟩)
      obtain ⟨r0, r1, r2⟩ : _ ∧ _ ∧ _ := ⟨RB.out.cell 0, RB.out.cell 1, RB.out.cell 2⟩
      simp at r0 r1 r2
      have y0 := RB.out.frozen 0; have y1 := RB.out.frozen 1; have y2 := RB.out.frozen 2
      have hlr := RB.out.lt
      go_wp2_with fail
      have rb := RB.out.store3 (.bool true) (.int .i64 0) (.int .i64 0)
      exact bodyPost_ret (v := .tuple #[.agg #[.bool true, .int .i64 0, .int .i64 0], .int .i64 0]) (by simp [results, Tryz.results11, go_sem, rb.cell]) rfl ⟨_, _, _, _, F.out, rfl, b3store BW.out (by omega)⟩
    case false =>
      have HNL := Lib.hid (show ¬ Loose a b from fun h => by have := HL.out.2 h; cases this)
      obtain ⟨q6, q7⟩ := E.out.cells2
      have hle := E.out.blk.lt
      go_wp2_with fail
      refine (greatest_any 50 #[.pointer (some ⟨w1.heap.size, 0, none⟩)] T (DelR a b) (DelII a b) (DelayS a b true 0 0) _ hT ⟨0, 0, rfl, rfl, DelI.zero a b⟩
        (fun k v A d hk hI hR => del_step HAO.out HBO.out (by omega) hI hR) (fun k d hk hR => del_bad HAO.out (by omega) hR)
        (fun t w2 ht hb => delay1_any w1.heap.size A1 n1 c1 a A2 n2 c2 b T false t w2 (E.out.below hb) HAO.out HBO.out (by omega)) (fun x w => by kernel_rfl)).mono ?_
      rintro e w2 hret
      rcases hret with ⟨hQ, rfl, hb⟩ | ⟨v, A', hI, rfl, hb⟩
      · have F := Lib.hid (show DevE (DelayS ⟨xs, p, i⟩ ⟨ys, q, j⟩) ⟨xs, p, i⟩ ⟨ys, q, j⟩ true 0 0 0 from .inr ⟨HF.out, HG.out, EX.out, rfl, 0, 0, rfl, rfl, hQ.nf HF.out HG.out HNA.out HNB.out⟩)
        have RB := Lib.hid (RB.out.below hb RB.out.lt); have BW := Lib.hid (bthen BW.out hb)
        clear hb hQ
        obtain ⟨r0, r1, r2⟩ : _ ∧ _ ∧ _ := ⟨RB.out.cell 0, RB.out.cell 1, RB.out.cell 2⟩
        simp at r0 r1 r2
        have y0 := RB.out.frozen 0; have y1 := RB.out.frozen 1; have y2 := RB.out.frozen 2
        have hlr := RB.out.lt
        go_wp2_with fail
        have rb := RB.out.store3 (.bool true) (.int .i64 0) (.int .i64 0)
        exact bodyPost_ret (v := .tuple #[.agg #[.bool true, .int .i64 0, .int .i64 0], .int .i64 0]) (by simp [results, Tryz.results11, go_sem, rb.cell]) rfl ⟨_, _, _, _, F.out, rfl, b3store BW.out (by omega)⟩
      · have F := Lib.hid (show DevE (DelayS ⟨xs, p, i⟩ ⟨ys, q, j⟩) ⟨xs, p, i⟩ ⟨ys, q, j⟩ false v A' 0 from .inr ⟨HF.out, HG.out, EX.out, rfl, by
          obtain ⟨v', A'', rfl, rfl, h⟩ := hI
          exact ⟨v', A'', rfl, rfl, (h.done HAO.out HBO.out HNL.out (by rw [HTE.out]; exact Nat.le_refl _)).nf HF.out HG.out HNA.out HNB.out⟩⟩)
        have RB := Lib.hid (RB.out.below hb RB.out.lt); have BW := Lib.hid (bthen BW.out hb)
        clear hb hI
        obtain ⟨r0, r1, r2⟩ : _ ∧ _ ∧ _ := ⟨RB.out.cell 0, RB.out.cell 1, RB.out.cell 2⟩
        simp at r0 r1 r2
        have y0 := RB.out.frozen 0; have y1 := RB.out.frozen 1; have y2 := RB.out.frozen 2
        have hlr := RB.out.lt
        go_wp2_with fail
        have rb := RB.out.store3 (.bool false) (.int .i64 v) (.int .i64 A')
        exact bodyPost_ret (v := .tuple #[.agg #[.bool false, .int .i64 v, .int .i64 A'], .int .i64 0]) (by simp [results, Tryz.results11, go_sem, rb.cell]) rfl ⟨_, _, _, _, F.out, rfl, b3store BW.out (by omega)⟩
end Go.Proofs.YtaejfleahamapaaGreat

