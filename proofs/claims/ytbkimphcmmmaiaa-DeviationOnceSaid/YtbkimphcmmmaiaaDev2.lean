/- Delay, Backlog and Peak of package deviation, with their errors. -/
import Derived.Test.YtbkimphcmmmaiaaDev
namespace Go.Proofs.Ytbkimphcmmmaiaa
open Go.RowKit
set_option linter.unusedVariables false

/-- what Delay, Backlog and Peak return, where S tells it of two curves -/
def DevE (S : Bool → Nat → Nat → Prop) (f g : Cv) (i : Bool) (v A er : Int) : Prop :=
  (BothBad f g er ∧ i = false ∧ v = 0 ∧ A = 0) ∨ (f.Ok ∧ g.Ok ∧ (∃ a b, NF f.at a ∧ NF g.at b ∧ comm a.per.toNat b.per.toNat ≤ 120) ∧ er = 0 ∧ ∃ v' A' : Nat, v = v' ∧ A = A' ∧ S i v' A')
theorem BothBad.unique {f g : Cv} {e e' : Int} (h : BothBad f g e) (k : BothBad f g e') : e = e' := by
  rcases h with ⟨h0, rfl⟩ | ⟨h0, h1, rfl, _⟩ <;> rcases k with ⟨k0, rfl⟩ | ⟨k0, k1, rfl, _⟩
  · rfl
  · exact absurd ⟨k0, k1⟩ h0
  · exact absurd ⟨h0, h1⟩ k0
  · rfl
theorem BothBad.not {f g : Cv} {e : Int} (h : BothBad f g e) (hf : f.Ok) (hg : g.Ok) : ¬ ∃ a b, NF f.at a ∧ NF g.at b ∧ comm a.per.toNat b.per.toNat ≤ 120 := by
  rintro ⟨a, b, ha, hb, hc⟩
  rcases h with ⟨h0, _⟩ | ⟨_, _, _, a', b', ha', hb', hc'⟩
  · exact h0 ⟨hf, hg⟩
  · rw [ha.unique ha', hb.unique hb'] at hc
    omega
theorem DevE.unique {S : Bool → Nat → Nat → Prop} {f g : Cv} (hS : f.Ok → g.Ok → ∀ {i j : Bool} {v A w B : Nat}, S i v A → S j w B → i = j ∧ v = w ∧ A = B) {i j : Bool} {v A e w B e' : Int} (h : DevE S f g i v A e) (k : DevE S f g j w B e') : i = j ∧ v = w ∧ A = B ∧ e = e' := by
  rcases h with ⟨h0, rfl, rfl, rfl⟩ | ⟨h0, h1, h2, rfl, v1, A1, rfl, rfl, h⟩ <;> rcases k with ⟨k0, rfl, rfl, rfl⟩ | ⟨k0, k1, k2, rfl, v2, A2, rfl, rfl, k⟩
  · exact ⟨rfl, rfl, rfl, h0.unique k0⟩
  · exact absurd k2 (h0.not k0 k1)
  · exact absurd h2 (k0.not h0 h1)
  · obtain ⟨rfl, rfl, rfl⟩ := hS h0 h1 h k
    exact ⟨rfl, rfl, rfl, rfl⟩
def RetDv (S : Bool → Nat → Nat → Prop) (f g : Cv) (w : World) (e : Ending) (w' : World) : Prop :=
  ∃ i v A er, DevE S f g i v A er ∧ e = .returned (.tuple #[.agg #[.bool i, .int .i64 v, .int .i64 A], .int .i64 er]) ∧ Below w.heap.size w w'

def DelII (a b : Cv) (k : Nat) (v A : Int) : Prop := ∃ v' A' : Nat, v = v' ∧ A = A' ∧ DelI a b k v' A'
theorem del_step {a b : Cv} (ha : a.Ok) (hb : b.Ok) {k : Nat} (hk : k ≤ 1000) {v A d : Int} (h : DelII a b k v A) (hR : DelR a b k d true) : (v < d → DelII a b (k + 1) d k) ∧ (¬ v < d → DelII a b (k + 1) v A) := by
  obtain ⟨v', A', rfl, rfl, h⟩ := h
  obtain ⟨r, hx, rfl⟩ := hR
  rcases hx with ⟨_, n, rfl, h1, h2⟩ | ⟨hx, _⟩
  · have h3 := (geq_le (g := b) ha (t := k) (by omega) n).1 h1
    have h4 : ∀ m, m < n → ¬ LeAt a b k m := fun m hm h5 => h2 m hm ((geq_le ha (by omega) m).2 h5)
    refine ⟨fun hv => ⟨n - k, k, by omega, rfl, ?_⟩, fun hv => ⟨v', A', rfl, rfl, ?_⟩⟩
    · exact h.more hb h3 h4 (by omega)
    · exact h.less hb h3 (by omega)
  · cases hx
theorem del_bad {a b : Cv} (ha : a.Ok) {k : Nat} (hk : k ≤ 1000) {d : Int} (hR : DelR a b k d false) : DelayS a b true 0 0 := by
  obtain ⟨r, hx, _⟩ := hR
  rcases hx with ⟨hx, _⟩ | ⟨_, _, hx⟩
  · cases hx
  · exact not_db (t := k) (fun n h => hx n ((geq_le ha (by omega) n).2 h))
def AhII (a b : Cv) (j k : Nat) (v A : Int) : Prop := ∃ v' A' : Nat, v = v' ∧ A = A' ∧ AhI a b j k v' A'
theorem ah_step {a b : Cv} (ha : a.Ok) (hb : b.Ok) {j k : Nat} (hj : j ≤ 1) (hk : k ≤ 1000) {v A d : Int} (h : AhII a b j k v A) (hR : AhR a b j k d true) : (v < d → AhII a b j (k + 1) d k) ∧ (¬ v < d → AhII a b j (k + 1) v A) := by
  obtain ⟨v', A', rfl, rfl, h⟩ := h
  have hbb := hb.at_bd (n := k) (by omega)
  have haa := ha.at_bd (n := k + j) (by omega)
  rcases hR with ⟨h1, rfl, _⟩ | ⟨h1, rfl, h2⟩
  · exact ⟨fun hv => by omega, fun _ => ⟨v', A', rfl, rfl, h.less (.inl (hbb.2.2 h1))⟩⟩
  · have h3 : ¬ b.infAt k := fun h => h1 h.2
    have h4 : a.at (k + j) ≠ inf := by
      have := h2.symm; rwa [bne_iff_ne] at this
    have h5 : ¬ a.infAt (k + j) := fun h => h4 h.2
    refine ⟨fun hv => ?_, fun hv => ?_⟩
    · obtain ⟨D, hD⟩ := Int.eq_ofNat_of_zero_le (show 0 ≤ a.at (k + j) - b.at k by omega)
      rw [hD] at hv ⊢
      exact ⟨D, k, rfl, rfl, h.more h3 h5 (by omega) (by omega)⟩
    · exact ⟨v', A', rfl, rfl, h.less (.inr ⟨h5, by omega⟩)⟩
theorem ah_bad {a b : Cv} (ha : a.Ok) (hb : b.Ok) {j k : Nat} (hj : j ≤ 1) (hk : k ≤ 1000) {d : Int} (hR : AhR a b j k d false) : AheadS a b j true 0 0 := by
  rcases hR with ⟨_, _, h⟩ | ⟨h1, _, h2⟩
  · cases h
  · have haa := ha.at_bd (n := k + j) (by omega)
    have h4 : a.at (k + j) = inf := by
      have := h2.symm
      rw [bne_eq_false_iff_eq] at this
      exact this
    exact not_ab (fun h => h1 h.2) (haa.2.2 h4)


set_option maxHeartbeats 2000000 in
set_option maxRecDepth 100000 in
theorem delay_any (A B : Option Addr) (n m c d : Nat) (p i q j : Int) (xs ys : List Int) (w : World) (hA : Ints w w.heap.size A n xs) (hB : Ints w w.heap.size B m ys) (hn : (n : Int) ≤ 1000000) (hm : (m : Int) ≤ 1000000) :
    Calls Try.prog 57 #[.agg #[.slice A n c, .int .i64 p, .int .i64 i], .agg #[.slice B m d, .int .i64 q, .int .i64 j]] w (RetDv (DelayS ⟨xs, p, i⟩ ⟨ys, q, j⟩) ⟨xs, p, i⟩ ⟨ys, q, j⟩ w) := by
  have P := Lib.hid ((PS.new (c := c) (p := p) (i := i) (d := d) (q := q) (j := j) hA hB).alloc (.cells #[.bool false, .int .i64 0, .int .i64 0] 76))
  have rb := Blk.new ((w.alloc (.cells #[.slice A n c, .int .i64 p, .int .i64 i] 31)).alloc (.cells #[.slice B m d, .int .i64 q, .int .i64 j] 31)) 76 #[.bool false, .int .i64 0, .int .i64 0]
  rw [World.size_alloc, World.size_alloc] at rb
  have RB := Lib.hid rb
  clear hA hB rb
  go_enter Try.func57, Try.ntmps57
  go_wp2_with fail
  refine (dboth_any A B n m c d p i q j xs ys _ P.out.ia P.out.ib hn hm).mono ?_
  rintro e w1 hret
  have hs0 := RB.out.lt
  rcases hret with ⟨er, hbad, rfl, hb⟩ | ⟨hf, hg, a, b, A1, n1, c1, A2, n2, c2, l, hna, hnb, hao, hbo, hc, hl, rfl, hI1, hI2, hA1, hA2, hb⟩
  · have P := Lib.hid (P.out.below hb)
    have RB := Lib.hid (RB.out.below hb RB.out.lt)
    clear hb
    obtain ⟨r0, r1, r2⟩ : _ ∧ _ ∧ _ := ⟨RB.out.cell 0, RB.out.cell 1, RB.out.cell 2⟩
    simp at r0 r1 r2
    have y0 := RB.out.frozen 0; have y1 := RB.out.frozen 1; have y2 := RB.out.frozen 2
    have hlr := RB.out.lt
    have F := Lib.hid (show DevE (DelayS ⟨xs, p, i⟩ ⟨ys, q, j⟩) ⟨xs, p, i⟩ ⟨ys, q, j⟩ false 0 0 er from .inl ⟨hbad, rfl, rfl, rfl⟩)
    have hne : (er != 0) = true := by rcases hbad with ⟨_, rfl⟩ | ⟨_, _, rfl, _⟩ <;> rfl
    clear hbad
    unfold zero8
    go_wp2_with fail
    have rb := (RB.out.store3 (.bool false) (.int .i64 0) (.int .i64 0)).alloc (.cells #[.slice none 0 0, .int .i64 0, .int .i64 0, .slice none 0 0, .int .i64 0, .int .i64 0, .int .i64 0, .bool false] 128)
    have bw := P.out.bw
    exact bodyPost_ret (v := .tuple #[.agg #[.bool false, .int .i64 0, .int .i64 0], .int .i64 er]) (by simp [results, Try.results57, go_sem, rb.cell]) rfl ⟨_, _, _, _, F.out, rfl, bthen (b3store bw (by omega)) (balloc _ _)⟩
  · unfold dpA
    have ob := ord_b hao hbo
    have hT : ordF a b + ordC a b ≤ 1000 := by
      have h1 := hao.n2; have h2 := hbo.n2
      unfold ordF
      have h3 : ordC a b ≤ 120 := hc
      omega
    obtain ⟨T, hTe⟩ : ∃ T, T = ordF a b + ordC a b := ⟨_, rfl⟩
    rw [← hTe] at hT
    rw [← hTe]
    have EX := Lib.hid (show ∃ a b, NF (Cv.at ⟨xs, p, i⟩) a ∧ NF (Cv.at ⟨ys, q, j⟩) b ∧ comm a.per.toNat b.per.toNat ≤ 120 from ⟨a, b, hna, hnb, hc⟩)
    have E := Lib.hid (show DP (w1.alloc (.cells #[.slice A1 n1 c1, .int .i64 a.per, .int .i64 a.inc, .slice A2 n2 c2, .int .i64 b.per, .int .i64 b.inc, .int .i64 T, .bool l] 128)) w1.heap.size A1 n1 c1 a A2 n2 c2 b T l from ⟨Blk.new _ _ _, hI1.alloc' _, hI2.alloc' _⟩)
    have RB := Lib.hid ((RB.out.below hb RB.out.lt).alloc (.cells #[.slice A1 n1 c1, .int .i64 a.per, .int .i64 a.inc, .slice A2 n2 c2, .int .i64 b.per, .int .i64 b.inc, .int .i64 T, .bool l] 128))
    have BW := Lib.hid (bthen (bthen P.out.bw hb) (balloc _ (.cells #[.slice A1 n1 c1, .int .i64 a.per, .int .i64 a.inc, .slice A2 n2 c2, .int .i64 b.per, .int .i64 b.inc, .int .i64 T, .bool l] 128)))
    have HF := Lib.hid hf; have HG := Lib.hid hg; have HNA := Lib.hid hna; have HNB := Lib.hid hnb; have HAO := Lib.hid hao; have HBO := Lib.hid hbo; have HL := Lib.hid hl; have HTE := Lib.hid hTe
    clear P hb hf hg hna hnb hao hbo hl hTe hI1 hI2 hA1 hA2 hc ob
    cases l
    case true =>
      have F := Lib.hid (show DevE (DelayS ⟨xs, p, i⟩ ⟨ys, q, j⟩) ⟨xs, p, i⟩ ⟨ys, q, j⟩ true 0 0 0 from .inr ⟨HF.out, HG.out, EX.out, rfl, 0, 0, rfl, rfl, (loose_del HAO.out (HL.out.1 rfl)).nf HF.out HG.out HNA.out HNB.out⟩)
      obtain ⟨r0, r1, r2⟩ : _ ∧ _ ∧ _ := ⟨RB.out.cell 0, RB.out.cell 1, RB.out.cell 2⟩
      simp at r0 r1 r2
      have y0 := RB.out.frozen 0; have y1 := RB.out.frozen 1; have y2 := RB.out.frozen 2
      have hlr := RB.out.lt
      go_wp2_with fail
      have rb := RB.out.store3 (.bool true) (.int .i64 0) (.int .i64 0)
      exact bodyPost_ret (v := .tuple #[.agg #[.bool true, .int .i64 0, .int .i64 0], .int .i64 0]) (by simp [results, Try.results57, go_sem, rb.cell]) rfl ⟨_, _, _, _, F.out, rfl, b3store BW.out (by omega)⟩
    case false =>
      have HNL := Lib.hid (show ¬ Loose a b from fun h => by have := HL.out.2 h; cases this)
      obtain ⟨q6, q7⟩ := E.out.cells2
      have hle := E.out.blk.lt
      go_wp2_with fail
      refine (greatest_any 111 #[.pointer (some ⟨w1.heap.size, 0, none⟩)] T (DelR a b) (DelII a b) (DelayS a b true 0 0) _ hT ⟨0, 0, rfl, rfl, DelI.zero a b⟩
        (fun k v A d hk hI hR => del_step HAO.out HBO.out (by omega) hI hR) (fun k d hk hR => del_bad HAO.out (by omega) hR)
        (fun t w2 ht hb => delay1_any w1.heap.size A1 n1 c1 a A2 n2 c2 b T false t w2 (E.out.below hb) HAO.out HBO.out (by omega)) (fun x w => by kernel_rfl)).mono ?_
      rintro e w2 hret
      rcases hret with ⟨hQ, rfl, hb⟩ | ⟨v, A', hI, rfl, hb⟩
      · have F := Lib.hid (show DevE (DelayS ⟨xs, p, i⟩ ⟨ys, q, j⟩) ⟨xs, p, i⟩ ⟨ys, q, j⟩ true 0 0 0 from .inr ⟨HF.out, HG.out, EX.out, rfl, 0, 0, rfl, rfl, hQ.nf HF.out HG.out HNA.out HNB.out⟩)
        have RB := Lib.hid (RB.out.below hb RB.out.lt); have BW := Lib.hid (bthen BW.out hb)
        clear hb hQ
        obtain ⟨r0, r1, r2⟩ : _ ∧ _ ∧ _ := ⟨RB.out.cell 0, RB.out.cell 1, RB.out.cell 2⟩
        simp at r0 r1 r2
        have y0 := RB.out.frozen 0; have y1 := RB.out.frozen 1; have y2 := RB.out.frozen 2
        have hlr := RB.out.lt
        go_wp2_with fail
        have rb := RB.out.store3 (.bool true) (.int .i64 0) (.int .i64 0)
        exact bodyPost_ret (v := .tuple #[.agg #[.bool true, .int .i64 0, .int .i64 0], .int .i64 0]) (by simp [results, Try.results57, go_sem, rb.cell]) rfl ⟨_, _, _, _, F.out, rfl, b3store BW.out (by omega)⟩
      · have F := Lib.hid (show DevE (DelayS ⟨xs, p, i⟩ ⟨ys, q, j⟩) ⟨xs, p, i⟩ ⟨ys, q, j⟩ false v A' 0 from .inr ⟨HF.out, HG.out, EX.out, rfl, by
          obtain ⟨v', A'', rfl, rfl, h⟩ := hI
          exact ⟨v', A'', rfl, rfl, (h.done HAO.out HBO.out HNL.out (by rw [HTE.out]; exact Nat.le_refl _)).nf HF.out HG.out HNA.out HNB.out⟩⟩)
        have RB := Lib.hid (RB.out.below hb RB.out.lt); have BW := Lib.hid (bthen BW.out hb)
        clear hb hI
        obtain ⟨r0, r1, r2⟩ : _ ∧ _ ∧ _ := ⟨RB.out.cell 0, RB.out.cell 1, RB.out.cell 2⟩
        simp at r0 r1 r2
        have y0 := RB.out.frozen 0; have y1 := RB.out.frozen 1; have y2 := RB.out.frozen 2
        have hlr := RB.out.lt
        go_wp2_with fail
        have rb := RB.out.store3 (.bool false) (.int .i64 v) (.int .i64 A')
        exact bodyPost_ret (v := .tuple #[.agg #[.bool false, .int .i64 v, .int .i64 A'], .int .i64 0]) (by simp [results, Try.results57, go_sem, rb.cell]) rfl ⟨_, _, _, _, F.out, rfl, b3store BW.out (by omega)⟩
set_option maxHeartbeats 2000000 in
set_option maxRecDepth 100000 in
theorem ahead_any (K : Nat) (hK : K ≤ 1) (A B : Option Addr) (n m c d : Nat) (p i q j : Int) (xs ys : List Int) (w : World) (hA : Ints w w.heap.size A n xs) (hB : Ints w w.heap.size B m ys) (hn : (n : Int) ≤ 1000000) (hm : (m : Int) ≤ 1000000) :
    Calls Try.prog 152 #[.agg #[.slice A n c, .int .i64 p, .int .i64 i], .agg #[.slice B m d, .int .i64 q, .int .i64 j], .int .i64 K] w (RetDv (AheadS ⟨xs, p, i⟩ ⟨ys, q, j⟩ K) ⟨xs, p, i⟩ ⟨ys, q, j⟩ w) := by
  have P := Lib.hid (((PS.new (c := c) (p := p) (i := i) (d := d) (q := q) (j := j) hA hB).alloc (.cells #[.int .i64 K] 3)).alloc (.cells #[.bool false, .int .i64 0, .int .i64 0] 76))
  have db := (Blk.new ((w.alloc (.cells #[.slice A n c, .int .i64 p, .int .i64 i] 31)).alloc (.cells #[.slice B m d, .int .i64 q, .int .i64 j] 31)) 3 #[.int .i64 K]).alloc (.cells #[.bool false, .int .i64 0, .int .i64 0] 76)
  rw [World.size_alloc, World.size_alloc] at db
  have DB := Lib.hid db
  clear db
  have rb := Blk.new (((w.alloc (.cells #[.slice A n c, .int .i64 p, .int .i64 i] 31)).alloc (.cells #[.slice B m d, .int .i64 q, .int .i64 j] 31)).alloc (.cells #[.int .i64 K] 3)) 76 #[.bool false, .int .i64 0, .int .i64 0]
  rw [World.size_alloc, World.size_alloc, World.size_alloc] at rb
  have RB := Lib.hid rb
  clear hA hB rb
  go_enter Try.func152, Try.ntmps152
  go_wp2_with fail
  refine (dboth_any A B n m c d p i q j xs ys _ P.out.ia P.out.ib hn hm).mono ?_
  rintro e w1 hret
  have hs0 := RB.out.lt
  rcases hret with ⟨er, hbad, rfl, hb⟩ | ⟨hf, hg, a, b, A1, n1, c1, A2, n2, c2, l, hna, hnb, hao, hbo, hc, hl, rfl, hI1, hI2, hA1, hA2, hb⟩
  · have P := Lib.hid (P.out.below hb)
    have RB := Lib.hid (RB.out.below hb RB.out.lt)
    clear hb
    obtain ⟨r0, r1, r2⟩ : _ ∧ _ ∧ _ := ⟨RB.out.cell 0, RB.out.cell 1, RB.out.cell 2⟩
    simp at r0 r1 r2
    have y0 := RB.out.frozen 0; have y1 := RB.out.frozen 1; have y2 := RB.out.frozen 2
    have hlr := RB.out.lt
    have F := Lib.hid (show DevE (AheadS ⟨xs, p, i⟩ ⟨ys, q, j⟩ K) ⟨xs, p, i⟩ ⟨ys, q, j⟩ false 0 0 er from .inl ⟨hbad, rfl, rfl, rfl⟩)
    have hne : (er != 0) = true := by rcases hbad with ⟨_, rfl⟩ | ⟨_, _, rfl, _⟩ <;> rfl
    clear hbad
    unfold zero8
    go_wp2_with fail
    have rb := (RB.out.store3 (.bool false) (.int .i64 0) (.int .i64 0)).alloc (.cells #[.slice none 0 0, .int .i64 0, .int .i64 0, .slice none 0 0, .int .i64 0, .int .i64 0, .int .i64 0, .bool false] 128)
    have bw := P.out.bw
    exact bodyPost_ret (v := .tuple #[.agg #[.bool false, .int .i64 0, .int .i64 0], .int .i64 er]) (by simp [results, Try.results152, go_sem, rb.cell]) rfl ⟨_, _, _, _, F.out, rfl, bthen (b3store bw (by omega)) (balloc _ _)⟩
  · unfold dpA
    have ob := ord_b hao hbo
    have hT : ordF a b + ordC a b ≤ 1000 := by
      have h1 := hao.n2; have h2 := hbo.n2
      unfold ordF
      have h3 : ordC a b ≤ 120 := hc
      omega
    obtain ⟨T, hTe⟩ : ∃ T, T = ordF a b + ordC a b := ⟨_, rfl⟩
    rw [← hTe] at hT
    rw [← hTe]
    have EX := Lib.hid (show ∃ a b, NF (Cv.at ⟨xs, p, i⟩) a ∧ NF (Cv.at ⟨ys, q, j⟩) b ∧ comm a.per.toNat b.per.toNat ≤ 120 from ⟨a, b, hna, hnb, hc⟩)
    have E := Lib.hid (show DP (w1.alloc (.cells #[.slice A1 n1 c1, .int .i64 a.per, .int .i64 a.inc, .slice A2 n2 c2, .int .i64 b.per, .int .i64 b.inc, .int .i64 T, .bool l] 128)) w1.heap.size A1 n1 c1 a A2 n2 c2 b T l from ⟨Blk.new _ _ _, hI1.alloc' _, hI2.alloc' _⟩)
    have RB := Lib.hid ((RB.out.below hb RB.out.lt).alloc (.cells #[.slice A1 n1 c1, .int .i64 a.per, .int .i64 a.inc, .slice A2 n2 c2, .int .i64 b.per, .int .i64 b.inc, .int .i64 T, .bool l] 128))
    have DB := Lib.hid ((DB.out.below hb DB.out.lt).alloc (.cells #[.slice A1 n1 c1, .int .i64 a.per, .int .i64 a.inc, .slice A2 n2 c2, .int .i64 b.per, .int .i64 b.inc, .int .i64 T, .bool l] 128))
    have BW := Lib.hid (bthen (bthen P.out.bw hb) (balloc _ (.cells #[.slice A1 n1 c1, .int .i64 a.per, .int .i64 a.inc, .slice A2 n2 c2, .int .i64 b.per, .int .i64 b.inc, .int .i64 T, .bool l] 128)))
    have HF := Lib.hid hf; have HG := Lib.hid hg; have HNA := Lib.hid hna; have HNB := Lib.hid hnb; have HAO := Lib.hid hao; have HBO := Lib.hid hbo; have HL := Lib.hid hl; have HTE := Lib.hid hTe
    clear P hb hf hg hna hnb hao hbo hl hTe hI1 hI2 hA1 hA2 hc ob
    cases l
    case true =>
      have F := Lib.hid (show DevE (AheadS ⟨xs, p, i⟩ ⟨ys, q, j⟩ K) ⟨xs, p, i⟩ ⟨ys, q, j⟩ true 0 0 0 from .inr ⟨HF.out, HG.out, EX.out, rfl, 0, 0, rfl, rfl, (loose_ahead HAO.out K (HL.out.1 rfl)).nf HF.out HG.out HNA.out HNB.out⟩)
      obtain ⟨r0, r1, r2⟩ : _ ∧ _ ∧ _ := ⟨RB.out.cell 0, RB.out.cell 1, RB.out.cell 2⟩
      simp at r0 r1 r2
      have y0 := RB.out.frozen 0; have y1 := RB.out.frozen 1; have y2 := RB.out.frozen 2
      have hlr := RB.out.lt
      go_wp2_with fail
      have rb := RB.out.store3 (.bool true) (.int .i64 0) (.int .i64 0)
      exact bodyPost_ret (v := .tuple #[.agg #[.bool true, .int .i64 0, .int .i64 0], .int .i64 0]) (by simp [results, Try.results152, go_sem, rb.cell]) rfl ⟨_, _, _, _, F.out, rfl, b3store BW.out (by omega)⟩
    case false =>
      have HNL := Lib.hid (show ¬ Loose a b from fun h => by have := HL.out.2 h; cases this)
      obtain ⟨q6, q7⟩ := E.out.cells2
      have hle := E.out.blk.lt
      go_wp2_with fail
      refine (greatest_any 159 #[.pointer (some ⟨w1.heap.size, 0, none⟩), .pointer (some ⟨w.heap.size + 1 + 1, 0, none⟩)] T (AhR a b K) (AhII a b K) (AheadS a b K true 0 0) _ hT ⟨0, 0, rfl, rfl, AhI.zero a b K⟩
        (fun k v A d hk hI hR => ah_step HAO.out HBO.out hK (by omega) hI hR) (fun k d hk hR => ah_bad HAO.out HBO.out hK (by omega) hR)
        (fun t w2 ht hb => ahead1_any w1.heap.size (w.heap.size + 1 + 1) A1 n1 c1 a A2 n2 c2 b T false t K w2 (E.out.below hb) (DB.out.below hb DB.out.lt) HAO.out HBO.out (by omega) hK) (fun x w => by kernel_rfl)).mono ?_
      rintro e w2 hret
      rcases hret with ⟨hQ, rfl, hb⟩ | ⟨v, A', hI, rfl, hb⟩
      · have F := Lib.hid (show DevE (AheadS ⟨xs, p, i⟩ ⟨ys, q, j⟩ K) ⟨xs, p, i⟩ ⟨ys, q, j⟩ true 0 0 0 from .inr ⟨HF.out, HG.out, EX.out, rfl, 0, 0, rfl, rfl, hQ.nf HF.out HG.out HNA.out HNB.out⟩)
        have RB := Lib.hid (RB.out.below hb RB.out.lt); have BW := Lib.hid (bthen BW.out hb)
        clear hb hQ
        obtain ⟨r0, r1, r2⟩ : _ ∧ _ ∧ _ := ⟨RB.out.cell 0, RB.out.cell 1, RB.out.cell 2⟩
        simp at r0 r1 r2
        have y0 := RB.out.frozen 0; have y1 := RB.out.frozen 1; have y2 := RB.out.frozen 2
        have hlr := RB.out.lt
        go_wp2_with fail
        have rb := RB.out.store3 (.bool true) (.int .i64 0) (.int .i64 0)
        exact bodyPost_ret (v := .tuple #[.agg #[.bool true, .int .i64 0, .int .i64 0], .int .i64 0]) (by simp [results, Try.results152, go_sem, rb.cell]) rfl ⟨_, _, _, _, F.out, rfl, b3store BW.out (by omega)⟩
      · have F := Lib.hid (show DevE (AheadS ⟨xs, p, i⟩ ⟨ys, q, j⟩ K) ⟨xs, p, i⟩ ⟨ys, q, j⟩ false v A' 0 from .inr ⟨HF.out, HG.out, EX.out, rfl, by
          obtain ⟨v', A'', rfl, rfl, h⟩ := hI
          exact ⟨v', A'', rfl, rfl, (h.done HAO.out HBO.out HNL.out (by rw [HTE.out]; exact Nat.le_refl _)).nf HF.out HG.out HNA.out HNB.out⟩⟩)
        have RB := Lib.hid (RB.out.below hb RB.out.lt); have BW := Lib.hid (bthen BW.out hb)
        clear hb hI
        obtain ⟨r0, r1, r2⟩ : _ ∧ _ ∧ _ := ⟨RB.out.cell 0, RB.out.cell 1, RB.out.cell 2⟩
        simp at r0 r1 r2
        have y0 := RB.out.frozen 0; have y1 := RB.out.frozen 1; have y2 := RB.out.frozen 2
        have hlr := RB.out.lt
        go_wp2_with fail
        have rb := RB.out.store3 (.bool false) (.int .i64 v) (.int .i64 A')
        exact bodyPost_ret (v := .tuple #[.agg #[.bool false, .int .i64 v, .int .i64 A'], .int .i64 0]) (by simp [results, Try.results152, go_sem, rb.cell]) rfl ⟨_, _, _, _, F.out, rfl, b3store BW.out (by omega)⟩

theorem backlog_any (A B : Option Addr) (n m c d : Nat) (p i q j : Int) (xs ys : List Int) (w : World) (hA : Ints w w.heap.size A n xs) (hB : Ints w w.heap.size B m ys) (hn : (n : Int) ≤ 1000000) (hm : (m : Int) ≤ 1000000) :
    Calls Try.prog 106 #[.agg #[.slice A n c, .int .i64 p, .int .i64 i], .agg #[.slice B m d, .int .i64 q, .int .i64 j]] w (RetDv (AheadS ⟨xs, p, i⟩ ⟨ys, q, j⟩ 0) ⟨xs, p, i⟩ ⟨ys, q, j⟩ w) := by
  have P := Lib.hid ((PS.new (c := c) (p := p) (i := i) (d := d) (q := q) (j := j) hA hB).alloc (.cells #[.bool false, .int .i64 0, .int .i64 0] 76))
  have rb := Blk.new ((w.alloc (.cells #[.slice A n c, .int .i64 p, .int .i64 i] 31)).alloc (.cells #[.slice B m d, .int .i64 q, .int .i64 j] 31)) 76 #[.bool false, .int .i64 0, .int .i64 0]
  rw [World.size_alloc, World.size_alloc] at rb
  have RB := Lib.hid rb
  clear hA hB rb
  go_enter Try.func106, Try.ntmps106
  go_wp2_with fail
  refine (ahead_any 0 (by omega) A B n m c d p i q j xs ys _ P.out.ia P.out.ib hn hm).mono ?_
  rintro e w1 ⟨I, V, W, er, hE, rfl, hb⟩
  have RB := Lib.hid (RB.out.below hb RB.out.lt); have BW := Lib.hid (bthen P.out.bw hb)
  have F := Lib.hid hE
  clear hE hb
  obtain ⟨r0, r1, r2⟩ : _ ∧ _ ∧ _ := ⟨RB.out.cell 0, RB.out.cell 1, RB.out.cell 2⟩
  simp at r0 r1 r2
  have y0 := RB.out.frozen 0; have y1 := RB.out.frozen 1; have y2 := RB.out.frozen 2
  have hlr := RB.out.lt
  go_wp2_with fail
  have rb := RB.out.store3 (.bool I) (.int .i64 V) (.int .i64 W)
  exact bodyPost_ret (v := .tuple #[.agg #[.bool I, .int .i64 V, .int .i64 W], .int .i64 er]) (by simp [results, Try.results106, go_sem, rb.cell]) rfl ⟨_, _, _, _, F.out, rfl, b3store BW.out (by omega)⟩

theorem peak_any (A B : Option Addr) (n m c d : Nat) (p i q j : Int) (xs ys : List Int) (w : World) (hA : Ints w w.heap.size A n xs) (hB : Ints w w.heap.size B m ys) (hn : (n : Int) ≤ 1000000) (hm : (m : Int) ≤ 1000000) :
    Calls Try.prog 107 #[.agg #[.slice A n c, .int .i64 p, .int .i64 i], .agg #[.slice B m d, .int .i64 q, .int .i64 j]] w (RetDv (AheadS ⟨xs, p, i⟩ ⟨ys, q, j⟩ 1) ⟨xs, p, i⟩ ⟨ys, q, j⟩ w) := by
  have P := Lib.hid ((PS.new (c := c) (p := p) (i := i) (d := d) (q := q) (j := j) hA hB).alloc (.cells #[.bool false, .int .i64 0, .int .i64 0] 76))
  have rb := Blk.new ((w.alloc (.cells #[.slice A n c, .int .i64 p, .int .i64 i] 31)).alloc (.cells #[.slice B m d, .int .i64 q, .int .i64 j] 31)) 76 #[.bool false, .int .i64 0, .int .i64 0]
  rw [World.size_alloc, World.size_alloc] at rb
  have RB := Lib.hid rb
  clear hA hB rb
  go_enter Try.func107, Try.ntmps107
  go_wp2_with fail
  refine (ahead_any 1 (by omega) A B n m c d p i q j xs ys _ P.out.ia P.out.ib hn hm).mono ?_
  rintro e w1 ⟨I, V, W, er, hE, rfl, hb⟩
  have RB := Lib.hid (RB.out.below hb RB.out.lt); have BW := Lib.hid (bthen P.out.bw hb)
  have F := Lib.hid hE
  clear hE hb
  obtain ⟨r0, r1, r2⟩ : _ ∧ _ ∧ _ := ⟨RB.out.cell 0, RB.out.cell 1, RB.out.cell 2⟩
  simp at r0 r1 r2
  have y0 := RB.out.frozen 0; have y1 := RB.out.frozen 1; have y2 := RB.out.frozen 2
  have hlr := RB.out.lt
  go_wp2_with fail
  have rb := RB.out.store3 (.bool I) (.int .i64 V) (.int .i64 W)
  exact bodyPost_ret (v := .tuple #[.agg #[.bool I, .int .i64 V, .int .i64 W], .int .i64 er]) (by simp [results, Try.results107, go_sem, rb.cell]) rfl ⟨_, _, _, _, F.out, rfl, b3store BW.out (by omega)⟩
end Go.Proofs.Ytbkimphcmmmaiaa
