/- Backlog, peak and deconvolution: the plain law. -/
import Derived.Test.YthgfmaijoigckaaDcFn
import Derived.Test.YthgfmaijoigckaaDev2
namespace Go.Proofs.Ythgfmaijoigckaa
open Go.RowKit
set_option linter.unusedVariables false

theorem ahead_fin {a b : Cv} (ha : a.Ok) (hb : b.Ok) (fa : a.Fin) (hl : ¬ Loose a b) (k : Nat) : ∃ v A, AheadS a b k false v A ∧ A ≤ dcK a b := by
  obtain ⟨v, A, h, hA⟩ := ahi_exists (a := a) (b := b) k (dcK a b) (fun t _ => .inr (fa.not_infAt _))
  exact ⟨v, A, h.doneK ha hb hl, hA⟩
/-- two curves that have a common period that is not great -/
def Pairs (f g : Cv) : Prop := f.Ok ∧ g.Ok ∧ ∃ a b, NF f.at a ∧ NF g.at b ∧ a.Ok ∧ b.Ok ∧ comm a.per.toNat b.per.toNat ≤ 120
theorem ahead_bd {f g : Cv} (H : Pairs f g) {k v A : Nat} (hk : k ≤ 1000) (h : AheadS f g k false v A) : (v : Int) ≤ 1152921504606846976 ∧ A ≤ 520 := by
  obtain ⟨hf, hg, a, b, hna, hnb, ha, hb, hc⟩ := H
  by_cases hl : Loose a b
  · obtain ⟨h1, _⟩ := h.unique ((loose_ahead ha k hl).nf hf hg hna hnb)
    cases h1
  · rcases dc_tick ha hb hl k with h1 | ⟨w, B, h1, h2⟩
    · obtain ⟨h3, _⟩ := h.unique (h1.nf hf hg hna hnb)
      cases h3
    · obtain ⟨_, rfl, rfl⟩ := h.unique (h1.nf hf hg hna hnb)
      have hc' : ordC a b ≤ 120 := by unfold ordC; exact hc
      have := dcK_le ha hb hc'
      exact ⟨dc_small ha hb hc' hl hk h1, by omega⟩
/-- without a greatest backlog there is no greatest peak, and the other way round if the service is finite -/
theorem peak_inf {f g : Cv} (H : Pairs f g) (fg : g.Fin) {i j : Bool} {v A w B : Nat} (h : AheadS f g 0 i v A) (k : AheadS f g 1 j w B) : i = j := by
  obtain ⟨hf, hg, a, b, hna, hnb, ha, hb, hc⟩ := H
  by_cases hl : Loose a b
  · obtain ⟨rfl, _⟩ := h.unique ((loose_ahead ha 0 hl).nf hf hg hna hnb)
    obtain ⟨rfl, _⟩ := k.unique ((loose_ahead ha 1 hl).nf hf hg hna hnb)
    rfl
  · have fb : b.Fin := (hnb.fin_iff hg).2 fg
    have fa : a.Fin := Classical.byContradiction fun h' => hl ⟨fb, .inl h'⟩
    obtain ⟨v', A', h1, _⟩ := ahead_fin ha hb fa hl 0
    obtain ⟨w', B', k1, _⟩ := ahead_fin ha hb fa hl 1
    obtain ⟨rfl, _⟩ := h.unique (h1.nf hf hg hna hnb)
    obtain ⟨rfl, _⟩ := k.unique (k1.nf hf hg hna hnb)
    rfl
theorem dev_ok {S : Bool → Nat → Nat → Prop} {f g : Cv} (H : Pairs f g) {i : Bool} {v A er : Int} (h : DevE S f g i v A er) : er = 0 ∧ ∃ v' A' : Nat, v = v' ∧ A = A' ∧ S i v' A' := by
  obtain ⟨hf, hg, a, b, hna, hnb, ha, hb, hc⟩ := H
  rcases h with ⟨h, _⟩ | ⟨_, _, _, h1, h2⟩
  · exfalso
    rcases h with ⟨h, _⟩ | ⟨_, _, _, a', b', ha', hb', hk⟩
    · exact h ⟨hf, hg⟩
    · obtain rfl := NF.unique hna ha'
      obtain rfl := NF.unique hnb hb'
      omega
  · exact ⟨h1, h2⟩
/-- what the deconvolution says of tick 0 -/
theorem dc_first {f g x : Cv} (H : Pairs f g) (h0 : g.at 0 = 0) {j : Int} (h : DcS f g x j) {i : Bool} {v A : Nat} (k : AheadS f g 0 i v A) : j = 3 ∨ (j = 0 ∧ 1 ≤ x.vals.length ∧ x.vals.length ≤ 400 ∧ nth x.vals 0 = if i = true then inf else (v : Int)) := by
  obtain ⟨hf, hg, a, b, hna, hnb, ha, hb, hc⟩ := H
  rcases h with ⟨h, _⟩ | ⟨_, _, _, _, hh, h1, g', h2, h3⟩
  · exact absurd h (fun h => h.not hf hg h0 ⟨a, b, hna, hnb, hc⟩)
  · rcases h3 with ⟨hl, rfl, rfl⟩ | ⟨_, _, rfl⟩
    · have hn : 1 ≤ x.vals.length := by
        rcases h2 with h2 | h2
        · have := h2.p1; have := h2.pn; omega
        · exact h2.n1
      refine .inr ⟨rfl, hn, hl.1, ?_⟩
      obtain ⟨i', v', A', h4, h5⟩ := h1 0
      obtain ⟨rfl, rfl, rfl⟩ := k.unique h4
      rw [← h5, ← h2.at 0, Cv.at_lt (by omega)]
    · exact .inl rfl
theorem back_le {f g : Cv} (fg : g.Fin) {k v A : Nat} (h : AheadS f g k false v A) (t : Nat) : f.at (t + k) - g.at t ≤ v := by
  rcases (ahead_least h).1 t with h1 | h1
  · exact absurd h1 (fg.not_infAt t)
  · have := h1.2; omega
theorem back_at {f g : Cv} {k v A : Nat} (h : AheadS f g k false v A) : v = 0 ∨ f.at (A + k) - g.at A = v := by
  rcases h with ⟨h, _⟩ | ⟨_, _, _, h⟩
  · cases h
  · rcases Nat.eq_zero_or_pos v with e | e
    · exact .inl e
    · have := (h e).1.2
      exact .inr (by omega)
theorem peak_ge {f g : Cv} (hf : f.Ok) (fg : g.Fin) (h0 : g.at 0 = 0) {v A w B : Nat} (h : AheadS f g 0 false v A) (k : AheadS f g 1 false w B) : (v : Int) - f.at 0 ≤ w := by
  have hz := hf.up0.nn 0
  rcases back_at h with e | e
  · omega
  · rcases Nat.eq_zero_or_pos A with e1 | e1
    · rw [e1, h0] at e
      have e2 : f.at (0 + 0) = f.at 0 := rfl
      omega
    · have h1 := back_le fg k (A - 1)
      have h2 := fg.1.at_le (show A - 1 ≤ A by omega)
      rw [show A - 1 + 1 = A by omega] at h1
      have e2 : f.at (A + 0) = f.at A := rfl
      omega
end Go.Proofs.Ythgfmaijoigckaa
