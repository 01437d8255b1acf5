/- Deconvolution: its values, in plain words. -/
import Derived.Test.YtbkimphcmmmaiaaDevPw
namespace Go.Proofs.Ytbkimphcmmmaiaa
open Go.RowKit
set_option linter.unusedVariables false

/-- h is the deconvolution of f and g -/
def DcF (f g : Cv) (h : Nat → Int) : Prop := ∀ k, ∃ i v A, AheadS f g k i v A ∧ h k = if i = true then inf else ((v : Nat) : Int)
theorem DcF.unique {f g : Cv} {h h' : Nat → Int} (H : DcF f g h) (K : DcF f g h') : h = h' := by
  funext k
  obtain ⟨i, v, A, h1, h2⟩ := H k
  obtain ⟨j, w, B, k1, k2⟩ := K k
  obtain ⟨rfl, rfl, rfl⟩ := h1.unique k1
  rw [h2, k2]
theorem ahead_least {f g : Cv} {k v A : Nat} (h : AheadS f g k false v A) : AB f g k v ∧ ∀ M, AB f g k M → v ≤ M := by
  rcases h with ⟨h, _⟩ | ⟨_, h1, _, h3⟩
  · cases h
  · refine ⟨h1, fun M hM => ?_⟩
    rcases Nat.eq_zero_or_pos v with e | e
    · omega
    · have h4 := (h3 e).1
      rcases hM A with h5 | h5
      · exact absurd h5 h4.1
      · have := h5.2; omega
theorem ahi_exists {a b : Cv} (k T : Nat) (hn : ∀ t, t < T → b.infAt t ∨ ¬ a.infAt (t + k)) : ∃ v A, AhI a b k T v A ∧ A ≤ T := by
  induction T with
  | zero => exact ⟨0, 0, AhI.zero a b k, Nat.le_refl _⟩
  | succ T ih =>
    obtain ⟨v, A, h, hA⟩ := ih (fun t ht => hn t (by omega))
    by_cases hb : b.infAt T
    · exact ⟨v, A, h.less (.inl hb), by omega⟩
    · have ha := (hn T (by omega)).resolve_left hb
      by_cases hc : a.at (T + k) ≤ b.at T + v
      · exact ⟨v, A, h.less (.inr ⟨ha, hc⟩), by omega⟩
      · exact ⟨(a.at (T + k) - b.at T).toNat, T, h.more hb ha (by omega) (by omega), by omega⟩
theorem AhI.long {a b : Cv} {k K v A : Nat} (h : AhI a b k K v A) (n : Nat) (hi : ∀ t, K ≤ t → b.infAt t) : AhI a b k (K + n) v A := by
  induction n with
  | zero => exact h
  | succ n ih => exact ih.less (.inl (hi _ (by omega)))
/-- how many ticks are looked at -/
def dcK (a b : Cv) : Nat := if nth b.vals (b.vals.length - 1) = inf then b.vals.length - b.per.toNat else ordF a b + ordC a b
theorem AhI.doneK {a b : Cv} (ha : a.Ok) (hb : b.Ok) (hl : ¬ Loose a b) {k v A : Nat} (h : AhI a b k (dcK a b) v A) : AheadS a b k false v A := by
  unfold dcK at h
  split at h
  · rename_i ib
    have h2 := h.long (ordF a b + ordC a b) (fun t ht => hb.infAt_start ib ht)
    exact h2.done ha hb hl (by omega)
  · exact h.done ha hb hl (Nat.le_refl _)
/-- the last of a's values is inf: so is a behind its start -/
theorem dc_cases {a b : Cv} (ha : a.Ok) (hb : b.Ok) (k : Nat) : (∃ t, ¬ b.infAt t ∧ a.infAt (t + k)) ∨ ∀ t, b.infAt t ∨ ¬ a.infAt (t + k) := by
  by_cases h : ∃ t, ¬ b.infAt t ∧ a.infAt (t + k)
  · exact .inl h
  · exact .inr fun t => by
      by_cases h1 : b.infAt t
      · exact .inl h1
      · exact .inr fun h2 => h ⟨t, h1, h2⟩
theorem dc_tick {a b : Cv} (ha : a.Ok) (hb : b.Ok) (hl : ¬ Loose a b) (k : Nat) : AheadS a b k true 0 0 ∨ ∃ v A, AheadS a b k false v A ∧ A ≤ dcK a b := by
  rcases dc_cases ha hb k with ⟨t, h1, h2⟩ | h
  · exact .inl (not_ab h1 h2)
  · obtain ⟨v, A, h3, h4⟩ := ahi_exists k (dcK a b) (fun t _ => h t)
    exact .inr ⟨v, A, h3.doneK ha hb hl, h4⟩
theorem dc_exists {a b : Cv} (ha : a.Ok) (hb : b.Ok) : ∃ h, DcF a b h := by
  have h : ∀ k, ∃ x : Int, ∃ i v A, AheadS a b k i v A ∧ x = if i = true then inf else ((v : Nat) : Int) := fun k => by
    by_cases hl : Loose a b
    · exact ⟨_, true, 0, 0, loose_ahead ha k hl, rfl⟩
    · rcases dc_tick ha hb hl k with h | ⟨v, A, h, _⟩
      · exact ⟨_, true, 0, 0, h, rfl⟩
      · exact ⟨_, false, v, A, h, rfl⟩
  exact ⟨fun k => (h k).choose, fun k => (h k).choose_spec⟩
theorem dc_loose {a b : Cv} (ha : a.Ok) (hl : Loose a b) {h : Nat → Int} (H : DcF a b h) : h = fun _ => inf := by
  funext k
  obtain ⟨i, v, A, h1, h2⟩ := H k
  obtain ⟨rfl, _⟩ := h1.unique (loose_ahead ha k hl)
  rw [h2, if_pos rfl]
theorem dc_nn {f g : Cv} {h : Nat → Int} (H : DcF f g h) (k : Nat) : 0 ≤ h k := by
  obtain ⟨i, v, A, h1, h2⟩ := H k
  rw [h2]
  cases i
  · simp
  · simp [inf]
theorem dc_up {f g : Cv} (hf : f.Ok) {t u : Nat} (htu : t ≤ u) {M : Nat} (h : AB f g u M) : AB f g t M := fun x => by
  rcases h x with h1 | ⟨h1, h2⟩
  · exact .inl h1
  · exact .inr ⟨fun h3 => h1 (h3.later hf (by omega)), Int.le_trans (hf.at_le (by omega)) h2⟩
theorem dcK_le {a b : Cv} (ha : a.Ok) (hb : b.Ok) (hc : ordC a b ≤ 120) : dcK a b ≤ 520 := by
  have h1 := ha.n2; have h2 := hb.n2
  unfold dcK
  split
  · omega
  · unfold ordF; omega
theorem dc_small {a b : Cv} (ha : a.Ok) (hb : b.Ok) (hc : ordC a b ≤ 120) (hl : ¬ Loose a b) {k : Nat} (hk : k ≤ 1000) {v A : Nat} (h : AheadS a b k false v A) : (v : Int) ≤ 1152921504606846976 := by
  rcases dc_tick ha hb hl k with h3 | ⟨w, B, h3, h4⟩
  · obtain ⟨h5, _⟩ := h.unique h3
    cases h5
  · obtain ⟨_, rfl, rfl⟩ := h.unique h3
    have h5 := dcK_le ha hb hc
    rcases h3 with ⟨h6, _⟩ | ⟨_, h6, h7, h8⟩
    · cases h6
    · rcases Nat.eq_zero_or_pos v with e | e
      · omega
      · have h9 := (h8 e).1
        have h10 := hb.up0.nn A
        rcases h6 A with h11 | h11
        · exact absurd h11 h9.1
        · rcases ha.fin_or with fa | ia
          · have h14 := fa.at_bd (A + k)
            have : ((A + k : Nat) : Int) * 1073741824 ≤ 2000 * 1073741824 := Int.mul_le_mul_of_nonneg_right (by omega) (by omega)
            omega
          · have h13 : a.at (A + k) ≠ inf := fun e' => h11.1 ⟨ia, e'⟩
            have hlt : A + k < a.vals.length := by
              rcases Nat.lt_or_ge (A + k) a.vals.length with h' | h'
              · exact h'
              · exact absurd (ha.at_inf ia (by omega)) h13
            have e2 : a.at (A + k) = nth a.vals (A + k) := Cv.at_lt hlt
            rw [e2] at h13
            have h15 := h9.2
            rw [e2] at h15
            have := ((okv_iff _).1 (ha.v _ hlt)).resolve_left h13
            omega
theorem dc_bd {a b : Cv} (ha : a.Ok) (hb : b.Ok) (hc : ordC a b ≤ 120) (hl : ¬ Loose a b) {h : Nat → Int} (H : DcF a b h) {k : Nat} (hk : k ≤ 1000) : h k = inf ∨ (0 ≤ h k ∧ h k ≤ 1152921504606846976) := by
  obtain ⟨i, v, A, h1, h2⟩ := H k
  cases i
  · rw [if_neg (by simp)] at h2
    exact .inr ⟨dc_nn H k, by rw [h2]; exact dc_small ha hb hc hl hk h1⟩
  · exact .inl (by rw [h2, if_pos rfl])
theorem dc_zero {b : Cv} (hb : b.Ok) (h0 : b.at 0 = 0) : ¬ b.infAt 0 := fun h => by have := h.2; rw [h0] at this; exact absurd this (by decide)
theorem dc_per {a b : Cv} (ha : a.Ok) (hb : b.Ok) (fa : a.Fin) (hl : ¬ Loose a b) (h0 : b.at 0 = 0) {h : Nat → Int} (H : DcF a b h) : Per h (a.vals.length - a.per.toNat) a.per.toNat a.inc := by
  have hp := ha.p1; have hpn := ha.pn; have hi := ha.i1
  have fin : ∀ k, ∃ v A, AheadS a b k false v A ∧ h k = ((v : Nat) : Int) := fun k => by
    obtain ⟨i, v, A, h1, h2⟩ := H k
    rcases dc_tick ha hb hl k with h3 | ⟨w, B, h3, _⟩
    · exfalso
      rcases h3 with ⟨_, _, _, h3⟩ | ⟨h3, _⟩
      · obtain ⟨v', A', h4, _⟩ := ahi_exists (a := a) (b := b) k (dcK a b) (fun t _ => .inr (fa.not_infAt _))
        exact h3 v' (ahead_least (h4.doneK ha hb hl)).1
      · cases h3
    · obtain ⟨rfl, rfl, rfl⟩ := h1.unique h3
      exact ⟨v, A, h3, by rw [h2, if_neg (by simp)]⟩
  intro t ht
  obtain ⟨v, A, h1, h2⟩ := fin t
  obtain ⟨w, B, h3, h4⟩ := fin (t + a.per.toNat)
  obtain ⟨k1, k2⟩ := ahead_least h1
  obtain ⟨m1, m2⟩ := ahead_least h3
  rw [h2, h4]
  have st : ∀ x, a.at (x + (t + a.per.toNat)) = a.at (x + t) + a.inc := fun x => by
    rw [← Nat.add_assoc]
    exact fa.step (by omega)
  have up : AB a b (t + a.per.toNat) (v + a.inc.toNat) := fun x => by
    rcases k1 x with h5 | ⟨h5, h6⟩
    · exact .inl h5
    · refine .inr ⟨fa.not_infAt _, ?_⟩
      rw [st]
      omega
  have w0 : a.inc ≤ w := by
    rcases m1 0 with h5 | ⟨_, h6⟩
    · exact absurd h5 (dc_zero hb h0)
    · rw [st, h0] at h6
      have := ha.up0.nn (0 + t)
      omega
  have dn : AB a b t (w - a.inc.toNat) := fun x => by
    rcases m1 x with h5 | ⟨_, h6⟩
    · exact .inl h5
    · refine .inr ⟨fa.not_infAt _, ?_⟩
      rw [st] at h6
      omega
  have q1 := m2 _ up
  have q2 := k2 _ dn
  omega
theorem dc_hinf {a b : Cv} (ha : a.Ok) (hb : b.Ok) (hc : ordC a b ≤ 120) (hl : ¬ Loose a b) {h : Nat → Int} (H : DcF a b h) {t u : Nat} (ht : t ≤ 1000) (htu : t ≤ u) (hi : h t = inf) : h u = inf := by
  have h1 : AheadS a b t true 0 0 := by
    rcases dc_tick ha hb hl t with h1 | ⟨v, A, h1, _⟩
    · exact h1
    · exfalso
      rcases dc_bd ha hb hc hl H ht with h2 | h2
      · obtain ⟨i, w, B, h3, h4⟩ := H t
        obtain ⟨rfl, rfl, rfl⟩ := h3.unique h1
        rw [if_neg (by simp)] at h4
        have h6 := dc_small ha hb hc hl ht h1
        rw [hi] at h4
        unfold inf at h4
        omega
      · unfold inf at hi; omega
  obtain ⟨i, w, B, h3, h4⟩ := H u
  have h5 : ∀ M, ¬ AB a b u M := fun M hM => by
    rcases h1 with ⟨_, _, _, h1⟩ | ⟨h1, _⟩
    · exact h1 M (dc_up ha htu hM)
    · cases h1
  rcases h3 with ⟨rfl, _⟩ | ⟨rfl, h6, _⟩
  · rw [h4, if_pos rfl]
  · exact absurd h6 (h5 _)
/-- the curve that is built of the values -/
theorem dc_made {a b : Cv} (ha : a.Ok) (hb : b.Ok) (hc : ordC a b ≤ 120) (hl : ¬ Loose a b) (h0 : b.at 0 = 0) {h : Nat → Int} (H : DcF a b h) {r : Cv} {er : Int}
    (hS : BuildS h (a.vals.length - a.per.toNat) a.per.toNat a.inc r er) : MadeS h r er := by
  have hp := ha.p1; have hpn := ha.pn; have hn := ha.n2; have hn1 := ha.n1
  refine build_made (by omega) (fun t u ht htu hi => dc_hinf ha hb hc hl H (by omega) htu hi) (fun hne => ?_) hS
  rcases ha.fin_or with fa | ia
  · exact dc_per ha hb fa hl h0 H
  · exfalso
    refine hne (a.vals.length - a.per.toNat) (by omega) ?_
    obtain ⟨i, v, A, h1, h2⟩ := H (a.vals.length - a.per.toNat)
    obtain ⟨rfl, _⟩ := h1.unique (not_ab (t := 0) (dc_zero hb h0) (by rw [Nat.zero_add]; exact ha.infAt_start ia (Nat.le_refl _)))
    rw [h2, if_pos rfl]
theorem DcF.nf {f g a b : Cv} (hf : f.Ok) (hg : g.Ok) (ha : NF f.at a) (hb : NF g.at b) {h : Nat → Int} (H : DcF a b h) : DcF f g h := fun k => by
  obtain ⟨i, v, A, h1, h2⟩ := H k
  exact ⟨i, v, A, h1.nf hf hg ha hb, h2⟩
/-- no pair could be made -/
def DcBad (f g : Cv) (er : Int) : Prop :=
  (¬ (f.Ok ∧ g.Ok) ∧ er = 1) ∨ (f.Ok ∧ g.Ok ∧ g.at 0 ≠ 0 ∧ er = 6) ∨ (f.Ok ∧ g.Ok ∧ g.at 0 = 0 ∧ er = 3 ∧ ∃ a b, NF f.at a ∧ NF g.at b ∧ 120 < comm a.per.toNat b.per.toNat)
/-- what Of returns -/
def DcS (f g r : Cv) (er : Int) : Prop :=
  (DcBad f g er ∧ r = Cv.none) ∨ (f.Ok ∧ g.Ok ∧ g.at 0 = 0 ∧ (∃ a b, NF f.at a ∧ NF g.at b ∧ comm a.per.toNat b.per.toNat ≤ 120) ∧ ∃ h, DcF f g h ∧ MadeS h r er)
theorem DcBad.unique {f g : Cv} {e e' : Int} (h : DcBad f g e) (k : DcBad f g e') : e = e' := by
  rcases h with ⟨h0, rfl⟩ | ⟨h0, h1, h2, rfl⟩ | ⟨h0, h1, h2, rfl, _⟩ <;> rcases k with ⟨k0, rfl⟩ | ⟨k0, k1, k2, rfl⟩ | ⟨k0, k1, k2, rfl, _⟩
  · rfl
  · exact absurd ⟨k0, k1⟩ h0
  · exact absurd ⟨k0, k1⟩ h0
  · exact absurd ⟨h0, h1⟩ k0
  · rfl
  · exact absurd k2 h2
  · exact absurd ⟨h0, h1⟩ k0
  · exact absurd h2 k2
  · rfl
theorem DcBad.not {f g : Cv} {e : Int} (h : DcBad f g e) (hf : f.Ok) (hg : g.Ok) (h0 : g.at 0 = 0) (hc : ∃ a b, NF f.at a ∧ NF g.at b ∧ comm a.per.toNat b.per.toNat ≤ 120) : False := by
  rcases h with ⟨h, _⟩ | ⟨_, _, h, _⟩ | ⟨_, _, _, _, a, b, ha, hb, hk⟩
  · exact h ⟨hf, hg⟩
  · exact h h0
  · obtain ⟨a', b', ha', hb', hk'⟩ := hc
    obtain rfl := NF.unique ha ha'
    obtain rfl := NF.unique hb hb'
    omega
theorem DcS.unique {f g r r' : Cv} {e e' : Int} (h : DcS f g r e) (k : DcS f g r' e') : r = r' ∧ e = e' := by
  rcases h with ⟨h0, rfl⟩ | ⟨hf, hg, h0, hc, h, h1, h2⟩ <;> rcases k with ⟨k0, rfl⟩ | ⟨kf, kg, k0, kc, k, k1, k2⟩
  · exact ⟨rfl, h0.unique k0⟩
  · exact absurd h0 (fun h0 => h0.not kf kg k0 kc)
  · exact absurd k0 (fun k0 => k0.not hf hg h0 hc)
  · obtain rfl := h1.unique k1
    exact MadeS.unique h2 k2
end Go.Proofs.Ytbkimphcmmmaiaa
