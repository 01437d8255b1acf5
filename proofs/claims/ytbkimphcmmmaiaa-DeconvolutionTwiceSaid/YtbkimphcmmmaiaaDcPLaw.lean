/- Deconvolution: certificates, in plain words. -/
import Derived.Test.YtbkimphcmmmaiaaDcLaw
namespace Go.Proofs.Ytbkimphcmmmaiaa
open Go.RowKit
set_option linter.unusedVariables false

/-- f(t + u) - g(u) -/
def gn (a b : Cv) (t u : Nat) : Int := if a.at (t + u) = inf then inf else a.at (t + u) - b.at u
/-- both are finite and the first is steeper -/
def Steep (a b : Cv) : Prop := b.Fin ∧ a.Fin ∧ 0 < ordD a b
/-- how many ticks a certificate looks at -/
def dcExt (a h : Cv) : Nat := max (a.vals.length - a.per.toNat) (h.vals.length - h.per.toNat) + a.per.toNat
theorem Steep.loose {a b : Cv} (h : Steep a b) : Loose a b := ⟨h.1, .inr h.2.2⟩
theorem ordC_pos {a b : Cv} (ha : a.Ok) (hb : b.Ok) : 1 ≤ ordC a b := by
  have hp := ha.p1; have hq := hb.p1
  exact (comm_facts (p := a.per.toNat) (q := b.per.toNat) (by omega) (by omega)).2.2.1
theorem dcK_pos {a b : Cv} (ha : a.Ok) (hb : b.Ok) (h0 : b.at 0 = 0) : 1 ≤ dcK a b := by
  unfold dcK
  split
  · rename_i ib
    rcases Nat.eq_zero_or_pos (b.vals.length - b.per.toNat) with e | e
    · exact absurd (hb.infAt_start ib (n := 0) (by omega)) (dc_zero hb h0)
    · exact e
  · have := ordC_pos ha hb; omega
theorem dcK_fin {a b : Cv} (hb : b.Ok) (hbn : nth b.vals (b.vals.length - 1) = inf → ∀ u, u < b.vals.length - b.per.toNat → b.at u ≠ inf) {u : Nat} (hu : u < dcK a b) : ¬ b.infAt u := fun hi => by
  unfold dcK at hu
  rw [if_pos hi.1] at hu
  exact hbn hi.1 u hu hi.2
theorem gn_le {a b : Cv} (ha : a.Ok) (hb : b.Ok) {D : Nat → Int} (H : DcF a b D) {t u : Nat} (hu : t + u ≤ 4000) (hbi : ¬ b.infAt u) : gn a b t u ≤ D t := by
  have h1 := ha.at_bd (n := t + u) (by omega)
  have h2 := hb.up0.nn u
  obtain ⟨i, v, A, h3, h4⟩ := H t
  rcases h3 with ⟨rfl, _⟩ | ⟨rfl, h3, _⟩
  · rw [if_pos rfl] at h4
    rw [h4]
    unfold gn
    split
    · exact Int.le_refl _
    · omega
  · rw [if_neg (by simp)] at h4
    rw [h4]
    unfold gn
    rcases h3 u with h5 | ⟨h5, h6⟩
    · exact absurd h5 hbi
    · rw [Nat.add_comm] at h5 h6
      rw [if_neg (fun e => h5 (h1.2.2 e))]
      omega
theorem ahi_exists' {a b : Cv} (k T : Nat) (hn : ∀ t, t < T → b.infAt t ∨ ¬ a.infAt (t + k)) : ∃ v A, AhI a b k T v A ∧ (v = 0 ∨ A < T) := by
  induction T with
  | zero => exact ⟨0, 0, AhI.zero a b k, .inl rfl⟩
  | succ T ih =>
    obtain ⟨v, A, h, hA⟩ := ih (fun t ht => hn t (by omega))
    by_cases hb : b.infAt T
    · exact ⟨v, A, h.less (.inl hb), by omega⟩
    · have ha := (hn T (by omega)).resolve_left hb
      by_cases hc : a.at (T + k) ≤ b.at T + v
      · exact ⟨v, A, h.less (.inr ⟨ha, hc⟩), by omega⟩
      · exact ⟨(a.at (T + k) - b.at T).toNat, T, h.more hb ha (by omega) (by omega), .inr (by omega)⟩
theorem gn_hit {a b : Cv} (ha : a.Ok) (hb : b.Ok) (hc : ordC a b ≤ 120) (hs : ¬ Steep a b) (h0 : b.at 0 = 0) {D : Nat → Int} (H : DcF a b D) {t : Nat} (ht : t ≤ 1000) :
    ∃ u, u < dcK a b ∧ gn a b t u = D t := by
  have hK := dcK_pos ha hb h0
  have hK2 := dcK_le ha hb hc
  by_cases hl : Loose a b
  · have fa : ¬ a.Fin := fun fa => hs ⟨hl.1, fa, hl.2.resolve_left (fun h => h fa)⟩
    have ia : nth a.vals (a.vals.length - 1) = inf := ha.fin_or.resolve_left fa
    have hn := ha.n2
    refine ⟨a.vals.length - a.per.toNat - t, ?_, ?_⟩
    · unfold dcK
      rw [if_neg hl.1.2]
      have := ordC_pos ha hb
      unfold ordF
      omega
    · unfold gn
      rw [if_pos (ha.infAt_start ia (by omega)).2, dc_loose ha hl H]
  · rcases Classical.em (∃ u, u < dcK a b ∧ ¬ b.infAt u ∧ a.infAt (u + t)) with ⟨u, hu, h1, h2⟩ | hn
    · refine ⟨u, hu, ?_⟩
      unfold gn
      rw [Nat.add_comm, if_pos h2.2]
      obtain ⟨i, v, A, h3, h4⟩ := H t
      obtain ⟨rfl, _⟩ := h3.unique (not_ab h1 h2)
      rw [h4, if_pos rfl]
    · obtain ⟨v, A, h1, hA⟩ := ahi_exists' (a := a) (b := b) t (dcK a b) (fun u hu => by
        by_cases h1 : b.infAt u
        · exact .inl h1
        · exact .inr fun h2 => hn ⟨u, hu, h1, h2⟩)
      have h2 := h1.doneK ha hb hl
      have h3 : D t = (v : Int) := by
        obtain ⟨i, w, B, h3, h4⟩ := H t
        obtain ⟨rfl, rfl, _⟩ := h3.unique h2
        rw [h4, if_neg (by simp)]
      rw [h3]
      rcases h2 with ⟨h2, _⟩ | ⟨_, h4, h5, h6⟩
      · cases h2
      · rcases Nat.eq_zero_or_pos v with e | e
        · refine ⟨0, hK, ?_⟩
          rcases h4 0 with h7 | ⟨h7, h8⟩
          · exact absurd h7 (dc_zero hb h0)
          · rw [Nat.zero_add] at h7 h8
            unfold gn
            rw [Nat.add_zero, if_neg (fun e' => h7 ((ha.at_bd (n := t) (by omega)).2.2 e')), h0]
            have := ha.up0.nn t
            omega
        · obtain ⟨h7, h8⟩ := h6 e
          have hAK : A < dcK a b := hA.resolve_left (by omega)
          refine ⟨A, hAK, ?_⟩
          have h9 : ¬ a.infAt (A + t) := by
            rcases h4 A with h9 | h9
            · exact absurd h9 h7.1
            · exact h9.1
          unfold gn
          rw [Nat.add_comm t A, if_neg (fun e' => h9 ((ha.at_bd (n := A + t) (by omega)).2.2 e'))]
          omega
/-- what a certificate must say -/
def CertS (a b h : Cv) (cs : List Int) : Prop :=
  (Steep a b ∧ nth h.vals 0 = inf ∧ cs = []) ∨ (¬ Steep a b ∧ (h.Fin ↔ a.Fin) ∧ (a.Fin → h.per.toNat ∣ a.per.toNat ∧ ((a.per.toNat / h.per.toNat : Nat) : Int) * h.inc = a.inc) ∧ cs.length = dcExt a h ∧
    ∀ t, t < cs.length → 0 ≤ nth cs t ∧ nth cs t < (dcK a b : Nat) ∧ gn a b t (nth cs t).toNat = h.at t ∧ ∀ u, u < dcK a b → gn a b t u ≤ h.at t)
/-- what Check accepts -/
def CheckS (f g h : Cv) (cs : List Int) : Prop :=
  f.Ok ∧ g.Ok ∧ g.at 0 = 0 ∧ ∃ a b, NF f.at a ∧ NF g.at b ∧ comm a.per.toNat b.per.toNat ≤ 120 ∧ h.Ok ∧ NF h.at h ∧ CertS a b h cs
theorem b_before {h : Nat → Int} {b : Cv} (H : NF h b) (hi : nth b.vals (b.vals.length - 1) = inf) : ∀ u, u < b.vals.length - b.per.toNat → b.at u ≠ inf := by
  rcases H with H | H
  · intro u _
    exfalso
    have h1 := H.p1; have h2 := H.pn
    have h3 := H.fin (b.vals.length - 1) (by omega)
    rw [← H.vals _ (by omega)] at h3
    exact h3 hi
  · intro u hu e
    have h1 := H.p1
    have h2 := H.before u (by omega)
    rw [← H.vals _ (by omega), ← Cv.at_lt (by omega)] at h2
    exact h2 e
theorem per_ext {h k : Nat → Int} {s p : Nat} {x : Int} (hp : 1 ≤ p) (H : Per h s p x) (K : Per k s p x) (e : ∀ t, t < s + p → h t = k t) (t : Nat) : h t = k t := by
  induction t using Nat.strongRecOn with
  | _ t ih =>
    by_cases ht : t < s + p
    · exact e t ht
    · have h1 := H (t - p) (by omega)
      have h2 := K (t - p) (by omega)
      rw [show t - p + p = t by omega] at h1 h2
      rw [h1, h2, ih (t - p) (by omega)]
theorem cert_dc {a b h : Cv} {g : Nat → Int} (ha : a.Ok) (hb : b.Ok) (hnb : NF g b) (hc : ordC a b ≤ 120) (h0 : b.at 0 = 0) (hh : h.Ok) {cs : List Int} (C : CertS a b h cs) {D : Nat → Int} (H : DcF a b D) : h.at = D := by
  funext t
  have hap := ha.p1; have hhp := hh.p1; have hapn := ha.pn; have hhpn := hh.pn
  have han := ha.n2; have hhn := hh.n2; have hap2 := ha.p2
  rcases C with ⟨hs, h1, _⟩ | ⟨hs, hfin, hper, hlen, hall⟩
  · rw [dc_loose ha hs.loose H]
    refine hh.inf_from (t := 0) (by omega) (Nat.zero_le _) ?_
    rw [Cv.at_lt (by omega), h1]
  · have low : ∀ t, t < dcExt a h → h.at t = D t := fun t ht => by
      have hE : dcExt a h ≤ 520 := by unfold dcExt; omega
      have hK := dcK_le ha hb hc
      obtain ⟨c1, c2, c3, c4⟩ := hall t (by omega)
      obtain ⟨u, hu, hD⟩ := gn_hit ha hb hc hs h0 H (t := t) (by omega)
      have h2 := c4 u hu
      have h3 := gn_le ha hb H (t := t) (u := (nth cs t).toNat) (by omega) (dcK_fin (a := a) hb (b_before hnb) (by omega))
      omega
    by_cases fa : a.Fin
    · have hl : ¬ Loose a b := fun hl => hs ⟨hl.1, fa, hl.2.resolve_left (fun h' => h' fa)⟩
      have fh := hfin.2 fa
      obtain ⟨p1, p2⟩ := hper fa
      have q1 : Per D (max (a.vals.length - a.per.toNat) (h.vals.length - h.per.toNat)) a.per.toNat a.inc := (dc_per ha hb fa hl h0 H).mono (by omega)
      have q2 := (fh.toL.step.mul (a.per.toNat / h.per.toNat)).mono (show _ ≤ max (a.vals.length - a.per.toNat) (h.vals.length - h.per.toNat) by omega)
      rw [Nat.div_mul_cancel p1, p2] at q2
      exact per_ext (by omega) q2 q1 low t
    · have fh : ¬ h.Fin := fun fh => fa (hfin.1 fh)
      have ia : nth a.vals (a.vals.length - 1) = inf := ha.fin_or.resolve_left fa
      have ih : nth h.vals (h.vals.length - 1) = inf := hh.fin_or.resolve_left fh
      by_cases ht : t < dcExt a h
      · exact low t ht
      · unfold dcExt at ht
        rw [(hh.infAt_start ih (n := t) (by omega)).2]
        obtain ⟨i, v, A, h1, h2⟩ := H t
        obtain ⟨rfl, _⟩ := h1.unique (not_ab (t := 0) (dc_zero hb h0) (by rw [Nat.zero_add]; exact ha.infAt_start ia (by omega)))
        rw [h2, if_pos rfl]
theorem dc_up0 {a b : Cv} (ha : a.Ok) (hb : b.Ok) (hc : ordC a b ≤ 120) (h0 : b.at 0 = 0) {D : Nat → Int} (H : DcF a b D) : Up0 D := by
  refine ⟨dc_nn H 0, fun t => ?_⟩
  obtain ⟨i, v, A, h1, h2⟩ := H t
  obtain ⟨j, w, B, k1, k2⟩ := H (t + 1)
  cases j
  · rw [k2, if_neg (by simp)]
    have k3 := dc_up ha (show t ≤ t + 1 by omega) (ahead_least k1).1
    cases i
    · rw [h2, if_neg (by simp)]
      have := (ahead_least h1).2 _ k3
      omega
    · rcases h1 with ⟨_, _, _, h1⟩ | ⟨h1, _⟩
      · exact absurd k3 (h1 w)
      · cases h1
  · rw [k2, if_pos rfl]
    cases i
    · rw [h2, if_neg (by simp)]
      by_cases hl : Loose a b
      · have := (h1.unique (loose_ahead ha t hl)).1
        cases this
      · have fa : ¬ a.Fin := fun fa => by
          obtain ⟨v', A', h4, _⟩ := ahi_exists (a := a) (b := b) (t + 1) (dcK a b) (fun x _ => .inr (fa.not_infAt _))
          have := (k1.unique (h4.doneK ha hb hl)).1
          cases this
        have ia : nth a.vals (a.vals.length - 1) = inf := ha.fin_or.resolve_left fa
        have han := ha.n2
        rcases Nat.lt_or_ge t 1000 with ht | ht
        · have := dc_small ha hb hc hl (by omega) h1
          unfold inf
          omega
        · have := (h1.unique (not_ab (t := 0) (dc_zero hb h0) (by rw [Nat.zero_add]; exact ha.infAt_start ia (by omega)))).1
          cases this
    · rw [h2, if_pos rfl]; exact Int.le_refl _
/-- whatever Check accepts is the deconvolution -/
theorem check_of {f g h r : Cv} {er : Int} {cs : List Int} (C : CheckS f g h cs) (H : DcS f g r er) : er = 0 ∧ r = h := by
  obtain ⟨hf, hg, h0, a, b, hna, hnb, hc, hh, hnh, hC⟩ := C
  rcases H with ⟨H, _⟩ | ⟨_, _, _, _, D, hD, hM⟩
  · exact absurd ⟨a, b, hna, hnb, hc⟩ (fun hc => H.not hf hg h0 hc)
  · obtain ⟨hao, _⟩ := nf_small hf hna
    obtain ⟨hbo, _⟩ := nf_small hg hnb
    obtain ⟨D', hD'⟩ := dc_exists hao hbo
    obtain rfl := hD.unique (hD'.nf hf hg hna hnb)
    have e := cert_dc hao hbo hnb (by unfold ordC; exact hc) (by rw [hnb.at]; exact h0) hh hC hD'
    rw [e] at hnh
    obtain ⟨g', hg', hM⟩ := hM
    obtain rfl := NF.unique hnh hg'
    rcases hM with ⟨_, rfl, rfl⟩ | ⟨h1, _⟩
    · exact ⟨rfl, rfl⟩
    · exact absurd hh.lim h1
/-- the numbers of a certificate -/
def AtS (a b h : Cv) (cs : List Int) : Prop :=
  cs.length = dcExt a h ∧ ∀ t, t < cs.length → ∃ u : Nat, nth cs t = u ∧ u < dcK a b ∧ gn a b t u = h.at t ∧ ∀ x, x < u → gn a b t x ≠ h.at t
theorem AtS.unique {a b h : Cv} {cs ds : List Int} (H : AtS a b h cs) (K : AtS a b h ds) : cs = ds := by
  refine list_ext (by rw [H.1, K.1]) (fun t ht => ?_)
  obtain ⟨u, h1, _, h2, h3⟩ := H.2 t ht
  obtain ⟨v, k1, _, k2, k3⟩ := K.2 t (by rw [K.1, ← H.1]; exact ht)
  rw [h1, k1]
  rcases Nat.lt_trichotomy u v with e | e | e
  · exact absurd h2 (k3 u e)
  · rw [e]
  · exact absurd k2 (h3 v e)
/-- what Prove returns -/
def ProveS (f g r : Cv) (cs : List Int) (er : Int) : Prop :=
  DcS f g r er ∧ ((er ≠ 0 ∧ cs = []) ∨ (er = 0 ∧ ∃ a b, NF f.at a ∧ NF g.at b ∧ ((Steep a b ∧ cs = []) ∨ (¬ Steep a b ∧ AtS a b r cs))))
theorem ProveS.unique {f g r r' : Cv} {cs cs' : List Int} {er er' : Int} (H : ProveS f g r cs er) (K : ProveS f g r' cs' er') : r = r' ∧ cs = cs' ∧ er = er' := by
  obtain ⟨H0, H⟩ := H
  obtain ⟨K0, K⟩ := K
  obtain ⟨rfl, rfl⟩ := H0.unique K0
  refine ⟨rfl, ?_, rfl⟩
  rcases H with ⟨h1, rfl⟩ | ⟨h1, a, b, h2, h3, h4⟩ <;> rcases K with ⟨k1, rfl⟩ | ⟨k1, a', b', k2, k3, k4⟩
  · rfl
  · exact absurd k1 h1
  · exact absurd h1 k1
  · obtain rfl := NF.unique h2 k2
    obtain rfl := NF.unique h3 k3
    rcases h4 with ⟨h4, rfl⟩ | ⟨h4, h5⟩ <;> rcases k4 with ⟨k4, rfl⟩ | ⟨k4, k5⟩
    · rfl
    · exact absurd h4 k4
    · exact absurd k4 h4
    · exact h5.unique k5
/-- what Prove returns is accepted -/
theorem prove_check {f g r : Cv} {cs : List Int} (H : ProveS f g r cs 0) : CheckS f g r cs := by
  obtain ⟨H, K⟩ := H
  rcases H with ⟨H, _⟩ | ⟨hf, hg, h0, hcc, D, hD, hM⟩
  · exfalso
    rcases H with ⟨_, h⟩ | ⟨_, _, _, h⟩ | ⟨_, _, _, h, _⟩ <;> cases h
  · rcases K with ⟨h, _⟩ | ⟨_, a, b, hna, hnb, K⟩
    · exact absurd rfl h
    · obtain ⟨a', b', ha', hb', hc⟩ := hcc
      obtain rfl := NF.unique hna ha'
      obtain rfl := NF.unique hnb hb'
      obtain ⟨hao, _⟩ := nf_small hf hna
      obtain ⟨hbo, _⟩ := nf_small hg hnb
      obtain ⟨D', hD'⟩ := dc_exists hao hbo
      obtain rfl := hD.unique (hD'.nf hf hg hna hnb)
      have hc' : ordC a b ≤ 120 := by unfold ordC; exact hc
      have hb0 : b.at 0 = 0 := by rw [hnb.at]; exact h0
      obtain ⟨g', hg', hM⟩ := hM
      rcases hM with ⟨hL, rfl, _⟩ | ⟨_, _, h⟩
      case inr => cases h
      have rAt : r.at = D := by funext t; exact hg'.at t
      have hr := nf_lim_ok hg' (dc_up0 hao hbo hc' hb0 hD') hL
      refine ⟨hf, hg, h0, a, b, hna, hnb, hc, hr, by rw [rAt]; exact hg', ?_⟩
      rcases K with ⟨hs, rfl⟩ | ⟨hs, hlen, hall⟩
      · refine .inl ⟨hs, ?_, rfl⟩
        have h1 := hr.n1
        rw [← Cv.at_lt (by omega), rAt, dc_loose hao hs.loose hD']
      · have h1 : r.Fin ↔ a.Fin := by
          constructor
          · intro fr
            refine Classical.byContradiction fun fa => ?_
            have ia : nth a.vals (a.vals.length - 1) = inf := hao.fin_or.resolve_left fa
            have h2 : D (a.vals.length - a.per.toNat) = inf := by
              obtain ⟨i, v, A, h1, h2⟩ := hD' (a.vals.length - a.per.toNat)
              obtain ⟨rfl, _⟩ := h1.unique (not_ab (t := 0) (dc_zero hbo hb0) (by rw [Nat.zero_add]; exact hao.infAt_start ia (Nat.le_refl _)))
              rw [h2, if_pos rfl]
            rw [← rAt] at h2
            have han := hao.n2
            exact fr.not_infAt _ ((hr.at_bd (by omega)).2.2 h2)
          · intro fa
            refine Classical.byContradiction fun fr => ?_
            have ir : nth r.vals (r.vals.length - 1) = inf := hr.fin_or.resolve_left fr
            have hl : ¬ Loose a b := fun hl => hs ⟨hl.1, fa, hl.2.resolve_left (fun h' => h' fa)⟩
            have h2 := hr.infAt_start ir (Nat.le_refl _)
            have hrn := hr.n2
            have h3 := h2.2
            rw [rAt] at h3
            obtain ⟨v, A, h4, _⟩ := ahi_exists (a := a) (b := b) (r.vals.length - r.per.toNat) (dcK a b) (fun t _ => .inr (fa.not_infAt _))
            have h5 := h4.doneK hao hbo hl
            obtain ⟨i, w, B, h6, h7⟩ := hD' (r.vals.length - r.per.toNat)
            obtain ⟨rfl, rfl, _⟩ := h6.unique h5
            rw [if_neg (by simp)] at h7
            have h8 := dc_small hao hbo hc' hl (by omega) h5
            rw [h3] at h7
            unfold inf at h7
            omega
        refine .inr ⟨hs, h1, fun fa => ?_, hlen, fun t ht => ?_⟩
        · have hl : ¬ Loose a b := fun hl => hs ⟨hl.1, fa, hl.2.resolve_left (fun h' => h' fa)⟩
          have q1 := dc_per hao hbo fa hl hb0 hD'
          have hap := hao.p1
          have hd := hg'.per_dvd (by omega) q1
          refine ⟨hd, ?_⟩
          have fr := h1.2 fa
          have q2 := fr.toL.step.mul (a.per.toNat / r.per.toNat)
          rw [Nat.div_mul_cancel hd, rAt] at q2
          have q3 := q1 (max (a.vals.length - a.per.toNat) (r.vals.length - r.per.toNat)) (by omega)
          have q4 := q2 (max (a.vals.length - a.per.toNat) (r.vals.length - r.per.toNat)) (by omega)
          omega
        · obtain ⟨u, c1, c2, c3, c4⟩ := hall t ht
          have hE : dcExt a r ≤ 520 := by
            have := hao.n2; have := hao.p2; have := hr.n2; have := hao.p1; have := hao.pn
            unfold dcExt; omega
          have hK := dcK_le hao hbo hc'
          refine ⟨by omega, by omega, by rw [c1, Int.toNat_natCast]; exact c3, fun x hx => ?_⟩
          rw [rAt]
          exact gn_le hao hbo hD' (by omega) (dcK_fin (a := a) hbo (b_before hnb) hx)
end Go.Proofs.Ytbkimphcmmmaiaa
