/- . -/
import Derived.Deep.LoopGhost
import Derived.Deep.DeepCutAuto
import Derived.Deep.RegionHeld3
import Derived.BigRegion
import Derived.Test.YtaejfleahamapaaGreatTa13
import Derived.Test.YtaejfleahamapaaGreatTa22
import Derived.Test.YtaejfleahamapaaGreatTa5
namespace Go.Proofs.YtaejfleahamapaaGreat
set_option linter.unusedVariables false
set_option linter.unusedSimpArgs false
set_option maxHeartbeats 4000000
set_option maxRecDepth 100000
open Go.RowKit
section
def EarS (f : Cv) : List (Int × Int) → Int → Int → Int → Bool → Prop
 | [], sum, time, t, ok => t = time ∧ ok = true
 | p :: l, sum, time, t, ok => ∃ k okk er, ReachS f (sum + p.2) k okk er ∧ ((okk = false ∧ t = 0 ∧ ok = false) ∨ (okk = true ∧ EarS f l (sum + p.2) (max (max time p.1) (p.1 + k - 1)) t ok))
def ssum : List (Int × Int) → Nat → Int
 | [], _ => 0
 | p :: l, 0 => p.2
 | p :: l, i + 1 => p.2 + ssum l i
section
variable {f : Cv} {l : List (Int × Int)} {sum time t : Int}
def Rch (f : Cv) (v : Int) (u : Nat) : Prop := v ≤ f.at u ∧ ∀ m, m < u → f.at m < v
theorem reach_some (hf : ∀ n, ¬ f.infAt n) {v k er : Int} (h : ReachS f v k true er) : ∃ u : Nat, k = u ∧ Rch f v u := by
 rcases h with ⟨_, _, h, _⟩ | ⟨_, _, _, _, h, _⟩ | ⟨_, hv, ⟨_, n, rfl, h1, h2⟩ | ⟨h, _⟩, _⟩
 ·cases h
 ·cases h
 ·refine ⟨n, rfl, ?_, fun m hm => ?_⟩
  ·rcases h1 with h1 | h1
   ·exact absurd h1 (hf n)
   ·exact h1.2
  ·rcases hv with hv | hv
   ·rcases h1 with h1 | h1
    ·exact absurd h1 (hf n)
    ·exact absurd hv h1.1
   ·have := h2 m hm
    rcases Int.lt_or_le (f.at m) v with g | g
    ·exact g
    ·exact absurd (.inr ⟨by unfold inf; omega, g⟩) this
 ·cases h
theorem reach_none (hf : f.Ok) {v k er : Int} (h0 : 0 ≤ v) (h1 : v ≤ 1125899906842624) (h : ReachS f v k false er) : ∀ n, f.at n < v := by
 rcases h with ⟨h, _⟩ | ⟨_, _, h, _⟩ | ⟨_, _, ⟨h, _⟩ | ⟨_, _, h⟩, _⟩
 ·exact absurd hf h
 ·omega
 ·cases h
 ·intro n
  rcases Int.lt_or_le (f.at n) v with g | g
  ·exact g
  ·exact absurd (.inr ⟨by unfold inf; omega, g⟩) (h n)
theorem ear_true (hf : ∀ n, ¬ f.infAt n) : ∀ {l : List (Int × Int)} {sum time : Int}, EarS f l sum time t true → time ≤ t ∧ ∀ (i : Nat) (p : Int × Int), l[i]? = some p → p.1 ≤ t ∧ ∃ u : Nat, Rch f (sum + ssum l i) u ∧ p.1 + u - 1 ≤ t
 | [], sum, time, h => ⟨by rw [h.1]; exact Int.le_refl _, fun i p hp => by simp at hp⟩
 | q :: l, sum, time, h => by
   obtain ⟨k, okk, er, hr, ⟨_, _, h⟩ | ⟨rfl, h⟩⟩ := h
   ·cases h
   ·obtain ⟨u, rfl, hu⟩ := reach_some hf hr
    obtain ⟨h1, h2⟩ := ear_true hf h
    refine ⟨by omega, fun i p hp => ?_⟩
    rcases i with _ | i
    ·simp at hp
     subst hp
     exact ⟨by omega, u, hu, by omega⟩
    ·simp at hp
     obtain ⟨h3, v, h4, h5⟩ := h2 i p hp
     refine ⟨h3, v, ?_, h5⟩
     rw [ssum, ← Int.add_assoc]
     exact h4
theorem ear_val (hf : ∀ n, ¬ f.infAt n) : ∀ {l : List (Int × Int)} {sum time : Int}, EarS f l sum time t true → t = time ∨ ∃ (i : Nat) (p : Int × Int), l[i]? = some p ∧ (t = p.1 ∨ ∃ u : Nat, Rch f (sum + ssum l i) u ∧ t = p.1 + u - 1)
 | [], sum, time, h => .inl h.1
 | q :: l, sum, time, h => by
   obtain ⟨k, okk, er, hr, ⟨_, _, h⟩ | ⟨rfl, h⟩⟩ := h
   ·cases h
   ·obtain ⟨u, rfl, hu⟩ := reach_some hf hr
    rcases ear_val hf h with h1 | ⟨i, p, h1, h2⟩
    ·by_cases e1 : t = time
     ·exact .inl e1
     ·by_cases e2 : t = q.1
      ·exact .inr ⟨0, q, rfl, .inl e2⟩
      ·exact .inr ⟨0, q, rfl, .inr ⟨u, hu, by omega⟩⟩
    ·refine .inr ⟨i + 1, p, by simpa using h1, ?_⟩
     rw [ssum, ← Int.add_assoc]
     exact h2
theorem ear_false (hf : f.Ok) : ∀ {l : List (Int × Int)} {sum time : Int}, (∀ p ∈ l, 0 ≤ p.2) → 0 ≤ sum → (∀ i, i < l.length → sum + ssum l i ≤ 1125899906842624) → EarS f l sum time t false → ∃ i, i < l.length ∧ ∀ n, f.at n < sum + ssum l i
 | [], sum, time, _, _, _, h => by cases h.2
 | q :: l, sum, time, hz, h0, h1, h => by
   have hq := hz q (List.mem_cons_self ..)
   obtain ⟨k, okk, er, hr, ⟨rfl, _, _⟩ | ⟨rfl, h⟩⟩ := h
   ·exact ⟨0, by simp, reach_none hf (by show 0 ≤ sum + q.2; omega) (by have := h1 0 (by simp); simpa [ssum] using this) (by simpa [ssum] using hr)⟩
   ·obtain ⟨i, hi, h2⟩ := ear_false hf (fun p hp => hz p (List.mem_cons_of_mem _ hp)) (by omega) (fun i hi => by have := h1 (i + 1) (by simpa using hi); rw [ssum] at this; omega) h
    exact ⟨i + 1, by simpa using hi, fun n => by rw [ssum, ← Int.add_assoc]; exact h2 n⟩
end
/-! ### Greedy packets of one byte -/
section
variable {f : Cv} {ts : List Int}
def Gr (f : Cv) (ts : List Int) : Prop := ∀ j, j < ts.length → ∃ u : Nat, nth ts j = (u : Int) - 1 ∧ Rch f ((j : Int) + 1) u
def bk (ts : List Int) : List (Int × Int) := ts.reverse.map (fun t => (t, 1))
theorem ssum_one : ∀ {l : List (Int × Int)}, (∀ p ∈ l, p.2 = 1) → ∀ i, i < l.length → ssum l i = (i : Int) + 1
 | [], _, i, h => by simp at h
 | p :: l, h, 0, _ => by rw [ssum, h p (List.mem_cons_self ..)]; rfl
 | p :: l, h, i + 1, hi => by
   rw [ssum, h p (List.mem_cons_self ..), ssum_one (fun q hq => h q (List.mem_cons_of_mem _ hq)) i (by simpa using hi)]
   omega
theorem bk_len (ts : List Int) : (bk ts).length = ts.length := by simp [bk]
theorem bk_one (ts : List Int) : ∀ p ∈ bk ts, p.2 = 1 := by
 intro p hp
 simp [bk] at hp
 obtain ⟨a, _, rfl⟩ := hp
 rfl
theorem bk_get {i : Nat} {p : Int × Int} (h : (bk ts)[i]? = some p) : i < ts.length ∧ p = (nth ts (ts.length - 1 - i), 1) := by
 unfold bk at h
 rw [List.getElem?_map, Option.map_eq_some_iff] at h
 obtain ⟨a, h1, rfl⟩ := h
 have hi : i < ts.length := by have := (List.getElem?_eq_some_iff.1 h1).1; simpa using this
 rw [List.getElem?_reverse hi] at h1
 refine ⟨hi, ?_⟩
 simp [nth, List.getD, h1]
theorem bk_at {i : Nat} (h : i < ts.length) : (bk ts)[i]? = some (nth ts (ts.length - 1 - i), 1) := by
 obtain ⟨p, hp⟩ : ∃ p, (bk ts)[i]? = some p := ⟨_, List.getElem?_eq_getElem (by rw [bk_len]; exact h)⟩
 rw [hp, (bk_get hp).2]
theorem rch_le {v w : Int} {a b : Nat} (h : Rch f v a) (k : Rch f w b) (hvw : v ≤ w) : a ≤ b := by
 rcases Nat.lt_or_ge b a with g | g
 ·have h1 := h.2 b g
  have h2 := k.1
  omega
 ·exact g
theorem gr_next (hok : f.Ok) (hf : ∀ n, ¬ f.infAt n) (h0 : f.at 0 = 0) (hs : ∀ s u, f.at (s + u) ≤ f.at s + f.at u) (h1 : 1 ≤ f.at 1) (hn : ts.length ≤ 60) (hg : Gr f ts) {t : Int} {ok : Bool} (h : EarS f (bk ts) 1 0 t ok) :
 (ok = true → Gr f (ts ++ [t])) ∧ (ok = false → ∀ u, f.at u < ts.length + 1) := by
 have hss : ∀ i, i < ts.length → ssum (bk ts) i = (i : Int) + 1 := fun i hi => ssum_one (bk_one ts) i (by rw [bk_len]; exact hi)
 constructor
 ·rintro rfl
  have key : ∃ u : Nat, t = (u : Int) - 1 ∧ Rch f ((ts.length : Int) + 1) u := by
   rcases Nat.eq_zero_or_pos ts.length with e | e
   ·obtain rfl : ts = [] := List.length_eq_zero_iff.1 e
    obtain ⟨rfl, _⟩ : t = 0 ∧ true = true := h
    refine ⟨1, rfl, by simpa using h1, fun m hm => ?_⟩
    obtain rfl : m = 0 := by omega
    rw [h0]; decide
   ·obtain ⟨_, h2⟩ := ear_true hf h
    obtain ⟨_, u, h3, h4⟩ := h2 (ts.length - 1) _ (bk_at (by omega))
    rw [hss _ (by omega)] at h3
    rw [show ts.length - 1 - (ts.length - 1) = 0 by omega] at h4
    obtain ⟨a, ha, ha2⟩ := hg 0 e
    have ha1 : a = 1 := by
     have g1 : a ≤ 1 := by
      rcases Nat.lt_or_ge 1 a with g | g
      ·have := ha2.2 1 g
       omega
      ·exact g
     rcases Nat.eq_zero_or_pos a with g | g
     ·have := ha2.1
      rw [g, h0] at this
      omega
     ·omega
    simp only [ha, ha1] at h4
    have h3' : Rch f ((ts.length : Int) + 1) u := by
     rw [show (1 : Int) + (((ts.length - 1 : Nat) : Int) + 1) = (ts.length : Int) + 1 by omega] at h3
     exact h3
    have hu1 : 1 ≤ u := by
     rcases Nat.eq_zero_or_pos u with g | g
     ·have := h3'.1
      rw [g, h0] at this
      omega
     ·exact g
    refine ⟨u, Int.le_antisymm ?_ (by omega), h3'⟩
    rcases ear_val hf h with h5 | ⟨i, p, h5, h6⟩
    ·omega
    ·obtain ⟨hi, rfl⟩ := bk_get h5
     obtain ⟨b, hb, hb2⟩ := hg (ts.length - 1 - i) (by omega)
     have hbu : b ≤ u := rch_le hb2 h3' (by omega)
     rcases h6 with h6 | ⟨v, h7, h8⟩
     ·simp only [hb] at h6
      omega
     ·rw [hss i hi] at h7
      simp only [hb] at h8
      rcases Nat.lt_or_ge u (b + v - 1) with g | g
      ·exfalso
       have b0 : 1 ≤ b := by
        rcases Nat.eq_zero_or_pos b with g | g
        ·have := hb2.1
         rw [g, h0] at this
         omega
        ·exact g
       have v0 : 1 ≤ v := by
        rcases Nat.eq_zero_or_pos v with g | g
        ·have := h7.1
         rw [g, h0] at this
         omega
        ·exact g
       have e1 := hb2.2 (b - 1) (by omega)
       have e2 := h7.2 (v - 1) (by omega)
       have e3 := hs (b - 1) (v - 1)
       have e4 := hok.at_le (show u ≤ b - 1 + (v - 1) by omega)
       have e5 := h3'.1
       omega
      ·omega
  obtain ⟨u, hu, hr⟩ := key
  intro j hj
  rw [List.length_append, List.length_singleton] at hj
  rw [nth_app]
  by_cases e : j < ts.length
  ·rw [if_pos e]
   exact hg j e
  ·have : j = ts.length := by omega
   rw [if_neg e, if_pos this]
   subst this
   exact ⟨u, hu, hr⟩
 ·rintro rfl
  obtain ⟨i, hi, h2⟩ := ear_false hok (fun p hp => by rw [bk_one ts p hp]; omega) (by omega) (fun i hi => by rw [bk_len] at hi; rw [hss i hi]; omega) h
  rw [bk_len] at hi
  intro u
  have := h2 u
  rw [hss i hi] at this
  omega
def unit (t : Int) : PK := ⟨0, t, 1⟩
theorem bytes_unit {t a : Int} : ∀ {ts : List Int} {off : Nat}, (∀ j, j < ts.length → (nth ts j < t ↔ (off : Int) + j + 1 ≤ a)) → bytesV t (ts.map unit) = max 0 (min (ts.length : Int) (a - off))
 | [], off, h => by simp [bytesV]; omega
 | x :: ts, off, h => by
   have ih := bytes_unit (t := t) (a := a) (ts := ts) (off := off + 1) (fun j hj => by
    have := h (j + 1) (by simpa using hj)
    rw [show nth (x :: ts) (j + 1) = nth ts j from rfl] at this
    rw [this]
    omega)
   have h0 := h 0 (by simp)
   rw [show nth (x :: ts) 0 = x from rfl] at h0
   have e : bytesV t ((x :: ts).map unit) = (if x < t then 1 else 0) + bytesV t (ts.map unit) := by simp [bytesV, unit]
   rw [e, ih, List.length_cons]
   by_cases g : x < t
   ·have := h0.1 g
    rw [if_pos g]
    omega
   ·have : ¬ ((off : Int) + (0 : Nat) + 1 ≤ a) := fun h => g (h0.2 h)
    rw [if_neg g]
    omega
theorem sel_unit (ts : List Int) : selT 0 (ts.map unit) = ts.map unit := by
 unfold selT
 rw [List.filter_eq_self]
 intro x hx
 simp at hx
 obtain ⟨t, _, rfl⟩ := hx
 rfl
theorem gr_bytes (hok : f.Ok) (hf : ∀ n, ¬ f.infAt n) (hg : Gr f ts) {t : Nat} (ht : f.at t ≤ ts.length) (h0 : 0 ≤ f.at t) : aV 0 (ts.map unit) t = f.at t := by
 unfold aV
 rw [sel_unit, bytes_unit (a := f.at t) (off := 0) (fun j hj => by
  obtain ⟨u, h1, h2⟩ := hg j hj
  rw [h1]
  constructor
  ·intro h
   have := hok.at_le (show u ≤ t by omega)
   have := h2.1
   omega
  ·intro h
   rcases Nat.lt_or_ge t u with g | g
   ·have := h2.2 t g
    omega
   ·omega)]
 omega
theorem gr_valid (hok : f.Ok) (h0 : f.at 0 = 0) (hg : Gr f ts) (hn : ts.length ≤ 60) (hb : ∀ j, j < ts.length → nth ts j ≤ 2000) : Valid (ts.map unit) := by
 refine ⟨by simpa using hn, fun x hx => ?_, fun k j x y hkj hx hy => ?_⟩
 ·obtain ⟨j, hj⟩ := List.getElem?_of_mem hx
  rw [List.getElem?_map, Option.map_eq_some_iff] at hj
  obtain ⟨t, ht, rfl⟩ := hj
  have hjl := (List.getElem?_eq_some_iff.1 ht).1
  have e : nth ts j = t := by simp [nth, List.getD, ht]
  obtain ⟨u, h1, h2⟩ := hg j hjl
  have h3 := hb j hjl
  have hu : 1 ≤ u := by
   rcases Nat.eq_zero_or_pos u with g | g
   ·have := h2.1
    rw [g, h0] at this
    omega
   ·exact g
  unfold PK.Good unit
  simp only
  omega
 ·rw [List.getElem?_map, Option.map_eq_some_iff] at hx hy
  obtain ⟨s, hs, rfl⟩ := hx
  obtain ⟨t, ht, rfl⟩ := hy
  have hkl := (List.getElem?_eq_some_iff.1 hs).1
  have hjl := (List.getElem?_eq_some_iff.1 ht).1
  have e1 : nth ts k = s := by simp [nth, List.getD, hs]
  have e2 : nth ts j = t := by simp [nth, List.getD, ht]
  obtain ⟨u, h1, h2⟩ := hg k hkl
  obtain ⟨v, h3, h4⟩ := hg j hjl
  have := rch_le h2 h4 (by omega)
  unfold unit
  simp only
  omega
end
end
section
theorem set_kxA (w : World) (g i : Nat) (v : Value) : KX (fun k => k = g) w (w.setCell ⟨g, i, none⟩ v) := (KX.refl (fun k => k = g) w).set_ (p := ⟨g, i, none⟩) rfl v
structure RC (w : World) (b0 p : Nat) (f : Cv) (A : Option Addr) (n c : Nat) (fst : Int) (tv zv : Value) (ts zs : List Int) : Prop where
 blk : Blk w p 158 #[.slice A n c, .int .i64 f.per, .int .i64 f.inc, .int .i64 fst, tv, zv]
 tO : Own w b0 tv ts.length ts
 zO : Own w b0 zv zs.length zs
 tp : tv.ownBlock ≠ some p
 zp : zv.ownBlock ≠ some p
 tz : ∀ k, tv.ownBlock = some k → zv.ownBlock ≠ some k
 pb : b0 ≤ p
 fi : Ints w b0 A n f.vals
 ln : ts.length = zs.length
section
variable {w w' : World} {b0 p : Nat} {f : Cv} {A : Option Addr} {n c : Nat} {fst : Int} {tv zv : Value} {ts zs : List Int}
theorem RC.below (h : RC w b0 p f A n c fst tv zv ts zs) (hb : Below w.heap.size w w') : RC w' b0 p f A n c fst tv zv ts zs := by
 have k : KX (fun _ => False) w w' := KX.of hb
 have hp := h.blk.lt
 have hfi : Ints w' b0 A n f.vals := h.fi.keep fun q hq => hb.cell (by have := h.pb; omega)
 exact ⟨h.blk.kx k (fun h => h), h.tO.kx k (fun _ _ h => h), h.zO.kx k (fun _ _ h => h), h.tp, h.zp, h.tz, h.pb, hfi, h.ln⟩
end
theorem begin_any (A : Option Addr) (n c : Nat) (f : Cv) (w : World) (hA : Ints w w.heap.size A n f.vals) (ok : f.Ok) :
 Calls Tryz.prog 68 #[.agg #[.slice A n c, .int .i64 f.per, .int .i64 f.inc]] w fun e w' => ∃ p, e = .returned (.pointer (some ⟨p, 0, none⟩)) ∧ RC w' w.heap.size p f A n c (f.at 1) (.slice none 0 0) (.slice none 0 0) [] [] ∧ Below w.heap.size w w' := by
 have BF := hi_ (Blk.new w 26 #[.slice A n c, .int .i64 f.per, .int .i64 f.inc])
 have BW := hi_ (balloc w (.cells #[.slice A n c, .int .i64 f.per, .int .i64 f.inc] 26))
 have HA := hi_ (hA.alloc' (.cells #[.slice A n c, .int .i64 f.per, .int .i64 f.inc] 26))
 have HA0 := hi_ hA
 have h1 := ok.n2; have h2 := ok.p1; have h3 := ok.pn; have h4 := ok.i1; have h5 := ok.i2; have hl := hA.1
 have hs1 := World.size_alloc w (.cells #[.slice A n c, .int .i64 f.per, .int .i64 f.inc] 26)
 clear hA
 go_enter Tryz.func68, Tryz.ntmps68
 go_upto_region 1 with fail
 generalize hwe : w.alloc (.cells #[.slice A n c, .int .i64 f.per, .int .i64 f.inc] 26) = w1 at *
 clear hwe
 obtain ⟨⟨l0, l1, l2⟩, -, hll⟩ := BF.out.c3
 have HS := hi_ hs1
 clear hs1
 go_wp2_with fail
 refine wp_region_held_drew (S := fun w' => w'.cell? ⟨w.heap.size, 0, none⟩ = some (.slice A n c) ∧ w'.cell? ⟨w.heap.size, 1, none⟩ = some (.int .i64 f.per) ∧ w'.cell? ⟨w.heap.size, 2, none⟩ = some (.int .i64 f.inc)) (by kernel_rfl) (by exact ⟨l0, l1, l2⟩) (fun hH => ?_)
 refine tkO [0, 1] ?_; (iterate 2 refine tkI ?_); refine tkX ?_
 refine rdy2 2 (fun K hK => ?_)
 go_simp
 refine (at2_any A n c f.per f.inc 1 f.vals _ (by exact HA.out) (by omega) h2 (by omega) h4 ok.nn (by omega) (by omega) (fun h => by
  have e : (1 : Int).toNat = 1 := rfl
  rw [e] at h ⊢
  have : n = 1 := by omega
  subst this
  rw [Nat.sub_self, Nat.zero_div]
  omega)).mono ?_
 rintro e w2 ⟨rfl, hb⟩
 have L2 : (w2.cell? ⟨w.heap.size, 0, none⟩ = some (.slice A n c) ∧ w2.cell? ⟨w.heap.size, 1, none⟩ = some (.int .i64 f.per) ∧ w2.cell? ⟨w.heap.size, 2, none⟩ = some (.int .i64 f.inc)) := ⟨(hb.cell (p := ⟨w.heap.size, 0, none⟩) hll).trans l0, (hb.cell (p := ⟨w.heap.size, 1, none⟩) hll).trans l1, (hb.cell (p := ⟨w.heap.size, 2, none⟩) hll).trans l2⟩
 have BW2 := hi_ (show Below w.heap.size w w2 from bthen BW.out (bthen (bdrewN (k := 1) (Below.refl _ _)) hb))
 have HS2 := hi_ (show w.heap.size + 1 ≤ w2.heap.size by have h1 := hb.size; have h2 := HS.out; have h3 : w1.drew.heap.size = w1.heap.size := rfl; omega)
 clear BW l0 l1 l2 hll hb hH BF
 refine bkS hK (by exact L2) (fun hH => ?_)
 refine tk1 3 ?_
 refine rdy2 4 (fun K hK => ?_)
 go_simp
 have hbx := Blk.new w2 158 #[.slice A n c, .int .i64 f.per, .int .i64 f.inc, .int .i64 (f.at 1), .slice none 0 0, .slice none 0 0]
 have ba := balloc w2 (.cells #[.slice A n c, .int .i64 f.per, .int .i64 f.inc, .int .i64 (f.at 1), .slice none 0 0, .slice none 0 0] 158)
 have BW3 := hi_ (bthen BW2.out ba)
 have hrc : RC (w2.alloc (.cells #[.slice A n c, .int .i64 f.per, .int .i64 f.inc, .int .i64 (f.at 1), .slice none 0 0, .slice none 0 0] 158)) w.heap.size w2.heap.size f A n c (f.at 1) (.slice none 0 0) (.slice none 0 0) [] [] :=
  ⟨hbx, Own.nil_ _ _, Own.nil_ _ _, fun h => (by cases h), fun h => (by cases h), fun k h => (by cases h), by have := BW2.out.size; omega, HA0.out.keep fun q hq => BW3.out.cell hq, rfl⟩
 have HR := hi_ hrc
 have L3 : ((w2.alloc (.cells #[.slice A n c, .int .i64 f.per, .int .i64 f.inc, .int .i64 (f.at 1), .slice none 0 0, .slice none 0 0] 158)).cell? ⟨w.heap.size, 0, none⟩ = some (.slice A n c) ∧ (w2.alloc (.cells #[.slice A n c, .int .i64 f.per, .int .i64 f.inc, .int .i64 (f.at 1), .slice none 0 0, .slice none 0 0] 158)).cell? ⟨w.heap.size, 1, none⟩ = some (.int .i64 f.per) ∧ (w2.alloc (.cells #[.slice A n c, .int .i64 f.per, .int .i64 f.inc, .int .i64 (f.at 1), .slice none 0 0, .slice none 0 0] 158)).cell? ⟨w.heap.size, 2, none⟩ = some (.int .i64 f.inc)) := by
  have hlt : w.heap.size < w2.heap.size := by have := HS2.out; omega
  exact ⟨(ba.cell (p := ⟨w.heap.size, 0, none⟩) hlt).trans L2.1, (ba.cell (p := ⟨w.heap.size, 1, none⟩) hlt).trans L2.2.1, (ba.cell (p := ⟨w.heap.size, 2, none⟩) hlt).trans L2.2.2⟩
 clear hbx ba hrc hH
 refine bkS hK (by exact L3) (fun hH => ?_)
 clear L2 L3
 refine tk1 5 ?_
 refine dnH ?_
 go_wp2_with fail
 go_ret
 exact ⟨_, rfl, HR.out, BW3.out⟩
theorem rch_bd {f : Cv} (hf : f.Fin) {v : Int} {u : Nat} (h : Rch f v u) (h0 : 0 ≤ v) : (u : Int) ≤ 400 + 120 * v := by
 have ok := hf.1
 have h1 := ok.n2; have h2 := ok.p1; have h3 := ok.p2; have h4 := ok.i1
 have P := hf.toL.step
 obtain ⟨S, hS⟩ : ∃ S, S = f.vals.length - f.per.toNat := ⟨_, rfl⟩
 rcases (show f.inc = 0 ∨ 1 ≤ f.inc by omega) with hi | hi
 ·rcases Nat.lt_or_ge 400 u with g | g
  ·exfalso
   have e := P (u - f.per.toNat) (by omega)
   rw [show u - f.per.toNat + f.per.toNat = u by omega, hi] at e
   have := h.2 (u - f.per.toNat) (by omega)
   have := h.1
   omega
  ·omega
 ·obtain ⟨q, rfl⟩ := Int.eq_ofNat_of_zero_le h0
  have e := P.mul q S (by omega)
  have e0 := (ok.at_bd (n := S) (by omega)).1
  have e1 : (q : Int) ≤ q * f.inc := by
   have := Int.mul_le_mul_of_nonneg_left hi (show (0 : Int) ≤ q by omega)
   omega
  rcases Nat.lt_or_ge (S + q * f.per.toNat) u with g | g
  ·have := h.2 _ g
   omega
  ·have hq : q * f.per.toNat ≤ q * 120 := Nat.mul_le_mul_left _ (by omega)
   omega
def EaS (f : Cv) (fst : Int) (l : List (Int × Int)) (time size t : Int) (ok : Bool) : Prop := (fst < size ∧ t = 0 ∧ ok = false) ∨ (size ≤ fst ∧ EarS f l size time t ok)
theorem earliest_any (b0 p : Nat) (f : Cv) (A : Option Addr) (n c : Nat) (fst time size : Int) (tv zv : Value) (ts zs : List Int) (w : World) (h : RC w b0 p f A n c fst tv zv ts zs) (hf : f.Fin) (hn : ts.length ≤ 60) (ht : ∀ j, j < ts.length → 0 ≤ nth ts j ∧ nth ts j ≤ 100000) (hz : ∀ j, j < zs.length → 1 ≤ nth zs j ∧ nth zs j ≤ 1500)
 (h0 : 0 ≤ time) (h1 : time ≤ 100000) (s1 : 1 ≤ size) (s2 : size ≤ 1500) :
 Calls Tryz.prog 71 #[.pointer (some ⟨p, 0, none⟩), .int .i64 time, .int .i64 size] w fun e w' => ∃ t ok, EaS f fst (ts.zip zs).reverse time size t ok ∧ e = .returned (.tuple #[.int .i64 t, .bool ok]) ∧ Below w.heap.size w w' := by
 have HR := hi_ h; have HF := hi_ hf; have HT := hi_ ht; have HZ := hi_ hz
 obtain ⟨tA, tc, rfl, htc, hti, htb⟩ := h.tO.ints
 obtain ⟨zA, zc, rfl, hzc, hzi, hzb⟩ := h.zO.ints
 have TI := hi_ hti; have ZI := hi_ hzi
 obtain ⟨L, hL⟩ : ∃ L, L = ts.length := ⟨_, rfl⟩
 have hzl : zs.length = L := by rw [hL]; exact h.ln.symm
 rw [hzl] at h ZI HR
 rw [← hL] at h TI HR hn
 have HL := hi_ hL; have HZL := hi_ hzl
 obtain ⟨c0, c1, c2, c3, c4, c5⟩ : _ ∧ _ ∧ _ ∧ _ ∧ _ ∧ _ := ⟨h.blk.cell 0, h.blk.cell 1, h.blk.cell 2, h.blk.cell 3, h.blk.cell 4, h.blk.cell 5⟩
 simp at c0 c1 c2 c3 c4 c5
 have hlp := h.blk.lt
 clear h hf ht hz htc hti htb hzc hzi hzb hL hzl
 go_enter Tryz.func71, Tryz.ntmps71
 by_cases hs : fst < size
 case pos =>
  have F := hi_ (show EaS f fst (ts.zip zs).reverse time size 0 false from .inl ⟨hs, rfl, rfl⟩)
  go_wp2_with fail
  exact bodyPost_ret (v := .tuple #[.int .i64 0, .bool false]) (by simp [results, Tryz.results71, go_sem]) rfl ⟨0, false, F.out, rfl, Below.refl _ _⟩
 case neg =>
 have HS := hi_ hs
 have ewL : IntKind.i64.wrap ((L : Int) - 1) = (L : Int) - 1 := IntWalk.i64_in _ (by omega)
 have HFULL := hi_ (show ∀ t ok, EarS f ((ts.zip zs).take L).reverse size time t ok → EarS f (ts.zip zs).reverse size time t ok from fun t ok h => by rw [List.take_of_length_le (by rw [List.length_zip, HZL.out, ← HL.out]; omega)] at h; exact h)
 go_wp2_with fail
 clear c0 c1 c2 c3 c4 c5 hlp ewL
 go_loopg [9, 8, 1] L (fun k s9 s8 s1 wx => ∃ i sm tm : Int, i + 1 = k ∧ k ≤ L ∧ s9 = .int .i64 i ∧ s8 = .int .i64 sm ∧ s1 = .int .i64 tm ∧ (1 ≤ sm ∧ sm + 1500 * k ≤ 1500 + 1500 * L) ∧ (0 ≤ tm ∧ tm ≤ 100000000) ∧ Hid (∀ t ok, EarS f ((ts.zip zs).take k).reverse sm tm t ok → EarS f (ts.zip zs).reverse size time t ok) ∧ Hid (Below w.heap.size w wx))
 case atStart => exact ⟨(L : Int) - 1, size, time, by omega, Nat.le_refl _, rfl, rfl, rfl, ⟨by omega, by omega⟩, ⟨by omega, by omega⟩, HFULL, hi_ (Below.refl _ _)⟩
 case round =>
  clear HFULL
  obtain ⟨i, sm, tm, hik, hkL, rfl, rfl, rfl, ⟨hs1, hs2⟩, ⟨ht1, ht2⟩, HE, BW⟩ := hrel
  have R2 := hi_ (HR.out.below BW.out)
  obtain ⟨c0, c1, c2, c3, c4, c5⟩ : _ ∧ _ ∧ _ ∧ _ ∧ _ ∧ _ := ⟨R2.out.blk.cell 0, R2.out.blk.cell 1, R2.out.blk.cell 2, R2.out.blk.cell 3, R2.out.blk.cell 4, R2.out.blk.cell 5⟩
  simp at c0 c1 c2 c3 c4 c5
  have hlp := R2.out.blk.lt
  rcases gk with _ | K
  ·obtain rfl : i = -1 := by omega
   have F := hi_ (show EaS f fst (ts.zip zs).reverse time size tm true from .inr ⟨by have := HS.out; omega, HE.out _ _ ⟨rfl, rfl⟩⟩)
   go_wp2_with fail
   exact bodyPost_ret (v := .tuple #[.int .i64 tm, .bool true]) (by simp [results, Tryz.results71, go_sem]) rfl ⟨tm, true, F.out, rfl, BW.out⟩
  ·obtain rfl : i = (K : Int) := by omega
   obtain ⟨zb, zof, hzA, hzb, hzc⟩ := (ZI.out.ext BW.out).2 (by omega)
   obtain ⟨tb, tof, htA, htb, htc⟩ := (TI.out.ext BW.out).2 (by omega)
   subst hzA htA
   obtain ⟨z, hzv⟩ : ∃ z, z = nth zs K := ⟨_, rfl⟩
   obtain ⟨q, hqv⟩ : ∃ q, q = nth ts K := ⟨_, rfl⟩
   have hzK := hzc K (by omega); have htK := htc K (by omega)
   rw [← hzv] at hzK
   rw [← hqv] at htK
   have hzr := HZ.out K (by rw [HZL.out]; omega); have htr := HT.out K (by rw [← HL.out]; omega)
   rw [← hzv] at hzr
   rw [← hqv] at htr
   obtain ⟨S, hS⟩ : ∃ S, S = sm + z := ⟨_, rfl⟩
   have ewS : IntKind.i64.wrap (sm + z) = S := by rw [hS]; exact IntWalk.i64_in _ (by omega)
   have hKL : (K : Int) < L := by omega
   have hK0 : (0 : Int) ≤ K := by omega
   have HZV := hi_ hzv; have HQV := hi_ hqv; have HSV := hi_ hS
   have hSb : 1 ≤ S ∧ S ≤ 100000 := by omega
   clear hzc htc hzv hqv hS
   have HAf := hi_ (show Ints wr wr.heap.size A n f.vals from R2.out.fi.more (by have := R2.out.pb; omega))
   have hn4 : n ≤ 400 := by have h1 := HF.out.1.n2; have h2 : f.vals.length = n := R2.out.fi.1; omega
   go_wp2_with fail
   refine (reachTop_any A n c f.per f.inc S f.vals _ (by exact HAf.out) (by omega)).mono ?_
   rintro e w2 ⟨k, okk, er, hk, rfl, hb⟩
   have HK := hi_ (show ReachS f S k okk er from hk)
   have hsp : ∃ l, ((ts.zip zs).take (K + 1)).reverse = (q, z) :: l ∧ l = ((ts.zip zs).take K).reverse := by
    have e : (ts.zip zs)[K]? = some (q, z) := by
     refine List.getElem?_zip_eq_some.2 ⟨?_, ?_⟩
     ·rw [List.getElem?_eq_getElem (by rw [← HL.out]; omega), HQV.out]
      simp [nth, List.getD, show K < ts.length by rw [← HL.out]; omega]
     ·rw [List.getElem?_eq_getElem (by rw [HZL.out]; omega), HZV.out]
      simp [nth, List.getD, show K < zs.length by rw [HZL.out]; omega]
    refine ⟨_, ?_, rfl⟩
    rw [List.take_add_one, e, List.reverse_append]
    rfl
   have HSP := hi_ hsp
   replace BW := hi_ (bthen BW.out hb)
   clear hk hsp
   cases okk with
   | false =>
     have F := hi_ (show EaS f fst (ts.zip zs).reverse time size 0 false from .inr ⟨by have := HS.out; omega, HE.out _ _ (by
      obtain ⟨l, h1, h2⟩ := HSP.out
      rw [h1]
      exact ⟨k, false, er, by rw [← HSV.out]; exact HK.out, .inl ⟨rfl, rfl, rfl⟩⟩)⟩)
     go_wp2_with fail
     exact bodyPost_ret (v := .tuple #[.int .i64 0, .bool false]) (by simp [results, Tryz.results71, go_sem]) rfl ⟨0, false, F.out, rfl, BW.out⟩
   | true =>
     obtain ⟨u, hu, hru⟩ := reach_some (fun n => HF.out.not_infAt n) HK.out
     have hub := rch_bd HF.out hru (by omega)
     subst hu
     obtain ⟨m1, hm1⟩ : ∃ m, m = max tm q := ⟨_, rfl⟩
     obtain ⟨v, hv⟩ : ∃ v, v = q + u - 1 := ⟨_, rfl⟩
     obtain ⟨m2, hm2⟩ : ∃ m, m = max m1 v := ⟨_, rfl⟩
     have ew1 : IntKind.i64.wrap (q + u) = q + u := IntWalk.i64_in _ (by omega)
     have ew2 : IntKind.i64.wrap (q + u - 1) = v := by rw [hv]; exact IntWalk.i64_in _ (by omega)
     have em1 : (if tm < q then q else tm) = m1 := by rw [hm1]; split <;> omega
     have em2 : (if m1 < v then v else m1) = m2 := by rw [hm2]; split <;> omega
     have hm2b : 0 ≤ m2 ∧ m2 ≤ 100000000 := by omega
     have HM := hi_ (show m2 = max (max tm q) (q + u - 1) by rw [hm2, hm1, hv])
     clear hm1 hm2 hv hub hru
     replace R2 := hi_ (R2.out.below hb)
     have htK := (hb.cell (p := ⟨tb, tof + K, none⟩) htb).trans htK
     have htb2 := Nat.lt_of_lt_of_le htb hb.size
     clear c0 c1 c2 c3 c4 c5 hlp hzK hzb hb htb
     have c4 : w2.cell? ⟨p, 4, none⟩ = some (.slice (some ⟨tb, tof, none⟩) L tc) := by simpa using R2.out.blk.cell 4
     have hlp := R2.out.blk.lt
     go_wp2_with fail
     refine wp_region_held_drew (S := fun w' => w'.cell? ⟨p, 4, none⟩ = some (.slice (some ⟨tb, tof, none⟩) L tc) ∧ w'.cell? ⟨tb, tof + K, none⟩ = some (.int .i64 q)) (by kernel_rfl) (by exact ⟨c4, htK⟩) (fun hH => ?_)
     refine tkO [0, 1, 2, 3, 4, 5, 6, 7, 8, 9, 10, 11, 12, 13, 14, 15, 16, 17, 18, 19] ?_; (iterate 20 refine tkI ?_); refine tkX ?_
     refine dnH ?_
     clear hH c4 hlp htK htb2 ew1 ew2 em1 em2
     go_wp2_with fail
     go_roundg K
     case measure => omega
     case rel =>
      refine ⟨(K : Int) - 1, S, m2, by omega, by omega, by go_num, rfl, rfl, ⟨by omega, by have := HSV.out; omega⟩, hm2b, hi_ (fun t ok h => HE.out t ok ?_), hi_ (bdrewN (k := 1) BW.out)⟩
      obtain ⟨l, h1, h2⟩ := HSP.out
      rw [h1]
      rw [← h2, HM.out] at h
      exact ⟨(u : Int), true, er, by rw [← HSV.out]; exact HK.out, .inr ⟨rfl, by rw [← HSV.out]; exact h⟩⟩
theorem add_any (b0 p : Nat) (f : Cv) (A : Option Addr) (n c : Nat) (fst time size : Int) (tv zv : Value) (ts zs : List Int) (w : World) (h : RC w b0 p f A n c fst tv zv ts zs) (hn : ts.length ≤ 1000) :
 Calls Tryz.prog 73 #[.pointer (some ⟨p, 0, none⟩), .int .i64 time, .int .i64 size] w fun e w' => ∃ tv' zv', e = .returned (.tuple #[]) ∧ RC w' b0 p f A n c fst tv' zv' (ts ++ [time]) (zs ++ [size]) ∧ KX (fun k => k = p ∨ some k = tv.ownBlock ∨ some k = zv.ownBlock) w w' ∧ (∀ g, tv'.ownBlock = some g → tv.ownBlock = some g ∨ w.heap.size ≤ g) ∧ (∀ g, zv'.ownBlock = some g → zv.ownBlock = some g ∨ w.heap.size ≤ g) := by
 have HR := hi_ h
 obtain ⟨c0, c1, c2, c3, c4, c5⟩ : _ ∧ _ ∧ _ ∧ _ ∧ _ ∧ _ := ⟨h.blk.cell 0, h.blk.cell 1, h.blk.cell 2, h.blk.cell 3, h.blk.cell 4, h.blk.cell 5⟩
 simp at c0 c1 c2 c3 c4 c5
 have hlp := h.blk.lt
 have HP := hi_ h.blk; have OT := hi_ h.tO; have OZ := hi_ (show Own w b0 zv ts.length zs by rw [h.ln]; exact h.zO); have KW := hi_ (KX.refl (fun k => some k = tv.ownBlock ∨ some k = zv.ownBlock) w)
 have HZE := hi_ (show zs.length = ts.length from h.ln.symm)
 obtain ⟨tA0, tc0, htv0, -, -, -⟩ := h.tO.ints
 obtain ⟨zA0, zc0, hzv0, -, -, -⟩ := h.zO.ints
 have HTV := hi_ htv0; have HZV := hi_ hzv0
 clear htv0 hzv0
 have HB0 := hi_ (show b0 ≤ w.heap.size by have := h.pb; omega)
 have HTL := hi_ (show ∀ g, tv.ownBlock = some g → g < w.heap.size from fun g hg => (h.tO.blk_lt g hg).2); have HZL := hi_ (show ∀ g, zv.ownBlock = some g → g < w.heap.size from fun g hg => (h.zO.blk_lt g hg).2)
 clear h
 go_enter Tryz.func73, Tryz.ntmps73
 have hF : True := trivial
 refine wp_region_T (fun _ => True) (fun w' => w'.cell? ⟨p, 4, none⟩ = some tv ∧ w'.cell? ⟨p, 5, none⟩ = some zv) 18 (by kernel_rfl) (by exact hF) (by exact ⟨c4, c5⟩) (fun _ => ?_)
 replace HP := hi_ (show Blk w.drew p 158 _ from HP.out); replace OT := hi_ (show Own w.drew b0 tv ts.length ts from OT.out); replace OZ := hi_ (show Own w.drew b0 zv ts.length zs from OZ.out); replace KW := hi_ (show KX (fun k => some k = tv.ownBlock ∨ some k = zv.ownBlock) w w.drew from KW.out.drewN 1)
 have hG : w.drew.cell? ⟨p, 4, none⟩ = some tv ∧ w.drew.cell? ⟨p, 5, none⟩ = some zv := ⟨c4, c5⟩
 have HSW := hi_ (show w.heap.size ≤ w.drew.heap.size from Nat.le_refl _)
 clear c0 c1 c2 c3 c4 c5 hlp
 generalize hwd : w.drew = wd at *
 clear hwd
 refine ttF 0 ?_
 refine ttF 1 ?_
 refine ttF 2 ?_
 refine ttF 3 ?_
 refine ttF 4 ?_
 refine ttG 5 ?_
 refine ttF 6 ?_
 refine ttF 9 ?_
 refine ttF 10 ?_
 refine ttF 11 ?_
 refine ttG 12 ?_
 refine ttF 13 ?_
 refine wpAnyT_ready (rs := [7, 14]) (by kernel_rfl) (by simp) ?_
 refine (AllReadyT.cons (by simp only [g8a, g8s, g8z]; rfl) (fun K hK => ?_) (AllReadyT.cons (by simp only [g8a, g8s, g8z]; rfl) (fun K hK => ?_) AllReadyT.nil))
 ·-- a literal [time] is laid: wd the world, wa the new one, DA its name
  rw [if_pos (by rfl)]
  go_simp
  have ba := balloc wd (.cells #[.int .i64 time] 3)
  have hlit : IBlk (wd.alloc (.cells #[.int .i64 time] 3)) wd.heap.size [time] := Blk.new wd 3 #[.int .i64 time]
  have GDA := HSW
  try (replace DA := hi_ (DA.out.kx (X := fun _ => False) (KX.of ba) (fun h => h)))
  try (replace DZ := hi_ (DZ.out.kx (X := fun _ => False) (KX.of ba) (fun h => h)))
  replace HP := hi_ (HP.out.alloc (.cells #[.int .i64 time] 3)); replace OT := hi_ (OT.out.kx (X := fun _ => False) (KX.of ba) (fun _ _ h => h)); replace OZ := hi_ (OZ.out.kx (X := fun _ => False) (KX.of ba) (fun _ _ h => h)); replace KW := hi_ (KW.out.alloc (.cells #[.int .i64 time] 3))
  try (replace HT2 := hi_ (fun g h => Nat.lt_of_lt_of_le (HT2.out g h) ba.size))
  replace HSW := hi_ (Nat.le_trans HSW.out ba.size)
  obtain ⟨gDA, hgDA⟩ : ∃ g, g = wd.heap.size := ⟨_, rfl⟩
  rw [← hgDA] at hlit GDA
  simp only [← hgDA]
  have DA := hi_ hlit
  clear hlit ba hG hgDA
  generalize hwx : wd.alloc (.cells #[.int .i64 time] 3) = wa at *
  clear hwx
  have hG : wa.cell? ⟨p, 4, none⟩ = some tv ∧ wa.cell? ⟨p, 5, none⟩ = some zv := ⟨by simpa using HP.out.cell 4, by simpa using HP.out.cell 5⟩
  refine hK.out _ _ ⟨(by exact hF), fun _ => (by exact hG)⟩ (fun _ => ?_)
  clear hK K
  (try simp only [Act.put]); try simp only [g8b, g8c, g8d]
  refine wpAnyT_ready (rs := [8, 14]) (by kernel_rfl) (by simp) ?_
  refine (AllReadyT.cons (by simp only [g8a, g8s, g8z]; rfl) (fun K hK => ?_) (AllReadyT.cons (by simp only [g8a, g8s, g8z]; rfl) (fun K hK => ?_) AllReadyT.nil))
  ·-- times grows: wa the world, wp the new one
   refine step_app (by rfl) _ _ 22 (by rfl) Tryz.underlying22 b0 tv ts.length ts (by rfl) OT.out wa.heap.size (some ⟨gDA, 0, none⟩) 1 1 [time] (by rfl) (IBlk.ints DA.out) (by omega) (Nat.le_trans HB0.out HSW.out) ?_
   intro tv' wp own2 grow2 at2
   have kg := KX.grown grow2
   replace OZ := hi_ (OZ.out.kx kg (fun g hg e => HR.out.tz g e.symm hg)); replace HP := hi_ (HP.out.kx kg (fun e => HR.out.tp e.symm)); replace KW := hi_ (KW.out.trans (kg.mono (fun _ _ e => .inl e)))
   have HAT := hi_ (show tv'.ownBlock = tv.ownBlock ∨ ∃ b, tv'.ownBlock = some b ∧ w.heap.size ≤ b from at2.imp id (fun h => ⟨_, h, HSW.out⟩))
   try (replace DZ := hi_ (DZ.out.kx kg (fun e => by have h1 := HTL.out gDZ e.symm; have h2 := GDZ.out; omega)))
   replace HSW := hi_ (Nat.le_trans HSW.out grow2.size)
   have HT2 := hi_ (show ∀ g, tv'.ownBlock = some g → g < wp.heap.size from fun g hg => (own2.blk_lt g hg).2)
   replace OT := hi_ own2
   obtain ⟨tA, tc, rfl, -, -, -⟩ := own2.ints
   clear own2 grow2 at2 kg hG DA
   have hG : wp.cell? ⟨p, 4, none⟩ = some tv ∧ wp.cell? ⟨p, 5, none⟩ = some zv := ⟨by simpa using HP.out.cell 4, by simpa using HP.out.cell 5⟩
   refine hK.out _ _ ⟨(by exact hF), fun _ => (by exact hG)⟩ (fun _ => ?_)
   clear hK K
   (try simp only [Act.put]); try simp only [g8b, g8c, g8d]
   refine rdT 14 (fun K hK => ?_)
   rw [if_pos (by rfl)]
   go_simp
   have ba := balloc wp (.cells #[.int .i64 size] 3)
   have hlit : IBlk (wp.alloc (.cells #[.int .i64 size] 3)) wp.heap.size [size] := Blk.new wp 3 #[.int .i64 size]
   have GDZ := HSW
   try (replace DA := hi_ (DA.out.kx (X := fun _ => False) (KX.of ba) (fun h => h)))
   try (replace DZ := hi_ (DZ.out.kx (X := fun _ => False) (KX.of ba) (fun h => h)))
   replace HP := hi_ (HP.out.alloc (.cells #[.int .i64 size] 3)); replace OT := hi_ (OT.out.kx (X := fun _ => False) (KX.of ba) (fun _ _ h => h)); replace OZ := hi_ (OZ.out.kx (X := fun _ => False) (KX.of ba) (fun _ _ h => h)); replace KW := hi_ (KW.out.alloc (.cells #[.int .i64 size] 3))
   try (replace HT2 := hi_ (fun g h => Nat.lt_of_lt_of_le (HT2.out g h) ba.size))
   replace HSW := hi_ (Nat.le_trans HSW.out ba.size)
   obtain ⟨gDZ, hgDZ⟩ : ∃ g, g = wp.heap.size := ⟨_, rfl⟩
   rw [← hgDZ] at hlit GDZ
   simp only [← hgDZ]
   have DZ := hi_ hlit
   clear hlit ba hG hgDZ
   generalize hwx : wp.alloc (.cells #[.int .i64 size] 3) = wb at *
   clear hwx
   have hG : wb.cell? ⟨p, 4, none⟩ = some tv ∧ wb.cell? ⟨p, 5, none⟩ = some zv := ⟨by simpa using HP.out.cell 4, by simpa using HP.out.cell 5⟩
   refine hK.out _ _ ⟨(by exact hF), fun _ => (by exact hG)⟩ (fun _ => ?_)
   clear hK K
   (try simp only [Act.put]); try simp only [g8b, g8c, g8d]
   refine rdT 15 (fun K hK => ?_)
   refine step_app (by rfl) _ _ 22 (by rfl) Tryz.underlying22 b0 zv ts.length zs (by rfl) OZ.out wb.heap.size (some ⟨gDZ, 0, none⟩) 1 1 [size] (by rfl) (IBlk.ints DZ.out) (by omega) (Nat.le_trans HB0.out HSW.out) ?_
   intro zv' wq own2 grow2 at2
   have kg := KX.grown grow2
   have hne : ∀ g, (Value.slice tA (ts.length + 1) tc).ownBlock = some g → zv.ownBlock ≠ some g := fun g hg e => by
    rcases HAT.out with h | ⟨b, h, hb⟩
    ·rw [h] at hg; exact HR.out.tz g hg e
    ·rw [h] at hg; cases hg
     have := HZL.out _ e; omega
   have hne2 : ∀ g, (Value.slice tA (ts.length + 1) tc).ownBlock = some g → zv'.ownBlock ≠ some g := fun g hg e => by
    rcases at2 with h | h
    ·rw [h] at e; exact hne g hg e
    ·rw [h] at e; cases e
     have := HT2.out _ hg; omega
   replace OT := hi_ (OT.out.kx kg (fun g hg e => hne g hg e.symm)); replace HP := hi_ (HP.out.kx kg (fun e => HR.out.zp e.symm)); replace KW := hi_ (KW.out.trans (kg.mono (fun _ _ e => .inr e)))
   have HAZ := hi_ (show zv'.ownBlock = zv.ownBlock ∨ ∃ b, zv'.ownBlock = some b ∧ w.heap.size ≤ b from at2.imp id (fun h => ⟨_, h, HSW.out⟩))
   replace OZ := hi_ own2
   have HN2 := hi_ hne2
   obtain ⟨zA, zc, rfl, -, -, -⟩ := own2.ints
   clear own2 grow2 at2 kg hG DZ hne hne2
   have hG : wq.cell? ⟨p, 4, none⟩ = some tv ∧ wq.cell? ⟨p, 5, none⟩ = some zv := ⟨by simpa using HP.out.cell 4, by simpa using HP.out.cell 5⟩
   refine hK.out _ _ ⟨(by exact hF), fun _ => (by exact hG)⟩ (fun _ => ?_)
   clear hK K
   (try simp only [Act.put]); try simp only [g8b, g8c, g8d]
   refine ttF 16 ?_
   refine ttF 17 ?_
   refine rdT 18 (fun K hK => ?_)
   obtain ⟨⟨q4, q5⟩, ⟨z4, z5⟩, hlp⟩ : (_ ∧ _) ∧ (_ ∧ _) ∧ _ := ⟨⟨HP.out.cell 4, HP.out.cell 5⟩, ⟨HP.out.frozen 4, HP.out.frozen 5⟩, HP.out.lt⟩
   simp at q4 q5
   rw [if_pos (by rfl)]
   go_simp
   have hP2 := HP.out.set_ 4 (.slice tA (ts.length + 1) tc)
   simp only [List.setIfInBounds_toArray, List.set_cons_zero, List.set_cons_succ] at hP2
   have kp := set_kxA wq p 4 (.slice tA (ts.length + 1) tc)
   replace HP := hi_ hP2
   replace OT := hi_ (OT.out.kx kp (fun g hg e => by
    rcases HAT.out with h | ⟨b, h, hb⟩
    ·rw [h] at hg; exact HR.out.tp (hg.trans (congrArg some e))
    ·rw [h] at hg; cases hg
     have := HR.out.blk.lt; omega))
   replace OZ := hi_ (OZ.out.kx kp (fun g hg e => by
    rcases HAZ.out with h | ⟨b, h, hb⟩
    ·rw [h] at hg; exact HR.out.zp (hg.trans (congrArg some e))
    ·rw [h] at hg; cases hg
     have := HR.out.blk.lt; omega))
   have KV := hi_ ((KW.out.mono (Y := fun k => k = p ∨ some k = tv.ownBlock ∨ some k = zv.ownBlock) (fun _ _ h => .inr h)).trans (kp.mono (fun _ _ h => .inl h)))
   clear hP2 kp hG q4 q5 z4 z5 hlp KW
   generalize hws : wq.setCell ⟨p, 4, none⟩ (.slice tA (ts.length + 1) tc) = ws at *
   clear hws
   refine hK.out _ _ ⟨(by exact hF), fun h => Bool.noConfusion (show true = false from h)⟩ (fun _ => ?_)
   clear hK K
   (try simp only [Act.put]); try simp only [g8b, g8c, g8d]
   refine wpAnyT_take (i := 19) (oi := _) (v := ?_) (by simp only [g8a, g8s, g8z]; rfl) (by kernel_rfl) (by kernel_rfl) (by kernel_rfl) (by rfl) (by exact fun _ _ _ h => h) (Or.inl ⟨by rfl, ?_⟩) ⟨(by exact hF), fun h => Bool.noConfusion (show true = false from h)⟩ (fun _ => ?_)
   rotate_left 1
   ·(intro w hSw; (try dsimp only at hSw); go_simp; try with_reducible rfl)
   all_goals ((try simp only [Act.put]); try simp only [g8b, g8c, g8d])
   refine wpAnyT_take (i := 20) (oi := _) (v := ?_) (by simp only [g8a, g8s, g8z]; rfl) (by kernel_rfl) (by kernel_rfl) (by kernel_rfl) (by rfl) (by exact fun _ _ _ h => h) (Or.inl ⟨by rfl, ?_⟩) ⟨(by exact hF), fun h => Bool.noConfusion (show true = false from h)⟩ (fun _ => ?_)
   rotate_left 1
   ·(intro w hSw; (try dsimp only at hSw); go_simp; try with_reducible rfl)
   all_goals ((try simp only [Act.put]); try simp only [g8b, g8c, g8d])
   refine rdT 21 (fun K hK => ?_)
   obtain ⟨⟨q4, q5⟩, ⟨z4, z5⟩, hlp⟩ : (_ ∧ _) ∧ (_ ∧ _) ∧ _ := ⟨⟨HP.out.cell 4, HP.out.cell 5⟩, ⟨HP.out.frozen 4, HP.out.frozen 5⟩, HP.out.lt⟩
   simp at q4 q5
   rw [if_pos (by rfl)]
   go_simp
   have hP2 := HP.out.set_ 5 (.slice zA (ts.length + 1) zc)
   simp only [List.setIfInBounds_toArray, List.set_cons_zero, List.set_cons_succ] at hP2
   have kp := set_kxA ws p 5 (.slice zA (ts.length + 1) zc)
   have KU := hi_ (KV.out.trans (kp.mono (Y := fun k => k = p ∨ some k = tv.ownBlock ∨ some k = zv.ownBlock) (fun _ _ h => .inl h)))
   have hR : RC (ws.setCell ⟨p, 5, none⟩ (.slice zA (ts.length + 1) zc)) b0 p f A n c fst (.slice tA (ts.length + 1) tc) (.slice zA (ts.length + 1) zc) (ts ++ [time]) (zs ++ [size]) := by
    have ht : ∀ g, (Value.slice tA (ts.length + 1) tc).ownBlock = some g → ¬ g = p := fun g hg e => by
     rcases HAT.out with h | ⟨b, h, hb⟩
     ·rw [h] at hg; exact HR.out.tp (hg.trans (congrArg some e))
     ·rw [h] at hg; cases hg
      have := HR.out.blk.lt; omega
    have hz2 : ∀ g, (Value.slice zA (ts.length + 1) zc).ownBlock = some g → ¬ g = p := fun g hg e => by
     rcases HAZ.out with h | ⟨b, h, hb⟩
     ·rw [h] at hg; exact HR.out.zp (hg.trans (congrArg some e))
     ·rw [h] at hg; cases hg
      have := HR.out.blk.lt; omega
    have o1 := OT.out.kx kp ht
    have o2 := OZ.out.kx kp (fun g hg => hz2 g hg)
    refine ⟨hP2, by rw [List.length_append]; exact o1, by rw [List.length_append, HZE.out]; exact o2, fun h => ht p h rfl, fun h => hz2 p h rfl, fun g hg hg2 => HN2.out g hg hg2, HR.out.pb, HR.out.fi.keep fun q hq => ?_, by simp [HZE.out]⟩
    have hlt := HB0.out
    refine World.cell?_of_block (KU.out.block q.block (by omega) ?_)
    have h1 := HR.out.pb
    rintro (e | e | e)
    ·omega
    ·have := (HR.out.tO.blk_lt _ e.symm).1; omega
    ·have := (HR.out.zO.blk_lt _ e.symm).1; omega
   have HRR := hi_ hR
   clear hR hP2 kp q4 q5 z4 z5 hlp
   refine hK.out _ _ ⟨(by exact hF), fun h => Bool.noConfusion (show true = false from h)⟩ (fun _ => ?_)
   clear hK K
   (try simp only [Act.put]); try simp only [g8b, g8c, g8d]
   refine wpAnyT_done (by kernel_rfl) ?_ _
   go_wp2_with fail
   exact bodyPost_end (v := .tuple #[]) (by simp [results, Tryz.results73, go_sem]) rfl ⟨_, _, rfl, HRR.out, KU.out, fun g hg => HAT.out.imp (fun h => h.symm.trans hg) (fun ⟨b, h, hb⟩ => by rw [h] at hg; cases hg; exact hb), fun g hg => HAZ.out.imp (fun h => h.symm.trans hg) (fun ⟨b, h, hb⟩ => by rw [h] at hg; cases hg; exact hb)⟩
  ·-- a literal [size] is laid: wa the world, wb the new one, DZ its name
   rw [if_pos (by rfl)]
   go_simp
   have ba := balloc wa (.cells #[.int .i64 size] 3)
   have hlit : IBlk (wa.alloc (.cells #[.int .i64 size] 3)) wa.heap.size [size] := Blk.new wa 3 #[.int .i64 size]
   have GDZ := HSW
   try (replace DA := hi_ (DA.out.kx (X := fun _ => False) (KX.of ba) (fun h => h)))
   try (replace DZ := hi_ (DZ.out.kx (X := fun _ => False) (KX.of ba) (fun h => h)))
   replace HP := hi_ (HP.out.alloc (.cells #[.int .i64 size] 3)); replace OT := hi_ (OT.out.kx (X := fun _ => False) (KX.of ba) (fun _ _ h => h)); replace OZ := hi_ (OZ.out.kx (X := fun _ => False) (KX.of ba) (fun _ _ h => h)); replace KW := hi_ (KW.out.alloc (.cells #[.int .i64 size] 3))
   try (replace HT2 := hi_ (fun g h => Nat.lt_of_lt_of_le (HT2.out g h) ba.size))
   replace HSW := hi_ (Nat.le_trans HSW.out ba.size)
   obtain ⟨gDZ, hgDZ⟩ : ∃ g, g = wa.heap.size := ⟨_, rfl⟩
   rw [← hgDZ] at hlit GDZ
   simp only [← hgDZ]
   have DZ := hi_ hlit
   clear hlit ba hG hgDZ
   generalize hwx : wa.alloc (.cells #[.int .i64 size] 3) = wb at *
   clear hwx
   have hG : wb.cell? ⟨p, 4, none⟩ = some tv ∧ wb.cell? ⟨p, 5, none⟩ = some zv := ⟨by simpa using HP.out.cell 4, by simpa using HP.out.cell 5⟩
   refine hK.out _ _ ⟨(by exact hF), fun _ => (by exact hG)⟩ (fun _ => ?_)
   clear hK K
   (try simp only [Act.put]); try simp only [g8b, g8c, g8d]
   refine rdT 8 (fun K hK => ?_)
   refine step_app (by rfl) _ _ 22 (by rfl) Tryz.underlying22 b0 tv ts.length ts (by rfl) OT.out wb.heap.size (some ⟨gDA, 0, none⟩) 1 1 [time] (by rfl) (IBlk.ints DA.out) (by omega) (Nat.le_trans HB0.out HSW.out) ?_
   intro tv' wp own2 grow2 at2
   have kg := KX.grown grow2
   replace OZ := hi_ (OZ.out.kx kg (fun g hg e => HR.out.tz g e.symm hg)); replace HP := hi_ (HP.out.kx kg (fun e => HR.out.tp e.symm)); replace KW := hi_ (KW.out.trans (kg.mono (fun _ _ e => .inl e)))
   have HAT := hi_ (show tv'.ownBlock = tv.ownBlock ∨ ∃ b, tv'.ownBlock = some b ∧ w.heap.size ≤ b from at2.imp id (fun h => ⟨_, h, HSW.out⟩))
   try (replace DZ := hi_ (DZ.out.kx kg (fun e => by have h1 := HTL.out gDZ e.symm; have h2 := GDZ.out; omega)))
   replace HSW := hi_ (Nat.le_trans HSW.out grow2.size)
   have HT2 := hi_ (show ∀ g, tv'.ownBlock = some g → g < wp.heap.size from fun g hg => (own2.blk_lt g hg).2)
   replace OT := hi_ own2
   obtain ⟨tA, tc, rfl, -, -, -⟩ := own2.ints
   clear own2 grow2 at2 kg hG DA
   have hG : wp.cell? ⟨p, 4, none⟩ = some tv ∧ wp.cell? ⟨p, 5, none⟩ = some zv := ⟨by simpa using HP.out.cell 4, by simpa using HP.out.cell 5⟩
   refine hK.out _ _ ⟨(by exact hF), fun _ => (by exact hG)⟩ (fun _ => ?_)
   clear hK K
   (try simp only [Act.put]); try simp only [g8b, g8c, g8d]
   refine rdT 15 (fun K hK => ?_)
   refine step_app (by rfl) _ _ 22 (by rfl) Tryz.underlying22 b0 zv ts.length zs (by rfl) OZ.out wp.heap.size (some ⟨gDZ, 0, none⟩) 1 1 [size] (by rfl) (IBlk.ints DZ.out) (by omega) (Nat.le_trans HB0.out HSW.out) ?_
   intro zv' wq own2 grow2 at2
   have kg := KX.grown grow2
   have hne : ∀ g, (Value.slice tA (ts.length + 1) tc).ownBlock = some g → zv.ownBlock ≠ some g := fun g hg e => by
    rcases HAT.out with h | ⟨b, h, hb⟩
    ·rw [h] at hg; exact HR.out.tz g hg e
    ·rw [h] at hg; cases hg
     have := HZL.out _ e; omega
   have hne2 : ∀ g, (Value.slice tA (ts.length + 1) tc).ownBlock = some g → zv'.ownBlock ≠ some g := fun g hg e => by
    rcases at2 with h | h
    ·rw [h] at e; exact hne g hg e
    ·rw [h] at e; cases e
     have := HT2.out _ hg; omega
   replace OT := hi_ (OT.out.kx kg (fun g hg e => hne g hg e.symm)); replace HP := hi_ (HP.out.kx kg (fun e => HR.out.zp e.symm)); replace KW := hi_ (KW.out.trans (kg.mono (fun _ _ e => .inr e)))
   have HAZ := hi_ (show zv'.ownBlock = zv.ownBlock ∨ ∃ b, zv'.ownBlock = some b ∧ w.heap.size ≤ b from at2.imp id (fun h => ⟨_, h, HSW.out⟩))
   replace OZ := hi_ own2
   have HN2 := hi_ hne2
   obtain ⟨zA, zc, rfl, -, -, -⟩ := own2.ints
   clear own2 grow2 at2 kg hG DZ hne hne2
   have hG : wq.cell? ⟨p, 4, none⟩ = some tv ∧ wq.cell? ⟨p, 5, none⟩ = some zv := ⟨by simpa using HP.out.cell 4, by simpa using HP.out.cell 5⟩
   refine hK.out _ _ ⟨(by exact hF), fun _ => (by exact hG)⟩ (fun _ => ?_)
   clear hK K
   (try simp only [Act.put]); try simp only [g8b, g8c, g8d]
   refine ttF 16 ?_
   refine ttF 17 ?_
   refine rdT 18 (fun K hK => ?_)
   obtain ⟨⟨q4, q5⟩, ⟨z4, z5⟩, hlp⟩ : (_ ∧ _) ∧ (_ ∧ _) ∧ _ := ⟨⟨HP.out.cell 4, HP.out.cell 5⟩, ⟨HP.out.frozen 4, HP.out.frozen 5⟩, HP.out.lt⟩
   simp at q4 q5
   rw [if_pos (by rfl)]
   go_simp
   have hP2 := HP.out.set_ 4 (.slice tA (ts.length + 1) tc)
   simp only [List.setIfInBounds_toArray, List.set_cons_zero, List.set_cons_succ] at hP2
   have kp := set_kxA wq p 4 (.slice tA (ts.length + 1) tc)
   replace HP := hi_ hP2
   replace OT := hi_ (OT.out.kx kp (fun g hg e => by
    rcases HAT.out with h | ⟨b, h, hb⟩
    ·rw [h] at hg; exact HR.out.tp (hg.trans (congrArg some e))
    ·rw [h] at hg; cases hg
     have := HR.out.blk.lt; omega))
   replace OZ := hi_ (OZ.out.kx kp (fun g hg e => by
    rcases HAZ.out with h | ⟨b, h, hb⟩
    ·rw [h] at hg; exact HR.out.zp (hg.trans (congrArg some e))
    ·rw [h] at hg; cases hg
     have := HR.out.blk.lt; omega))
   have KV := hi_ ((KW.out.mono (Y := fun k => k = p ∨ some k = tv.ownBlock ∨ some k = zv.ownBlock) (fun _ _ h => .inr h)).trans (kp.mono (fun _ _ h => .inl h)))
   clear hP2 kp hG q4 q5 z4 z5 hlp KW
   generalize hws : wq.setCell ⟨p, 4, none⟩ (.slice tA (ts.length + 1) tc) = ws at *
   clear hws
   refine hK.out _ _ ⟨(by exact hF), fun h => Bool.noConfusion (show true = false from h)⟩ (fun _ => ?_)
   clear hK K
   (try simp only [Act.put]); try simp only [g8b, g8c, g8d]
   refine wpAnyT_take (i := 19) (oi := _) (v := ?_) (by simp only [g8a, g8s, g8z]; rfl) (by kernel_rfl) (by kernel_rfl) (by kernel_rfl) (by rfl) (by exact fun _ _ _ h => h) (Or.inl ⟨by rfl, ?_⟩) ⟨(by exact hF), fun h => Bool.noConfusion (show true = false from h)⟩ (fun _ => ?_)
   rotate_left 1
   ·(intro w hSw; (try dsimp only at hSw); go_simp; try with_reducible rfl)
   all_goals ((try simp only [Act.put]); try simp only [g8b, g8c, g8d])
   refine wpAnyT_take (i := 20) (oi := _) (v := ?_) (by simp only [g8a, g8s, g8z]; rfl) (by kernel_rfl) (by kernel_rfl) (by kernel_rfl) (by rfl) (by exact fun _ _ _ h => h) (Or.inl ⟨by rfl, ?_⟩) ⟨(by exact hF), fun h => Bool.noConfusion (show true = false from h)⟩ (fun _ => ?_)
   rotate_left 1
   ·(intro w hSw; (try dsimp only at hSw); go_simp; try with_reducible rfl)
   all_goals ((try simp only [Act.put]); try simp only [g8b, g8c, g8d])
   refine rdT 21 (fun K hK => ?_)
   obtain ⟨⟨q4, q5⟩, ⟨z4, z5⟩, hlp⟩ : (_ ∧ _) ∧ (_ ∧ _) ∧ _ := ⟨⟨HP.out.cell 4, HP.out.cell 5⟩, ⟨HP.out.frozen 4, HP.out.frozen 5⟩, HP.out.lt⟩
   simp at q4 q5
   rw [if_pos (by rfl)]
   go_simp
   have hP2 := HP.out.set_ 5 (.slice zA (ts.length + 1) zc)
   simp only [List.setIfInBounds_toArray, List.set_cons_zero, List.set_cons_succ] at hP2
   have kp := set_kxA ws p 5 (.slice zA (ts.length + 1) zc)
   have KU := hi_ (KV.out.trans (kp.mono (Y := fun k => k = p ∨ some k = tv.ownBlock ∨ some k = zv.ownBlock) (fun _ _ h => .inl h)))
   have hR : RC (ws.setCell ⟨p, 5, none⟩ (.slice zA (ts.length + 1) zc)) b0 p f A n c fst (.slice tA (ts.length + 1) tc) (.slice zA (ts.length + 1) zc) (ts ++ [time]) (zs ++ [size]) := by
    have ht : ∀ g, (Value.slice tA (ts.length + 1) tc).ownBlock = some g → ¬ g = p := fun g hg e => by
     rcases HAT.out with h | ⟨b, h, hb⟩
     ·rw [h] at hg; exact HR.out.tp (hg.trans (congrArg some e))
     ·rw [h] at hg; cases hg
      have := HR.out.blk.lt; omega
    have hz2 : ∀ g, (Value.slice zA (ts.length + 1) zc).ownBlock = some g → ¬ g = p := fun g hg e => by
     rcases HAZ.out with h | ⟨b, h, hb⟩
     ·rw [h] at hg; exact HR.out.zp (hg.trans (congrArg some e))
     ·rw [h] at hg; cases hg
      have := HR.out.blk.lt; omega
    have o1 := OT.out.kx kp ht
    have o2 := OZ.out.kx kp (fun g hg => hz2 g hg)
    refine ⟨hP2, by rw [List.length_append]; exact o1, by rw [List.length_append, HZE.out]; exact o2, fun h => ht p h rfl, fun h => hz2 p h rfl, fun g hg hg2 => HN2.out g hg hg2, HR.out.pb, HR.out.fi.keep fun q hq => ?_, by simp [HZE.out]⟩
    have hlt := HB0.out
    refine World.cell?_of_block (KU.out.block q.block (by omega) ?_)
    have h1 := HR.out.pb
    rintro (e | e | e)
    ·omega
    ·have := (HR.out.tO.blk_lt _ e.symm).1; omega
    ·have := (HR.out.zO.blk_lt _ e.symm).1; omega
   have HRR := hi_ hR
   clear hR hP2 kp q4 q5 z4 z5 hlp
   refine hK.out _ _ ⟨(by exact hF), fun h => Bool.noConfusion (show true = false from h)⟩ (fun _ => ?_)
   clear hK K
   (try simp only [Act.put]); try simp only [g8b, g8c, g8d]
   refine wpAnyT_done (by kernel_rfl) ?_ _
   go_wp2_with fail
   exact bodyPost_end (v := .tuple #[]) (by simp [results, Tryz.results73, go_sem]) rfl ⟨_, _, rfl, HRR.out, KU.out, fun g hg => HAT.out.imp (fun h => h.symm.trans hg) (fun ⟨b, h, hb⟩ => by rw [h] at hg; cases hg; exact hb), fun g hg => HAZ.out.imp (fun h => h.symm.trans hg) (fun ⟨b, h, hb⟩ => by rw [h] at hg; cases hg; exact hb)⟩
 ·-- a literal [size] is laid: wd the world, wa the new one, DZ its name
  rw [if_pos (by rfl)]
  go_simp
  have ba := balloc wd (.cells #[.int .i64 size] 3)
  have hlit : IBlk (wd.alloc (.cells #[.int .i64 size] 3)) wd.heap.size [size] := Blk.new wd 3 #[.int .i64 size]
  have GDZ := HSW
  try (replace DA := hi_ (DA.out.kx (X := fun _ => False) (KX.of ba) (fun h => h)))
  try (replace DZ := hi_ (DZ.out.kx (X := fun _ => False) (KX.of ba) (fun h => h)))
  replace HP := hi_ (HP.out.alloc (.cells #[.int .i64 size] 3)); replace OT := hi_ (OT.out.kx (X := fun _ => False) (KX.of ba) (fun _ _ h => h)); replace OZ := hi_ (OZ.out.kx (X := fun _ => False) (KX.of ba) (fun _ _ h => h)); replace KW := hi_ (KW.out.alloc (.cells #[.int .i64 size] 3))
  try (replace HT2 := hi_ (fun g h => Nat.lt_of_lt_of_le (HT2.out g h) ba.size))
  replace HSW := hi_ (Nat.le_trans HSW.out ba.size)
  obtain ⟨gDZ, hgDZ⟩ : ∃ g, g = wd.heap.size := ⟨_, rfl⟩
  rw [← hgDZ] at hlit GDZ
  simp only [← hgDZ]
  have DZ := hi_ hlit
  clear hlit ba hG hgDZ
  generalize hwx : wd.alloc (.cells #[.int .i64 size] 3) = wa at *
  clear hwx
  have hG : wa.cell? ⟨p, 4, none⟩ = some tv ∧ wa.cell? ⟨p, 5, none⟩ = some zv := ⟨by simpa using HP.out.cell 4, by simpa using HP.out.cell 5⟩
  refine hK.out _ _ ⟨(by exact hF), fun _ => (by exact hG)⟩ (fun _ => ?_)
  clear hK K
  (try simp only [Act.put]); try simp only [g8b, g8c, g8d]
  refine rdT 7 (fun K hK => ?_)
  rw [if_pos (by rfl)]
  go_simp
  have ba := balloc wa (.cells #[.int .i64 time] 3)
  have hlit : IBlk (wa.alloc (.cells #[.int .i64 time] 3)) wa.heap.size [time] := Blk.new wa 3 #[.int .i64 time]
  have GDA := HSW
  try (replace DA := hi_ (DA.out.kx (X := fun _ => False) (KX.of ba) (fun h => h)))
  try (replace DZ := hi_ (DZ.out.kx (X := fun _ => False) (KX.of ba) (fun h => h)))
  replace HP := hi_ (HP.out.alloc (.cells #[.int .i64 time] 3)); replace OT := hi_ (OT.out.kx (X := fun _ => False) (KX.of ba) (fun _ _ h => h)); replace OZ := hi_ (OZ.out.kx (X := fun _ => False) (KX.of ba) (fun _ _ h => h)); replace KW := hi_ (KW.out.alloc (.cells #[.int .i64 time] 3))
  try (replace HT2 := hi_ (fun g h => Nat.lt_of_lt_of_le (HT2.out g h) ba.size))
  replace HSW := hi_ (Nat.le_trans HSW.out ba.size)
  obtain ⟨gDA, hgDA⟩ : ∃ g, g = wa.heap.size := ⟨_, rfl⟩
  rw [← hgDA] at hlit GDA
  simp only [← hgDA]
  have DA := hi_ hlit
  clear hlit ba hG hgDA
  generalize hwx : wa.alloc (.cells #[.int .i64 time] 3) = wb at *
  clear hwx
  have hG : wb.cell? ⟨p, 4, none⟩ = some tv ∧ wb.cell? ⟨p, 5, none⟩ = some zv := ⟨by simpa using HP.out.cell 4, by simpa using HP.out.cell 5⟩
  refine hK.out _ _ ⟨(by exact hF), fun _ => (by exact hG)⟩ (fun _ => ?_)
  clear hK K
  (try simp only [Act.put]); try simp only [g8b, g8c, g8d]
  refine rdT 8 (fun K hK => ?_)
  refine step_app (by rfl) _ _ 22 (by rfl) Tryz.underlying22 b0 tv ts.length ts (by rfl) OT.out wb.heap.size (some ⟨gDA, 0, none⟩) 1 1 [time] (by rfl) (IBlk.ints DA.out) (by omega) (Nat.le_trans HB0.out HSW.out) ?_
  intro tv' wp own2 grow2 at2
  have kg := KX.grown grow2
  replace OZ := hi_ (OZ.out.kx kg (fun g hg e => HR.out.tz g e.symm hg)); replace HP := hi_ (HP.out.kx kg (fun e => HR.out.tp e.symm)); replace KW := hi_ (KW.out.trans (kg.mono (fun _ _ e => .inl e)))
  have HAT := hi_ (show tv'.ownBlock = tv.ownBlock ∨ ∃ b, tv'.ownBlock = some b ∧ w.heap.size ≤ b from at2.imp id (fun h => ⟨_, h, HSW.out⟩))
  try (replace DZ := hi_ (DZ.out.kx kg (fun e => by have h1 := HTL.out gDZ e.symm; have h2 := GDZ.out; omega)))
  replace HSW := hi_ (Nat.le_trans HSW.out grow2.size)
  have HT2 := hi_ (show ∀ g, tv'.ownBlock = some g → g < wp.heap.size from fun g hg => (own2.blk_lt g hg).2)
  replace OT := hi_ own2
  obtain ⟨tA, tc, rfl, -, -, -⟩ := own2.ints
  clear own2 grow2 at2 kg hG DA
  have hG : wp.cell? ⟨p, 4, none⟩ = some tv ∧ wp.cell? ⟨p, 5, none⟩ = some zv := ⟨by simpa using HP.out.cell 4, by simpa using HP.out.cell 5⟩
  refine hK.out _ _ ⟨(by exact hF), fun _ => (by exact hG)⟩ (fun _ => ?_)
  clear hK K
  (try simp only [Act.put]); try simp only [g8b, g8c, g8d]
  refine rdT 15 (fun K hK => ?_)
  refine step_app (by rfl) _ _ 22 (by rfl) Tryz.underlying22 b0 zv ts.length zs (by rfl) OZ.out wp.heap.size (some ⟨gDZ, 0, none⟩) 1 1 [size] (by rfl) (IBlk.ints DZ.out) (by omega) (Nat.le_trans HB0.out HSW.out) ?_
  intro zv' wq own2 grow2 at2
  have kg := KX.grown grow2
  have hne : ∀ g, (Value.slice tA (ts.length + 1) tc).ownBlock = some g → zv.ownBlock ≠ some g := fun g hg e => by
   rcases HAT.out with h | ⟨b, h, hb⟩
   ·rw [h] at hg; exact HR.out.tz g hg e
   ·rw [h] at hg; cases hg
    have := HZL.out _ e; omega
  have hne2 : ∀ g, (Value.slice tA (ts.length + 1) tc).ownBlock = some g → zv'.ownBlock ≠ some g := fun g hg e => by
   rcases at2 with h | h
   ·rw [h] at e; exact hne g hg e
   ·rw [h] at e; cases e
    have := HT2.out _ hg; omega
  replace OT := hi_ (OT.out.kx kg (fun g hg e => hne g hg e.symm)); replace HP := hi_ (HP.out.kx kg (fun e => HR.out.zp e.symm)); replace KW := hi_ (KW.out.trans (kg.mono (fun _ _ e => .inr e)))
  have HAZ := hi_ (show zv'.ownBlock = zv.ownBlock ∨ ∃ b, zv'.ownBlock = some b ∧ w.heap.size ≤ b from at2.imp id (fun h => ⟨_, h, HSW.out⟩))
  replace OZ := hi_ own2
  have HN2 := hi_ hne2
  obtain ⟨zA, zc, rfl, -, -, -⟩ := own2.ints
  clear own2 grow2 at2 kg hG DZ hne hne2
  have hG : wq.cell? ⟨p, 4, none⟩ = some tv ∧ wq.cell? ⟨p, 5, none⟩ = some zv := ⟨by simpa using HP.out.cell 4, by simpa using HP.out.cell 5⟩
  refine hK.out _ _ ⟨(by exact hF), fun _ => (by exact hG)⟩ (fun _ => ?_)
  clear hK K
  (try simp only [Act.put]); try simp only [g8b, g8c, g8d]
  refine ttF 16 ?_
  refine ttF 17 ?_
  refine rdT 18 (fun K hK => ?_)
  obtain ⟨⟨q4, q5⟩, ⟨z4, z5⟩, hlp⟩ : (_ ∧ _) ∧ (_ ∧ _) ∧ _ := ⟨⟨HP.out.cell 4, HP.out.cell 5⟩, ⟨HP.out.frozen 4, HP.out.frozen 5⟩, HP.out.lt⟩
  simp at q4 q5
  rw [if_pos (by rfl)]
  go_simp
  have hP2 := HP.out.set_ 4 (.slice tA (ts.length + 1) tc)
  simp only [List.setIfInBounds_toArray, List.set_cons_zero, List.set_cons_succ] at hP2
  have kp := set_kxA wq p 4 (.slice tA (ts.length + 1) tc)
  replace HP := hi_ hP2
  replace OT := hi_ (OT.out.kx kp (fun g hg e => by
   rcases HAT.out with h | ⟨b, h, hb⟩
   ·rw [h] at hg; exact HR.out.tp (hg.trans (congrArg some e))
   ·rw [h] at hg; cases hg
    have := HR.out.blk.lt; omega))
  replace OZ := hi_ (OZ.out.kx kp (fun g hg e => by
   rcases HAZ.out with h | ⟨b, h, hb⟩
   ·rw [h] at hg; exact HR.out.zp (hg.trans (congrArg some e))
   ·rw [h] at hg; cases hg
    have := HR.out.blk.lt; omega))
  have KV := hi_ ((KW.out.mono (Y := fun k => k = p ∨ some k = tv.ownBlock ∨ some k = zv.ownBlock) (fun _ _ h => .inr h)).trans (kp.mono (fun _ _ h => .inl h)))
  clear hP2 kp hG q4 q5 z4 z5 hlp KW
  generalize hws : wq.setCell ⟨p, 4, none⟩ (.slice tA (ts.length + 1) tc) = ws at *
  clear hws
  refine hK.out _ _ ⟨(by exact hF), fun h => Bool.noConfusion (show true = false from h)⟩ (fun _ => ?_)
  clear hK K
  (try simp only [Act.put]); try simp only [g8b, g8c, g8d]
  refine wpAnyT_take (i := 19) (oi := _) (v := ?_) (by simp only [g8a, g8s, g8z]; rfl) (by kernel_rfl) (by kernel_rfl) (by kernel_rfl) (by rfl) (by exact fun _ _ _ h => h) (Or.inl ⟨by rfl, ?_⟩) ⟨(by exact hF), fun h => Bool.noConfusion (show true = false from h)⟩ (fun _ => ?_)
  rotate_left 1
  ·(intro w hSw; (try dsimp only at hSw); go_simp; try with_reducible rfl)
  all_goals ((try simp only [Act.put]); try simp only [g8b, g8c, g8d])
  refine wpAnyT_take (i := 20) (oi := _) (v := ?_) (by simp only [g8a, g8s, g8z]; rfl) (by kernel_rfl) (by kernel_rfl) (by kernel_rfl) (by rfl) (by exact fun _ _ _ h => h) (Or.inl ⟨by rfl, ?_⟩) ⟨(by exact hF), fun h => Bool.noConfusion (show true = false from h)⟩ (fun _ => ?_)
  rotate_left 1
  ·(intro w hSw; (try dsimp only at hSw); go_simp; try with_reducible rfl)
  all_goals ((try simp only [Act.put]); try simp only [g8b, g8c, g8d])
  refine rdT 21 (fun K hK => ?_)
  obtain ⟨⟨q4, q5⟩, ⟨z4, z5⟩, hlp⟩ : (_ ∧ _) ∧ (_ ∧ _) ∧ _ := ⟨⟨HP.out.cell 4, HP.out.cell 5⟩, ⟨HP.out.frozen 4, HP.out.frozen 5⟩, HP.out.lt⟩
  simp at q4 q5
  rw [if_pos (by rfl)]
  go_simp
  have hP2 := HP.out.set_ 5 (.slice zA (ts.length + 1) zc)
  simp only [List.setIfInBounds_toArray, List.set_cons_zero, List.set_cons_succ] at hP2
  have kp := set_kxA ws p 5 (.slice zA (ts.length + 1) zc)
  have KU := hi_ (KV.out.trans (kp.mono (Y := fun k => k = p ∨ some k = tv.ownBlock ∨ some k = zv.ownBlock) (fun _ _ h => .inl h)))
  have hR : RC (ws.setCell ⟨p, 5, none⟩ (.slice zA (ts.length + 1) zc)) b0 p f A n c fst (.slice tA (ts.length + 1) tc) (.slice zA (ts.length + 1) zc) (ts ++ [time]) (zs ++ [size]) := by
   have ht : ∀ g, (Value.slice tA (ts.length + 1) tc).ownBlock = some g → ¬ g = p := fun g hg e => by
    rcases HAT.out with h | ⟨b, h, hb⟩
    ·rw [h] at hg; exact HR.out.tp (hg.trans (congrArg some e))
    ·rw [h] at hg; cases hg
     have := HR.out.blk.lt; omega
   have hz2 : ∀ g, (Value.slice zA (ts.length + 1) zc).ownBlock = some g → ¬ g = p := fun g hg e => by
    rcases HAZ.out with h | ⟨b, h, hb⟩
    ·rw [h] at hg; exact HR.out.zp (hg.trans (congrArg some e))
    ·rw [h] at hg; cases hg
     have := HR.out.blk.lt; omega
   have o1 := OT.out.kx kp ht
   have o2 := OZ.out.kx kp (fun g hg => hz2 g hg)
   refine ⟨hP2, by rw [List.length_append]; exact o1, by rw [List.length_append, HZE.out]; exact o2, fun h => ht p h rfl, fun h => hz2 p h rfl, fun g hg hg2 => HN2.out g hg hg2, HR.out.pb, HR.out.fi.keep fun q hq => ?_, by simp [HZE.out]⟩
   have hlt := HB0.out
   refine World.cell?_of_block (KU.out.block q.block (by omega) ?_)
   have h1 := HR.out.pb
   rintro (e | e | e)
   ·omega
   ·have := (HR.out.tO.blk_lt _ e.symm).1; omega
   ·have := (HR.out.zO.blk_lt _ e.symm).1; omega
  have HRR := hi_ hR
  clear hR hP2 kp q4 q5 z4 z5 hlp
  refine hK.out _ _ ⟨(by exact hF), fun h => Bool.noConfusion (show true = false from h)⟩ (fun _ => ?_)
  clear hK K
  (try simp only [Act.put]); try simp only [g8b, g8c, g8d]
  refine wpAnyT_done (by kernel_rfl) ?_ _
  go_wp2_with fail
  exact bodyPost_end (v := .tuple #[]) (by simp [results, Tryz.results73, go_sem]) rfl ⟨_, _, rfl, HRR.out, KU.out, fun g hg => HAT.out.imp (fun h => h.symm.trans hg) (fun ⟨b, h, hb⟩ => by rw [h] at hg; cases hg; exact hb), fun g hg => HAZ.out.imp (fun h => h.symm.trans hg) (fun ⟨b, h, hb⟩ => by rw [h] at hg; cases hg; exact hb)⟩
end
section
inductive GrS (f : Cv) (ticks : Int) : List Int → Prop
 | nil : GrS f ticks []
 | snoc (ts : List Int) (t : Int) : GrS f ticks ts → ts.length < 60 → EaS f (f.at 1) (bk ts) 0 1 t true → t ≤ ticks → GrS f ticks (ts ++ [t])
def GrE (f : Cv) (ticks : Int) (ts : List Int) : Prop := GrS f ticks ts ∧ (60 ≤ ts.length ∨ ∃ t ok, EaS f (f.at 1) (bk ts) 0 1 t ok ∧ (ok = false ∨ ticks < t))
theorem GrS.len {f : Cv} {ticks : Int} {ts : List Int} (h : GrS f ticks ts) : ts.length ≤ 60 := by
 cases h with
 | nil => simp
 | snoc ts t _ h _ _ => simp; omega
theorem GrS.le {f : Cv} {ticks : Int} {ts : List Int} (hf : ∀ n, ¬ f.infAt n) (h : GrS f ticks ts) : ∀ j, j < ts.length → 0 ≤ nth ts j ∧ nth ts j ≤ ticks := by
 induction h with
 | nil => intro j hj; simp at hj
 | snoc ts t _ _ h1 h2 ih =>
   intro j hj
   rw [nth_app]
   by_cases e : j < ts.length
   ·rw [if_pos e]; exact ih j e
   ·have : j = ts.length := by simp at hj; omega
    rw [if_neg e, if_pos this]
    rcases h1 with ⟨_, _, h⟩ | ⟨_, h⟩
    ·cases h
    ·exact ⟨(ear_true hf h).1, h2⟩
theorem bk_zip (ts : List Int) : (ts.zip (List.replicate ts.length 1)).reverse = bk ts := by
 unfold bk
 rw [List.map_reverse]
 congr 1
 induction ts with
 | nil => rfl
 | cons t ts ih => simp [List.replicate_succ, ih]
structure GE (w0 wr : World) (p : Nat) (f : Cv) (A : Option Addr) (n c : Nat) (tv zv ov : Value) (ts : List Int) : Prop where
 rc : RC wr w0.heap.size p f A n c (f.at 1) tv zv ts (List.replicate ts.length 1)
 ko : KOwn wr w0.heap.size ov ts.length (ts.map unit)
 dp : ov.ownBlock ≠ some p
 dt : ∀ g, ov.ownBlock = some g → tv.ownBlock ≠ some g
 dz : ∀ g, ov.ownBlock = some g → zv.ownBlock ≠ some g
 bw : Below w0.heap.size w0 wr
theorem below_kx0 {w0 wr w' : World} {X : Nat → Prop} (h : Below w0.heap.size w0 wr) (k : KX X wr w') (hx : ∀ g, X g → w0.heap.size ≤ g) : Below w0.heap.size w0 w' :=
 ⟨k.os.trans h.os, k.tape.trans h.tape, k.output.trans h.output, Nat.le_trans h.size k.size, fun g hg => (k.block g (Nat.lt_of_lt_of_le hg h.size) (fun hX => by have := hx g hX; omega)).trans (h.block g hg)⟩
section
variable {w0 wr w' : World} {p : Nat} {f : Cv} {A : Option Addr} {n c : Nat} {tv zv ov : Value} {ts : List Int}
theorem GE.below (h : GE w0 wr p f A n c tv zv ov ts) (hb : Below wr.heap.size wr w') : GE w0 w' p f A n c tv zv ov ts :=
 ⟨h.rc.below hb, h.ko.kx (X := fun _ => False) (KX.of hb) (fun _ _ h => h), h.dp, h.dt, h.dz, bthen h.bw hb⟩
theorem RC.kx {b0 : Nat} {fst : Int} {ts zs : List Int} {X : Nat → Prop} (h : RC wr b0 p f A n c fst tv zv ts zs) (k : KX X wr w') (hp : ¬ X p) (ht : ∀ g, tv.ownBlock = some g → ¬ X g) (hz : ∀ g, zv.ownBlock = some g → ¬ X g) (hb : ∀ g, X g → b0 ≤ g) : RC w' b0 p f A n c fst tv zv ts zs := by
 have hlp := h.blk.lt
 have hpb := h.pb
 exact ⟨h.blk.kx k hp, h.tO.kx k ht, h.zO.kx k hz, h.tp, h.zp, h.tz, h.pb, h.fi.keep fun q hq => World.cell?_of_block (k.block q.block (by omega) (fun hX => by have := hb _ hX; omega)), h.ln⟩
end
attribute [local go_sem ↓] app_foldK
theorem greedy_any (A : Option Addr) (n c : Nat) (f : Cv) (ticks : Nat) (w : World) (hA : Ints w w.heap.size A n f.vals) (hf : f.Fin) (ht : ticks ≤ 2000) :
 Calls Tryz.prog 28 #[.int .i64 0, .agg #[.slice A n c, .int .i64 f.per, .int .i64 f.inc], .int .i64 1, .int .i64 ticks] w fun e w' => ∃ ts, GrE f ticks ts ∧ ∃ (O : Option Addr) (k : Nat), e = .returned (.tuple #[.slice O ts.length k, .int .i64 0]) ∧ LsT w' O ts.length k (ts.map unit) ∧ (∀ b off s, O = some ⟨b, off, s⟩ → w.heap.size ≤ b) ∧ Below w.heap.size w w' := by
 have BF := hi_ (Blk.new w 26 #[.slice A n c, .int .i64 f.per, .int .i64 f.inc])
 have BW := hi_ (balloc w (.cells #[.slice A n c, .int .i64 f.per, .int .i64 f.inc] 26))
 have HA := hi_ (hA.alloc' (.cells #[.slice A n c, .int .i64 f.per, .int .i64 f.inc] 26))
 have HF := hi_ hf
 have hn : n ≤ 400 := by have h1 := hf.1.n2; have h2 : f.vals.length = n := hA.1; omega
 clear hA hf
 go_enter Tryz.func28, Tryz.ntmps28
 go_upto_region 1 with fail
 generalize hwe : w.alloc (.cells #[.slice A n c, .int .i64 f.per, .int .i64 f.inc] 26) = w1 at *
 clear hwe
 obtain ⟨⟨l0, l1, l2⟩, -, hll⟩ := BF.out.c3
 go_wp2_with fail
 refine (valid_any A n c f.per f.inc f.vals _ (by exact HA.out) (by omega)).mono ?_
 rintro e w2 ⟨rfl, hb⟩
 rw [show Cv.okB ⟨f.vals, f.per, f.inc⟩ = true from Cv.okB_true HF.out.1]
 replace BF := hi_ (BF.out.below hb BF.out.lt); replace BW := hi_ (bthen BW.out hb); replace HA := hi_ (HA.out.ext hb)
 clear hb l0 l1 l2 hll
 obtain ⟨⟨l0, l1, l2⟩, -, hll⟩ := BF.out.c3
 go_wp2_with fail
 refine (begin_any A n c f _ (by exact HA.out) HF.out.1).mono ?_
 rintro e w3 ⟨p, rfl, hr, hb⟩
 have E0 := hi_ (show GE w2 w3 p f A n c (.slice none 0 0) (.slice none 0 0) (.slice none 0 0) [] from ⟨hr, KOwn.nil_ _ _, fun h => (by cases h), fun g h => (by cases h), fun g h => (by cases h), hb⟩)
 have G0 := hi_ (show GrS f ticks [] from .nil)
 clear hr hb l0 l1 l2 hll BF HA
 go_wp2_with fail
 go_loopg [11] 61 (fun gg s11 wr => ∃ (tv zv : Value) (O : Option Addr) (k : Nat) (ts : List Int), ts.length + gg = 61 ∧ s11 = .slice O ts.length k ∧ Hid (GrS f ticks ts) ∧ Hid (GE w2 wr p f A n c tv zv (.slice O ts.length k) ts))
 case atStart => exact ⟨_, _, none, 0, [], rfl, rfl, G0, E0⟩
 case round =>
  clear E0 G0
  obtain ⟨tv, zv, O, k, ts, hg, rfl, GS, E⟩ := hrel
  obtain ⟨N, hN⟩ : ∃ N, N = ts.length := ⟨_, rfl⟩
  have HN := hi_ hN
  rw [← hN] at hg E
  simp only [← hN]
  clear hN
  rcases Nat.lt_or_ge N 60 with hlt | hge
  ·have hi : (N : Int) < 60 := by omega
   have hle := GS.out.le (fun n => HF.out.not_infAt n)
   go_wp2_with fail
   refine (earliest_any w2.heap.size p f A n c (f.at 1) 0 1 tv zv ts (List.replicate ts.length 1) wr E.out.rc HF.out (by have := HN.out; omega) (fun j hj => by have := hle j hj; omega) (fun j hj => by rw [List.length_replicate] at hj; simp [nth, List.getD, hj]) (by omega) (by omega) (by omega) (by omega)).mono ?_
   rintro e w4 ⟨t, ok, hE, rfl, hb⟩
   rw [bk_zip] at hE
   have HE := hi_ hE
   replace E := hi_ (E.out.below hb)
   clear hb hE hle
   cases ok with
   | false =>
     have F := hi_ (show GrE f ticks ts from ⟨GS.out, .inr ⟨t, false, HE.out, .inl rfl⟩⟩)
     go_wp2_with fail
     obtain ⟨A', c', h1, h2, h3⟩ := E.out.ko.lst
     have h4 : O = A' ∧ k = c' := by injection h1 with e1 e2 e3; exact ⟨e1, e3⟩
     obtain ⟨rfl, rfl⟩ := h4
     have hB := BW.out.size
     exact bodyPost_ret (v := .tuple #[.slice O N k, .int .i64 0]) (by simp [results, Tryz.results28, go_sem]) rfl ⟨ts, F.out, O, k, by rw [← HN.out], h2, fun b off s e => by have := h3 b off s e; omega, bthen BW.out E.out.bw⟩
   | true =>
     by_cases htt : t ≤ ticks
     case neg =>
      have hd : (ticks : Int) < t := by omega
      have F := hi_ (show GrE f ticks ts from ⟨GS.out, .inr ⟨t, true, HE.out, .inr hd⟩⟩)
      go_wp2_with fail
      obtain ⟨A', c', h1, h2, h3⟩ := E.out.ko.lst
      have h4 : O = A' ∧ k = c' := by injection h1 with e1 e2 e3; exact ⟨e1, e3⟩
      obtain ⟨rfl, rfl⟩ := h4
      have hB := BW.out.size
      exact bodyPost_ret (v := .tuple #[.slice O N k, .int .i64 0]) (by simp [results, Tryz.results28, go_sem]) rfl ⟨ts, F.out, O, k, by rw [← HN.out], h2, fun b off s e => by have := h3 b off s e; omega, bthen BW.out E.out.bw⟩
     case pos =>
      have hd : ¬ (ticks : Int) < t := by omega
      obtain ⟨v', w5, hrun, hko, hkx, hvb⟩ := run_appSemK (show KOwn w4 w2.heap.size (.slice O N k) N (ts.map unit) by have := E.out.ko; rw [← HN.out] at this; exact this) ⟨0, t, 1⟩ E.out.bw.size (by omega)
      have GS2 := hi_ (GrS.snoc ts t GS.out (by rw [← HN.out]; exact hlt) HE.out htt)
      go_wp2_with fail
      have hov : ∀ g, (Value.slice O N k).ownBlock = some g → w2.heap.size ≤ g ∧ g < w4.heap.size := fun g hg => E.out.ko.blk g hg
      have hrc5 := E.out.rc.kx hkx (fun e => E.out.dp e.symm) (fun g hg e => E.out.dt g e.symm hg) (fun g hg e => E.out.dz g e.symm hg) (fun g e => (hov g e.symm).1)
      have htl : ∀ g, tv.ownBlock = some g → g < w4.heap.size := fun g hg => (E.out.rc.tO.blk_lt g hg).2
      have hzl : ∀ g, zv.ownBlock = some g → g < w4.heap.size := fun g hg => (E.out.rc.zO.blk_lt g hg).2
      have hpl := E.out.rc.blk.lt
      have hvl : ∀ g, v'.ownBlock = some g → g < w5.heap.size := fun g hg => (hko.blk g hg).2
      refine (add_any w2.heap.size p f A n c (f.at 1) t 1 tv zv ts (List.replicate ts.length 1) w5 hrc5 (by have := HN.out; omega)).mono ?_
      rintro e w6 ⟨tv', zv', rfl, hrc6, hkx6, htv, hzv⟩
      have hv1 : ∀ g, v'.ownBlock = some g → (Value.slice O N k).ownBlock = some g ∨ w4.heap.size ≤ g := fun g hg => by
       rcases hvb with h | ⟨b, h, hb⟩
       ·rw [h] at hg; exact .inl hg
       ·rw [h] at hg; cases hg; exact .inr hb
      have hvp : v'.ownBlock ≠ some p := fun e => by
       rcases hv1 p e with h | h
       ·exact E.out.dp h
       ·omega
      have hvt : ∀ g, v'.ownBlock = some g → tv.ownBlock ≠ some g := fun g hg e => by
       rcases hv1 g hg with h | h
       ·exact E.out.dt g h e
       ·have := htl g e; omega
      have hvz : ∀ g, v'.ownBlock = some g → zv.ownBlock ≠ some g := fun g hg e => by
       rcases hv1 g hg with h | h
       ·exact E.out.dz g h e
       ·have := hzl g e; omega
      have hko6 := hko.kx hkx6 (fun g hg e => by
       rcases e with e | e | e
       ·rw [e] at hg; exact hvp hg
       ·exact hvt g hg e.symm
       ·exact hvz g hg e.symm)
      obtain ⟨O', k', rfl, -, -⟩ := hko6.lst
      have hb5 := below_kx0 E.out.bw hkx (fun g e => (hov g e.symm).1)
      have hb6 := below_kx0 hb5 hkx6 (fun g e => by
       rcases e with e | e | e
       ·rw [e]; exact E.out.rc.pb
       ·exact (E.out.rc.tO.blk_lt g e.symm).1
       ·exact (E.out.rc.zO.blk_lt g e.symm).1)
      have E6 := hi_ (show GE w2 w6 p f A n c tv' zv' (.slice O' (ts ++ [t]).length k') (ts ++ [t]) from by
       have e1 : (ts ++ [t]).length = N + 1 := by rw [List.length_append, ← HN.out]; rfl
       refine ⟨?_, ?_, ?_, fun g hg e => ?_, fun g hg e => ?_, hb6⟩
       ·have e2 : List.replicate (ts ++ [t]).length (1 : Int) = List.replicate ts.length 1 ++ [1] := by rw [List.length_append, List.length_singleton, List.replicate_succ']
        rw [e2]; exact hrc6
       ·rw [e1, List.map_append]; exact hko6
       ·rw [e1]; exact hvp
       ·rw [e1] at hg
        rcases htv g e with h | h
        ·exact hvt g hg h
        ·have := hvl g hg; omega
       ·rw [e1] at hg
        rcases hzv g e with h | h
        ·exact hvz g hg h
        ·have := hvl g hg; omega)
      clear hrun hko hkx hvb hov hrc5 htl hzl hpl hvl hrc6 hkx6 htv hzv hv1 hvp hvt hvz hko6 hb5 hb6 E
      go_wp2_with fail
      go_roundg (gk - 1)
      case measure => omega
      case rel => exact ⟨tv', zv', O', k', ts ++ [t], by rw [List.length_append, ← HN.out]; simp; omega, by rw [List.length_append, ← HN.out]; rfl, GS2, E6⟩
  ·have hi : ¬ (N : Int) < 60 := by omega
   have F := hi_ (show GrE f ticks ts from ⟨GS.out, .inl (by rw [← HN.out]; exact hge)⟩)
   go_wp2_with fail
   obtain ⟨A', c', h1, h2, h3⟩ := E.out.ko.lst
   have h4 : O = A' ∧ k = c' := by injection h1 with e1 e2 e3; exact ⟨e1, e3⟩
   obtain ⟨rfl, rfl⟩ := h4
   have hB := BW.out.size
   exact bodyPost_ret (v := .tuple #[.slice O N k, .int .i64 0]) (by simp [results, Tryz.results28, go_sem]) rfl ⟨ts, F.out, O, k, by rw [← HN.out], h2, fun b off s e => by have := h3 b off s e; omega, bthen BW.out E.out.bw⟩
end
end Go.Proofs.YtaejfleahamapaaGreat
