/- What wave.Build and its parts return. -/
import Derived.Test.YtmieikfmbnaoaaaWave
import Derived.BigQuiet
import Derived.Deep.QuietTactic
import Derived.Outline
import Derived.Deep.LoopGhost
namespace Go.Proofs.Ytmieikfmbnaoaaa
open Go.RowKit
set_option linter.unusedVariables false

/-- the call returned the curve f, in memory of its own, and the error er; nothing that was there has changed -/
def RetC (f : Cv) (er : Int) (w : World) (e : Ending) (w' : World) : Prop :=
  ∃ A n c, e = .returned (.tuple #[.agg #[.slice A n c, .int .i64 f.per, .int .i64 f.inc], .int .i64 er]) ∧ Ints w' w'.heap.size A n f.vals ∧ (∀ b off s, A = some ⟨b, off, s⟩ → w.heap.size ≤ b) ∧ Below w.heap.size w w'

theorem checked_any (A : Option Addr) (n c : Nat) (p i : Int) (zs : List Int) (w : World) (hA : Ints w w.heap.size A n zs) (hn : (n : Int) ≤ 1000000) :
    Calls Try.prog 133 #[.slice A n c, .int .i64 p, .int .i64 i] w (RetC (chk zs p i).1 (chk zs p i).2 w) := by
  have hl := hA.1
  by_cases h400 : 400 < n
  · have F : chk zs p i = (Cv.none, 3) := by unfold chk; rw [if_neg]; omega
    rw [F]
    clear F
    go_enter Try.func133, Try.ntmps133
    go_wp2
    exact bodyPost_ret (v := .tuple #[.agg #[.slice none 0 0, .int .i64 0, .int .i64 0], .int .i64 3]) (by simp [results, Try.results133, go_sem]) rfl
      ⟨none, 0, 0, rfl, Ints.none_, (fun b off s h => by cases h), (Below.refl _ _).alloc (Nat.le_refl _) _⟩
  · go_enter Try.func133, Try.ntmps133
    go_wp2
    go_loop [16] (fun t => ∃ k : Nat, k ≤ n ∧ t = .int .i64 k ∧ Hid (∀ j, j < k → okv (nth zs j) = true)) (fun t => n - (intOf t).toNat)
    case atStart => exact ⟨0, Nat.zero_le _, rfl, by intro j hj; omega⟩
    case round =>
      obtain ⟨k, hk, rfl, hok⟩ := hrel
      by_cases hlt : k < n
      · obtain ⟨b, off, rfl, hb, hc⟩ := hA.2 (by omega)
        have hcell := hc k hlt
        clear hc hA
        have HL := Lib.hid hl; clear hl
        obtain ⟨x, hx⟩ : ∃ x, x = nth zs k := ⟨_, rfl⟩
        rw [← hx] at hcell
        have HX := Lib.hid hx; clear hx
        have hok' : okv x = true → Hid (∀ j, j < k + 1 → okv (nth zs j) = true) := by
          intro hx j hj
          by_cases e : j = k
          · subst e; rw [← HX.out]; exact hx
          · exact hok j (by omega)
        have hbad : okv x = false → chk zs p i = (Cv.none, 3) := by
          intro hx
          unfold chk
          rw [if_neg]
          intro h
          have := h.2 k (by rw [HL.out]; exact hlt)
          rw [← HX.out, hx] at this
          cases this
        have h1 := Lib.hid hok'; clear hok'
        have h2 := Lib.hid hbad; clear hbad
        clear hok
        by_cases hi : x = 4611686018427387904
        · have hb1 : (x != 4611686018427387904) = false := by rw [hi]; decide
          have h1' := Lib.hid (h1.out (by rw [hi]; decide)); clear h1 h2
          clear hi
          go_wp2
          go_round
          case rel => exact ⟨k + 1, by omega, by go_num, h1'.out⟩
          case measure => simp [intOf]; omega
        · have hb1 : (x != 4611686018427387904) = true := by simpa using hi
          by_cases hm : x ≤ 1073741824
          · have h1' := Lib.hid (h1.out (by simp [okv, hm])); clear h1 h2 hi
            go_wp2
            go_round
            case rel => exact ⟨k + 1, by omega, by go_num, h1'.out⟩
            case measure => simp [intOf]; omega
          · have h2' := Lib.hid (h2.out (by simp only [okv, inf, Bool.or_eq_false_iff, beq_eq_false_iff_ne, decide_eq_false_iff_not]; exact ⟨hi, hm⟩)); clear h1 h2 hi
            go_wp2
            rw [h2'.out]
            exact bodyPost_ret (v := .tuple #[.agg #[.slice none 0 0, .int .i64 0, .int .i64 0], .int .i64 3]) (by simp [results, Try.results133, go_sem]) rfl
              ⟨none, 0, 0, rfl, Ints.none_, (fun b off s h => by cases h), (Below.refl _ _).alloc (Nat.le_refl _) _⟩
      · have hkn : k = n := by omega
        have fin : chk zs p i = (⟨zs, p, i⟩, 0) := by
          unfold chk
          rw [if_pos]
          exact ⟨by omega, fun j hj => hok j (by omega)⟩
        have F := Lib.hid fin; clear fin hok hkn
        have HL := Lib.hid hl; clear hl
        have hA' := hA.alloc (Nat.le_refl _) (.cells #[Value.slice none 0 0, Value.int IntKind.i64 0, Value.int IntKind.i64 0] 41)
        have HA := Lib.hid hA'; clear hA' hA
        go_wp2_with (at_builtin; refine wpList_app rfl _ _ 26 rfl Try.underlying26 (w.heap.size + 1) (.slice none 0 0) 0 [] rfl (Own.nil_ _ _) _ A n c zs rfl HA.out (by omega) (by simp) ?_; intro v1 w1 own1 grow1 at1; simp only [Nat.zero_add, List.nil_append] at own1; obtain ⟨A1, c1, rfl, hc1, hI1, hf1⟩ := own1.ints; have bw1 : Below w.heap.size w w1 := ((Below.refl _ _).alloc (Nat.le_refl _) _).grown grow1 (by simp) (by simp [Value.ownBlock]); have rb : Blk w1 w.heap.size 41 #[.slice none 0 0, .int .i64 0, .int .i64 0] := (Blk.new w _ _).grown grow1 (by simp [Value.ownBlock]); have hlt1 := rb.lt; have q0 := rb.cell 0; have q1 := rb.cell 1; have q2 := rb.cell 2; have z0 := rb.frozen 0; have z1 := rb.frozen 1; have z2 := rb.frozen 2; simp at q0 q1 q2; clear own1 grow1)
        have rb3 := rb.store3 (.slice A1 n c1) (.int .i64 p) (.int .i64 i)
        rw [F.out]
        exact bodyPost_ret (v := .tuple #[.agg #[.slice A1 n c1, .int .i64 p, .int .i64 i], .int .i64 0]) (by simp [results, Try.results133, go_sem, rb3.cell]) rfl
          ⟨A1, n, c1, rfl, by simpa using (((hI1.setCell (fun b off s h => by have := hf1 b off s h; simp; omega) _).setCell (fun b off s h => by have := hf1 b off s h; simp; omega) _).setCell (fun b off s h => by have := hf1 b off s h; simp; omega) _),
            (fun b off s h => by have := hf1 b off s h; omega), ((bw1.setCell (by simp) _).setCell (by simp) _).setCell (by simp) _⟩
def LeastR (zs : List Int) (inc : Int) (w : World) (e : Ending) (w' : World) : Prop :=
  ∃ q : Nat, e = .returned (.int .i64 q) ∧ 1 ≤ q ∧ q ≤ zs.length ∧ (q = zs.length ∨ LT zs inc q) ∧ (∀ r, 1 ≤ r → r < q → ¬ LT zs inc r) ∧ w = w'

set_option maxRecDepth 100000 in
set_option maxHeartbeats 1000000 in
theorem least_any (A : Option Addr) (n c : Nat) (inc : Int) (zs : List Int) (w : World) (hA : Ints w w.heap.size A n zs) (hn1 : 1 ≤ n) (hn : (n : Int) ≤ 1000000)
    (hi : 0 ≤ inc) (hi2 : inc ≤ 1099511627776) (hz : ∀ k, 0 ≤ nth zs k ∧ nth zs k ≤ 4611686018427387904) :
    Calls Try.prog 132 #[.slice A n c, .int .i64 inc] w (LeastR zs inc w) := by
  obtain ⟨b, off, rfl, hb, hc⟩ := hA.2 (by omega)
  have hl := hA.1
  clear hA
  have HC := Lib.hid hc; clear hc
  have HZ := Lib.hid hz; clear hz
  have HL := Lib.hid hl; clear hl
  go_enter Try.func132, Try.ntmps132
  go_wp2
  go_step3
  go_wp2
  go_step3
  go_wp2
  go_loopg [6] n (fun g t wr => ∃ p : Nat, 1 ≤ p ∧ p + g = n + 1 ∧ t = .int .i64 p ∧ Hid (∀ r, 1 ≤ r → r < p → ¬ LT zs inc r) ∧ w = wr)
  case atStart => exact ⟨1, Nat.le_refl _, by omega, rfl, (by intro r h1 h2; omega), rfl⟩
  case round =>
    obtain ⟨p, hp1, hpg, rfl, hno, rfl⟩ := hrel
    have HNO := Lib.hid hno; clear hno
    by_cases hlt : p < n
    · have hip : inc * (p : Int) ≤ 1099511627776 * 1000000 := by
        refine Int.le_trans (Int.mul_le_mul_of_nonneg_right hi2 (by omega)) ?_
        omega
      have hip0 : 0 ≤ inc * (p : Int) := Int.mul_nonneg hi (by omega)
      have hnext : ¬ LT zs inc p → Hid (∀ r, 1 ≤ r → r < p + 1 → ¬ LT zs inc r) := by
        intro h r h1 h2
        by_cases e : r = p
        · subst e; exact h
        · exact HNO.out.out r h1 (by omega)
      have HN := Lib.hid hnext; clear hnext
      by_cases t1 : ((n : Int) % p = 0 ∧ inc * p % n = 0)
      · have b1 : ((n : Int) % p != 0) = false := by simp [t1.1]
        have b2 : (inc * (p : Int) % n != 0) = false := by simp [t1.2]
        obtain ⟨st, hst⟩ : ∃ st, inc * (p : Int) / n = st := ⟨_, rfl⟩
        have T1 := Lib.hid t1; clear t1
        have hs0 : 0 ≤ st := by rw [← hst]; exact Int.ediv_nonneg hip0 (by omega)
        have hs1 : st ≤ 1099511627776 * 1000000 := by rw [← hst]; exact Int.le_trans (Int.ediv_le_self _ hip0) hip
        go_wp2
        rw [hst]
        have HST := Lib.hid hst; clear hst
        clear b1 b2 hip hip0
        obtain ⟨G, rfl⟩ : ∃ G, G = gk := ⟨_, rfl⟩
        go_loopg [36] n (fun g t wx => ∃ j : Nat, j + g = n ∧ t = .int .i64 j ∧ Hid (∀ i, i < j → LTi zs inc p i) ∧ w = wx)
        case atStart => exact ⟨0, by omega, rfl, (by intro r h1; omega), rfl⟩
        case round =>
          obtain ⟨j, hjg, rfl, hok, rfl⟩ := hrel
          have HOK := Lib.hid hok; clear hok
          by_cases hj : j < n
          · have hcj := HC.out j hj
            obtain ⟨x, hx⟩ : ∃ x, x = nth zs j := ⟨_, rfl⟩
            have hx0 := HZ.out j
            rw [← hx] at hcj hx0
            have HX := Lib.hid hx; clear hx
            have hyes : LTi zs inc p j → Hid (∀ i, i < j + 1 → LTi zs inc p i) := by
              intro h i hi
              by_cases e : i = j
              · subst e; exact h
              · exact HOK.out.out i (by omega)
            have HY := Lib.hid hyes; clear hyes
            have hbad : ¬ LTi zs inc p j → Hid (∀ r, 1 ≤ r → r < p + 1 → ¬ LT zs inc r) := fun h => HN.out (fun h2 => h (h2.2 j (by rw [HL.out]; exact hj)))
            have HB := Lib.hid hbad; clear hbad
            by_cases hjp : j + p < n
            · have hcy := HC.out (j + p) hjp
              obtain ⟨y, hy⟩ : ∃ y, y = nth zs (j + p) := ⟨_, rfl⟩
              rw [← hy] at hcy
              have hlt : LTi zs inc p j ↔ y = x + st := by
                unfold LTi
                rw [HL.out, if_pos hjp, ← hy, HX.out, HST.out]
              clear hy
              by_cases hyx : y = x + st
              · have b3 : (y != x + st) = false := by simp [hyx]
                have H3 := Lib.hid (HY.out (hlt.2 hyx)); clear hlt hyx
                go_wp2
                go_roundg (gk - 1)
                case measure => omega
                case rel => exact ⟨j + 1, by omega, by go_num, H3.out, rfl⟩
              · have b3 : (y != x + st) = true := by simpa using hyx
                have H3 := Lib.hid (HB.out (fun h => hyx (hlt.1 h))); clear hlt hyx
                go_wp2
                go_roundg (G - 1)
                case measure => omega
                case rel => exact ⟨p + 1, by omega, by omega, by go_num, H3.out, rfl⟩
            · obtain ⟨q, hq⟩ : ∃ q, j + p = n + q := ⟨j + p - n, by omega⟩
              have hq' : (j : Int) + p - n = q := by omega
              have hqn : q < n := by omega
              have hcy := HC.out q hqn
              have hy0 := HZ.out q
              obtain ⟨y, hy⟩ : ∃ y, y = nth zs q := ⟨_, rfl⟩
              rw [← hy] at hcy hy0
              have hlt : LTi zs inc p j ↔ y + inc = x + st := by
                unfold LTi
                rw [HL.out, if_neg hjp, show j + p - n = q by omega, ← hy, HX.out, HST.out]
              have HQ := Lib.hid hq; clear hq
              clear hy
              by_cases hyx : y + inc = x + st
              · have b3 : (y + inc != x + st) = false := by simp [hyx]
                have H3 := Lib.hid (HY.out (hlt.2 hyx)); clear hlt hyx
                go_wp2
                go_roundg (gk - 1)
                case measure => omega
                case rel => exact ⟨j + 1, by omega, by go_num, H3.out, rfl⟩
              · have b3 : (y + inc != x + st) = true := by simpa using hyx
                have H3 := Lib.hid (HB.out (fun h => hyx (hlt.1 h))); clear hlt hyx
                go_wp2
                go_roundg (G - 1)
                case measure => omega
                case rel => exact ⟨p + 1, by omega, by omega, by go_num, H3.out, rfl⟩
          · have HLT : Hid (LT zs inc p) := ⟨by rw [HL.out]; exact T1.out, fun i hi => HOK.out.out i (by rw [HL.out] at hi; omega)⟩
            go_wp2
            rw [Exit.noGoto_ret]
            go_ret
            exact ⟨p, rfl, hp1, by rw [HL.out]; omega, .inr HLT.out, HNO.out.out, rfl⟩
      · have HN' : Hid (∀ r, 1 ≤ r → r < p + 1 → ¬ LT zs inc r) := HN.out (fun h => t1 (by rw [← HL.out]; exact h.1))
        have H2 := Lib.hid HN'; clear HN' HN
        by_cases t2 : (n : Int) % p = 0
        · have b1 : ((n : Int) % p != 0) = false := by simp [t2]
          have b2 : (inc * (p : Int) % n != 0) = true := by simp; intro h; exact t1 ⟨t2, h⟩
          clear t1 t2
          go_wp2
          go_roundg (gk - 1)
          case measure => omega
          case rel => exact ⟨p + 1, by omega, by omega, by go_num, H2.out, rfl⟩
        · have b1 : ((n : Int) % p != 0) = true := by simpa using t2
          clear t1 t2
          go_wp2
          go_roundg (gk - 1)
          case measure => omega
          case rel => exact ⟨p + 1, by omega, by omega, by go_num, H2.out, rfl⟩
    · go_wp2
      go_ret
      exact ⟨n, rfl, hn1, by rw [HL.out]; omega, .inl HL.out.symm, (fun r h1 h2 => HNO.out.out r h1 (by omega)), rfl⟩
end Go.Proofs.Ytmieikfmbnaoaaa
