/- Words for deviation.both, and (pair).gain. -/
import Derived.Test.YthdibkmjoiipgaaBy
import Derived.Test.YthdibkmjoiipgaaMade
import Derived.Test.YthdibkmjoiipgaaDevLaw
namespace Go.Proofs.Ythdibkmjoiipgaa
open Go.RowKit
set_option linter.unusedVariables false

def zero8 : Array Value := #[.slice none 0 0, .int .i64 0, .int .i64 0, .slice none 0 0, .int .i64 0, .int .i64 0, .int .i64 0, .bool false]
def dpA (A : Option Addr) (n c : Nat) (f : Cv) (B : Option Addr) (m d : Nat) (g : Cv) (T : Int) (l : Bool) : Array Value :=
  #[.slice A n c, .int .i64 f.per, .int .i64 f.inc, .slice B m d, .int .i64 g.per, .int .i64 g.inc, .int .i64 T, .bool l]
/-- the pair could not be made -/
def BothBad (f g : Cv) (er : Int) : Prop := (¬ (f.Ok ∧ g.Ok) ∧ er = 1) ∨ (f.Ok ∧ g.Ok ∧ er = 3 ∧ ∃ a b, NF f.at a ∧ NF g.at b ∧ 120 < comm a.per.toNat b.per.toNat)
/-- the flag says whether there is a greatest distance -/
def LzB (l : Bool) (a b : Cv) : Prop := l = true ↔ Loose a b
/-- what both returns -/
def RetBo (f g : Cv) (w : World) (e : Ending) (w' : World) : Prop :=
  (∃ er, BothBad f g er ∧ e = .returned (.tuple #[.agg zero8, .int .i64 er]) ∧ Below w.heap.size w w') ∨
  (f.Ok ∧ g.Ok ∧ ∃ (a b : Cv) (A : Option Addr) (n c : Nat) (B : Option Addr) (m d : Nat) (l : Bool), NF f.at a ∧ NF g.at b ∧ a.Ok ∧ b.Ok ∧ comm a.per.toNat b.per.toNat ≤ 120 ∧ LzB l a b ∧
    e = .returned (.tuple #[.agg (dpA A n c a B m d b (ordF a b + ordC a b : Nat) l), .int .i64 0]) ∧ Ints w' w'.heap.size A n a.vals ∧ Ints w' w'.heap.size B m b.vals ∧ (∀ b off s, A = some ⟨b, off, s⟩ → w.heap.size ≤ b) ∧ (∀ b off s, B = some ⟨b, off, s⟩ → w.heap.size ≤ b) ∧ Below w.heap.size w w')

theorem gain_any (A : Option Addr) (n c : Nat) (p i t : Int) (w : World) (hp : 1 ≤ p) (hi : 0 ≤ i) (hi2 : i ≤ 1073741824) (ht : 0 ≤ t) (ht2 : t ≤ 1000000) :
    Calls Try.prog 136 #[.agg #[.slice A n c, .int .i64 p, .int .i64 i], .int .i64 t] w fun e w' => e = .returned (.int .i64 ((t.toNat / p.toNat : Nat) * i)) ∧ Below w.heap.size w w' := by
  obtain ⟨p, rfl⟩ := Int.eq_ofNat_of_zero_le (show 0 ≤ p by omega)
  obtain ⟨t, rfl⟩ := Int.eq_ofNat_of_zero_le ht
  simp only [Int.toNat_natCast]
  obtain ⟨u, hu⟩ : ∃ u, u = t / p := ⟨_, rfl⟩
  have hut : u ≤ t := by rw [hu]; exact Nat.div_le_self _ _
  have e1 : ((t : Int).tdiv (p : Int)) = (u : Int) := by rw [hu]; rfl
  have e1' : ((t : Int) / (p : Int)) = (u : Int) := by rw [hu]; rfl
  have hui : (u : Int) * i ≤ 1000000 * 1073741824 := Int.mul_le_mul (by omega) hi2 hi (by omega)
  have hui0 : 0 ≤ (u : Int) * i := Int.mul_nonneg (by omega) hi
  have e2 : IntKind.i64.wrap ((u : Int) * i) = (u : Int) * i := IntWalk.i64_in _ (by omega)
  have hpn : (p : Int) ≠ 0 := by omega
  have hpn2 : p ≠ 0 := by omega
  have q1 := (Blk.new w 46 #[.slice A n c, .int .i64 p, .int .i64 i]).cell 1
  have q2 := (Blk.new w 46 #[.slice A n c, .int .i64 p, .int .i64 i]).cell 2
  simp at q1 q2
  rw [← hu]
  have HU := Lib.hid hu
  clear hu
  go_enter Try.func136, Try.ntmps136
  go_wp2_with fail
  go_quiet (fail)
  go_wp2_with fail
  go_ret
  exact ⟨rfl, bdrewN (balloc w _)⟩


end Go.Proofs.Ythdibkmjoiipgaa
