/- convolution.Check: the walk. -/
import Derived.Test.YtbkimphcmmmaiaaCpChk
namespace Go.Proofs.Ytbkimphcmmmaiaa
open Go.RowKit
set_option linter.unusedVariables false

/-- what the closures of Check capture: the pair in block P, the certificate in block Q -/
structure CKE (w : World) (P : Nat) (A : Option Addr) (n c : Nat) (a : Cv) (B : Option Addr) (m d : Nat) (b : Cv) (Q : Nat) (C : Option Addr) (k s : Nat) (h : Cv) (fr : Int) (D : Option Addr) (x y : Nat) (cs : List Int) : Prop where
  pb : Blk w P 114 (cpA A n c a B m d b (ordC a b : Nat))
  qb : Blk w Q 56 #[.slice C k s, .int .i64 h.per, .int .i64 h.inc, .int .i64 fr, .slice D x y]
  ia : Ints w w.heap.size A n a.vals
  ib : Ints w w.heap.size B m b.vals
  ic : Ints w w.heap.size C k h.vals
  id : Ints w w.heap.size D x cs
section
variable {w wx : World} {A B C D : Option Addr} {n c m d k s x y P Q : Nat} {a b h : Cv} {fr : Int} {cs : List Int}
theorem CKE.below (h' : CKE w P A n c a B m d b Q C k s h fr D x y cs) (hb : Below w.heap.size w wx) : CKE wx P A n c a B m d b Q C k s h fr D x y cs :=
  ⟨h'.pb.below hb h'.pb.lt, h'.qb.below hb h'.qb.lt, h'.ia.ext hb, h'.ib.ext hb, h'.ic.ext hb, h'.id.ext hb⟩
theorem CKE.cells (h' : CKE w P A n c a B m d b Q C k s h fr D x y cs) : (w.cell? ⟨P, 0, none⟩ = some (.slice A n c) ∧ w.cell? ⟨P, 1, none⟩ = some (.int .i64 a.per) ∧ w.cell? ⟨P, 2, none⟩ = some (.int .i64 a.inc)) ∧
    (w.cell? ⟨P, 3, none⟩ = some (.slice B m d) ∧ w.cell? ⟨P, 4, none⟩ = some (.int .i64 b.per) ∧ w.cell? ⟨P, 5, none⟩ = some (.int .i64 b.inc)) ∧ w.cell? ⟨P, 6, none⟩ = some (.int .i64 (ordC a b : Nat)) ∧
    (w.cell? ⟨Q, 0, none⟩ = some (.slice C k s) ∧ w.cell? ⟨Q, 1, none⟩ = some (.int .i64 h.per) ∧ w.cell? ⟨Q, 2, none⟩ = some (.int .i64 h.inc)) ∧ (w.cell? ⟨Q, 3, none⟩ = some (.int .i64 fr) ∧ w.cell? ⟨Q, 4, none⟩ = some (.slice D x y)) ∧ P < w.heap.size ∧ Q < w.heap.size := by
  have q := fun i => h'.pb.cell i
  have q0 := q 0; have q1 := q 1; have q2 := q 2; have q3 := q 3; have q4 := q 4; have q5 := q 5; have q6 := q 6
  have r := fun i => h'.qb.cell i
  have r0 := r 0; have r1 := r 1; have r2 := r 2; have r3 := r 3; have r4 := r 4
  simp [cpA] at q0 q1 q2 q3 q4 q5 q6 r0 r1 r2 r3 r4
  exact ⟨⟨q0, q1, q2⟩, ⟨q3, q4, q5⟩, q6, ⟨r0, r1, r2⟩, ⟨r3, r4⟩, h'.pb.lt, h'.qb.lt⟩
end
section
variable {A B C D : Option Addr} {n c m d k s x y P Q : Nat} {a b h : Cv} {fr : Int} {cs : List Int}
set_option maxHeartbeats 1000000 in
theorem cpck1_any (w : World) (hE : CKE w P A n c a B m d b Q C k s h fr D x y cs) (ha : a.Ok) (hb : b.Ok) (hk : (k : Int) ≤ 1000000) (hK : ordC a b ≤ 120) :
    Calls Try.prog 94 #[.pointer (some ⟨P, 0, none⟩), .pointer (some ⟨Q, 0, none⟩)] w (RetQ (h.Ok ∧ NF h.at h ∧ RightS a b h) w) := by
  have E := Lib.hid hE
  obtain ⟨KC, hKC⟩ : ∃ KC : Int, KC = ((ordC a b : Nat) : Int) := ⟨_, rfl⟩
  have th := cpright_any A B C n m k c d s a b h w hE.ia hE.ib hE.ic ha hb hk hK
  rw [← hKC] at th
  unfold cpA at th
  have TH := Lib.hid th
  obtain ⟨⟨f0, f1, f2⟩, ⟨g0, g1, g2⟩, p6, ⟨h0, h1, h2⟩, ⟨h3, h4⟩, hlp, hlq⟩ := E.out.cells
  rw [← hKC] at p6
  clear th hE hKC
  go_enter Try.func94, Try.ntmps94
  go_wp2_with fail
  refine TH.out.mono ?_
  rintro e wq ⟨⟨z, hz, rfl⟩, hb⟩
  have HZ := Lib.hid hz
  clear hz f0 f1 f2 g0 g1 g2 p6 h0 h1 h2 h3 h4
  go_wp2_with fail
  go_ret
  exact ⟨⟨z, HZ.out, rfl⟩, hb⟩
set_option maxHeartbeats 1000000 in
theorem cpck2_any (w : World) (hE : CKE w P A n c a B m d b Q C k s h fr D x y cs) (ha : a.Ok) (hb : b.Ok) (hh : h.Ok) (hx : (x : Int) ≤ 1000000) (hK : ordC a b ≤ 120) :
    Calls Try.prog 96 #[.pointer (some ⟨P, 0, none⟩), .pointer (some ⟨Q, 0, none⟩)] w (RetQ (AttS a b h fr cs) w) := by
  have E := Lib.hid hE
  obtain ⟨KC, hKC⟩ : ∃ KC : Int, KC = ((ordC a b : Nat) : Int) := ⟨_, rfl⟩
  have th := cpatt_any A B C D n m k x c d s y a b h fr cs w hE.ia hE.ib hE.ic hE.id ha hb hh hx hK
  rw [← hKC] at th
  unfold cpA at th
  have TH := Lib.hid th
  obtain ⟨⟨f0, f1, f2⟩, ⟨g0, g1, g2⟩, p6, ⟨h0, h1, h2⟩, ⟨h3, h4⟩, hlp, hlq⟩ := E.out.cells
  rw [← hKC] at p6
  clear th hE hKC
  go_enter Try.func96, Try.ntmps96
  go_wp2_with fail
  refine TH.out.mono ?_
  rintro e wq ⟨⟨z, hz, rfl⟩, hb⟩
  have HZ := Lib.hid hz
  clear hz f0 f1 f2 g0 g1 g2 p6 h0 h1 h2 h3 h4
  go_wp2_with fail
  go_ret
  exact ⟨⟨z, HZ.out, rfl⟩, hb⟩
set_option maxHeartbeats 1000000 in
theorem cpck3_any (w : World) (hE : CKE w P A n c a B m d b Q C k s h fr D x y cs) (ha : a.Ok) (hb : b.Ok) (hh : h.Ok) (hK : ordC a b ≤ 120) :
    Calls Try.prog 98 #[.pointer (some ⟨P, 0, none⟩), .pointer (some ⟨Q, 0, none⟩)] w (RetQ (BelowS a b h) w) := by
  have E := Lib.hid hE
  obtain ⟨KC, hKC⟩ : ∃ KC : Int, KC = ((ordC a b : Nat) : Int) := ⟨_, rfl⟩
  have th := cpbel_any A B C n m k c d s a b h w hE.ia hE.ib hE.ic ha hb hh hK
  rw [← hKC] at th
  unfold cpA at th
  have TH := Lib.hid th
  obtain ⟨⟨f0, f1, f2⟩, ⟨g0, g1, g2⟩, p6, ⟨h0, h1, h2⟩, ⟨h3, h4⟩, hlp, hlq⟩ := E.out.cells
  rw [← hKC] at p6
  clear th hE hKC
  go_enter Try.func98, Try.ntmps98
  go_wp2_with fail
  refine TH.out.mono ?_
  rintro e wq ⟨⟨z, hz, rfl⟩, hb⟩
  have HZ := Lib.hid hz
  clear hz f0 f1 f2 g0 g1 g2 p6 h0 h1 h2 h3 h4
  go_wp2_with fail
  go_ret
  exact ⟨⟨z, HZ.out, rfl⟩, hb⟩
end
set_option maxHeartbeats 4000000 in
set_option maxRecDepth 100000 in
theorem cpchk_any (A B C D : Option Addr) (n m k x c d s y : Nat) (p i q j fr : Int) (xs ys : List Int) (h : Cv) (cs : List Int) (w : World) (hA : Ints w w.heap.size A n xs) (hB : Ints w w.heap.size B m ys) (hC : Ints w w.heap.size C k h.vals) (hD : Ints w w.heap.size D x cs)
    (hn : (n : Int) ≤ 1000000) (hm : (m : Int) ≤ 1000000) (hk : (k : Int) ≤ 1000000) (hx : (x : Int) ≤ 1000000) :
    Calls Try.prog 44 #[.agg #[.slice A n c, .int .i64 p, .int .i64 i], .agg #[.slice B m d, .int .i64 q, .int .i64 j], .agg #[.slice C k s, .int .i64 h.per, .int .i64 h.inc, .int .i64 fr, .slice D x y]] w (RetQ (CkS ⟨xs, p, i⟩ ⟨ys, q, j⟩ h fr cs) w) := by
  have P := Lib.hid ((PS.new (c := c) (p := p) (i := i) (d := d) (q := q) (j := j) hA hB).alloc (.cells #[.slice C k s, .int .i64 h.per, .int .i64 h.inc, .int .i64 fr, .slice D x y] 56))
  have cb := Blk.new ((w.alloc (.cells #[.slice A n c, .int .i64 p, .int .i64 i] 31)).alloc (.cells #[.slice B m d, .int .i64 q, .int .i64 j] 31)) 56 #[.slice C k s, .int .i64 h.per, .int .i64 h.inc, .int .i64 fr, .slice D x y]
  rw [World.size_alloc, World.size_alloc] at cb
  have CB := Lib.hid cb
  have IC := Lib.hid (((hC.alloc' (.cells #[.slice A n c, .int .i64 p, .int .i64 i] 31)).alloc' (.cells #[.slice B m d, .int .i64 q, .int .i64 j] 31)).alloc' (.cells #[.slice C k s, .int .i64 h.per, .int .i64 h.inc, .int .i64 fr, .slice D x y] 56))
  have ID := Lib.hid (((hD.alloc' (.cells #[.slice A n c, .int .i64 p, .int .i64 i] 31)).alloc' (.cells #[.slice B m d, .int .i64 q, .int .i64 j] 31)).alloc' (.cells #[.slice C k s, .int .i64 h.per, .int .i64 h.inc, .int .i64 fr, .slice D x y] 56))
  clear hA hB hC hD cb
  go_enter Try.func44, Try.ntmps44
  obtain ⟨f0, f1, f2, g0, g1, g2, hlf, hlg⟩ := P.out.cells
  go_wp2_with fail
  refine (cvboth_any A B n m c d p i q j xs ys _ P.out.ia P.out.ib hn hm).mono ?_
  rintro e w1 (⟨er, hbad, rfl, hb⟩ | ⟨hfo, hgo, a, b, A1, n1, c1, B1, m1, d1, hna, hnb, hao, hbo, hcm, rfl, hI1, hI2, hA1, hB1, hb⟩)
  · have hne : (er != 0) = true := by simpa using hbad.ne
    have NO := Lib.hid (show ¬ CkS ⟨xs, p, i⟩ ⟨ys, q, j⟩ h fr cs from fun ⟨k1, k2, a, b, k3, k4, k5, _⟩ => by
      rcases hbad with ⟨h1, _⟩ | ⟨_, _, _, a', b', h1, h2, h3⟩
      · exact h1 ⟨k1, k2⟩
      · obtain rfl := NF.unique k3 h1
        obtain rfl := NF.unique k4 h2
        omega)
    have BW := Lib.hid (bthen P.out.bw hb)
    clear hbad hb P f0 f1 f2 g0 g1 g2 hlf hlg
    unfold zero7
    replace BW := Lib.hid (bthen BW.out (balloc _ (.cells #[.slice none 0 0, .int .i64 0, .int .i64 0, .slice none 0 0, .int .i64 0, .int .i64 0, .int .i64 0] 114)))
    go_upto_region 2 with fail
    generalize hwe : w1.alloc (.cells #[.slice none 0 0, .int .i64 0, .int .i64 0, .slice none 0 0, .int .i64 0, .int .i64 0, .int .i64 0] 114) = w2 at *
    clear hwe
    have FIN := Lib.hid (show ¬ CkS ⟨xs, p, i⟩ ⟨ys, q, j⟩ h fr cs from NO.out)
    have bw := BW.out
    go_wp2_with fail
    try rw [Exit.noGoto_ret]
    go_ret
    exact RetQ.no FIN.out bw
  · have CKE0 := Lib.hid (show CKE (w1.alloc (.cells (cpA A1 n1 c1 a B1 m1 d1 b (ordC a b : Nat)) 114)) w1.heap.size A1 n1 c1 a B1 m1 d1 b (w.heap.size + 1 + 1) C k s h fr D x y cs from
      ⟨Blk.new _ _ _, (CB.out.below hb CB.out.lt).alloc _, hI1.alloc' _, hI2.alloc' _, (IC.out.ext hb).alloc' _, (ID.out.ext hb).alloc' _⟩)
    have BW := Lib.hid (bthen (bthen P.out.bw hb) (balloc w1 (.cells (cpA A1 n1 c1 a B1 m1 d1 b (ordC a b : Nat)) 114)))
    have HFO := Lib.hid hfo; have HGO := Lib.hid hgo; have HNA := Lib.hid hna; have HNB := Lib.hid hnb; have HAO := Lib.hid hao; have HBO := Lib.hid hbo; have HCM := Lib.hid hcm
    have CKI := Lib.hid (show CkS ⟨xs, p, i⟩ ⟨ys, q, j⟩ h fr cs ↔ (h.Ok ∧ NF h.at h ∧ RightS a b h) ∧ AttS a b h fr cs ∧ BelowS a b h from by
      constructor
      · rintro ⟨_, _, a', b', h1, h2, h3, h4, h5, h6, h7, h8⟩
        obtain rfl := NF.unique hna h1
        obtain rfl := NF.unique hnb h2
        exact ⟨⟨h4, h5, h6⟩, h7, h8⟩
      · rintro ⟨⟨h4, h5, h6⟩, h7, h8⟩
        exact ⟨hfo, hgo, a, b, hna, hnb, hcm, h4, h5, h6, h7, h8⟩)
    clear hfo hgo hna hnb hao hbo hcm hI1 hI2 hA1 hB1 hb P CB IC ID f0 f1 f2 g0 g1 g2 hlf hlg
    unfold cpA at CKE0 BW ⊢
    go_upto_region 2 with fail
    generalize hwe : w1.alloc (.cells #[.slice A1 n1 c1, .int .i64 a.per, .int .i64 a.inc, .slice B1 m1 d1, .int .i64 b.per, .int .i64 b.inc, .int .i64 (ordC a b : Nat)] 114) = w2 at *
    clear hwe
    generalize w1.heap.size = P1 at *
    have hlp := CKE0.out.pb.lt; have hlq := CKE0.out.qb.lt
    have FB := Lib.hid (Blk.new w2 46 #[.func (.func 94) #[] #[.pointer (some ⟨P1, 0, none⟩), .pointer (some ⟨w.heap.size + 1 + 1, 0, none⟩)], .func (.func 96) #[] #[.pointer (some ⟨P1, 0, none⟩), .pointer (some ⟨w.heap.size + 1 + 1, 0, none⟩)], .func (.func 98) #[] #[.pointer (some ⟨P1, 0, none⟩), .pointer (some ⟨w.heap.size + 1 + 1, 0, none⟩)]])
    have E := Lib.hid (CKE0.out.below (balloc w2 (.cells #[.func (.func 94) #[] #[.pointer (some ⟨P1, 0, none⟩), .pointer (some ⟨w.heap.size + 1 + 1, 0, none⟩)], .func (.func 96) #[] #[.pointer (some ⟨P1, 0, none⟩), .pointer (some ⟨w.heap.size + 1 + 1, 0, none⟩)], .func (.func 98) #[] #[.pointer (some ⟨P1, 0, none⟩), .pointer (some ⟨w.heap.size + 1 + 1, 0, none⟩)]] 46)))
    replace BW := Lib.hid (bthen BW.out (balloc w2 (.cells #[.func (.func 94) #[] #[.pointer (some ⟨P1, 0, none⟩), .pointer (some ⟨w.heap.size + 1 + 1, 0, none⟩)], .func (.func 96) #[] #[.pointer (some ⟨P1, 0, none⟩), .pointer (some ⟨w.heap.size + 1 + 1, 0, none⟩)], .func (.func 98) #[] #[.pointer (some ⟨P1, 0, none⟩), .pointer (some ⟨w.heap.size + 1 + 1, 0, none⟩)]] 46)))
    clear CKE0
    go_upto_region 5 with fail
    generalize hwe : w2.alloc (.cells #[.func (.func 94) #[] #[.pointer (some ⟨P1, 0, none⟩), .pointer (some ⟨w.heap.size + 1 + 1, 0, none⟩)], .func (.func 96) #[] #[.pointer (some ⟨P1, 0, none⟩), .pointer (some ⟨w.heap.size + 1 + 1, 0, none⟩)], .func (.func 98) #[] #[.pointer (some ⟨P1, 0, none⟩), .pointer (some ⟨w.heap.size + 1 + 1, 0, none⟩)]] 46) = w3 at *
    clear hwe
    generalize w2.heap.size = F at *
    generalize w.heap.size + 1 + 1 = Q at *
    go_loopg [10, 24] 3 (fun gg s10 s24 wx => ∃ k' : Nat, k' + gg = 3 ∧ s24 = .int .i64 k' ∧ (1 ≤ k' → h.Ok ∧ NF h.at h ∧ RightS a b h) ∧ (2 ≤ k' → AttS a b h fr cs) ∧ (3 ≤ k' → BelowS a b h) ∧ Below w3.heap.size w3 wx)
    case atStart => exact ⟨0, by omega, rfl, (fun h => by omega), (fun h => by omega), (fun h => by omega), Below.refl _ _⟩
    case round =>
      obtain ⟨k', hg, rfl, hr1, hr2, hr3, hb⟩ := hrel
      have FX := Lib.hid (FB.out.below hb FB.out.lt)
      have EX := Lib.hid (E.out.below hb)
      have R1 := Lib.hid hr1; have R2 := Lib.hid hr2; have R3 := Lib.hid hr3; have BX := Lib.hid hb
      clear hr1 hr2 hr3 hb
      obtain ⟨⟨k0, k1, k2⟩, _, hlf⟩ := FX.out.c3
      have hk' : k' = 0 ∨ k' = 1 ∨ k' = 2 ∨ k' = 3 := by omega
      rcases hk' with rfl | rfl | rfl | rfl
      · go_wp2_with fail
        refine (cpck1_any _ EX.out HAO.out HBO.out hk HCM.out).mono ?_
        rintro e wq ⟨⟨z, hz, rfl⟩, hb⟩
        have HZ := Lib.hid hz; have BY := Lib.hid (bthen BX.out hb)
        clear hz hb k0 k1 k2 hlf
        cases z
        case false =>
          have FIN := Lib.hid (show ¬ CkS ⟨xs, p, i⟩ ⟨ys, q, j⟩ h fr cs from (fun hc => by have := HZ.out.2 (CKI.out.1 hc).1; cases this))
          have bw := (bthen BW.out BY.out)
          go_wp2_with fail
          try rw [Exit.noGoto_ret]
          go_ret
          exact RetQ.no FIN.out bw
        case true =>
          have G := Lib.hid (HZ.out.1 (by first | rfl | trivial))
          go_wp2_with fail
          go_roundg (gk - 1)
          case measure => omega
          case rel => exact ⟨1, by omega, rfl, (fun _ => G.out), (fun h => by omega), (fun h => by omega), BY.out⟩
      · have HHO := Lib.hid (R1.out (by omega)).1
        go_wp2_with fail
        refine (cpck2_any _ EX.out HAO.out HBO.out HHO.out hx HCM.out).mono ?_
        rintro e wq ⟨⟨z, hz, rfl⟩, hb⟩
        have HZ := Lib.hid hz; have BY := Lib.hid (bthen BX.out hb)
        clear hz hb k0 k1 k2 hlf
        cases z
        case false =>
          have FIN := Lib.hid (show ¬ CkS ⟨xs, p, i⟩ ⟨ys, q, j⟩ h fr cs from (fun hc => by have := HZ.out.2 (CKI.out.1 hc).2.1; cases this))
          have bw := (bthen BW.out BY.out)
          go_wp2_with fail
          try rw [Exit.noGoto_ret]
          go_ret
          exact RetQ.no FIN.out bw
        case true =>
          have G := Lib.hid (HZ.out.1 (by first | rfl | trivial))
          go_wp2_with fail
          go_roundg (gk - 1)
          case measure => omega
          case rel => exact ⟨2, by omega, rfl, (fun _ => R1.out (by omega)), (fun _ => G.out), (fun h => by omega), BY.out⟩
      · have HHO := Lib.hid (R1.out (by omega)).1
        go_wp2_with fail
        refine (cpck3_any _ EX.out HAO.out HBO.out HHO.out HCM.out).mono ?_
        rintro e wq ⟨⟨z, hz, rfl⟩, hb⟩
        have HZ := Lib.hid hz; have BY := Lib.hid (bthen BX.out hb)
        clear hz hb k0 k1 k2 hlf
        cases z
        case false =>
          have FIN := Lib.hid (show ¬ CkS ⟨xs, p, i⟩ ⟨ys, q, j⟩ h fr cs from (fun hc => by have := HZ.out.2 (CKI.out.1 hc).2.2; cases this))
          have bw := (bthen BW.out BY.out)
          go_wp2_with fail
          try rw [Exit.noGoto_ret]
          go_ret
          exact RetQ.no FIN.out bw
        case true =>
          have G := Lib.hid (HZ.out.1 (by first | rfl | trivial))
          go_wp2_with fail
          go_roundg (gk - 1)
          case measure => omega
          case rel => exact ⟨3, by omega, rfl, (fun _ => R1.out (by omega)), (fun _ => R2.out (by omega)), (fun _ => G.out), BY.out⟩
      · have FIN := Lib.hid (show CkS ⟨xs, p, i⟩ ⟨ys, q, j⟩ h fr cs from CKI.out.2 ⟨R1.out (by omega), R2.out (by omega), R3.out (by omega)⟩)
        have bw := bthen BW.out BX.out
        go_wp2_with fail
        try rw [Exit.noGoto_ret]
        go_ret
        exact RetQ.yes FIN.out bw
end Go.Proofs.Ytbkimphcmmmaiaa
