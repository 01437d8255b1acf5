/- The statement ClosureGreatest: the walk. -/
import Derived.Test.YthdibkmjoiipgaaClKit
import Derived.Test.YthdibkmjoiipgaaClMnLaw
import Derived.Test.YthdibkmjoiipgaaRefMn
import Derived.Test.YthdibkmjoiipgaaZero
import Derived.Deep.DeepCutAuto
namespace Go.Proofs.Ythdibkmjoiipgaa
open Go.RowKit
set_option linter.unusedVariables false
set_option maxHeartbeats 4000000 in
set_option maxRecDepth 100000 in
theorem clGr_any (A0 : Option Addr) (n0 c0 : Nat) (L : List Int) (w : World) (hL : Ints w w.heap.size A0 n0 L) (hc0 : n0 ≤ c0) (hn0 : (n0 : Int) ≤ 9223372036854775807) :
    Calls Try.prog 7 #[.slice A0 n0 c0] w fun e w' => e = .returned (.bool true) ∧ Below w.heap.size w w' := by
  go_enter Try.func7, Try.ntmps7
  go_wp2_with fail
  refine (new_any A0 n0 c0 L w hL hc0 hn0).mono ?_
  rintro e w1 ⟨rfl, hS1, hb1⟩
  have E := Lib.hid (EnvL.start hS1 hb1)
  clear hL hS1 hb1
  go_wp2_with fail
  refine (srcZero3_any w.heap.size 7 _ (by exact E.out.s) (by omega) (by omega)).mono ?_
  rintro e w2 ⟨f, A, n, c, hD, hcf, rfl, hI, hA, hS, hk⟩
  have hps := E.out.s.lt
  have E := Lib.hid (E.out.kept hS hk)
  have Vf := Lib.hid (show (CR.mk A n c f).In w.heap.size w2 from CR.In.new hI hA hps)
  have Hf := Lib.hid (show (DrawC 7 f ∧ f.Fin) ∧ nth f.vals 0 = 0 from hD)
  have HCf := Lib.hid hcf
  have hlenf := hI.1
  try simp only at hlenf
  have hnf : n ≤ 20 := by have h1 := Hf.out.1.1.len; omega
  clear hlenf
  clear hD hI hA hS hk hps hcf
  go_wp2_with fail
  refine (srcZero3_any w.heap.size 5 _ (by exact E.out.s) (by omega) (by omega)).mono ?_
  rintro e w3 ⟨g, B, m, d, hD, hcf, rfl, hI, hA, hS, hk⟩
  have hps := E.out.s.lt
  have E := Lib.hid (E.out.kept hS hk)
  have Vg := Lib.hid (show (CR.mk B m d g).In w.heap.size w3 from CR.In.new hI hA hps)
  have Hg := Lib.hid (show (DrawC 5 g ∧ g.Fin) ∧ nth g.vals 0 = 0 from hD)
  have HCg := Lib.hid hcf
  have hleng := hI.1
  try simp only at hleng
  have hmg : m ≤ 20 := by have h1 := Hg.out.1.1.len; omega
  clear hleng
  have Vf := Lib.hid (Vf.out.kept hk)
  clear hD hI hA hS hk hps hcf
  have E := Lib.hid (show EnvL w.heap.size w _ _ from E.out.push (X := ⟨A, n, c, f⟩) Vf.out)
  dsimp only [List.cons_append, List.nil_append] at E
  have Vg := Lib.hid (Vg.out.alloc (.cells #[.slice A n c, .int .i64 f.per, .int .i64 f.inc] 46))
  have E := Lib.hid (show EnvL w.heap.size w _ _ from E.out.push (X := ⟨B, m, d, g⟩) Vg.out)
  dsimp only [List.cons_append, List.nil_append] at E
  have FO := Lib.hid Hf.out.1.1.ok; have GO := Lib.hid Hg.out.1.1.ok
  have HNF := Lib.hid HCf.out; have HNG := Lib.hid HCg.out
  clear Vf Vg HCf HCg Hf Hg
  go_upto_region 3 with fail
  generalize hwe : (w3.alloc (.cells #[.slice A n c, .int .i64 f.per, .int .i64 f.inc] 46)).alloc (.cells #[.slice B m d, .int .i64 g.per, .int .i64 g.inc] 46) = we at *
  clear hwe
  simp only [World.size_alloc] at E
  obtain ⟨x0, x1, x2, hlx⟩ := (E.out.get 0 rfl).cells
  go_wp2_with fail
  refine (clof_any A n c f _ (by exact (E.out.get 0 rfl).inn.ints) (by omega)).mono ?_
  rintro e w4 ⟨h, e4, hSS, A4, n4, c4, hle, rfl, hI, hA, hb⟩
  have Sh := Lib.hid (show ClS f h e4 from hSS)
  have HCh := Lib.hid hle
  have hps := E.out.s.lt
  have E := Lib.hid (show EnvL w.heap.size w _ _ from (E.out.below hb).push (X := ⟨A4, n4, c4, h⟩) (CR.In.new hI hA hps))
  dsimp only [List.cons_append, List.nil_append] at E
  clear hSS hI hA hb hps hle x0 x1 x2 hlx
  go_upto_region 4 with fail
  generalize hwe : w4.alloc (.cells #[.slice A4 n4 c4, .int .i64 h.per, .int .i64 h.inc] 46) = we at *
  clear hwe
  generalize w4.heap.size = Zh at *
  have hl4 : n4 ≤ 400 := by have h1 := cl_len Sh.out; have h2 : h.vals.length = n4 := (E.out.get 2 rfl).inn.ints.1; omega
  rcases cl_er FO.out Sh.out with ⟨rfl, fr, cs, hCK⟩ | ⟨rfl, hhn⟩
  case inr =>
    clear hhn Sh
    go_wp2_with fail
    refine (awake9_any _).mono ?_
    rintro e wq ⟨rfl, hb⟩
    have bw := (E.out.below hb).fin
    go_wp2_with fail
    go_ret
    exact ⟨rfl, bw⟩
  case inl =>
    have CKH := Lib.hid hCK
    clear hCK Sh
    have HO := Lib.hid (ck_add CKH.out).1
    obtain ⟨x0, x1, x2, hlx⟩ := (E.out.get 2 rfl).cells
    go_upto_region 6 with fail
    go_wp2_with fail
    refine (subaddF_any A4 n4 c4 h.per h.inc h.vals _ (by exact (E.out.get 2 rfl).inn.ints) (by omega)).mono ?_
    rintro e w5 ⟨bs, er, hS, rfl, hb⟩
    obtain ⟨rfl, rfl⟩ := SaS.unique hS (show SaS h true 0 from .inr ⟨HO.out, ⟨h, (ck_add CKH.out).2.1, ⟨fun _ => (ck_add CKH.out).2.2, fun _ => rfl⟩⟩, rfl⟩)
    have E := Lib.hid (E.out.below hb)
    clear hS hb x0 x1 x2 hlx
    obtain ⟨x0, x1, x2, hlx⟩ := (E.out.get 2 rfl).cells
    obtain ⟨y0, y1, y2, hly⟩ := (E.out.get 0 rfl).cells
    go_wp2_with fail
    refine (refAtMost_any A4 A n4 n c4 c h.per h.inc f.per f.inc h.vals f.vals _ (by exact (E.out.get 2 rfl).inn.ints) (by exact (E.out.get 0 rfl).inn.ints) (by omega) (by omega)).mono ?_
    rintro e wq ⟨bm, hbm, rfl, hb⟩
    obtain rfl : bm = true := atm_true HO.out FO.out (ck_get CKH.out).2.2.2.1 hbm
    have E := Lib.hid (E.out.below hb)
    clear hb hbm x0 x1 x2 hlx y0 y1 y2 hly
    go_upto_region 9 with fail
    obtain ⟨x0, x1, x2, hlx⟩ := (E.out.get 2 rfl).cells
    go_wp2_with fail
    refine (clof_any A4 n4 c4 h _ (by exact (E.out.get 2 rfl).inn.ints) (by omega)).mono ?_
    rintro e w6 ⟨r, e5, hSS, A5, n5, c5, hle, rfl, hI, hA, hb⟩
    have Sr := Lib.hid (show ClS h r e5 from hSS)
    have HCr := Lib.hid hle
    have hps := E.out.s.lt
    have E := Lib.hid (show EnvL w.heap.size w _ _ from (E.out.below hb).push (X := ⟨A5, n5, c5, r⟩) (CR.In.new hI hA hps))
    dsimp only [List.cons_append, List.nil_append] at E
    clear hSS hI hA hb hps hle x0 x1 x2 hlx
    go_upto_region 10 with fail
    generalize hwe : w6.alloc (.cells #[.slice A5 n5 c5, .int .i64 r.per, .int .i64 r.inc] 46) = we at *
    clear hwe
    generalize w6.heap.size = Zr at *
    have hl5 : n5 ≤ 400 := by have h1 := cl_len Sr.out; have h2 : r.vals.length = n5 := (E.out.get 3 rfl).inn.ints.1; omega
    go_cut [65] (fun s65 wx => s65 = .bool false ∧ EnvL w.heap.size w wx [(w3.heap.size, ⟨A, n, c, f⟩), (w3.heap.size + 1, ⟨B, m, d, g⟩), (Zh, ⟨A4, n4, c4, h⟩)])
    case first =>
      rcases cl_er HO.out Sr.out with ⟨rfl, fr2, cs2, hCK2⟩ | ⟨rfl, hhn⟩
      case inr =>
        clear hhn Sr
        go_wp2_with fail
        go_meet
        exact ⟨rfl, E.out.s, E.out.k, fun x hx => E.out.v x (List.mem_append_left [(Zr, _)] hx)⟩
      case inl =>
        have RH := Lib.hid (ck_again CKH.out hCK2)
        clear hCK2 Sr
        obtain ⟨x0, x1, x2, hlx⟩ := (E.out.get 3 rfl).cells
        obtain ⟨y0, y1, y2, hly⟩ := (E.out.get 2 rfl).cells
        go_wp2_with fail
        refine (refSame_any A5 A4 n5 n4 c5 c4 r.per h.per r.inc h.inc r.vals h.vals _ (by exact (E.out.get 3 rfl).inn.ints) (by exact (E.out.get 2 rfl).inn.ints) (by omega) (by omega)).mono ?_
        rw [show Cv.same ⟨r.vals, r.per, r.inc⟩ ⟨h.vals, h.per, h.inc⟩ = true from (Cv.same_iff _ _).2 RH.out]
        rintro e wq ⟨rfl, hb⟩
        have E := Lib.hid (E.out.below hb)
        clear hb x0 x1 x2 hlx y0 y1 y2 hly
        go_wp2_with fail
        go_meet
        exact ⟨rfl, E.out.s, E.out.k, fun x hx => E.out.v x (List.mem_append_left [(Zr, _)] hx)⟩
    case rest =>
      clear E
      obtain ⟨rfl, hE⟩ := hcut
      have E := Lib.hid hE
      clear hE Sr
      go_upto_region 12 with fail
      obtain ⟨x0, x1, x2, hlx⟩ := (E.out.get 1 rfl).cells
      go_wp2_with fail
      refine (clof_any B m d g _ (by exact (E.out.get 1 rfl).inn.ints) (by omega)).mono ?_
      rintro e w7 ⟨k, e6, hSS, A6, n6, c6, hle, rfl, hI, hA, hb⟩
      have Sk := Lib.hid (show ClS g k e6 from hSS)
      have HCk := Lib.hid hle
      have hps := E.out.s.lt
      have E := Lib.hid (show EnvL w.heap.size w _ _ from (E.out.below hb).push (X := ⟨A6, n6, c6, k⟩) (CR.In.new hI hA hps))
      dsimp only [List.cons_append, List.nil_append] at E
      clear hSS hI hA hb hps hle x0 x1 x2 hlx
      go_upto_region 13 with fail
      generalize hwe : w7.alloc (.cells #[.slice A6 n6 c6, .int .i64 k.per, .int .i64 k.inc] 46) = we at *
      clear hwe
      generalize w7.heap.size = Zk at *
      have hl6 : n6 ≤ 400 := by have h1 := cl_len Sk.out; have h2 : k.vals.length = n6 := (E.out.get 3 rfl).inn.ints.1; omega
      go_cut [83] (fun s83 wx => s83 = .bool false ∧ EnvL w.heap.size w wx [(w3.heap.size, ⟨A, n, c, f⟩), (w3.heap.size + 1, ⟨B, m, d, g⟩), (Zh, ⟨A4, n4, c4, h⟩)])
      case first =>
        rcases cl_er GO.out Sk.out with ⟨rfl, fr2, cs2, hCK2⟩ | ⟨rfl, hhn⟩
        case inr =>
          clear hhn Sk
          go_wp2_with fail
          go_meet
          exact ⟨rfl, E.out.s, E.out.k, fun x hx => E.out.v x (List.mem_append_left [(Zk, _)] hx)⟩
        case inl =>
          have CKK := Lib.hid hCK2
          have KO := Lib.hid (ck_add CKK.out).1
          clear hCK2 Sk
          obtain ⟨x0, x1, x2, hlx⟩ := (E.out.get 3 rfl).cells
          obtain ⟨y0, y1, y2, hly⟩ := (E.out.get 0 rfl).cells
          go_wp2_with fail
          refine (refAtMost_any A6 A n6 n c6 c k.per k.inc f.per f.inc k.vals f.vals _ (by exact (E.out.get 3 rfl).inn.ints) (by exact (E.out.get 0 rfl).inn.ints) (by omega) (by omega)).mono ?_
          rintro e wq ⟨bm, hbm, rfl, hb⟩
          have E := Lib.hid (E.out.below hb)
          have BM := Lib.hid (show bm = true → LEC k f from fun q => by
            rcases hbm with ⟨_, _, r⟩ | ⟨_, r⟩
            · exact LEC.of (r.1 q)
            · rw [r] at q; cases q)
          clear hb hbm x0 x1 x2 hlx y0 y1 y2 hly
          cases hbv : bm
          case false =>
            clear hbv
            go_wp2_with fail
            go_meet
            exact ⟨rfl, E.out.s, E.out.k, fun x hx => E.out.v x (List.mem_append_left [(Zk, _)] hx)⟩
          case true =>
            have KF := Lib.hid (BM.out hbv)
            clear hbv BM
            obtain ⟨x0, x1, x2, hlx⟩ := (E.out.get 3 rfl).cells
            obtain ⟨y0, y1, y2, hly⟩ := (E.out.get 2 rfl).cells
            go_wp2_with fail
            refine (refAtMost_any A6 A4 n6 n4 c6 c4 k.per k.inc h.per h.inc k.vals h.vals _ (by exact (E.out.get 3 rfl).inn.ints) (by exact (E.out.get 2 rfl).inn.ints) (by omega) (by omega)).mono ?_
            rintro e wq ⟨bm, hbm, rfl, hb⟩
            obtain rfl : bm = true := atm_true KO.out HO.out (ck_below CKH.out CKK.out KF.out) hbm
            have E := Lib.hid (E.out.below hb)
            clear hb hbm x0 x1 x2 hlx y0 y1 y2 hly
            go_wp2_with fail
            go_meet
            exact ⟨rfl, E.out.s, E.out.k, fun x hx => E.out.v x (List.mem_append_left [(Zk, _)] hx)⟩
      case rest =>
        clear E
        obtain ⟨rfl, hE⟩ := hcut
        have E := Lib.hid hE
        clear hE Sk
        obtain ⟨x0, x1, x2, hlx⟩ := (E.out.get 0 rfl).cells
        obtain ⟨y0, y1, y2, hly⟩ := (E.out.get 1 rfl).cells
        go_upto_region 15 with fail
        go_wp2_with fail
        refine (refMin_any A B n m c d f.per f.inc g.per g.inc f.vals g.vals _ (by exact (E.out.get 0 rfl).inn.ints) (by exact (E.out.get 1 rfl).inn.ints) (by omega) (by omega) HNF.out HNG.out).mono ?_
        rintro e w8 ⟨q, eq, A7, n7, c7, hSS, hle, rfl, hI, hA, hb⟩
        have SQ := Lib.hid (show ExtS true f g q eq from hSS)
        have hps := E.out.s.lt
        have E := Lib.hid (show EnvL w.heap.size w _ _ from (E.out.below hb).push (X := ⟨A7, n7, c7, q⟩) (CR.In.new hI hA hps))
        dsimp only [List.cons_append, List.nil_append] at E
        clear hSS hI hA hb hps hle x0 x1 x2 hlx y0 y1 y2 hly
        go_upto_region 16 with fail
        generalize hwe : w8.alloc (.cells #[.slice A7 n7 c7, .int .i64 q.per, .int .i64 q.inc] 46) = we at *
        clear hwe
        generalize w8.heap.size = Zq at *
        have hl7 : n7 ≤ 400 := by
          have h2 : q.vals.length = n7 := (E.out.get 3 rfl).inn.ints.1
          rcases ext_get FO.out GO.out SQ.out with ⟨_, h1, _⟩ | ⟨_, h1⟩
          · have := h1.n2; omega
          · rw [h1] at h2
            have : n7 = 0 := h2.symm
            omega
        obtain ⟨x0, x1, x2, hlx⟩ := (E.out.get 3 rfl).cells
        go_wp2_with fail
        refine (clof_any A7 n7 c7 q _ (by exact (E.out.get 3 rfl).inn.ints) (by omega)).mono ?_
        rintro e w9 ⟨o, e8, hSS, A8, n8, c8, hle, rfl, hI, hA, hb⟩
        have So := Lib.hid (show ClS q o e8 from hSS)
        have HCo := Lib.hid hle
        have hps := E.out.s.lt
        have E := Lib.hid (show EnvL w.heap.size w _ _ from (E.out.below hb).push (X := ⟨A8, n8, c8, o⟩) (CR.In.new hI hA hps))
        dsimp only [List.cons_append, List.nil_append] at E
        clear hSS hI hA hb hps hle x0 x1 x2 hlx
        go_upto_region 17 with fail
        generalize hwe : w9.alloc (.cells #[.slice A8 n8 c8, .int .i64 o.per, .int .i64 o.inc] 46) = we at *
        clear hwe
        generalize w9.heap.size = Zo at *
        have hl8 : n8 ≤ 400 := by have h1 := cl_len So.out; have h2 : o.vals.length = n8 := (E.out.get 4 rfl).inn.ints.1; omega
        rcases ext_get FO.out GO.out SQ.out with ⟨rfl, hqo, hqa⟩ | ⟨rfl, hqn⟩
        case inr =>
          clear hqn
          go_wp2_with fail
          refine (awake9_any _).mono ?_
          rintro e wq ⟨rfl, hb⟩
          have bw := (E.out.below hb).fin
          go_wp2_with fail
          go_ret
          exact ⟨rfl, bw⟩
        case inl =>
          have QO := Lib.hid hqo
          have QF := Lib.hid (min_lec FO.out GO.out hqo hqa)
          clear hqo hqa
          rcases cl_er QO.out So.out with ⟨rfl, fr2, cs2, hCK2⟩ | ⟨rfl, hhn⟩
          case inr =>
            clear hhn
            go_wp2_with fail
            refine (awake9_any _).mono ?_
            rintro e wq ⟨rfl, hb⟩
            have bw := (E.out.below hb).fin
            go_wp2_with fail
            go_ret
            exact ⟨rfl, bw⟩
          case inl =>
            have CKO := Lib.hid hCK2
            clear hCK2
            obtain ⟨x0, x1, x2, hlx⟩ := (E.out.get 4 rfl).cells
            obtain ⟨y0, y1, y2, hly⟩ := (E.out.get 2 rfl).cells
            go_wp2_with fail
            refine (refAtMost_any A8 A4 n8 n4 c8 c4 o.per o.inc h.per h.inc o.vals h.vals _ (by exact (E.out.get 4 rfl).inn.ints) (by exact (E.out.get 2 rfl).inn.ints) (by omega) (by omega)).mono ?_
            rintro e wq ⟨bm, hbm, rfl, hb⟩
            obtain rfl : bm = true := atm_true (ck_add CKO.out).1 HO.out (ck_below CKH.out CKO.out ((ck_get CKO.out).2.2.2.1.trans QF.out)) hbm
            have E := Lib.hid (E.out.below hb)
            clear hb hbm x0 x1 x2 hlx y0 y1 y2 hly
            go_wp2_with fail
            refine (awake9_any _).mono ?_
            rintro e wq ⟨rfl, hb⟩
            have bw := (E.out.below hb).fin
            go_wp2_with fail
            go_ret
            exact ⟨rfl, bw⟩
end Go.Proofs.Ythdibkmjoiipgaa
