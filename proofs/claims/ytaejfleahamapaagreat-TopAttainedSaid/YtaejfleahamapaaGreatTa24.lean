/- server.measure and Delay of a line with priorities. -/
import Derived.Deep.LoopGhost
import Derived.Deep.DeepCutAuto
import Derived.Deep.RegionHeld3
import Derived.Test.YtaejfleahamapaaGreatTa19
import Derived.Test.YtaejfleahamapaaGreatTa23
import Derived.Test.YtaejfleahamapaaGreatTa1
import Derived.Test.YtaejfleahamapaaGreatTa3
namespace Go.Proofs.YtaejfleahamapaaGreat
set_option linter.unusedVariables false
set_option linter.unusedSimpArgs false
section
open Go.RowKit
def ChkOk (w : World) (cs : Array Value) : Prop := ∀ w', Below w.heap.size w w' → Calls Tryz.prog 75 #[.agg cs] w' fun e w'' => e = .returned (.int .i64 0) ∧ Below w'.heap.size w' w''
theorem ChkOk.below {w w' : World} {cs : Array Value} (h : ChkOk w cs) (hb : Below w.heap.size w w') : ChkOk w' cs := fun w'' h2 => h w'' (bthen hb h2)
structure ArE (w wx : World) (cs : Array Value) (g o : Nat) (xs : List CR) (A : Option Addr) (n c : Nat) (zs : List SZ) : Prop where
 ln : Blk wx w.heap.size 44 cs
 row : RowO wx g o xs
 sz : LsZ wx A n c zs
 ck : ChkOk wx cs
 bw : Below w.heap.size w wx
theorem ArE.below {w wx wy : World} {cs : Array Value} {g o n c : Nat} {xs : List CR} {A : Option Addr} {zs : List SZ} (h : ArE w wx cs g o xs A n c zs) (hb : Below wx.heap.size wx wy) : ArE w wy cs g o xs A n c zs := ⟨h.ln.below hb h.ln.lt, h.row.below hb, h.sz.below hb, h.ck.below hb, bthen h.bw hb⟩
set_option maxHeartbeats 4000000 in
set_option maxRecDepth 100000 in
theorem args_any (k cap : Int) (cl g o n c q s d nW cW nS cS : Nat) (AW AS : Option Addr) (xs : List CR) (zs : List SZ) (w : World) (hc1 : 1 ≤ cap) (hc2 : cap ≤ 4000) (hcl : cl < n) (hn : n ≤ 6) (hnc : n ≤ c) (hnd : n ≤ d) (hx : xs.length = n) (hrow : RowO w g o xs) (hfin : ∀ x ∈ xs, x.f.Fin) (hlen : ∀ x ∈ xs, x.n ≤ 1000) (hz : zs.length = n) (hrz : RowZ w q s zs) (hg : ∀ x ∈ zs, x.Good) (hck : ChkOk w #[.int .i64 k, .int .i64 cap, .int .i64 n, .slice AW nW cW, .slice AS nS cS]) :
 Calls Tryz.prog 78 #[.agg #[.int .i64 k, .int .i64 cap, .int .i64 n, .slice AW nW cW, .slice AS nS cS], .int .i64 cl, .slice (some ⟨g, o, none⟩) n c, .slice (some ⟨q, s, none⟩) n d] w fun e w' => e = .returned (.int .i64 0) ∧ Below w.heap.size w w' := by
 have E := hi_ (show ArE w (w.alloc (.cells #[.int .i64 k, .int .i64 cap, .int .i64 n, .slice AW nW cW, .slice AS nS cS] 44)) #[.int .i64 k, .int .i64 cap, .int .i64 n, .slice AW nW cW, .slice AS nS cS] g o xs (some ⟨q, s, none⟩) n d zs from ⟨Blk.new _ _ _, hrow.below (balloc _ _), ⟨hz, hnd, by omega, fun _ => ⟨q, s, rfl, hrz.below (balloc _ _)⟩⟩, hck.below (balloc _ _), balloc _ _⟩)
 have HG := hi_ hg; have HX := hi_ hx; have HFI := hi_ hfin; have HLE := hi_ hlen
 clear hrow hrz hg hx hfin hlen hz hck
 go_enter Tryz.func78, Tryz.ntmps78
 go_upto_region 1 with fail
 generalize hwe : w.alloc (.cells #[.int .i64 k, .int .i64 cap, .int .i64 n, .slice AW nW cW, .slice AS nS cS] 44) = w1 at *
 clear hwe
 obtain ⟨f0, f1, f2, f3, f4⟩ : _ ∧ _ ∧ _ ∧ _ ∧ _ := ⟨E.out.ln.cell 0, E.out.ln.cell 1, E.out.ln.cell 2, E.out.ln.cell 3, E.out.ln.cell 4⟩
 simp at f0 f1 f2 f3 f4
 have hlf := E.out.ln.lt
 go_wp2_with fail
 refine (E.out.ck w1 (Below.refl _ _)).mono ?_
 rintro e w2 ⟨rfl, hb⟩
 replace E := hi_ (E.out.below hb)
 clear hb
 clear f0 f1 f2 f3 f4 hlf
 obtain ⟨f0, f1, f2, f3, f4⟩ : _ ∧ _ ∧ _ ∧ _ ∧ _ := ⟨E.out.ln.cell 0, E.out.ln.cell 1, E.out.ln.cell 2, E.out.ln.cell 3, E.out.ln.cell 4⟩
 simp at f0 f1 f2 f3 f4
 have hlf := E.out.ln.lt
 have d0 : ((n : Int) != (n : Int)) = false := by simp
 have d1 : decide ((n : Int) ≤ (cl : Int)) = false := decide_eq_false (by omega)
 have d2 : decide ((cl : Int) < 0) = false := decide_eq_false (by omega)
 have d3 : decide (n ≤ cl) = false := decide_eq_false (by omega)
 go_wp2_with fail
 refine (pcheck_any cap cl (some ⟨q, s, none⟩) n d zs _ E.out.sz HG.out hc1 hc2 (by omega) hn (by omega) (by omega)).mono ?_
 rintro e w3 ⟨rfl, hb⟩
 replace E := hi_ (E.out.below hb)
 clear hb d0 d1 d2 d3
 clear f0 f1 f2 f3 f4 hlf
 go_wp2_with fail
 go_loopg [50] n (fun gg s50 wx => ∃ k' : Nat, k' + gg = n ∧ s50 = .int .i64 k' ∧ ArE w wx #[.int .i64 k, .int .i64 cap, .int .i64 n, .slice AW nW cW, .slice AS nS cS] g o xs (some ⟨q, s, none⟩) n d zs)
 case atStart => exact ⟨0, by omega, rfl, E.out⟩
 case round =>
  clear E
  obtain ⟨k', hkg, rfl, hE⟩ := hrel
  have E := hi_ hE
  clear hE
  by_cases hk : k' < n
  case pos =>
   have hki : (k' : Int) < n := by omega
   obtain ⟨x, hx, hI, x0, x1, x2⟩ := E.out.row.get (k := k') (by rw [HX.out]; exact hk)
   have hgl := E.out.row.lt
   have hmem := List.mem_of_getElem? hx
   have hok := (HFI.out x hmem).1
   have hxn := HLE.out x hmem
   have HI := hi_ (hI.alloc' (.cells #[.slice x.A x.n x.c, .int .i64 x.f.per, .int .i64 x.f.inc] 26))
   have BX := hi_ (Blk.new wr 26 #[.slice x.A x.n x.c, .int .i64 x.f.per, .int .i64 x.f.inc])
   replace E := hi_ (E.out.below (balloc wr (.cells #[.slice x.A x.n x.c, .int .i64 x.f.per, .int .i64 x.f.inc] 26)))
   have OKB := hi_ (Cv.okB_true hok)
   clear hI hmem hok hx
   go_upto_region 12 with fail
   clear x0 x1 x2 hgl
   generalize hwe : wr.alloc (.cells #[.slice x.A x.n x.c, .int .i64 x.f.per, .int .i64 x.f.inc] 26) = we at *
   clear hwe
   generalize wr.heap.size = Zx at *
   obtain ⟨⟨x0, x1, x2⟩, -, hlx⟩ := BX.out.c3
   go_wp2_with fail
   refine (valid_any x.A x.n x.c x.f.per x.f.inc x.f.vals _ (by exact HI.out) (by omega)).mono ?_
   rw [OKB.out]
   rintro e wf ⟨rfl, hb⟩
   replace E := hi_ (E.out.below hb)
   clear hb x0 x1 x2 hlx HI BX
   go_wp2_with fail
   go_roundg (gk - 1)
   case measure => omega
   case rel => exact ⟨k' + 1, by omega, by go_num, E.out⟩
  case neg =>
   have hki : ¬ (k' : Int) < n := by omega
   go_wp2_with fail
   go_ret
   exact ⟨rfl, E.out.bw⟩
theorem rkcurve_any (k cap : Int) (cl g o n c q s d : Nat) (AW AS : Option Addr) (nW cW nS cS : Nat) (xs : List CR) (zs : List SZ) (w : World) (hc1 : 1 ≤ cap) (hc2 : cap ≤ 4000) (hcl : cl < n) (hn : n ≤ 6) (hnc : n ≤ c) (hnd : n ≤ d) (hx : xs.length = n) (hrow : RowO w g o xs) (hfin : ∀ x ∈ xs, x.f.Fin) (hlen : ∀ x ∈ xs, x.n ≤ 1000)
 (hz : zs.length = n) (hrz : RowZ w q s zs) (hg : ∀ x ∈ zs, x.Good) :
 Calls Tryz.prog 176 #[.agg #[], .agg #[.int .i64 k, .int .i64 cap, .int .i64 n, .slice AW nW cW, .slice AS nS cS], .int .i64 cl, .slice (some ⟨g, o, none⟩) n c, .slice (some ⟨q, s, none⟩) n d] w (RetS (PrS cap cl (xs.map CR.f) zs) w) := by
 have b0 := balloc w (.cells #[] 163)
 have b1 := bthen b0 (balloc _ (.cells #[.int .i64 k, .int .i64 cap, .int .i64 n, .slice AW nW cW, .slice AS nS cS] 44))
 have L1 := hi_ ((Blk.new (w.alloc (.cells #[] 163)) 44 #[.int .i64 k, .int .i64 cap, .int .i64 n, .slice AW nW cW, .slice AS nS cS]).alloc (.cells #[.slice none 0 0, .int .i64 0, .int .i64 0] 26))
 have rb := Blk.new ((w.alloc (.cells #[] 163)).alloc (.cells #[.int .i64 k, .int .i64 cap, .int .i64 n, .slice AW nW cW, .slice AS nS cS] 44)) 26 #[.slice none 0 0, .int .i64 0, .int .i64 0]
 simp only [World.size_alloc] at rb
 have ER := hi_ rb
 have EB := hi_ (bthen b1 (balloc _ (.cells #[.slice none 0 0, .int .i64 0, .int .i64 0] 26)))
 have HROW := hi_ (hrow.below EB.out); have HRZ := hi_ (hrz.below EB.out)
 clear b0 b1 rb hrow hrz
 go_enter Tryz.func176, Tryz.ntmps176
 go_upto_region 1 with fail
 generalize hwe : ((w.alloc (.cells #[] 163)).alloc (.cells #[.int .i64 k, .int .i64 cap, .int .i64 n, .slice AW nW cW, .slice AS nS cS] 44)).alloc (.cells #[.slice none 0 0, .int .i64 0, .int .i64 0] 26) = w1 at *
 clear hwe
 have L2 := hi_ (show Blk w1 (w.heap.size + 1) 44 #[.int .i64 k, .int .i64 cap, .int .i64 n, .slice AW nW cW, .slice AS nS cS] by have := L1.out; rw [World.size_alloc] at this; exact this)
 have f1 := L2.out.cell 1
 simp at f1
 have hlf := L2.out.lt
 go_wp2_with fail
 refine (prCurve_any cap cl g o n c q s d xs zs w1 hc1 hc2 hcl hn hnc hnd hx HROW.out hfin hlen hz HRZ.out hg).mono ?_
 rintro e w2 ⟨f, er, hS, A5, m5, d5, rfl, hI5, hA5, hb⟩
 have F := hi_ hS
 have hw1 := ER.out.lt
 replace ER := hi_ (ER.out.below hb ER.out.lt); replace EB := hi_ (bthen EB.out hb)
 have HI5 := hi_ hI5; have HA5 := hi_ hA5
 clear hS hI5 hA5 hb L1 L2 f1 hlf HROW HRZ
 obtain ⟨⟨r0, r1, r2⟩, ⟨y0, y1, y2⟩, hlr⟩ := ER.out.c3
 go_wp2_with fail
 have rb := ER.out.store3 (.slice A5 m5 d5) (.int .i64 f.per) (.int .i64 f.inc)
 exact bodyPost_ret (v := .tuple #[.agg #[.slice A5 m5 d5, .int .i64 f.per, .int .i64 f.inc], .int .i64 er]) (by simp [results, Tryz.results176, go_sem, rb.cell]) rfl (retS_store F.out HA5.out (by omega) (by omega) HI5.out EB.out)
end
section
open Go.RowKit
set_option maxHeartbeats 4000000 in
set_option maxRecDepth 100000 in
theorem scurve2_any (cap : Int) (cl g o n c q s d nW cW nS cS : Nat) (AW AS : Option Addr) (xs : List CR) (zs : List SZ) (w : World) (hc1 : 1 ≤ cap) (hc2 : cap ≤ 4000) (hcl : cl < n) (hn : n ≤ 6) (hnc : n ≤ c) (hnd : n ≤ d) (hx : xs.length = n) (hrow : RowO w g o xs) (hfin : ∀ x ∈ xs, x.f.Fin) (hlen : ∀ x ∈ xs, x.n ≤ 1000) (hz : zs.length = n) (hrz : RowZ w q s zs) (hg : ∀ x ∈ zs, x.Good) (hck : ChkOk w #[.int .i64 2, .int .i64 cap, .int .i64 n, .slice AW nW cW, .slice AS nS cS]) :
 Calls Tryz.prog 33 #[.agg #[.int .i64 2, .int .i64 cap, .int .i64 n, .slice AW nW cW, .slice AS nS cS], .int .i64 cl, .slice (some ⟨g, o, none⟩) n c, .slice (some ⟨q, s, none⟩) n d] w (RetS (PrS cap cl (xs.map CR.f) zs) w) := by
 have b1 := bthen (balloc w (.cells #[.int .i64 2, .int .i64 cap, .int .i64 n, .slice AW nW cW, .slice AS nS cS] 44)) (balloc _ (.cells #[.slice none 0 0, .int .i64 0, .int .i64 0] 26))
 have L1 := hi_ ((Blk.new w 44 #[.int .i64 2, .int .i64 cap, .int .i64 n, .slice AW nW cW, .slice AS nS cS]).alloc (.cells #[.slice none 0 0, .int .i64 0, .int .i64 0] 26))
 have rb := Blk.new (w.alloc (.cells #[.int .i64 2, .int .i64 cap, .int .i64 n, .slice AW nW cW, .slice AS nS cS] 44)) 26 #[.slice none 0 0, .int .i64 0, .int .i64 0]
 simp only [World.size_alloc] at rb
 have ER := hi_ rb
 have EB := hi_ b1
 have HROW := hi_ (hrow.below EB.out); have HRZ := hi_ (hrz.below EB.out); have HCK := hi_ (hck.below EB.out)
 clear b1 rb hrow hrz hck
 go_enter Tryz.func33, Tryz.ntmps33
 go_upto_region 1 with fail
 generalize hwe : (w.alloc (.cells #[.int .i64 2, .int .i64 cap, .int .i64 n, .slice AW nW cW, .slice AS nS cS] 44)).alloc (.cells #[.slice none 0 0, .int .i64 0, .int .i64 0] 26) = w1 at *
 clear hwe
 obtain ⟨f0, f1, f2, f3, f4⟩ : _ ∧ _ ∧ _ ∧ _ ∧ _ := ⟨L1.out.cell 0, L1.out.cell 1, L1.out.cell 2, L1.out.cell 3, L1.out.cell 4⟩
 simp at f0 f1 f2 f3 f4
 have hlf := L1.out.lt
 go_wp2_with fail
 refine (args_any 2 cap cl g o n c q s d nW cW nS cS AW AS xs zs w1 hc1 hc2 hcl hn hnc hnd hx HROW.out hfin hlen hz HRZ.out hg HCK.out).mono ?_
 rintro e w2 ⟨rfl, hb⟩
 replace L1 := hi_ (L1.out.below hb L1.out.lt); replace ER := hi_ (ER.out.below hb ER.out.lt); replace EB := hi_ (bthen EB.out hb); replace HROW := hi_ (HROW.out.below hb); replace HRZ := hi_ (HRZ.out.below hb); try (replace HCK := hi_ (HCK.out.below hb))
 clear hb f0 f1 f2 f3 f4 hlf
 obtain ⟨f0, f1, f2, f3, f4⟩ : _ ∧ _ ∧ _ ∧ _ ∧ _ := ⟨L1.out.cell 0, L1.out.cell 1, L1.out.cell 2, L1.out.cell 3, L1.out.cell 4⟩
 simp at f0 f1 f2 f3 f4
 have hlf := L1.out.lt
 go_wp2_with fail
 refine (kind_any 2 (by omega) (by omega) _).mono ?_
 rintro e w3 ⟨rfl, hb⟩
 simp only [schedV]
 replace L1 := hi_ (L1.out.below hb L1.out.lt); replace ER := hi_ (ER.out.below hb ER.out.lt); replace EB := hi_ (bthen EB.out hb); replace HROW := hi_ (HROW.out.below hb); replace HRZ := hi_ (HRZ.out.below hb); try (replace HCK := hi_ (HCK.out.below hb))
 clear hb f0 f1 f2 f3 f4 hlf
 obtain ⟨f0, f1, f2, f3, f4⟩ : _ ∧ _ ∧ _ ∧ _ ∧ _ := ⟨L1.out.cell 0, L1.out.cell 1, L1.out.cell 2, L1.out.cell 3, L1.out.cell 4⟩
 simp at f0 f1 f2 f3 f4
 have hlf := L1.out.lt
 go_wp2_with fail
 refine (rkcurve_any 2 cap cl g o n c q s d AW AS nW cW nS cS xs zs w3 hc1 hc2 hcl hn hnc hnd hx HROW.out hfin hlen hz HRZ.out hg).mono ?_
 rintro e w4 ⟨f, er, hS, A5, m5, d5, rfl, hI5, hA5, hb⟩
 have F := hi_ hS
 have hw1 := ER.out.lt
 replace ER := hi_ (ER.out.below hb ER.out.lt); replace EB := hi_ (bthen EB.out hb)
 have HI5 := hi_ hI5; have HA5 := hi_ hA5
 clear hS hI5 hA5 hb L1 f0 f1 f2 f3 f4 hlf HROW HRZ HCK
 obtain ⟨⟨r0, r1, r2⟩, ⟨y0, y1, y2⟩, hlr⟩ := ER.out.c3
 go_wp2_with fail
 have rb := ER.out.store3 (.slice A5 m5 d5) (.int .i64 f.per) (.int .i64 f.inc)
 exact bodyPost_ret (v := .tuple #[.agg #[.slice A5 m5 d5, .int .i64 f.per, .int .i64 f.inc], .int .i64 er]) (by simp [results, Tryz.results33, go_sem, rb.cell]) rfl (retS_store F.out HA5.out (by omega) (by omega) HI5.out EB.out)
end
section
open Go.RowKit
def MsS (cap : Int) (cl : Nat) (fs : List Cv) (zs : List SZ) (al : Cv) (i : Bool) (v A er : Int) : Prop :=
 ∃ f e, PrS cap cl fs zs f e ∧ ((e ≠ 0 ∧ i = false ∧ v = 0 ∧ A = 0 ∧ er = e) ∨ (e = 0 ∧ DevE (DelayS al f) al f i v A er))
def RetDl (S : Bool → Int → Int → Int → Prop) (w : World) (e : Ending) (w' : World) : Prop :=
 ∃ i v A er, S i v A er ∧ e = .returned (.tuple #[.agg #[.bool i, .int .i64 v, .int .i64 A], .int .i64 er]) ∧ Below w.heap.size w w'
theorem rest_len {f g r : Cv} {er : Int} (h : RestS f g r er) : r.vals.length ≤ 400 := by
 obtain ⟨a, b, _, _, _, _, ⟨_, rfl, _⟩ | ⟨_, ⟨_, rfl, _⟩ | ⟨_, g, _, ⟨hl, rfl, _⟩ | ⟨_, rfl, _⟩⟩⟩⟩ := h
 ·decide
 ·decide
 ·exact hl.1
 ·decide
theorem pr_len {cap : Int} {cl : Nat} {fs : List Cv} {zs : List SZ} {r : Cv} {er : Int} (h : PrS cap cl fs zs r er) : r.vals.length ≤ 400 := by
 obtain ⟨o, e, _, ⟨_, rfl, _⟩ | ⟨_, o2, e2, _, ⟨_, rfl, _⟩ | ⟨_, h⟩⟩⟩ := h
 ·decide
 ·decide
 ·exact rest_len h
set_option maxHeartbeats 4000000 in
set_option maxRecDepth 100000 in
theorem measure1_any (FB : Nat) (cap : Int) (cl g o n c q s d nW cW nS cS : Nat) (AW AS : Option Addr) (xs : List CR) (zs : List SZ) (al : CR) (w : World) (hc1 : 1 ≤ cap) (hc2 : cap ≤ 4000) (hcl : cl < n) (hn : n ≤ 6) (hnc : n ≤ c) (hnd : n ≤ d) (hx : xs.length = n) (hrow : RowO w g o xs) (hfin : ∀ x ∈ xs, x.f.Fin) (hlen : ∀ x ∈ xs, x.n ≤ 1000) (hz : zs.length = n) (hrz : RowZ w q s zs) (hg : ∀ x ∈ zs, x.Good) (hck : ChkOk w #[.int .i64 2, .int .i64 cap, .int .i64 n, .slice AW nW cW, .slice AS nS cS]) (hfb : Blk w FB 37 #[.func (.func 11) #[] #[]]) (hal : xs[cl]? = some al) :
 Calls Tryz.prog 107 #[.agg #[.int .i64 2, .int .i64 cap, .int .i64 n, .slice AW nW cW, .slice AS nS cS], .int .i64 cl, .slice (some ⟨g, o, none⟩) n c, .slice (some ⟨q, s, none⟩) n d, .pointer (some ⟨FB, 0, none⟩)] w (RetDl (MsS cap cl (xs.map CR.f) zs al.f) w) := by
 have b1 := bthen (balloc w (.cells #[.int .i64 2, .int .i64 cap, .int .i64 n, .slice AW nW cW, .slice AS nS cS] 44)) (balloc _ (.cells #[.bool false, .int .i64 0, .int .i64 0] 35))
 have L1 := hi_ ((Blk.new w 44 #[.int .i64 2, .int .i64 cap, .int .i64 n, .slice AW nW cW, .slice AS nS cS]).alloc (.cells #[.bool false, .int .i64 0, .int .i64 0] 35))
 have rb := Blk.new (w.alloc (.cells #[.int .i64 2, .int .i64 cap, .int .i64 n, .slice AW nW cW, .slice AS nS cS] 44)) 35 #[.bool false, .int .i64 0, .int .i64 0]
 simp only [World.size_alloc] at rb
 have ER := hi_ rb
 have EB := hi_ b1
 have HROW := hi_ (hrow.below EB.out); have HRZ := hi_ (hrz.below EB.out); have HCK := hi_ (hck.below EB.out); have HFB := hi_ (hfb.below EB.out hfb.lt)
 have HAL := hi_ hal
 have hgw := hrow.lt; have hfw := hfb.lt
 clear b1 rb hrow hrz hck hfb hal
 go_enter Tryz.func107, Tryz.ntmps107
 go_upto_region 1 with fail
 generalize hwe : (w.alloc (.cells #[.int .i64 2, .int .i64 cap, .int .i64 n, .slice AW nW cW, .slice AS nS cS] 44)).alloc (.cells #[.bool false, .int .i64 0, .int .i64 0] 35) = w1 at *
 clear hwe
 obtain ⟨f0, f1, f2, f3, f4⟩ : _ ∧ _ ∧ _ ∧ _ ∧ _ := ⟨L1.out.cell 0, L1.out.cell 1, L1.out.cell 2, L1.out.cell 3, L1.out.cell 4⟩
 simp at f0 f1 f2 f3 f4
 have hlf := L1.out.lt
 go_wp2_with fail
 refine (scurve2_any cap cl g o n c q s d nW cW nS cS AW AS xs zs w1 hc1 hc2 hcl hn hnc hnd hx HROW.out hfin hlen hz HRZ.out hg HCK.out).mono ?_
 rintro e w2 ⟨f, er, hS, A5, m5, d5, rfl, hI5, hA5, hb⟩
 have F1 := hi_ hS
 have hm5 : m5 ≤ 400 := by have h1 := pr_len hS; have h2 : f.vals.length = m5 := hI5.1; omega
 have hFB := hi_ (HFB.out.below hb HFB.out.lt)
 have hw1 := (ER.out.below hb ER.out.lt).lt
 replace ER := hi_ ((ER.out.below hb ER.out.lt).alloc (.cells #[.slice A5 m5 d5, .int .i64 f.per, .int .i64 f.inc] 26)); replace EB := hi_ (bthen (bthen EB.out hb) (balloc w2 (.cells #[.slice A5 m5 d5, .int .i64 f.per, .int .i64 f.inc] 26)))
 replace HROW := hi_ ((HROW.out.below hb).below (balloc w2 (.cells #[.slice A5 m5 d5, .int .i64 f.per, .int .i64 f.inc] 26))); replace HFB := hi_ (hFB.out.alloc (.cells #[.slice A5 m5 d5, .int .i64 f.per, .int .i64 f.inc] 26))
 have HI5 := hi_ (hI5.alloc' (.cells #[.slice A5 m5 d5, .int .i64 f.per, .int .i64 f.inc] 26))
 have BF := hi_ (Blk.new w2 26 #[.slice A5 m5 d5, .int .i64 f.per, .int .i64 f.inc])
 clear hS hI5 hA5 hb L1 f0 f1 f2 f3 f4 hlf HRZ HCK hFB
 go_upto_region 2 with fail
 generalize hwe : w2.alloc (.cells #[.slice A5 m5 d5, .int .i64 f.per, .int .i64 f.inc] 26) = w3 at *
 clear hwe
 generalize w2.heap.size = Zf at *
 by_cases he : er = 0
 case neg =>
  have c2 : (er != 0) = true := by simpa using he
  have F := hi_ (show MsS cap cl (xs.map CR.f) zs al.f false 0 0 er from ⟨f, er, F1.out, .inl ⟨he, rfl, rfl, rfl, rfl⟩⟩)
  clear he
  obtain ⟨⟨r0, r1, r2⟩, ⟨y0, y1, y2⟩, hlr⟩ := ER.out.c3
  go_wp2_with fail
  have rb := ER.out.store3 (.bool false) (.int .i64 0) (.int .i64 0)
  exact bodyPost_ret (v := .tuple #[.agg #[.bool false, .int .i64 0, .int .i64 0], .int .i64 er]) (by simp [results, Tryz.results107, go_sem, rb.cell]) rfl ⟨false, 0, 0, er, F.out, rfl, bst3 EB.out (by omega) _ _ _⟩
 case pos =>
 subst he
 go_upto_region 4 with fail
 have hcll : cl < xs.length := by rw [hx]; exact hcl
 replace ER := hi_ (Blk.drew ER.out); replace EB := hi_ (Below.drew EB.out); replace HFB := hi_ (Blk.drew HFB.out); replace BF := hi_ (Blk.drew BF.out); replace HI5 := hi_ (show Ints w3.drew w3.drew.heap.size A5 m5 f.vals from HI5.out)
 replace HROW := hi_ (show RowO w3.drew g o xs from ⟨HROW.out.lt, HROW.out.cell, HROW.out.inn⟩)
 obtain ⟨x, hx', hI, x0, x1, x2⟩ := HROW.out.get (k := cl) hcll
 rw [HAL.out] at hx'
 obtain rfl := Option.some.inj hx'
 have hgl := HROW.out.lt
 have b0 : w3.drew.cell? ⟨FB, 0, none⟩ = some (.func (.func 11) #[] #[]) := HFB.out.cell 0
 have hbl := HFB.out.lt
 obtain ⟨⟨l0, l1, l2⟩, -, hll⟩ := BF.out.c3
 have hxn := hlen al (List.mem_of_getElem? HAL.out)
 have HI := hi_ hI
 have hcli : (cl : Int) < n := by omega
 refine wp_region_held_drew (S := fun w' => (w'.cell? ⟨FB, 0, none⟩ = some (.func (.func 11) #[] #[])) ∧ (w'.cell? ⟨g, o + cl * 3, none⟩ = some (.slice al.A al.n al.c) ∧ w'.cell? ⟨g, o + cl * 3 + 1, none⟩ = some (.int .i64 al.f.per) ∧ w'.cell? ⟨g, o + cl * 3 + 2, none⟩ = some (.int .i64 al.f.inc)) ∧ w'.cell? ⟨Zf, 0, none⟩ = some (.slice A5 m5 d5) ∧ w'.cell? ⟨Zf, 1, none⟩ = some (.int .i64 f.per) ∧ w'.cell? ⟨Zf, 2, none⟩ = some (.int .i64 f.inc)) (by kernel_rfl) (by exact ⟨b0, ⟨x0, x1, x2⟩, l0, l1, l2⟩) (fun hHeld => ?_)
 have hwd9 : w3.drew.heap.size = w3.heap.size := rfl
 generalize hwd : w3.drew = wd at *
 clear hwd hI hx'
 refine tkO [0, 1, 2, 3, 4, 5] ?_; (iterate 6 refine tkI ?_); refine tkX ?_
 refine rdy2 6 (fun K hK => ?_)
 go_simp
 refine (delay_any al.A A5 al.n m5 al.c d5 al.f.per al.f.inc f.per f.inc al.f.vals f.vals wd (by exact HI.out) (by exact HI5.out) (by omega) (by omega)).mono ?_
 rintro e wf ⟨i, v, A, er, hD, rfl, hb⟩
 have F := hi_ (show MsS cap cl (xs.map CR.f) zs al.f i v A er from ⟨f, 0, F1.out, .inr ⟨rfl, hD⟩⟩)
 have y0 := (hb.cell (p := ⟨FB, 0, none⟩) hbl).trans b0
 have z0 := (hb.cell (p := ⟨g, o + cl * 3, none⟩) hgl).trans x0; have z1 := (hb.cell (p := ⟨g, o + cl * 3 + 1, none⟩) hgl).trans x1; have z2 := (hb.cell (p := ⟨g, o + cl * 3 + 2, none⟩) hgl).trans x2
 have q0 := (hb.cell (p := ⟨Zf, 0, none⟩) hll).trans l0; have q1 := (hb.cell (p := ⟨Zf, 1, none⟩) hll).trans l1; have q2 := (hb.cell (p := ⟨Zf, 2, none⟩) hll).trans l2
 replace ER := hi_ (ER.out.below hb ER.out.lt); replace EB := hi_ (bthen EB.out hb)
 clear hD hHeld x0 x1 x2 l0 l1 l2 b0 hgl hll hbl hb HFB BF HROW HI HI5
 refine bkS hK (by exact ⟨y0, ⟨z0, z1, z2⟩, q0, q1, q2⟩) (fun hHeld => ?_); clear hK K
 clear y0 z0 z1 z2 q0 q1 q2
 refine tkO [7, 8] ?_; (iterate 2 refine tkI ?_); refine tkX ?_
 obtain ⟨⟨r0, r1, r2⟩, ⟨y0, y1, y2⟩, hlr⟩ := ER.out.c3
 refine rdy2 9 (fun K hK => ?_)
 go_simp
 have st := Sto.three (w.heap.size + 1) wf (.bool i) (.int .i64 v) (.int .i64 A)
 refine hK.out _ _ ?_ (fun hHeld2 => ?_)
 ·exact ⟨(World.cell?_of_block (a := ⟨FB, 0, none⟩) (st.block FB (by omega))).trans hHeld.1, ⟨(World.cell?_of_block (a := ⟨g, _, none⟩) (st.block g (by omega))).trans hHeld.2.1.1, (World.cell?_of_block (a := ⟨g, _, none⟩) (st.block g (by omega))).trans hHeld.2.1.2.1, (World.cell?_of_block (a := ⟨g, _, none⟩) (st.block g (by omega))).trans hHeld.2.1.2.2⟩,
   (World.cell?_of_block (a := ⟨Zf, 0, none⟩) (st.block Zf (by omega))).trans hHeld.2.2.1, (World.cell?_of_block (a := ⟨Zf, 1, none⟩) (st.block Zf (by omega))).trans hHeld.2.2.2.1, (World.cell?_of_block (a := ⟨Zf, 2, none⟩) (st.block Zf (by omega))).trans hHeld.2.2.2.2⟩
 clear hK K
 (try simp only [Act.put]); try simp only [g8b, g8c, g8d]
 refine tk1 10 ?_
 refine dnH ?_
 clear hHeld hHeld2
 have rb := ER.out.store3 (.bool i) (.int .i64 v) (.int .i64 A)
 go_wp2_with fail
 exact bodyPost_ret (v := .tuple #[.agg #[.bool i, .int .i64 v, .int .i64 A], .int .i64 er]) (by simp [results, Tryz.results107, go_sem, rb.cell]) rfl ⟨i, v, A, er, F.out, rfl, bst3 EB.out (by omega) _ _ _⟩
theorem measure_any (w : World) : Calls Tryz.prog 77 #[(.func (.func 11) #[] #[])] w fun e w' => ∃ FB, e = .returned (.func (.func 107) #[] #[.pointer (some ⟨FB, 0, none⟩)]) ∧ Blk w' FB 37 #[(.func (.func 11) #[] #[])] ∧ w.heap.size ≤ FB ∧ Below w.heap.size w w' := by
 have B := hi_ (Blk.new w 37 #[(.func (.func 11) #[] #[])])
 have BW := hi_ (balloc w (.cells #[(.func (.func 11) #[] #[])] 37))
 go_enter Tryz.func77, Tryz.ntmps77
 go_wp2_with fail
 go_ret
 exact ⟨_, rfl, B.out, Nat.le_refl _, BW.out⟩
set_option maxHeartbeats 4000000 in
set_option maxRecDepth 100000 in
theorem sdelay2_any (cap : Int) (cl g o n c q s d nW cW nS cS : Nat) (AW AS : Option Addr) (xs : List CR) (zs : List SZ) (al : CR) (w : World) (hc1 : 1 ≤ cap) (hc2 : cap ≤ 4000) (hcl : cl < n) (hn : n ≤ 6) (hnc : n ≤ c) (hnd : n ≤ d) (hx : xs.length = n) (hrow : RowO w g o xs) (hfin : ∀ x ∈ xs, x.f.Fin) (hlen : ∀ x ∈ xs, x.n ≤ 1000) (hz : zs.length = n) (hrz : RowZ w q s zs) (hg : ∀ x ∈ zs, x.Good) (hck : ChkOk w #[.int .i64 2, .int .i64 cap, .int .i64 n, .slice AW nW cW, .slice AS nS cS]) (hal : xs[cl]? = some al) :
 Calls Tryz.prog 24 #[.agg #[.int .i64 2, .int .i64 cap, .int .i64 n, .slice AW nW cW, .slice AS nS cS], .int .i64 cl, .slice (some ⟨g, o, none⟩) n c, .slice (some ⟨q, s, none⟩) n d] w (RetDl (MsS cap cl (xs.map CR.f) zs al.f) w) := by
 have b1 := bthen (balloc w (.cells #[.int .i64 2, .int .i64 cap, .int .i64 n, .slice AW nW cW, .slice AS nS cS] 44)) (balloc _ (.cells #[.bool false, .int .i64 0, .int .i64 0] 35))
 have L1 := hi_ ((Blk.new w 44 #[.int .i64 2, .int .i64 cap, .int .i64 n, .slice AW nW cW, .slice AS nS cS]).alloc (.cells #[.bool false, .int .i64 0, .int .i64 0] 35))
 have rb := Blk.new (w.alloc (.cells #[.int .i64 2, .int .i64 cap, .int .i64 n, .slice AW nW cW, .slice AS nS cS] 44)) 35 #[.bool false, .int .i64 0, .int .i64 0]
 simp only [World.size_alloc] at rb
 have ER := hi_ rb
 have EB := hi_ b1
 have HROW := hi_ (hrow.below EB.out); have HRZ := hi_ (hrz.below EB.out); have HCK := hi_ (hck.below EB.out)
 clear b1 rb hrow hrz hck
 go_enter Tryz.func24, Tryz.ntmps24
 go_upto_region 1 with fail
 generalize hwe : (w.alloc (.cells #[.int .i64 2, .int .i64 cap, .int .i64 n, .slice AW nW cW, .slice AS nS cS] 44)).alloc (.cells #[.bool false, .int .i64 0, .int .i64 0] 35) = w1 at *
 clear hwe
 obtain ⟨f0, f1, f2, f3, f4⟩ : _ ∧ _ ∧ _ ∧ _ ∧ _ := ⟨L1.out.cell 0, L1.out.cell 1, L1.out.cell 2, L1.out.cell 3, L1.out.cell 4⟩
 simp at f0 f1 f2 f3 f4
 have hlf := L1.out.lt
 go_upto_region 2 with fail
 replace ER := hi_ (Blk.drew ER.out); replace EB := hi_ (Below.drew EB.out); replace L1 := hi_ (Blk.drew L1.out)
 replace HROW := hi_ (show RowO w1.drew g o xs from ⟨HROW.out.lt, HROW.out.cell, HROW.out.inn⟩)
 replace HRZ := hi_ (show RowZ w1.drew q s zs from ⟨HRZ.out.lt, HRZ.out.cell⟩)
 replace HCK := hi_ (show ChkOk w1.drew #[.int .i64 2, .int .i64 cap, .int .i64 n, .slice AW nW cW, .slice AS nS cS] from fun w' h => HCK.out w' (bofdrew h))
 refine wp_region_held_drew (S := fun w' => w'.cell? ⟨w.heap.size, 0, none⟩ = some (.int .i64 2) ∧ w'.cell? ⟨w.heap.size, 1, none⟩ = some (.int .i64 cap) ∧ w'.cell? ⟨w.heap.size, 2, none⟩ = some (.int .i64 n) ∧ w'.cell? ⟨w.heap.size, 3, none⟩ = some (.slice AW nW cW) ∧ w'.cell? ⟨w.heap.size, 4, none⟩ = some (.slice AS nS cS)) (by kernel_rfl) (by exact ⟨f0, f1, f2, f3, f4⟩) (fun hHeld => ?_)
 clear f0 f1 f2 f3 f4 hlf
 generalize hwd : w1.drew = wd at *
 clear hwd
 obtain ⟨f0, f1, f2, f3, f4⟩ : _ ∧ _ ∧ _ ∧ _ ∧ _ := ⟨L1.out.cell 0, L1.out.cell 1, L1.out.cell 2, L1.out.cell 3, L1.out.cell 4⟩
 simp at f0 f1 f2 f3 f4
 have hlf := L1.out.lt
 refine tkO [1, 2, 3, 4] ?_; (iterate 4 refine tkI ?_); refine tkX ?_
 refine rdy2 0 (fun K hK => ?_)
 go_simp
 refine (measure_any wd).mono ?_
 rintro e we ⟨FB, rfl, hfb, hFB0, hb⟩
 have HFB := hi_ hfb
 clear hfb hHeld
 replace L1 := hi_ (L1.out.below hb L1.out.lt); replace ER := hi_ (ER.out.below hb ER.out.lt); replace EB := hi_ (bthen EB.out hb); replace HROW := hi_ (HROW.out.below hb); replace HRZ := hi_ (HRZ.out.below hb); try (replace HCK := hi_ (HCK.out.below hb))
 clear hb f0 f1 f2 f3 f4 hlf
 obtain ⟨f0, f1, f2, f3, f4⟩ : _ ∧ _ ∧ _ ∧ _ ∧ _ := ⟨L1.out.cell 0, L1.out.cell 1, L1.out.cell 2, L1.out.cell 3, L1.out.cell 4⟩
 simp at f0 f1 f2 f3 f4
 have hlf := L1.out.lt
 refine bkS hK (by exact ⟨f0, f1, f2, f3, f4⟩) (fun hHeld => ?_); clear hK K
 refine rdy2 5 (fun K hK => ?_)
 go_simp
 refine (measure1_any FB cap cl g o n c q s d nW cW nS cS AW AS xs zs al we hc1 hc2 hcl hn hnc hnd hx HROW.out hfin hlen hz HRZ.out hg HCK.out HFB.out hal).mono ?_
 rintro e wf ⟨i, v, A, er, hS, rfl, hb⟩
 have F := hi_ hS
 clear hS hHeld
 replace L1 := hi_ (L1.out.below hb L1.out.lt); replace ER := hi_ (ER.out.below hb ER.out.lt); replace EB := hi_ (bthen EB.out hb); replace HROW := hi_ (HROW.out.below hb); replace HRZ := hi_ (HRZ.out.below hb); try (replace HCK := hi_ (HCK.out.below hb))
 clear hb f0 f1 f2 f3 f4 hlf
 obtain ⟨f0, f1, f2, f3, f4⟩ : _ ∧ _ ∧ _ ∧ _ ∧ _ := ⟨L1.out.cell 0, L1.out.cell 1, L1.out.cell 2, L1.out.cell 3, L1.out.cell 4⟩
 simp at f0 f1 f2 f3 f4
 have hlf := L1.out.lt
 refine bkS hK (by exact ⟨f0, f1, f2, f3, f4⟩) (fun hHeld => ?_); clear hK K
 refine tkO [6, 7] ?_; (iterate 2 refine tkI ?_); refine tkX ?_
 obtain ⟨⟨r0, r1, r2⟩, ⟨y0, y1, y2⟩, hlr⟩ := ER.out.c3
 refine rdy2 8 (fun K hK => ?_)
 go_simp
 have st := Sto.three (w.heap.size + 1) wf (.bool i) (.int .i64 v) (.int .i64 A)
 refine hK.out _ _ ?_ (fun hHeld2 => ?_)
 ·exact ⟨(World.cell?_of_block (a := ⟨w.heap.size, 0, none⟩) (st.block w.heap.size (by omega))).trans f0, (World.cell?_of_block (a := ⟨w.heap.size, 1, none⟩) (st.block w.heap.size (by omega))).trans f1, (World.cell?_of_block (a := ⟨w.heap.size, 2, none⟩) (st.block w.heap.size (by omega))).trans f2, (World.cell?_of_block (a := ⟨w.heap.size, 3, none⟩) (st.block w.heap.size (by omega))).trans f3, (World.cell?_of_block (a := ⟨w.heap.size, 4, none⟩) (st.block w.heap.size (by omega))).trans f4⟩
 clear hK K
 (try simp only [Act.put]); try simp only [g8b, g8c, g8d]
 refine tk1 9 ?_
 refine dnH ?_
 clear hHeld hHeld2
 have rb := ER.out.store3 (.bool i) (.int .i64 v) (.int .i64 A)
 go_wp2_with fail
 exact bodyPost_ret (v := .tuple #[.agg #[.bool i, .int .i64 v, .int .i64 A], .int .i64 er]) (by simp [results, Tryz.results24, go_sem, rb.cell]) rfl ⟨i, v, A, er, F.out, rfl, bst3 EB.out (by omega) _ _ _⟩
end
end Go.Proofs.YtaejfleahamapaaGreat
