/- anyLine: a line of any kind with two classes. -/
import Derived.Deep.RegionHeld3
import Derived.Deep.DeepCutAuto
import Derived.Test.YtaejfleahamapaaGreatPp27
import Derived.Test.YtaejfleahamapaaGreatPp3
import Derived.Test.YtaejfleahamapaaGreatPp1
import Derived.Test.YtaejfleahamapaaGreatPp16
namespace Go.Proofs.YtaejfleahamapaaGreat
set_option linter.unusedVariables false
set_option linter.unusedSimpArgs false
section
open Go.RowKit
section
variable(b1 b2:Nat)(lo hi:Int)
structure WiB(w:World)(b1 b2:Nat)(lo hi:Int):Prop where
 l:Blk w b1 3 #[.int .i64 lo]
 h:Blk w b2 3 #[.int .i64 hi]
theorem within1_any(v:Int)(w:World)(hB:WiB w b1 b2 lo hi)(h1:lo≤v)(h2:v≤hi) :
 Calls Tryz.prog 196 #[.int .i64 v,.pointer (some ⟨b1,0,none⟩),.pointer (some ⟨b2,0,none⟩)] w fun e w'=>e = .returned (.bool false)∧w'=w:=by
 have l0:=hB.l.cell 0;have l1:=hB.h.cell 0;simp at l0 l1;have hl:=hB.l.lt;have hh:=hB.h.lt;have d1:decide (v<lo)=false:=decide_eq_false (by omega);have d2:decide (hi<v)=false:=decide_eq_false (by omega);clear hB;go_enter Tryz.func196,Tryz.ntmps196
 go_wp2_with fail
 go_ret
 exact⟨rfl,rfl⟩
theorem idxf_any(A:Option Addr)(n c:Nat)(zs:List Int)(w:World)(hB:WiB w b1 b2 lo hi)(hI:Ints w w.heap.size A n zs)(hn:n≤100)(hz:∀k,k<n→lo≤nth zs k∧nth zs k≤hi) :
 Calls Tryz.prog 205 #[.slice A n c,.func (.func 196) #[] #[.pointer (some ⟨b1,0,none⟩),.pointer (some ⟨b2,0,none⟩)]] w fun e w'=>e = .returned (.int .i64 (-1))∧w'=w:=by
 have HB:=hi_ hB;have HI:=hi_ hI;have HZ:=hi_ hz;clear hB hI hz;go_enter Tryz.func205,Tryz.ntmps205
 go_wp2_with fail
 go_loopg [8,5] n (fun gg s8 _ wr=>∃k:Nat,k+gg=n∧s8 = .int .i64 k∧wr=w)
 case atStart=>exact⟨0,by omega,rfl,rfl⟩
 case round=>
  obtain⟨k,hkg,rfl,rfl⟩:=hrel;by_cases hk:k<n
  case pos=>
   have hki:(k:Int)<n:=by omega
   obtain⟨b,o,hA,hb,hc⟩:=HI.out.2 (by omega);subst hA;have hcc:=hc k hk;have hv:=HZ.out k hk;generalize nth zs k=v at *;clear hc;go_wp2_with fail
   refine(within1_any b1 b2 lo hi v wr HB.out hv.1 hv.2).mono ?_;rintro e w2 ⟨rfl,rfl⟩;go_wp2_with fail
   go_roundg (gk-1)
   case measure=>omega
   case rel=>exact⟨k+1,by omega,by go_num,rfl⟩
  case neg=>
   have hki:¬(k:Int)<n:=by omega
   go_wp2_with fail
   go_ret
   exact⟨rfl,rfl⟩
end
theorem within_any(lo hi:Int)(A:Option Addr)(n c:Nat)(zs:List Int)(w:World)(hI:Ints w w.heap.size A n zs)(hn:n≤100)(hz:∀k,k<n→lo≤nth zs k∧nth zs k≤hi) :
 Calls Tryz.prog 192 #[.slice A n c,.int .i64 lo,.int .i64 hi] w fun e w'=>e = .returned (.bool true)∧Below w.heap.size w w':=by
 have B1:=(Blk.new w 3 #[.int .i64 lo]).alloc (.cells #[.int .i64 hi] 3);have B2:=Blk.new (w.alloc (.cells #[.int .i64 lo] 3)) 3 #[.int .i64 hi];rw [World.size_alloc] at B2;have HB:=hi_ (WiB.mk B1 B2);have BW:=hi_ (bthen (balloc w (.cells #[.int .i64 lo] 3)) (balloc _ (.cells #[.int .i64 hi] 3)));have HI:=hi_ (hI.ext BW.out);clear B1 B2 hI;go_enter Tryz.func192,Tryz.ntmps192
 go_upto_region 1 with fail
 generalize hwe:(w.alloc (.cells #[.int .i64 lo] 3)).alloc (.cells #[.int .i64 hi] 3)=w1 at *;clear hwe;go_wp2_with fail
 refine Calls.mono (R:=fun e w'=>e = .returned (.bool false)∧w'=w1) ?_ ?_
 ·go_enter Tryz.func195,Tryz.ntmps195
  go_wp2_with fail
  refine(idxf_any w.heap.size (w.heap.size+1) lo hi A n c zs w1 HB.out HI.out hn hz).mono ?_;rintro e w2 ⟨rfl,rfl⟩;go_wp2_with fail
  go_ret
  exact⟨rfl,rfl⟩
 ·rintro e w2 ⟨rfl,rfl⟩;go_wp2_with fail
  go_ret
  exact⟨rfl,BW.out⟩
theorem Empties.below{w w':World}{G m:Nat}(h:Empties w G m)(hb:Below w.heap.size w w'):Empties w' G m:=
 ⟨Nat.lt_of_lt_of_le h.1 hb.size,fun j hj=>by
  obtain⟨A,c,e⟩:=h.2 j hj;exact⟨A,c,(hb.cell (p:=⟨G,j,none⟩) h.1).trans e⟩⟩
-- robin the kind, (k cap : Int) (n cW cS : Nat) (AW AS : Option Addr) (zs : List Int) (w : World) (hI : Ints w w.heap.size AW n zs) (hn6 : n ≤ 6) (hz : ∀ k, k < n → 1 ≤ nth zs k ∧ nth zs k ≤ 20) the signature, AW n cW the list that is looked at, 0 1 2 3 4 5 6 7 8 the ops ahead of within, 9 within, 10 the picks behind it, 11 12 the ops ahead of the list of lists, 13 that list, 14 lists, 15 the last one, AS cS the unused one, have d0 : ((n : Int) == (n : Int)) = true := by simp laid ahead, 1 low, 20 high
set_option maxRecDepth 100000 in
set_option maxHeartbeats 1000000 in
theorem robinchk_any(k cap:Int)(n cW cS:Nat)(AW AS:Option Addr)(zs:List Int)(w:World)(hI:Ints w w.heap.size AW n zs)(hn6:n≤6)(hz:∀k,k<n→1≤nth zs k∧nth zs k≤20) :
 Calls Tryz.prog 189 #[.agg #[],.agg #[.int .i64 k,.int .i64 cap,.int .i64 n,.slice AW n cW,.slice AS 0 cS]] w fun e w'=>e = .returned (.int .i64 0)∧Below w.heap.size w w':=by
 have B0:=balloc w (.cells #[] 164);have B1:=hi_ (Blk.new (w.alloc (.cells #[] 164)) 44 #[.int .i64 k,.int .i64 cap,.int .i64 n,.slice AW n cW,.slice AS 0 cS]);have BW:=hi_ (bthen B0 (balloc _ (.cells #[.int .i64 k,.int .i64 cap,.int .i64 n,.slice AW n cW,.slice AS 0 cS] 44)));have HI:=hi_ (hI.ext BW.out);clear B0 hI;go_enter Tryz.func189,Tryz.ntmps189
 go_upto_region 1 with fail
 generalize hwe:(w.alloc (.cells #[] 164)).alloc (.cells #[.int .i64 k,.int .i64 cap,.int .i64 n,.slice AW n cW,.slice AS 0 cS] 44)=w1 at *;clear hwe;have B2:=hi_ (show Blk w1.drew (w.heap.size+1) 44 #[.int .i64 k,.int .i64 cap,.int .i64 n,.slice AW n cW,.slice AS 0 cS] by have:=B1.out;rw [World.size_alloc] at this;exact this);replace BW:=hi_ (Below.drew BW.out);replace HI:=hi_ (show Ints w1.drew w1.drew.heap.size _ _ zs from HI.out);clear B1;obtain⟨f2,f3,f4,hl⟩:w1.drew.cell? ⟨w.heap.size+1,2,none⟩=some (.int .i64 n)∧w1.drew.cell? ⟨w.heap.size+1,3,none⟩=some (.slice AW n cW)∧w1.drew.cell? ⟨w.heap.size+1,4,none⟩=some (.slice AS 0 cS)∧_:=⟨B2.out.cell 2,B2.out.cell 3,B2.out.cell 4,B2.out.lt⟩
 have d0:((n:Int) == (n:Int))=true:=by simp
 refine wp_region_held_drew (S:=(fun w'=>w'.cell? ⟨w.heap.size+1,2,none⟩=some (.int .i64 n)∧w'.cell? ⟨w.heap.size+1,3,none⟩=some (.slice AW n cW)∧w'.cell? ⟨w.heap.size+1,4,none⟩=some (.slice AS 0 cS))) (by kernel_rfl) (by exact⟨f2,f3,f4⟩) (fun hHeld=>?_);generalize hwd:w1.drew=wd at *;clear hwd;refine tkO [0,1,2,3,4,5,6,7,8,11,12] ?_;(iterate 11 refine tkI ?_);refine tkX ?_;refine rdB 9 13 (fun K hK=>?_) (fun K hK=>?_)
 ·rw [if_pos (by rfl)];go_simp
  refine(within_any 1 20 AW n cW zs wd HI.out (by omega) hz).mono ?_;rintro e we ⟨rfl,hb⟩;replace B2:=hi_ (B2.out.below hb B2.out.lt);replace BW:=hi_ (bthen BW.out hb);replace HI:=hi_ (HI.out.ext hb);clear f2 f3 f4 hl hb;have f2:=B2.out.cell 2;have f3:=B2.out.cell 3;have f4:=B2.out.cell 4;simp at f2 f3 f4;have hl:=B2.out.lt;clear hHeld;refine bkS hK (by exact⟨f2,f3,f4⟩) (fun hHeld=>?_);clear hK K;refine tk1 10 ?_;refine rdy2 13 (fun K hK=>?_);go_simp
  have HE:=hi_ (empties1 we 22 AS cS);have hb:=balloc we (.cells #[.slice AS 0 cS] 22);replace B2:=hi_ (B2.out.below hb B2.out.lt);replace BW:=hi_ (bthen BW.out hb);replace HI:=hi_ (HI.out.ext hb);clear f2 f3 f4 hl hb;have f2:=B2.out.cell 2;have f3:=B2.out.cell 3;have f4:=B2.out.cell 4;simp at f2 f3 f4;have hl:=B2.out.lt;clear hHeld;refine bkS hK (by exact⟨f2,f3,f4⟩) (fun hHeld=>?_);clear hK K;refine rdy2 14 (fun K hK=>?_);go_simp
  refine(lists_any _ 1 _ (by omega) HE.out).mono ?_;rintro e wf ⟨rfl,hb⟩;replace B2:=hi_ (B2.out.below hb B2.out.lt);replace BW:=hi_ (bthen BW.out hb);replace HI:=hi_ (HI.out.ext hb);clear f2 f3 f4 hl hb;have f2:=B2.out.cell 2;have f3:=B2.out.cell 3;have f4:=B2.out.cell 4;simp at f2 f3 f4;have hl:=B2.out.lt;clear hHeld;refine bkS hK (by exact⟨f2,f3,f4⟩) (fun hHeld=>?_);clear hK K;refine tk1 15 ?_;refine dnH ?_;have bw:=BW.out;go_wp2_with fail
  go_ret
  exact⟨rfl,bw⟩
 ·rw [if_pos (by rfl)];go_simp
  have HE:=hi_ (empties1 wd 22 AS cS);have hb:=balloc wd (.cells #[.slice AS 0 cS] 22);replace B2:=hi_ (B2.out.below hb B2.out.lt);replace BW:=hi_ (bthen BW.out hb);replace HI:=hi_ (HI.out.ext hb);clear f2 f3 f4 hl hb;have f2:=B2.out.cell 2;have f3:=B2.out.cell 3;have f4:=B2.out.cell 4;simp at f2 f3 f4;have hl:=B2.out.lt;clear hHeld;refine bkS hK (by exact⟨f2,f3,f4⟩) (fun hHeld=>?_);clear hK K;refine rdy2 9 (fun K hK=>?_);go_simp
  refine(within_any 1 20 AW n cW zs _ HI.out (by omega) hz).mono ?_;rintro e we ⟨rfl,hb⟩;replace HE:=hi_ (HE.out.below hb);replace B2:=hi_ (B2.out.below hb B2.out.lt);replace BW:=hi_ (bthen BW.out hb);replace HI:=hi_ (HI.out.ext hb);clear f2 f3 f4 hl hb;have f2:=B2.out.cell 2;have f3:=B2.out.cell 3;have f4:=B2.out.cell 4;simp at f2 f3 f4;have hl:=B2.out.lt;clear hHeld;refine bkS hK (by exact⟨f2,f3,f4⟩) (fun hHeld=>?_);clear hK K;refine tk1 10 ?_;refine rdy2 14 (fun K hK=>?_);go_simp
  refine(lists_any _ 1 _ (by omega) HE.out).mono ?_;rintro e wf ⟨rfl,hb⟩;replace B2:=hi_ (B2.out.below hb B2.out.lt);replace BW:=hi_ (bthen BW.out hb);replace HI:=hi_ (HI.out.ext hb);clear f2 f3 f4 hl hb;have f2:=B2.out.cell 2;have f3:=B2.out.cell 3;have f4:=B2.out.cell 4;simp at f2 f3 f4;have hl:=B2.out.lt;clear hHeld;refine bkS hK (by exact⟨f2,f3,f4⟩) (fun hHeld=>?_);clear hK K;refine tk1 15 ?_;refine dnH ?_;have bw:=BW.out;go_wp2_with fail
  go_ret
  exact⟨rfl,bw⟩
-- deficits the kind, (k cap : Int) (n cW cS : Nat) (AW AS : Option Addr) (zs : List Int) (w : World) (hI : Ints w w.heap.size AW n zs) (hn6 : n ≤ 6) (hz : ∀ k, k < n → 1 ≤ nth zs k ∧ nth zs k ≤ 6000) the signature, AW n cW the list that is looked at, 0 1 2 3 4 5 6 7 8 the ops ahead of within, 9 within, 10 the picks behind it, 11 12 the ops ahead of the list of lists, 13 that list, 14 lists, 15 the last one, AS cS the unused one, have d0 : ((n : Int) == (n : Int)) = true := by simp laid ahead, 1 low, 6000 high
set_option maxRecDepth 100000 in
set_option maxHeartbeats 1000000 in
theorem deficitschk_any(k cap:Int)(n cW cS:Nat)(AW AS:Option Addr)(zs:List Int)(w:World)(hI:Ints w w.heap.size AW n zs)(hn6:n≤6)(hz:∀k,k<n→1≤nth zs k∧nth zs k≤6000) :
 Calls Tryz.prog 206 #[.agg #[],.agg #[.int .i64 k,.int .i64 cap,.int .i64 n,.slice AW n cW,.slice AS 0 cS]] w fun e w'=>e = .returned (.int .i64 0)∧Below w.heap.size w w':=by
 have B0:=balloc w (.cells #[] 165);have B1:=hi_ (Blk.new (w.alloc (.cells #[] 165)) 44 #[.int .i64 k,.int .i64 cap,.int .i64 n,.slice AW n cW,.slice AS 0 cS]);have BW:=hi_ (bthen B0 (balloc _ (.cells #[.int .i64 k,.int .i64 cap,.int .i64 n,.slice AW n cW,.slice AS 0 cS] 44)));have HI:=hi_ (hI.ext BW.out);clear B0 hI;go_enter Tryz.func206,Tryz.ntmps206
 go_upto_region 1 with fail
 generalize hwe:(w.alloc (.cells #[] 165)).alloc (.cells #[.int .i64 k,.int .i64 cap,.int .i64 n,.slice AW n cW,.slice AS 0 cS] 44)=w1 at *;clear hwe;have B2:=hi_ (show Blk w1.drew (w.heap.size+1) 44 #[.int .i64 k,.int .i64 cap,.int .i64 n,.slice AW n cW,.slice AS 0 cS] by have:=B1.out;rw [World.size_alloc] at this;exact this);replace BW:=hi_ (Below.drew BW.out);replace HI:=hi_ (show Ints w1.drew w1.drew.heap.size _ _ zs from HI.out);clear B1;obtain⟨f2,f3,f4,hl⟩:w1.drew.cell? ⟨w.heap.size+1,2,none⟩=some (.int .i64 n)∧w1.drew.cell? ⟨w.heap.size+1,3,none⟩=some (.slice AW n cW)∧w1.drew.cell? ⟨w.heap.size+1,4,none⟩=some (.slice AS 0 cS)∧_:=⟨B2.out.cell 2,B2.out.cell 3,B2.out.cell 4,B2.out.lt⟩
 have d0:((n:Int) == (n:Int))=true:=by simp
 refine wp_region_held_drew (S:=(fun w'=>w'.cell? ⟨w.heap.size+1,2,none⟩=some (.int .i64 n)∧w'.cell? ⟨w.heap.size+1,3,none⟩=some (.slice AW n cW)∧w'.cell? ⟨w.heap.size+1,4,none⟩=some (.slice AS 0 cS))) (by kernel_rfl) (by exact⟨f2,f3,f4⟩) (fun hHeld=>?_);generalize hwd:w1.drew=wd at *;clear hwd;refine tkO [0,1,2,3,4,5,6,7,8,11,12] ?_;(iterate 11 refine tkI ?_);refine tkX ?_;refine rdB 9 13 (fun K hK=>?_) (fun K hK=>?_)
 ·rw [if_pos (by rfl)];go_simp
  refine(within_any 1 6000 AW n cW zs wd HI.out (by omega) hz).mono ?_;rintro e we ⟨rfl,hb⟩;replace B2:=hi_ (B2.out.below hb B2.out.lt);replace BW:=hi_ (bthen BW.out hb);replace HI:=hi_ (HI.out.ext hb);clear f2 f3 f4 hl hb;have f2:=B2.out.cell 2;have f3:=B2.out.cell 3;have f4:=B2.out.cell 4;simp at f2 f3 f4;have hl:=B2.out.lt;clear hHeld;refine bkS hK (by exact⟨f2,f3,f4⟩) (fun hHeld=>?_);clear hK K;refine tk1 10 ?_;refine rdy2 13 (fun K hK=>?_);go_simp
  have HE:=hi_ (empties1 we 22 AS cS);have hb:=balloc we (.cells #[.slice AS 0 cS] 22);replace B2:=hi_ (B2.out.below hb B2.out.lt);replace BW:=hi_ (bthen BW.out hb);replace HI:=hi_ (HI.out.ext hb);clear f2 f3 f4 hl hb;have f2:=B2.out.cell 2;have f3:=B2.out.cell 3;have f4:=B2.out.cell 4;simp at f2 f3 f4;have hl:=B2.out.lt;clear hHeld;refine bkS hK (by exact⟨f2,f3,f4⟩) (fun hHeld=>?_);clear hK K;refine rdy2 14 (fun K hK=>?_);go_simp
  refine(lists_any _ 1 _ (by omega) HE.out).mono ?_;rintro e wf ⟨rfl,hb⟩;replace B2:=hi_ (B2.out.below hb B2.out.lt);replace BW:=hi_ (bthen BW.out hb);replace HI:=hi_ (HI.out.ext hb);clear f2 f3 f4 hl hb;have f2:=B2.out.cell 2;have f3:=B2.out.cell 3;have f4:=B2.out.cell 4;simp at f2 f3 f4;have hl:=B2.out.lt;clear hHeld;refine bkS hK (by exact⟨f2,f3,f4⟩) (fun hHeld=>?_);clear hK K;refine tk1 15 ?_;refine dnH ?_;have bw:=BW.out;go_wp2_with fail
  go_ret
  exact⟨rfl,bw⟩
 ·rw [if_pos (by rfl)];go_simp
  have HE:=hi_ (empties1 wd 22 AS cS);have hb:=balloc wd (.cells #[.slice AS 0 cS] 22);replace B2:=hi_ (B2.out.below hb B2.out.lt);replace BW:=hi_ (bthen BW.out hb);replace HI:=hi_ (HI.out.ext hb);clear f2 f3 f4 hl hb;have f2:=B2.out.cell 2;have f3:=B2.out.cell 3;have f4:=B2.out.cell 4;simp at f2 f3 f4;have hl:=B2.out.lt;clear hHeld;refine bkS hK (by exact⟨f2,f3,f4⟩) (fun hHeld=>?_);clear hK K;refine rdy2 9 (fun K hK=>?_);go_simp
  refine(within_any 1 6000 AW n cW zs _ HI.out (by omega) hz).mono ?_;rintro e we ⟨rfl,hb⟩;replace HE:=hi_ (HE.out.below hb);replace B2:=hi_ (B2.out.below hb B2.out.lt);replace BW:=hi_ (bthen BW.out hb);replace HI:=hi_ (HI.out.ext hb);clear f2 f3 f4 hl hb;have f2:=B2.out.cell 2;have f3:=B2.out.cell 3;have f4:=B2.out.cell 4;simp at f2 f3 f4;have hl:=B2.out.lt;clear hHeld;refine bkS hK (by exact⟨f2,f3,f4⟩) (fun hHeld=>?_);clear hK K;refine tk1 10 ?_;refine rdy2 14 (fun K hK=>?_);go_simp
  refine(lists_any _ 1 _ (by omega) HE.out).mono ?_;rintro e wf ⟨rfl,hb⟩;replace B2:=hi_ (B2.out.below hb B2.out.lt);replace BW:=hi_ (bthen BW.out hb);replace HI:=hi_ (HI.out.ext hb);clear f2 f3 f4 hl hb;have f2:=B2.out.cell 2;have f3:=B2.out.cell 3;have f4:=B2.out.cell 4;simp at f2 f3 f4;have hl:=B2.out.lt;clear hHeld;refine bkS hK (by exact⟨f2,f3,f4⟩) (fun hHeld=>?_);clear hK K;refine tk1 15 ?_;refine dnH ?_;have bw:=BW.out;go_wp2_with fail
  go_ret
  exact⟨rfl,bw⟩
-- times the kind, (k cap : Int) (n nS cW cS : Nat) (AW AS : Option Addr) (zs : List Int) (w : World) (hI : Ints w w.heap.size AS nS zs) (hn1 : 1 ≤ nS) (hn2 : nS ≤ 40) (hn6 : n ≤ 6) (hz : ∀ k, k < nS → -1 ≤ nth zs k ∧ nth zs k ≤ (n : Int) - 1) the signature, AS nS cS the list that is looked at, 0 1 2 3 4 5 6 7 8 9 10 11 12 13 14 15 the ops ahead of within, 16 within, 17 the picks behind it, 18 19 the ops ahead of the list of lists, 20 that list, 21 lists, 22 the last one, AW cW the unused one, have d0 : decide ((1 : Int) ≤ (nS : Int)) = true := decide_eq_true (by omega); have d1 : decide ((nS : Int) ≤ 40) = true := decide_eq_true (by omega); have hs : IntKind.i64.wrap ((n : Int) - 1) = (n : Int) - 1 := IntWalk.i64_in _ (by omega) laid ahead, (-1) low, ((n : Int) - 1) high
set_option maxRecDepth 100000 in
set_option maxHeartbeats 1000000 in
theorem timeschk_any(k cap:Int)(n nS cW cS:Nat)(AW AS:Option Addr)(zs:List Int)(w:World)(hI:Ints w w.heap.size AS nS zs)(hn1:1≤nS)(hn2:nS≤40)(hn6:n≤6)(hz:∀k,k<nS→-1≤nth zs k∧nth zs k≤(n:Int)-1) :
 Calls Tryz.prog 219 #[.agg #[],.agg #[.int .i64 k,.int .i64 cap,.int .i64 n,.slice AW 0 cW,.slice AS nS cS]] w fun e w'=>e = .returned (.int .i64 0)∧Below w.heap.size w w':=by
 have B0:=balloc w (.cells #[] 166);have B1:=hi_ (Blk.new (w.alloc (.cells #[] 166)) 44 #[.int .i64 k,.int .i64 cap,.int .i64 n,.slice AW 0 cW,.slice AS nS cS]);have BW:=hi_ (bthen B0 (balloc _ (.cells #[.int .i64 k,.int .i64 cap,.int .i64 n,.slice AW 0 cW,.slice AS nS cS] 44)));have HI:=hi_ (hI.ext BW.out);clear B0 hI;go_enter Tryz.func219,Tryz.ntmps219
 go_upto_region 1 with fail
 generalize hwe:(w.alloc (.cells #[] 166)).alloc (.cells #[.int .i64 k,.int .i64 cap,.int .i64 n,.slice AW 0 cW,.slice AS nS cS] 44)=w1 at *;clear hwe;have B2:=hi_ (show Blk w1.drew (w.heap.size+1) 44 #[.int .i64 k,.int .i64 cap,.int .i64 n,.slice AW 0 cW,.slice AS nS cS] by have:=B1.out;rw [World.size_alloc] at this;exact this);replace BW:=hi_ (Below.drew BW.out);replace HI:=hi_ (show Ints w1.drew w1.drew.heap.size _ _ zs from HI.out);clear B1;obtain⟨f2,f3,f4,hl⟩:w1.drew.cell? ⟨w.heap.size+1,2,none⟩=some (.int .i64 n)∧w1.drew.cell? ⟨w.heap.size+1,3,none⟩=some (.slice AW 0 cW)∧w1.drew.cell? ⟨w.heap.size+1,4,none⟩=some (.slice AS nS cS)∧_:=⟨B2.out.cell 2,B2.out.cell 3,B2.out.cell 4,B2.out.lt⟩
 have d0:decide ((1:Int)≤(nS:Int))=true:=decide_eq_true (by omega);have d1:decide ((nS:Int)≤40)=true:=decide_eq_true (by omega);have hs:IntKind.i64.wrap ((n:Int)-1)=(n:Int)-1:=IntWalk.i64_in _ (by omega);refine wp_region_held_drew (S:=(fun w'=>w'.cell? ⟨w.heap.size+1,2,none⟩=some (.int .i64 n)∧w'.cell? ⟨w.heap.size+1,3,none⟩=some (.slice AW 0 cW)∧w'.cell? ⟨w.heap.size+1,4,none⟩=some (.slice AS nS cS))) (by kernel_rfl) (by exact⟨f2,f3,f4⟩) (fun hHeld=>?_);generalize hwd:w1.drew=wd at *;clear hwd;refine tkO [0,1,2,3,4,5,6,7,8,9,10,11,12,13,14,15,18,19] ?_;(iterate 18 refine tkI ?_);refine tkX ?_;refine rdB 16 20 (fun K hK=>?_) (fun K hK=>?_)
 ·rw [if_pos (by rfl)];go_simp
  refine(within_any (-1) ((n:Int)-1) AS nS cS zs wd HI.out (by omega) hz).mono ?_;rintro e we ⟨rfl,hb⟩;replace B2:=hi_ (B2.out.below hb B2.out.lt);replace BW:=hi_ (bthen BW.out hb);replace HI:=hi_ (HI.out.ext hb);clear f2 f3 f4 hl hb;have f2:=B2.out.cell 2;have f3:=B2.out.cell 3;have f4:=B2.out.cell 4;simp at f2 f3 f4;have hl:=B2.out.lt;clear hHeld;refine bkS hK (by exact⟨f2,f3,f4⟩) (fun hHeld=>?_);clear hK K;refine tk1 17 ?_;refine rdy2 20 (fun K hK=>?_);go_simp
  have HE:=hi_ (empties1 we 22 AW cW);have hb:=balloc we (.cells #[.slice AW 0 cW] 22);replace B2:=hi_ (B2.out.below hb B2.out.lt);replace BW:=hi_ (bthen BW.out hb);replace HI:=hi_ (HI.out.ext hb);clear f2 f3 f4 hl hb;have f2:=B2.out.cell 2;have f3:=B2.out.cell 3;have f4:=B2.out.cell 4;simp at f2 f3 f4;have hl:=B2.out.lt;clear hHeld;refine bkS hK (by exact⟨f2,f3,f4⟩) (fun hHeld=>?_);clear hK K;refine rdy2 21 (fun K hK=>?_);go_simp
  refine(lists_any _ 1 _ (by omega) HE.out).mono ?_;rintro e wf ⟨rfl,hb⟩;replace B2:=hi_ (B2.out.below hb B2.out.lt);replace BW:=hi_ (bthen BW.out hb);replace HI:=hi_ (HI.out.ext hb);clear f2 f3 f4 hl hb;have f2:=B2.out.cell 2;have f3:=B2.out.cell 3;have f4:=B2.out.cell 4;simp at f2 f3 f4;have hl:=B2.out.lt;clear hHeld;refine bkS hK (by exact⟨f2,f3,f4⟩) (fun hHeld=>?_);clear hK K;refine tk1 22 ?_;refine dnH ?_;have bw:=BW.out;go_wp2_with fail
  go_ret
  exact⟨rfl,bw⟩
 ·rw [if_pos (by rfl)];go_simp
  have HE:=hi_ (empties1 wd 22 AW cW);have hb:=balloc wd (.cells #[.slice AW 0 cW] 22);replace B2:=hi_ (B2.out.below hb B2.out.lt);replace BW:=hi_ (bthen BW.out hb);replace HI:=hi_ (HI.out.ext hb);clear f2 f3 f4 hl hb;have f2:=B2.out.cell 2;have f3:=B2.out.cell 3;have f4:=B2.out.cell 4;simp at f2 f3 f4;have hl:=B2.out.lt;clear hHeld;refine bkS hK (by exact⟨f2,f3,f4⟩) (fun hHeld=>?_);clear hK K;refine rdy2 16 (fun K hK=>?_);go_simp
  refine(within_any (-1) ((n:Int)-1) AS nS cS zs _ HI.out (by omega) hz).mono ?_;rintro e we ⟨rfl,hb⟩;replace HE:=hi_ (HE.out.below hb);replace B2:=hi_ (B2.out.below hb B2.out.lt);replace BW:=hi_ (bthen BW.out hb);replace HI:=hi_ (HI.out.ext hb);clear f2 f3 f4 hl hb;have f2:=B2.out.cell 2;have f3:=B2.out.cell 3;have f4:=B2.out.cell 4;simp at f2 f3 f4;have hl:=B2.out.lt;clear hHeld;refine bkS hK (by exact⟨f2,f3,f4⟩) (fun hHeld=>?_);clear hK K;refine tk1 17 ?_;refine rdy2 21 (fun K hK=>?_);go_simp
  refine(lists_any _ 1 _ (by omega) HE.out).mono ?_;rintro e wf ⟨rfl,hb⟩;replace B2:=hi_ (B2.out.below hb B2.out.lt);replace BW:=hi_ (bthen BW.out hb);replace HI:=hi_ (HI.out.ext hb);clear f2 f3 f4 hl hb;have f2:=B2.out.cell 2;have f3:=B2.out.cell 3;have f4:=B2.out.cell 4;simp at f2 f3 f4;have hl:=B2.out.lt;clear hHeld;refine bkS hK (by exact⟨f2,f3,f4⟩) (fun hHeld=>?_);clear hK K;refine tk1 22 ?_;refine dnH ?_;have bw:=BW.out;go_wp2_with fail
  go_ret
  exact⟨rfl,bw⟩
def checkF(k:Int):Nat:=match k.toNat with
 | 1=>171
 | 2=>175
 | 3=>189
 | 4=>206
 | _=>219
set_option maxRecDepth 100000 in
set_option maxHeartbeats 4000000 in
theorem check_any(k cap n:Int)(AW AS:Option Addr)(nW cW nS cS:Nat)(w:World)(hk1:1≤k)(hk5:k≤5)(hc1:1≤cap)(hc2:cap≤4000)(hn1:1≤n)(hn2:n≤6)
 (hm:∀w',Below w.heap.size w w'→Calls Tryz.prog (checkF k) #[.agg #[],.agg #[.int .i64 k,.int .i64 cap,.int .i64 n,.slice AW nW cW,.slice AS nS cS]] w' fun e w''=>e = .returned (.int .i64 0)∧Below w'.heap.size w' w'') :
 Calls Tryz.prog 75 #[.agg #[.int .i64 k,.int .i64 cap,.int .i64 n,.slice AW nW cW,.slice AS nS cS]] w fun e w'=>e = .returned (.int .i64 0)∧Below w.heap.size w w':=by
 have B1:=hi_ (Blk.new w 44 #[.int .i64 k,.int .i64 cap,.int .i64 n,.slice AW nW cW,.slice AS nS cS]);have BW:=hi_ (balloc w (.cells #[.int .i64 k,.int .i64 cap,.int .i64 n,.slice AW nW cW,.slice AS nS cS] 44));have HM:=hi_ hm;clear hm;go_enter Tryz.func75,Tryz.ntmps75
 go_upto_region 1 with fail
 generalize hwe:w.alloc (.cells #[.int .i64 k,.int .i64 cap,.int .i64 n,.slice AW nW cW,.slice AS nS cS] 44)=w1 at *;clear hwe;have n0:=B1.out.cell 0;simp at n0;have hl:=B1.out.lt;go_wp2_with fail
 refine(kind_any k hk1 hk5 _).mono ?_;rintro e w2 ⟨rfl,hb⟩;replace B1:=hi_ (B1.out.below hb B1.out.lt);replace BW:=hi_ (bthen BW.out hb);clear n0 hl hb;have n0:=B1.out.cell 0;have n1:=B1.out.cell 1;have n2:=B1.out.cell 2;have n3:=B1.out.cell 3;have n4:=B1.out.cell 4;simp at n0 n1 n2 n3 n4;have hl:=B1.out.lt;have HM3:=hi_ (HM.out w2 BW.out);have HX:=hi_ (And.intro hk1 hk5);clear hk1 hk5 HM;rcases five HX.out.1 HX.out.2 with rfl|rfl|rfl|rfl|rfl
 all_goals
  simp only [schedV];go_wp2_with fail
  refine HM3.out.mono ?_;rintro e w3 ⟨rfl,hb⟩;have bw:=bthen BW.out hb;go_wp2_with fail
  go_ret
  exact⟨rfl,bw⟩
end
section
open Go.RowKit
structure LnO(w:World)(B:Nat)(k cap:Int)(AW AS:Option Addr)(nW cW nS cS:Nat)(ws tb:List Int):Prop where
 k1:1≤k∧k≤5
 c1:10≤cap∧cap≤50
 h12:k=1∨k=2→nW=0∧nS=0
 h3:k=3→nW=2∧cW=2∧nS=0∧(∃a b,ws = [a,b]∧1≤a∧a≤3∧1≤b∧b≤2)∧∃g,AW=some ⟨g,0,none⟩∧B≤g∧IBlk w g ws
 h4:k=4→nW=2∧cW=2∧nS=0∧(∃a b,ws = [a,b]∧20≤a∧a≤40∧20≤b∧b≤40)∧∃g,AW=some ⟨g,0,none⟩∧B≤g∧IBlk w g ws
 h5:k=5→nW=0∧nS=4∧cS=4∧(∃q,tb = [0,0,1,q]∧0≤q∧q<2)∧∃g,AS=some ⟨g,0,none⟩∧B≤g∧IBlk w g tb
section
variable{w w':World}{B:Nat}{k cap:Int}{AW AS:Option Addr}{nW cW nS cS:Nat}{ws tb:List Int}
theorem LnO.kx{X:Nat→Prop}(h:LnO w B k cap AW AS nW cW nS cS ws tb)(x:KX X w w')(hx:∀j,B≤j→¬X j):LnO w' B k cap AW AS nW cW nS cS ws tb:=by
 have q:∀g zs,B≤g→IBlk w g zs→IBlk w' g zs:=fun g zs hg hi=>(x.block g hi.lt (hx g hg)).trans hi
 refine⟨h.k1,h.c1,h.h12,fun e=>?_,fun e=>?_,fun e=>?_⟩
 ·obtain⟨a,b,c,d,g,e1,e2,e3⟩:=h.h3 e;exact⟨a,b,c,d,g,e1,e2,q _ _ e2 e3⟩
 ·obtain⟨a,b,c,d,g,e1,e2,e3⟩:=h.h4 e;exact⟨a,b,c,d,g,e1,e2,q _ _ e2 e3⟩
 ·obtain⟨a,b,c,d,g,e1,e2,e3⟩:=h.h5 e;exact⟨a,b,c,d,g,e1,e2,q _ _ e2 e3⟩
theorem LnO.below(h:LnO w B k cap AW AS nW cW nS cS ws tb)(hb:Below w.heap.size w w'):LnO w' B k cap AW AS nW cW nS cS ws tb:=h.kx (KX.of hb) (fun _ _ h=>h)
end
structure AnE(w wr:World)(p r:Nat)(cs:Array Value):Prop where
 s:SrcAt wr p
 k:Kept w.heap.size p w wr
 b:Blk wr r 44 cs
 hp:p<w.heap.size
 hr:w.heap.size≤r
section
variable{w wr wx:World}{p r:Nat}{cs:Array Value}
theorem AnE.next(h:AnE w wr p r cs)(hs:SrcAt wx p)(hk:Kept wr.heap.size p wr wx):AnE w wx p r cs:=⟨hs,kthen h.k hk,h.b.kept (by have:=h.hp;have:=h.hr;omega) hk,h.hp,h.hr⟩
theorem AnE.alloc(h:AnE w wr p r cs)(o:Obj):AnE w (wr.alloc o) p r cs:=h.next (h.s.alloc o) (Kept.of (balloc wr o))
end
theorem Blk.sto5L{w:World}{g:Nat}{t:TypeId}{x0 x1 x2 x3 x4:Value}(h:Blk w g t #[x0,x1,x2,x3,x4])(a b c d e:Value) :
 Blk (((((w.setCell ⟨g,0,none⟩ a).setCell ⟨g,1,none⟩ b).setCell ⟨g,2,none⟩ c).setCell ⟨g,3,none⟩ d).setCell ⟨g,4,none⟩ e) g t #[a,b,c,d,e]:=by
 have:=((((h.set_ 0 a).set_ 1 b).set_ 2 c).set_ 3 d).set_ 4 e
 simpa using this
theorem Sto.fiveL(g:Nat)(w:World)(a b c d e:Value):Sto g w (((((w.setCell ⟨g,0,none⟩ a).setCell ⟨g,1,none⟩ b).setCell ⟨g,2,none⟩ c).setCell ⟨g,3,none⟩ d).setCell ⟨g,4,none⟩ e):=(((((Sto.refl g w).set 0 a).set 1 b).set 2 c).set 3 d).set 4 e
theorem AnE.put{w wr wx:World}{p r:Nat}{cs ds:Array Value}(h:AnE w wr p r cs)(s:Sto r wr wx)(hb:Blk wx r 44 ds):AnE w wx p r ds:=
 ⟨h.s.kx (KX.sto s) (fun j hj e=>by have:=h.hp;have:=h.hr;omega),h.k.kx (KX.sto s) (Nat.le_refl _) (fun j hj e=>by have:=h.hr;omega),hb,h.hp,h.hr⟩
theorem AnE.kxn{w wr wx:World}{p r q:Nat}{cs:Array Value}(h:AnE w wr p r cs)(k:KX (fun k=>k=q) wr wx)(hq:r<q):AnE w wx p r cs:=
 ⟨h.s.kx k (fun j hj e=>by have:=h.hp;have:=h.hr;omega),h.k.kx k (Nat.le_refl _) (fun j hj e=>by have:=h.hr;omega),(k.block r h.b.lt (by omega)).trans h.b,h.hp,h.hr⟩
def RetAL(p:Nat)(w:World)(e:Ending)(w':World):Prop:=
 ∃k cap AW AS nW cW nS cS ws tb,LnO w' w.heap.size k cap AW AS nW cW nS cS ws tb∧e = .returned (.agg #[.int .i64 k,.int .i64 cap,.int .i64 2,.slice AW nW cW,.slice AS nS cS])∧SrcAt w' p∧Kept w.heap.size p w w'
set_option maxHeartbeats 4000000 in
set_option maxRecDepth 100000 in
theorem anyLine_any(p:Nat)(w:World)(hS:SrcAt w p) :
 Calls Tryz.prog 15 #[.pointer (some ⟨p,0,none⟩)] w (RetAL p w):=by
 have E:=hi_ (show AnE w (w.alloc (.cells #[.int .i64 0,.int .i64 0,.int .i64 0,.slice none 0 0,.slice none 0 0] 44)) p w.heap.size #[.int .i64 0,.int .i64 0,.int .i64 0,.slice none 0 0,.slice none 0 0] from⟨hS.alloc _,Kept.of (balloc w _),Blk.new w _ _,hS.lt,Nat.le_refl _⟩);clear hS;go_enter Tryz.func15,Tryz.ntmps15
 go_upto_region 1 with fail
 generalize hwe:w.alloc (.cells #[.int .i64 0,.int .i64 0,.int .i64 0,.slice none 0 0,.slice none 0 0] 44)=w1 at *;clear hwe;go_wp2_with fail
 refine(n_any p 5 w1 E.out.s (by omega) (by omega)).mono ?_;rintro e w2 ⟨k0,hk0,hk1,rfl,hS1,hk⟩;replace E:=hi_ (E.out.next hS1 hk);clear hS1 hk;go_wp2_with fail
 refine(pickl_any p 4 [10,20,30,50] w2 E.out.s (by omega) (by omega) rfl).mono ?_;rintro e w3 ⟨cap,hc,rfl,hS1,hk⟩;replace E:=hi_ (E.out.next hS1 hk);have hc1:10≤cap∧cap≤50:=by
  simp only [List.mem_cons,List.not_mem_nil,or_false] at hc;omega
 clear hS1 hk hc;have hpl:=E.out.hp;have hw3:w.heap.size<w3.heap.size:=E.out.b.lt;have HL:=hi_ (hw3);rcases (show k0=0∨k0=1∨k0=2∨k0=3∨k0=4 by omega) with rfl|rfl|rfl|rfl|rfl
 ·go_upto_region 2 with fail
  have B3:=hi_ (Blk.new w3 44 #[.int .i64 1,.int .i64 cap,.int .i64 2,.slice none 0 0,.slice none 0 0]);replace E:=hi_ (E.out.alloc (.cells #[.int .i64 1,.int .i64 cap,.int .i64 2,.slice none 0 0,.slice none 0 0] 44));generalize hwe:w3.alloc (.cells #[.int .i64 _,.int .i64 cap,.int .i64 2,.slice none 0 0,.slice none 0 0] 44)=w4 at *;clear hwe;generalize w3.heap.size=r at *;obtain⟨f0,hlf⟩:_∧_:=⟨B3.out.cell 0,B3.out.lt⟩
  simp at f0;go_upto_region 9 with fail
  clear f0 hlf;obtain⟨f0,f1,f2,f3,f4⟩:_∧_∧_∧_∧_:=⟨B3.out.cell 0,B3.out.cell 1,B3.out.cell 2,B3.out.cell 3,B3.out.cell 4⟩
  simp at f0 f1 f2 f3 f4;have hlf:=B3.out.lt;obtain⟨r0,r1,r2,r3,r4⟩:_∧_∧_∧_∧_:=⟨E.out.b.cell 0,E.out.b.cell 1,E.out.b.cell 2,E.out.b.cell 3,E.out.b.cell 4⟩
  simp at r0 r1 r2 r3 r4;have z0:=E.out.b.frozen 0;have z1:=E.out.b.frozen 1;have z2:=E.out.b.frozen 2;have z3:=E.out.b.frozen 3;have z4:=E.out.b.frozen 4;have hlr:=E.out.b.lt;go_wp2_with fail
  have rb:=E.out.b.sto5L (.int .i64 1) (.int .i64 cap) (.int .i64 2) (.slice none 0 0) (.slice none 0 0);have ee:=E.out.put (Sto.fiveL _ _ (.int .i64 1) (.int .i64 cap) (.int .i64 2) (.slice none 0 0) (.slice none 0 0)) rb;have hs:=ee.s;have hk9:=ee.k;exact bodyPost_ret (v:=.agg #[.int .i64 1,.int .i64 cap,.int .i64 2,.slice none 0 0,.slice none 0 0]) (by simp [results,Tryz.results15,go_sem,rb.cell]) rfl ⟨1,cap,none,none,0,0,0,0,[],[],⟨by omega,hc1,fun _=>⟨rfl,rfl⟩,fun e=>by omega,fun e=>by omega,fun e=>by omega⟩,rfl,hs,hk9⟩
 ·go_upto_region 2 with fail
  have B3:=hi_ (Blk.new w3 44 #[.int .i64 2,.int .i64 cap,.int .i64 2,.slice none 0 0,.slice none 0 0]);replace E:=hi_ (E.out.alloc (.cells #[.int .i64 2,.int .i64 cap,.int .i64 2,.slice none 0 0,.slice none 0 0] 44));generalize hwe:w3.alloc (.cells #[.int .i64 _,.int .i64 cap,.int .i64 2,.slice none 0 0,.slice none 0 0] 44)=w4 at *;clear hwe;generalize w3.heap.size=r at *;obtain⟨f0,hlf⟩:_∧_:=⟨B3.out.cell 0,B3.out.lt⟩
  simp at f0;go_upto_region 9 with fail
  clear f0 hlf;obtain⟨f0,f1,f2,f3,f4⟩:_∧_∧_∧_∧_:=⟨B3.out.cell 0,B3.out.cell 1,B3.out.cell 2,B3.out.cell 3,B3.out.cell 4⟩
  simp at f0 f1 f2 f3 f4;have hlf:=B3.out.lt;obtain⟨r0,r1,r2,r3,r4⟩:_∧_∧_∧_∧_:=⟨E.out.b.cell 0,E.out.b.cell 1,E.out.b.cell 2,E.out.b.cell 3,E.out.b.cell 4⟩
  simp at r0 r1 r2 r3 r4;have z0:=E.out.b.frozen 0;have z1:=E.out.b.frozen 1;have z2:=E.out.b.frozen 2;have z3:=E.out.b.frozen 3;have z4:=E.out.b.frozen 4;have hlr:=E.out.b.lt;go_wp2_with fail
  have rb:=E.out.b.sto5L (.int .i64 2) (.int .i64 cap) (.int .i64 2) (.slice none 0 0) (.slice none 0 0);have ee:=E.out.put (Sto.fiveL _ _ (.int .i64 2) (.int .i64 cap) (.int .i64 2) (.slice none 0 0) (.slice none 0 0)) rb;have hs:=ee.s;have hk9:=ee.k;exact bodyPost_ret (v:=.agg #[.int .i64 2,.int .i64 cap,.int .i64 2,.slice none 0 0,.slice none 0 0]) (by simp [results,Tryz.results15,go_sem,rb.cell]) rfl ⟨2,cap,none,none,0,0,0,0,[],[],⟨by omega,hc1,fun _=>⟨rfl,rfl⟩,fun e=>by omega,fun e=>by omega,fun e=>by omega⟩,rfl,hs,hk9⟩
 ·go_upto_region 2 with fail
  have B3:=hi_ (Blk.new w3 44 #[.int .i64 3,.int .i64 cap,.int .i64 2,.slice none 0 0,.slice none 0 0]);replace E:=hi_ (E.out.alloc (.cells #[.int .i64 3,.int .i64 cap,.int .i64 2,.slice none 0 0,.slice none 0 0] 44));generalize hwe:w3.alloc (.cells #[.int .i64 _,.int .i64 cap,.int .i64 2,.slice none 0 0,.slice none 0 0] 44)=w4 at *;clear hwe;generalize w3.heap.size=r at *;obtain⟨f0,hlf⟩:_∧_:=⟨B3.out.cell 0,B3.out.lt⟩
  simp at f0;go_upto_region 4 with fail
  clear f0 hlf;go_wp2_with fail
  refine(n_any p 3 w4 E.out.s (by omega) (by omega)).mono ?_;rintro e w5 ⟨a,ha0,ha1,rfl,hS1,hk⟩;replace B3:=hi_ (B3.out.kept (by have:=HL.out;omega) hk);replace E:=hi_ (E.out.next hS1 hk);clear hS1 hk;go_wp2_with fail
  refine(n_any p 2 w5 E.out.s (by omega) (by omega)).mono ?_;rintro e w6 ⟨b,hb0,hb1,rfl,hS1,hk⟩;replace B3:=hi_ (B3.out.kept (by have:=HL.out;omega) hk);replace E:=hi_ (E.out.next hS1 hk);clear hS1 hk;have f3:=B3.out.cell 3;have z3:=B3.out.frozen 3;have hl3:=B3.out.lt;simp at f3;have B5:=(B3.out.set_ 3 (.slice (some ⟨w6.heap.size,0,none⟩) 2 2)).alloc (.cells #[.int .i64 (1+a),.int .i64 (1+b)] 3);have IL0:=Blk.new (w6.setCell ⟨r,3,none⟩ (.slice (some ⟨w6.heap.size,0,none⟩) 2 2)) 3 #[.int .i64 (1+a),.int .i64 (1+b)];rw [((Sto.refl r w6).set 3 (.slice (some ⟨w6.heap.size,0,none⟩) 2 2)).size] at IL0;have IL:=hi_ IL0;have hne4:=HL.out;have E4:=hi_ ((E.out.kxn (KX.sto ((Sto.refl r w6).set 3 (.slice (some ⟨w6.heap.size,0,none⟩) 2 2))) (by omega)).alloc (.cells #[.int .i64 (1+a),.int .i64 (1+b)] 3));have HR:=hi_ (show w.heap.size<w6.heap.size by omega);clear E B3 IL0;go_upto_region 9 with fail
  generalize hwe:(w6.setCell ⟨r,3,none⟩ (.slice (some ⟨w6.heap.size,0,none⟩) 2 2)).alloc (.cells #[.int .i64 (1+a),.int .i64 (1+b)] 3)=w7 at *;clear hwe;have E:=E4;have B3:=hi_ (show Blk w7 r 44 _ from B5);simp at B3;clear E4 B5 f3 z3 hl3;generalize w6.heap.size=gl at *;obtain⟨f0,f1,f2,f3,f4⟩:_∧_∧_∧_∧_:=⟨B3.out.cell 0,B3.out.cell 1,B3.out.cell 2,B3.out.cell 3,B3.out.cell 4⟩
  simp at f0 f1 f2 f3 f4;have hlf:=B3.out.lt;obtain⟨r0,r1,r2,r3,r4⟩:_∧_∧_∧_∧_:=⟨E.out.b.cell 0,E.out.b.cell 1,E.out.b.cell 2,E.out.b.cell 3,E.out.b.cell 4⟩
  simp at r0 r1 r2 r3 r4;have z0:=E.out.b.frozen 0;have z1:=E.out.b.frozen 1;have z2:=E.out.b.frozen 2;have z3:=E.out.b.frozen 3;have z4:=E.out.b.frozen 4;have hlr:=E.out.b.lt;go_wp2_with fail
  have rb:=E.out.b.sto5L (.int .i64 3) (.int .i64 cap) (.int .i64 2) (.slice (some ⟨gl,0,none⟩) 2 2) (.slice none 0 0);have ee:=E.out.put (Sto.fiveL _ _ (.int .i64 3) (.int .i64 cap) (.int .i64 2) (.slice (some ⟨gl,0,none⟩) 2 2) (.slice none 0 0)) rb;have hs:=ee.s;have hk9:=ee.k;have ib:IBlk _ gl [1+a,1+b]:=IL.out.sto (Sto.fiveL w.heap.size w7 (.int .i64 3) (.int .i64 cap) (.int .i64 2) (.slice (some ⟨gl,0,none⟩) 2 2) (.slice none 0 0)) (by have:=HR.out;omega);have hgl:=HR.out;exact bodyPost_ret (v:=.agg #[.int .i64 3,.int .i64 cap,.int .i64 2,.slice (some ⟨gl,0,none⟩) 2 2,.slice none 0 0]) (by simp [results,Tryz.results15,go_sem,rb.cell]) rfl ⟨3,cap,some ⟨gl,0,none⟩,none,2,2,0,0,[1+a,1+b],[],⟨by omega,hc1,fun e=>by omega,fun _=>⟨rfl,rfl,rfl,⟨_,_,rfl,by omega,by omega,by omega,by omega⟩,gl,rfl,by omega,ib⟩,fun e=>by omega,fun e=>by omega⟩,rfl,hs,hk9⟩
 ·go_upto_region 2 with fail
  have B3:=hi_ (Blk.new w3 44 #[.int .i64 4,.int .i64 cap,.int .i64 2,.slice none 0 0,.slice none 0 0]);replace E:=hi_ (E.out.alloc (.cells #[.int .i64 4,.int .i64 cap,.int .i64 2,.slice none 0 0,.slice none 0 0] 44));generalize hwe:w3.alloc (.cells #[.int .i64 _,.int .i64 cap,.int .i64 2,.slice none 0 0,.slice none 0 0] 44)=w4 at *;clear hwe;generalize w3.heap.size=r at *;obtain⟨f0,hlf⟩:_∧_:=⟨B3.out.cell 0,B3.out.lt⟩
  simp at f0;go_upto_region 6 with fail
  clear f0 hlf;go_wp2_with fail
  refine(n_any p 3 w4 E.out.s (by omega) (by omega)).mono ?_;rintro e w5 ⟨a,ha0,ha1,rfl,hS1,hk⟩;replace B3:=hi_ (B3.out.kept (by have:=HL.out;omega) hk);replace E:=hi_ (E.out.next hS1 hk);clear hS1 hk;go_wp2_with fail
  refine(n_any p 3 w5 E.out.s (by omega) (by omega)).mono ?_;rintro e w6 ⟨b,hb0,hb1,rfl,hS1,hk⟩;replace B3:=hi_ (B3.out.kept (by have:=HL.out;omega) hk);replace E:=hi_ (E.out.next hS1 hk);clear hS1 hk;have f3:=B3.out.cell 3;have z3:=B3.out.frozen 3;have hl3:=B3.out.lt;simp at f3;have B5:=(B3.out.set_ 3 (.slice (some ⟨w6.heap.size,0,none⟩) 2 2)).alloc (.cells #[.int .i64 (20+10*a),.int .i64 (20+10*b)] 3);have IL0:=Blk.new (w6.setCell ⟨r,3,none⟩ (.slice (some ⟨w6.heap.size,0,none⟩) 2 2)) 3 #[.int .i64 (20+10*a),.int .i64 (20+10*b)];rw [((Sto.refl r w6).set 3 (.slice (some ⟨w6.heap.size,0,none⟩) 2 2)).size] at IL0;have IL:=hi_ IL0;have hne4:=HL.out;have E4:=hi_ ((E.out.kxn (KX.sto ((Sto.refl r w6).set 3 (.slice (some ⟨w6.heap.size,0,none⟩) 2 2))) (by omega)).alloc (.cells #[.int .i64 (20+10*a),.int .i64 (20+10*b)] 3));have HR:=hi_ (show w.heap.size<w6.heap.size by omega);clear E B3 IL0;go_upto_region 9 with fail
  generalize hwe:(w6.setCell ⟨r,3,none⟩ (.slice (some ⟨w6.heap.size,0,none⟩) 2 2)).alloc (.cells #[.int .i64 (20+10*a),.int .i64 (20+10*b)] 3)=w7 at *;clear hwe;have E:=E4;have B3:=hi_ (show Blk w7 r 44 _ from B5);simp at B3;clear E4 B5 f3 z3 hl3;generalize w6.heap.size=gl at *;obtain⟨f0,f1,f2,f3,f4⟩:_∧_∧_∧_∧_:=⟨B3.out.cell 0,B3.out.cell 1,B3.out.cell 2,B3.out.cell 3,B3.out.cell 4⟩
  simp at f0 f1 f2 f3 f4;have hlf:=B3.out.lt;obtain⟨r0,r1,r2,r3,r4⟩:_∧_∧_∧_∧_:=⟨E.out.b.cell 0,E.out.b.cell 1,E.out.b.cell 2,E.out.b.cell 3,E.out.b.cell 4⟩
  simp at r0 r1 r2 r3 r4;have z0:=E.out.b.frozen 0;have z1:=E.out.b.frozen 1;have z2:=E.out.b.frozen 2;have z3:=E.out.b.frozen 3;have z4:=E.out.b.frozen 4;have hlr:=E.out.b.lt;go_wp2_with fail
  have rb:=E.out.b.sto5L (.int .i64 4) (.int .i64 cap) (.int .i64 2) (.slice (some ⟨gl,0,none⟩) 2 2) (.slice none 0 0);have ee:=E.out.put (Sto.fiveL _ _ (.int .i64 4) (.int .i64 cap) (.int .i64 2) (.slice (some ⟨gl,0,none⟩) 2 2) (.slice none 0 0)) rb;have hs:=ee.s;have hk9:=ee.k;have ib:IBlk _ gl [20+10*a,20+10*b]:=IL.out.sto (Sto.fiveL w.heap.size w7 (.int .i64 4) (.int .i64 cap) (.int .i64 2) (.slice (some ⟨gl,0,none⟩) 2 2) (.slice none 0 0)) (by have:=HR.out;omega);have hgl:=HR.out;exact bodyPost_ret (v:=.agg #[.int .i64 4,.int .i64 cap,.int .i64 2,.slice (some ⟨gl,0,none⟩) 2 2,.slice none 0 0]) (by simp [results,Tryz.results15,go_sem,rb.cell]) rfl ⟨4,cap,some ⟨gl,0,none⟩,none,2,2,0,0,[20+10*a,20+10*b],[],⟨by omega,hc1,fun e=>by omega,fun e=>by omega,fun _=>⟨rfl,rfl,rfl,⟨_,_,rfl,by omega,by omega,by omega,by omega⟩,gl,rfl,by omega,ib⟩,fun e=>by omega⟩,rfl,hs,hk9⟩
 ·go_upto_region 2 with fail
  have B3:=hi_ (Blk.new w3 44 #[.int .i64 5,.int .i64 cap,.int .i64 2,.slice none 0 0,.slice none 0 0]);replace E:=hi_ (E.out.alloc (.cells #[.int .i64 5,.int .i64 cap,.int .i64 2,.slice none 0 0,.slice none 0 0] 44));generalize hwe:w3.alloc (.cells #[.int .i64 _,.int .i64 cap,.int .i64 2,.slice none 0 0,.slice none 0 0] 44)=w4 at *;clear hwe;generalize w3.heap.size=r at *;obtain⟨f0,hlf⟩:_∧_:=⟨B3.out.cell 0,B3.out.lt⟩
  simp at f0;go_upto_region 8 with fail
  clear f0 hlf;go_wp2_with fail
  refine(n_any p 2 w4 E.out.s (by omega) (by omega)).mono ?_;rintro e w6 ⟨a,ha0,ha1,rfl,hS1,hk⟩;replace B3:=hi_ (B3.out.kept (by have:=HL.out;omega) hk);replace E:=hi_ (E.out.next hS1 hk);clear hS1 hk;have f3:=B3.out.cell 4;have z3:=B3.out.frozen 4;have hl3:=B3.out.lt;simp at f3;have B5:=(B3.out.set_ 4 (.slice (some ⟨w6.heap.size,0,none⟩) 4 4)).alloc (.cells #[.int .i64 0,.int .i64 0,.int .i64 1,.int .i64 a] 3);have IL0:=Blk.new (w6.setCell ⟨r,4,none⟩ (.slice (some ⟨w6.heap.size,0,none⟩) 4 4)) 3 #[.int .i64 0,.int .i64 0,.int .i64 1,.int .i64 a];rw [((Sto.refl r w6).set 4 (.slice (some ⟨w6.heap.size,0,none⟩) 4 4)).size] at IL0;have IL:=hi_ IL0;have hne4:=HL.out;have E4:=hi_ ((E.out.kxn (KX.sto ((Sto.refl r w6).set 4 (.slice (some ⟨w6.heap.size,0,none⟩) 4 4))) (by omega)).alloc (.cells #[.int .i64 0,.int .i64 0,.int .i64 1,.int .i64 a] 3));have HR:=hi_ (show w.heap.size<w6.heap.size by omega);clear E B3 IL0;go_upto_region 9 with fail
  generalize hwe:(w6.setCell ⟨r,4,none⟩ (.slice (some ⟨w6.heap.size,0,none⟩) 4 4)).alloc (.cells #[.int .i64 0,.int .i64 0,.int .i64 1,.int .i64 a] 3)=w7 at *;clear hwe;have E:=E4;have B3:=hi_ (show Blk w7 r 44 _ from B5);simp at B3;clear E4 B5 f3 z3 hl3;generalize w6.heap.size=gl at *;obtain⟨f0,f1,f2,f3,f4⟩:_∧_∧_∧_∧_:=⟨B3.out.cell 0,B3.out.cell 1,B3.out.cell 2,B3.out.cell 3,B3.out.cell 4⟩
  simp at f0 f1 f2 f3 f4;have hlf:=B3.out.lt;obtain⟨r0,r1,r2,r3,r4⟩:_∧_∧_∧_∧_:=⟨E.out.b.cell 0,E.out.b.cell 1,E.out.b.cell 2,E.out.b.cell 3,E.out.b.cell 4⟩
  simp at r0 r1 r2 r3 r4;have z0:=E.out.b.frozen 0;have z1:=E.out.b.frozen 1;have z2:=E.out.b.frozen 2;have z3:=E.out.b.frozen 3;have z4:=E.out.b.frozen 4;have hlr:=E.out.b.lt;go_wp2_with fail
  have rb:=E.out.b.sto5L (.int .i64 5) (.int .i64 cap) (.int .i64 2) (.slice none 0 0) (.slice (some ⟨gl,0,none⟩) 4 4);have ee:=E.out.put (Sto.fiveL _ _ (.int .i64 5) (.int .i64 cap) (.int .i64 2) (.slice none 0 0) (.slice (some ⟨gl,0,none⟩) 4 4)) rb;have hs:=ee.s;have hk9:=ee.k;have ib:IBlk _ gl [0,0,1,a]:=IL.out.sto (Sto.fiveL w.heap.size w7 (.int .i64 5) (.int .i64 cap) (.int .i64 2) (.slice none 0 0) (.slice (some ⟨gl,0,none⟩) 4 4)) (by have:=HR.out;omega);have hgl:=HR.out;exact bodyPost_ret (v:=.agg #[.int .i64 5,.int .i64 cap,.int .i64 2,.slice none 0 0,.slice (some ⟨gl,0,none⟩) 4 4]) (by simp [results,Tryz.results15,go_sem,rb.cell]) rfl ⟨5,cap,none,some ⟨gl,0,none⟩,0,0,4,4,[],[0,0,1,a],⟨by omega,hc1,fun e=>by omega,fun e=>by omega,fun e=>by omega,fun _=>⟨rfl,rfl,rfl,⟨_,rfl,by omega,by omega⟩,gl,rfl,by omega,ib⟩⟩,rfl,hs,hk9⟩
end
end Go.Proofs.YtaejfleahamapaaGreat
