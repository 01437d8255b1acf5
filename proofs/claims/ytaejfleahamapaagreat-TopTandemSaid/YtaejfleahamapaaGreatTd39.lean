/- . -/
import Derived.Test.YtaejfleahamapaaGreatTd30
namespace Go.Proofs.YtaejfleahamapaaGreat
set_option linter.unusedVariables false
set_option linter.unusedSimpArgs false
set_option maxHeartbeats 4000000
set_option maxRecDepth 100000
open Go.RowKit
section
variable(b1 b2:Nat)(lo hi:Int)
structure rX(w:World)(b1 b2:Nat)(lo hi:Int):Prop where
 l:aC w b1 3 #[.int .i64 lo]
 h:aC w b2 3 #[.int .i64 hi]
theorem a5l(v:Int)(w:World)(hB:rX w b1 b2 lo hi)(h1:lo<=v)(h2:v<=hi) :
 Calls Tryz.prog 196 #[.int .i64 v,.pointer (some ⟨b1,0,none⟩),.pointer (some ⟨b2,0,none⟩)] w fun e w'=>e = .returned (.bool false)/\w'=w:=by
 have l0:=hB.l.cell 0;have l1:=hB.h.cell 0;simp at l0 l1;have hl:=hB.l.lt;have hh:=hB.h.lt;have d1:decide (v<lo)=false:=decide_eq_false (by omega);have d2:decide (hi<v)=false:=decide_eq_false (by omega);clear hB;go_enter Tryz.func196,Tryz.ntmps196
 go_wp2_with fail
 go_ret
 exact⟨rfl,rfl⟩
theorem V9(A:Option Addr)(n c:Nat)(zs:List Int)(w:World)(hB:rX w b1 b2 lo hi)(hI:aE w w.heap.size A n zs)(hn:n<=100)(hz:∀k,k<n->lo<=aB zs k/\aB zs k<=hi) :
 Calls Tryz.prog 205 #[.slice A n c,.func (.func 196) #[] #[.pointer (some ⟨b1,0,none⟩),.pointer (some ⟨b2,0,none⟩)]] w fun e w'=>e = .returned (.int .i64 (-1))/\w'=w:=by
 have HB:=aA hB;have HI:=aA hI;have HZ:=aA hz;clear hB hI hz;go_enter Tryz.func205,Tryz.ntmps205
 go_wp2_with fail
 go_loopg [8,5] n (fun gg s8 _ wr=>∃k:Nat,k+gg=n/\s8 = .int .i64 k/\wr=w)
 case atStart=>exact⟨0,by omega,rfl,rfl⟩
 case round=>
  obtain⟨k,hkg,rfl,rfl⟩:=hrel;by_cases hk:k<n
  case pos=>
   have hki:(k:Int)<n:=by omega
   obtain⟨b,o,hA,hb,hc⟩:=HI.out.2 (by omega);subst hA;have hcc:=hc k hk;have hv:=HZ.out k hk;generalize aB zs k=v at *;clear hc;go_wp2_with fail
   refine(a5l b1 b2 lo hi v wr HB.out hv.1 hv.2).mono ?_;rintro e w2 ⟨rfl,rfl⟩;go_wp2_with fail
   go_roundg (gk-1)
   case measure=>omega
   case rel=>exact⟨k+1,by omega,by go_num,rfl⟩
  case neg=>
   have hki:¬(k:Int)<n:=by omega
   go_wp2_with fail
   go_ret
   exact⟨rfl,rfl⟩
end
theorem nP(lo hi:Int)(A:Option Addr)(n c:Nat)(zs:List Int)(w:World)(hI:aE w w.heap.size A n zs)(hn:n<=100)(hz:∀k,k<n->lo<=aB zs k/\aB zs k<=hi) :
 Calls Tryz.prog 192 #[.slice A n c,.int .i64 lo,.int .i64 hi] w fun e w'=>e = .returned (.bool true)/\Below w.heap.size w w':=by
 have B1:=(aC.new w 3 #[.int .i64 lo]).alloc (.cells #[.int .i64 hi] 3);have B2:=aC.new (w.alloc (.cells #[.int .i64 lo] 3)) 3 #[.int .i64 hi];rw [World.size_alloc] at B2;have HB:=aA (rX.mk B1 B2);have BW:=aA (aD (aF w (.cells #[.int .i64 lo] 3)) (aF _ (.cells #[.int .i64 hi] 3)));have HI:=aA (hI.ext BW.out);clear B1 B2 hI;go_enter Tryz.func192,Tryz.ntmps192
 go_upto_region 1 with fail
 generalize hwe:(w.alloc (.cells #[.int .i64 lo] 3)).alloc (.cells #[.int .i64 hi] 3)=w1 at *;clear hwe;go_wp2_with fail
 refine Calls.mono (R:=fun e w'=>e = .returned (.bool false)/\w'=w1) ?_ ?_
 ·go_enter Tryz.func195,Tryz.ntmps195
  go_wp2_with fail
  refine(V9 w.heap.size (w.heap.size+1) lo hi A n c zs w1 HB.out HI.out hn hz).mono ?_;rintro e w2 ⟨rfl,rfl⟩;go_wp2_with fail
  go_ret
  exact⟨rfl,rfl⟩
 ·rintro e w2 ⟨rfl,rfl⟩;go_wp2_with fail
  go_ret
  exact⟨rfl,BW.out⟩
theorem mL.below{w w':World}{G m:Nat}(h:mL w G m)(hb:Below w.heap.size w w'):mL w' G m:=
 ⟨Nat.lt_of_lt_of_le h.1 hb.size,fun j hj=>by
  obtain⟨A,c,e⟩:=h.2 j hj;exact⟨A,c,(hb.cell (p:=⟨G,j,none⟩) h.1).trans e⟩⟩
theorem a2l(k cap:Int)(n cW cS:Nat)(AW AS:Option Addr)(zs:List Int)(w:World)(hI:aE w w.heap.size AW n zs)(hn6:n<=6)(hz:∀k,k<n->1<=aB zs k/\aB zs k<=20) :
 Calls Tryz.prog 189 #[.agg #[],.agg #[.int .i64 k,.int .i64 cap,.int .i64 n,.slice AW n cW,.slice AS 0 cS]] w fun e w'=>e = .returned (.int .i64 0)/\Below w.heap.size w w':=by
 have B0:=aF w (.cells #[] 164);have B1:=aA (aC.new (w.alloc (.cells #[] 164)) 44 #[.int .i64 k,.int .i64 cap,.int .i64 n,.slice AW n cW,.slice AS 0 cS]);have BW:=aA (aD B0 (aF _ (.cells #[.int .i64 k,.int .i64 cap,.int .i64 n,.slice AW n cW,.slice AS 0 cS] 44)));have HI:=aA (hI.ext BW.out);clear B0 hI;go_enter Tryz.func189,Tryz.ntmps189
 go_upto_region 1 with fail
 generalize hwe:(w.alloc (.cells #[] 164)).alloc (.cells #[.int .i64 k,.int .i64 cap,.int .i64 n,.slice AW n cW,.slice AS 0 cS] 44)=w1 at *;clear hwe;have B2:=aA (show aC w1.drew (w.heap.size+1) 44 #[.int .i64 k,.int .i64 cap,.int .i64 n,.slice AW n cW,.slice AS 0 cS] by have:=B1.out;rw [World.size_alloc] at this;exact this);replace BW:=aA (Below.drew BW.out);replace HI:=aA (show aE w1.drew w1.drew.heap.size _ _ zs from HI.out);clear B1;obtain⟨f2,f3,f4,hl⟩:w1.drew.cell? ⟨w.heap.size+1,2,none⟩=some (.int .i64 n)/\w1.drew.cell? ⟨w.heap.size+1,3,none⟩=some (.slice AW n cW)/\w1.drew.cell? ⟨w.heap.size+1,4,none⟩=some (.slice AS 0 cS)/\_:=⟨B2.out.cell 2,B2.out.cell 3,B2.out.cell 4,B2.out.lt⟩
 have d0:((n:Int) == (n:Int))=true:=by simp
 refine wp_region_held_drew (S:=(fun w'=>w'.cell? ⟨w.heap.size+1,2,none⟩=some (.int .i64 n)/\w'.cell? ⟨w.heap.size+1,3,none⟩=some (.slice AW n cW)/\w'.cell? ⟨w.heap.size+1,4,none⟩=some (.slice AS 0 cS))) (by kernel_rfl) (by exact⟨f2,f3,f4⟩) (fun hH=>?_);generalize hwd:w1.drew=wd at *;clear hwd;refine aO [0,1,2,3,4,5,6,7,8,11,12] ?_;(iterate 11 refine aK ?_);refine aP ?_;refine eS 9 13 (fun K hK=>?_) (fun K hK=>?_)
 ·rw [if_pos (by rfl)];go_simp
  refine(nP 1 20 AW n cW zs wd HI.out (by omega) hz).mono ?_;rintro e we ⟨rfl,hb⟩;replace B2:=aA (B2.out.below hb B2.out.lt);replace BW:=aA (aD BW.out hb);replace HI:=aA (HI.out.ext hb);clear f2 f3 f4 hl hb;have f2:=B2.out.cell 2;have f3:=B2.out.cell 3;have f4:=B2.out.cell 4;simp at f2 f3 f4;have hl:=B2.out.lt;clear hH;refine aH hK (by exact⟨f2,f3,f4⟩) (fun hH=>?_);refine bD 10 ?_;refine aJ 13 (fun K hK=>?_);go_simp
  have HE:=aA (mZ we 22 AS cS);have hb:=aF we (.cells #[.slice AS 0 cS] 22);replace B2:=aA (B2.out.below hb B2.out.lt);replace BW:=aA (aD BW.out hb);replace HI:=aA (HI.out.ext hb);clear f2 f3 f4 hl hb;have f2:=B2.out.cell 2;have f3:=B2.out.cell 3;have f4:=B2.out.cell 4;simp at f2 f3 f4;have hl:=B2.out.lt;clear hH;refine aH hK (by exact⟨f2,f3,f4⟩) (fun hH=>?_);refine aJ 14 (fun K hK=>?_);go_simp
  refine(lN _ 1 _ (by omega) HE.out).mono ?_;rintro e wf ⟨rfl,hb⟩;replace B2:=aA (B2.out.below hb B2.out.lt);replace BW:=aA (aD BW.out hb);replace HI:=aA (HI.out.ext hb);clear f2 f3 f4 hl hb;have f2:=B2.out.cell 2;have f3:=B2.out.cell 3;have f4:=B2.out.cell 4;simp at f2 f3 f4;have hl:=B2.out.lt;clear hH;refine aH hK (by exact⟨f2,f3,f4⟩) (fun hH=>?_);refine bD 15 ?_;refine aT ?_;have bw:=BW.out;go_wp2_with fail
  go_ret
  exact⟨rfl,bw⟩
 ·rw [if_pos (by rfl)];go_simp
  have HE:=aA (mZ wd 22 AS cS);have hb:=aF wd (.cells #[.slice AS 0 cS] 22);replace B2:=aA (B2.out.below hb B2.out.lt);replace BW:=aA (aD BW.out hb);replace HI:=aA (HI.out.ext hb);clear f2 f3 f4 hl hb;have f2:=B2.out.cell 2;have f3:=B2.out.cell 3;have f4:=B2.out.cell 4;simp at f2 f3 f4;have hl:=B2.out.lt;clear hH;refine aH hK (by exact⟨f2,f3,f4⟩) (fun hH=>?_);refine aJ 9 (fun K hK=>?_);go_simp
  refine(nP 1 20 AW n cW zs _ HI.out (by omega) hz).mono ?_;rintro e we ⟨rfl,hb⟩;replace HE:=aA (HE.out.below hb);replace B2:=aA (B2.out.below hb B2.out.lt);replace BW:=aA (aD BW.out hb);replace HI:=aA (HI.out.ext hb);clear f2 f3 f4 hl hb;have f2:=B2.out.cell 2;have f3:=B2.out.cell 3;have f4:=B2.out.cell 4;simp at f2 f3 f4;have hl:=B2.out.lt;clear hH;refine aH hK (by exact⟨f2,f3,f4⟩) (fun hH=>?_);refine bD 10 ?_;refine aJ 14 (fun K hK=>?_);go_simp
  refine(lN _ 1 _ (by omega) HE.out).mono ?_;rintro e wf ⟨rfl,hb⟩;replace B2:=aA (B2.out.below hb B2.out.lt);replace BW:=aA (aD BW.out hb);replace HI:=aA (HI.out.ext hb);clear f2 f3 f4 hl hb;have f2:=B2.out.cell 2;have f3:=B2.out.cell 3;have f4:=B2.out.cell 4;simp at f2 f3 f4;have hl:=B2.out.lt;clear hH;refine aH hK (by exact⟨f2,f3,f4⟩) (fun hH=>?_);refine bD 15 ?_;refine aT ?_;have bw:=BW.out;go_wp2_with fail
  go_ret
  exact⟨rfl,bw⟩
theorem P0(k cap:Int)(n cW cS:Nat)(AW AS:Option Addr)(zs:List Int)(w:World)(hI:aE w w.heap.size AW n zs)(hn6:n<=6)(hz:∀k,k<n->1<=aB zs k/\aB zs k<=6000) :
 Calls Tryz.prog 206 #[.agg #[],.agg #[.int .i64 k,.int .i64 cap,.int .i64 n,.slice AW n cW,.slice AS 0 cS]] w fun e w'=>e = .returned (.int .i64 0)/\Below w.heap.size w w':=by
 have B0:=aF w (.cells #[] 165);have B1:=aA (aC.new (w.alloc (.cells #[] 165)) 44 #[.int .i64 k,.int .i64 cap,.int .i64 n,.slice AW n cW,.slice AS 0 cS]);have BW:=aA (aD B0 (aF _ (.cells #[.int .i64 k,.int .i64 cap,.int .i64 n,.slice AW n cW,.slice AS 0 cS] 44)));have HI:=aA (hI.ext BW.out);clear B0 hI;go_enter Tryz.func206,Tryz.ntmps206
 go_upto_region 1 with fail
 generalize hwe:(w.alloc (.cells #[] 165)).alloc (.cells #[.int .i64 k,.int .i64 cap,.int .i64 n,.slice AW n cW,.slice AS 0 cS] 44)=w1 at *;clear hwe;have B2:=aA (show aC w1.drew (w.heap.size+1) 44 #[.int .i64 k,.int .i64 cap,.int .i64 n,.slice AW n cW,.slice AS 0 cS] by have:=B1.out;rw [World.size_alloc] at this;exact this);replace BW:=aA (Below.drew BW.out);replace HI:=aA (show aE w1.drew w1.drew.heap.size _ _ zs from HI.out);clear B1;obtain⟨f2,f3,f4,hl⟩:w1.drew.cell? ⟨w.heap.size+1,2,none⟩=some (.int .i64 n)/\w1.drew.cell? ⟨w.heap.size+1,3,none⟩=some (.slice AW n cW)/\w1.drew.cell? ⟨w.heap.size+1,4,none⟩=some (.slice AS 0 cS)/\_:=⟨B2.out.cell 2,B2.out.cell 3,B2.out.cell 4,B2.out.lt⟩
 have d0:((n:Int) == (n:Int))=true:=by simp
 refine wp_region_held_drew (S:=(fun w'=>w'.cell? ⟨w.heap.size+1,2,none⟩=some (.int .i64 n)/\w'.cell? ⟨w.heap.size+1,3,none⟩=some (.slice AW n cW)/\w'.cell? ⟨w.heap.size+1,4,none⟩=some (.slice AS 0 cS))) (by kernel_rfl) (by exact⟨f2,f3,f4⟩) (fun hH=>?_);generalize hwd:w1.drew=wd at *;clear hwd;refine aO [0,1,2,3,4,5,6,7,8,11,12] ?_;(iterate 11 refine aK ?_);refine aP ?_;refine eS 9 13 (fun K hK=>?_) (fun K hK=>?_)
 ·rw [if_pos (by rfl)];go_simp
  refine(nP 1 6000 AW n cW zs wd HI.out (by omega) hz).mono ?_;rintro e we ⟨rfl,hb⟩;replace B2:=aA (B2.out.below hb B2.out.lt);replace BW:=aA (aD BW.out hb);replace HI:=aA (HI.out.ext hb);clear f2 f3 f4 hl hb;have f2:=B2.out.cell 2;have f3:=B2.out.cell 3;have f4:=B2.out.cell 4;simp at f2 f3 f4;have hl:=B2.out.lt;clear hH;refine aH hK (by exact⟨f2,f3,f4⟩) (fun hH=>?_);refine bD 10 ?_;refine aJ 13 (fun K hK=>?_);go_simp
  have HE:=aA (mZ we 22 AS cS);have hb:=aF we (.cells #[.slice AS 0 cS] 22);replace B2:=aA (B2.out.below hb B2.out.lt);replace BW:=aA (aD BW.out hb);replace HI:=aA (HI.out.ext hb);clear f2 f3 f4 hl hb;have f2:=B2.out.cell 2;have f3:=B2.out.cell 3;have f4:=B2.out.cell 4;simp at f2 f3 f4;have hl:=B2.out.lt;clear hH;refine aH hK (by exact⟨f2,f3,f4⟩) (fun hH=>?_);refine aJ 14 (fun K hK=>?_);go_simp
  refine(lN _ 1 _ (by omega) HE.out).mono ?_;rintro e wf ⟨rfl,hb⟩;replace B2:=aA (B2.out.below hb B2.out.lt);replace BW:=aA (aD BW.out hb);replace HI:=aA (HI.out.ext hb);clear f2 f3 f4 hl hb;have f2:=B2.out.cell 2;have f3:=B2.out.cell 3;have f4:=B2.out.cell 4;simp at f2 f3 f4;have hl:=B2.out.lt;clear hH;refine aH hK (by exact⟨f2,f3,f4⟩) (fun hH=>?_);refine bD 15 ?_;refine aT ?_;have bw:=BW.out;go_wp2_with fail
  go_ret
  exact⟨rfl,bw⟩
 ·rw [if_pos (by rfl)];go_simp
  have HE:=aA (mZ wd 22 AS cS);have hb:=aF wd (.cells #[.slice AS 0 cS] 22);replace B2:=aA (B2.out.below hb B2.out.lt);replace BW:=aA (aD BW.out hb);replace HI:=aA (HI.out.ext hb);clear f2 f3 f4 hl hb;have f2:=B2.out.cell 2;have f3:=B2.out.cell 3;have f4:=B2.out.cell 4;simp at f2 f3 f4;have hl:=B2.out.lt;clear hH;refine aH hK (by exact⟨f2,f3,f4⟩) (fun hH=>?_);refine aJ 9 (fun K hK=>?_);go_simp
  refine(nP 1 6000 AW n cW zs _ HI.out (by omega) hz).mono ?_;rintro e we ⟨rfl,hb⟩;replace HE:=aA (HE.out.below hb);replace B2:=aA (B2.out.below hb B2.out.lt);replace BW:=aA (aD BW.out hb);replace HI:=aA (HI.out.ext hb);clear f2 f3 f4 hl hb;have f2:=B2.out.cell 2;have f3:=B2.out.cell 3;have f4:=B2.out.cell 4;simp at f2 f3 f4;have hl:=B2.out.lt;clear hH;refine aH hK (by exact⟨f2,f3,f4⟩) (fun hH=>?_);refine bD 10 ?_;refine aJ 14 (fun K hK=>?_);go_simp
  refine(lN _ 1 _ (by omega) HE.out).mono ?_;rintro e wf ⟨rfl,hb⟩;replace B2:=aA (B2.out.below hb B2.out.lt);replace BW:=aA (aD BW.out hb);replace HI:=aA (HI.out.ext hb);clear f2 f3 f4 hl hb;have f2:=B2.out.cell 2;have f3:=B2.out.cell 3;have f4:=B2.out.cell 4;simp at f2 f3 f4;have hl:=B2.out.lt;clear hH;refine aH hK (by exact⟨f2,f3,f4⟩) (fun hH=>?_);refine bD 15 ?_;refine aT ?_;have bw:=BW.out;go_wp2_with fail
  go_ret
  exact⟨rfl,bw⟩
theorem a45(k cap:Int)(n nS cW cS:Nat)(AW AS:Option Addr)(zs:List Int)(w:World)(hI:aE w w.heap.size AS nS zs)(hn1:1<=nS)(hn2:nS<=40)(hn6:n<=6)(hz:∀k,k<nS->-1<=aB zs k/\aB zs k<=(n:Int)-1) :
 Calls Tryz.prog 219 #[.agg #[],.agg #[.int .i64 k,.int .i64 cap,.int .i64 n,.slice AW 0 cW,.slice AS nS cS]] w fun e w'=>e = .returned (.int .i64 0)/\Below w.heap.size w w':=by
 have B0:=aF w (.cells #[] 166);have B1:=aA (aC.new (w.alloc (.cells #[] 166)) 44 #[.int .i64 k,.int .i64 cap,.int .i64 n,.slice AW 0 cW,.slice AS nS cS]);have BW:=aA (aD B0 (aF _ (.cells #[.int .i64 k,.int .i64 cap,.int .i64 n,.slice AW 0 cW,.slice AS nS cS] 44)));have HI:=aA (hI.ext BW.out);clear B0 hI;go_enter Tryz.func219,Tryz.ntmps219
 go_upto_region 1 with fail
 generalize hwe:(w.alloc (.cells #[] 166)).alloc (.cells #[.int .i64 k,.int .i64 cap,.int .i64 n,.slice AW 0 cW,.slice AS nS cS] 44)=w1 at *;clear hwe;have B2:=aA (show aC w1.drew (w.heap.size+1) 44 #[.int .i64 k,.int .i64 cap,.int .i64 n,.slice AW 0 cW,.slice AS nS cS] by have:=B1.out;rw [World.size_alloc] at this;exact this);replace BW:=aA (Below.drew BW.out);replace HI:=aA (show aE w1.drew w1.drew.heap.size _ _ zs from HI.out);clear B1;obtain⟨f2,f3,f4,hl⟩:w1.drew.cell? ⟨w.heap.size+1,2,none⟩=some (.int .i64 n)/\w1.drew.cell? ⟨w.heap.size+1,3,none⟩=some (.slice AW 0 cW)/\w1.drew.cell? ⟨w.heap.size+1,4,none⟩=some (.slice AS nS cS)/\_:=⟨B2.out.cell 2,B2.out.cell 3,B2.out.cell 4,B2.out.lt⟩
 have d0:decide ((1:Int)<=(nS:Int))=true:=decide_eq_true (by omega);have d1:decide ((nS:Int)<=40)=true:=decide_eq_true (by omega);have hs:IntKind.i64.wrap ((n:Int)-1)=(n:Int)-1:=IntWalk.i64_in _ (by omega);refine wp_region_held_drew (S:=(fun w'=>w'.cell? ⟨w.heap.size+1,2,none⟩=some (.int .i64 n)/\w'.cell? ⟨w.heap.size+1,3,none⟩=some (.slice AW 0 cW)/\w'.cell? ⟨w.heap.size+1,4,none⟩=some (.slice AS nS cS))) (by kernel_rfl) (by exact⟨f2,f3,f4⟩) (fun hH=>?_);generalize hwd:w1.drew=wd at *;clear hwd;refine aO [0,1,2,3,4,5,6,7,8,9,10,11,12,13,14,15,18,19] ?_;(iterate 18 refine aK ?_);refine aP ?_;refine eS 16 20 (fun K hK=>?_) (fun K hK=>?_)
 ·rw [if_pos (by rfl)];go_simp
  refine(nP (-1) ((n:Int)-1) AS nS cS zs wd HI.out (by omega) hz).mono ?_;rintro e we ⟨rfl,hb⟩;replace B2:=aA (B2.out.below hb B2.out.lt);replace BW:=aA (aD BW.out hb);replace HI:=aA (HI.out.ext hb);clear f2 f3 f4 hl hb;have f2:=B2.out.cell 2;have f3:=B2.out.cell 3;have f4:=B2.out.cell 4;simp at f2 f3 f4;have hl:=B2.out.lt;clear hH;refine aH hK (by exact⟨f2,f3,f4⟩) (fun hH=>?_);refine bD 17 ?_;refine aJ 20 (fun K hK=>?_);go_simp
  have HE:=aA (mZ we 22 AW cW);have hb:=aF we (.cells #[.slice AW 0 cW] 22);replace B2:=aA (B2.out.below hb B2.out.lt);replace BW:=aA (aD BW.out hb);replace HI:=aA (HI.out.ext hb);clear f2 f3 f4 hl hb;have f2:=B2.out.cell 2;have f3:=B2.out.cell 3;have f4:=B2.out.cell 4;simp at f2 f3 f4;have hl:=B2.out.lt;clear hH;refine aH hK (by exact⟨f2,f3,f4⟩) (fun hH=>?_);refine aJ 21 (fun K hK=>?_);go_simp
  refine(lN _ 1 _ (by omega) HE.out).mono ?_;rintro e wf ⟨rfl,hb⟩;replace B2:=aA (B2.out.below hb B2.out.lt);replace BW:=aA (aD BW.out hb);replace HI:=aA (HI.out.ext hb);clear f2 f3 f4 hl hb;have f2:=B2.out.cell 2;have f3:=B2.out.cell 3;have f4:=B2.out.cell 4;simp at f2 f3 f4;have hl:=B2.out.lt;clear hH;refine aH hK (by exact⟨f2,f3,f4⟩) (fun hH=>?_);refine bD 22 ?_;refine aT ?_;have bw:=BW.out;go_wp2_with fail
  go_ret
  exact⟨rfl,bw⟩
 ·rw [if_pos (by rfl)];go_simp
  have HE:=aA (mZ wd 22 AW cW);have hb:=aF wd (.cells #[.slice AW 0 cW] 22);replace B2:=aA (B2.out.below hb B2.out.lt);replace BW:=aA (aD BW.out hb);replace HI:=aA (HI.out.ext hb);clear f2 f3 f4 hl hb;have f2:=B2.out.cell 2;have f3:=B2.out.cell 3;have f4:=B2.out.cell 4;simp at f2 f3 f4;have hl:=B2.out.lt;clear hH;refine aH hK (by exact⟨f2,f3,f4⟩) (fun hH=>?_);refine aJ 16 (fun K hK=>?_);go_simp
  refine(nP (-1) ((n:Int)-1) AS nS cS zs _ HI.out (by omega) hz).mono ?_;rintro e we ⟨rfl,hb⟩;replace HE:=aA (HE.out.below hb);replace B2:=aA (B2.out.below hb B2.out.lt);replace BW:=aA (aD BW.out hb);replace HI:=aA (HI.out.ext hb);clear f2 f3 f4 hl hb;have f2:=B2.out.cell 2;have f3:=B2.out.cell 3;have f4:=B2.out.cell 4;simp at f2 f3 f4;have hl:=B2.out.lt;clear hH;refine aH hK (by exact⟨f2,f3,f4⟩) (fun hH=>?_);refine bD 17 ?_;refine aJ 21 (fun K hK=>?_);go_simp
  refine(lN _ 1 _ (by omega) HE.out).mono ?_;rintro e wf ⟨rfl,hb⟩;replace B2:=aA (B2.out.below hb B2.out.lt);replace BW:=aA (aD BW.out hb);replace HI:=aA (HI.out.ext hb);clear f2 f3 f4 hl hb;have f2:=B2.out.cell 2;have f3:=B2.out.cell 3;have f4:=B2.out.cell 4;simp at f2 f3 f4;have hl:=B2.out.lt;clear hH;refine aH hK (by exact⟨f2,f3,f4⟩) (fun hH=>?_);refine bD 22 ?_;refine aT ?_;have bw:=BW.out;go_wp2_with fail
  go_ret
  exact⟨rfl,bw⟩
def H8(k:Int):Nat:=match k.toNat with
 | 1=>171
 | 2=>175
 | 3=>189
 | 4=>206
 | _=>219
theorem H9(k cap n:Int)(AW AS:Option Addr)(nW cW nS cS:Nat)(w:World)(hk1:1<=k)(hk5:k<=5)(hc1:1<=cap)(hc2:cap<=4000)(hn1:1<=n)(hn2:n<=6)
 (hm:∀w',Below w.heap.size w w'->Calls Tryz.prog (H8 k) #[.agg #[],.agg #[.int .i64 k,.int .i64 cap,.int .i64 n,.slice AW nW cW,.slice AS nS cS]] w' fun e w''=>e = .returned (.int .i64 0)/\Below w'.heap.size w' w'') :
 Calls Tryz.prog 75 #[.agg #[.int .i64 k,.int .i64 cap,.int .i64 n,.slice AW nW cW,.slice AS nS cS]] w fun e w'=>e = .returned (.int .i64 0)/\Below w.heap.size w w':=by
 have B1:=aA (aC.new w 44 #[.int .i64 k,.int .i64 cap,.int .i64 n,.slice AW nW cW,.slice AS nS cS]);have BW:=aA (aF w (.cells #[.int .i64 k,.int .i64 cap,.int .i64 n,.slice AW nW cW,.slice AS nS cS] 44));have HM:=aA hm;clear hm;go_enter Tryz.func75,Tryz.ntmps75
 go_upto_region 1 with fail
 generalize hwe:w.alloc (.cells #[.int .i64 k,.int .i64 cap,.int .i64 n,.slice AW nW cW,.slice AS nS cS] 44)=w1 at *;clear hwe;have n0:=B1.out.cell 0;simp at n0;have hl:=B1.out.lt;go_wp2_with fail
 refine(oT k hk1 hk5 _).mono ?_;rintro e w2 ⟨rfl,hb⟩;replace B1:=aA (B1.out.below hb B1.out.lt);replace BW:=aA (aD BW.out hb);clear n0 hl hb;have n0:=B1.out.cell 0;have n1:=B1.out.cell 1;have n2:=B1.out.cell 2;have n3:=B1.out.cell 3;have n4:=B1.out.cell 4;simp at n0 n1 n2 n3 n4;have hl:=B1.out.lt;have HM3:=aA (HM.out w2 BW.out);have HX:=aA (And.intro hk1 hk5);clear hk1 hk5 HM;rcases five HX.out.1 HX.out.2 with rfl|rfl|rfl|rfl|rfl
 all_goals
  simp only [eU];go_wp2_with fail
  refine HM3.out.mono ?_;rintro e w3 ⟨rfl,hb⟩;have bw:=aD BW.out hb;go_wp2_with fail
  go_ret
  exact⟨rfl,bw⟩
end Go.Proofs.YtaejfleahamapaaGreat
