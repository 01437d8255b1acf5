/- . -/
import Derived.Lib.AppendZeros
import Derived.Laws.OwnMore
import Derived.Test.YtaejfleahamapaaGreatTd11
import Derived.Test.YtaejfleahamapaaGreatTd17
namespace Go.Proofs.YtaejfleahamapaaGreat
set_option linter.unusedVariables false
set_option linter.unusedSimpArgs false
set_option maxRecDepth 100000
open Go.RowKit
section
theorem a8.form2{w:World}{base n:Nat}{v:Value}{xs:List PK}(h:a8 w base v n xs):∃A c,v = .slice A n c/\bN w A n c xs/\(A=none\/∃g o,A=some ⟨g,o,none⟩)/\(A=none->n=0/\c=0):=by
 obtain⟨A,c,rfl,hl,_⟩:=h.lst;refine⟨A,c,rfl,hl,?_⟩
 rcases h.2 with ⟨e,h0⟩|⟨g,_,_,e,_⟩
 ·cases e;exact⟨.inl rfl,fun _=>⟨h0,rfl⟩⟩
 ·cases e;exact⟨.inr ⟨g,0,rfl⟩,fun h=>by cases h⟩
def rV(ps:List PK)(w:World)(e:Ending)(w':World):Prop:=
 ∃ys A c,e = .returned (.slice A ps.length c)/\f9 PK.tm ps ys/\bN w' A ps.length c ys/\((A=none\/∃g o,A=some ⟨g,o,none⟩)/\(A=none->ps.length=0/\c=0)/\∀b o s,A=some ⟨b,o,s⟩->w.heap.size<=b)/\Below w.heap.size w w'
theorem a06(A:Option Addr)(c:Nat)(ps:List PK)(w:World)(h:bN w A ps.length c ps)(hn:ps.length<=19)(hA:A=none\/∃g o,A=some ⟨g,o,none⟩)(hA0:A=none->ps.length=0)(hb:∀x∈ps,0<=x.tm/\x.tm<=5000) :
 Calls Tryz.prog 119 #[.slice A ps.length c] w (rV ps w):=by
 have HB:=aA hb;clear hb;go_enter Tryz.func119,Tryz.ntmps119
 go_wp2_with fail
 refine(I5 A ps.length c ps w h (by omega) hA hA0).mono ?_;rintro e w1 ⟨v,rfl,hko,hb1⟩;have K:=aA hko;have B:=aA hb1;clear h hA hA0 hko hb1;obtain⟨A1,c1,rfl,_,hf1,hf2⟩:=K.out.form2;have HF:=aA (And.intro hf1 hf2);have HG:=aA (show ∀b o s,A1=some ⟨b,o,s⟩->w.heap.size<=b from fun b o s e=>by
  rcases hf1 with h | ⟨g,o',h⟩
  ·rw [h] at e;cases e
  ·rw [h] at e;cases e;rcases K.out.2 with ⟨e',_⟩|⟨g',_,_,e',hb,_⟩
   ·cases h;cases e'
   ·rw [h] at e';cases e';exact hb)
 clear hf1 hf2;go_wp2_with fail
 refine(a4c K.out HB.out hn).mono ?_;rintro e w2 ⟨rfl,ys,A2,c2,e2,hS,hl,hk⟩;cases e2
 have F:=aA (show rV ps w (.returned (.slice A1 ps.length c1)) w2 from⟨ys,A1,c1,rfl,hS,hl,⟨HF.out.1,HF.out.2,HG.out⟩,gC B.out hk (fun j hj=>(K.out.blk j hj.symm).1)⟩);clear hS hl hk;go_wp2_with fail
 go_ret
 exact F.out
def vG(args:Array Value):Sem Value:=Builtin.append_ #[46,3] 46 args
theorem F8(args:Array Value):Builtin.append_ #[46,3] 46 args=vG args:=rfl
attribute [local go_sem ↓] F8 in
theorem V4(n:Nat)(w:World)(hn:n<=60) :
 Calls Tryz.prog 138 #[.slice none 0 0,.int .i64 n] w fun e w'=>∃v,e = .returned v/\a8 w' w.heap.size v 0 []/\Below w.heap.size w w':=by
 by_cases h0:0<n
 ·obtain⟨i0,hi0,hz0,hz1,hz2⟩:=info_parts nC;have hrun:=Lib.run_append_nil_zeros (P:=Tryz.prog) w 46 3 46 71 i0 (.agg #[.int .i64 0,.int .i64 0,.int .i64 0]) .i64 .i64 Tryz.underlying46 Tryz.underlying3 hi0 hz0 n h0 (by omega) (by omega) (by rw [hz2];omega);have hc:=grownCap_le_maxLen w n 0 71 (by unfold maxLen;omega);have hc2:=grownCap_ge w n 0 71;have hrun:Sem.run Tryz.prog (vG #[.slice none 0 0,.int .i64 n]) w=_:=hrun;generalize grownCap w n 0 71=C at *;have F:=aA (show ∀z:Array Value,z.size=3->a8 (w.drew.alloc (.cells (Builtin.zeroCells z n ++ Builtin.zeroCells z (C-n)) 71)) w.heap.size (.slice (some ⟨w.heap.size,0,none⟩) 0 C) 0 [] from fun z hz=>
   ⟨by simp,.inr ⟨w.heap.size,C,_,rfl,Nat.le_refl _,heap_alloc_new w.drew _,Nat.zero_le _,hc,by rw [Array.size_append,size_zeroCells,size_zeroCells,hz,<- Nat.add_mul];congr 1;omega,by simp⟩⟩)
  have B:=aA (show ∀z:Array Value,Below w.heap.size w (w.drew.alloc (.cells (Builtin.zeroCells z n ++ Builtin.zeroCells z (C-n)) 71)) from fun z=>aD (cC (k:=1) (Below.refl w.heap.size w)) (aF w.drew _));have hni:(0:Int)<n:=by omega
  clear hi0 hz0 hz1 hz2;go_enter Tryz.func138,Tryz.ntmps138
  go_wp2_with fail
  go_ret
  exact⟨_,rfl,F.out _ rfl,B.out _⟩
 ·obtain rfl:n=0:=by omega
  go_enter Tryz.func138,Tryz.ntmps138
  go_wp2_with fail
  go_ret
  exact⟨_,rfl,a8.nil_ _ _,Below.refl _ _⟩
theorem yQ{w:World}{base n m c:Nat}{v:Value}{A:Option Addr}{xs zs:List PK}(h:a8 w base v n xs)(hz:bN w A m c zs)(hA:A=none\/∃g o,A=some ⟨g,o,none⟩)(hA0:A=none->m=0/\c=0)(hbase:base<=w.heap.size)(hn:n+m<=10000) :
 ∃v' w',Sem.run Tryz.prog (pY #[v,.slice A m c]) w = .ok v' w'/\a8 w' base v' (n+m) (xs ++ zs)/\Below base w w':=by
 rcases hA with rfl | ⟨g,o,rfl⟩
 ·obtain⟨rfl,rfl⟩:=hA0 rfl;obtain rfl:=List.eq_nil_of_length_eq_zero hz.1;obtain⟨i0,hi0,hz0,hz1,hz2⟩:=info_parts nC;refine⟨v,w,?_,by rw [List.append_nil];exact h,Below.refl _ _⟩
  exact run_append_owned_none (P:=Tryz.prog) (w:=w) base 46 46 71 i0 3 Tryz.underlying46 hi0 v n _ h
 ·obtain⟨v',w',h1,h2,h3,h4⟩:=yP (g:=g) (o:=o) (c:=c) h hz.1 (fun h0=>by
   obtain⟨g',o',e,hr⟩:=hz.2.2 h0;cases e
   exact hr) hbase hn
  exact⟨v',w',h1,h2,⟨h3.os,h3.tape,h3.output,h3.size,fun k hk=>h3.block k (by omega) (fun e=>by have:=(h.blk k e.symm).1;omega)⟩⟩
attribute [local go_sem ↓] pZ in
theorem J4(P:Nat)(A B:Option Addr)(n c m d:Nat)(xs ys:List PK)(w:World)(hP:aC w P 46 #[.slice A n c,.slice B m d])(hx:bN w A n c xs)(hy:bN w B m d ys)(hn:n<=30)(hm:m<=30)(hA:A=none\/∃g o,A=some ⟨g,o,none⟩)(hA0:A=none->n=0/\c=0)(hB:B=none\/∃g o,B=some ⟨g,o,none⟩)(hB0:B=none->m=0/\d=0) :
 Calls Tryz.prog 120 #[.slice (some ⟨P,0,none⟩) 2 2] w fun e w'=>∃v,e = .returned v/\a8 w' w.heap.size v (n+m) (xs ++ ys)/\Below w.heap.size w w':=by
 have PB:=aA hP;have HX:=aA hx;have HY:=aA hy;have HA:=aA (And.intro hA hA0);have HB:=aA (And.intro hB hB0);have p0:=hP.cell 0;have p1:=hP.cell 1;simp at p0 p1;have hpl:=hP.lt;clear hP hx hy hA hA0 hB hB0;have ew1:IntKind.i64.wrap ((n:Int)+m)=((n+m:Nat):Int):=by rw [Int.natCast_add];exact IntWalk.i64_in _ (by omega)
 go_enter Tryz.func120,Tryz.ntmps120
 go_wp2_with fail
 go_loopg [3,11] 2 (fun gg s3 s11 wr=>∃k:Nat,k+gg=2/\s11 = .int .i64 k/\s3 = .int .i64 ((if k=0 then 0 else if k=1 then n else n+m:Nat):Int)/\wr=w)
 case atStart=>exact⟨0,by omega,rfl,rfl,rfl⟩
 case round=>
  obtain⟨k,hkg,rfl,rfl,hw⟩:=hrel;obtain rfl:=hw.symm;rcases (show k=0\/k=1\/k=2 by omega) with rfl|rfl|rfl
  ·go_wp2_with fail
   go_roundg (gk-1)
   case measure=>omega
   case rel=>exact⟨1,by omega,by go_num,by go_num,rfl⟩
  ·go_wp2_with fail
   go_roundg (gk-1)
   case measure=>omega
   case rel=>exact⟨2,by omega,by go_num,by go_num,rfl⟩
  ·go_wp2_with fail
   refine(V4 (n+m) w (by omega)).mono ?_;rintro e w1 ⟨v,rfl,hko,hb⟩;have K:=aA hko;have W:=aA hb;clear hko hb p0 p1 hpl ew1;go_wp2_with fail
   go_loopg [6,27] 2 (fun gg s6 s27 wq=>∃k:Nat,k+gg=2/\s27 = .int .i64 k/\Hid (a8 wq w.heap.size s6 (if k=0 then 0 else if k=1 then n else n+m) (if k=0 then [] else if k=1 then xs else xs ++ ys))/\Hid (Below w.heap.size w wq))
   case atStart=>exact⟨0,by omega,rfl,K,W⟩
   case round=>
    clear K W;obtain⟨k,hkg,rfl,K,W⟩:=hrel;have PQ:=aA (PB.out.below W.out PB.out.lt);have p0:=PQ.out.cell 0;have p1:=PQ.out.cell 1;simp at p0 p1;have hpl:=PQ.out.lt;rcases (show k=0\/k=1\/k=2 by omega) with rfl|rfl|rfl
    ·have K1:a8 wr w.heap.size u6 0 []:=K.out;obtain⟨v',w2,hrun,hko,hb⟩:=yQ K1 (HX.out.below W.out) HA.out.1 HA.out.2 W.out.size (by omega);have K2:=aA (show a8 w2 w.heap.size v' (if 1=0 then 0 else if 1=1 then n else n+m) (if 1=0 then [] else if 1=1 then xs else xs ++ ys) from by rw [Nat.zero_add,List.nil_append] at hko;exact hko);have W2:=aA (W.out.trans hb);clear K K1 hko hb;go_wp2_with fail
     go_roundg (gk-1)
     case measure=>omega
     case rel=>exact⟨1,by omega,by go_num,K2,W2⟩
    ·have K1:a8 wr w.heap.size u6 n xs:=K.out;obtain⟨v',w2,hrun,hko,hb⟩:=yQ K1 (HY.out.below W.out) HB.out.1 HB.out.2 W.out.size (by omega);have K2:=aA (show a8 w2 w.heap.size v' (if 2=0 then 0 else if 2=1 then n else n+m) (if 2=0 then [] else if 2=1 then xs else xs ++ ys) from hko);have W2:=aA (W.out.trans hb);clear K K1 hko hb;go_wp2_with fail
     go_roundg (gk-1)
     case measure=>omega
     case rel=>exact⟨2,by omega,by go_num,K2,W2⟩
    ·have K1:a8 wr w.heap.size u6 (n+m) (xs ++ ys):=K.out;go_wp2_with fail
     go_ret
     exact⟨_,rfl,K1,W.out⟩
theorem a0n(A B:Option Addr)(n c m d:Nat)(xs ys:List PK)(w:World)(hx:bN w A n c xs)(hy:bN w B m d ys)(hvx:aM xs)(hvy:aM ys)(hn:n+m<=19)(hA:A=none\/∃g o,A=some ⟨g,o,none⟩)(hA0:A=none->n=0/\c=0)(hB:B=none\/∃g o,B=some ⟨g,o,none⟩)(hB0:B=none->m=0/\d=0) :
 Calls Tryz.prog 89 #[.slice A n c,.slice B m d] w fun e w'=>∃zs A' c',e = .returned (.tuple #[.slice A' (n+m) c',.int .i64 0])/\f9 PK.tm (xs ++ ys) zs/\bN w' A' (n+m) c' zs/\((A'=none\/∃g o,A'=some ⟨g,o,none⟩)/\(A'=none->n+m=0/\c'=0)/\∀b o s,A'=some ⟨b,o,s⟩->w.heap.size<=b)/\Below w.heap.size w w':=by
 have HX:=aA hx;have HY:=aA hy;have HV:=aA (And.intro hvx hvy);have HA:=aA (And.intro hA hA0);have HB:=aA (And.intro hB hB0);have hl1:xs.length=n:=hx.1;have hl2:ys.length=m:=hy.1;clear hx hy hvx hvy hA hA0 hB hB0;go_enter Tryz.func89,Tryz.ntmps89
 go_wp2_with fail
 refine(kV A n c xs w HX.out HV.out.1).mono ?_;rintro e w1 ⟨rfl,hb⟩;have W:=aA hb;replace HX:=aA (HX.out.below hb);replace HY:=aA (HY.out.below hb);clear hb;go_wp2_with fail
 refine(kV B m d ys w1 HY.out HV.out.2).mono ?_;rintro e w2 ⟨rfl,hb⟩;have b1:=aD hb (aF w2 (.cells #[.slice A n c,.slice B m d] 46));replace W:=aA (aD W.out b1);replace HX:=aA (HX.out.below b1);replace HY:=aA (HY.out.below b1);have PB:=aA (aC.new w2 46 #[.slice A n c,.slice B m d]);clear hb b1;have ew:IntKind.i64.wrap ((n:Int)+m)=(n:Int)+m:=IntWalk.i64_in _ (by omega);have e1:decide ((60:Int)<(n:Int)+m)=false:=decide_eq_false (by omega);go_wp2_with fail
 refine(J4 w2.heap.size A B n c m d xs ys _ PB.out HX.out HY.out (by omega) (by omega) HA.out.1 HA.out.2 HB.out.1 HB.out.2).mono ?_;rintro e w3 ⟨v,rfl,hko,hb⟩;have K:=aA hko;replace W:=aA (aD W.out hb);clear hko hb PB HX HY;obtain⟨A1,c1,rfl,hl,hf1,hf2⟩:=K.out.form2;have hln:(xs ++ ys).length=n+m:=by rw [List.length_append];omega
 go_wp2_with fail
 refine Calls.mono (show Calls Tryz.prog 119 #[.slice A1 (n+m) c1] w3 (rV (xs ++ ys) w3) from by
  have h:=a06 A1 c1 (xs ++ ys) w3 (by rw [hln];exact hl) (by omega) hf1 (fun e=>by rw [hln];exact(hf2 e).1) (fun x hx=>by
   have hg:x.Good:=by
    rcases List.mem_append.1 hx with h|h
    ·exact HV.out.1.good x h
    ·exact HV.out.2.good x h
   unfold PK.Good at hg;omega)
  rw [hln] at h;exact h) ?_
 rintro e w4 ⟨zs,A2,c2,rfl,hS,hl2',hf,hb⟩;rw [hln] at hl2' hf;have F:=aA (show f9 PK.tm (xs ++ ys) zs/\bN w4 A2 (n+m) c2 zs/\((A2=none\/∃g o,A2=some ⟨g,o,none⟩)/\(A2=none->n+m=0/\c2=0)/\∀b o s,A2=some ⟨b,o,s⟩->w.heap.size<=b)/\Below w.heap.size w w4 from
  ⟨hS,hl2',⟨hf.1,hf.2.1,fun b o s e=>by have:=hf.2.2 b o s e;have:=W.out.size;omega⟩,aD W.out hb⟩)
 rw [hln];clear hS hl2' hf hb hl hf1 hf2 K;go_wp2_with fail
 exact bodyPost_ret (v:=.tuple #[.slice A2 (n+m) c2,.int .i64 0]) (by simp [results,Tryz.results89,go_sem]) rfl ⟨zs,A2,c2,rfl,F.out⟩
end
end Go.Proofs.YtaejfleahamapaaGreat
