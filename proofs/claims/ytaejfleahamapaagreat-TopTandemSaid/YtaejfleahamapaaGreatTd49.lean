/- . -/
import Derived.Test.YtaejfleahamapaaGreatTd46
import Derived.Test.YtaejfleahamapaaGreatTd37
import Derived.Test.YtaejfleahamapaaGreatTd48
namespace Go.Proofs.YtaejfleahamapaaGreat
set_option linter.unusedVariables false
set_option linter.unusedSimpArgs false
set_option maxHeartbeats 4000000
set_option maxRecDepth 100000
open Go.RowKit
theorem X5(A B:Option Addr)(n m c d:Nat)(xs ys:List Int)(w:World)(hA:aE w w.heap.size A n xs)(hB:aE w w.heap.size B m ys)(hn:(n:Int)<=1000000)(hm:(m:Int)<=1000000) :
 Calls Tryz.prog 47 #[.slice A n c,.slice B m d] w fun e w'=>e = .returned (.bool (fE xs ys))/\Below w.heap.size w w':=by
 have hl:=hA.1;have hl2:=hB.1;by_cases hnm:n=m
 ·subst hnm;have b1:((n:Int) != n)=false:=by simp
  have HL:=aA hl;clear hl;have HL2:=aA hl2;clear hl2;go_enter Tryz.func47,Tryz.ntmps47
  go_wp2
  clear b1;go_loopg [5] n (fun g t wx=>∃k:Nat,k+g=n/\t = .int .i64 k/\Hid (∀j,j<k->aB xs j=aB ys j)/\Below w.heap.size w wx)
  case atStart=>exact⟨0,by omega,rfl,(fun j hj=>by omega),Below.refl _ _⟩
  case round=>
   obtain⟨k,hkg,rfl,hok,bw⟩:=hrel;have HOK:=aA hok;clear hok;by_cases hlt:k<n
   ·obtain⟨b,off,rfl,hb,hc⟩:=(hA.ext bw).2 (by omega);obtain⟨b2,off2,rfl,hb2,hc2⟩:=(hB.ext bw).2 (by omega);have hck:=hc k hlt;have hck2:=hc2 k hlt;obtain⟨x,hx⟩:∃x,x=aB xs k:=⟨_,rfl⟩
    obtain⟨y,hy⟩:∃y,y=aB ys k:=⟨_,rfl⟩
    rw [<- hx] at hck;rw [<- hy] at hck2;have HA:=aA hA;clear hA;have HB:=aA hB;clear hB;have HX:=aA hx;clear hx;have HY:=aA hy;clear hy;clear hc hc2;have hk0:0<=(k:Int):=by omega
    have hk1:(k:Int)<n:=by omega
    by_cases hxy:x=y
    ·have b1:(x != y)=false:=by simp [hxy]
     have HXY:=aA hxy;clear hxy;go_wp2_with fail
     go_quiet (fail)
     go_wp2
     go_roundg (gk-1)
     case measure=>omega
     case rel=>
      refine⟨k+1,by omega,by go_num,fun j hj=>?_,cC bw⟩
      by_cases e:j=k
      ·rw [e,<- HX.out,<- HY.out];exact HXY.out
      ·exact HOK.out.out j (by omega)
    ·have b1:(x != y)=true:=by simpa using hxy
     have F:Hid (fE xs ys=false):=qG (fun e=>hxy (by rw [HX.out,HY.out,e]));clear hxy;go_wp2_with fail
     go_quiet (fail)
     go_wp2
     go_ret
     exact⟨iI F.out.symm,cC bw⟩
   ·have F:Hid (fE xs ys=true):=sJ (nF (by rw [HL.out,HL2.out]) (fun j hj=>HOK.out.out j (by rw [HL.out] at hj;omega)));have hkk:¬(k:Int)<n:=by omega
    go_wp2
    go_ret
    exact⟨iI F.out.symm,bw⟩
 ·have b1:((n:Int) != m)=true:=by simp;omega
  have F:Hid (fE xs ys=false):=qG (fun e=>hnm (by rw [<- hl,<- hl2,e]));clear hl hl2 hnm;go_enter Tryz.func47,Tryz.ntmps47
  go_wp2
  go_ret
  exact⟨iI F.out.symm,Below.refl _ _⟩
theorem a0k{w:World}{g:Nat}(h:aC w g 71 #[.int .i64 0,.int .i64 0,.int .i64 15,.int .i64 0,.int .i64 0,.int .i64 15]):bN w (some ⟨g,0,none⟩) 2 2 eB:=by
 refine⟨rfl,by omega,fun _=>⟨g,0,rfl,h.lt,fun k j x hx hj=>?_⟩⟩
 rcases k with _|_|k
 ·cases hx
  rcases (show j=0\/j=1\/j=2 by omega) with rfl|rfl|rfl <;> exact h.cell _
 ·cases hx
  rcases (show j=0\/j=1\/j=2 by omega) with rfl|rfl|rfl <;> exact h.cell _
 ·cases hx
theorem mG(w:World):Calls Tryz.prog 10 #[] w fun e w'=>e = .returned (.bool true)/\Below w.heap.size w w':=by
 have L1:=aA ((aC.new w 44 #[.int .i64 2,.int .i64 10,.int .i64 1,.slice none 0 0,.slice none 0 0]).alloc (.cells #[.int .i64 0,.int .i64 0,.int .i64 15,.int .i64 0,.int .i64 0,.int .i64 15] 71));have pb:=aC.new (w.alloc (.cells #[.int .i64 2,.int .i64 10,.int .i64 1,.slice none 0 0,.slice none 0 0] 44)) 71 #[.int .i64 0,.int .i64 0,.int .i64 15,.int .i64 0,.int .i64 0,.int .i64 15];simp only [World.size_alloc] at pb;have PT:=aA (a0k pb);have BW:=aA (aD (aF w (.cells #[.int .i64 2,.int .i64 10,.int .i64 1,.slice none 0 0,.slice none 0 0] 44)) (aF _ (.cells #[.int .i64 0,.int .i64 0,.int .i64 15,.int .i64 0,.int .i64 0,.int .i64 15] 71)));clear pb;go_enter Tryz.func10,Tryz.ntmps10
 go_upto_region 3 with fail
 generalize hwe:(w.alloc (.cells #[.int .i64 2,.int .i64 10,.int .i64 1,.slice none 0 0,.slice none 0 0] 44)).alloc (.cells #[.int .i64 0,.int .i64 0,.int .i64 15,.int .i64 0,.int .i64 0,.int .i64 15] 71)=w1 at *;clear hwe;go_wp2_with fail
 refine(sC (some ⟨w.heap.size+1,0,none⟩) 2 2 0 eB w1 PT.out zT (by omega)).mono ?_;rintro e w2 ⟨f,er,hS,A5,m5,d5,rfl,hI5,hA5,hb⟩;obtain⟨rfl,ff,fv⟩:=M6 hS;have HFF:=aA ff;have HFV:=aA fv;have hm5:m5<=400:=by have h1:=ff.1.n2;have h2:f.vals.length=m5:=hI5.1;omega
 replace L1:=aA ((L1.out.below hb L1.out.lt).alloc (.cells #[.slice A5 m5 d5,.int .i64 f.per,.int .i64 f.inc] 26));replace BW:=aA (aD (aD BW.out hb) (aF w2 (.cells #[.slice A5 m5 d5,.int .i64 f.per,.int .i64 f.inc] 26)));replace PT:=aA ((PT.out.below hb).below (aF w2 (.cells #[.slice A5 m5 d5,.int .i64 f.per,.int .i64 f.inc] 26)));have HI5:=aA (hI5.alloc' (.cells #[.slice A5 m5 d5,.int .i64 f.per,.int .i64 f.inc] 26));have BF:=aA (aC.new w2 26 #[.slice A5 m5 d5,.int .i64 f.per,.int .i64 f.inc]);clear hS hI5 hA5 hb ff fv;go_upto_region 4 with fail
 generalize hwe:w2.alloc (.cells #[.slice A5 m5 d5,.int .i64 f.per,.int .i64 f.inc] 26)=w3 at *;clear hwe;generalize w2.heap.size=Zf at *;obtain⟨f0,f1,f2,f3,f4⟩:_/\_/\_/\_/\_:=⟨L1.out.cell 0,L1.out.cell 1,L1.out.cell 2,L1.out.cell 3,L1.out.cell 4⟩
 simp at f0 f1 f2 f3 f4;have hlf:=L1.out.lt;obtain⟨⟨l0,l1,l2⟩,-,hll⟩:=BF.out.c3;go_wp2_with fail
 have b4:=aD (aF w3 (.cells #[.slice A5 m5 d5,.int .i64 f.per,.int .i64 f.inc] 26)) (aF _ (.cells #[.int .i64 15,.int .i64 15] 67));have hrow:cR ((w3.alloc (.cells #[.slice A5 m5 d5,.int .i64 f.per,.int .i64 f.inc] 26)).alloc (.cells #[.int .i64 15,.int .i64 15] 67)) w3.heap.size 0 [⟨A5,m5,d5,f⟩]:=by
  have h:=(aC.new w3 26 #[.slice A5 m5 d5,.int .i64 f.per,.int .i64 f.inc]).alloc (.cells #[.int .i64 15,.int .i64 15] 67);refine⟨h.lt,fun k j x hx hj=>?_,fun x hx=>?_⟩
  ·rcases k with _|k
   ·cases hx
    rcases (show j=0\/j=1\/j=2 by omega) with rfl|rfl|rfl <;> exact h.cell _
   ·cases hx
  ·simp at hx;subst hx;exact HI5.out.ext b4
 have hrz:eM ((w3.alloc (.cells #[.slice A5 m5 d5,.int .i64 f.per,.int .i64 f.inc] 26)).alloc (.cells #[.int .i64 15,.int .i64 15] 67)) (w3.heap.size+1) 0 [⟨15,15⟩]:=by
  have h:=aC.new (w3.alloc (.cells #[.slice A5 m5 d5,.int .i64 f.per,.int .i64 f.inc] 26)) 67 #[.int .i64 15,.int .i64 15];rw [World.size_alloc] at h;refine⟨h.lt,fun k j x hx hj=>?_⟩
  rcases k with _|k
  ·cases hx
   rcases (show j=0\/j=1 by omega) with rfl|rfl <;> exact h.cell _
  ·cases hx
 replace L1:=aA (L1.out.below b4 L1.out.lt);replace BW:=aA (aD BW.out b4);replace PT:=aA (PT.out.below b4);have hck:∀W:World,iY W #[.int .i64 2,.int .i64 10,.int .i64 1,.slice none 0 0,.slice none 0 0]:=fun W w' h=>H7 10 1 none none 0 0 w' (by omega) (by omega) (by omega) (by omega)
 have HCK:=aA hck;clear f0 f1 f2 f3 f4 hlf l0 l1 l2 hll b4 BF hck HI5;refine(a3j ⟨A5,m5,d5,f⟩ 2 10 0 w3.heap.size 0 1 1 (w3.heap.size+1) 0 1 0 0 0 0 none none [⟨A5,m5,d5,f⟩] [⟨15,15⟩] ((w3.alloc (.cells #[.slice A5 m5 d5,.int .i64 f.per,.int .i64 f.inc] 26)).alloc (.cells #[.int .i64 15,.int .i64 15] 67)) (by omega) (by omega) (by omega) (by omega) (by omega) (by omega) rfl hrow (fun x hx=>by simp at hx;subst hx;exact HFF.out) (fun x hx=>by simp at hx;subst hx;show m5<=1000;omega) rfl hrz (fun x hx=>by simp at hx;subst hx;unfold SZ.Good;decide) (HCK.out _) (by omega) (by omega) (i5 10 0 [f] [⟨15,15⟩]) (fun w' hb=>yJ 2 10 0 w3.heap.size 0 1 1 (w3.heap.size+1) 0 1 none none 0 0 0 0 [⟨A5,m5,d5,f⟩] [⟨15,15⟩] w' (by omega) (by omega) (by omega) (by omega) (by omega) (by omega) rfl (cR.below hrow hb) (fun x hx=>by simp at hx;subst hx;exact HFF.out) (fun x hx=>by simp at hx;subst hx;show m5<=1000;omega) rfl (eM.below hrz hb) (fun x hx=>by simp at hx;subst hx;unfold SZ.Good;decide)) (fun f er h=>a1i h) (by omega) rfl).mono ?_;rintro e w5 ⟨i,v,A,er,hM,rfl,hb⟩;obtain⟨rfl,rfl⟩:=P7 HFF.out HFV.out hM;replace L1:=aA ((L1.out.below hb L1.out.lt).alloc (.cells #[.bool i,.int .i64 2,.int .i64 A] 35));replace BW:=aA (aD (aD BW.out hb) (aF w5 (.cells #[.bool i,.int .i64 2,.int .i64 A] 35)));replace PT:=aA ((PT.out.below hb).below (aF w5 (.cells #[.bool i,.int .i64 2,.int .i64 A] 35)));have DB:=aA (aC.new w5 35 #[.bool i,.int .i64 2,.int .i64 A]);clear hM hb hrow hrz;go_upto_region 5 with fail
 generalize hwe:w5.alloc (.cells #[.bool i,.int .i64 2,.int .i64 A] 35)=w6 at *;clear hwe;generalize w5.heap.size=Zd at *;obtain⟨f0,f1,f2,f3,f4⟩:_/\_/\_/\_/\_:=⟨L1.out.cell 0,L1.out.cell 1,L1.out.cell 2,L1.out.cell 3,L1.out.cell 4⟩
 simp at f0 f1 f2 f3 f4;have hlf:=L1.out.lt;go_wp2_with fail
 refine(zD 2 10 1 none none 0 0 0 0 (some ⟨w.heap.size+1,0,none⟩) 2 2 5 (dN 10 1 eB 5 (gL 1 eB) ()) w6 (by omega) (by omega) (HCK.out _) (fun w' hb=>yG 2 10 1 none none 0 0 0 0 (some ⟨w.heap.size+1,0,none⟩) 2 2 eB 5 w' (PT.out.below hb) zT (fun x hx=>by simp [eB] at hx;subst hx;decide) (by omega) (by omega) (by omega) (by omega) (by omega))).mono ?_;rintro e w7 ⟨done,sent,gD,gS,gcs,hP,rfl,hd,hs,hh,hb⟩;obtain rfl:=Q0 hP;replace BW:=aA (aD (aD BW.out hb) (aF w7 (.cells #[.slice (some ⟨gD,0,none⟩) 2 2,.slice (some ⟨gS,0,none⟩) 1 1] 62)));replace DB:=aA ((DB.out.below hb DB.out.lt).alloc (.cells #[.slice (some ⟨gD,0,none⟩) 2 2,.slice (some ⟨gS,0,none⟩) 1 1] 62));have DD:=aA (aC.alloc hd (.cells #[.slice (some ⟨gD,0,none⟩) 2 2,.slice (some ⟨gS,0,none⟩) 1 1] 62));have RB:=aA (aC.new w7 62 #[.slice (some ⟨gD,0,none⟩) 2 2,.slice (some ⟨gS,0,none⟩) 1 1]);clear hP hd hs hh hb f0 f1 f2 f3 f4 hlf L1 PT HCK HFF HFV;go_upto_region 6 with fail
 generalize hwe:w7.alloc (.cells #[.slice (some ⟨gD,0,none⟩) 2 2,.slice (some ⟨gS,0,none⟩) 1 1] 62)=w8 at *;clear hwe;generalize w7.heap.size=Zr at *;go_wp2_with fail
 refine(tP 10 w8 (by omega) (by omega)).mono ?_;rintro e w9 ⟨A6,n6,c6,rfl,hI6,hA6,hb⟩;have hn6:n6<=1:=by have h2:(aS 10).vals.length=n6:=hI6.1;have:(aS 10).vals.length=1:=rfl;omega
 replace BW:=aA (aD (aD BW.out hb) (aF w9 (.cells #[.slice A6 n6 c6,.int .i64 (aS 10).per,.int .i64 (aS 10).inc] 26)));replace DB:=aA ((DB.out.below hb DB.out.lt).alloc (.cells #[.slice A6 n6 c6,.int .i64 (aS 10).per,.int .i64 (aS 10).inc] 26));replace DD:=aA ((aC.below DD.out hb (aC.lt DD.out)).alloc (.cells #[.slice A6 n6 c6,.int .i64 (aS 10).per,.int .i64 (aS 10).inc] 26));replace RB:=aA ((RB.out.below hb RB.out.lt).alloc (.cells #[.slice A6 n6 c6,.int .i64 (aS 10).per,.int .i64 (aS 10).inc] 26));have HI6:=aA (hI6.alloc' (.cells #[.slice A6 n6 c6,.int .i64 (aS 10).per,.int .i64 (aS 10).inc] 26));have CB:=aA (aC.new w9 26 #[.slice A6 n6 c6,.int .i64 (aS 10).per,.int .i64 (aS 10).inc]);clear hI6 hA6 hb;go_upto_region 7 with fail
 generalize hwe:w9.alloc (.cells #[.slice A6 n6 c6,.int .i64 (aS 10).per,.int .i64 (aS 10).inc] 26)=wa at *;clear hwe;generalize w9.heap.size=Zc at *;obtain⟨⟨c0,c1,c2⟩,-,hlc⟩:=CB.out.c3;go_wp2_with fail
 refine(L8 A6 A6 n6 n6 c6 c6 (aS 10).per (aS 10).inc (aS 10).per (aS 10).inc (aS 10).vals (aS 10).vals wa HI6.out HI6.out (by omega) (by omega)).mono ?_;rintro e wb ⟨r,fr,cs,er,hPv,A7,n7,c7,B7,m7,d7,-,-,rfl,hI7,hJ7,hA7,hB7,hb⟩;obtain⟨rfl,hCk⟩:=a1q (show l4 (aS 10) (aS 10) r fr cs er from hPv);have hn7:n7<=400/\m7<=2000:=by
  obtain⟨_,_,a,b,ha,hb,hc,hh,_,hC⟩:=id hCk;obtain⟨hao,_⟩:=lO (nH (by omega) (by omega)) ha;obtain⟨hbo,_⟩:=lO (nH (by omega) (by omega)) hb;have h1:=hC.2.1.2.1;have h2:cs.length=m7:=hJ7.1;have h3:r.vals.length=n7:=hI7.1;have s1:=eO hao;have s2:=eO hbo;have s3:=eO hh;have s4:=hh.n2;have hc':aI a b<=120:=hc;unfold eA at h1;omega
 obtain⟨hn7,hm7⟩:=hn7;have CK:=aA hCk;replace BW:=aA (aD (aD BW.out hb) (aF wb (.cells #[.slice A7 n7 c7,.int .i64 r.per,.int .i64 r.inc,.int .i64 fr,.slice B7 m7 d7] 29)));replace DB:=aA ((DB.out.below hb DB.out.lt).alloc (.cells #[.slice A7 n7 c7,.int .i64 r.per,.int .i64 r.inc,.int .i64 fr,.slice B7 m7 d7] 29));replace DD:=aA ((aC.below DD.out hb (aC.lt DD.out)).alloc (.cells #[.slice A7 n7 c7,.int .i64 r.per,.int .i64 r.inc,.int .i64 fr,.slice B7 m7 d7] 29));replace RB:=aA ((RB.out.below hb RB.out.lt).alloc (.cells #[.slice A7 n7 c7,.int .i64 r.per,.int .i64 r.inc,.int .i64 fr,.slice B7 m7 d7] 29));replace HI6:=aA ((HI6.out.ext hb).alloc' (.cells #[.slice A7 n7 c7,.int .i64 r.per,.int .i64 r.inc,.int .i64 fr,.slice B7 m7 d7] 29));replace CB:=aA ((CB.out.below hb CB.out.lt).alloc (.cells #[.slice A7 n7 c7,.int .i64 r.per,.int .i64 r.inc,.int .i64 fr,.slice B7 m7 d7] 29));have HI7:=aA (hI7.alloc' (.cells #[.slice A7 n7 c7,.int .i64 r.per,.int .i64 r.inc,.int .i64 fr,.slice B7 m7 d7] 29));have HJ7:=aA (hJ7.alloc' (.cells #[.slice A7 n7 c7,.int .i64 r.per,.int .i64 r.inc,.int .i64 fr,.slice B7 m7 d7] 29));have SB:=aA (aC.new wb 29 #[.slice A7 n7 c7,.int .i64 r.per,.int .i64 r.inc,.int .i64 fr,.slice B7 m7 d7]);clear hPv hI7 hJ7 hA7 hB7 hb c0 c1 c2 hlc hCk;go_upto_region 8 with fail
 generalize hwe:wb.alloc (.cells #[.slice A7 n7 c7,.int .i64 r.per,.int .i64 r.inc,.int .i64 fr,.slice B7 m7 d7] 29)=wc at *;clear hwe;generalize wb.heap.size=Zs at *;have d1:=DB.out.cell 1;simp at d1;have hld:=DB.out.lt;have r0:=RB.out.cell 0;simp at r0;have hlr:=RB.out.lt;go_wp2_with fail
 have hlit:aE (wc.alloc (.cells #[.int .i64 1,.int .i64 2] 3)) (wc.alloc (.cells #[.int .i64 1,.int .i64 2] 3)).heap.size (some ⟨wc.heap.size,0,none⟩) 2 [1,2]:=by
  have h:=aC.new wc 3 #[.int .i64 1,.int .i64 2];refine⟨rfl,fun _=>⟨_,_,rfl,h.lt,fun j hj=>?_⟩⟩
  rcases (show j=0\/j=1 by omega) with rfl|rfl <;> exact h.cell _
 have hdn:aE (wc.alloc (.cells #[.int .i64 1,.int .i64 2] 3)) (wc.alloc (.cells #[.int .i64 1,.int .i64 2] 3)).heap.size (some ⟨gD,0,none⟩) 2 [1,2]:=by
  have h:=aC.alloc DD.out (.cells #[.int .i64 1,.int .i64 2] 3);refine⟨rfl,fun _=>⟨_,_,rfl,h.lt,fun j hj=>?_⟩⟩
  rcases (show j=0\/j=1 by omega) with rfl|rfl <;> exact h.cell _
 have b9:=aF wc (.cells #[.int .i64 1,.int .i64 2] 3);refine(X5 (some ⟨gD,0,none⟩) (some ⟨wc.heap.size,0,none⟩) 2 2 2 2 [1,2] [1,2] _ hdn hlit (by omega) (by omega)).mono ?_;rintro e wd ⟨rfl,hb⟩;rw [sJ rfl];have b10:=aD b9 hb;replace CB:=aA (CB.out.below b10 CB.out.lt);replace SB:=aA (SB.out.below b10 SB.out.lt);replace HI6:=aA (HI6.out.ext b10);replace HI7:=aA (HI7.out.ext b10);replace HJ7:=aA (HJ7.out.ext b10);replace BW:=aA (aD BW.out b10);clear hlit hdn b9 hb b10 d1 hld r0 hlr DB DD RB;obtain⟨⟨c0,c1,c2⟩,-,hlc⟩:=CB.out.c3;obtain⟨⟨q0,q1,q2,q3,q4⟩,-,hls⟩:=SB.out.d5;go_wp2_with fail
 refine(K8 A6 A6 A7 B7 n6 n6 n7 m7 c6 c6 c7 d7 (aS 10).per (aS 10).inc (aS 10).per (aS 10).inc fr (aS 10).vals (aS 10).vals r cs wd HI6.out HI6.out HI7.out HJ7.out (by omega) (by omega) (by omega) (by omega)).mono ?_;rintro e we ⟨⟨b,hbc,rfl⟩,hb⟩;obtain rfl:b=true:=hbc.2 CK.out;have bw:=aD BW.out hb;go_wp2_with fail
 go_ret
 exact⟨rfl,bw⟩
end Go.Proofs.YtaejfleahamapaaGreat
