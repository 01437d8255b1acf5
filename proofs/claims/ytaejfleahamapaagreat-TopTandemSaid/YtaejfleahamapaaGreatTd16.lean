/- . -/
import Derived.Test.YtaejfleahamapaaGreatTd13
import Derived.Test.YtaejfleahamapaaGreatTd9
namespace Go.Proofs.YtaejfleahamapaaGreat
set_option linter.unusedVariables false
set_option linter.unusedSimpArgs false
set_option maxHeartbeats 2000000
set_option maxRecDepth 100000
open Go.RowKit
def D8(f:Cv)(v:Int)(w:World)(e:Ending)(w':World):Prop:=
 ∃t ok,mM (fO f v) t ok/\0<=t/\t<=200000000000000000/\e = .returned (.tuple #[.int .i64 t,.bool ok])/\Below w.heap.size w w'
theorem a19{v y i:Int}(hy:y<v)(hi:1<=i):∃K:Nat,(v-y+i-1) / i=(K:Int)+1/\(v-y+i-1).tdiv i=(K:Int)+1/\(K:Int)*i<v-y/\v-y<=((K:Int)+1)*i/\(K:Int)<=v-y/\((K:Int)+1)*i<=v-y+i-1:=by
 have h1:=Int.mul_ediv_add_emod (v-y+i-1) i;have h2:=Int.emod_nonneg (v-y+i-1) (show i≠0 by omega);have h3:=Int.emod_lt_of_pos (v-y+i-1) (show 0<i by omega);have h4:1<=(v-y+i-1) / i:=by
  rw [Int.le_ediv_iff_mul_le (by omega)];omega
 obtain⟨K,hK⟩:∃K:Nat,(v-y+i-1) / i=(K:Int)+1:=⟨((v-y+i-1) / i-1).toNat,by omega⟩
 rw [hK] at h1;have h5:i*((K:Int)+1)=(K:Int)*i+i:=by rw [Int.mul_add,Int.mul_one,Int.mul_comm]
 have h6:((K:Int)+1)*i=(K:Int)*i+i:=by rw [Int.add_mul,Int.one_mul]
 have h7:(K:Int)*1<=(K:Int)*i:=Int.mul_le_mul_of_nonneg_left hi (by omega);exact⟨K,hK,by rw [Int.tdiv_eq_ediv_of_nonneg (by omega)];exact hK,by omega,by omega,by omega,by omega⟩
theorem a14(A:Option Addr)(n c:Nat)(p i v:Int)(zs:List Int)(w:World)(hA:aE w w.heap.size A n zs)(hf:Cv.Ok ⟨zs,p,i⟩)(hv0:0<=v)(hv:v=aG\/v<=1125899906842624) :
 Calls Tryz.prog 51 #[.agg #[.slice A n c,.int .i64 p,.int .i64 i],.int .i64 v] w (D8 ⟨zs,p,i⟩ v w):=by
 have hl:=hA.1;have hn1:=hf.n1;have hn2:=hf.n2;have hp1:=hf.p1;have hp2:=hf.p2;have hpn:=hf.pn;have hi1:=hf.i1;have hi2:=hf.i2;simp only [hl] at hn1 hn2 hp1 hp2 hpn hi1 hi2;have hv2:v<=4611686018427387904:=by rcases hv with h|h;rw [h];unfold aG;omega;omega
 obtain⟨P,rfl⟩:=Int.eq_ofNat_of_zero_le (show 0<=p by omega);have E:=aA (L1.new (c:=c) (p:=(P:Int)) (i:=i) hA);have HF:=aA hf;have HL:=aA hl;have HV:=aA hv;clear hA hf hl hv;go_enter Tryz.func51,Tryz.ntmps51
 obtain⟨f0,f1,f2,hlf⟩:=E.out.cells;go_wp2_with fail
 clear f0 f1 f2 hlf;go_loopg [15] n (fun gg s15 wx=>∃k:Nat,k+gg=n/\s15 = .int .i64 k/\fP ⟨zs,P,i⟩ v k/\L1 w wx A n c P i zs)
 case atStart=>exact⟨0,by omega,rfl,fP.zero _ _,E.out⟩
 case round=>
  clear E;obtain⟨k,hkg,rfl,hno,hE⟩:=hrel;have E:=aA hE;have HNO:=aA hno;clear hE hno;obtain⟨f0,f1,f2,hlf⟩:=E.out.cells;obtain⟨b,off,hAe,hbl,hcell⟩:=E.out.ints.2 (by omega);subst hAe;by_cases hk:k<n
  ·have hki:(k:Int)<n:=by omega
   have hck:=hcell k hk;obtain⟨x,hx⟩:∃x,x=aB zs k:=⟨_,rfl⟩
   rw [<- hx] at hck;have HG:=aA (wT (v:=v) HF.out hv2 (k:=k) (by show k<zs.length;rw [HL.out];exact hk));have HX:=aA hx;clear hx hcell;by_cases hge:v<=x
   ·have F:=aA (yH HNO.out (HG.out.2 (by rw [<- HX.out];exact hge)));have d1:decide (v<=x)=true:=by simpa using hge
    have bw:=E.out.bw;clear hge;go_wp2_with fail
    go_ret2
    exact⟨_,_,F.out,by omega,by omega,rfl,bw⟩
   ·have F:=aA (HNO.out.succ (fun h=>hge (by rw [HX.out];exact HG.out.1 h)));have d1:decide (v<=x)=false:=by simpa using hge
    clear hge;go_wp2_with fail
    go_roundg (gk-1)
    case measure=>omega
    case rel=>exact⟨k+1,by omega,by go_num,F.out,E.out⟩
  ·have hkn:k=n:=by omega
   subst hkn;clear hk hkg;have NO:=aA (show fP ⟨zs,P,i⟩ v (Cv.mk zs (P:Int) i).vals.length from by show fP _ v zs.length;rw [HL.out];exact HNO.out);obtain⟨m,hm⟩:∃m,k=m+1:=⟨k-1,by omega⟩
   have hcm:=hcell m (by omega);obtain⟨y,hy⟩:∃y,y=aB zs m:=⟨_,rfl⟩
   rw [<- hy] at hcm;have HY:=aA (show y=aB (Cv.mk zs (P:Int) i).vals ((Cv.mk zs (P:Int) i).vals.length-1) from by show y=aB zs (zs.length-1);rw [hy,HL.out,hm,Nat.add_sub_cancel]);have FIN:=aA (qW HF.out NO.out);have hyb:0<=y/\y<=1073741824:=by
    have h1:=FIN.out.ne (k-1) (by show k-1<zs.length;rw [HL.out];omega);have h2:=HF.out.nn (k-1);rw [show k-1=m by omega] at h1 h2;have h1':aB zs m<=1073741824:=h1.2;have h2':0<=aB zs m:=h2.1;omega
   have hyv:y<v:=by
    have h1:=NO.out (k-1) (by show k-1<zs.length;rw [HL.out];omega);have h2:=wT (v:=v) HF.out hv2 (k:=k-1) (by show k-1<zs.length;rw [HL.out];omega);rw [show k-1=m by omega] at h1 h2;have h2':fO ⟨zs,P,i⟩ v m↔v<=aB zs m:=h2;rw [h2',<- hy] at h1;omega
   have hmk:(m:Int)<k:=by omega
   have hm1:(m:Int)+1=k:=by omega
   have HM:=aA hm;have HM1:=aA hm1;have hP1:1<=P:=by omega
   clear hcell hy hm hm1 HNO;by_cases hvi:v=4611686018427387904
   ·have d1:(v == 4611686018427387904)=true:=by simpa using hvi
    have F:=aA (show mM (fO ⟨zs,P,i⟩ v) 0 false from by
     have h:=NO.out;rw [show v=aG from hvi] at h ⊢;exact a18 HF.out h)
    have bw:=E.out.bw;clear hvi;go_wp2_with fail
    go_quiet (fail)
    go_wp2_with fail
    go_ret2
    exact⟨_,_,F.out,by omega,by omega,rfl,cC bw⟩
   ·have d1:(v == 4611686018427387904)=false:=by simpa using hvi
    have hvb:v<=1125899906842624:=by
     rcases HV.out with h|h
     ·exact absurd h hvi
     ·exact h
    have HVI:=aA (show v≠aG from hvi);clear hvi;by_cases hi0:i=0
    ·have d2:(i == 0)=true:=by simpa using hi0
     have F:=aA (a17 HF.out NO.out hi0);have bw:=E.out.bw;clear hi0;go_wp2_with fail
     go_quiet (fail)
     go_wp2_with fail
     go_ret2
     exact⟨_,_,F.out,by omega,by omega,rfl,cC bw⟩
    ·have d2:(i == 0)=false:=by simpa using hi0
     obtain⟨K,hk1,hk2,hk3,hk4,hk5,hk6⟩:=a19 hyv (show 1<=i by omega);have hKP:(K:Int)*P<=1125899906842624*120:=Int.mul_le_mul (by omega) hp2 (by omega) (by omega);have hKP0:0<=(K:Int)*P:=Int.mul_nonneg (by omega) (by omega);have T0:=aA (show fP ⟨zs,P,i⟩ v (k+K*P) from by
      have:=a16 HF.out NO.out (k:=K+1) (by
       rw [<- HY.out,show((K+1:Nat):Int)-1=K by omega];exact hk3) (by omega)
      rw [show K+1-1=K by omega,show(Cv.mk zs (P:Int) i).vals.length=k from HL.out,show(Cv.mk zs (P:Int) i).per.toNat=P from Int.toNat_natCast P] at this;exact this)
     have T1:=aA (show fO ⟨zs,P,i⟩ v (m+(K+1)*P) from by
      have:=a15 FIN.out HVI.out (k:=K+1) (by
       rw [<- HY.out,show((K+1:Nat):Int)=(K:Int)+1 by omega];exact hk4)
      rw [show(Cv.mk zs (P:Int) i).vals.length=k from HL.out,show(Cv.mk zs (P:Int) i).per.toNat=P from Int.toNat_natCast P,show k-1=m by have:=HM.out;omega] at this;exact this)
     obtain⟨T,hT⟩:∃T,T=m+(K+1)*P:=⟨_,rfl⟩
     rw [<- hT] at T1;have hKPc:((K*P:Nat):Int)=(K:Int)*P:=Int.natCast_mul K P;have hKPn:K*P<=1125899906842624*120:=by omega
     have hTb:T<=200000000000000000:=by rw [hT,Nat.add_mul,Nat.one_mul];omega
     have e1:IntKind.i64.wrap ((k:Int)-1)=(m:Int):=by have:=HM1.out;rw [IntWalk.i64_in _ (by omega)];omega
     have e2:IntKind.i64.wrap (v-y)=v-y:=IntWalk.i64_in _ (by omega);have e3:IntKind.i64.wrap (v-y+i)=v-y+i:=IntWalk.i64_in _ (by omega);have e4:IntKind.i64.wrap (v-y+i-1)=v-y+i-1:=IntWalk.i64_in _ (by omega);have e5:IntKind.i64.wrap ((K:Int)+1)=(K:Int)+1:=IntWalk.i64_in _ (by omega);have HT:=aA hT;have HK6:=aA hk6;have hTs:k+K*P<=T:=by rw [hT,Nat.add_mul,Nat.one_mul];have:=HM1.out;omega
     clear hT hk1 hk3 hk4 hk6 hKPn hKPc;go_wp2_with fail
     go_quiet (fail)
     go_wp2_with fail
     go_quiet (fail)
     clear e1 e2 e3 e4;go_wp2_with fail
     clear e5;clear f0 f1 f2 hlf;obtain⟨S0,hS0⟩:∃S0,S0=k+K*P:=⟨_,rfl⟩
     have HS0:=aA hS0;rw [<- hS0] at T0 hTs;clear hS0;go_loopg [11] T (fun gg s11 wx=>∃t:Nat,t+gg=T+S0/\t<=T/\s11 = .int .i64 t/\fP ⟨zs,P,i⟩ v t/\L1 w wx (some ⟨b,off,none⟩) k c P i zs)
     case atStart=>exact⟨S0,by omega,hTs,by rw [HS0.out,Int.natCast_add,Int.natCast_mul],T0.out,E.out.drewN⟩
     case round=>
      clear E;obtain⟨t,htg,htT0,rfl,hno,hE⟩:=hrel;have E:=aA hE;have HNO:=aA hno;clear hE hno;obtain⟨f0,f1,f2,hlf⟩:=E.out.cells;obtain⟨x,hx⟩:∃x,x=Cv.at ⟨zs,P,i⟩ t:=⟨_,rfl⟩
      have HX:=aA hx;clear hx;have hbig:k<=((t:Int)).toNat->(((((t:Int)).toNat-k) / ((P:Int)).toNat+1:Nat):Int)*i<=1152921504606846976:=by
       intro _;rw [Int.toNat_natCast,Int.toNat_natCast];have h1:(t-k) / P<=K:=by
        have h2:=HT.out;have h3:=HM1.out;rw [Nat.add_mul,Nat.one_mul] at h2;have h4:t-k<(K+1)*P:=by rw [Nat.add_mul,Nat.one_mul];omega
        have h5:(t-k) / P<K+1:=(Nat.div_lt_iff_lt_mul (by omega)).2 h4;omega
       have h6:(((t-k) / P+1:Nat):Int)*i<=((K:Int)+1)*i:=Int.mul_le_mul_of_nonneg_right (by omega) (by omega);have:=HK6.out
       omega
      go_wp2_with fail
      refine(G1 (some ⟨b,off,none⟩) k c P i t zs _ (by exact E.out.ints) (by omega) (by omega) (by omega) hi1 HF.out.nn (by omega) (by omega) hbig).mono ?_;rw [Int.toNat_natCast,<- HX.out];rintro e wq ⟨rfl,hbq⟩;have E:=aA (E.out.below hbq);clear hbig hbq;clear f0 f1 f2 hlf;obtain⟨f0,f1,f2,hlf⟩:=E.out.cells;by_cases hxv:x<v
      ·have d3:decide (x<v)=true:=by simpa using hxv
       have hng:¬fO ⟨zs,P,i⟩ v t:=by
        rintro (h|h)
        ·exact FIN.out.not_infAt _ h
        ·have:=h.2;rw [<- HX.out] at this;omega
       have F:=aA (HNO.out.succ hng);have htT:t≠T:=fun e=>hng (by rw [e];exact T1.out)
       clear hxv hng;go_wp2_with fail
       go_roundg (gk-1)
       case measure=>omega
       case rel=>exact⟨t+1,by omega,by omega,by go_num,F.out,E.out⟩
      ·have d3:decide (x<v)=false:=by simpa using hxv
       have F:=aA (yH HNO.out (.inr ⟨HVI.out,by rw [<- HX.out];omega⟩));have bw:=E.out.bw;clear hxv;go_wp2_with fail
       go_ret2
       exact⟨_,_,F.out,by omega,by omega,rfl,bw⟩
end Go.Proofs.YtaejfleahamapaaGreat
