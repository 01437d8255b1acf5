/- . -/
import Derived.Deep.RegionHeld3
import Derived.Test.YtaejfleahamapaaGreatTd8
namespace Go.Proofs.YtaejfleahamapaaGreat
set_option linter.unusedVariables false
set_option linter.unusedSimpArgs false
set_option maxHeartbeats 4000000
set_option maxRecDepth 100000
open Go.RowKit
def jS(zs:List Int)(k:Nat):Int:=if k=0 then 0 else aB zs (k-1)
def rR(n p i:Int):Prop:=1<=n/\n<=400/\1<=p/\p<=120/\p<=n/\0<=i/\i<=1073741824
theorem iI{a b:Bool}(h:a=b):Ending.returned (.bool a) = .returned (.bool b):=by rw [h]
theorem a5g(A:Option Addr)(n c:Nat)(p i:Int)(w:World)(hn:(n:Int)<=1000000)(h:¬rR n p i) :
 Calls Tryz.prog 58 #[.agg #[.slice A n c,.int .i64 p,.int .i64 i]] w fun e w'=>e = .returned (.bool false)/\Below w.heap.size w w':=by
 have hh:n<1\/(1<=n/\400<n)\/(1<=n/\n<=400/\p<1)\/(1<=n/\n<=400/\1<=p/\120<p)\/(1<=n/\n<=400/\1<=p/\p<=120/\(n:Int)<p)\/(1<=n/\n<=400/\1<=p/\p<=120/\p<=n/\i<0)\/
  (1<=n/\n<=400/\1<=p/\p<=120/\p<=n/\0<=i/\1073741824<i):=by unfold rR at h;omega
 clear h;rcases hh with h1 | ⟨h1,h2⟩|⟨h1,h2,h3⟩|⟨h1,h2,h3,h4⟩|⟨h1,h2,h3,h4,h5⟩|⟨h1,h2,h3,h4,h5,h6⟩|⟨h1,h2,h3,h4,h5,h6,h7⟩
 all_goals
  go_enter Tryz.func58,Tryz.ntmps58
  go_wp2
  go_ret
  exact⟨rfl,(Below.refl _ _).alloc (Nat.le_refl _) _⟩
theorem mI(A:Option Addr)(n c:Nat)(p i:Int)(zs:List Int)(w:World)(hA:aE w w.heap.size A n zs)(hn:(n:Int)<=1000000) :
 Calls Tryz.prog 58 #[.agg #[.slice A n c,.int .i64 p,.int .i64 i]] w fun e w'=>e = .returned (.bool (Cv.okB ⟨zs,p,i⟩))/\Below w.heap.size w w':=by
 have hl:=hA.1;by_cases hd:rR n p i
 ·obtain⟨h1,h2,h3,h4,h5,h6,h7⟩:=hd;obtain⟨p,rfl⟩:=Int.eq_ofNat_of_zero_le (show 0<=p by omega);obtain⟨b,off,rfl,hb,hc⟩:=hA.2 (by omega);have HC:=aA hc;clear hc hA;have HL:=aA hl;clear hl;have d1:decide ((n:Int)<1)=false:=by simp;omega
  have d2:decide (400<(n:Int))=false:=by simp;omega
  have d3:decide ((p:Int)<1)=false:=by simp;omega
  have d4:decide (120<(p:Int))=false:=by simp;omega
  have d5:decide (i<0)=false:=by simp;omega
  have d6:decide (1073741824<i)=false:=by simp;omega
  have d7:decide (n<p)=false:=by simp;omega
  go_enter Tryz.func58,Tryz.ntmps58
  go_wp2
  clear d1 d2 d3 d4 d5 d6 d7
  go_loopg [4,45] n (fun g l t wx=>∃k:Nat,k+g=n/\t = .int .i64 k/\l = .int .i64 (jS zs k)/\Hid (∀j,j<k->jS zs j<=aB zs j/\gR (aB zs j)=true)/\
   wx=w.alloc (.cells #[.slice (some ⟨b,off,none⟩) n c,.int .i64 p,.int .i64 i] 26))
  case atStart=>exact⟨0,by omega,rfl,rfl,(fun j hj=>by omega),rfl⟩
  case round=>
   obtain⟨k,hkg,rfl,rfl,hok,rfl⟩:=hrel;have HOK:=aA hok;clear hok;by_cases hlt:k<n
   ·have hck:=HC.out k hlt;obtain⟨x,hx⟩:∃x,x=aB zs k:=⟨_,rfl⟩
    obtain⟨l,hl⟩:∃l,l=jS zs k:=⟨_,rfl⟩
    rw [<- hx] at hck;rw [<- hl];have HX:=aA hx;clear hx;have HPL:=aA hl;clear hl;have hyes:l<=x->gR x=true->Hid (∀j,j<k+1->jS zs j<=aB zs j/\gR (aB zs j)=true):=by
     intro h1 h2 j hj;by_cases e:j=k
     ·subst e;rw [<- HX.out,<- HPL.out];exact⟨h1,h2⟩
     ·exact HOK.out.out j (by omega)
    have hnop:¬(l<=x/\gR x=true)->Cv.okB ⟨zs,p,i⟩=false:=by
     intro hno;refine Cv.okB_false fun ok=>hno ⟨?_,?_⟩
     ·rw [HPL.out,HX.out];unfold jS;split
      ·rename_i h0;subst h0;exact ok.z
      ·have:=ok.mono (k-1) (by show _<zs.length;rw [HL.out];omega)
       rw [show k-1+1=k by omega] at this;exact this
     ·rw [HX.out];exact ok.v k (by show _<zs.length;rw [HL.out];exact hlt)
    have HY:=aA hyes;clear hyes;have HN:=aA hnop;clear hnop;have cases:x<l\/(l<=x/\1073741824<x/\x≠4611686018427387904)\/(l<=x/\x<=1073741824)\/(l<=x/\1073741824<x/\x=4611686018427387904):=by omega
    rcases cases with h | ⟨h,hb1,hb2⟩|⟨h,hb1⟩|⟨h,hb1,hb2⟩
    ·have F:=aA (HN.out (by omega));clear HN HY
     go_wp2
     go_ret
     exact⟨iI F.out.symm,(Below.refl _ _).alloc (Nat.le_refl _) _⟩
    ·have F:=aA (HN.out (fun h=>by have:=(iU x).1 h.2;unfold aG at this;omega));clear HN HY;have hb3:(x != 4611686018427387904)=true:=by simpa using hb2
     clear hb2
     go_wp2
     go_ret
     exact⟨iI F.out.symm,(Below.refl _ _).alloc (Nat.le_refl _) _⟩
    ·have F:=aA (HY.out h ((iU x).2 (.inr hb1)));clear HN HY
     go_wp2
     go_roundg (gk-1)
     case measure=>omega
     case rel=>exact⟨k+1,by omega,by go_num,by unfold jS;rw [if_neg (by omega),Nat.add_sub_cancel,<- HX.out],F.out,rfl⟩
    ·have F:=aA (HY.out h ((iU x).2 (.inl hb2)));clear HN HY;have hb3:(x != 4611686018427387904)=false:=by simpa using hb2
     clear hb2
     go_wp2
     go_roundg (gk-1)
     case measure=>omega
     case rel=>exact⟨k+1,by omega,by go_num,by unfold jS;rw [if_neg (by omega),Nat.add_sub_cancel,<- HX.out],F.out,rfl⟩
   ·have hkn:k=n:=by omega
    clear hlt hkg;subst hkn;have hmono:∀j,j+1<zs.length->aB zs j<=aB zs (j+1):=by
     intro j hj;have:=(HOK.out.out (j+1) (by rw [<- HL.out];exact hj)).1
     unfold jS at this
     rwa [if_neg (by omega),Nat.add_sub_cancel] at this
    have hz:0<=aB zs 0:=by
     have:=(HOK.out.out 0 (by omega)).1
     unfold jS at this
     rwa [if_pos rfl] at this
    obtain⟨l,hl⟩:∃l,l=jS zs k:=⟨_,rfl⟩
    have hl':l=aB zs (k-1):=by rw [hl];unfold jS;rw [if_neg (by omega)]
    have hlv:=HOK.out.out (k-1) (by omega);rw [<- hl'] at hlv;rw [<- hl];clear hl;have hok:((l=aG->(p:Int)=1/\i=0)/\(l≠aG->l<=aB zs (k-p)+i))->Cv.okB ⟨zs,p,i⟩=true:=by
     intro h;refine Cv.okB_true ⟨?_,?_,h3,h4,?_,h6,h7,?_,hz,hmono,?_,?_⟩
     ·show 1<=zs.length;rw [HL.out];omega
     ·show zs.length<=400;rw [HL.out];omega
     ·show(p:Int)<=zs.length;rw [HL.out];omega
     ·intro j hj;exact(HOK.out.out j (by rw [<- HL.out];exact hj)).2
     ·show aB zs (zs.length-1)=aG->_;rw [HL.out,<- hl'];exact h.1
     ·show aB zs (zs.length-1)≠aG->aB zs (zs.length-1)<=aB zs (zs.length-(p:Int).toNat)+i
      rw [HL.out,<- hl',Int.toNat_natCast];exact h.2
    have hno:¬((l=aG->(p:Int)=1/\i=0)/\(l≠aG->l<=aB zs (k-p)+i))->Cv.okB ⟨zs,p,i⟩=false:=by
     intro h;refine Cv.okB_false fun ok=>h ⟨fun e=>?_,fun e=>?_⟩
     ·have:=ok.last
      simp only [HL.out,<- hl'] at this;exact this e
     ·have:=ok.wrap
      simp only [HL.out,<- hl',Int.toNat_natCast] at this;exact this e
    have HY:=aA hok;clear hok;have HN:=aA hno;clear hno;by_cases hli:l=4611686018427387904
    ·clear hmono hz hl' hlv;by_cases hp1:(p:Int)=1
     ·by_cases hi0:i=0
      ·have F:=aA (HY.out ⟨fun _=>⟨hp1,hi0⟩,fun h=>absurd hli h⟩);clear HY HN;have b1:(l == 4611686018427387904)=true:=by simpa using hli
       have b2:(i == 0)=true:=by simpa using hi0
       have b3:((p:Int) == 1)=true:=by simpa using hp1
       clear hli hp1 hi0
       go_wp2
       go_ret
       exact⟨iI F.out.symm,(Below.refl _ _).alloc (Nat.le_refl _) _⟩
      ·have F:=aA (HN.out (fun h=>hi0 (h.1 hli).2));clear HY HN;have b1:(l == 4611686018427387904)=true:=by simpa using hli
       have b2:(i == 0)=false:=by simpa using hi0
       have b3:((p:Int) == 1)=true:=by simpa using hp1
       clear hli hp1 hi0
       go_wp2
       go_ret
       exact⟨iI F.out.symm,(Below.refl _ _).alloc (Nat.le_refl _) _⟩
     ·have F:=aA (HN.out (fun h=>hp1 (h.1 hli).1));clear HY HN;have b1:(l == 4611686018427387904)=true:=by simpa using hli
      have b3:((p:Int) == 1)=false:=by simpa using hp1
      clear hli hp1
      go_wp2
      go_ret
      exact⟨iI F.out.symm,(Below.refl _ _).alloc (Nat.le_refl _) _⟩
    ·have b1:(l == 4611686018427387904)=false:=by simpa using hli
     have hmon:∀a b,a<=b->b<zs.length->aB zs a<=aB zs b:=by
      intro a b hab hb
      induction b with
      | zero=>rw [show a=0 by omega];exact Int.le_refl _
      | succ b ih=>
        by_cases e:a=b+1
        ·rw [e];exact Int.le_refl _
        ·exact Int.le_trans (ih (by omega) (by omega)) (hmono b hb)
     obtain⟨j,hj⟩:∃j,k=j+p:=⟨k-p,by omega⟩
     have hcj:=HC.out j (by omega);have hv1:=hmon j (k-1) (by omega) (by rw [HL.out];omega);have hv0:=hmon 0 j (by omega) (by rw [HL.out];omega);have hlm:l<=1073741824:=by rcases (iU l).1 hlv.2 with h|h;exact absurd h hli;exact h
     rw [<- hl'] at hv1;obtain⟨y,hy⟩:∃y,y=aB zs j:=⟨_,rfl⟩
     rw [show k-p=j by omega,<- hy] at HY HN;rw [<- hy] at hcj hv1 hv0;have HYY:=aA hy;clear hy;have e1:IntKind.i64.wrap ((k:Int)-p)=(j:Int):=by rw [IntWalk.i64_in _ (by omega)];omega
     have e2:IntKind.i64.wrap (y+i)=y+i:=IntWalk.i64_in _ (by omega);have hj1:0<=(j:Int):=by omega
     have hj2:(j:Int)<k:=by omega
     have hj3:j<k:=by omega
     have HJ:=aA hj;clear hj hmono hz hl' hlv hmon hv0 hv1 hli;by_cases hle:l<=y+i
     ·have F:=aA (HY.out ⟨fun h=>absurd h (beq_eq_false_iff_ne.1 b1),fun _=>hle⟩);clear HY HN;have hd:decide (l<=y+i)=true:=by simpa using hle
      go_wp2_with fail
      go_quiet (fail)
      go_wp2
      go_ret
      exact⟨iI F.out.symm,cC ((Below.refl _ _).alloc (Nat.le_refl _) _)⟩
     ·have F:=aA (HN.out (fun h=>hle (h.2 (beq_eq_false_iff_ne.1 b1))));clear HY HN;have hd:decide (l<=y+i)=false:=by simpa using hle
      go_wp2_with fail
      go_quiet (fail)
      go_wp2
      go_ret
      exact⟨iI F.out.symm,cC ((Below.refl _ _).alloc (Nat.le_refl _) _)⟩
 ·refine(a5g A n c p i w hn hd).mono ?_;rintro e w' ⟨rfl,hb⟩;refine⟨iI (Cv.okB_false fun ok=>hd ?_).symm,hb⟩
  have:=ok.n1;have:=ok.n2;have:=ok.p1;have:=ok.p2;have:=ok.pn;have:=ok.i1;have:=ok.i2
  simp only [hl] at *;exact⟨by omega,by omega,by omega,by omega,by omega,by omega,by omega⟩
theorem tK{f:Cv}{er:Int}{w w1:World}{B g0:Nat}{A:Option Addr}{n c:Nat}{x y z:Value}(hf:∀b off s,A=some ⟨b,off,s⟩->B<=b)(h0:w.heap.size<=g0)(hB:g0<B)(hI:aE w1 w1.heap.size A n f.vals)(bw:Below w.heap.size w w1) :
 lC f er w (.returned (.tuple #[.agg #[.slice A n c,.int .i64 f.per,.int .i64 f.inc],.int .i64 er])) (((w1.setCell ⟨g0,0,none⟩ x).setCell ⟨g0,1,none⟩ y).setCell ⟨g0,2,none⟩ z):=
 ⟨A,n,c,rfl,by
  simpa using (((hI.setCell (fun b off s h=>by have:=hf b off s h;simp;omega) _).setCell (fun b off s h=>by have:=hf b off s h;simp;omega) _).setCell (fun b off s h=>by have:=hf b off s h;simp;omega) _),
  (fun b off s h=>by have:=hf b off s h;omega),((bw.setCell (by simpa using h0) _).setCell (by simpa using h0) _).setCell (by simpa using h0) _⟩
theorem a5u(A:Option Addr)(n c:Nat)(p i t:Int)(zs:List Int)(w:World)(hA:aE w w.heap.size A n zs)(hn:(n:Int)<=1000000) :
 Calls Tryz.prog 13 #[.agg #[.slice A n c,.int .i64 p,.int .i64 i],.int .i64 t] w fun e w'=>e = .returned (.tuple #[.int .i64 (Cv.value ⟨zs,p,i⟩ t).1,.int .i64 (Cv.value ⟨zs,p,i⟩ t).2])/\Below w.heap.size w w':=by
 have hl:=hA.1;by_cases ok:Cv.okB ⟨zs,p,i⟩=true
 ·have hok:=Cv.okB_iff.1 ok;by_cases ht:t<0\/1048576<t
  ·have fin:Cv.value ⟨zs,p,i⟩ t=(0,2):=by unfold Cv.value;rw [if_pos ok,if_pos ht]
   rw [fin];clear fin hok;rcases ht with ht|ht
   all_goals
    go_enter Tryz.func13,Tryz.ntmps13
    go_wp2_with fail
    refine(mI A n c p i zs _ (hA.alloc' _) hn).mono ?_;rintro e w1 ⟨rfl,hb⟩;rw [ok];obtain⟨hc,hf⟩:=l6 hb;go_wp2_with fail
    go_ret2
    exact⟨rfl,aD (aF _ _) hb⟩
  ·have fin:Cv.value ⟨zs,p,i⟩ t=(Cv.at ⟨zs,p,i⟩ t.toNat,0):=by unfold Cv.value;rw [if_pos ok,if_neg ht]
   rw [fin];have h0:0<=t:=by omega
   have h1:t<=1048576:=by omega
   clear fin ht;have hn4:=hok.n2;have hp1:=hok.p1;have hpn:=hok.pn;have hi1:=hok.i1;have hi2:=hok.i2;have HNN:=aA hok.nn;simp only [hl] at hn4 hpn hp1 hi1 hi2;clear hok;have HL:=aA hl;clear hl;go_enter Tryz.func13,Tryz.ntmps13
   go_wp2_with fail
   refine(mI A n c p i zs _ (hA.alloc' _) hn).mono ?_;rintro e w1 ⟨rfl,hb⟩;rw [ok];obtain⟨hc,hf⟩:=l6 hb;go_wp2_with fail
   refine(gA A n c p i t zs _ ((hA.alloc' _).ext hb) (by omega) hp1 hpn hi1 (by omega) HNN.out h0 (by omega)).mono ?_;rintro e w2 ⟨rfl,hb2⟩;go_wp2_with fail
   go_ret2
   exact⟨rfl,aD (aD (aF _ _) hb) hb2⟩
 ·have fin:Cv.value ⟨zs,p,i⟩ t=(0,1):=by unfold Cv.value;rw [if_neg ok]
  rw [fin];have ok':Cv.okB ⟨zs,p,i⟩=false:=by simpa using ok
  clear fin ok;go_enter Tryz.func13,Tryz.ntmps13
  go_wp2_with fail
  refine(mI A n c p i zs _ (hA.alloc' _) hn).mono ?_;rintro e w1 ⟨rfl,hb⟩;rw [ok'];obtain⟨hc,hf⟩:=l6 hb;go_wp2_with fail
  go_ret2
  exact⟨rfl,aD (aF _ _) hb⟩
def D3(zs:List Int)(w:World)(e:Ending)(w':World):Prop:=
 ∃A n c,e = .returned (.slice A n c)/\aE w' w'.heap.size A n zs/\(∀b off s,A=some ⟨b,off,s⟩->w.heap.size<=b)/\Below w.heap.size w w'
theorem I4(A:Option Addr)(n c:Nat)(zs:List Int)(w:World)(hA:aE w w.heap.size A n zs)(hn:(n:Int)<=1000000) :
 Calls Tryz.prog 121 #[.slice A n c] w (D3 zs w):=by
 have hnil:=fun (W:World) (a:Option Addr)=>Lib.run_eql_slice_nil (P:=Tryz.prog) W 22 3 a n c 0 0 Tryz.underlying22
 rcases A with _|ad
 ·have hn0:n=0:=by
   rcases Nat.eq_zero_or_pos n with h|h
   ·exact h
   ·obtain⟨b,off,e,_⟩:=hA.2 h;cases e
  have hz:zs = []:=List.eq_nil_of_length_eq_zero (by rw [hA.1,hn0]);subst hz hn0;go_enter Tryz.func121,Tryz.ntmps121
  go_wp2
  go_ret
  exact⟨none,0,0,rfl,aE.none_,(fun b off s h=>by cases h),Below.refl _ _⟩
 ·go_enter Tryz.func121,Tryz.ntmps121
  go_wp2_with (at_builtin;refine zZ rfl _ _ 22 rfl Tryz.underlying22 w.heap.size (.slice (some ⟨w.heap.size,0,none⟩) 0 0) 0 [] rfl (Own.empty_ w (Nat.le_refl _)) _ (some ad) n c zs rfl (hA.alloc' _) (by omega) (by simp) ?_;intro v1 w1 own1 grow1 at1;simp only [Nat.zero_add,List.nil_append] at own1;obtain⟨A1,c1,rfl,hc1,hI1,hf1⟩:=own1.ints)
  go_ret
  exact⟨A1,n,c1,rfl,hI1,hf1,(aF _ _).grown grow1 (by simp) (by simp [Value.ownBlock])⟩
theorem a0t(B:Nat)(A:Option Addr)(n c:Nat)(p i t:Int)(zs:List Int)(w:World)(hB:aC w B 26 #[.slice A n c,.int .i64 p,.int .i64 i])(hA:aE w w.heap.size A n zs)
 (hok:Cv.Ok ⟨zs,p,i⟩) (ht0:0<=t) (ht:t<=2097152) :
 Calls Tryz.prog 122 #[.int .i64 t,.pointer (some ⟨B,0,none⟩)] w fun e w'=>e = .returned (.int .i64 (Cv.at ⟨zs,p,i⟩ t.toNat))/\Below w.heap.size w w':=by
 have hl:=hA.1;have hn4:=hok.n2;have hp1:=hok.p1;have hpn:=hok.pn;have hi1:=hok.i1;have hi2:=hok.i2;have HNN:=aA hok.nn;simp only [hl] at hn4 hpn hp1 hi1 hi2;clear hok;have HL:=aA hl;clear hl;have q0:=hB.cell 0;have q1:=hB.cell 1;have q2:=hB.cell 2;simp at q0 q1 q2;go_enter Tryz.func122,Tryz.ntmps122
 go_wp2_with fail
 refine(gA A n c p i t zs _ hA (by omega) hp1 hpn hi1 (by omega) HNN.out ht0 ht).mono ?_;rintro e w2 ⟨rfl,hb2⟩;go_wp2_with fail
 go_ret
 exact⟨rfl,hb2⟩
theorem S3(x y:Value)(w:World):Sem.run Tryz.prog (callFunc 122 (#[x] ++ #[y])) w = .ok (.enter 122 (#[x] ++ #[y])) w:=by kernel_rfl
theorem jR(A:Option Addr)(n c:Nat)(p i:Int)(zs:List Int)(w:World)(hA:aE w w.heap.size A n zs)(hn:(n:Int)<=1000000) :
 Calls Tryz.prog 90 #[.agg #[.slice A n c,.int .i64 p,.int .i64 i]] w (dI (mQ ⟨zs,p,i⟩) w):=by
 by_cases ok:Cv.okB ⟨zs,p,i⟩=true
 ·have hok:=Cv.okB_iff.1 ok;have hl:=hA.1;have hn4:=hok.n2;have hp1:=hok.p1;have hp2:=hok.p2;have hpn:=hok.pn;have hi1:=hok.i1;have hi2:=hok.i2;simp only [hl] at hn4 hpn hp1 hp2 hi1 hi2;have HOK:=aA hok;clear hok;have HL:=aA hl;clear hl;go_enter Tryz.func90,Tryz.ntmps90
  go_wp2_with fail
  refine(mI A n c p i zs _ ((hA.alloc' _).alloc' _) hn).mono ?_;rintro e w1 ⟨rfl,hb⟩;rw [ok];have hA1:=((hA.alloc' _).alloc' _).ext hb;have fb1:=((aC.new w 26 #[.slice A n c,.int .i64 p,.int .i64 i]).alloc (.cells #[.slice none 0 0,.int .i64 0,.int .i64 0] 26)).below hb (by simp <;> omega);have rb1:=(aC.new (w.alloc (.cells #[.slice A n c,.int .i64 p,.int .i64 i] 26)) 26 #[.slice none 0 0,.int .i64 0,.int .i64 0]).below hb (by simp);simp at rb1;have bw1:=aD (aD (aF w (.cells #[.slice A n c,.int .i64 p,.int .i64 i] 26)) (aF _ _)) hb;have q0:=fb1.cell 0;have q1:=fb1.cell 1;have q2:=fb1.cell 2;have z0:=fb1.frozen 0;simp at q0 q1 q2;clear hb;go_wp2_with fail
  refine(I4 A n c zs _ hA1 hn).mono ?_;rintro e w2 ⟨A2,n2,c2,rfl,hA2,hf2,hb2⟩;have hl2:=hA2.1;obtain rfl:n2=n:=by rw [<- hl2,HL.out]
  have fb2:=(fb1.below hb2 fb1.lt).set_ 0 (.slice A2 n2 c2);have rb2:=(rb1.below hb2 rb1.lt).far (p:=⟨w.heap.size,0,none⟩) (by simp) (.slice A2 n2 c2);have bw2:=(aD bw1 hb2).setCell (p:=⟨w.heap.size,0,none⟩) (by simp) (.slice A2 n2 c2);have hA2':=hA2.setCell (p:=⟨w.heap.size,0,none⟩) (fun b off s e=>by have:=hf2 b off s e;have:=fb1.lt;simp;omega) (.slice A2 n2 c2);have q0:=(fb1.below hb2 fb1.lt).cell 0;have q1:=(fb1.below hb2 fb1.lt).cell 1;have q2:=(fb1.below hb2 fb1.lt).cell 2;have z0:=(fb1.below hb2 fb1.lt).frozen 0;simp at q0 q1 q2 fb2;have hsz2:=hb2.size;clear hb2 fb1 rb1 bw1 hA1;go_wp2_with fail
  have hA3:aE (w2.setCell ⟨w.heap.size,0,none⟩ (.slice A2 n2 c2)) (w2.setCell ⟨w.heap.size,0,none⟩ (.slice A2 n2 c2)).heap.size A2 n2 zs:=by simpa using hA2'
  clear hA2' hA2 hf2 q0 q1 q2 z0;generalize w2.setCell ⟨w.heap.size,0,none⟩ (.slice A2 n2 c2)=w3 at *;have q0:=fb2.cell 0;have q1:=fb2.cell 1;have q2:=fb2.cell 2;simp at q0 q1 q2;have hlf:=fb2.lt;have hlr:=rb2.lt;have HA:=aA hA3;have HFB:=aA fb2;have HRB:=aA rb2;have HBW:=aA bw2;clear hA3 fb2 rb2 bw2;have hd0:0<=(n2:Int)-p:=by omega
  have hat:∀w',Below w3.heap.size w3 w'->Hid (∀(t:Nat) (w1:World),(t:Int)<(n2:Int)-p+p->Below w'.heap.size w' w1->
   Calls Tryz.prog 122 (#[.int .i64 t] ++ #[.pointer (some ⟨w.heap.size,0,none⟩)]) w1 fun e w2=>e = .returned (.int .i64 (Cv.at ⟨zs,p,i⟩ t))/\Below w1.heap.size w1 w2):=by
   intro w' hb' t w1 ht hb1;have hb2:=aD hb' hb1;exact a0t w.heap.size A2 n2 c2 p i t zs w1 (HFB.out.below hb2 hlf) (HA.out.ext hb2) HOK.out (by omega) (by omega)
  have hval:∀k:Nat,(k:Int)<(n2:Int)-p+p->0<=Cv.at ⟨zs,p,i⟩ k/\Cv.at ⟨zs,p,i⟩ k<=4611686018427387904:=by
   intro k hk;have:Cv.at ⟨zs,p,i⟩ k=aB zs k:=by unfold Cv.at;rw [if_pos (by show k<zs.length;rw [HL.out];omega)]
   rw [this];exact HOK.out.nn k
  have HAT:=aA hat;clear hat;have HVAL:=aA hval;clear hval;have fin:∀g er,eW (Cv.at ⟨zs,p,i⟩) ((n2:Int)-p).toNat p.toNat i g er->mQ ⟨zs,p,i⟩ g er:=by
   intro g er h;refine .inl ⟨ok,?_⟩;rw [show(Cv.mk zs p i).vals.length-(Cv.mk zs p i).per.toNat=((n2:Int)-p).toNat by show zs.length-p.toNat=_;rw [HL.out];omega];exact h
  have FIN:=aA fin;clear fin
  go_region_held3 (fun w'=>w'.cell? ⟨w.heap.size,0,none⟩=some (.slice A2 n2 c2)/\w'.cell? ⟨w.heap.size,1,none⟩=some (.int .i64 p)/\w'.cell? ⟨w.heap.size,2,none⟩=some (.int .i64 i)) (go_keep)
   (first
    | (go_at_call 92;refine(dR A2 n2 c2 p i _ (by omega) (by omega) (by omega)).mono ?_;rintro e w4 ⟨rfl,hb4⟩;have q40:=(hb4.cell (p:=⟨w.heap.size,0,none⟩) hlf).trans q0;have q41:=(hb4.cell (p:=⟨w.heap.size,1,none⟩) hlf).trans q1;have q42:=(hb4.cell (p:=⟨w.heap.size,2,none⟩) hlf).trans q2)
    | (go_at_call 64;refine(kN 122 #[.pointer (some ⟨w.heap.size,0,none⟩)] ((n2:Int)-p) p i (Cv.at ⟨zs,p,i⟩) _ hd0 (by omega) hp1 (by omega) hi1 (by omega) HVAL.out (HAT.out _ (by exact lH hb4)) (fun x w=>S3 x _ w)).mono ?_;rintro e w5 ⟨g,er,hg,A5,n5,c5,rfl,hI5,hf5,hb5⟩;have hlf4:=Nat.lt_of_lt_of_le hlf hb4.size;have hlr4:=Nat.lt_of_lt_of_le hlr hb4.size;have q50:=(hb5.cell (p:=⟨w.heap.size,0,none⟩) hlf4).trans q40;have q51:=(hb5.cell (p:=⟨w.heap.size,1,none⟩) hlf4).trans q41;have q52:=(hb5.cell (p:=⟨w.heap.size,2,none⟩) hlf4).trans q42;have rb5:=(HRB.out.below (lH hb4) hlr).below hb5 hlr4;have r0:=rb5.cell 0;have r1:=rb5.cell 1;have r2:=rb5.cell 2;have z0:=rb5.frozen 0;have z1:=rb5.frozen 1;have z2:=rb5.frozen 2;simp at r0 r1 r2;have hlr5:=rb5.lt;have HI5:=aA hI5;clear hI5))
  go_wp2
  all_goals
   have rb6:=rb5.store3 (.slice A5 n5 c5) (.int .i64 g.per) (.int .i64 g.inc);have bw5:Below w.heap.size w w5:=aD (aD HBW.out (lH hb4)) hb5
   exact bodyPost_ret (v:=.tuple #[.agg #[.slice A5 n5 c5,.int .i64 g.per,.int .i64 g.inc],.int .i64 er]) (by simp [results,Tryz.results90,go_sem,rb6.cell]) rfl
    ⟨g,er,FIN.out _ _ hg,tK hf5 (by omega) hlr4 HI5.out bw5⟩
 ·have ok':Cv.okB ⟨zs,p,i⟩=false:=by simpa using ok
  have fin:mQ ⟨zs,p,i⟩ Cv.none 1:=.inr ⟨ok',rfl,rfl⟩;have F:=aA fin;clear fin ok;go_enter Tryz.func90,Tryz.ntmps90
  go_wp2_with fail
  refine(mI A n c p i zs _ ((hA.alloc' _).alloc' _) hn).mono ?_;rintro e w1 ⟨rfl,hb⟩;rw [ok'];have rb1:=(aC.new (w.alloc (.cells #[.slice A n c,.int .i64 p,.int .i64 i] 26)) 26 #[.slice none 0 0,.int .i64 0,.int .i64 0]).below hb (by simp);simp at rb1;have q0:=rb1.cell 0;have q1:=rb1.cell 1;have q2:=rb1.cell 2;have z0:=rb1.frozen 0;have z1:=rb1.frozen 1;have z2:=rb1.frozen 2;simp at q0 q1 q2;have hlr:=rb1.lt;go_wp2_with fail
  have rb5:=rb1.store3 (.slice none 0 0) (.int .i64 0) (.int .i64 0)
  exact bodyPost_ret (v:=.tuple #[.agg #[.slice none 0 0,.int .i64 0,.int .i64 0],.int .i64 1]) (by simp [results,Tryz.results90,go_sem,rb5.cell]) rfl
   ⟨Cv.none,1,F.out,none,0,0,rfl,aE.none_,(fun b off s h=>by cases h),(((aD (aD (aF _ _) (aF _ _)) hb).setCell (by simp) _).setCell (by simp) _).setCell (by simp) _⟩
structure bI(B p:Nat)(w w':World):Prop where
 os:w'.os=w.os
 tape:w'.tape=w.tape
 output:w'.output=w.output
 size:w.heap.size<=w'.heap.size
 block:∀k,k<B->k≠p->w'.heap[k]?=w.heap[k]?
section
variable{B p:Nat}{w w1 w':World}
theorem bI.refl(B p:Nat)(w:World):bI B p w w:=⟨rfl,rfl,rfl,Nat.le_refl _,fun _ _ _=>rfl⟩
theorem bI.trans(h:bI B p w w1)(k:bI B p w1 w'):bI B p w w':=
 ⟨k.os.trans h.os,k.tape.trans h.tape,k.output.trans h.output,Nat.le_trans h.size k.size,fun i hi hp=>(k.block i hi hp).trans (h.block i hi hp)⟩
theorem bI.mono{B':Nat}(h:bI B p w w')(hB:B'<=B):bI B' p w w':=⟨h.os,h.tape,h.output,h.size,fun k hk hp=>h.block k (Nat.lt_of_lt_of_le hk hB) hp⟩
theorem bI.of(h:Below B w w'):bI B p w w':=⟨h.os,h.tape,h.output,h.size,fun k hk _=>h.block k hk⟩
theorem bI.below(h:bI B p w w')(hp:B<=p):Below B w w':=⟨h.os,h.tape,h.output,h.size,fun k hk=>h.block k hk (by omega)⟩
theorem lL(h:bI w.heap.size p w w1)(k:bI w1.heap.size p w1 w'):bI w.heap.size p w w':=h.trans (k.mono h.size)
theorem Y4(h:bI w.heap.size p w w1)(k:Below w1.heap.size w1 w'):bI w.heap.size p w w':=lL h (bI.of k)
theorem sV{n:Nat}(h:bI B p w w'):bI B p w (w'.drewN n):=⟨h.os,h.tape,h.output,h.size,h.block⟩
theorem bI.setCell(h:bI B p w w'){a:Addr}(ha:a.block=p\/B<=a.block)(u:Value):bI B p w (w'.setCell a u):=
 h.trans ⟨rfl,rfl,rfl,by simp [World.setCell],fun k hk hp=>Below.heap_setCell _ _ _ _ (by omega)⟩
theorem aE.kept{n:Nat}{A:Option Addr}{zs:List Int}(h:aE w w.heap.size A n zs)(ha:∀b off s,A=some ⟨b,off,s⟩->b≠p)(k:bI w.heap.size p w w'):aE w' w'.heap.size A n zs:=
 ⟨h.1,fun hn=>by
  obtain⟨b,off,e,hb,hc⟩:=h.2 hn;exact⟨b,off,e,Nat.lt_of_lt_of_le hb k.size,fun j hj=>(World.cell?_of_block (a:=⟨b,off+j,none⟩) (k.block b hb (ha _ _ _ e))).trans (hc j hj)⟩⟩
theorem aC.kept{g:Nat}{t:TypeId}{cs:Array Value}(h:aC w g t cs)(hg:g≠p)(k:bI w.heap.size p w w'):aC w' g t cs:=(k.block g h.lt hg).trans h
end
def bQ(w:World)(p:Nat):Prop:=
 ∃(A:Option Addr) (n c k:Nat) (L:List Int),aC w p 89 #[.slice A n c,.int .i64 k]/\aE w p A n L/\k<=n/\n<=2000
section
variable{w w':World}{p:Nat}
theorem bQ.lt(h:bQ w p):p<w.heap.size:=by
 obtain⟨A,n,c,k,L,h1,_⟩:=h;exact h1.lt
theorem bQ.below{B:Nat}(h:bQ w p)(hb:Below B w w')(hB:p<B):bQ w' p:=by
 obtain⟨A,n,c,k,L,h1,h2,h3,h4⟩:=h;exact⟨A,n,c,k,L,h1.below hb hB,h2.below (hb.mono (Nat.le_of_lt hB)),h3,h4⟩
theorem bQ.ext(h:bQ w p)(hb:Below w.heap.size w w'):bQ w' p:=h.below hb h.lt
theorem bQ.alloc(h:bQ w p)(o:Obj):bQ (w.alloc o) p:=h.ext (aF w o)
theorem bQ.drewN(h:bQ w p)(n:Nat):bQ (w.drewN n) p:=h
theorem bQ.far(h:bQ w p){a:Addr}(ha:p<a.block)(u:Value):bQ (w.setCell a u) p:=by
 obtain⟨A,n,c,k,L,h1,h2,h3,h4⟩:=h;refine⟨A,n,c,k,L,h1.far (by omega) u,h2.keep fun q hq=>World.cell?_setCell_other w a q u (fun e=>by subst e;omega),h3,h4⟩
end
def D5(p:Nat)(n:Int)(w:World)(e:Ending)(w':World):Prop:=
 ∃x:Int,0<=x/\x<n/\e = .returned (.int .i64 x)/\bQ w' p/\bI w.heap.size p w w'
def C5(p:Nat)(w:World)(e:Ending)(w':World):Prop:=
 ∃x:Int,e = .returned (.int .i64 x)/\bQ w' p/\bI w.heap.size p w w'
theorem a12(p:Nat)(w:World)(hS:bQ w p) :
 Calls Tryz.prog 66 #[.pointer (some ⟨p,0,none⟩)] w (C5 p w):=by
 have hS':=hS;obtain⟨A,n,c,k,L,hB,hL,hk,hn⟩:=hS;have q0:=hB.cell 0;have q1:=hB.cell 1;have z1:=hB.frozen 1;simp at q0 q1;have hlt:=hB.lt;by_cases hkn:k=n
 ·subst hkn;have HL:=aA hL;clear hL;have HB:=aA hB;clear hB;have HS:=aA hS';clear hS';go_enter Tryz.func66,Tryz.ntmps66
  go_wp2_with fail
  go_quiet (fail)
  go_wp2
  go_ret
  exact⟨0,rfl,HS.out.drewN _,sV (bI.refl _ _ _)⟩
 ·obtain⟨b,off,rfl,hb,hc⟩:=hL.2 (by omega);have hck:=hc k (by omega);have hd:decide (n<=k)=false:=by simp;omega
  have HL:=aA hL;clear hL;have HB:=aA hB;clear hB;have HS:=aA hS';clear hS';clear hc;go_enter Tryz.func66,Tryz.ntmps66
  go_wp2_with fail
  go_quiet (fail)
  clear hd;go_wp2_with fail
  have e1:IntKind.i64.wrap ((k:Int)+1-1)=(k:Int):=by rw [IntWalk.i64_in _ (by omega)];omega
  have e2:IntKind.i64.wrap (k:Int)=(k:Int):=by rw [IntWalk.i64_in _ (by omega)]
  have hk0:0<=(k:Int):=by omega
  have hk1:(k:Int)<n:=by omega
  have hbp:b≠p:=by omega
  go_quiet (fail)
  go_wp2
  go_ret
  refine⟨_,rfl,bQ.drewN ?_ _,sV (bI.setCell (a:=⟨p,1,none⟩) (sV (bI.refl _ _ _)) (.inl rfl) _)⟩
  exact⟨_,n,c,k+1,L,(HB.out.drewN _).set_ 1 _,(HL.out.drewN _).setCell (fun b' off' s e=>by cases e;exact hbp) _,by omega,hn⟩
theorem a48(x n:Int)(h:1<=n) : -n<x.tmod n/\x.tmod n<n:=by
 constructor
 ·have:=Int.lt_tmod_of_pos x (show 0<n by omega);omega
 ·exact Int.tmod_lt_of_pos x (by omega)
theorem a0o(x n:Int)(w:World)(h1:1<=n)(h2:n<=4611686018427387904) :
 Calls Tryz.prog 65 #[.int .i64 x,.int .i64 n] w fun e w'=>(∃y:Int,0<=y/\y<n/\e = .returned (.int .i64 y))/\w=w':=by
 have hb:=a48 x n h1;obtain⟨y,hy⟩:∃y,x.tmod n=y:=⟨_,rfl⟩
 rw [hy] at hb;by_cases h0:y<0
 ·have fin:Hid (∃z:Int,0<=z/\z<n/\Ending.returned (.int .i64 (y+n)) = .returned (.int .i64 z)):=⟨y+n,by omega,by omega,rfl⟩
  go_enter Tryz.func65,Tryz.ntmps65
  go_wp2
  go_ret
  exact⟨fin.out,rfl⟩
 ·have fin:Hid (∃z:Int,0<=z/\z<n/\Ending.returned (.int .i64 y) = .returned (.int .i64 z)):=⟨y,by omega,by omega,rfl⟩
  go_enter Tryz.func65,Tryz.ntmps65
  go_wp2
  go_ret
  exact⟨fin.out,rfl⟩
theorem j7(p:Nat)(n:Int)(w:World)(hS:bQ w p)(h1:1<=n)(h2:n<=4611686018427387904) :
 Calls Tryz.prog 18 #[.pointer (some ⟨p,0,none⟩),.int .i64 n] w (D5 p n w):=by
 go_enter Tryz.func18,Tryz.ntmps18
 go_wp2_with fail
 refine(a12 p w hS).mono ?_;rintro e w1 ⟨x,rfl,hS1,hk1⟩;go_wp2_with fail
 refine(a0o x n w1 h1 h2).mono ?_;rintro e w2 ⟨⟨y,hy0,hy1,rfl⟩,rfl⟩
 go_wp2
 go_ret
 exact⟨y,hy0,hy1,rfl,hS1,hk1⟩
theorem X7(w:World)(zs:List Int):aE (w.alloc (.cells (zs.map (Value.int .i64)).toArray 3)) (w.alloc (.cells (zs.map (Value.int .i64)).toArray 3)).heap.size (some ⟨w.heap.size,0,none⟩) zs.length zs:=
 aN.ints (aC.new w _ _)
theorem a1f(p:Nat)(A:Option Addr)(n c:Nat)(zs:List Int)(w:World)(hS:bQ w p)(hA:aE w w.heap.size A n zs)(ha:∀b off s,A=some ⟨b,off,s⟩->b≠p)(h1:1<=n)(h2:(n:Int)<=1000000) :
 Calls Tryz.prog 59 #[.pointer (some ⟨p,0,none⟩),.slice A n c] w fun e w'=>(∃j,j<n/\e = .returned (.int .i64 (aB zs j)))/\bQ w' p/\bI w.heap.size p w w':=by
 go_enter Tryz.func59,Tryz.ntmps59
 go_wp2_with fail
 refine(j7 p n w hS (by omega) (by omega)).mono ?_;rintro e w1 ⟨x,hx0,hx1,rfl,hS1,hk1⟩;have hA1:=hA.kept ha hk1;obtain⟨j,rfl⟩:=Int.eq_ofNat_of_zero_le hx0;obtain⟨b,off,rfl,hb,hc⟩:=hA1.2 (by omega);have hcj:=hc j (by omega);have fin:Hid (∃i,i<n/\Ending.returned (.int .i64 (aB zs j)) = .returned (.int .i64 (aB zs i))):=⟨j,by omega,rfl⟩
 have HS:=aA hS1;have HK:=aA hk1;clear hc hA1 hA ha hS hS1 hk1
 go_wp2
 go_ret
 exact⟨fin.out,HS.out,HK.out⟩
theorem a0q(A:Option Addr)(n c:Nat)(zs:List Int)(w:World)(hA:aE w w.heap.size A n zs)(hc:n<=c)(hn:(n:Int)<=9223372036854775807) :
 Calls Tryz.prog 7 #[.slice A n c] w fun e w'=>e = .returned (.pointer (some ⟨w.heap.size,0,none⟩))/\bQ w' w.heap.size/\Below w.heap.size w w':=by
 have hsrc:∀(m:Nat),m<=n->m<=2000->bQ (w.alloc (.cells #[.slice A m c,.int .i64 0] 89)) w.heap.size:=by
  intro m h1 h2;refine⟨A,m,c,0,zs.take m,aC.new w _ _,?_,Nat.zero_le _,h2⟩
  refine⟨by simp [hA.1];omega,fun hm=>?_⟩
  obtain⟨b,off,e,hb,hc⟩:=(hA.alloc (Nat.le_refl _) (.cells #[.slice A m c,.int .i64 0] 89)).2 (by omega);exact⟨b,off,e,hb,fun j hj=>by rw [oZ _ _ _ hj];exact hc j (by omega)⟩
 have HSRC:=aA hsrc;clear hsrc hA;by_cases h2:n<=2000
 ·go_enter Tryz.func7,Tryz.ntmps7
  go_wp2
  go_ret
  exact⟨rfl,HSRC.out n (Nat.le_refl _) h2,aF _ _⟩
 ·go_enter Tryz.func7,Tryz.ntmps7
  go_wp2
  go_ret
  exact⟨rfl,HSRC.out 2000 (by omega) (Nat.le_refl _),aF _ _⟩
theorem X8(w:World)(zs:List Int):aE (w.alloc (.cells (zs.map (Value.int .i64)).toArray 3)) (w.alloc (.cells (zs.map (Value.int .i64)).toArray 3)).heap.size (some ⟨w.heap.size,0,none⟩) zs.length zs:=
 aN.ints (aC.new w _ _)
theorem q9{er:Int}{w w1:World}(bw:Below w.heap.size w w1) :
 lC Cv.none er w (.returned (.tuple #[.agg #[.slice none 0 0,.int .i64 0,.int .i64 0],.int .i64 er])) w1:=
 ⟨none,0,0,rfl,aE.none_,(fun b off s h=>by cases h),bw⟩
def aU(w:World)(g:Nat)(zs:List Int):Prop:=∃cur:Array Value,aC w g 3 cur/\∀j,j<zs.length->cur[j]?=some (.int .i64 (aB zs j))
section
variable{w w':World}{g:Nat}{zs:List Int}
theorem aU.lt(h:aU w g zs):g<w.heap.size:=by obtain⟨cur,h1,_⟩:=h;exact h1.lt
theorem aU.cell(h:aU w g zs)(j:Nat)(hj:j<zs.length):w.cell? ⟨g,j,none⟩=some (.int .i64 (aB zs j)):=by
 obtain⟨cur,h1,h2⟩:=h;rw [h1.cell j];exact h2 j hj
theorem aU.frozen(h:aU w g zs)(j:Nat):w.frozen? ⟨g,j,none⟩=false:=by obtain⟨cur,h1,_⟩:=h;exact h1.frozen j
theorem aU.set_(h:aU w g zs)(k:Nat)(hk:k<zs.length)(x:Int):aU (w.setCell ⟨g,k,none⟩ (.int .i64 x)) g (zs.set k x):=by
 obtain⟨cur,h1,h2⟩:=h;have hkc:k<cur.size:=by
  have:=h2 k hk
  rcases Nat.lt_or_ge k cur.size with e|e
  ·exact e
  ·rw [Array.getElem?_eq_none e] at this;cases this
 refine⟨_,h1.set_ k _,fun j hj=>?_⟩
 rw [eQ _ _ _ _ hk,Array.getElem?_setIfInBounds];by_cases e:j=k
 ·subst e;simp [hkc]
 ·rw [if_neg (by omega),if_neg e];exact h2 j (by simpa using hj)
theorem aU.ints(h:aU w g zs):aE w w.heap.size (some ⟨g,0,none⟩) zs.length zs:=
 ⟨rfl,fun _=>⟨g,0,rfl,h.lt,fun j hj=>by rw [Nat.zero_add];exact h.cell j hj⟩⟩
theorem aU.below{B:Nat}(h:aU w g zs)(hb:Below B w w')(hg:g<B):aU w' g zs:=by obtain⟨cur,h1,h2⟩:=h;exact⟨cur,h1.below hb hg,h2⟩
theorem aU.far(h:aU w g zs){p:Addr}(hp:g≠p.block)(u:Value):aU (w.setCell p u) g zs:=by obtain⟨cur,h1,h2⟩:=h;exact⟨cur,h1.far hp u,h2⟩
end
theorem Own.row0{w:World}{base n c:Nat}{g:Nat}{xs:List Int}(h:Own w base (.slice (some ⟨g,0,none⟩) n c) n xs):aU w g xs:=by
 have hl:=h.len;rcases h.2 with ⟨e,_⟩|⟨g',cap,cur,e,hb,hh,hnc,hcm,hcs,hcur⟩
 ·cases e
 ·injection e with e1 e2 e3
  injection e1 with e1
  injection e1 with e1
  subst e1;refine⟨cur,hh,fun j hj=>?_⟩
  have:(cur.toList.take (n*1))[j]?=some (.int .i64 (aB xs j)):=by
   rw [hcur];simp [aB,hj]
  rw [List.getElem?_take,if_pos (by omega)] at this
  simpa using this
theorem aU.drew{w:World}{g:Nat}{zs:List Int}(h:aU w g zs):aU w.drew g zs:=h
theorem aU.alloc{w:World}{g:Nat}{zs:List Int}(h:aU w g zs)(o:Obj):aU (w.alloc o) g zs:=h.below (aF w o) h.lt
def j6(r:Int):Cv × Int:=if r<0 then (Cv.none,2) else if 1073741824<r then (Cv.none,3) else (⟨[0],1,r⟩,0)
def fF(t:Int):Cv × Int:=if t<0 then (Cv.none,2) else if 398<t then (Cv.none,3) else (⟨List.replicate (t.toNat+1) 0 ++ [aG],1,0⟩,0)
theorem a0b(r:Int)(w:World):Calls Tryz.prog 81 #[.int .i64 r] w (lC (j6 r).1 (j6 r).2 w):=by
 by_cases h0:r<0
 ·rw [show j6 r=(Cv.none,2) by unfold j6;rw [if_pos h0]];go_enter Tryz.func81,Tryz.ntmps81
  go_wp2
  exact bodyPost_ret (v:=.tuple #[.agg #[.slice none 0 0,.int .i64 0,.int .i64 0],.int .i64 2]) (by simp [results,Tryz.results81,go_sem]) rfl (q9 (aF _ _))
 ·by_cases h1:1073741824<r
  ·rw [show j6 r=(Cv.none,3) by unfold j6;rw [if_neg h0,if_pos h1]];go_enter Tryz.func81,Tryz.ntmps81
   go_wp2
   exact bodyPost_ret (v:=.tuple #[.agg #[.slice none 0 0,.int .i64 0,.int .i64 0],.int .i64 3]) (by simp [results,Tryz.results81,go_sem]) rfl (q9 (aF _ _))
  ·rw [show j6 r=(⟨[0],1,r⟩,0) by unfold j6;rw [if_neg h0,if_neg h1]];have hI:=X8 (w.alloc (.cells #[.slice (some ⟨w.heap.size+1,0,none⟩) 1 1,.int .i64 1,.int .i64 r] 26)) [0];rw [show(w.alloc (.cells #[.slice (some ⟨w.heap.size+1,0,none⟩) 1 1,.int .i64 1,.int .i64 r] 26)).heap.size=w.heap.size+1 by simp] at hI;have HI:=aA hI;clear hI;go_enter Tryz.func81,Tryz.ntmps81
   go_wp2
   exact bodyPost_ret (v:=.tuple #[.agg #[.slice (some ⟨w.heap.size+1,0,none⟩) 1 1,.int .i64 1,.int .i64 r],.int .i64 0]) (by simp [results,Tryz.results81,go_sem]) rfl
    ⟨_,1,1,rfl,HI.out,(fun b off s h=>by cases h;omega),aD (aF _ _) (aF _ _)⟩
theorem a5i(t:Nat):(List.replicate (t+2) (0:Int)).set (t+1) aG=List.replicate (t+1) 0 ++ [aG]:=by
 refine nF (by simp) (fun k hk=>?_);simp at hk;rw [eQ _ _ _ _ (by simp),xP,List.length_replicate];by_cases e:k=t+1
 ·subst e;simp [aB]
 ·rw [if_neg e,if_pos (by omega),tC,tC]
theorem a5h(t:Int)(w:World):Calls Tryz.prog 130 #[.int .i64 t] w (lC (fF t).1 (fF t).2 w):=by
 by_cases h0:t<0
 ·rw [show fF t=(Cv.none,2) by unfold fF;rw [if_pos h0]];go_enter Tryz.func130,Tryz.ntmps130
  go_wp2
  exact bodyPost_ret (v:=.tuple #[.agg #[.slice none 0 0,.int .i64 0,.int .i64 0],.int .i64 2]) (by simp [results,Tryz.results130,go_sem]) rfl (q9 (aF _ _))
 ·by_cases h1:398<t
  ·rw [show fF t=(Cv.none,3) by unfold fF;rw [if_neg h0,if_pos h1]];go_enter Tryz.func130,Tryz.ntmps130
   go_wp2
   exact bodyPost_ret (v:=.tuple #[.agg #[.slice none 0 0,.int .i64 0,.int .i64 0],.int .i64 3]) (by simp [results,Tryz.results130,go_sem]) rfl (q9 (aF _ _))
  ·rw [show fF t=(⟨List.replicate (t.toNat+1) 0 ++ [aG],1,0⟩,0) by unfold fF;rw [if_neg h0,if_neg h1]];obtain⟨t,rfl⟩:=Int.eq_ofNat_of_zero_le (show 0<=t by omega);rw [Int.toNat_natCast];obtain⟨i0,hi0,hz0,hz1,hz2⟩:=info_parts iE;go_enter Tryz.func130,Tryz.ntmps130
   go_wp2_with (at_make;refine wpList_make_full _ rfl _ _ 22 rfl w.heap.size 3 i0 _ 1 Tryz.underlying22 hi0 hz0 hz1 .i64 .i64 _ _ (t+2) rfl rfl rfl rfl (by rw [hz2];omega) (by unfold maxLen;omega) (by simp) ?_;intro w1 own1 grow1;have bw1:Below w.heap.size w w1:=((Below.refl _ _).alloc (Nat.le_refl _) _).grown grow1 (by simp) (by simp);have ib1:=aN.made own1 (by omega);have rb1:aC w1 w.heap.size 26 #[.slice none 0 0,.int .i64 0,.int .i64 0]:=(aC.new w _ _).grown grow1 (by simp);rw [show(w.alloc (.cells #[.slice none 0 0,.int .i64 0,.int .i64 0] 26)).heap.size=w.heap.size+1 by simp] at ib1;have hsz1:=ib1.lt;have c1:=ib1.cell (t+1) (by simp);have f1:=ib1.frozen (t+1);have ib2:=ib1.set_ (t+1) aG;rw [a5i] at ib2;have r0:=rb1.cell 0;have r1:=rb1.cell 1;have r2:=rb1.cell 2;have z0:=rb1.frozen 0;have z1:=rb1.frozen 1;have z2:=rb1.frozen 2;simp at r0 r1 r2;have RB:=aA rb1;have IB:=aA ib2;have BW:=aA bw1;clear own1 grow1 hi0 hz0 hz1 hz2 bw1 ib1 ib2 rb1)
   have rb2:=(RB.out.far (p:=⟨w.heap.size+1,t+1,none⟩) (by simp) (.int .i64 4611686018427387904)).store3 (.slice (some ⟨w.heap.size+1,0,none⟩) (t+2) (t+2)) (.int .i64 1) (.int .i64 0);have hI:=IB.out.ints;rw [show(List.replicate (t+1) (0:Int) ++ [aG]).length=t+2 by simp] at hI
   exact bodyPost_ret (v:=.tuple #[.agg #[.slice (some ⟨w.heap.size+1,0,none⟩) (t+2) (t+2),.int .i64 1,.int .i64 0],.int .i64 0]) (by simp [results,Tryz.results130,go_sem,rb2.cell]) rfl
    (tK (B:=w.heap.size+1) (fun b off s h=>by cases h;omega) (Nat.le_refl _) (by omega) (f:=⟨List.replicate (t+1) 0 ++ [aG],1,0⟩) hI (BW.out.setCell (by simp) _))
theorem S4(A B:Option Addr)(n m c d:Nat)(xs ys:List Int)(w:World)(hA:aE w w.heap.size A n xs)(hB:aE w w.heap.size B m ys)(hn:(n:Int)<=1000000)(hm:(m:Int)<=1000000) :
 Calls Tryz.prog 124 #[.slice A n c,.slice B m d] w fun e w'=>e = .returned (.bool (fE xs ys))/\Below w.heap.size w w':=by
 have hl:=hA.1;have hl2:=hB.1;by_cases hnm:n=m
 ·subst hnm;have b1:((n:Int) != n)=false:=by simp
  have HL:=aA hl;clear hl;have HL2:=aA hl2;clear hl2;go_enter Tryz.func124,Tryz.ntmps124
  go_wp2
  clear b1;go_loopg [13] n (fun g t wx=>∃k:Nat,k+g=n/\t = .int .i64 k/\Hid (∀j,j<k->aB xs j=aB ys j)/\Below w.heap.size w wx)
  case atStart=>exact⟨0,by omega,rfl,(fun j hj=>by omega),Below.refl _ _⟩
  case round=>
   obtain⟨k,hkg,rfl,hok,bw⟩:=hrel;have HOK:=aA hok;clear hok;by_cases hlt:k<n
   ·obtain⟨b,off,rfl,hb,hc⟩:=(hA.ext bw).2 (by omega);obtain⟨b2,off2,rfl,hb2,hc2⟩:=(hB.ext bw).2 (by omega);have hck:=hc k hlt;have hck2:=hc2 k hlt;obtain⟨x,hx⟩:∃x,x=aB xs k:=⟨_,rfl⟩
    obtain⟨y,hy⟩:∃y,y=aB ys k:=⟨_,rfl⟩
    rw [<- hx] at hck;rw [<- hy] at hck2;have HA:=aA hA;clear hA;have HB:=aA hB;clear hB;have HX:=aA hx;clear hx;have HY:=aA hy;clear hy;clear hc hc2;have hk0:0<=(k:Int):=by omega
    have hk1:(k:Int)<n:=by omega
    by_cases hxy:x=y
    ·have b1:(x != y)=false:=by simp [hxy]
     have HXY:=aA hxy;clear hxy;go_wp2_with fail
     go_quiet (fail)
     go_wp2
     go_roundg (gk-1)
     case measure=>omega
     case rel=>
      refine⟨k+1,by omega,by go_num,fun j hj=>?_,cC bw⟩
      by_cases e:j=k
      ·rw [e,<- HX.out,<- HY.out];exact HXY.out
      ·exact HOK.out.out j (by omega)
    ·have b1:(x != y)=true:=by simpa using hxy
     have F:Hid (fE xs ys=false):=qG (fun e=>hxy (by rw [HX.out,HY.out,e]));clear hxy;go_wp2_with fail
     go_quiet (fail)
     go_wp2
     go_ret
     exact⟨iI F.out.symm,cC bw⟩
   ·have F:Hid (fE xs ys=true):=sJ (nF (by rw [HL.out,HL2.out]) (fun j hj=>HOK.out.out j (by rw [HL.out] at hj;omega)))
    go_wp2
    go_ret
    exact⟨iI F.out.symm,bw⟩
 ·have b1:((n:Int) != m)=true:=by simp;omega
  have F:Hid (fE xs ys=false):=qG (fun e=>hnm (by rw [<- hl,<- hl2,e]));clear hl hl2 hnm;go_enter Tryz.func124,Tryz.ntmps124
  go_wp2
  go_ret
  exact⟨iI F.out.symm,Below.refl _ _⟩
theorem a3i(A B:Option Addr)(n m c d:Nat)(p q i j:Int)(xs ys:List Int)(w:World)(hA:aE w w.heap.size A n xs)(hB:aE w w.heap.size B m ys)(hn:(n:Int)<=1000000)(hm:(m:Int)<=1000000) :
 Calls Tryz.prog 101 #[.agg #[.slice A n c,.int .i64 p,.int .i64 i],.agg #[.slice B m d,.int .i64 q,.int .i64 j]] w fun e w'=>e = .returned (.bool (Cv.same ⟨xs,p,i⟩ ⟨ys,q,j⟩))/\Below w.heap.size w w':=by
 have fin:Cv.same ⟨xs,p,i⟩ ⟨ys,q,j⟩=(fE xs ys && p == q && i == j):=rfl;rw [fin];clear fin;have cases:fE xs ys=false\/(fE xs ys=true/\(p == q)=false)\/(fE xs ys=true/\(p == q)=true):=by
  cases fE xs ys <;> cases (p == q) <;> simp
 have hA2:=(hA.alloc' (.cells #[.slice A n c,.int .i64 p,.int .i64 i] 26)).alloc' (.cells #[.slice B m d,.int .i64 q,.int .i64 j] 26);have hB2:=(hB.alloc' (.cells #[.slice A n c,.int .i64 p,.int .i64 i] 26)).alloc' (.cells #[.slice B m d,.int .i64 q,.int .i64 j] 26);have HA:=aA hA2;have HB:=aA hB2;clear hA hB hA2 hB2;rcases cases with h1 | ⟨h1,h2⟩|⟨h1,h2⟩
 all_goals
  go_enter Tryz.func101,Tryz.ntmps101
  go_wp2_with fail
  refine(S4 A B n m c d xs ys _ HA.out HB.out hn hm).mono ?_;rintro e w1 ⟨rfl,hb⟩;rw [h1];obtain⟨hc,hf⟩:=l6 hb;go_wp2_with fail
  go_ret
  exact⟨by first|(simp [h1,h2];done)|simp [h1],aD (aD (aF _ _) (aF _ _)) hb⟩
def bM(S:Prop)(w:World)(e:Ending)(w':World):Prop:=(∃b,(b=true↔S)/\e = .returned (.bool b))/\Below w.heap.size w w'
theorem bM.no{S:Prop}{w w':World}(h:¬S)(hb:Below w.heap.size w w'):bM S w (.returned (.bool false)) w':=⟨⟨false,⟨(fun e=>by cases e),(fun e=>absurd e h)⟩,rfl⟩,hb⟩
theorem bM.yes{S:Prop}{w w':World}(h:S)(hb:Below w.heap.size w w'):bM S w (.returned (.bool true)) w':=⟨⟨true,⟨fun _=>h,fun _=>rfl⟩,rfl⟩,hb⟩
end Go.Proofs.YtaejfleahamapaaGreat
