/- . -/
import Derived.BigQuiet
import Derived.Deep.QuietTactic
import Derived.Outline
import Derived.Deep.LoopGhost
import Derived.Test.YtaejfleahamapaaGreatTd7
namespace Go.Proofs.YtaejfleahamapaaGreat
set_option linter.unusedVariables false
set_option linter.unusedSimpArgs false
set_option maxHeartbeats 2000000
set_option maxRecDepth 100000
open Go.RowKit
theorem dR(A:Option Addr)(n c:Nat)(p i:Int)(w:World)(hn:(n:Int)<=1000)(h1:0<=p)(h2:p<=1000) :
 Calls Tryz.prog 92 #[.agg #[.slice A n c,.int .i64 p,.int .i64 i]] w fun e w'=>e = .returned (.int .i64 (n-p))/\Below w.heap.size w w':=by
 go_enter Tryz.func92,Tryz.ntmps92
 go_wp2
 go_ret
 exact⟨rfl,(Below.refl _ _).alloc (Nat.le_refl _) _⟩
theorem gN(A:Option Addr)(n c:Nat)(p i:Int)(zs:List Int)(w:World)(hA:aE w w.heap.size A n zs)(hn0:0<n)(hn:(n:Int)<=1000) :
 Calls Tryz.prog 95 #[.agg #[.slice A n c,.int .i64 p,.int .i64 i]] w fun e w'=>e = .returned (.bool (aB zs (n-1) != aG))/\Below w.heap.size w w':=by
 obtain⟨b,off,rfl,hb,hc⟩:=hA.2 hn0;obtain⟨m,rfl⟩:∃m,n=m+1:=⟨n-1,by omega⟩
 have hm:=hc m (by omega);clear hA hc;rw [Nat.add_sub_cancel];go_enter Tryz.func95,Tryz.ntmps95
 go_wp2
 go_ret
 exact⟨rfl,(Below.refl _ _).alloc (Nat.le_refl _) _⟩
theorem iV{k:IntKind}{a b:Int}(h:a=b):Ending.returned (.int k a) = .returned (.int k b):=by rw [h]
theorem gA(A:Option Addr)(n c:Nat)(p i t:Int)(zs:List Int)(w:World)(hA:aE w w.heap.size A n zs)(hn:(n:Int)<=1000)
 (hp:1<=p) (hpn:p<=n) (hi:0<=i) (hi2:i<=1099511627776) (hz:∀k,0<=aB zs k/\aB zs k<=4611686018427387904) (ht0:0<=t) (ht:t<=2097152) :
 Calls Tryz.prog 43 #[.agg #[.slice A n c,.int .i64 p,.int .i64 i],.int .i64 t] w fun e w'=>e = .returned (.int .i64 (Cv.at ⟨zs,p,i⟩ t.toNat))/\Below w.heap.size w w':=by
 obtain⟨p,rfl⟩:=Int.eq_ofNat_of_zero_le (show 0<=p by omega);obtain⟨t,rfl⟩:=Int.eq_ofNat_of_zero_le ht0;obtain⟨b,off,rfl,hb,hc⟩:=hA.2 (by omega);have hl:=hA.1;by_cases hlt:t<n
 ·have hcell:=hc t hlt;clear hc hz hA;have fin:Cv.at ⟨zs,p,i⟩ t=aB zs t:=by simp [Cv.at,hl,hlt]
  have F:=aA fin;clear fin;have HL:=aA hl;clear hl;go_enter Tryz.func43,Tryz.ntmps43
  go_wp2
  go_ret
  exact⟨by rw [<- F.out];rfl,(Below.refl _ _).alloc (Nat.le_refl _) _⟩
 ·obtain⟨h1,h2,h3⟩:=oR (t:=t) (n:=n) (p:=p) (by omega) (by omega) (by omega);have e1:((t:Int)-n) / p=(((t-n) / p:Nat):Int):=by rw [show(t:Int)-n=((t-n:Nat):Int) by omega];rfl
  have fin:Cv.at ⟨zs,p,i⟩ t=if aB zs (t-((t-n) / p+1)*p)=aG then aG else aB zs (t-((t-n) / p+1)*p)+(((t-n) / p+1:Nat):Int)*i:=by simp [Cv.at,hl,hlt]
  have hq:(t-n) / p<=t:=by have:=Nat.div_le_self (t-n) p;omega
  generalize (t-n) / p=q at *;obtain⟨j,hj⟩:∃j,t-(q+1)*p=j:=⟨_,rfl⟩
  rw [hj] at fin h2 h3;have hki:((q:Int)+1)*i<=2097153*1099511627776:=by
   refine Int.le_trans (Int.mul_le_mul_of_nonneg_left hi2 (by omega)) ?_;omega
  have hki0:0<=((q:Int)+1)*i:=Int.mul_nonneg (by omega) hi;have hpp:((q:Int)+1)*p=((q+1)*p:Nat):=by simp
  have hqp0:0<=((q:Int)+1)*p:=by omega
  have hqp1:((q:Int)+1)*p<=t:=by omega
  have e2:(t:Int)-((q:Int)+1)*p=j:=by omega
  have hcell:=hc _ h2;have hzz:=hz j;generalize aB zs j=v at *;clear hc hz hA hpp hj h1;have F:=aA fin;clear fin;have HL:=aA hl;clear hl;rw [show((q+1:Nat):Int)=(q:Int)+1 by omega] at F;by_cases hv:v=aG
  ·subst hv;unfold aG at hcell hzz;go_enter Tryz.func43,Tryz.ntmps43
   go_wp2
   go_ret
   exact⟨iV (by rw [F.out,if_pos trivial];rfl),(Below.refl _ _).alloc (Nat.le_refl _) _⟩
  ·have hv':(v == 4611686018427387904)=false:=by simp only [beq_eq_false_iff_ne];exact hv
   rw [if_neg hv] at F;clear hv;go_enter Tryz.func43,Tryz.ntmps43
   go_wp2
   go_ret
   exact⟨iV F.out.symm,(Below.refl _ _).alloc (Nat.le_refl _) _⟩
def lC(f:Cv)(er:Int)(w:World)(e:Ending)(w':World):Prop:=
 ∃A n c,e = .returned (.tuple #[.agg #[.slice A n c,.int .i64 f.per,.int .i64 f.inc],.int .i64 er])/\aE w' w'.heap.size A n f.vals/\(∀b off s,A=some ⟨b,off,s⟩->w.heap.size<=b)/\Below w.heap.size w w'
def lD(f:Cv)(er:Int)(w:World)(e:Ending)(w':World):Prop:=
 ∃A n c,n<=c/\e = .returned (.tuple #[.agg #[.slice A n c,.int .i64 f.per,.int .i64 f.inc],.int .i64 er])/\aE w' w'.heap.size A n f.vals/\(∀b off s,A=some ⟨b,off,s⟩->w.heap.size<=b)/\Below w.heap.size w w'
theorem lD.to{f:Cv}{er:Int}{w w':World}{e:Ending}(h:lD f er w e w'):lC f er w e w':=by
 obtain⟨A,n,c,_,h⟩:=h;exact⟨A,n,c,h⟩
theorem vO(A:Option Addr)(n c:Nat)(p i:Int)(zs:List Int)(w:World)(hA:aE w w.heap.size A n zs)(hn:(n:Int)<=1000000) :
 Calls Tryz.prog 105 #[.slice A n c,.int .i64 p,.int .i64 i] w (lD (chk zs p i).1 (chk zs p i).2 w):=by
 have hl:=hA.1;by_cases h400:400<n
 ·have F:chk zs p i=(Cv.none,3):=by unfold chk;rw [if_neg];omega
  rw [F];clear F;go_enter Tryz.func105,Tryz.ntmps105
  go_wp2
  exact bodyPost_ret (v:=.tuple #[.agg #[.slice none 0 0,.int .i64 0,.int .i64 0],.int .i64 3]) (by simp [results,Tryz.results105,go_sem]) rfl
   ⟨none,0,0,Nat.le_refl _,rfl,aE.none_,(fun b off s h=>by cases h),(Below.refl _ _).alloc (Nat.le_refl _) _⟩
 ·go_enter Tryz.func105,Tryz.ntmps105
  go_wp2
  go_loop [16] (fun t=>∃k:Nat,k<=n/\t = .int .i64 k/\Hid (∀j,j<k->gR (aB zs j)=true)) (fun t=>n-(intOf t).toNat)
  case atStart=>exact⟨0,Nat.zero_le _,rfl,by intro j hj;omega⟩
  case round=>
   obtain⟨k,hk,rfl,hok⟩:=hrel;by_cases hlt:k<n
   ·obtain⟨b,off,rfl,hb,hc⟩:=hA.2 (by omega);have hcell:=hc k hlt;clear hc hA;have HL:=aA hl;clear hl;obtain⟨x,hx⟩:∃x,x=aB zs k:=⟨_,rfl⟩
    rw [<- hx] at hcell;have HX:=aA hx;clear hx;have hok':gR x=true->Hid (∀j,j<k+1->gR (aB zs j)=true):=by
     intro hx j hj;by_cases e:j=k
     ·subst e;rw [<- HX.out];exact hx
     ·exact hok j (by omega)
    have hbad:gR x=false->chk zs p i=(Cv.none,3):=by
     intro hx;unfold chk;rw [if_neg];intro h;have:=h.2 k (by rw [HL.out];exact hlt)
     rw [<- HX.out,hx] at this;cases this
    have h1:=aA hok';clear hok';have h2:=aA hbad;clear hbad;clear hok;by_cases hi:x=4611686018427387904
    ·have hb1:(x != 4611686018427387904)=false:=by rw [hi];decide
     have h1':=aA (h1.out (by rw [hi];decide));clear h1 h2;clear hi
     go_wp2
     go_round
     case rel=>exact⟨k+1,by omega,by go_num,h1'.out⟩
     case measure=>simp [intOf];omega
    ·have hb1:(x != 4611686018427387904)=true:=by simpa using hi
     by_cases hm:x<=1073741824
     ·have h1':=aA (h1.out (by simp [gR,hm]));clear h1 h2 hi
      go_wp2
      go_round
      case rel=>exact⟨k+1,by omega,by go_num,h1'.out⟩
      case measure=>simp [intOf];omega
     ·have h2':=aA (h2.out (by simp only [gR,aG,Bool.or_eq_false_iff,beq_eq_false_iff_ne,decide_eq_false_iff_not];exact⟨hi,hm⟩));clear h1 h2 hi
      go_wp2
      rw [h2'.out]
      exact bodyPost_ret (v:=.tuple #[.agg #[.slice none 0 0,.int .i64 0,.int .i64 0],.int .i64 3]) (by simp [results,Tryz.results105,go_sem]) rfl
       ⟨none,0,0,Nat.le_refl _,rfl,aE.none_,(fun b off s h=>by cases h),(Below.refl _ _).alloc (Nat.le_refl _) _⟩
   ·have hkn:k=n:=by omega
    have fin:chk zs p i=(⟨zs,p,i⟩,0):=by
     unfold chk;rw [if_pos];exact⟨by omega,fun j hj=>hok j (by omega)⟩
    have F:=aA fin;clear fin hok hkn;have HL:=aA hl;clear hl;have hA':=hA.alloc (Nat.le_refl _) (.cells #[Value.slice none 0 0,Value.int IntKind.i64 0,Value.int IntKind.i64 0] 26);have HA:=aA hA';clear hA' hA;go_wp2_with (at_builtin;refine zZ rfl _ _ 22 rfl Tryz.underlying22 (w.heap.size+1) (.slice none 0 0) 0 [] rfl (Own.nil_ _ _) _ A n c zs rfl HA.out (by omega) (by simp) ?_;intro v1 w1 own1 grow1 at1;simp only [Nat.zero_add,List.nil_append] at own1;obtain⟨A1,c1,rfl,hc1,hI1,hf1⟩:=own1.ints;have bw1:Below w.heap.size w w1:=((Below.refl _ _).alloc (Nat.le_refl _) _).grown grow1 (by simp) (by simp [Value.ownBlock]);have rb:aC w1 w.heap.size 26 #[.slice none 0 0,.int .i64 0,.int .i64 0]:=(aC.new w _ _).grown grow1 (by simp [Value.ownBlock]);have hlt1:=rb.lt;have q0:=rb.cell 0;have q1:=rb.cell 1;have q2:=rb.cell 2;have z0:=rb.frozen 0;have z1:=rb.frozen 1;have z2:=rb.frozen 2;simp at q0 q1 q2;clear own1 grow1)
    have rb3:=rb.store3 (.slice A1 n c1) (.int .i64 p) (.int .i64 i);rw [F.out]
    exact bodyPost_ret (v:=.tuple #[.agg #[.slice A1 n c1,.int .i64 p,.int .i64 i],.int .i64 0]) (by simp [results,Tryz.results105,go_sem,rb3.cell]) rfl
     ⟨A1,n,c1,hc1,rfl,by simpa using (((hI1.setCell (fun b off s h=>by have:=hf1 b off s h;simp;omega) _).setCell (fun b off s h=>by have:=hf1 b off s h;simp;omega) _).setCell (fun b off s h=>by have:=hf1 b off s h;simp;omega) _),
      (fun b off s h=>by have:=hf1 b off s h;omega),((bw1.setCell (by simp) _).setCell (by simp) _).setCell (by simp) _⟩
def C0(zs:List Int)(inc:Int)(w:World)(e:Ending)(w':World):Prop:=
 ∃q:Nat,e = .returned (.int .i64 q)/\1<=q/\q<=zs.length/\(q=zs.length\/LT zs inc q)/\(∀r,1<=r->r<q->¬LT zs inc r)/\w=w'
theorem Z6(A:Option Addr)(n c:Nat)(inc:Int)(zs:List Int)(w:World)(hA:aE w w.heap.size A n zs)(hn1:1<=n)(hn:(n:Int)<=1000000)
 (hi:0<=inc) (hi2:inc<=1099511627776) (hz:∀k,0<=aB zs k/\aB zs k<=4611686018427387904) :
 Calls Tryz.prog 104 #[.slice A n c,.int .i64 inc] w (C0 zs inc w):=by
 obtain⟨b,off,rfl,hb,hc⟩:=hA.2 (by omega);have hl:=hA.1;clear hA;have HC:=aA hc;clear hc;have HZ:=aA hz;clear hz;have HL:=aA hl;clear hl;go_enter Tryz.func104,Tryz.ntmps104
 go_wp2
 go_step3
 go_wp2
 go_step3
 go_wp2
 go_loopg [6] n (fun g t wr=>∃p:Nat,1<=p/\p+g=n+1/\t = .int .i64 p/\Hid (∀r,1<=r->r<p->¬LT zs inc r)/\w=wr)
 case atStart=>exact⟨1,Nat.le_refl _,by omega,rfl,(by intro r h1 h2;omega),rfl⟩
 case round=>
  obtain⟨p,hp1,hpg,rfl,hno,rfl⟩:=hrel;have HNO:=aA hno;clear hno;by_cases hlt:p<n
  ·have hip:inc*(p:Int)<=1099511627776*1000000:=by
    refine Int.le_trans (Int.mul_le_mul_of_nonneg_right hi2 (by omega)) ?_;omega
   have hip0:0<=inc*(p:Int):=Int.mul_nonneg hi (by omega);have hnext:¬LT zs inc p->Hid (∀r,1<=r->r<p+1->¬LT zs inc r):=by
    intro h r h1 h2;by_cases e:r=p
    ·subst e;exact h
    ·exact HNO.out.out r h1 (by omega)
   have HN:=aA hnext;clear hnext;by_cases t1:((n:Int) % p=0/\inc*p % n=0)
   ·have b1:((n:Int) % p != 0)=false:=by simp [t1.1]
    have b2:(inc*(p:Int) % n != 0)=false:=by simp [t1.2]
    obtain⟨st,hst⟩:∃st,inc*(p:Int) / n=st:=⟨_,rfl⟩
    have T1:=aA t1;clear t1;have hs0:0<=st:=by rw [<- hst];exact Int.ediv_nonneg hip0 (by omega)
    have hs1:st<=1099511627776*1000000:=by rw [<- hst];exact Int.le_trans (Int.ediv_le_self _ hip0) hip
    go_wp2
    rw [hst];have HST:=aA hst;clear hst;clear b1 b2 hip hip0;obtain⟨G,rfl⟩:∃G,G=gk:=⟨_,rfl⟩
    go_loopg [36] n (fun g t wx=>∃j:Nat,j+g=n/\t = .int .i64 j/\Hid (∀i,i<j->jJ zs inc p i)/\w=wx)
    case atStart=>exact⟨0,by omega,rfl,(by intro r h1;omega),rfl⟩
    case round=>
     obtain⟨j,hjg,rfl,hok,rfl⟩:=hrel;have HOK:=aA hok;clear hok;by_cases hj:j<n
     ·have hcj:=HC.out j hj;obtain⟨x,hx⟩:∃x,x=aB zs j:=⟨_,rfl⟩
      have hx0:=HZ.out j;rw [<- hx] at hcj hx0;have HX:=aA hx;clear hx;have hyes:jJ zs inc p j->Hid (∀i,i<j+1->jJ zs inc p i):=by
       intro h i hi;by_cases e:i=j
       ·subst e;exact h
       ·exact HOK.out.out i (by omega)
      have HY:=aA hyes;clear hyes;have hbad:¬jJ zs inc p j->Hid (∀r,1<=r->r<p+1->¬LT zs inc r):=fun h=>HN.out (fun h2=>h (h2.2 j (by rw [HL.out];exact hj)))
      have HB:=aA hbad;clear hbad;by_cases hjp:j+p<n
      ·have hcy:=HC.out (j+p) hjp;obtain⟨y,hy⟩:∃y,y=aB zs (j+p):=⟨_,rfl⟩
       rw [<- hy] at hcy;have hlt:jJ zs inc p j↔y=x+st:=by
        unfold jJ;rw [HL.out,if_pos hjp,<- hy,HX.out,HST.out]
       clear hy;by_cases hyx:y=x+st
       ·have b3:(y != x+st)=false:=by simp [hyx]
        have H3:=aA (HY.out (hlt.2 hyx));clear hlt hyx
        go_wp2
        go_roundg (gk-1)
        case measure=>omega
        case rel=>exact⟨j+1,by omega,by go_num,H3.out,rfl⟩
       ·have b3:(y != x+st)=true:=by simpa using hyx
        have H3:=aA (HB.out (fun h=>hyx (hlt.1 h)));clear hlt hyx
        go_wp2
        go_roundg (G-1)
        case measure=>omega
        case rel=>exact⟨p+1,by omega,by omega,by go_num,H3.out,rfl⟩
      ·obtain⟨q,hq⟩:∃q,j+p=n+q:=⟨j+p-n,by omega⟩
       have hq':(j:Int)+p-n=q:=by omega
       have hqn:q<n:=by omega
       have hcy:=HC.out q hqn;have hy0:=HZ.out q;obtain⟨y,hy⟩:∃y,y=aB zs q:=⟨_,rfl⟩
       rw [<- hy] at hcy hy0;have hlt:jJ zs inc p j↔y+inc=x+st:=by
        unfold jJ;rw [HL.out,if_neg hjp,show j+p-n=q by omega,<- hy,HX.out,HST.out]
       have HQ:=aA hq;clear hq;clear hy;by_cases hyx:y+inc=x+st
       ·have b3:(y+inc != x+st)=false:=by simp [hyx]
        have H3:=aA (HY.out (hlt.2 hyx));clear hlt hyx
        go_wp2
        go_roundg (gk-1)
        case measure=>omega
        case rel=>exact⟨j+1,by omega,by go_num,H3.out,rfl⟩
       ·have b3:(y+inc != x+st)=true:=by simpa using hyx
        have H3:=aA (HB.out (fun h=>hyx (hlt.1 h)));clear hlt hyx
        go_wp2
        go_roundg (G-1)
        case measure=>omega
        case rel=>exact⟨p+1,by omega,by omega,by go_num,H3.out,rfl⟩
     ·have HLT:Hid (LT zs inc p):=⟨by rw [HL.out];exact T1.out,fun i hi=>HOK.out.out i (by rw [HL.out] at hi;omega)⟩
      go_wp2
      rw [Exit.noGoto_ret];go_ret
      exact⟨p,rfl,hp1,by rw [HL.out];omega,.inr HLT.out,HNO.out.out,rfl⟩
   ·have HN':Hid (∀r,1<=r->r<p+1->¬LT zs inc r):=HN.out (fun h=>t1 (by rw [<- HL.out];exact h.1));have H2:=aA HN';clear HN' HN;by_cases t2:(n:Int) % p=0
    ·have b1:((n:Int) % p != 0)=false:=by simp [t2]
     have b2:(inc*(p:Int) % n != 0)=true:=by simp;intro h;exact t1 ⟨t2,h⟩
     clear t1 t2
     go_wp2
     go_roundg (gk-1)
     case measure=>omega
     case rel=>exact⟨p+1,by omega,by omega,by go_num,H2.out,rfl⟩
    ·have b1:((n:Int) % p != 0)=true:=by simpa using t2
     clear t1 t2
     go_wp2
     go_roundg (gk-1)
     case measure=>omega
     case rel=>exact⟨p+1,by omega,by omega,by go_num,H2.out,rfl⟩
  ·go_wp2
   go_ret
   exact⟨n,rfl,hn1,by rw [HL.out];omega,.inl HL.out.symm,(fun r h1 h2=>HNO.out.out r h1 (by omega)),rfl⟩
theorem tL{f:Cv}{er:Int}{w w1:World}{B g0:Nat}{A:Option Addr}{n c:Nat}{x y z:Value}(hc:n<=c)(hf:∀b off s,A=some ⟨b,off,s⟩->B<=b)(h0:w.heap.size<=g0)(hB:g0<B)(hI:aE w1 w1.heap.size A n f.vals)(bw:Below w.heap.size w w1) :
 lD f er w (.returned (.tuple #[.agg #[.slice A n c,.int .i64 f.per,.int .i64 f.inc],.int .i64 er])) (((w1.setCell ⟨g0,0,none⟩ x).setCell ⟨g0,1,none⟩ y).setCell ⟨g0,2,none⟩ z):=
 ⟨A,n,c,hc,rfl,by
  simpa using (((hI.setCell (fun b off s h=>by have:=hf b off s h;simp;omega) _).setCell (fun b off s h=>by have:=hf b off s h;simp;omega) _).setCell (fun b off s h=>by have:=hf b off s h;simp;omega) _),
  (fun b off s h=>by have:=hf b off s h;omega),((bw.setCell (by simpa using h0) _).setCell (by simpa using h0) _).setCell (by simpa using h0) _⟩
theorem rA{f:Cv}{er:Int}{w w1:World}{B:Nat}{A:Option Addr}{n c:Nat}{x y z:Value}(hc:n<=c)(hf:∀b off s,A=some ⟨b,off,s⟩->B<=b)(hB:w.heap.size<B)(hI:aE w1 w1.heap.size A n f.vals)(bw:Below w.heap.size w w1) :
 lD f er w (.returned (.tuple #[.agg #[.slice A n c,.int .i64 f.per,.int .i64 f.inc],.int .i64 er])) (((w1.setCell ⟨w.heap.size,0,none⟩ x).setCell ⟨w.heap.size,1,none⟩ y).setCell ⟨w.heap.size,2,none⟩ z):=
 ⟨A,n,c,hc,rfl,by
  simpa using (((hI.setCell (fun b off s h=>by have:=hf b off s h;simp;omega) _).setCell (fun b off s h=>by have:=hf b off s h;simp;omega) _).setCell (fun b off s h=>by have:=hf b off s h;simp;omega) _),
  (fun b off s h=>by have:=hf b off s h;omega),((bw.setCell (by simp) _).setCell (by simp) _).setCell (by simp) _⟩
theorem R9(A:Option Addr)(n c:Nat)(zs:List Int)(w:World)(hA:aE w w.heap.size A n zs)(hn:(n:Int)<=1000000) :
 Calls Tryz.prog 103 #[.slice A n c] w (lD (chk zs 1 0).1 (chk zs 1 0).2 w):=by
 go_enter Tryz.func103,Tryz.ntmps103
 go_wp2_with fail
 refine(vO A n c 1 0 zs _ (hA.alloc' _) hn).mono ?_;rintro e w1 ⟨A1,n1,c1,hcc,rfl,hI,hf,hb⟩;generalize (chk zs 1 0).2=er at *;generalize (chk zs 1 0).1=f at *;have rb:=(aC.new w 26 #[.slice none 0 0,.int .i64 0,.int .i64 0]).below hb (by simp);have bw:Below w.heap.size w w1:=((Below.refl _ _).alloc (Nat.le_refl _) _).trans (hb.mono (by simp));have hlt1:=rb.lt;have q0:=rb.cell 0;have q1:=rb.cell 1;have q2:=rb.cell 2;have z0:=rb.frozen 0;have z1:=rb.frozen 1;have z2:=rb.frozen 2;simp at q0 q1 q2;have HI:=aA hI;clear hI;have HB:=aA hb;clear hb
 go_wp2
 have rb3:=rb.store3 (.slice A1 n1 c1) (.int .i64 f.per) (.int .i64 f.inc);exact bodyPost_ret (v:=.tuple #[.agg #[.slice A1 n1 c1,.int .i64 f.per,.int .i64 f.inc],.int .i64 er]) (by simp [results,Tryz.results103,go_sem,rb3.cell]) rfl (rA hcc hf (by simp) HI.out bw)
def dI(S:Cv->Int->Prop)(w:World)(e:Ending)(w':World):Prop:=∃f er,S f er/\lC f er w e w'
def oD(S:Cv->Int->Prop)(w:World)(e:Ending)(w':World):Prop:=∃f er,S f er/\lD f er w e w'
theorem oD.to{S:Cv->Int->Prop}{w w':World}{e:Ending}(h:oD S w e w'):dI S w e w':=by
 obtain⟨f,er,hS,h⟩:=h;exact⟨f,er,hS,h.to⟩
theorem p9(fid:Nat)(caps:Array Value)(s p i:Int)(h:Nat->Int)(w:World)(hs0:0<=s)(hs:s<=400000)(hp:1<=p)(hp2:p<=400000)(hi:0<=i)(hi2:i<=1099511627776)
 (hh:∀k:Nat,(k:Int)<s+p->0<=h k/\h k<=4611686018427387904)
 (hat:Hid (∀(t:Nat) (w1:World),(t:Int)<s+p->Below w.heap.size w w1->Calls Tryz.prog fid (#[.int .i64 t] ++ caps) w1 fun e w2=>e = .returned (.int .i64 (h t))/\Below w1.heap.size w1 w2))
 (hcf:∀(x:Value) (w:World),Sem.run Tryz.prog (callFunc fid (#[x] ++ caps)) w = .ok (.enter fid (#[x] ++ caps)) w) :
 Calls Tryz.prog 64 #[.func (.func fid) #[] caps,.int .i64 s,.int .i64 p,.int .i64 i] w (oD (eW h s.toNat p.toNat i) w):=by
 obtain⟨s,rfl⟩:=Int.eq_ofNat_of_zero_le hs0;obtain⟨p,rfl⟩:=Int.eq_ofNat_of_zero_le (show 0<=p by omega);obtain⟨i0,hi0,hz0,hz1,hz2⟩:=info_parts iE;rw [Int.toNat_natCast,Int.toNat_natCast];have HH:=aA hh;clear hh;go_enter Tryz.func64,Tryz.ntmps64
 go_wp2_with (at_make;refine wpList_make_full _ rfl _ _ 22 rfl w.heap.size 3 i0 _ 1 Tryz.underlying22 hi0 hz0 hz1 .i64 .i64 _ _ (s+p) rfl rfl rfl rfl (by rw [hz2];omega) (by unfold maxLen;omega) (by simp) ?_;intro w1 own1 grow1)
 have bw1:Below w.heap.size w w1:=((Below.refl _ _).alloc (Nat.le_refl _) _).grown grow1 (by simp) (by simp);have ib1:=aN.made own1 (by omega);have rb1:aC w1 w.heap.size 26 #[.slice none 0 0,.int .i64 0,.int .i64 0]:=(aC.new w _ _).grown grow1 (by simp);have hsz1:=ib1.lt;clear own1 grow1 hi0 hz0 hz1 hz2
 go_loopg [20] (s+p) (fun g i wr=>∃(k:Nat) (zs:List Int),k+g=s+p/\i = .int .i64 k/\Hid (zs.length=s+p/\(∀j,j<k->aB zs j=h j)/\(∀j,j<k->h j≠aG))/\aN wr (w.heap.size+1) zs/\
  aC wr w.heap.size 26 #[.slice none 0 0,.int .i64 0,.int .i64 0]/\Below w.heap.size w wr)
 case atStart=>exact⟨0,List.replicate (s+p) 0,by omega,rfl,⟨by simp,fun j hj=>by omega,fun j hj=>by omega⟩,by simpa using ib1,rb1,bw1⟩
 case round=>
  clear bw1 ib1 rb1 hsz1;obtain⟨k,zs,hkg,rfl,HZ,ib,rb,bw⟩:=hrel;by_cases hlt:k<s+p
  ·have hcl:=hat.out k wr (by omega) bw;have HCL:=aA hcl;clear hcl;have hhk:=HH.out k (by omega);go_wp2_with fail
   refine HCL.out.mono ?_;rintro e w2 ⟨rfl,hb2⟩;have hlt0:=ib.lt;have ib2:=ib.below hb2 (by omega);have rb2:=rb.below hb2 (by omega);have bw2:=bw.trans (hb2.mono bw.size);have hl2:=ib2.lt;have fz:=ib2.frozen k;have cz:=ib2.cell k (by rw [HZ.out.1];exact hlt);have ib3:=ib2.set_ k (h k);obtain⟨x,hx⟩:∃x,x=h k:=⟨_,rfl⟩
   rw [<- hx] at hhk ib3;rw [<- hx];have rb3:=rb2.far (p:=⟨w.heap.size+1,k,none⟩) (by simp) (.int .i64 x);have bw3:=bw2.setCell (p:=⟨w.heap.size+1,k,none⟩) (by simp) (.int .i64 x);have HX:=aA hx;clear hx;clear HCL hb2 ib rb bw ib2 rb2 bw2;by_cases hxi:x=4611686018427387904
   ·have hL:aE (w2.setCell ⟨w.heap.size+1,k,none⟩ (.int .i64 x)) (w2.setCell ⟨w.heap.size+1,k,none⟩ (.int .i64 x)).heap.size (some ⟨w.heap.size+1,0,none⟩) (k+1) (aZ h 0 (k+1)):=by
     have h1:=ib3.part 0 (k+1) (by rw [List.length_set,HZ.out.1];omega);rw [m4 (h:=h) (s:=0) (n:=k+1) (zs:=((zs.set k x).drop 0).take (k+1)) (by simp [HZ.out.1];omega) (fun j hj=>by
      rw [oZ _ _ _ hj,tB,eQ _ _ _ _ (by rw [HZ.out.1];exact hlt)];by_cases e:j=k
      ·rw [if_pos (by omega),e,Nat.zero_add];exact HX.out
      ·rw [if_neg (by omega),Nat.zero_add];exact HZ.out.2.1 j (by omega))] at h1
     exact h1
    have hfin:∀f er,f=(chk (aZ h 0 (k+1)) 1 0).1->er=(chk (aZ h 0 (k+1)) 1 0).2->eW h s p i f er:=
     fun f er h1 h2=>.inl ⟨k,hlt,by rw [<- HX.out];exact hxi,HZ.out.2.2,h1,h2⟩
    have FIN:=aA hfin;clear hfin;have HLL:=aA hL;clear hL;have hxb:(x == 4611686018427387904)=true:=by simpa using hxi
    clear hxi;go_wp2_with fail
    refine(R9 _ _ _ _ _ HLL.out (by omega)).mono ?_;rintro e w3 ⟨A1,n1,c1,hcc,rfl,hI,hf,hb⟩;have HFE:=FIN.out _ _ rfl rfl;generalize (chk (aZ h 0 (k+1)) 1 0).2=er at *;generalize (chk (aZ h 0 (k+1)) 1 0).1=f at *;have FIN2:=aA HFE;clear HFE FIN;have hlr:=rb3.lt;have rb4:=rb3.below hb hlr;have bw4:=bw3.trans (hb.mono bw3.size);have q0:=rb4.cell 0;have q1:=rb4.cell 1;have q2:=rb4.cell 2;have z0:=rb4.frozen 0;have z1:=rb4.frozen 1;have z2:=rb4.frozen 2;simp at q0 q1 q2;have HI:=aA hI;clear hI;have HB:=aA hb;clear hb
    go_wp2
    have rb5:=rb4.store3 (.slice A1 n1 c1) (.int .i64 f.per) (.int .i64 f.inc);exact bodyPost_ret (v:=.tuple #[.agg #[.slice A1 n1 c1,.int .i64 f.per,.int .i64 f.inc],.int .i64 er]) (by simp [results,Tryz.results64,go_sem,rb5.cell]) rfl ⟨f,er,FIN2.out,rA hcc hf (by simpa using hlr) HI.out bw4⟩
   ·have hxb:(x == 4611686018427387904)=false:=by simpa using hxi
    have hZ':Hid ((zs.set k x).length=s+p/\(∀j,j<k+1->aB (zs.set k x) j=h j)/\(∀j,j<k+1->h j≠aG)):=by
     refine⟨by rw [List.length_set];exact HZ.out.1,fun j hj=>?_,fun j hj=>?_⟩
     ·rw [eQ _ _ _ _ (by rw [HZ.out.1];exact hlt)];by_cases e:j=k
      ·rw [if_pos e,e];exact HX.out
      ·rw [if_neg e];exact HZ.out.2.1 j (by omega)
     ·by_cases e:j=k
      ·rw [e,<- HX.out];exact hxi
      ·exact HZ.out.2.2 j (by omega)
    clear hxi
    go_wp2
    go_roundg (gk-1)
    case measure=>omega
    case rel=>exact⟨k+1,_,by omega,by go_num,hZ',ib3,rb3,bw3⟩
  ·have hk:k=s+p:=by omega
   subst hk;have hzt:zs=aZ h 0 (s+p):=m4 HZ.out.1 (fun j hj=>by rw [Nat.zero_add];exact HZ.out.2.1 j hj);have hfin:=HZ.out.2.2;clear HZ hlt hkg;subst hzt;have HFIN:=aA hfin;clear hfin;have hltg:=ib.lt;have hL:aE wr wr.heap.size (some ⟨w.heap.size+1,s,none⟩) p (aZ h s p):=by
    have h1:=ib.part s p (by rw [cU];exact Nat.le_refl _);rw [m4 (h:=h) (s:=s) (n:=p) (zs:=((aZ h 0 (s+p)).drop s).take p) (by simp [cU]) (fun j hj=>by
     rw [oZ _ _ _ hj,tB,dT _ _ _ _ (by omega),Nat.zero_add])] at h1
    exact h1
   have HLL:=aA hL;clear hL;have hsp:¬(s+p=s):=by omega
   go_wp2_with fail
   refine(Z6 _ _ _ i (aZ h s p) wr HLL.out (by omega) (by omega) hi hi2 ?_).mono ?_
   ·intro k;by_cases hk:k<p
    ·rw [dT _ _ _ _ hk];exact HH.out _ (by omega)
    ·rw [xQ _ _ (by rw [cU];omega)];omega
   rintro e w3 ⟨q,rfl,hq1,hqp,hq2,hq3,rfl⟩;rw [cU] at hqp hq2;have HQ2:=aA hq2;clear hq2;have HQ3:=aA hq3;clear hq3;have hip:i*(q:Int)<=1099511627776*400000:=by
    refine Int.le_trans (Int.mul_le_mul_of_nonneg_right hi2 (by omega)) ?_;omega
   have hip0:0<=i*(q:Int):=Int.mul_nonneg hi (by omega);obtain⟨st,hst⟩:∃st,i*(q:Int) / p=st:=⟨_,rfl⟩
   have hs0:0<=st:=by rw [<- hst];exact Int.ediv_nonneg hip0 (by omega)
   have hs1:st<=1099511627776*400000:=by rw [<- hst];exact Int.le_trans (Int.ediv_le_self _ hip0) hip
   go_wp2_with fail
   rw [hst];have HST:=aA hst;clear hst hip hip0
   go_loopg [1] s (fun g t wx=>∃s':Nat,s'=g/\s'<=s/\t = .int .i64 s'/\Hid (∀t,s'<=t->t<s->h t+st=h (t+q))/\aN wx (w.heap.size+1) (aZ h 0 (s+p))/\
    aC wx w.heap.size 26 #[.slice none 0 0,.int .i64 0,.int .i64 0]/\Below w.heap.size w wx)
   case atStart=>exact⟨s,rfl,Nat.le_refl _,rfl,(by intro t h1 h2;omega),ib,rb,bw⟩
   case round=>
    clear ib rb bw HLL;obtain⟨s',hsg,hss,rfl,hgood,ib,rb,bw⟩:=hrel;have HG:=aA hgood;clear hgood;have HS:=aA hsg;clear hsg;have hil:=ib.lt;by_cases hgo:0<s'/\h (s'-1)+st=h (s'-1+q)
    ·obtain⟨r,hr⟩:∃r,s'=r+1:=⟨s'-1,by omega⟩
     obtain⟨hpos,hxy⟩:=hgo;rw [show s'-1=r by omega] at hxy;have hgd:decide (0<s')=true:=by simp;omega
     have hcx:=ib.cell r (by rw [cU];omega);have hcy:=ib.cell (r+q) (by rw [cU];omega);rw [dT _ _ _ _ (by omega),Nat.zero_add] at hcx hcy;have hh1:=HH.out r (by omega);obtain⟨x,hx⟩:∃x,x=h r:=⟨_,rfl⟩
     obtain⟨y,hy⟩:∃y,y=h (r+q):=⟨_,rfl⟩
     rw [<- hx] at hcx hh1 hxy;rw [<- hy] at hcy hxy;have HX:=aA hx;clear hx;have HY:=aA hy;clear hy;have e1:IntKind.i64.wrap ((s':Int)-1)=(r:Int):=by rw [IntWalk.i64_in _ (by omega)];omega
     have e2:IntKind.i64.wrap (x+st)=x+st:=IntWalk.i64_in _ (by omega);have e3:IntKind.i64.wrap ((r:Int)+q)=(r:Int)+q:=IntWalk.i64_in _ (by omega);have e4:((r:Int)+q).toNat=r+q:=by omega
     have hr1:0<=(r:Int):=by omega
     have hr2:(r:Int)<(s:Int)+p:=by omega
     have hr3:0<=(r:Int)+q:=by omega
     have hr4:(r:Int)+q<(s:Int)+p:=by omega
     have HR:=aA hr;clear hr;have hb:(x+st == y)=true:=by simpa using hxy
     have HXY:=aA hxy;clear hxy;go_wp2_with fail
     go_quiet (fail)
     go_wp2
     clear e1 e2 e3 e4 hr1 hr2 hr3 hr4;go_roundg r
     case measure=>have:=HS.out;have:=HR.out;omega
     case rel=>
      refine⟨r,rfl,by have:=HR.out;omega,by have:=HR.out;go_num,?_,ib.drewN _,rb.drewN _,⟨bw.os,bw.tape,bw.output,bw.size,bw.block⟩⟩
      intro t h1 h2;by_cases e:t=r
      ·rw [e,<- HX.out,<- HY.out];exact HXY.out
      ·exact HG.out.out t (by have:=HR.out;omega) h2
    ·have hex:s'=0\/h (s'-1)+st≠h (s'-1+q):=by
      by_cases h0:s'=0
      ·exact .inl h0
      ·exact .inr (fun e=>hgo ⟨by omega,e⟩)
     have EX:=aA hex;clear hex;have hL:aE wr wr.heap.size (some ⟨w.heap.size+1,0,none⟩) (s'+q) (aZ h 0 (s'+q)):=by
      have h1:=ib.part 0 (s'+q) (by rw [cU];omega);rw [m4 (h:=h) (s:=0) (n:=s'+q) (zs:=((aZ h 0 (s+p)).drop 0).take (s'+q)) (by simp [cU];omega) (fun j hj=>by
       rw [oZ _ _ _ hj,tB,dT _ _ _ _ (by omega),Nat.zero_add])] at h1
      exact h1
     have HLL:=aA hL;clear hL;have hfin1:¬((q:Int)<=120/\st<=1073741824)->eW h s p i Cv.none 3:=fun hno=>
      .inr ⟨HFIN.out,q,s',hq1,hqp,HQ2.out,HQ3.out,hss,by rw [HST.out];exact HG.out.out,by rw [HST.out];exact EX.out,.inr ⟨by rw [HST.out];exact fun h=>hno ⟨by omega,h.2⟩,rfl,rfl⟩⟩
     have hfin2:(q:Int)<=120/\st<=1073741824->eW h s p i (chk (aZ h 0 (s'+q)) q st).1 (chk (aZ h 0 (s'+q)) q st).2:=fun hyes=>
      .inr ⟨HFIN.out,q,s',hq1,hqp,HQ2.out,HQ3.out,hss,by rw [HST.out];exact HG.out.out,by rw [HST.out];exact EX.out,.inl ⟨by omega,by rw [HST.out];exact hyes.2,by rw [HST.out],by rw [HST.out]⟩⟩
     have F1:=aA hfin1;clear hfin1;have F2:=aA hfin2;clear hfin2;have hlr:=rb.lt;have q0:=rb.cell 0;have q1:=rb.cell 1;have q2:=rb.cell 2;have z0:=rb.frozen 0;have z1:=rb.frozen 1;have z2:=rb.frozen 2;simp at q0 q1 q2;have FIN:((q:Int)<=120/\st<=1073741824)\/((q:Int)<=120/\1073741824<st)\/120<(q:Int):=by omega
     rcases FIN with ⟨hc1,hc2⟩|⟨hc1,hc2⟩|hc1
     all_goals
      by_cases hpos:0<s'
      case' pos=>
       obtain⟨r,hr⟩:∃r,s'=r+1:=⟨s'-1,by omega⟩
       have hxy:h r+st≠h (r+q):=fun e=>hgo ⟨hpos,by rw [show s'-1=r by omega];exact e⟩
       clear hgo;have hgd:decide (0<s')=true:=by simp;omega
       have hcx:=ib.cell r (by rw [cU];omega);have hcy:=ib.cell (r+q) (by rw [cU];omega);rw [dT _ _ _ _ (by omega),Nat.zero_add] at hcx hcy;have hh1:=HH.out r (by omega);obtain⟨x,hx⟩:∃x,x=h r:=⟨_,rfl⟩
       obtain⟨y,hy⟩:∃y,y=h (r+q):=⟨_,rfl⟩
       rw [<- hx] at hcx hh1 hxy;rw [<- hy] at hcy hxy;have HX:=aA hx;clear hx;have HY:=aA hy;clear hy;have e1:IntKind.i64.wrap ((s':Int)-1)=(r:Int):=by rw [IntWalk.i64_in _ (by omega)];omega
       have e2:IntKind.i64.wrap (x+st)=x+st:=IntWalk.i64_in _ (by omega);have e3:IntKind.i64.wrap ((r:Int)+q)=(r:Int)+q:=IntWalk.i64_in _ (by omega);have e4:((r:Int)+q).toNat=r+q:=by omega
       have hr1:0<=(r:Int):=by omega
       have hr2:(r:Int)<(s:Int)+p:=by omega
       have hr3:0<=(r:Int)+q:=by omega
       have hr4:(r:Int)+q<(s:Int)+p:=by omega
       have HR:=aA hr;clear hr;have hb:(x+st == y)=false:=by simpa using hxy
       have HXY:=aA hxy;clear hxy;go_wp2_with fail
       go_quiet (fail)
       clear e1 e2 e3 e4 hr1 hr2 hr3 hr4 HX HY HXY hcx hcy hb
      case' neg=>
       clear hgo;have hgd:decide (0<s')=false:=by simpa using hpos
       go_wp2_with fail
       go_quiet (fail)
     all_goals go_wp2_with fail
     all_goals first
      | (refine(vO _ _ _ q st (aZ h 0 (s'+q)) _ (by exact HLL.out) (by omega)).mono ?_
         rintro e w3 ⟨A1,n1,c1,hcc,rfl,hI,hf,hb⟩;have HFE:=F2.out ⟨hc1,hc2⟩;generalize (chk (aZ h 0 (s'+q)) q st).2=er at *;generalize (chk (aZ h 0 (s'+q)) q st).1=f at *;have FIN2:=aA HFE;clear HFE F1 F2 q0 q1 q2 z0 z1 z2;have rb4:=(rb.drewN _).below hb hlr;have bw4:Below w.heap.size w w3:=bw.trans (Below.mono ⟨hb.os,hb.tape,hb.output,hb.size,hb.block⟩ bw.size);have hsz4:=rb4.lt;have q0:=rb4.cell 0;have q1:=rb4.cell 1;have q2:=rb4.cell 2;have z0:=rb4.frozen 0;have z1:=rb4.frozen 1;have z2:=rb4.frozen 2;simp at q0 q1 q2;have HI:=aA hI;clear hI;have HB:=aA hb;clear hb
         go_wp2
         have rb5:=rb4.store3 (.slice A1 n1 c1) (.int .i64 f.per) (.int .i64 f.inc);exact bodyPost_ret (v:=.tuple #[.agg #[.slice A1 n1 c1,.int .i64 f.per,.int .i64 f.inc],.int .i64 er]) (by simp [results,Tryz.results64,go_sem,rb5.cell]) rfl ⟨f,er,FIN2.out,rA hcc hf hlr HI.out bw4⟩)
      | (have HFE:=F1.out (by omega)
         have rb5:=fun k i=>((rb.drewN k).store3 (.slice none 0 0) (.int .i64 0) (.int .i64 0)).cell i
         exact bodyPost_ret (v:=.tuple #[.agg #[.slice none 0 0,.int .i64 0,.int .i64 0],.int .i64 3]) (by simp [results,Tryz.results64,go_sem,rb5]) rfl
          ⟨Cv.none,3,HFE,rA (f:=Cv.none) (B:=w.heap.size+1) (Nat.le_refl 0) (fun b off s h=>by cases h) (by omega) aE.none_ ⟨bw.os,bw.tape,bw.output,bw.size,bw.block⟩⟩)
theorem kN(fid:Nat)(caps:Array Value)(s p i:Int)(h:Nat->Int)(w:World)(hs0:0<=s)(hs:s<=400000)(hp:1<=p)(hp2:p<=400000)(hi:0<=i)(hi2:i<=1099511627776)
 (hh:∀k:Nat,(k:Int)<s+p->0<=h k/\h k<=4611686018427387904)
 (hat:Hid (∀(t:Nat) (w1:World),(t:Int)<s+p->Below w.heap.size w w1->Calls Tryz.prog fid (#[.int .i64 t] ++ caps) w1 fun e w2=>e = .returned (.int .i64 (h t))/\Below w1.heap.size w1 w2))
 (hcf:∀(x:Value) (w:World),Sem.run Tryz.prog (callFunc fid (#[x] ++ caps)) w = .ok (.enter fid (#[x] ++ caps)) w) :
 Calls Tryz.prog 64 #[.func (.func fid) #[] caps,.int .i64 s,.int .i64 p,.int .i64 i] w (dI (eW h s.toNat p.toNat i) w):=(p9 fid caps s p i h w hs0 hs hp hp2 hi hi2 hh hat hcf).mono fun _ _ h=>h.to
theorem G1(A:Option Addr)(n c:Nat)(p i t:Int)(zs:List Int)(w:World)(hA:aE w w.heap.size A n zs)(hn:(n:Int)<=1000)
 (hp:1<=p) (hpn:p<=n) (hi:0<=i) (hz:∀k,0<=aB zs k/\aB zs k<=4611686018427387904) (ht0:0<=t) (ht:t<=288230376151711744) (hbig:n<=t.toNat->(((t.toNat-n) / p.toNat+1:Nat):Int)*i<=1152921504606846976) :
 Calls Tryz.prog 43 #[.agg #[.slice A n c,.int .i64 p,.int .i64 i],.int .i64 t] w fun e w'=>e = .returned (.int .i64 (Cv.at ⟨zs,p,i⟩ t.toNat))/\Below w.heap.size w w':=by
 obtain⟨p,rfl⟩:=Int.eq_ofNat_of_zero_le (show 0<=p by omega);obtain⟨t,rfl⟩:=Int.eq_ofNat_of_zero_le ht0;obtain⟨b,off,rfl,hb,hc⟩:=hA.2 (by omega);have hl:=hA.1;simp only [Int.toNat_natCast] at hbig;by_cases hlt:t<n
 ·have hcell:=hc t hlt;clear hc hz hA hbig;have fin:Cv.at ⟨zs,p,i⟩ t=aB zs t:=by simp [Cv.at,hl,hlt]
  have F:=aA fin;clear fin;have HL:=aA hl;clear hl;go_enter Tryz.func43,Tryz.ntmps43
  go_wp2
  go_ret
  exact⟨by rw [<- F.out];rfl,(Below.refl _ _).alloc (Nat.le_refl _) _⟩
 ·obtain⟨h1,h2,h3⟩:=oR (t:=t) (n:=n) (p:=p) (by omega) (by omega) (by omega);have e1:((t:Int)-n) / p=(((t-n) / p:Nat):Int):=by rw [show(t:Int)-n=((t-n:Nat):Int) by omega];rfl
  have fin:Cv.at ⟨zs,p,i⟩ t=if aB zs (t-((t-n) / p+1)*p)=aG then aG else aB zs (t-((t-n) / p+1)*p)+(((t-n) / p+1:Nat):Int)*i:=by simp [Cv.at,hl,hlt]
  have hq:(t-n) / p<=t:=by have:=Nat.div_le_self (t-n) p;omega
  have hbig:=hbig (by omega);generalize (t-n) / p=q at *;obtain⟨j,hj⟩:∃j,t-(q+1)*p=j:=⟨_,rfl⟩
  rw [hj] at fin h2 h3;have hki:((q:Int)+1)*i<=1152921504606846976:=by
   have:=hbig
   simpa using this
  clear hbig;have hki0:0<=((q:Int)+1)*i:=Int.mul_nonneg (by omega) hi;have hpp:((q:Int)+1)*p=((q+1)*p:Nat):=by simp
  have hqp0:0<=((q:Int)+1)*p:=by omega
  have hqp1:((q:Int)+1)*p<=t:=by omega
  have e2:(t:Int)-((q:Int)+1)*p=j:=by omega
  have hcell:=hc _ h2;have hzz:=hz j;generalize aB zs j=v at *;clear hc hz hA hpp hj h1;have F:=aA fin;clear fin;have HL:=aA hl;clear hl;rw [show((q+1:Nat):Int)=(q:Int)+1 by omega] at F;by_cases hv:v=aG
  ·subst hv;unfold aG at hcell hzz;go_enter Tryz.func43,Tryz.ntmps43
   go_wp2
   go_ret
   exact⟨iV (by rw [F.out,if_pos trivial];rfl),(Below.refl _ _).alloc (Nat.le_refl _) _⟩
  ·have hv':(v == 4611686018427387904)=false:=by simp only [beq_eq_false_iff_ne];exact hv
   rw [if_neg hv] at F;clear hv;go_enter Tryz.func43,Tryz.ntmps43
   go_wp2
   go_ret
   exact⟨iV F.out.symm,(Below.refl _ _).alloc (Nat.le_refl _) _⟩
end Go.Proofs.YtaejfleahamapaaGreat
