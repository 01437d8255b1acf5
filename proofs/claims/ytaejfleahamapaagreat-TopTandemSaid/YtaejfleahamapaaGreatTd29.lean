/- . -/
import Derived.WalkMore
import Derived.Test.YtaejfleahamapaaGreatTd23
import Derived.Test.YtaejfleahamapaaGreatTd25
namespace Go.Proofs.YtaejfleahamapaaGreat
set_option linter.unusedVariables false
set_option linter.unusedSimpArgs false
set_option maxHeartbeats 4000000
set_option maxRecDepth 100000
open Go.RowKit
theorem a1t(L F D:Nat)(A:Option Addr)(n c:Nat)(a:Cv)(d:Int)(t:Nat)(w:World)(hF:Bz L w F A n c a)(hD:aC w D 3 #[.int .i64 d])(ha:a.Ok)(hd0:0<=d)(hd:d<=1073741824)(ht:t<=1000000) :
 Calls Tryz.prog 185 (#[.int .i64 t] ++ #[.pointer (some ⟨F,0,none⟩),.pointer (some ⟨D,0,none⟩)]) w fun e w'=>e = .returned (.int .i64 (dQ a d t))/\Below w.heap.size w w':=by
 have FA:=aA hF;have DB:=aA hD;have hl1:a.vals.length=n:=hF.ints.1;have ha1:=ha.n1;have ha2:=ha.n2;have hap:=ha.p1;have hap2:=ha.p2;have hai:=ha.i1;have hai2:=ha.i2;have hapn:=ha.pn;rw [hl1] at ha1 ha2 hapn;have HA:=aA ha;have BW:=aA (Below.refl w.heap.size w);show Calls _ _ #[.int .i64 t,.pointer (some ⟨F,0,none⟩),.pointer (some ⟨D,0,none⟩)] _ _
 rcases Nat.eq_zero_or_pos t with ht0|ht0
 ·subst ht0;rw [lS];clear hF hD hl1 ha;go_enter Tryz.func185,Tryz.ntmps185
  have bw:=BW.out;go_wp2_with fail
  go_ret
  exact⟨rfl,bw⟩
 ·have hx:=j4 ha (t:=t) (by omega);rw [a10 ha hd ht0 (by omega)];obtain⟨x,hx'⟩:∃x,x=a.at t:=⟨_,rfl⟩
  have HX:=aA hx';rw [<- hx'] at hx ⊢;have HXB:=aA hx;have hti:0<(t:Int):=by omega
  have d1:((t:Int) == 0)=false:=by simp only [beq_eq_false_iff_ne];omega
  clear hF hD hl1 ha hx hx';go_enter Tryz.func185,Tryz.ntmps185
  obtain⟨a0,a1,a2,hla⟩:=FA.out.cells;have z0:=DB.out.cell 0;simp at z0;have hlz:=DB.out.lt;go_upto_region 3 with fail
  go_region_held3 (fun w'=>w'.cell? ⟨F,0,none⟩=some (.slice A n c)/\w'.cell? ⟨F,1,none⟩=some (.int .i64 a.per)/\w'.cell? ⟨F,2,none⟩=some (.int .i64 a.inc)/\w'.cell? ⟨D,0,none⟩=some (.int .i64 d)) (first|go_keep)
   (first
    | (go_at_call 43
       refine(gA A n c a.per a.inc t a.vals _ (by exact FA.out.drew.ints) (by omega) hap hapn hai (by omega) HA.out.nn (by omega) (by omega)).mono ?_;rw [Int.toNat_natCast,show Cv.at ⟨a.vals,a.per,a.inc⟩ t=x from HX.out.symm];rintro e w1 ⟨rfl,hbq⟩;have hbq:=lH hbq;have FA:=aA (FA.out.below hbq);have DB:=aA (DB.out.below hbq DB.out.lt);have BW:=aA (aD BW.out hbq);clear hbq;clear a0 a1 a2 hla z0 hlz;obtain⟨a0,a1,a2,hla⟩:=FA.out.cells;have z0:=DB.out.cell 0;simp at z0;have hlz:=DB.out.lt
       skip)
    | (go_at_call 44
       refine(pB x d _ HXB.out.1 HXB.out.2 hd0 (.inr (by omega))).mono ?_;rintro e w1 ⟨rfl,rfl⟩
       skip))
  all_goals
   have bw:=BW.out;go_wp2_with fail
   go_ret
   exact⟨rfl,bw⟩
theorem a1k(A0:Option Addr)(n0 c0:Nat)(p i d:Int)(xs:List Int)(w:World)(hA:aE w w.heap.size A0 n0 xs)(hn:(n0:Int)<=1000000):Calls Tryz.prog 180 #[.agg #[.slice A0 n0 c0,.int .i64 p,.int .i64 i],.int .i64 d] w (dI (jZ ⟨xs,p,i⟩ d) w):=by
 have E:=aA (((L1.new (c:=c0) (p:=p) (i:=i) hA).alloc (.cells #[.int .i64 d] 3)).alloc (.cells #[.slice none 0 0,.int .i64 0,.int .i64 0] 26));have db:=(aC.new (w.alloc (.cells #[.slice A0 n0 c0,.int .i64 p,.int .i64 i] 26)) 3 #[.int .i64 d]).alloc (.cells #[.slice none 0 0,.int .i64 0,.int .i64 0] 26);have rb:=aC.new ((w.alloc (.cells #[.slice A0 n0 c0,.int .i64 p,.int .i64 i] 26)).alloc (.cells #[.int .i64 d] 3)) 26 #[.slice none 0 0,.int .i64 0,.int .i64 0];rw [World.size_alloc] at db;rw [World.size_alloc,World.size_alloc] at rb;have DB:=aA db;have RB:=aA rb;clear hA db rb;go_enter Tryz.func180,Tryz.ntmps180
 go_wp2_with fail
 refine(a02 A0 n0 c0 p i d 0 1073741824 xs _ E.out.ints hn).mono ?_;rintro e w1 ⟨a,er,hN,A,n,c,rfl,hI1,hA1,hb⟩;simp only [World.size_alloc] at hA1;have hs0:=(RB.out.below hb RB.out.lt).lt;have FA:=aA (Bz.mk (L:=w.heap.size+1+1+1) (c:=c) (f:=a) (aC.new w1 26 #[.slice A n c,.int .i64 a.per,.int .i64 a.inc]) (hI1.alloc' _) hA1);replace DB:=aA ((DB.out.below hb DB.out.lt).alloc (.cells #[.slice A n c,.int .i64 a.per,.int .i64 a.inc] 26));replace RB:=aA ((RB.out.below hb RB.out.lt).alloc (.cells #[.slice A n c,.int .i64 a.per,.int .i64 a.inc] 26));have BW:=aA (aD (aD E.out.bw hb) (aF _ (.cells #[.slice A n c,.int .i64 a.per,.int .i64 a.inc] 26)));have hl1:a.vals.length=n:=hI1.1;clear hI1 hA1 hb E;go_upto_region 2 with fail
 generalize hwz:w1.alloc (.cells #[.slice A n c,.int .i64 a.per,.int .i64 a.inc] 26)=wz at *;clear hwz;generalize hFe:w1.heap.size=F at *;have hne1:w.heap.size+1+1≠F:=by omega
 have hne2:w.heap.size+1+1≠w.heap.size+1:=by omega
 clear hFe;obtain⟨⟨r0,r1,r2⟩,⟨y0,y1,y2⟩,hlr⟩:=RB.out.c3;have hN2:(er≠0/\a=Cv.none/\jZ ⟨xs,p,i⟩ d Cv.none er)\/(Cv.Ok ⟨xs,p,i⟩/\0<=d/\d<=1073741824/\NF (Cv.at ⟨xs,p,i⟩) a/\a.Ok/\er=0):=by
  rcases hN with ⟨h1,h2,rfl⟩|⟨h1,h2,h3,rfl⟩|h1
  ·exact .inl ⟨by decide,h2,.inl ⟨h1,rfl,rfl⟩⟩
  ·exact .inl ⟨by decide,h3,.inr (.inl ⟨h1,h2,rfl,rfl⟩)⟩
  ·exact .inr h1
 clear hN;rcases hN2 with ⟨hne,_,hS⟩|⟨hf,hd0,hd1,hna,hao,rfl⟩;rotate_left 1
 rotate_left 1
 ·have F9:=aA hS;have hne':(er != 0)=true:=by simpa using hne
  clear hS hne;go_wp2_with fail
  have rb:=RB.out.store3 (.slice none 0 0) (.int .i64 0) (.int .i64 0);refine bodyPost_ret (v:=.tuple #[.agg #[(.slice none 0 0),.int .i64 0,.int .i64 0],.int .i64 er]) (by simp [results,Tryz.results180,go_sem,rb.cell]) rfl ?_;exact kB F9.out (cO BW.out (by omega) _ _ _)
 ·have ha1:=hao.n1;have ha2:=hao.n2;have hap:=hao.p1;have hap2:=hao.p2;have hai:=hao.i1;have hai2:=hao.i2;have hapn:=hao.pn;rw [hl1] at ha1 ha2 hapn;obtain⟨S,hS⟩:∃S,S=max 1 (a.vals.length-a.per.toNat):=⟨_,rfl⟩
  have hmx:(if(1:Int)<(n:Int)-a.per then (n:Int)-a.per else 1)=(S:Int):=by
   rw [hS,hl1];split <;> omega
  have hSb:1<=S/\S<=400:=by rw [hS,hl1];omega
  obtain⟨hS1,hS2⟩:=hSb;have FIN:=aA (show ∀r er,eW (dQ a d) ((S:Int)).toNat a.per.toNat a.inc r er->jZ ⟨xs,p,i⟩ d r er from fun r er h=>.inr (.inr ⟨hf,hd0,hd1,a,hna,a1u hao hd0 hd1 (s:=S) hS1 (by rw [hS];omega) (by omega) h⟩));have HVAL:=aA (show ∀k:Nat,(k:Int)<(S:Int)+a.per->0<=dQ a d k/\dQ a d k<=4611686018427387904 from fun k hk=>a11 hao hd0 hd1 (by omega));have HA:=aA hao;clear hf hna hao hl1 hS;obtain⟨a0,a1,a2,hla⟩:=FA.out.cells;have z0:=DB.out.cell 0;simp at z0;have hlz:=DB.out.lt;go_upto_region 5 with fail
  go_region_held3 (fun w'=>w'.cell? ⟨F,0,none⟩=some (.slice A n c)/\w'.cell? ⟨F,1,none⟩=some (.int .i64 a.per)/\w'.cell? ⟨F,2,none⟩=some (.int .i64 a.inc)/\w'.cell? ⟨w.heap.size+1,0,none⟩=some (.int .i64 d)) (first|go_keep|exact⟨(j5 hne1).trans a0,(j5 hne1).trans a1,(j5 hne1).trans a2,(j5 hne2).trans z0⟩)
   (first
    | (go_at_call 92
       refine(dR A n c a.per a.inc _ (by omega) (by omega) (by omega)).mono ?_;rintro e w4 ⟨rfl,hbq⟩;have FA:=aA FA.out.drew;have DB:=aA (aC.drew DB.out);have BW:=aA (Below.drew BW.out);have RB:=aA (aC.drew RB.out);have FA:=aA (FA.out.below hbq);have DB:=aA (DB.out.below hbq DB.out.lt);have BW:=aA (aD BW.out hbq);have RB:=aA (RB.out.below hbq RB.out.lt);clear hbq;clear a0 a1 a2 hla z0 hlz;obtain⟨a0,a1,a2,hla⟩:=FA.out.cells;have z0:=DB.out.cell 0;simp at z0;have hlz:=DB.out.lt
       skip)
    | (go_at_call 64
       refine(kN 185 #[.pointer (some ⟨F,0,none⟩),.pointer (some ⟨w.heap.size+1,0,none⟩)] S a.per a.inc (dQ a d) _ (by omega) (by omega) (by omega) (by omega) (by omega) (by omega) HVAL.out (by exact fun t w1 ht hb=>a1t _ F _ A n c a d t w1 (FA.out.below hb) (DB.out.below hb DB.out.lt) HA.out hd0 hd1 (by omega)) (fun x w=>by kernel_rfl)).mono ?_;rintro e w5 ⟨r,er,hS,A5,n5,c5,rfl,hI5,hA5,hbq⟩;have FN:=aA (FIN.out _ _ hS);have hs0:=RB.out.lt;have HI5:=aA hI5;have HA5:=aA hA5;clear hS hI5 hA5;clear r0 r1 r2 y0 y1 y2 hlr;have FA:=aA (FA.out.below hbq);have DB:=aA (DB.out.below hbq DB.out.lt);have BW:=aA (aD BW.out hbq);have RB:=aA (RB.out.below hbq RB.out.lt);clear hbq;clear a0 a1 a2 hla z0 hlz;obtain⟨a0,a1,a2,hla⟩:=FA.out.cells;have z0:=DB.out.cell 0;simp at z0;have hlz:=DB.out.lt;obtain⟨⟨r0,r1,r2⟩,⟨y0,y1,y2⟩,hlr⟩:=RB.out.c3
       skip)
   )
  all_goals
   go_wp2_with fail
   have rb:=RB.out.store3 (.slice A5 n5 c5) (.int .i64 r.per) (.int .i64 r.inc);refine bodyPost_ret (v:=.tuple #[.agg #[(.slice A5 n5 c5),.int .i64 r.per,.int .i64 r.inc],.int .i64 er]) (by simp [results,Tryz.results180,go_sem,rb.cell]) rfl ?_;exact fX FN.out HA5.out (by omega) hs0 HI5.out BW.out
theorem J2(a b:Nat)(w:World)(ha:(a:Int)<=1000000)(hb:(b:Int)<=1000000)(ha1:1<=a) :
 Calls Tryz.prog 94 #[.int .i64 a,.int .i64 b] w fun e w'=>e = .returned (.int .i64 (a9 a b:Nat))/\Below w.heap.size w w':=by
 go_enter Tryz.func94,Tryz.ntmps94
 go_wp2
 go_loopg [5,6] b (fun g s0 s1 wx=>∃x y:Nat,s0 = .int .i64 x/\s1 = .int .i64 y/\y=g/\(x:Int)<=1000000/\(y:Int)<=1000000/\Hid (Nat.gcd x y=Nat.gcd a b)/\Below w.heap.size w wx)
 case atStart=>exact⟨a,b,rfl,rfl,rfl,ha,hb,rfl,Below.refl _ _⟩
 case round=>
  obtain⟨x,y,rfl,rfl,hyg,hx,hy,hgcd,bw⟩:=hrel;have HY:=aA hyg;clear hyg;have HG:=aA hgcd;clear hgcd;by_cases hy0:y=0
  ·have hb1:((y:Int) != 0)=false:=by simpa using hy0
   have hxg:x=Nat.gcd a b:=by rw [<- HG.out.out,hy0,Nat.gcd_zero_right]
   have hx0:0<x:=by rw [hxg];exact Nat.gcd_pos_of_pos_left _ (by omega)
   obtain⟨k,hk⟩:∃k,k=a / x:=⟨_,rfl⟩
   have hka:k<=a:=by rw [hk];exact Nat.div_le_self _ _
   have ed:((a:Int).tdiv (x:Int))=(k:Int):=by rw [hk];rfl
   have hxn:(x:Int)≠0:=by omega
   have hkb:(k:Int)*b<=1000000*1000000:=Int.mul_le_mul (by omega) hb (by omega) (by omega);have hkb0:0<=(k:Int)*b:=Int.mul_nonneg (by omega) (by omega);have F:=aA (show(k:Int)*b=(a9 a b:Nat) by unfold a9;rw [<- hxg,<- hk];simp);clear HG hy0 hxg hk
   go_wp2
   go_ret
   exact⟨iV F.out,bw⟩
  ·have hb1:((y:Int) != 0)=true:=by simpa using hy0
   have F:=aA (show Nat.gcd y (x % y)=Nat.gcd a b by rw [Nat.gcd_comm,<- Nat.gcd_rec,Nat.gcd_comm];exact HG.out.out);clear HG;have hy0':(y:Int)≠0:=by omega
   go_wp2_with fail
   go_quiet (fail)
   go_wp2
   go_roundg (x % y)
   case measure=>rw [<- HY.out];exact Nat.mod_lt _ (by omega)
   case rel=>exact⟨y,x % y,by go_num,by go_num,rfl,hy,by have:=Nat.mod_lt x (show y>0 by omega);omega,F.out,cC bw⟩
def uU(low cap s p:Int)(ok:Bool):Prop:=(ok=true/\low<=s/\s<=120*cap/\1<=p/\p<=120/\∃k,1<=k/\cap*p=k*s)\/(ok=false/\s=0/\p=0)
def D9(low cap:Int)(w:World)(e:Ending)(w':World):Prop:=∃s p ok,uU low cap s p ok/\e = .returned (.tuple #[.int .i64 s,.int .i64 p,.bool ok])/\Below w.heap.size w w'
theorem yL(low cap:Nat)(w:World)(h1:1<=low)(h2:low<=100000)(hc1:1<=cap)(hc2:cap<=4000) :
 Calls Tryz.prog 199 #[.int .i64 low,.int .i64 cap] w (D9 low cap w):=by
 have em:IntKind.i64.wrap (120*(cap:Int))=120*(cap:Int):=IntWalk.i64_in _ (by omega);go_enter Tryz.func199,Tryz.ntmps199
 go_wp2_with fail
 go_loopg [4,5] (120*cap+1-low) (fun gg s4 _ wr=>∃s:Nat,low<=s/\s<=1000000/\120*cap+1-s<=gg/\s4 = .int .i64 s/\Hid (Below w.heap.size w wr))
 case atStart=>exact⟨low,by omega,by omega,by omega,rfl,aA (Below.refl _ _)⟩
 case round=>
  obtain⟨s,hs1,hs2,hsg,rfl,BW⟩:=hrel;by_cases hs:s<=120*cap
  case pos=>
   have hd:decide ((s:Int)<=120*(cap:Int))=true:=decide_eq_true (by omega);have hsi:(s:Int)<=120*(cap:Int):=by omega
   go_wp2_with fail
   refine(J2 s cap wr (by omega) (by omega) (by omega)).mono ?_;rintro e w2 ⟨rfl,hb⟩;replace BW:=aA (aD BW.out hb);obtain⟨p,hp⟩:∃p:Nat,p=a9 s cap / cap:=⟨_,rfl⟩
   have hd1:cap∣a9 s cap:=by
    unfold a9;exact Nat.dvd_mul_left _ _
   obtain⟨k,hk⟩:∃k,a9 s cap=s*k:=by
    unfold a9;refine⟨cap / Nat.gcd s cap,?_⟩
    rw [<- Nat.mul_div_assoc _ (Nat.gcd_dvd_right s cap),Nat.mul_comm (s / _),<- Nat.mul_div_assoc _ (Nat.gcd_dvd_left s cap),Nat.mul_comm cap s]
   have hcp:cap*p=a9 s cap:=by rw [hp];exact Nat.mul_div_cancel' hd1
   have hpos:0<a9 s cap:=by
    unfold a9;exact Nat.mul_pos (Nat.div_pos (Nat.le_of_dvd (by omega) (Nat.gcd_dvd_left s cap)) (Nat.gcd_pos_of_pos_left _ (by omega))) (by omega)
   have hp0:1<=p:=by
    rcases Nat.eq_zero_or_pos p with e|e
    ·rw [e] at hcp;omega
    ·exact e
   have ed:((a9 s cap:Nat):Int).tdiv (cap:Int)=(p:Int):=by rw [hp];rfl
   have hcn:(cap:Int)≠0:=by omega
   have hcl:a9 s cap<=s*cap:=by
    unfold a9;exact Nat.mul_le_mul_right _ (Nat.div_le_self _ _)
   have hcb:s*cap<=1000000*4000:=Nat.mul_le_mul hs2 hc2;have HK:=aA (show cap*p=s*k from hcp.trans hk);have hpx:p<=a9 s cap:=by rw [hp];exact Nat.div_le_self _ _
   have hk0:1<=k:=by
    rcases Nat.eq_zero_or_pos k with e|e
    ·rw [e] at hk;omega
    ·exact e
   generalize a9 s cap=X at *;have hXi:(X:Int)<=4000000000:=by omega
   have hpxi:(p:Int)<=4000000000:=by omega
   clear hp hd1 hk hcp hcl hcb hb;by_cases hp2:p<=120
   case pos=>
    have hpi:(p:Int)<=120:=by omega
    have F:=aA (show uU low cap s p true from .inl ⟨rfl,by omega,by omega,by omega,by omega,k,by omega,by have:=HK.out;rw [Int.mul_comm (k:Int)];exact_mod_cast this⟩);clear hpos;go_wp2_with fail
    exact bodyPost_ret (v:=.tuple #[.int .i64 s,.int .i64 p,.bool true]) (by simp [results,Tryz.results199,go_sem]) rfl ⟨s,p,true,F.out,rfl,BW.out⟩
   case neg=>
    have hpi:¬(p:Int)<=120:=by omega
    have hd2:decide ((p:Int)<=120)=false:=decide_eq_false (by omega);clear hpos HK;go_wp2_with fail
    go_roundg (120*cap+1-(s+1))
    case measure=>omega
    case rel=>exact⟨s+1,by omega,by omega,Nat.le_refl _,by go_num,BW⟩
  case neg=>
   have hd:decide ((s:Int)<=120*(cap:Int))=false:=decide_eq_false (by omega);have hsi:¬(s:Int)<=120*(cap:Int):=by omega
   go_wp2_with fail
   exact bodyPost_ret (v:=.tuple #[.int .i64 0,.int .i64 0,.bool false]) (by simp [results,Tryz.results199,go_sem]) rfl ⟨0,0,false,.inr ⟨rfl,rfl,rfl⟩,rfl,BW.out⟩
theorem wL(N fid:Nat)(caps:Array Value)(w:World)(hN:N<=1000000000)
 (hch:Hid (∀(y:Nat) (w1:World),y<=2*N+2->Below w.heap.size w w1->Calls Tryz.prog fid (#[.int .i64 y] ++ caps) w1 fun e w2=>e = .returned (.bool (decide (N<=y)))/\Below w1.heap.size w1 w2))
 (hcf:∀(x:Value) (w:World),Sem.run Tryz.prog (callFunc fid (#[x] ++ caps)) w = .ok (.enter fid (#[x] ++ caps)) w) :
 Calls Tryz.prog 201 #[.func (.func fid) #[] caps] w fun e w'=>e = .returned (.int .i64 N)/\Below w.heap.size w w':=by
 go_enter Tryz.func201,Tryz.ntmps201
 go_wp2_with fail
 go_loopg [3] (N+1) (fun gg s3 wr=>∃h:Nat,1<=h/\h<=2*N+2/\N+2<=gg+h/\s3 = .int .i64 h/\Hid (Below w.heap.size w wr))
 case atStart=>exact⟨1,by omega,by omega,by omega,rfl,aA (Below.refl _ _)⟩
 case round=>
  obtain⟨h0,h1,h2,h3,rfl,BW⟩:=hrel;obtain⟨y,rfl⟩:∃y,h0=y+1:=⟨h0-1,by omega⟩
  have e1:((y+1:Nat):Int)-1=(y:Int):=by omega
  go_wp2_with fail
  refine(hch.out y wr (by omega) BW.out).mono ?_;rintro e w2 ⟨rfl,hb⟩;replace BW:=aA (aD BW.out hb);clear hb e1;by_cases hy:N<=y
  case neg=>
   have hd:decide (N<=y)=false:=decide_eq_false hy;rw [hd];go_wp2_with fail
   go_roundg (gk-1)
   case measure=>omega
   case rel=>exact⟨2*(y+1),by omega,by omega,by omega,by go_num,BW⟩
  case pos=>
   have hd:decide (N<=y)=true:=decide_eq_true hy;rw [hd];have e1:((y+1:Nat):Int)-1=(y:Int):=by omega
   go_wp2_with fail
   go_loopg [3,4,5] (y+1) (fun gg s3 s4 _ wx=>∃lo hi:Nat,lo<=N/\N<=hi/\hi<=2*N+1/\hi+1<=gg+lo/\s3 = .int .i64 hi/\s4 = .int .i64 lo/\Hid (Below w.heap.size w wx))
   case atStart=>exact⟨0,y,by omega,by omega,by omega,by omega,rfl,rfl,BW⟩
   case round=>
    clear BW;obtain⟨lo,hi,h4,h5,h6,h7,rfl,rfl,BW⟩:=hrel;by_cases hlt:lo<hi
    case pos=>
     have hlti:(lo:Int)<(hi:Int):=by omega
     obtain⟨m,hm⟩:∃m:Nat,m=(lo+hi) / 2:=⟨_,rfl⟩
     have em:=aA (show((lo:Int)+(hi:Int)) / 2=(m:Int) by omega);go_wp2_with fail
     rw [em.out];refine(hch.out m wr (by omega) BW.out).mono ?_;rintro e w2 ⟨rfl,hb⟩;replace BW:=aA (aD BW.out hb);clear hb;by_cases hy2:N<=m
     case pos=>
      have hd2:decide (N<=m)=true:=decide_eq_true hy2;rw [hd2];go_wp2_with fail
      go_roundg (gk-1)
      case measure=>omega
      case rel=>exact⟨lo,m,by omega,by omega,by omega,by omega,by rw [em.out],rfl,BW⟩
     case neg=>
      have hd2:decide (N<=m)=false:=decide_eq_false hy2;rw [hd2];go_wp2_with fail
      go_roundg (gk-1)
      case measure=>omega
      case rel=>exact⟨m+1,hi,by omega,by omega,by omega,by omega,rfl,by rw [em.out];go_num,BW⟩
    case neg=>
     have hlti:¬(lo:Int)<(hi:Int):=by omega
     obtain rfl:lo=N:=by omega
     go_wp2_with fail
     go_ret
     exact⟨rfl,BW.out⟩
theorem wW(L F D:Nat)(A:Option Addr)(n c:Nat)(a:Cv)(d:Int)(t:Nat)(w:World)(hF:Bz L w F A n c a)(hD:aC w D 3 #[.int .i64 d])(ha:a.Ok)(hd0:1<=d)(hd:d<=1500)(ht:t<=1000000) :
 Calls Tryz.prog 91 (#[.int .i64 t] ++ #[.pointer (some ⟨F,0,none⟩),.pointer (some ⟨D,0,none⟩)]) w fun e w'=>e = .returned (.int .i64 (dP a (d-1) t))/\Below w.heap.size w w':=by
 have FA:=aA hF;have DB:=aA hD;have hl1:a.vals.length=n:=hF.ints.1;have ha1:=ha.n1;have ha2:=ha.n2;have hap:=ha.p1;have hap2:=ha.p2;have hai:=ha.i1;have hai2:=ha.i2;have hapn:=ha.pn;rw [hl1] at ha1 ha2 hapn;have HA:=aA ha;have BW:=aA (Below.refl w.heap.size w);show Calls _ _ #[.int .i64 t,.pointer (some ⟨F,0,none⟩),.pointer (some ⟨D,0,none⟩)] _ _
 rcases t with _|t
 ·rw [nB];clear hF hD hl1 ha;go_enter Tryz.func91,Tryz.ntmps91
  have bw:=BW.out;go_wp2_with fail
  go_ret
  exact⟨rfl,bw⟩
 rw [jQ];have hx:=j4 ha (t:=t) (by omega);have hv:=sY ha (t:=t) (c:=d-1) (by omega);obtain⟨x,hx'⟩:∃x,x=a.at t:=⟨_,rfl⟩
 obtain⟨v,hv'⟩:∃v,v=gG a (d-1) t:=⟨_,rfl⟩
 have HX:=aA hx';rw [<- hx'] at hx hv;rw [<- hv'] at hv ⊢;have HV:=aA hv;have HXB:=aA hx;have d0:(((t+1:Nat):Int) == 0)=false:=by simp only [beq_eq_false_iff_ne];omega
 have ew:IntKind.i64.wrap (((t+1:Nat):Int)-1)=(t:Int):=by rw [IntWalk.i64_in _ (by omega)];omega
 have ewd:IntKind.i64.wrap (d-1)=d-1:=IntWalk.i64_in _ (by omega);obtain⟨T,hT⟩:∃T:Int,T=((t+1:Nat):Int):=⟨_,rfl⟩
 rw [<- hT] at d0 ew ⊢;clear hF hD hl1 ha hx hx' hv hv' hT;go_enter Tryz.func91,Tryz.ntmps91
 obtain⟨a0,a1,a2,hla⟩:=FA.out.cells;have z0:=DB.out.cell 0;simp at z0;have hlz:=DB.out.lt;go_wp2_with fail
 refine(gA A n c a.per a.inc t a.vals _ (by exact FA.out.ints) (by omega) hap hapn hai (by omega) HA.out.nn (by omega) (by omega)).mono ?_;rw [Int.toNat_natCast,show Cv.at ⟨a.vals,a.per,a.inc⟩ t=x from HX.out.symm];rintro e w1 ⟨rfl,hbq⟩;have FA:=aA (FA.out.below hbq);have DB:=aA (DB.out.below hbq DB.out.lt);have BW:=aA (aD BW.out hbq);clear hbq;clear a0 a1 a2 hla z0 hlz;obtain⟨a0,a1,a2,hla⟩:=FA.out.cells;have z0:=DB.out.cell 0;simp at z0;have hlz:=DB.out.lt;by_cases hi:x=4611686018427387904
 ·have d1:(x == 4611686018427387904)=true:=by simpa using hi
  have F9:=aA (show x=v by rw [HV.out,if_pos (show x=aG from hi)];exact hi);have bw:=BW.out;clear hi;go_wp2_with fail
  go_ret
  exact⟨iV F9.out,bw⟩
 ·have d1:(x == 4611686018427387904)=false:=by simpa using hi
  have hx0:=HXB.out.1;have hx1:x<=1152921504606846976:=HXB.out.2.resolve_left hi;have HM:=aA (show(if(0:Int)<x-(d-1) then x-(d-1) else 0)=v by
   rw [HV.out,if_neg (show ¬x=aG from hi)];split <;> omega)
  have e1:IntKind.i64.wrap (x-(d-1))=x-(d-1):=IntWalk.i64_in _ (by omega);have bw:=BW.out;clear hi;go_wp2_with fail
  all_goals
   go_ret
   exact⟨iV (by have:=HM.out;split at this <;> omega),bw⟩
theorem sT(A0:Option Addr)(n0 c0:Nat)(p i d:Int)(xs:List Int)(w:World)(hA:aE w w.heap.size A0 n0 xs)(hn:(n0:Int)<=1000000)(hf:Cv.Ok ⟨xs,p,i⟩)(hd0:1<=d)(hd1:d<=1500) :
 Calls Tryz.prog 35 #[.agg #[.slice A0 n0 c0,.int .i64 p,.int .i64 i],.int .i64 d] w (dI (gX ⟨xs,p,i⟩ (d-1)) w):=by
 have E:=aA (((L1.new (c:=c0) (p:=p) (i:=i) hA).alloc (.cells #[.int .i64 d] 3)).alloc (.cells #[.slice none 0 0,.int .i64 0,.int .i64 0] 26));have db:=(aC.new (w.alloc (.cells #[.slice A0 n0 c0,.int .i64 p,.int .i64 i] 26)) 3 #[.int .i64 d]).alloc (.cells #[.slice none 0 0,.int .i64 0,.int .i64 0] 26);have rb:=aC.new ((w.alloc (.cells #[.slice A0 n0 c0,.int .i64 p,.int .i64 i] 26)).alloc (.cells #[.int .i64 d] 3)) 26 #[.slice none 0 0,.int .i64 0,.int .i64 0];rw [World.size_alloc] at db;rw [World.size_alloc,World.size_alloc] at rb;have DB:=aA db;have RB:=aA rb;clear hA db rb;go_enter Tryz.func35,Tryz.ntmps35
 go_wp2_with fail
 refine(jR A0 n0 c0 p i xs _ E.out.ints hn).mono ?_;rintro e w1 ⟨a,er,hN,A,n,c,rfl,hI1,hA1,hb⟩;obtain⟨rfl,hna,hao,hnl,-⟩:=xO hf hN;simp only [World.size_alloc] at hA1;have hs0:=(RB.out.below hb RB.out.lt).lt;have FA:=aA (Bz.mk (L:=w.heap.size+1+1+1) (c:=c) (f:=a) (aC.new w1 26 #[.slice A n c,.int .i64 a.per,.int .i64 a.inc]) (hI1.alloc' _) hA1);replace DB:=aA ((DB.out.below hb DB.out.lt).alloc (.cells #[.slice A n c,.int .i64 a.per,.int .i64 a.inc] 26));replace RB:=aA ((RB.out.below hb RB.out.lt).alloc (.cells #[.slice A n c,.int .i64 a.per,.int .i64 a.inc] 26));have BW:=aA (aD (aD E.out.bw hb) (aF _ (.cells #[.slice A n c,.int .i64 a.per,.int .i64 a.inc] 26)));have hl1:a.vals.length=n:=hI1.1;clear hI1 hA1 hb E hN hnl;go_upto_region 2 with fail
 generalize hwz:w1.alloc (.cells #[.slice A n c,.int .i64 a.per,.int .i64 a.inc] 26)=wz at *;clear hwz;generalize hFe:w1.heap.size=F at *;have hne1:w.heap.size+1+1≠F:=by omega
 have hne2:w.heap.size+1+1≠w.heap.size+1:=by omega
 clear hFe;obtain⟨⟨r0,r1,r2⟩,⟨y0,y1,y2⟩,hlr⟩:=RB.out.c3;have ha1:=hao.n1;have ha2:=hao.n2;have hap:=hao.p1;have hap2:=hao.p2;have hai:=hao.i1;have hai2:=hao.i2;have hapn:=hao.pn;rw [hl1] at ha1 ha2 hapn;have HA:=aA hao;obtain⟨S,hS⟩:∃S,S=a.vals.length-a.per.toNat:=⟨_,rfl⟩
 have hSi:(n:Int)-a.per=(S:Int):=by rw [hS,hl1];omega
 have hS2:S<=399:=by omega
 have q1:decide (d<1)=false:=decide_eq_false (by omega);have q2:decide ((1500:Int)<d)=false:=decide_eq_false (by omega);have ewd:IntKind.i64.wrap (d-1)=d-1:=IntWalk.i64_in _ (by omega);obtain⟨a0,a1,a2,hla⟩:=FA.out.cells;have z0:=DB.out.cell 0;simp at z0;have hlz:=DB.out.lt;go_wp2_with fail
 refine(dR A n c a.per a.inc _ (by omega) (by omega) (by omega)).mono ?_;rw [hSi];rintro e w4 ⟨rfl,hbq⟩;clear r0 r1 r2 y0 y1 y2 hlr;have FA:=aA (FA.out.below hbq);have DB:=aA (DB.out.below hbq DB.out.lt);have BW:=aA (aD BW.out hbq);have RB:=aA (RB.out.below hbq RB.out.lt);clear hbq;clear a0 a1 a2 hla z0 hlz;obtain⟨a0,a1,a2,hla⟩:=FA.out.cells;have z0:=DB.out.cell 0;simp at z0;have hlz:=DB.out.lt;obtain⟨⟨r0,r1,r2⟩,⟨y0,y1,y2⟩,hlr⟩:=RB.out.c3;have ews:IntKind.i64.wrap ((S:Int)+1)=((S+1:Nat):Int):=by rw [IntWalk.i64_in _ (by omega)];omega
 by_cases hi0:a.inc=0
 ·have g1:¬(0:Int)<a.inc:=by omega
  have FIN:=aA (show ∀r er,eW (dP a (d-1)) (((S+1:Nat):Int)).toNat a.per.toNat a.inc r er->gX ⟨xs,p,i⟩ (d-1) r er from fun r er h=>gX.made hao (by omega) hf hna (V5 hao (by omega) hi0 (by rw [<- hS];exact h)));have HVAL:=aA (show ∀k:Nat,(k:Int)<((S+1:Nat):Int)+a.per->0<=dP a (d-1) k/\dP a (d-1) k<=4611686018427387904 from fun k hk=>wZ hao (by omega) (by omega));clear hf hna hao hl1 hS hSi hi0;go_wp2_with fail
  refine(kN 91 #[.pointer (some ⟨F,0,none⟩),.pointer (some ⟨w.heap.size+1,0,none⟩)] ((S+1:Nat):Int) a.per a.inc (dP a (d-1)) _ (by omega) (by omega) (by omega) (by omega) (by omega) (by omega) HVAL.out (by exact fun t w1 ht hb=>wW _ F _ A n c a d t w1 (FA.out.below hb) (DB.out.below hb DB.out.lt) HA.out hd0 hd1 (by omega)) (fun x w=>by kernel_rfl)).mono ?_;rintro e w5 ⟨r,er,hS,A5,n5,c5,rfl,hI5,hA5,hbq⟩;have FN:=aA (FIN.out _ _ hS);have hs0:=RB.out.lt;have HI5:=aA hI5;have HA5:=aA hA5;clear hS hI5 hA5;clear r0 r1 r2 y0 y1 y2 hlr;have FA:=aA (FA.out.below hbq);have DB:=aA (DB.out.below hbq DB.out.lt);have BW:=aA (aD BW.out hbq);have RB:=aA (RB.out.below hbq RB.out.lt);clear hbq;clear a0 a1 a2 hla z0 hlz;obtain⟨a0,a1,a2,hla⟩:=FA.out.cells;have z0:=DB.out.cell 0;simp at z0;have hlz:=DB.out.lt;obtain⟨⟨r0,r1,r2⟩,⟨y0,y1,y2⟩,hlr⟩:=RB.out.c3;go_wp2_with fail
  have rb:=RB.out.store3 (.slice A5 n5 c5) (.int .i64 r.per) (.int .i64 r.inc);refine bodyPost_ret (v:=.tuple #[.agg #[(.slice A5 n5 c5),.int .i64 r.per,.int .i64 r.inc],.int .i64 er]) (by simp [results,Tryz.results35,go_sem,rb.cell]) rfl ?_;exact fX FN.out HA5.out (by omega) hs0 HI5.out BW.out
 ·have g1:(0:Int)<a.inc:=by omega
  obtain⟨x,hx⟩:∃x,x=a.at 399:=⟨_,rfl⟩
  have HX:=aA hx;clear hl1 hS hSi hi0;by_cases hxd:x<d-1
  ·have FN:=aA (show gX ⟨xs,p,i⟩ (d-1) Cv.none 3 from gX.none_ (by decide));clear hf hna hao hx;go_upto_region 10 with fail
   go_region_held3 (fun w'=>w'.cell? ⟨F,0,none⟩=some (.slice A n c)/\w'.cell? ⟨F,1,none⟩=some (.int .i64 a.per)/\w'.cell? ⟨F,2,none⟩=some (.int .i64 a.inc)/\w'.cell? ⟨w.heap.size+1,0,none⟩=some (.int .i64 d)) (first|go_keep)
    (first
     | (go_at_call 43
        refine(gA A n c a.per a.inc 399 a.vals _ (by exact FA.out.drew.ints) (by omega) hap hapn hai (by omega) HA.out.nn (by omega) (by omega)).mono ?_;rw [show((399:Int)).toNat=399 from rfl,show Cv.at ⟨a.vals,a.per,a.inc⟩ 399=x from HX.out.symm];rintro e w6 ⟨rfl,hbq⟩;have hbq:=lH hbq;clear r0 r1 r2 y0 y1 y2 hlr;have FA:=aA (FA.out.below hbq);have DB:=aA (DB.out.below hbq DB.out.lt);have BW:=aA (aD BW.out hbq);have RB:=aA (RB.out.below hbq RB.out.lt);clear hbq;clear a0 a1 a2 hla z0 hlz;obtain⟨a0,a1,a2,hla⟩:=FA.out.cells;have z0:=DB.out.cell 0;simp at z0;have hlz:=DB.out.lt;obtain⟨⟨r0,r1,r2⟩,⟨y0,y1,y2⟩,hlr⟩:=RB.out.c3
        skip))
   all_goals
    go_wp2_with fail
    have rb:=RB.out.store3 (.slice none 0 0) (.int .i64 0) (.int .i64 0);refine bodyPost_ret (v:=.tuple #[.agg #[(.slice none 0 0),.int .i64 0,.int .i64 0],.int .i64 3]) (by simp [results,Tryz.results35,go_sem,rb.cell]) rfl ?_;exact kB FN.out (cO BW.out (by omega) _ _ _)
  ·have FIN:=aA (show ∀r er,eW (dP a (d-1)) ((400:Int)).toNat a.per.toNat a.inc r er->gX ⟨xs,p,i⟩ (d-1) r er from fun r er h=>gX.made hao (by omega) hf hna (V6 hao (by omega) (by omega) h));have HVAL:=aA (show ∀k:Nat,(k:Int)<(400:Int)+a.per->0<=dP a (d-1) k/\dP a (d-1) k<=4611686018427387904 from fun k hk=>wZ hao (by omega) (by omega));clear hf hna hao hx;go_upto_region 10 with fail
   go_region_held3 (fun w'=>w'.cell? ⟨F,0,none⟩=some (.slice A n c)/\w'.cell? ⟨F,1,none⟩=some (.int .i64 a.per)/\w'.cell? ⟨F,2,none⟩=some (.int .i64 a.inc)/\w'.cell? ⟨w.heap.size+1,0,none⟩=some (.int .i64 d)) (first|go_keep)
    (first
     | (go_at_call 43
        refine(gA A n c a.per a.inc 399 a.vals _ (by exact FA.out.drew.ints) (by omega) hap hapn hai (by omega) HA.out.nn (by omega) (by omega)).mono ?_;rw [show((399:Int)).toNat=399 from rfl,show Cv.at ⟨a.vals,a.per,a.inc⟩ 399=x from HX.out.symm];rintro e w6 ⟨rfl,hbq⟩;have hbq:=lH hbq;clear r0 r1 r2 y0 y1 y2 hlr;have FA:=aA (FA.out.below hbq);have DB:=aA (DB.out.below hbq DB.out.lt);have BW:=aA (aD BW.out hbq);have RB:=aA (RB.out.below hbq RB.out.lt);clear hbq;clear a0 a1 a2 hla z0 hlz;obtain⟨a0,a1,a2,hla⟩:=FA.out.cells;have z0:=DB.out.cell 0;simp at z0;have hlz:=DB.out.lt;obtain⟨⟨r0,r1,r2⟩,⟨y0,y1,y2⟩,hlr⟩:=RB.out.c3
        skip))
   all_goals
    go_wp2_with fail
    refine(kN 91 #[.pointer (some ⟨F,0,none⟩),.pointer (some ⟨w.heap.size+1,0,none⟩)] 400 a.per a.inc (dP a (d-1)) _ (by omega) (by omega) (by omega) (by omega) (by omega) (by omega) HVAL.out (by exact fun t w1 ht hb=>wW _ F _ A n c a d t w1 (FA.out.below hb) (DB.out.below hb DB.out.lt) HA.out hd0 hd1 (by omega)) (fun x w=>by kernel_rfl)).mono ?_;rintro e w5 ⟨r,er,hS,A5,n5,c5,rfl,hI5,hA5,hbq⟩;have FN:=aA (FIN.out _ _ hS);have hs0:=RB.out.lt;have HI5:=aA hI5;have HA5:=aA hA5;clear hS hI5 hA5;clear r0 r1 r2 y0 y1 y2 hlr;have FA:=aA (FA.out.below hbq);have DB:=aA (DB.out.below hbq DB.out.lt);have BW:=aA (aD BW.out hbq);have RB:=aA (RB.out.below hbq RB.out.lt);clear hbq;clear a0 a1 a2 hla z0 hlz;obtain⟨a0,a1,a2,hla⟩:=FA.out.cells;have z0:=DB.out.cell 0;simp at z0;have hlz:=DB.out.lt;obtain⟨⟨r0,r1,r2⟩,⟨y0,y1,y2⟩,hlr⟩:=RB.out.c3;go_wp2_with fail
    have rb:=RB.out.store3 (.slice A5 n5 c5) (.int .i64 r.per) (.int .i64 r.inc);refine bodyPost_ret (v:=.tuple #[.agg #[(.slice A5 n5 c5),.int .i64 r.per,.int .i64 r.inc],.int .i64 er]) (by simp [results,Tryz.results35,go_sem,rb.cell]) rfl ?_;exact fX FN.out HA5.out (by omega) hs0 HI5.out BW.out
def kG:Array Value:=#[.slice none 0 0,.int .i64 0,.int .i64 0,.slice none 0 0,.int .i64 0,.int .i64 0,.int .i64 0]
def bH(A:Option Addr)(n c:Nat)(f:Cv)(B:Option Addr)(m d:Nat)(g:Cv)(K:Int):Array Value:=
 #[.slice A n c,.int .i64 f.per,.int .i64 f.inc,.slice B m d,.int .i64 g.per,.int .i64 g.inc,.int .i64 K]
def kY(f g:Cv)(er:Int):Prop:=(¬(f.Ok/\g.Ok)/\er=1)\/(f.Ok/\g.Ok/\er=3/\∃a b,NF f.at a/\NF g.at b/\120<a9 a.per.toNat b.per.toNat)
theorem kY.pair{S:Cv->Cv->Cv->Int->Prop}{f g:Cv}{er:Int}(h:kY f g er):lA S f g Cv.none er:=by
 rcases h with ⟨h,rfl⟩|⟨hf,hg,rfl,a,b,ha,hb,hk⟩
 ·exact .inl ⟨h,rfl,rfl⟩
 ·exact .inr ⟨hf,hg,a,b,ha,hb,.inl ⟨hk,rfl,rfl⟩⟩
theorem kY.ne{f g:Cv}{er:Int}(h:kY f g er):er≠0:=by
 rcases h with ⟨_,rfl⟩|⟨_,_,rfl,_⟩ <;> decide
def C7(f g:Cv)(w:World)(e:Ending)(w':World):Prop:=
 (∃er,kY f g er/\e = .returned (.tuple #[.agg kG,.int .i64 er])/\Below w.heap.size w w')\/
 (f.Ok/\g.Ok/\∃(a b:Cv) (A:Option Addr) (n c:Nat) (B:Option Addr) (m d:Nat),NF f.at a/\NF g.at b/\a.Ok/\b.Ok/\aI a b<=120/\
  e = .returned (.tuple #[.agg (bH A n c a B m d b (aI a b:Nat)),.int .i64 0])/\aE w' w'.heap.size A n a.vals/\aE w' w'.heap.size B m b.vals/\(∀b off s,A=some ⟨b,off,s⟩->w.heap.size<=b)/\(∀b off s,B=some ⟨b,off,s⟩->w.heap.size<=b)/\Below w.heap.size w w')
theorem sG(A B:Option Addr)(n m c d:Nat)(p i q j:Int)(xs ys:List Int)(w:World)(hA:aE w w.heap.size A n xs)(hB:aE w w.heap.size B m ys)(hn:(n:Int)<=1000000)(hm:(m:Int)<=1000000) :
 Calls Tryz.prog 39 #[.agg #[.slice A n c,.int .i64 p,.int .i64 i],.agg #[.slice B m d,.int .i64 q,.int .i64 j]] w (C7 ⟨xs,p,i⟩ ⟨ys,q,j⟩ w):=by
 have P:=aA ((PS.new (c:=c) (p:=p) (i:=i) (d:=d) (q:=q) (j:=j) hA hB).alloc (.cells #[.slice none 0 0,.int .i64 0,.int .i64 0,.slice none 0 0,.int .i64 0,.int .i64 0,.int .i64 0] 91));have rb:=aC.new ((w.alloc (.cells #[.slice A n c,.int .i64 p,.int .i64 i] 26)).alloc (.cells #[.slice B m d,.int .i64 q,.int .i64 j] 26)) 91 #[.slice none 0 0,.int .i64 0,.int .i64 0,.slice none 0 0,.int .i64 0,.int .i64 0,.int .i64 0];rw [World.size_alloc,World.size_alloc] at rb;have RB:=aA rb;clear hA hB rb;go_enter Tryz.func39,Tryz.ntmps39
 obtain⟨f0,f1,f2,g0,g1,g2,hlf,hlg⟩:=P.out.cells;go_wp2_with fail
 refine(jR A n c p i xs _ P.out.ia hn).mono ?_;rintro e w1 ⟨a,er,hN,A1,n1,c1,rfl,hI1,hA1,hb1⟩;simp only [World.size_alloc] at hA1;have HN:=aA (i4.of hN);have P:=aA (P.out.below hb1);have RB:=aA (RB.out.below hb1 RB.out.lt);have HI1:=aA hI1;have hs1:=RB.out.lt;clear hN hI1 hb1 f0 f1 f2 g0 g1 g2 hlf hlg;rcases HN.out with ⟨hfo,hnf,hao,rfl⟩|⟨hno,rfl,rfl⟩
 ·have ha1:=hao.n1;have ha2:=hao.n2;have hap:=hao.p1;have hap2:=hao.p2;have hai:=hao.i1;have hai2:=hao.i2;have hapn:=hao.pn;have hl1:a.vals.length=n1:=HI1.out.1;rw [hl1] at ha1 ha2 hapn;have FA:=aA (Bx.new (c:=c1) (f:=a) HI1.out hA1 (Nat.le_refl _) (by omega) (by omega));have P:=aA (P.out.alloc (.cells #[.slice A1 n1 c1,.int .i64 a.per,.int .i64 a.inc] 26));have RB:=aA (RB.out.alloc (.cells #[.slice A1 n1 c1,.int .i64 a.per,.int .i64 a.inc] 26));have HNF:=aA hnf;have HFO:=aA hfo;have HAO:=aA hao;have HL1:=aA hl1;clear hnf hfo hao HI1 hA1 HN hl1;obtain⟨f0,f1,f2,g0,g1,g2,hlf,hlg⟩:=P.out.cells;go_wp2_with fail
  refine(jR B m d q j ys _ P.out.ib hm).mono ?_;rintro e w2 ⟨b,er,hN,A2,n2,c2,rfl,hI2,hA2,hb2⟩;simp only [World.size_alloc] at hA2;have HN:=aA (i4.of hN);have RB:=aA (RB.out.below hb2 RB.out.lt);have FA:=aA (FA.out.below hb2);have BW:=aA (aD P.out.bw hb2);have HI2:=aA hI2;have hs2:=RB.out.lt;have hs3:=FA.out.lt;clear hN hI2 hb2 P f0 f1 f2 g0 g1 g2 hlf hlg;rcases HN.out with ⟨hgo,hnf,hbo,rfl⟩|⟨hno,rfl,rfl⟩
  ·have hb1:=hbo.n1;have hb2:=hbo.n2;have hbp:=hbo.p1;have hbp2:=hbo.p2;have hbi:=hbo.i1;have hbi2:=hbo.i2;have hbpn:=hbo.pn;have hl2:b.vals.length=n2:=HI2.out.1;rw [hl2] at hb1 hb2 hbpn;have FB:=aA (Bx.new (L:=w.heap.size+1+1+1) (c:=c2) (f:=b) HI2.out hA2 (by omega) (by omega) (by omega));have FA:=aA (FA.out.alloc (.cells #[.slice A2 n2 c2,.int .i64 b.per,.int .i64 b.inc] 26));have RB:=aA (RB.out.alloc (.cells #[.slice A2 n2 c2,.int .i64 b.per,.int .i64 b.inc] 26));have BW:=aA (aD BW.out (aF _ (.cells #[.slice A2 n2 c2,.int .i64 b.per,.int .i64 b.inc] 26)));have HNG:=aA hnf;have HGO:=aA hgo;have HBO:=aA hbo;have HL2:=aA hl2;clear hnf hgo hbo HI2 hA2 HN hl2;obtain⟨C,hC⟩:∃C,C=a9 a.per.toNat b.per.toNat:=⟨_,rfl⟩
   have HC:=aA hC;clear hC;go_upto_region 7 with fail
   generalize hwe:w2.alloc (.cells #[.slice A2 n2 c2,.int .i64 b.per,.int .i64 b.inc] 26)=w3 at *;clear hwe;go_cut [9] (fun s9 wx=>∃P:Nat,s9 = .pointer (some ⟨P,0,none⟩)/\w2.heap.size<P/\aC wx P 91 #[.slice A1 n1 c1,.int .i64 a.per,.int .i64 a.inc,.slice A2 n2 c2,.int .i64 b.per,.int .i64 b.inc,.int .i64 C]/\Bx (w.heap.size+1+1+1) wx w1.heap.size A1 n1 c1 a/\Bx (w.heap.size+1+1+1) wx w2.heap.size A2 n2 c2 b/\aC wx (w.heap.size+1+1) 91 #[.slice none 0 0,.int .i64 0,.int .i64 0,.slice none 0 0,.int .i64 0,.int .i64 0,.int .i64 0]/\Below w.heap.size w wx)
   case first=>
    have FA:=aA FA.out.drew;have FB:=aA FB.out.drew;have RB:=aA (aC.drew RB.out);have BW:=aA (Below.drew BW.out);obtain⟨a0,a1,a2,hla⟩:=FA.out.cells;obtain⟨b0,b1,b2,hlb⟩:=FB.out.cells;refine wp_region_held_drew (S:=(fun w'=>w'.cell? ⟨w1.heap.size,0,none⟩=some (.slice A1 n1 c1)/\w'.cell? ⟨w1.heap.size,1,none⟩=some (.int .i64 a.per)/\w'.cell? ⟨w1.heap.size,2,none⟩=some (.int .i64 a.inc)/\w'.cell? ⟨w2.heap.size,0,none⟩=some (.slice A2 n2 c2)/\w'.cell? ⟨w2.heap.size,1,none⟩=some (.int .i64 b.per)/\w'.cell? ⟨w2.heap.size,2,none⟩=some (.int .i64 b.inc))) (by kernel_rfl) ⟨a0,a1,a2,b0,b1,b2⟩ (fun hH=>?_);generalize hwd:w3.drew=wd at *;clear hwd;refine aO [0,1,2,3,4,5] ?_;(iterate 6 refine aK ?_);refine aP ?_;refine eS 6 8 (fun K hK=>?_) (fun K hK=>?_)
    ·rw [if_pos (by rfl)];go_simp
     refine(lI a.per b.per _ (by omega) (by omega) (by omega) (by omega)).mono ?_;rw [<- HC.out];rintro e wa ⟨rfl,hbq⟩;have FA:=aA (FA.out.below hbq);have FB:=aA (FB.out.below hbq);have RB:=aA (RB.out.below hbq RB.out.lt);have BW:=aA (aD BW.out hbq)
     try (have ZB:=aA (ZB.out.below hbq ZB.out.lt))
     clear hbq hH;clear a0 a1 a2 hla b0 b1 b2 hlb;obtain⟨a0,a1,a2,hla⟩:=FA.out.cells;obtain⟨b0,b1,b2,hlb⟩:=FB.out.cells;refine aH hK (by exact⟨a0,a1,a2,b0,b1,b2⟩) (fun hH=>?_);refine bD 7 ?_;refine aJ 8 (fun K hK=>?_);go_simp
     have hbq:=aF wa (.cells #[.slice none 0 0,.int .i64 0,.int .i64 0,.slice none 0 0,.int .i64 0,.int .i64 0,.int .i64 0] 91);have zb:=aC.new wa 91 #[.slice none 0 0,.int .i64 0,.int .i64 0,.slice none 0 0,.int .i64 0,.int .i64 0,.int .i64 0];have hP:=FB.out.lt;have ZB:=aA zb;clear zb;generalize hwa:wa.alloc (.cells #[.slice none 0 0,.int .i64 0,.int .i64 0,.slice none 0 0,.int .i64 0,.int .i64 0,.int .i64 0] 91)=wb at *;clear hwa;have FA:=aA (FA.out.below hbq);have FB:=aA (FB.out.below hbq);have RB:=aA (RB.out.below hbq RB.out.lt);have BW:=aA (aD BW.out hbq);clear hbq hH;clear a0 a1 a2 hla b0 b1 b2 hlb;obtain⟨a0,a1,a2,hla⟩:=FA.out.cells;obtain⟨b0,b1,b2,hlb⟩:=FB.out.cells;refine aH hK (by exact⟨a0,a1,a2,b0,b1,b2⟩) (fun hH=>?_);refine dA 9 (fun K hK=>?_);refine gH rfl 91 _ _ rfl rfl ZB.out rfl rfl (by kernel_rfl) (by simp [Value.oneCell']) ?_;intro wz hsto rz;have FA:=aA (FA.out.sto hsto (.inl (by omega)));have FB:=aA (FB.out.sto hsto (.inl (by omega)));have RB:=aA (RB.out.sto hsto (by omega));have BW:=aA (cE BW.out hsto (by omega));clear a0 a1 a2 hla b0 b1 b2 hlb;obtain⟨a0,a1,a2,hla⟩:=FA.out.cells;obtain⟨b0,b1,b2,hlb⟩:=FB.out.cells;refine aH hK (by exact⟨a0,a1,a2,b0,b1,b2⟩) (fun hH=>?_);refine aT ?_;go_wp2_with fail
     go_meet
     exact⟨_,rfl,hP,rz,FA.out,FB.out,RB.out,BW.out⟩
    ·rw [if_pos (by rfl)];go_simp
     have hbq:=aF wd (.cells #[.slice none 0 0,.int .i64 0,.int .i64 0,.slice none 0 0,.int .i64 0,.int .i64 0,.int .i64 0] 91);have zb:=aC.new wd 91 #[.slice none 0 0,.int .i64 0,.int .i64 0,.slice none 0 0,.int .i64 0,.int .i64 0,.int .i64 0];have hP:=FB.out.lt;have ZB:=aA zb;clear zb;generalize hwa:wd.alloc (.cells #[.slice none 0 0,.int .i64 0,.int .i64 0,.slice none 0 0,.int .i64 0,.int .i64 0,.int .i64 0] 91)=wa at *;clear hwa;have FA:=aA (FA.out.below hbq);have FB:=aA (FB.out.below hbq);have RB:=aA (RB.out.below hbq RB.out.lt);have BW:=aA (aD BW.out hbq);clear hbq hH;clear a0 a1 a2 hla b0 b1 b2 hlb;obtain⟨a0,a1,a2,hla⟩:=FA.out.cells;obtain⟨b0,b1,b2,hlb⟩:=FB.out.cells;refine aH hK (by exact⟨a0,a1,a2,b0,b1,b2⟩) (fun hH=>?_);refine aJ 6 (fun K hK=>?_);go_simp
     refine(lI a.per b.per _ (by omega) (by omega) (by omega) (by omega)).mono ?_;rw [<- HC.out];rintro e wb ⟨rfl,hbq⟩;have FA:=aA (FA.out.below hbq);have FB:=aA (FB.out.below hbq);have RB:=aA (RB.out.below hbq RB.out.lt);have BW:=aA (aD BW.out hbq)
     try (have ZB:=aA (ZB.out.below hbq ZB.out.lt))
     clear hbq hH;clear a0 a1 a2 hla b0 b1 b2 hlb;obtain⟨a0,a1,a2,hla⟩:=FA.out.cells;obtain⟨b0,b1,b2,hlb⟩:=FB.out.cells;refine aH hK (by exact⟨a0,a1,a2,b0,b1,b2⟩) (fun hH=>?_);refine bD 7 ?_;refine dA 9 (fun K hK=>?_);refine gH rfl 91 _ _ rfl rfl ZB.out rfl rfl (by kernel_rfl) (by simp [Value.oneCell']) ?_;intro wz hsto rz;have FA:=aA (FA.out.sto hsto (.inl (by omega)));have FB:=aA (FB.out.sto hsto (.inl (by omega)));have RB:=aA (RB.out.sto hsto (by omega));have BW:=aA (cE BW.out hsto (by omega));clear a0 a1 a2 hla b0 b1 b2 hlb;obtain⟨a0,a1,a2,hla⟩:=FA.out.cells;obtain⟨b0,b1,b2,hlb⟩:=FB.out.cells;refine aH hK (by exact⟨a0,a1,a2,b0,b1,b2⟩) (fun hH=>?_);refine aT ?_;go_wp2_with fail
     go_meet
     exact⟨_,rfl,hP,rz,FA.out,FB.out,RB.out,BW.out⟩
   case rest=>
    as_aux_lemma=>
    clear FA FB RB BW;obtain⟨P,rfl,hP,pb,fa,fb,rb,bw⟩:=hcut;have PB:=aA pb;have FA:=aA fa;have FB:=aA fb;have RB:=aA rb;have BW:=aA bw;clear pb fa fb rb bw;obtain⟨p6,hlp⟩:_/\_:=⟨PB.out.cell 6,PB.out.lt⟩
    simp at p6;have hrl:=RB.out.lt;by_cases hcc:120<C
    ·have F:=aA (show kY ⟨xs,p,i⟩ ⟨ys,q,j⟩ 3 from .inr ⟨HFO.out,HGO.out,rfl,a,b,HNF.out,HNG.out,by rw [<- HC.out];exact hcc⟩);have hci:(120:Int)<(C:Int):=by omega
     clear hcc;go_wp2_with (refine iK rfl 91 _ _ rfl rfl RB.out rfl rfl (by kernel_rfl) (by simp [Value.oneCell']) ?_;intro wz hsto rz)
     exact bodyPost_ret (v:=.tuple #[.agg kG,.int .i64 3]) (by simp [results,Tryz.results39,go_sem,rz.cell,kG]) rfl (.inl ⟨_,F.out,rfl,cE BW.out hsto (by omega)⟩)
    ·have hci:¬(120:Int)<(C:Int):=by omega
     have HCC:=aA hcc;clear hcc;go_upto_region 10 with fail
     refine wp_region_lit ?_;refine wpList_load_row rfl 91 _ rfl P rfl 91 #[.slice A1 n1 c1,.int .i64 a.per,.int .i64 a.inc,.slice A2 n2 c2,.int .i64 b.per,.int .i64 b.inc,.int .i64 C] (0,0) _ PB.out Tryz.underlying91 rfl (by kernel_rfl) ?_;refine iK rfl 91 _ _ rfl rfl RB.out rfl rfl (by kernel_rfl) (by simp [Value.oneCell']) ?_;intro wz hsto rz;have FA:=aA (FA.out.sto hsto (.inr (by omega)));have FB:=aA (FB.out.sto hsto (.inr (by omega)));have bw:=cE BW.out hsto (by omega)
     (try simp only [Act.put]);(try simp only [dC]);(try simp only [dD]);(try simp only [dE])
     go_wp2_with fail
     have hCo:C=aI a b:=HC.out
     exact bodyPost_ret (v:=.tuple #[.agg (bH A1 n1 c1 a A2 n2 c2 b (aI a b:Nat)),.int .i64 0]) (by simp [results,Tryz.results39,go_sem,rz.cell,bH,hCo]) rfl
      (.inr ⟨HFO.out,HGO.out,a,b,A1,n1,c1,A2,n2,c2,HNF.out,HNG.out,HAO.out,HBO.out,by rw [<- hCo];have:=HCC.out;omega,rfl,FA.out.ints,FB.out.ints,fun b' off s e=>by have:=(FA.out.ap b' off s e).1;omega,fun b' off s e=>by have:=(FB.out.ap b' off s e).1;omega,bw⟩)
  ·have F:=aA (show kY ⟨xs,p,i⟩ ⟨ys,q,j⟩ 1 from .inl ⟨fun h=>hno h.2,rfl⟩);have RB:=aA (RB.out.alloc (.cells #[.slice A2 n2 c2,.int .i64 Cv.none.per,.int .i64 Cv.none.inc] 26));have BW:=aA (aD BW.out (aF _ (.cells #[.slice A2 n2 c2,.int .i64 Cv.none.per,.int .i64 Cv.none.inc] 26)));clear hno HN;go_wp2_with (refine iK rfl 91 _ _ rfl rfl RB.out rfl rfl (by kernel_rfl) (by simp [Value.oneCell']) ?_;intro wz hsto rz)
   exact bodyPost_ret (v:=.tuple #[.agg kG,.int .i64 1]) (by simp [results,Tryz.results39,go_sem,rz.cell,kG]) rfl (.inl ⟨_,F.out,rfl,cE BW.out hsto (by omega)⟩)
 ·have F:=aA (show kY ⟨xs,p,i⟩ ⟨ys,q,j⟩ 1 from .inl ⟨fun h=>hno h.1,rfl⟩);have RB:=aA (RB.out.alloc (.cells #[.slice A1 n1 c1,.int .i64 Cv.none.per,.int .i64 Cv.none.inc] 26));have BW:=aA (aD P.out.bw (aF _ (.cells #[.slice A1 n1 c1,.int .i64 Cv.none.per,.int .i64 Cv.none.inc] 26)));clear hno HN;go_wp2_with (refine iK rfl 91 _ _ rfl rfl RB.out rfl rfl (by kernel_rfl) (by simp [Value.oneCell']) ?_;intro wz hsto rz)
  exact bodyPost_ret (v:=.tuple #[.agg kG,.int .i64 1]) (by simp [results,Tryz.results39,go_sem,rz.cell,kG]) rfl (.inl ⟨_,F.out,rfl,cE BW.out hsto (by omega)⟩)
def D4(a b:Cv)(lo t:Nat)(w:World)(e:Ending)(w':World):Prop:=∃v,cQ a b lo t (t+1) v/\0<=v/\v<=4611686018427387904/\e = .returned (.int .i64 v)/\Below w.heap.size w w'
theorem cQ.bd{a b:Cv}(ha:a.Ok)(hb:b.Ok){lo t S:Nat}{v:Int}(ht:t<=2000)(h:cQ a b lo t S v):0<=v/\v<=4611686018427387904:=by
 rcases h with ⟨_,rfl⟩|⟨⟨s,_,_,h3,rfl⟩,_⟩
 ·unfold aG;omega
 ·have:=sE ha hb ht h3;omega
theorem wB(q1 q2 N:Nat)(a b:Cv)(t lo:Nat)(w:World)(hA:aU w q1 (aZ a.at 0 N))(hB:aU w q2 (aZ b.at 0 N))(ha:a.Ok)(hb:b.Ok)(ht:t<N)(hN:N<=2000)(hlo:lo<=t) :
 Calls Tryz.prog 97 #[.slice (some ⟨q1,0,none⟩) N N,.slice (some ⟨q2,0,none⟩) N N,.int .i64 t,.int .i64 lo,.int .i64 t] w (D4 a b lo t w):=by
 have T1:=aA hA;have T2:=aA hB;have HA:=aA ha;have HB:=aA hb;have BW:=aA (Below.refl w.heap.size w);clear hA hB ha hb;go_enter Tryz.func97,Tryz.ntmps97
 go_wp2_with fail
 go_loopg [12,11] (t+1-lo) (fun gg s12 s11 wx=>∃(S:Nat) (v:Int),lo<=S/\S+gg=t+1/\s12 = .int .i64 S/\s11 = .int .i64 v/\cQ a b lo t S v/\aU wx q1 (aZ a.at 0 N)/\aU wx q2 (aZ b.at 0 N)/\Below w.heap.size w wx)
 case atStart=>exact⟨lo,aG,Nat.le_refl _,by omega,rfl,rfl,cQ.zero a b lo t,T1.out,T2.out,BW.out⟩
 case round=>
  clear T1 T2 BW;obtain⟨S,v,hS,hgg,rfl,rfl,hI,h1,h2,h3⟩:=hrel;have T1:=aA h1;have T2:=aA h2;have BW:=aA h3;have HI:=aA hI;clear h1 h2 h3 hI;by_cases hk:S<=t
  ·have hki:(S:Int)<=t:=by omega
   obtain⟨u,hu⟩:∃u,u=t-S:=⟨_,rfl⟩
   have e1:IntKind.i64.wrap ((t:Int)-(S:Int))=(u:Int):=by rw [IntWalk.i64_in _ (by omega)];omega
   have hSN:S<N:=by omega
   have huN:u<N:=by omega
   have hSNi:(S:Int)<N:=by omega
   have huNi:(u:Int)<N:=by omega
   have hs0:0<=(S:Int):=by omega
   have hu0:0<=(u:Int):=by omega
   have c1:=T1.out.cell S (by rw [cU];exact hSN);have c2:=T2.out.cell u (by rw [cU];exact huN);rw [dT _ _ _ _ hSN,Nat.zero_add] at c1;rw [dT _ _ _ _ huN,Nat.zero_add] at c2;obtain⟨x,hx⟩:∃x,x=a.at S:=⟨_,rfl⟩
   obtain⟨y,hy⟩:∃y,y=b.at u:=⟨_,rfl⟩
   rw [<- hx] at c1;rw [<- hy] at c2;have bx:=HA.out.at_bd (n:=S) (by omega);have by':=HB.out.at_bd (n:=u) (by omega)
   rw [<- hx] at bx;rw [<- hy] at by'
   have hl1:=T1.out.lt;have hl2:=T2.out.lt;have HU:=aA hu;have HX:=aA hx;have HY:=aA hy;clear hu hx hy;by_cases ix:x=aG
   ·have NI:=aA (HI.out.skip (fun h=>h.2.1 (bx.2.2 ix)));unfold aG at ix;have dx:(x != 4611686018427387904)=false:=by simpa using ix
    clear bx by' ix
    go_wp2_with fail
    go_quiet (fail)
    go_wp2_with fail
    go_roundg (gk-1)
    case measure=>omega
    case rel=>exact⟨S+1,v,by omega,by omega,by go_num,rfl,NI.out,T1.out,T2.out,cC BW.out⟩
   ·have dx:(x != 4611686018427387904)=true:=by unfold aG at ix;simpa using ix
    by_cases iy:y=aG
    ·have NI:=aA (HI.out.skip (fun h=>h.2.2 (by rw [<- HU.out];exact by'.2.2 iy)));unfold aG at iy;have dy:(y != 4611686018427387904)=false:=by simpa using iy
     clear bx by' ix iy
     go_wp2_with fail
     go_quiet (fail)
     go_wp2_with fail
     go_roundg (gk-1)
     case measure=>omega
     case rel=>exact⟨S+1,v,by omega,by omega,by go_num,rfl,NI.out,T1.out,T2.out,cC BW.out⟩
    ·have dy:(y != 4611686018427387904)=true:=by unfold aG at iy;simpa using iy
     have HC:=aA (show cG a b t S from⟨by omega,fun h=>ix (by rw [HX.out];exact h.2),fun h=>iy (by rw [HY.out,HU.out];exact h.2)⟩);have bd:=sE HA.out HB.out (show t<=2000 by omega) HC.out;rw [<- HU.out,<- HX.out,<- HY.out] at bd;have vb:=HI.out.bd HA.out HB.out (by omega);have bx0:=bx.1;have by0:=by'.1
     have bd1:=bd.1;have bd2:=bd.2;have e2:IntKind.i64.wrap (x+y)=x+y:=IntWalk.i64_in _ (by omega);obtain⟨z,hz⟩:∃z,z=x+y:=⟨_,rfl⟩
     rw [<- hz] at e2 bd1 bd2;have HZ:=aA hz;have e3:x+y=z:=hz.symm;clear bx by' bd ix iy hz
     by_cases hlt:z<v
     ·have NI:=aA (HI.out.more hS HC.out (.inr (by rw [<- HU.out,<- HX.out,<- HY.out];omega)));rw [<- HU.out,<- HX.out,<- HY.out,<- HZ.out] at NI;clear vb;go_wp2_with fail
      go_quiet (fail)
      go_wp2_with fail
      go_roundg (gk-1)
      case measure=>omega
      case rel=>exact⟨S+1,z,by omega,by omega,by go_num,rfl,NI.out,T1.out,T2.out,cC BW.out⟩
     ·have NI:=aA (HI.out.keep (by rw [<- HU.out,<- HX.out,<- HY.out];omega) (by rw [<- HU.out,<- HX.out,<- HY.out];unfold aG;omega));clear vb;go_wp2_with fail
      go_quiet (fail)
      go_wp2_with fail
      go_roundg (gk-1)
      case measure=>omega
      case rel=>exact⟨S+1,v,by omega,by omega,by go_num,rfl,NI.out,T1.out,T2.out,cC BW.out⟩
  ·have hki:¬(S:Int)<=t:=by omega
   obtain rfl:S=t+1:=by omega
   have bd:=HI.out.bd HA.out HB.out (by omega);have BD:=aA bd;clear bd;go_wp2_with fail
   go_ret
   exact⟨v,HI.out,BD.out.1,BD.out.2,rfl,BW.out⟩
end Go.Proofs.YtaejfleahamapaaGreat
