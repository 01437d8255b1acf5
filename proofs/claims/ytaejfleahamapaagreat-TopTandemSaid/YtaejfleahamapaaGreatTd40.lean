/- . -/
import Derived.Test.YtaejfleahamapaaGreatTd38
import Derived.Test.YtaejfleahamapaaGreatTd39
import Derived.Test.YtaejfleahamapaaGreatTd35
namespace Go.Proofs.YtaejfleahamapaaGreat
set_option linter.unusedVariables false
set_option linter.unusedSimpArgs false
set_option maxHeartbeats 2000000
set_option maxRecDepth 100000
open Go.RowKit
theorem dU.imp{n cls ticks:Nat}{P Q:List Int->List (List Int)->Prop}{w w':World}{e:Ending}(h:dU n cls ticks P w e w')(i:∀d s,P d s->Q d s):dU n cls ticks Q w e w':=by
 obtain⟨done,sent,gD,gS,gcs,hP,r⟩:=h;exact⟨done,sent,gD,gS,gcs,i _ _ hP,r⟩
theorem dI.imp{S T:Cv->Int->Prop}{w w':World}{e:Ending}(h:dI S w e w')(i:∀f er,S f er->T f er):dI T w e w':=by
 obtain⟨f,er,hS,r⟩:=h;exact⟨f,er,i _ _ hS,r⟩
def j0(k cap:Int)(ws tb:List Int)(ps:List PK)(ticks:Nat)(done:List Int)(sent:List (List Int)):Prop:=
 (k=1/\dN cap 2 ps ticks (jX ps) () done sent)\/(k=2/\dN cap 2 ps ticks (gL 2 ps) () done sent)\/(k=3/\dN cap 2 ps ticks (kL ws ps) (0,aB ws 0) done sent)\/(k=4/\dN cap 2 ps ticks (kJ ws ps) ([0,0],0,false) done sent)\/(k=5/\dN cap 2 ps ticks (gZ cap tb ps) () done sent)
def uM(k cap:Int)(ws tb:List Int)(cl:Nat)(fs:List Cv)(zs:List SZ)(f:Cv)(er:Int):Prop:=
 (k=2/\i5 cap cl fs zs f er)\/(k=3/\dS (oE cap (aB ws cl*gF zs cl) (fJ cl ws zs 2)) f er)\/(k=4/\dS (nX cap (aB ws cl) (aW zs cl) (fK cl ws zs 2) (fL cl zs 2)) f er)\/(k=5/\dS (oF cap (max 0 (aW zs cl-1)) tb cl) f er)
structure Z2(zs:List SZ):Prop where
 len:zs.length=2
 g:∀x∈zs,x.Good
 b:∀j,j<2->0<=aW zs j/\aW zs j<=20/\(aW zs j<1\/2<=aW zs j)
section
variable{zs:List SZ}{a b:Int}{c:Nat}
theorem a07(h:Z2 zs)(a0:0<=a)(a1:a<=40)(b0:0<=b)(b1:b<=40):0<=fJ c [a,b] zs 2/\fJ c [a,b] zs 2<=2000:=by
 have z0:=h.b 0 (by omega);have z1:=h.b 1 (by omega);have p0:=Int.mul_nonneg a0 z0.1;have p1:=Int.mul_nonneg b0 z1.1;have q0:a*aW zs 0<=40*20:=Int.mul_le_mul a1 z0.2.1 z0.1 (by omega);have q1:b*aW zs 1<=40*20:=Int.mul_le_mul b1 z1.2.1 z1.1 (by omega);show 0<=(0+(if(0:Nat)=c then 0 else a*aW zs 0))+(if(1:Nat)=c then 0 else b*aW zs 1)/\(0+(if(0:Nat)=c then 0 else a*aW zs 0))+(if(1:Nat)=c then 0 else b*aW zs 1)<=2000
 split <;> split <;> omega
theorem a08(h:Z2 zs)(a0:0<=a)(a1:a<=40)(b0:0<=b)(b1:b<=40):(0<=fK c [a,b] zs 2/\fK c [a,b] zs 2<=2000)/\0<=fL c zs 2/\fL c zs 2<=2000:=by
 have z0:=h.b 0 (by omega);have z1:=h.b 1 (by omega);constructor
 ·show 0<=(0+(if(0:Nat)=c\/aW zs 0<1 then 0 else a))+(if(1:Nat)=c\/aW zs 1<1 then 0 else b)/\(0+(if(0:Nat)=c\/aW zs 0<1 then 0 else a))+(if(1:Nat)=c\/aW zs 1<1 then 0 else b)<=2000
  split <;> split <;> omega
 ·show 0<=(0+(if(0:Nat)=c\/aW zs 0<1 then 0 else aW zs 0-1))+(if(1:Nat)=c\/aW zs 1<1 then 0 else aW zs 1-1)/\(0+(if(0:Nat)=c\/aW zs 0<1 then 0 else aW zs 0-1))+(if(1:Nat)=c\/aW zs 1<1 then 0 else aW zs 1-1)<=2000
  split <;> split <;> omega
end
section
variable{w:World}{B:Nat}{k cap:Int}{AW AS:Option Addr}{nW cW nS cS:Nat}{ws tb:List Int}
theorem nO{m a b:Int}(ha:1<=a/\a<=m)(hb:1<=b/\b<=m):∀k,k<2->1<=aB [a,b] k/\aB [a,b] k<=m:=by
 intro k hk;rcases (show k=0\/k=1 by omega) with rfl|rfl
 ·exact ha
 ·exact hb
theorem sN{q:Int}(h1:0<=q)(h2:q<2):∀k,k<4->0<=aB [0,0,1,q] k/\aB [0,0,1,q] k<=1:=by
 intro k hk;rcases (show k=0\/k=1\/k=2\/k=3 by omega) with rfl|rfl|rfl|rfl
 ·show 0<=(0:Int)/\(0:Int)<=1;omega
 ·show 0<=(0:Int)/\(0:Int)<=1;omega
 ·show 0<=(1:Int)/\(1:Int)<=1;omega
 ·show 0<=q/\q<=1;omega
theorem cJ.chk(h:cJ w B k cap AW AS nW cW nS cS ws tb):iY w #[.int .i64 k,.int .i64 cap,.int .i64 (2:Nat),.slice AW nW cW,.slice AS nS cS]:=by
 intro w' hb;have h':=h.below hb;have hc:=h.c1;refine H9 k cap (2:Nat) AW AS nW cW nS cS w' h.k1.1 h.k1.2 (by omega) (by omega) (by omega) (by omega) (fun w2 hb2=>?_);have h2:=h'.below hb2;rcases five h.k1.1 h.k1.2 with rfl|rfl|rfl|rfl|rfl
 ·obtain⟨rfl,rfl⟩:=h2.h12 (.inl rfl);exact wJ 1 cap (2:Nat) AW AS cW cS w2
 ·obtain⟨rfl,rfl⟩:=h2.h12 (.inr rfl);exact yF 2 cap (2:Nat) AW AS cW cS w2
 ·obtain⟨rfl,rfl,rfl,⟨a,b,rfl,a1,a2,b1,b2⟩,g,rfl,_,hI⟩:=h2.h3 rfl;exact a2l 3 cap 2 2 cS _ AS [a,b] w2 hI.ints (by omega) (nO ⟨by omega,by omega⟩ ⟨by omega,by omega⟩)
 ·obtain⟨rfl,rfl,rfl,⟨a,b,rfl,a1,a2,b1,b2⟩,g,rfl,_,hI⟩:=h2.h4 rfl;exact P0 4 cap 2 2 cS _ AS [a,b] w2 hI.ints (by omega) (nO ⟨by omega,by omega⟩ ⟨by omega,by omega⟩)
 ·obtain⟨rfl,rfl,rfl,⟨q,rfl,q1,q2⟩,g,rfl,_,hI⟩:=h2.h5 rfl;exact a45 5 cap 2 4 cW 4 AW _ [0,0,1,q] w2 hI.ints (by omega) (by omega) (by omega) (fun k hk=>by have:=sN q1 q2 k hk;omega)
theorem xH{A:Option Addr}{n c:Nat}{ps:List PK}{ticks:Nat}(h:cJ w B k cap AW AS nW cW nS cS ws tb)(hT:bN w A n c ps)(hv:aM ps)(hfl:∀x∈ps,x.fl<(2:Nat))(ht:ticks<=2000) :
 Calls Tryz.prog 22 #[.agg #[.int .i64 k,.int .i64 cap,.int .i64 (2:Nat),.slice AW nW cW,.slice AS nS cS],.slice A n c,.int .i64 ticks] w (dU n 2 ticks (j0 k cap ws tb ps ticks) w):=by
 have hc:=h.c1;refine zD k cap 2 AW AS nW cW nS cS A n c ticks _ w h.k1.1 h.k1.2 h.chk (fun w2 hb2=>?_);have h2:=h.below hb2;have hT2:=hT.below hb2;rcases five h.k1.1 h.k1.2 with rfl|rfl|rfl|rfl|rfl
 ·exact(T6 1 cap 2 AW AS nW cW nS cS A n c ps ticks w2 hT2 hv hfl (by omega) (by omega) (by omega) (by omega) ht).mono (fun _ _ r=>r.imp (fun d s hs=>.inl ⟨rfl,hs⟩))
 ·exact(yG 2 cap 2 AW AS nW cW nS cS A n c ps ticks w2 hT2 hv hfl (by omega) (by omega) (by omega) (by omega) ht).mono (fun _ _ r=>r.imp (fun d s hs=>.inr (.inl ⟨rfl,hs⟩)))
 ·obtain⟨rfl,rfl,rfl,⟨a,b,rfl,a1,a2,b1,b2⟩,g,rfl,_,hI⟩:=h2.h3 rfl;exact(a2m 3 cap AS 0 cS A n c ps ticks w2 hT2 hv hfl (by omega) (by omega) ht g [a,b] hI rfl (nO ⟨by omega,by omega⟩ ⟨by omega,by omega⟩)).mono (fun _ _ r=>r.imp (fun d s hs=>.inr (.inr (.inl ⟨rfl,hs⟩))))
 ·obtain⟨rfl,rfl,rfl,⟨a,b,rfl,a1,a2,b1,b2⟩,g,rfl,_,hI⟩:=h2.h4 rfl;exact(P3 4 cap AS 0 cS A n c ps ticks w2 hT2 hv hfl (by omega) (by omega) ht g [a,b] hI rfl (nO ⟨by omega,by omega⟩ ⟨by omega,by omega⟩)).mono (fun _ _ r=>r.imp (fun d s hs=>.inr (.inr (.inr (.inl ⟨rfl,hs⟩)))))
 ·obtain⟨rfl,rfl,rfl,⟨q,rfl,q1,q2⟩,g,rfl,_,hI⟩:=h2.h5 rfl;exact(a46 AW 0 cW cap _ 4 4 A n c ps ticks w2 hT2 hv hfl (by omega) (by omega) ht [0,0,1,q] hI.ints (by omega) (by omega) (fun k hk=>by have:=sN q1 q2 k hk;omega)).mono (fun _ _ r=>r.imp (fun d s hs=>.inr (.inr (.inr (.inr ⟨rfl,hs⟩)))))
theorem Y9{cl g o c q s d:Nat}{xs:List CR}{zs:List SZ}(h:cJ w B k cap AW AS nW cW nS cS ws tb)(h1:k≠1)(hcl:cl<2)(hnc:2<=c)(hnd:2<=d)(hx:xs.length=2)(hrow:cR w g o xs)(hfin:∀x∈xs,x.f.Fin)(hlen:∀x∈xs,x.n<=1000)(hz:Z2 zs)(hrz:eM w q s zs) :
 Calls Tryz.prog (qA k) #[.agg #[],.agg #[.int .i64 k,.int .i64 cap,.int .i64 (2:Nat),.slice AW nW cW,.slice AS nS cS],.int .i64 cl,.slice (some ⟨g,o,none⟩) 2 c,.slice (some ⟨q,s,none⟩) 2 d] w (dI (uM k cap ws tb cl (xs.map CR.f) zs) w):=by
 have hc:=h.c1;have hzl:jY w (some ⟨q,s,none⟩) 2 d zs:=⟨hz.len,hnd,by omega,fun _=>⟨q,s,rfl,hrz⟩⟩
 obtain⟨cap,rfl⟩:=Int.eq_ofNat_of_zero_le (show 0<=cap by omega);rcases five h.k1.1 h.k1.2 with rfl|rfl|rfl|rfl|rfl
 ·exact absurd rfl h1
 ·exact(yJ 2 cap cl g o 2 c q s d AW AS nW cW nS cS xs zs w (by omega) (by omega) hcl (by omega) hnc hnd hx hrow hfin hlen hz.len hrz hz.g).mono (fun _ _ r=>r.imp (fun f e hs=>.inl ⟨rfl,hs⟩))
 ·obtain⟨rfl,rfl,rfl,⟨a,b,rfl,a1,a2,b1,b2⟩,g',rfl,_,hI⟩:=h.h3 rfl;have hb:=a07 (c:=cl) hz (a:=a) (b:=b) (by omega) (by omega) (by omega) (by omega);exact(a13 3 cap cl 2 2 0 cS 2 c d _ AS (some ⟨g,o,none⟩) (some ⟨q,s,none⟩) [a,b] zs w ⟨hI.ints,hzl,hz.g,nO ⟨by omega,by omega⟩ ⟨by omega,by omega⟩⟩ (by omega) (by omega) hcl (by omega) hb.1 (by omega)).mono (fun _ _ r=>r.imp (fun f e hs=>.inr (.inl ⟨rfl,hs⟩)))
 ·obtain⟨rfl,rfl,rfl,⟨a,b,rfl,a1,a2,b1,b2⟩,g',rfl,_,hI⟩:=h.h4 rfl;have hb:=a08 (c:=cl) hz (a:=a) (b:=b) (by omega) (by omega) (by omega) (by omega);exact(P9 4 cap cl 2 2 0 cS 2 c d _ AS (some ⟨g,o,none⟩) (some ⟨q,s,none⟩) [a,b] zs w ⟨hI.ints,hzl,hz.g,nO ⟨by omega,by omega⟩ ⟨by omega,by omega⟩⟩ (by omega) (by omega) hcl (by omega) (hz.b cl hcl).2.2 hb.1.1 (by omega) hb.2.1 (by omega)).mono (fun _ _ r=>r.imp (fun f e hs=>.inr (.inr (.inl ⟨rfl,hs⟩))))
 ·obtain⟨rfl,rfl,rfl,⟨t,rfl,q1,q2⟩,g',rfl,_,hI⟩:=h.h5 rfl;exact(a47 5 cap cl 2 0 cW 4 4 2 c d AW _ (some ⟨g,o,none⟩) (some ⟨q,s,none⟩) [0,0,1,t] zs w ⟨hI.ints,by omega,by omega,by omega,fun k hk=>by have:=sN q1 q2 k hk;omega,hzl,hz.g⟩ (by omega) (by omega) hcl (by omega)
   (by rcases (show cl=0\/cl=1 by omega) with rfl|rfl
       ·exact⟨0,by omega,rfl⟩
       ·exact⟨2,by omega,rfl⟩)
   (by rcases (show cl=0\/cl=1 by omega) with rfl|rfl
       ·exact⟨2,by omega,by show(1:Int)≠0;omega⟩
       ·exact⟨0,by omega,by show(0:Int)≠1;omega⟩)).mono (fun _ _ r=>r.imp (fun f e hs=>.inr (.inr (.inr ⟨rfl,hs⟩))))
end
def nZ(cap:Int)(fs:List Cv)(f:Cv)(er:Int):Prop:=
 ∃i v A e,nQ cap fs i v A e/\((e≠0/\f=Cv.none/\er=e)\/(e=0/\i=true/\f=Cv.none/\er=5)\/(e=0/\i=false/\f=(fF v).1/\er=(fF v).2))
theorem S7(k cap:Int)(cl g o n c q s d nW cW nS cS:Nat)(AW AS:Option Addr)(xs:List CR)(w:World)(hc1:1<=cap)(hc2:cap<=4000)(hn:n<=6)(hn1:1<=n)(hx:xs.length=n)(hrow:cR w g o xs)(hlen:∀x∈xs,x.n<=1000) :
 Calls Tryz.prog 172 #[.agg #[],.agg #[.int .i64 k,.int .i64 cap,.int .i64 n,.slice AW nW cW,.slice AS nS cS],.int .i64 cl,.slice (some ⟨g,o,none⟩) n c,.slice (some ⟨q,s,none⟩) n d] w (dI (nZ cap (xs.map CR.f)) w):=by
 have b0:=aF w (.cells #[] 162);have b1:=aD b0 (aF _ (.cells #[.int .i64 k,.int .i64 cap,.int .i64 n,.slice AW nW cW,.slice AS nS cS] 44));have L1:=aA ((aC.new (w.alloc (.cells #[] 162)) 44 #[.int .i64 k,.int .i64 cap,.int .i64 n,.slice AW nW cW,.slice AS nS cS]).alloc (.cells #[.slice none 0 0,.int .i64 0,.int .i64 0] 26));have rb:=aC.new ((w.alloc (.cells #[] 162)).alloc (.cells #[.int .i64 k,.int .i64 cap,.int .i64 n,.slice AW nW cW,.slice AS nS cS] 44)) 26 #[.slice none 0 0,.int .i64 0,.int .i64 0];simp only [World.size_alloc] at rb;have ER:=aA rb;have EB:=aA (aD b1 (aF _ (.cells #[.slice none 0 0,.int .i64 0,.int .i64 0] 26)));have HROW:=aA (hrow.below EB.out);clear b0 b1 rb hrow;go_enter Tryz.func172,Tryz.ntmps172
 go_upto_region 1 with fail
 generalize hwe:((w.alloc (.cells #[] 162)).alloc (.cells #[.int .i64 k,.int .i64 cap,.int .i64 n,.slice AW nW cW,.slice AS nS cS] 44)).alloc (.cells #[.slice none 0 0,.int .i64 0,.int .i64 0] 26)=w1 at *;clear hwe;have L2:=aA (show aC w1 (w.heap.size+1) 44 #[.int .i64 k,.int .i64 cap,.int .i64 n,.slice AW nW cW,.slice AS nS cS] by have:=L1.out;rw [World.size_alloc] at this;exact this);obtain⟨f0,f1,f2,f3,f4⟩:_/\_/\_/\_/\_:=⟨L2.out.cell 0,L2.out.cell 1,L2.out.cell 2,L2.out.cell 3,L2.out.cell 4⟩
 simp at f0 f1 f2 f3 f4;have hlf:=L2.out.lt;go_wp2_with fail
 refine(a3h k cap g o n c nW cW nS cS AW AS xs w1 hc1 hc2 hn hn1 hx HROW.out hlen).mono ?_;rintro e w2 ⟨i,v,A,er,hS,rfl,hb⟩;have F:=aA hS;have hw1:=ER.out.lt;have hbb:=aD hb (aF w2 (.cells #[.bool i,.int .i64 v,.int .i64 A] 35));have DB:=aA (aC.new w2 35 #[.bool i,.int .i64 v,.int .i64 A]);replace ER:=aA (ER.out.below hbb ER.out.lt);replace EB:=aA (aD EB.out hbb);clear hS hb hbb L1 L2 f0 f1 f2 f3 f4 hlf HROW;go_upto_region 2 with fail
 generalize hwe:w2.alloc (.cells #[.bool i,.int .i64 v,.int .i64 A] 35)=w3 at *;clear hwe;generalize w2.heap.size=D at *;by_cases he:er=0
 case neg=>
  have c2:(er != 0)=true:=by simpa using he
  have FN:=aA (show nZ cap (xs.map CR.f) Cv.none er from⟨i,v,A,er,F.out,.inl ⟨he,rfl,rfl⟩⟩);clear he;obtain⟨⟨r0,r1,r2⟩,⟨y0,y1,y2⟩,hlr⟩:=ER.out.c3;go_wp2_with fail
  have rb:=ER.out.store3 (.slice none 0 0) (.int .i64 0) (.int .i64 0);exact bodyPost_ret (v:=.tuple #[.agg #[.slice none 0 0,.int .i64 0,.int .i64 0],.int .i64 er]) (by simp [results,Tryz.results172,go_sem,rb.cell]) rfl (kB FN.out (cO EB.out (by omega) _ _ _))
 case pos=>
 subst he;obtain⟨⟨d0,d1,d2⟩,-,hld⟩:=DB.out.c3;obtain⟨⟨r0,r1,r2⟩,⟨y0,y1,y2⟩,hlr⟩:=ER.out.c3;cases i with
 | true=>
   have FN:=aA (show nZ cap (xs.map CR.f) Cv.none 5 from⟨true,v,A,0,F.out,.inr (.inl ⟨rfl,rfl,rfl,rfl⟩)⟩);go_wp2_with fail
   have rb:=ER.out.store3 (.slice none 0 0) (.int .i64 0) (.int .i64 0);exact bodyPost_ret (v:=.tuple #[.agg #[.slice none 0 0,.int .i64 0,.int .i64 0],.int .i64 5]) (by simp [results,Tryz.results172,go_sem,rb.cell]) rfl (kB FN.out (cO EB.out (by omega) _ _ _))
 | false=>
   have FN:=aA (show nZ cap (xs.map CR.f) (fF v).1 (fF v).2 from⟨false,v,A,0,F.out,.inr (.inr ⟨rfl,rfl,rfl,rfl⟩)⟩);go_wp2_with fail
   refine(a5h v w3).mono ?_;generalize (fF v).1=f at *;generalize (fF v).2=er at *;rintro e w4 ⟨A5,m5,c5,rfl,hI5,hA5,hb⟩;have hw3:=ER.out.lt;replace ER:=aA (ER.out.below hb ER.out.lt);replace EB:=aA (aD EB.out hb);have HI5:=aA hI5;have HA5:=aA hA5;clear hI5 hA5 hb r0 r1 r2 y0 y1 y2 hlr d0 d1 d2 hld;obtain⟨⟨r0,r1,r2⟩,⟨y0,y1,y2⟩,hlr⟩:=ER.out.c3;go_wp2_with fail
   have rb:=ER.out.store3 (.slice A5 m5 c5) (.int .i64 f.per) (.int .i64 f.inc);exact bodyPost_ret (v:=.tuple #[.agg #[.slice A5 m5 c5,.int .i64 f.per,.int .i64 f.inc],.int .i64 er]) (by simp [results,Tryz.results172,go_sem,rb.cell]) rfl (fX FN.out HA5.out (by omega) (by omega) HI5.out EB.out)
def iZ(k cap:Int)(ws tb:List Int)(cl:Nat)(fs:List Cv)(zs:List SZ)(f:Cv)(er:Int):Prop:=
 (k=1/\nZ cap fs f er)\/(k≠1/\uM k cap ws tb cl fs zs f er)
theorem nE{w:World}{B:Nat}{k cap:Int}{AW AS:Option Addr}{nW cW nS cS:Nat}{ws tb:List Int}{cl g o c q s d:Nat}{xs:List CR}{zs:List SZ}(h:cJ w B k cap AW AS nW cW nS cS ws tb)(hcl:cl<2)(hnc:2<=c)(hnd:2<=d)(hx:xs.length=2)(hrow:cR w g o xs)(hfin:∀x∈xs,x.f.Fin)(hlen:∀x∈xs,x.n<=1000)(hz:Z2 zs)(hrz:eM w q s zs) :
 Calls Tryz.prog 33 #[.agg #[.int .i64 k,.int .i64 cap,.int .i64 (2:Nat),.slice AW nW cW,.slice AS nS cS],.int .i64 cl,.slice (some ⟨g,o,none⟩) 2 c,.slice (some ⟨q,s,none⟩) 2 d] w (dI (iZ k cap ws tb cl (xs.map CR.f) zs) w):=by
 have hc:=h.c1;refine yU k cap cl g o 2 c q s d nW cW nS cS AW AS xs zs w (by omega) (by omega) hcl (by omega) hnc hnd hx hrow hfin hlen hz.len hrz hz.g h.chk h.k1.1 h.k1.2 _ (fun w' hb=>?_);by_cases h1:k=1
 ·subst h1;exact(S7 1 cap cl g o 2 c q s d nW cW nS cS AW AS xs w' (by omega) (by omega) (by omega) (by omega) hx (hrow.below hb) hlen).mono (fun _ _ r=>r.imp (fun f e hs=>.inl ⟨rfl,hs⟩))
 ·exact(Y9 (h.below hb) h1 hcl hnc hnd hx (hrow.below hb) hfin hlen hz (hrz.below hb)).mono (fun _ _ r=>r.imp (fun f e hs=>.inr ⟨h1,hs⟩))
end Go.Proofs.YtaejfleahamapaaGreat
