/- . -/
import Derived.Test.YtaejfleahamapaaGreatTd30
import Derived.Test.YtaejfleahamapaaGreatTd31
import Derived.Test.YtaejfleahamapaaGreatTd27
namespace Go.Proofs.YtaejfleahamapaaGreat
set_option linter.unusedVariables false
set_option linter.unusedSimpArgs false
set_option maxHeartbeats 4000000
set_option maxRecDepth 100000
open Go.RowKit
def aW(zs:List SZ)(j:Nat):Int:=match zs[j]? with
 | some x=>x.hi
 | none=>0
def gF(zs:List SZ)(j:Nat):Int:=match zs[j]? with
 | some x=>x.lo
 | none=>0
theorem qM{zs:List SZ}{j:Nat}{x:SZ}(h:zs[j]?=some x):aW zs j=x.hi:=by unfold aW;rw [h]
theorem xE{zs:List SZ}{j:Nat}{x:SZ}(h:zs[j]?=some x):gF zs j=x.lo:=by unfold gF;rw [h]
def fJ(c:Nat)(ws:List Int)(zs:List SZ)(n:Nat):Int:=gJ n (fun j=>if j=c then 0 else aB ws j*aW zs j)
theorem xT(c:Nat)(ws:List Int)(zs:List SZ)(k:Nat):fJ c ws zs (k+1)=fJ c ws zs k+(if k=c then 0 else aB ws k*aW zs k):=rfl
structure WZ(w:World)(n:Nat)(AW:Option Addr)(cW:Nat)(ws:List Int)(AZ:Option Addr)(cZ:Nat)(zs:List SZ)(top:Int):Prop where
 i:aE w w.heap.size AW n ws
 z:jY w AZ n cZ zs
 g:∀x∈zs,x.Good
 w1:∀k,k<n->1<=aB ws k/\aB ws k<=top
section
variable{w w':World}{n cW cZ:Nat}{AW AZ:Option Addr}{ws:List Int}{zs:List SZ}{top:Int}
theorem WZ.below(h:WZ w n AW cW ws AZ cZ zs top)(hb:Below w.heap.size w w'):WZ w' n AW cW ws AZ cZ zs top:=⟨h.i.ext hb,h.z.below hb,h.g,h.w1⟩
theorem WZ.get(h:WZ w n AW cW ws AZ cZ zs top){k:Nat}(hk:k<n):∃(b o g p:Nat) (x:SZ),AW=some ⟨b,o,none⟩/\b<w.heap.size/\w.cell? ⟨b,o+k,none⟩=some (.int .i64 (aB ws k))/\AZ=some ⟨g,p,none⟩/\g<w.heap.size/\zs[k]?=some x/\w.cell? ⟨g,p+k*2,none⟩=some (.int .i64 x.lo)/\w.cell? ⟨g,p+k*2+1,none⟩=some (.int .i64 x.hi)/\x.Good:=by
 obtain⟨b,o,h1,h2,h3⟩:=h.i.2 (by omega);obtain⟨g,p,h4,h5⟩:=h.z.2.2.2 (by omega);obtain⟨x,h6,h7,h8⟩:=h5.get (k:=k) (by rw [h.z.1];exact hk);exact⟨b,o,g,p,x,h1,h2,h3 k hk,h4,h5.lt,h6,h7,h8,h.g x (List.mem_of_getElem? h6)⟩
end
theorem a2y(cap:Int)(cl n cW cZ:Nat)(AW AZ:Option Addr)(ws:List Int)(zs:List SZ)(w:World)(h:WZ w n AW cW ws AZ cZ zs 20)(h1:1<=cap)(h2:cap<=4000)(hcl:cl<n)(hn:n<=6) :
 Calls Tryz.prog 197 #[.int .i64 cap,.int .i64 cl,.slice AW n cW,.slice AZ n cZ] w fun e w'=>e = .returned (.int .i64 0)/\Below w.heap.size w w':=by
 have H:=aA h;have d0:((n:Int) != (n:Int))=false:=by simp
 clear h;go_enter Tryz.func197,Tryz.ntmps197
 go_wp2_with fail
 refine(pA cap cl AZ n cZ zs w H.out.z H.out.g h1 h2 (by omega) hn (by omega) (by omega)).mono ?_;rintro e w2 ⟨rfl,hb⟩;have BW:=aA hb;replace H:=aA (H.out.below hb);clear hb;go_wp2_with fail
 refine(yO AW n cW ws w2 H.out.i hn H.out.w1).mono ?_;rintro e w3 ⟨rfl,hb⟩;replace BW:=aA (aD BW.out hb);clear hb;go_wp2_with fail
 go_ret
 exact⟨rfl,BW.out⟩
theorem a2n(cl n cW cZ:Nat)(AW AZ:Option Addr)(ws:List Int)(zs:List SZ)(w:World)(h:WZ w n AW cW ws AZ cZ zs 20)(hcl:cl<n)(hn:n<=6) :
 Calls Tryz.prog 198 #[.int .i64 cl,.slice AW n cW,.slice AZ n cZ] w fun e w'=>e = .returned (.tuple #[.int .i64 (aB ws cl*gF zs cl),.int .i64 (fJ cl ws zs n)])/\Below w.heap.size w w':=by
 have H:=aA h;clear h;go_enter Tryz.func198,Tryz.ntmps198
 go_wp2_with fail
 go_loopg [7,8,9,12] n (fun gg s7 _ _ s12 wr=>∃(k:Nat) (q:Int),k+gg=n/\s12 = .int .i64 k/\s7 = .int .i64 q/\Hid (q=fJ cl ws zs k)/\0<=q/\q<=30000*k/\wr=w)
 case atStart=>exact⟨0,0,by omega,rfl,rfl,aA rfl,by omega,by omega,rfl⟩
 case round=>
  obtain⟨k,q,hkg,rfl,rfl,HQ,hq0,hq1,rfl⟩:=hrel;by_cases hk:k<n
  case pos=>
   have hki:(k:Int)<n:=by omega
   obtain⟨b,o,g,p,x,rfl,hbl,hwc,rfl,hgl,hx,x0,x1,hg⟩:=H.out.get hk;have hw:=H.out.w1 k hk;unfold SZ.Good at hg;have HX:=aA hx;obtain⟨v,hv⟩:∃v,v=aB ws k:=⟨_,rfl⟩
   have HV:=aA hv;rw [<- hv] at hwc hw;obtain⟨P,hP⟩:∃P,P=v*x.hi:=⟨_,rfl⟩
   have HP:=aA hP;have hP0:0<=P:=by rw [hP];exact Int.mul_nonneg (by omega) (by omega)
   have hP1:P<=30000:=by rw [hP];exact Int.mul_le_mul (a:=v) (c:=20) (b:=x.hi) (d:=1500) (by omega) (by omega) (by omega) (by omega)
   have em:v*x.hi=P:=hP.symm;have em2:IntKind.i64.wrap (v*x.hi)=P:=by rw [<- hP];exact IntWalk.i64_in _ (by omega)
   clear hx hv hP x0;by_cases hc:k=cl
   case pos=>
    have hb:((k:Int) != (cl:Int))=false:=by simp [hc]
    have HQ2:=aA (show q=fJ cl ws zs (k+1) by rw [xT,if_pos hc,Int.add_zero];exact HQ.out);clear HQ hc;go_wp2_with fail
    go_roundg (gk-1)
    case measure=>omega
    case rel=>exact⟨k+1,q,by omega,by go_num,rfl,HQ2,hq0,by omega,rfl⟩
   case neg=>
    have hb:((k:Int) != (cl:Int))=true:=by simp;omega
    have HQ2:=aA (show q+P=fJ cl ws zs (k+1) by rw [xT,if_neg hc,qM HX.out,<- HV.out,<- HP.out,<- HQ.out]);clear HQ hc;go_wp2_with fail
    go_roundg (gk-1)
    case measure=>omega
    case rel=>exact⟨k+1,q+P,by omega,by go_num,rfl,HQ2,by omega,by omega,rfl⟩
  case neg=>
   obtain rfl:k=n:=by omega
   obtain⟨b,o,g,p,x,rfl,hbl,hwc,rfl,hgl,hx,x0,x1,hg⟩:=H.out.get hcl;have hw:=H.out.w1 cl hcl;unfold SZ.Good at hg;have HL:=aA (xE hx);have hcli:(cl:Int)<(k:Int):=by omega
   obtain⟨v,hv⟩:∃v,v=aB ws cl:=⟨_,rfl⟩
   have HV:=aA hv;rw [<- hv] at hwc hw;have hP0:0<=v*x.lo:=Int.mul_nonneg (by omega) (by omega);have hP1:v*x.lo<=30000:=Int.mul_le_mul (a:=v) (c:=20) (b:=x.lo) (d:=1500) (by omega) (by omega) (by omega) (by omega);have em2:IntKind.i64.wrap (v*x.lo)=v*x.lo:=IntWalk.i64_in _ (by omega);clear hx hv x1;go_upto_region 7 with fail
   go_quiet (fail)
   go_wp2_with fail
   exact bodyPost_ret (v:=.tuple #[.int .i64 (v*x.lo),.int .i64 q]) (by simp [results,Tryz.results198,go_sem]) rfl ⟨by rw [<- HV.out,HL.out,HQ.out],cC (Below.refl _ _)⟩
structure oC(w:World)(b1 b2 b3:Nat)(s r C:Int):Prop where
 s:aC w b1 3 #[.int .i64 s]
 r:aC w b2 3 #[.int .i64 r]
 c:aC w b3 3 #[.int .i64 C]
theorem oC.below{w w':World}{b1 b2 b3:Nat}{s r C:Int}(h:oC w b1 b2 b3 s r C)(hb:Below w.heap.size w w'):oC w' b1 b2 b3 s r C:=⟨h.s.below hb h.s.lt,h.r.below hb h.r.lt,h.c.below hb h.c.lt⟩
section
variable(b1 b2 b3:Nat)(s r C:Int)
theorem a2s(b4 t N y:Nat)(w:World)(h:oC w b1 b2 b3 s r C)(h4:aC w b4 3 #[.int .i64 t])(hr:1<=r)(hr2:r<=s)(hs:s<=480000)(hC:1<=C)(hC2:C<=4000)(ht:t<=1000)(hy:y<=10000000)(hN:C*t<=AA (s-r) 0 r 0 y↔N<=y) :
 Calls Tryz.prog 202 (#[.int .i64 y] ++ #[.pointer (some ⟨b1,0,none⟩),.pointer (some ⟨b2,0,none⟩),.pointer (some ⟨b3,0,none⟩),.pointer (some ⟨b4,0,none⟩)]) w fun e w'=>e = .returned (.bool (decide (N<=y)))/\Below w.heap.size w w':=by
 show Calls _ _ #[.int .i64 y,.pointer (some ⟨b1,0,none⟩),.pointer (some ⟨b2,0,none⟩),.pointer (some ⟨b3,0,none⟩),.pointer (some ⟨b4,0,none⟩)] _ _
 have R:=aA h;obtain⟨c0,c1,c2,hl0,hl1,hl2⟩:_/\_/\_/\_/\_/\_:=⟨R.out.s.cell 0,R.out.r.cell 0,R.out.c.cell 0,R.out.s.lt,R.out.r.lt,R.out.c.lt⟩
 simp at c0 c1 c2;have c4:=h4.cell 0;simp at c4;have hl4:=h4.lt;obtain⟨a,ha⟩:∃a,a=s-r:=⟨_,rfl⟩
 obtain⟨Q,hQ⟩:∃Q,Q=(y:Int) / r:=⟨_,rfl⟩
 obtain⟨P,hP⟩:∃P,P=a*(Q+1):=⟨_,rfl⟩
 obtain⟨T,hT⟩:∃T,T=C*t:=⟨_,rfl⟩
 have hQ0:0<=Q:=by rw [hQ];exact Int.ediv_nonneg (by omega) (by omega)
 have hQ1:Q<=10000000:=by rw [hQ];have:=Int.ediv_le_self r (show 0<=(y:Int) by omega);omega
 have hP0:0<=P:=by rw [hP];exact Int.mul_nonneg (by omega) (by omega)
 have hP1:P<=480000*10000001:=by rw [hP];exact Int.mul_le_mul (by omega) (by omega) (by omega) (by omega)
 have hT0:0<=T:=by rw [hT];exact Int.mul_nonneg (by omega) (by omega)
 have hT1:T<=4000*1000:=by rw [hT];exact Int.mul_le_mul (by omega) (by omega) (by omega) (by omega)
 have HD:=aA (show decide (T<=(y:Int)+P)=decide (N<=y) by
  have e:AA (s-r) 0 r 0 y=(y:Int)+P:=by unfold AA;rw [hP,hQ,ha];simp
  rw [e,<- hT] at hN;exact decide_eq_decide.2 hN)
 have e1:IntKind.i64.wrap (s-r)=a:=by rw [ha];exact IntWalk.i64_in _ (by omega)
 have e2:(y:Int).tdiv r=Q:=by rw [hQ,Int.tdiv_eq_ediv_of_nonneg (by omega)]
 have e3:IntKind.i64.wrap (Q+1)=Q+1:=IntWalk.i64_in _ (by omega);have e4:IntKind.i64.wrap (a*(Q+1))=P:=by rw [<- hP];exact IntWalk.i64_in _ (by omega)
 have e5:IntKind.i64.wrap ((y:Int)+P)=(y:Int)+P:=IntWalk.i64_in _ (by omega);have e6:IntKind.i64.wrap (C*(t:Int))=T:=by rw [<- hT];exact IntWalk.i64_in _ (by omega)
 have e7:IntKind.i64.wrap Q=Q:=IntWalk.i64_in _ (by omega);have hrn:r≠0:=by omega
 clear ha hQ hP hT hN h h4;go_enter Tryz.func202,Tryz.ntmps202
 go_upto_region 1 with fail
 go_quiet (fail)
 go_wp2_with fail
 go_ret
 exact⟨by rw [<- HD.out];rfl,cC (Below.refl _ _)⟩
theorem a2t(t N:Nat)(w:World)(h:oC w b1 b2 b3 s r C)(hr:1<=r)(hr2:r<=s)(hs:s<=480000)(hC:1<=C)(hC2:C<=4000)(ht:t<=1000)(hNb:N<=4000000)(hN:∀y:Nat,C*t<=AA (s-r) 0 r 0 y↔N<=y) :
 Calls Tryz.prog 200 (#[.int .i64 t] ++ #[.pointer (some ⟨b1,0,none⟩),.pointer (some ⟨b2,0,none⟩),.pointer (some ⟨b3,0,none⟩)]) w fun e w'=>e = .returned (.int .i64 N)/\Below w.heap.size w w':=by
 show Calls _ _ #[.int .i64 t,.pointer (some ⟨b1,0,none⟩),.pointer (some ⟨b2,0,none⟩),.pointer (some ⟨b3,0,none⟩)] _ _
 have R:=aA (h.below (aF w (.cells #[.int .i64 t] 3)));have B4:=aA (aC.new w 3 #[.int .i64 t]);have BW:=aA (aF w (.cells #[.int .i64 t] 3));clear h;go_enter Tryz.func200,Tryz.ntmps200
 go_upto_region 1 with fail
 generalize hwe:w.alloc (.cells #[.int .i64 t] 3)=w1 at *;clear hwe;go_wp2_with fail
 refine(wL N 202 #[.pointer (some ⟨b1,0,none⟩),.pointer (some ⟨b2,0,none⟩),.pointer (some ⟨b3,0,none⟩),.pointer (some ⟨w.heap.size,0,none⟩)] w1 (by omega) (aA (fun y w2 hy hb=>a2s b1 b2 b3 s r C w.heap.size t N y w2 (R.out.below hb) (B4.out.below hb B4.out.lt) hr hr2 hs hC hC2 ht (by omega) (hN y))) (fun x w=>by kernel_rfl)).mono ?_;rintro e w2 ⟨rfl,hb⟩;have bw:=aD BW.out hb;go_wp2_with fail
 go_ret
 exact⟨rfl,bw⟩
end
def oE(C r q:Int)(f:Cv):Prop:=∀(n:Nat) (y:Int),0<=y->C*n<=y+q*(y / r+1)->f.at n<=y
theorem a20(cap:Nat)(cl n cW cZ:Nat)(AW AZ:Option Addr)(ws:List Int)(zs:List SZ)(w:World)(h:WZ w n AW cW ws AZ cZ zs 20)(h1:1<=(cap:Int))(h2:(cap:Int)<=4000)(hcl:cl<n)(hn:n<=2)(hq0:0<=fJ cl ws zs n)(hq1:fJ cl ws zs n<=60000) :
 Calls Tryz.prog 193 #[.int .i64 cap,.int .i64 cl,.slice AW n cW,.slice AZ n cZ] w (dI (dS (oE cap (aB ws cl*gF zs cl) (fJ cl ws zs n))) w):=by
 have rb:=aC.new (w.alloc (.cells #[.int .i64 cap] 3)) 26 #[.slice none 0 0,.int .i64 0,.int .i64 0];simp only [World.size_alloc] at rb;have RB:=aA rb;have B4:=aA ((aC.new w 3 #[.int .i64 cap]).alloc (.cells #[.slice none 0 0,.int .i64 0,.int .i64 0] 26));have EB:=aA (aD (aF w (.cells #[.int .i64 cap] 3)) (aF _ (.cells #[.slice none 0 0,.int .i64 0,.int .i64 0] 26)));have H:=aA (h.below EB.out);clear rb h;go_enter Tryz.func193,Tryz.ntmps193
 go_upto_region 1 with fail
 generalize hwe:(w.alloc (.cells #[.int .i64 cap] 3)).alloc (.cells #[.slice none 0 0,.int .i64 0,.int .i64 0] 26)=w1 at *;clear hwe;have c4:=B4.out.cell 0;simp at c4;have hl4:=B4.out.lt;go_wp2_with fail
 refine(a2y cap cl n cW cZ AW AZ ws zs w1 H.out h1 h2 hcl (by omega)).mono ?_;rintro e w2 ⟨rfl,hb⟩;replace RB:=aA (RB.out.below hb RB.out.lt);replace B4:=aA (B4.out.below hb B4.out.lt);replace H:=aA (H.out.below hb);replace EB:=aA (aD EB.out hb);clear hb c4 hl4;obtain⟨b,o,g,p,x,rfl,hbl,hwc,rfl,hgl,hx,x0,x1,hg⟩:=H.out.get hcl;have hw:=H.out.w1 cl hcl;unfold SZ.Good at hg;have hcli:(cl:Int)<(n:Int):=by omega
 have HX:=aA (xE hx);clear hx x1;by_cases hlo:x.lo<1
 case pos=>
  have hd:decide (x.lo<1)=true:=decide_eq_true hlo;obtain⟨⟨r0,r1,r2⟩,⟨y0,y1,y2⟩,hlr⟩:=RB.out.c3;go_wp2_with fail
  have rb:=RB.out.store3 (.slice none 0 0) (.int .i64 0) (.int .i64 0);exact bodyPost_ret (v:=.tuple #[.agg #[.slice none 0 0,.int .i64 0,.int .i64 0],.int .i64 5]) (by simp [results,Tryz.results193,go_sem,rb.cell]) rfl ⟨Cv.none,5,dS.none (by omega),none,0,0,rfl,aE.none_,(fun b off s h=>by cases h),cO EB.out (by omega) _ _ _⟩
 case neg=>
  have hd:decide (x.lo<1)=false:=decide_eq_false hlo;go_wp2_with fail
  refine(a2n cl n cW cZ _ _ ws zs w2 H.out hcl (by omega)).mono ?_;rintro e w3 ⟨rfl,hb⟩;replace RB:=aA (RB.out.below hb RB.out.lt);replace B4:=aA (B4.out.below hb B4.out.lt);replace H:=aA (H.out.below hb);replace EB:=aA (aD EB.out hb);clear hb hwc x0 hbl hgl;rw [HX.out];obtain⟨r,hr⟩:∃r,r=aB ws cl*x.lo:=⟨_,rfl⟩
  have hr0:1<=r:=by
   have:1*1<=aB ws cl*x.lo:=Int.mul_le_mul (by omega) (by omega) (by omega) (by omega)
   omega
  have hr1:r<=30000:=by rw [hr];exact Int.mul_le_mul (a:=aB ws cl) (c:=20) (b:=x.lo) (d:=1500) (by omega) (by omega) (by omega) (by omega)
  have HR:=aA (show aB ws cl*gF zs cl=r by rw [hr,HX.out]);rw [<- hr];generalize fJ cl ws zs n=q at *;clear hr HX hg hw hlo hd;obtain⟨L,hL⟩:∃L:Nat,r+q=(L:Int):=⟨(r+q).toNat,by omega⟩
  have HL:=aA hL;have H3L:=aA RB.out.lt;have R2:=aA (aC.new w3 3 #[.int .i64 r]);have hb:=aF w3 (.cells #[.int .i64 r] 3);replace RB:=aA (RB.out.below hb RB.out.lt);replace B4:=aA (B4.out.below hb B4.out.lt);replace H:=aA (H.out.below hb);replace EB:=aA (aD EB.out hb);clear hb;go_upto_region 7 with fail
  generalize hwe:w3.alloc (.cells #[.int .i64 r] 3)=w4 at *;clear hwe;have hn2:w.heap.size+1<w3.heap.size:=by have:=H3L.out;exact this
  generalize w3.heap.size=b2 at *;have c4:=B4.out.cell 0;simp at c4;have hl4:=B4.out.lt;have c2:=R2.out.cell 0;simp at c2;have hl2:=R2.out.lt;go_wp2_with fail
  refine(yL L cap w4 (by omega) (by omega) (by omega) (by omega)).mono ?_;rintro e w5 ⟨s,P,ok,hS,rfl,hb⟩;have HS:=aA hS;replace RB:=aA (RB.out.below hb RB.out.lt);replace B4:=aA (B4.out.below hb B4.out.lt);replace H:=aA (H.out.below hb);replace EB:=aA (aD EB.out hb);replace R2:=aA (R2.out.below hb R2.out.lt);clear hb c4 hl4 c2 hl2 hS hL;have H5L:=aA RB.out.lt;have R1:=aA (aC.new w5 3 #[.int .i64 s]);have hb:=aF w5 (.cells #[.int .i64 s] 3);replace RB:=aA (RB.out.below hb RB.out.lt);replace B4:=aA (B4.out.below hb B4.out.lt);replace H:=aA (H.out.below hb);replace EB:=aA (aD EB.out hb);replace R2:=aA (R2.out.below hb R2.out.lt);clear hb;go_upto_region 8 with fail
  generalize hwe:w5.alloc (.cells #[.int .i64 s] 3)=w6 at *;clear hwe;have hn1:w.heap.size+1<w5.heap.size:=by have:=H5L.out;exact this
  generalize w5.heap.size=b1 at *;have HNE:=aA (show b1≠w.heap.size+1/\b2≠w.heap.size+1 by omega);clear hn1 hn2;rcases HS.out with ⟨rfl,hs1,hs2,hp1,hp2,k,hk1,hk2⟩|⟨rfl,rfl,rfl⟩
  case inr=>
   obtain⟨⟨r0,r1,r2⟩,⟨y0,y1,y2⟩,hlr⟩:=RB.out.c3;go_wp2_with fail
   have rb:=RB.out.store3 (.slice none 0 0) (.int .i64 0) (.int .i64 0);exact bodyPost_ret (v:=.tuple #[.agg #[.slice none 0 0,.int .i64 0,.int .i64 0],.int .i64 3]) (by simp [results,Tryz.results193,go_sem,rb.cell]) rfl ⟨Cv.none,3,dS.none (by omega),none,0,0,rfl,aE.none_,(fun b off s h=>by cases h),cO EB.out (by omega) _ _ _⟩
  case inl=>
   have HL2:=HL.out;have hcp:(cap:Int)*P<=4000*120:=Int.mul_le_mul (by omega) hp2 (by omega) (by omega);have hcp0:0<=(cap:Int)*P:=Int.mul_nonneg (by omega) (by omega);have hks:k*1<=k*s:=Int.mul_le_mul_of_nonneg_left (by omega) (by omega);have hkr:k*r<=480000*30000:=Int.mul_le_mul (by omega) hr1 (by omega) (by omega);have hkr0:0<=k*r:=Int.mul_nonneg (by omega) (by omega);have e1:IntKind.i64.wrap ((cap:Int)*P)=k*s:=by rw [<- hk2];exact IntWalk.i64_in _ (by omega)
   have e2:(k*s).tdiv s=k:=Int.mul_tdiv_cancel _ (by omega);have e3:IntKind.i64.wrap k=k:=IntWalk.i64_in _ (by omega);have e4:IntKind.i64.wrap (k*r)=k*r:=IntWalk.i64_in _ (by omega);have hsn:s≠0:=by omega
   have c1:=R1.out.cell 0;simp at c1;have hl1:=R1.out.lt;have c2:=R2.out.cell 0;simp at c2;have hl2:=R2.out.lt;have c4:=B4.out.cell 0;simp at c4;have hl4:=B4.out.lt;have HK:=aA hk2;clear hk2 hcp hks HS;go_upto_region 11 with fail
   replace RB:=aA (aC.drew RB.out);replace EB:=aA (Below.drew EB.out);replace R2:=aA (aC.drew R2.out);replace R1:=aA (aC.drew R1.out);replace B4:=aA (aC.drew B4.out);refine wp_region_held_drew (S:=fun w'=>w'.cell? ⟨b1,0,none⟩=some (.int .i64 s)/\w'.cell? ⟨b2,0,none⟩=some (.int .i64 r)/\w'.cell? ⟨w.heap.size,0,none⟩=some (.int .i64 cap)) (by kernel_rfl) (by exact⟨c1,c2,c4⟩) (fun hH=>?_);clear c1 c2 c4 hl1 hl2 hl4;generalize hwd:w6.drew=w7 at *;clear hwd;refine aO [0,1,2,3,4,5,6,7,8] ?_;(iterate 9 refine aK ?_);refine aP ?_;refine aJ 9 (fun K hK=>?_);go_simp
   obtain⟨P,rfl⟩:=Int.eq_ofNat_of_zero_le (show 0<=P by omega);have hst:=fun t:Nat=>zG (C:=(cap:Int)) (a:=s-r) (b:=0) (c:=r) (z:=0) (by omega) (by omega) (by omega) hr0 (by omega) t
   have hbd:∀t:Nat,t<=400->(dV cap (s-r) 0 r 0 t:Int)<=1600000:=fun t ht=>by
    have:=hst t
    have h3:(cap:Int)*t<=4000*400:=Int.mul_le_mul (by omega) (by omega) (by omega) (by omega);omega
   have HBD:=aA hbd;clear hst hbd;refine(kN 200 #[.pointer (some ⟨b1,0,none⟩),.pointer (some ⟨b2,0,none⟩),.pointer (some ⟨w.heap.size,0,none⟩)] 0 P (k*r) (fun t=>(dV cap (s-r) 0 r 0 t:Int)) w7 (by omega) (by omega) hp1 (by omega) hkr0 (by omega)
    (fun t ht=>by have:=HBD.out t (by omega);omega)
    (aA (fun t w8 ht hb=>a2t b1 b2 w.heap.size s r cap t _ w8 ⟨R1.out.below hb R1.out.lt,R2.out.below hb R2.out.lt,B4.out.below hb B4.out.lt⟩ hr0 (by omega) (by omega) h1 h2 (by omega) (by have:=HBD.out t (by omega);omega) (fun y=>lU (by omega) (by omega) (by omega) hr0 (by omega) t y))) (fun x w=>by kernel_rfl)).mono ?_
   rintro e w8 ⟨f,er,hS,A5,m5,d5,rfl,hI5,hA5,hb⟩;have hM:=i9 (h:=fun t=>(dV cap (s-r) 0 r 0 t:Int)) (s:=0) (p:=P) (i:=k*r) (by omega) (fun t u ht _ h=>absurd h (by have:=HBD.out t (by omega);unfold aG;omega)) (fun _=>zH (by omega) (by omega) (by omega) hr0 (by omega) (by omega) (by rw [HK.out];congr 1;omega) (by
    have e:AA (s-r) 0 r 0 (-1) = -1:=by
     unfold AA;have:((-1:Int)+0) / r = -1:=by rw [Int.add_zero];exact Int.ediv_eq_iff_of_pos hr0 |>.2 ⟨by omega,by omega⟩
     rw [this];simp
    rw [e];simp)) (by simpa using hS)
   have F:=aA (show dS (oE cap (aB ws cl*gF zs cl) q) f er from by
    rw [HR.out];exact dS.made hM (zI (by omega) (by omega) (by omega) hr0 (by omega)) (fun t ht=>by have:=HBD.out t ht;unfold aG;omega) (fun f _ hat n y hy hc=>by
    rw [hat];refine rJ (by omega) (by omega) (by omega) hr0 (by omega) hy ?_;unfold AA;rw [Int.add_zero,Int.add_zero];have:0<=y / r:=Int.ediv_nonneg hy (by omega)
    have:=Int.mul_le_mul_of_nonneg_right (show q<=s-r by omega) (show 0<=y / r+1 by omega)
    omega))
   have hw1:=RB.out.lt;replace RB:=aA (RB.out.below hb RB.out.lt);replace EB:=aA (aD EB.out hb);replace R1:=aA (R1.out.below hb R1.out.lt);replace R2:=aA (R2.out.below hb R2.out.lt);replace B4:=aA (B4.out.below hb B4.out.lt);have HI5:=aA hI5;have HA5:=aA hA5;have c1:=R1.out.cell 0;have c2:=R2.out.cell 0;have c4:=B4.out.cell 0;simp at c1 c2 c4;clear hS hI5 hA5 hb hM hH;refine aH hK (by exact⟨c1,c2,c4⟩) (fun hH=>?_);refine aO [10,11] ?_;(iterate 2 refine aK ?_);refine aP ?_;obtain⟨⟨r0,r1,r2⟩,⟨y0,y1,y2⟩,hlr⟩:=RB.out.c3;refine aJ 12 (fun K hK=>?_);go_simp
   have st:=aR.three (w.heap.size+1) w8 (.slice A5 m5 d5) (.int .i64 f.per) (.int .i64 f.inc);refine hK.out _ _ ?_ (fun hHeld2=>?_)
   ·exact⟨(World.cell?_of_block (a:=⟨b1,0,none⟩) (st.block b1 (HNE.out.1))).trans c1,(World.cell?_of_block (a:=⟨b2,0,none⟩) (st.block b2 (HNE.out.2))).trans c2,(World.cell?_of_block (a:=⟨w.heap.size,0,none⟩) (st.block w.heap.size (by omega))).trans c4⟩
   clear hK K
   (try simp only [Act.put]);try simp only [dC,dD,dE]
   refine bD 13 ?_;refine aT ?_;clear hH hHeld2;have rb:=RB.out.store3 (.slice A5 m5 d5) (.int .i64 f.per) (.int .i64 f.inc);go_wp2_with fail
   exact bodyPost_ret (v:=.tuple #[.agg #[.slice A5 m5 d5,.int .i64 f.per,.int .i64 f.inc],.int .i64 er]) (by simp [results,Tryz.results193,go_sem,rb.cell]) rfl (fX F.out HA5.out (by omega) (by omega) HI5.out EB.out)
theorem Q9(cap:Int)(cl n cW cZ:Nat)(AW AZ:Option Addr)(ws:List Int)(zs:List SZ)(w:World)(h:WZ w n AW cW ws AZ cZ zs 6000)(h1:1<=cap)(h2:cap<=4000)(hcl:cl<n)(hn:n<=6) :
 Calls Tryz.prog 211 #[.int .i64 cap,.int .i64 cl,.slice AW n cW,.slice AZ n cZ] w fun e w'=>e = .returned (.int .i64 0)/\Below w.heap.size w w':=by
 have H:=aA h;have d0:((n:Int) != (n:Int))=false:=by simp
 clear h;go_enter Tryz.func211,Tryz.ntmps211
 go_wp2_with fail
 refine(pA cap cl AZ n cZ zs w H.out.z H.out.g h1 h2 (by omega) hn (by omega) (by omega)).mono ?_;rintro e w2 ⟨rfl,hb⟩;have BW:=aA hb;replace H:=aA (H.out.below hb);clear hb;go_wp2_with fail
 refine(wF AW n cW ws w2 H.out.i hn H.out.w1).mono ?_;rintro e w3 ⟨rfl,hb⟩;replace BW:=aA (aD BW.out hb);clear hb;go_wp2_with fail
 go_ret
 exact⟨rfl,BW.out⟩
def fK(c:Nat)(ws:List Int)(zs:List SZ)(n:Nat):Int:=gJ n (fun j=>if j=c\/aW zs j<1 then 0 else aB ws j)
def fL(c:Nat)(zs:List SZ)(n:Nat):Int:=gJ n (fun j=>if j=c\/aW zs j<1 then 0 else aW zs j-1)
theorem xU(c:Nat)(ws:List Int)(zs:List SZ)(k:Nat):fK c ws zs (k+1)=fK c ws zs k+(if k=c\/aW zs k<1 then 0 else aB ws k):=rfl
theorem xV(c:Nat)(zs:List SZ)(k:Nat):fL c zs (k+1)=fL c zs k+(if k=c\/aW zs k<1 then 0 else aW zs k-1):=rfl
theorem a09(cl n cW cZ:Nat)(AW AZ:Option Addr)(ws:List Int)(zs:List SZ)(w:World)(h:WZ w n AW cW ws AZ cZ zs 6000)(hcl:cl<n)(hn:n<=6) :
 Calls Tryz.prog 212 #[.int .i64 cl,.slice AW n cW,.slice AZ n cZ] w fun e w'=>e = .returned (.tuple #[.int .i64 (fK cl ws zs n),.int .i64 (fL cl zs n)])/\Below w.heap.size w w':=by
 have H:=aA h;clear h;go_enter Tryz.func212,Tryz.ntmps212
 go_wp2_with fail
 go_loopg [6,7,8,9,12] n (fun gg s6 s7 _ _ s12 wr=>∃(k:Nat) (q z:Int),k+gg=n/\s12 = .int .i64 k/\s6 = .int .i64 q/\s7 = .int .i64 z/\Hid (q=fK cl ws zs k/\z=fL cl zs k)/\0<=q/\q<=6000*k/\0<=z/\z<=1500*k/\wr=w)
 case atStart=>exact⟨0,0,0,by omega,rfl,rfl,rfl,aA ⟨rfl,rfl⟩,by omega,by omega,by omega,by omega,rfl⟩
 case round=>
  obtain⟨k,q,z,hkg,rfl,rfl,rfl,HQ,hq0,hq1,hz0,hz1,rfl⟩:=hrel;by_cases hk:k<n
  case pos=>
   have hki:(k:Int)<n:=by omega
   obtain⟨b,o,g,p,x,rfl,hbl,hwc,rfl,hgl,hx,x0,x1,hg⟩:=H.out.get hk;have hw:=H.out.w1 k hk;unfold SZ.Good at hg;have HX:=aA (qM hx);obtain⟨v,hv⟩:∃v,v=aB ws k:=⟨_,rfl⟩
   have HV:=aA hv;rw [<- hv] at hwc hw;clear hx hv x0;by_cases hc:k=cl\/x.hi<1
   case pos=>
    have HQ2:=aA (show q=fK cl ws zs (k+1)/\z=fL cl zs (k+1) by rw [xU,xV,HX.out,if_pos hc,if_pos hc,Int.add_zero,Int.add_zero];exact HQ.out);clear HQ;by_cases hkc:k=cl
    case pos=>
     have hb:((k:Int) != (cl:Int))=false:=by simp [hkc]
     clear hc hkc;go_wp2_with fail
     go_roundg (gk-1)
     case measure=>omega
     case rel=>exact⟨k+1,q,z,by omega,by go_num,rfl,rfl,HQ2,hq0,by omega,hz0,by omega,rfl⟩
    case neg=>
     have hb:((k:Int) != (cl:Int))=true:=by simp;omega
     have hb2:decide (1<=x.hi)=false:=decide_eq_false (by omega);clear hc hkc;go_wp2_with fail
     go_roundg (gk-1)
     case measure=>omega
     case rel=>exact⟨k+1,q,z,by omega,by go_num,rfl,rfl,HQ2,hq0,by omega,hz0,by omega,rfl⟩
   case neg=>
    have hb:((k:Int) != (cl:Int))=true:=by simp;omega
    have hb2:decide (1<=x.hi)=true:=decide_eq_true (by omega);have hx1:1<=x.hi:=by omega
    have HQ2:=aA (show q+v=fK cl ws zs (k+1)/\z+(x.hi-1)=fL cl zs (k+1) by rw [xU,xV,HX.out,if_neg hc,if_neg hc,<- HV.out,<- HQ.out.1,<- HQ.out.2];exact⟨rfl,rfl⟩);clear HQ hc;go_wp2_with fail
    go_roundg (gk-1)
    case measure=>omega
    case rel=>exact⟨k+1,q+v,z+(x.hi-1),by omega,by go_num,rfl,rfl,HQ2,by omega,by omega,by omega,by omega,rfl⟩
  case neg=>
   obtain rfl:k=n:=by omega
   go_wp2_with fail
   exact bodyPost_ret (v:=.tuple #[.int .i64 q,.int .i64 z]) (by simp [results,Tryz.results212,go_sem]) rfl ⟨by rw [HQ.out.1,HQ.out.2],Below.refl _ _⟩
structure kI(w:World)(b1 b2 b3 b4:Nat)(s q l z:Int):Prop where
 s:aC w b1 3 #[.int .i64 s]
 q:aC w b2 3 #[.int .i64 q]
 l:aC w b3 3 #[.int .i64 l]
 z:aC w b4 3 #[.int .i64 z]
theorem kI.below{w w':World}{b1 b2 b3 b4:Nat}{s q l z:Int}(h:kI w b1 b2 b3 b4 s q l z)(hb:Below w.heap.size w w'):kI w' b1 b2 b3 b4 s q l z:=⟨h.s.below hb h.s.lt,h.q.below hb h.q.lt,h.l.below hb h.l.lt,h.z.below hb h.z.lt⟩
theorem kI.drewN{w:World}{b1 b2 b3 b4:Nat}{s q l z:Int}(h:kI w b1 b2 b3 b4 s q l z)(n:Nat):kI (w.drewN n) b1 b2 b3 b4 s q l z:=⟨h.s,h.q,h.l,h.z⟩
section
variable(b1 b2 b3 b4:Nat)(s q l z:Int)
theorem wE(y:Int)(w:World)(h:kI w b1 b2 b3 b4 s q l z)(hq:1<=q)(hq2:q<=s)(hs:s<=480000)(hl:2<=l)(hl2:l<=1500)(hz:0<=z)(hz2:z<=10000)(hy0 : -1<=y)(hy:y<=10000000) :
 Calls Tryz.prog 213 #[.int .i64 y,.pointer (some ⟨b1,0,none⟩),.pointer (some ⟨b2,0,none⟩),.pointer (some ⟨b3,0,none⟩),.pointer (some ⟨b4,0,none⟩)] w fun e w'=>e = .returned (.int .i64 (AA (s-q) (l-1) q z y))/\∃m,w'=w.drewN m:=by
 obtain⟨c1,c2,c3,c4,hl1,hl2',hl3,hl4⟩:_/\_/\_/\_/\_/\_/\_/\_:=⟨h.s.cell 0,h.q.cell 0,h.l.cell 0,h.z.cell 0,h.s.lt,h.q.lt,h.l.lt,h.z.lt⟩
 simp at c1 c2 c3 c4;obtain⟨a,ha⟩:∃a,a=s-q:=⟨_,rfl⟩
 obtain⟨Y,hY⟩:∃Y,Y=y+l-1:=⟨_,rfl⟩
 obtain⟨Q,hQ⟩:∃Q,Q=Y / q:=⟨_,rfl⟩
 obtain⟨P,hP⟩:∃P,P=a*(Q+1):=⟨_,rfl⟩
 have hQ0:0<=Q:=by rw [hQ];exact Int.ediv_nonneg (by omega) (by omega)
 have hQ1:Q<=20000000:=by rw [hQ];have:=Int.ediv_le_self q (show 0<=Y by omega);omega
 have hP0:0<=P:=by rw [hP];exact Int.mul_nonneg (by omega) (by omega)
 have hP1:P<=480000*20000001:=by rw [hP];exact Int.mul_le_mul (by omega) (by omega) (by omega) (by omega)
 have HD:=aA (show AA (s-q) (l-1) q z y=y+P+z by unfold AA;rw [hP,hQ,ha,hY,show y+(l-1)=y+l-1 by omega]);have e1:IntKind.i64.wrap (s-q)=a:=by rw [ha];exact IntWalk.i64_in _ (by omega)
 have e0:IntKind.i64.wrap (y+l)=y+l:=IntWalk.i64_in _ (by omega);have e00:IntKind.i64.wrap (y+l-1)=Y:=by rw [hY];exact IntWalk.i64_in _ (by omega)
 have e2:Y.tdiv q=Q:=by rw [hQ,Int.tdiv_eq_ediv_of_nonneg (by omega)]
 have e3:IntKind.i64.wrap (Q+1)=Q+1:=IntWalk.i64_in _ (by omega);have e4:IntKind.i64.wrap (a*(Q+1))=P:=by rw [<- hP];exact IntWalk.i64_in _ (by omega)
 have e5:IntKind.i64.wrap (y+P)=y+P:=IntWalk.i64_in _ (by omega);have e6:IntKind.i64.wrap (y+P+z)=y+P+z:=IntWalk.i64_in _ (by omega);have e7:IntKind.i64.wrap Q=Q:=IntWalk.i64_in _ (by omega);have hrn:q≠0:=by omega
 clear ha hQ hP hY h;go_enter Tryz.func213,Tryz.ntmps213
 go_upto_region 1 with fail
 go_quiet (fail)
 go_wp2_with fail
 go_ret
 exact⟨by rw [HD.out];rfl,nq,rfl⟩
theorem Q3(bf bc b5 t N y:Nat)(C:Int)(w:World)(h:kI w b1 b2 b3 b4 s q l z)(hf:aC w bf 51 #[.func (.func 213) #[] #[.pointer (some ⟨b1,0,none⟩),.pointer (some ⟨b2,0,none⟩),.pointer (some ⟨b3,0,none⟩),.pointer (some ⟨b4,0,none⟩)]])(hc:aC w bc 3 #[.int .i64 C])(h5:aC w b5 3 #[.int .i64 t])(hq:1<=q)(hq2:q<=s)(hs:s<=480000)(hl:2<=l)(hl2:l<=1500)(hz:0<=z)(hz2:z<=10000)(hC:1<=C)(hC2:C<=4000)(ht:t<=1000)(hy:y<=10000000)(hN:C*t<=AA (s-q) (l-1) q z y↔N<=y) :
 Calls Tryz.prog 215 (#[.int .i64 y] ++ #[.pointer (some ⟨bf,0,none⟩),.pointer (some ⟨bc,0,none⟩),.pointer (some ⟨b5,0,none⟩)]) w fun e w'=>e = .returned (.bool (decide (N<=y)))/\Below w.heap.size w w':=by
 show Calls _ _ #[.int .i64 y,.pointer (some ⟨bf,0,none⟩),.pointer (some ⟨bc,0,none⟩),.pointer (some ⟨b5,0,none⟩)] _ _
 obtain⟨cf,cc,c5,hlf,hlc,hl5⟩:_/\_/\_/\_/\_/\_:=⟨hf.cell 0,hc.cell 0,h5.cell 0,hf.lt,hc.lt,h5.lt⟩
 simp at cf cc c5;have HA:=aA (fun m=>wE b1 b2 b3 b4 s q l z y (w.drewN m) (h.drewN m) hq hq2 hs hl hl2 hz hz2 (by omega) (by omega));obtain⟨V,hV⟩:∃V,V=AA (s-q) (l-1) q z y:=⟨_,rfl⟩
 rw [<- hV] at HA hN;obtain⟨T,hT⟩:∃T,T=C*t:=⟨_,rfl⟩
 have hT0:0<=T:=by rw [hT];exact Int.mul_nonneg (by omega) (by omega)
 have hT1:T<=4000*1000:=by rw [hT];exact Int.mul_le_mul (by omega) (by omega) (by omega) (by omega)
 have HD:=aA (show decide (T<=V)=decide (N<=y) by rw [<- hT] at hN;exact decide_eq_decide.2 hN);have e6:IntKind.i64.wrap (C*(t:Int))=T:=by rw [<- hT];exact IntWalk.i64_in _ (by omega)
 clear hT hN h h5 hf hc hV;go_enter Tryz.func215,Tryz.ntmps215
 go_upto_region 1 with fail
 go_quiet ((go_at_call 213;exact Calls.quiet_of (HA.out _)))
 go_wp2_with fail
 go_ret
 exact⟨by rw [<- HD.out];rfl,cC (Below.refl _ _)⟩
theorem Q4(bf bc t N:Nat)(C:Int)(w:World)(h:kI w b1 b2 b3 b4 s q l z)(hf:aC w bf 51 #[.func (.func 213) #[] #[.pointer (some ⟨b1,0,none⟩),.pointer (some ⟨b2,0,none⟩),.pointer (some ⟨b3,0,none⟩),.pointer (some ⟨b4,0,none⟩)]])(hc:aC w bc 3 #[.int .i64 C])(hq:1<=q)(hq2:q<=s)(hs:s<=480000)(hl:2<=l)(hl2:l<=1500)(hz:0<=z)(hz2:z<=10000)(hC:1<=C)(hC2:C<=4000)(ht:t<=1000)(hNb:N<=4000000)(hN:∀y:Nat,C*t<=AA (s-q) (l-1) q z y↔N<=y) :
 Calls Tryz.prog 214 (#[.int .i64 t] ++ #[.pointer (some ⟨bf,0,none⟩),.pointer (some ⟨bc,0,none⟩)]) w fun e w'=>e = .returned (.int .i64 N)/\Below w.heap.size w w':=by
 show Calls _ _ #[.int .i64 t,.pointer (some ⟨bf,0,none⟩),.pointer (some ⟨bc,0,none⟩)] _ _
 have hb:=aF w (.cells #[.int .i64 t] 3);have R:=aA (h.below hb);have HF:=aA (hf.below hb hf.lt);have HC:=aA (hc.below hb hc.lt);have B5:=aA (aC.new w 3 #[.int .i64 t]);have BW:=aA hb;clear h hf hc hb;go_enter Tryz.func214,Tryz.ntmps214
 go_upto_region 1 with fail
 generalize hwe:w.alloc (.cells #[.int .i64 t] 3)=w1 at *;clear hwe;go_wp2_with fail
 refine(wL N 215 #[.pointer (some ⟨bf,0,none⟩),.pointer (some ⟨bc,0,none⟩),.pointer (some ⟨w.heap.size,0,none⟩)] w1 (by omega) (aA (fun y w2 hy hb=>Q3 b1 b2 b3 b4 s q l z bf bc w.heap.size t N y C w2 (R.out.below hb) (HF.out.below hb HF.out.lt) (HC.out.below hb HC.out.lt) (B5.out.below hb B5.out.lt) hq hq2 hs hl hl2 hz hz2 hC hC2 ht (by omega) (hN y))) (fun x w=>by kernel_rfl)).mono ?_;rintro e w2 ⟨rfl,hb⟩;have bw:=aD BW.out hb;go_wp2_with fail
 go_ret
 exact⟨rfl,bw⟩
end
theorem yT(A:Option Addr)(n c:Nat)(tb:List Int)(cl:Int)(t:Nat)(m:Int)(b:Bool)(w:World)(h:aE w w.heap.size A n tb)(hn:1<=n)(hn2:n<=40)(hcl:0<=cl)(ht:t<=4000)(ha:eC tb cl t m b) :
 Calls Tryz.prog 230 #[.slice A n c,.int .i64 cl,.int .i64 t] w fun e w'=>e = .returned (.tuple #[.int .i64 m,.bool b])/\w'=w:=by
 obtain⟨g,o,hA,hg,hc⟩:=h.2 (by omega);subst hA;have HL:=aA h.1;have HC:=aA hc;have HA:=aA ha;have d1:decide (cl<0)=false:=decide_eq_false (by omega);clear h hc ha;go_enter Tryz.func230,Tryz.ntmps230
 go_wp2_with fail
 go_loopg [11] n (fun gg s11 wr=>∃k:Nat,k+gg=n/\s11 = .int .i64 k/\wr=w/\Hid (∀j,j<k->bY tb (t+j)=cl))
 case atStart=>exact⟨0,by omega,rfl,rfl,aA (fun j hj=>by omega)⟩
 case round=>
  obtain⟨k,hkg,rfl,rfl,HS⟩:=hrel;by_cases hk:k<n
  case pos=>
   have hki:(k:Int)<n:=by omega
   obtain⟨r,hr⟩:∃r:Nat,r=(t+k) % n:=⟨_,rfl⟩
   have hrn:r<n:=by rw [hr];exact Nat.mod_lt _ (by omega)
   have hri:(r:Int)<n:=by omega
   have er:((t:Int)+(k:Int)).tmod n=(r:Int):=by rw [Int.tmod_eq_emod_of_nonneg (by omega),hr];simp
   have hcc:=HC.out r hrn;obtain⟨v,hv⟩:∃v,v=bY tb (t+k):=⟨_,rfl⟩
   have HVV:=aA hv;rw [show aB tb r=v by rw [hv];unfold bY;rw [HL.out,hr]] at hcc;clear hr hv;by_cases hvc:v=cl
   case pos=>
    have hb:(v != cl)=false:=by simp [hvc]
    have HS2:=aA (show ∀j,j<k+1->bY tb (t+j)=cl from fun j hj=>by
     by_cases e:j=k
     ·rw [e,<- HVV.out,hvc]
     ·exact HS.out j (by omega))
    clear hvc HS;go_wp2_with fail
    go_roundg (gk-1)
    case measure=>omega
    case rel=>exact⟨k+1,by omega,by go_num,rfl,HS2⟩
   case neg=>
    have hb:(v != cl)=true:=by simp [hvc]
    obtain⟨e1,e2⟩:=HA.out.uniq (show eC tb cl t k true from .inl ⟨rfl,k,rfl,by rw [HL.out];exact hk,by rw [<- HVV.out];exact hvc,HS.out⟩);subst e1 e2;clear hvc HS HA;go_wp2_with fail
    exact bodyPost_ret (v:=.tuple #[.int .i64 k,.bool true]) (by simp [results,Tryz.results230,go_sem]) rfl ⟨rfl,rfl⟩
  case neg=>
   obtain rfl:k=n:=by omega
   obtain⟨e1,e2⟩:=HA.out.uniq (show eC tb cl t 0 false from .inr ⟨rfl,rfl,by rw [HL.out];exact HS.out⟩);subst e1 e2;clear HA HS;go_wp2_with fail
   exact bodyPost_ret (v:=.tuple #[.int .i64 0,.bool false]) (by simp [results,Tryz.results230,go_sem]) rfl ⟨rfl,rfl⟩
theorem a30(gs n c bef bT bP nT cT:Nat)(t:Nat)(left cap:Int)(A Bg AT:Option Addr)(ps:List PK)(bs:List Bool)(tb:List Int)(w:World)(h:SE w gs t left A n c ps Bg bs bef)(hv:aM ps)(hT:aC w bT 22 #[.slice AT nT cT])(hP:aC w bP 3 #[.int .i64 cap])(hI:aE w w.heap.size AT nT tb)(hn1:1<=nT)(hn2:nT<=40)(htb:∀k,k<nT->-1<=aB tb k)(ht:t<=4000)(hc1:1<=cap)(hc2:cap<=4000)(hl0:0<=left)(hl1:left<=4000)
 (hx:∀w':World,KX (fun k=>k=gs) w w'->aC w' bT 22 #[.slice AT nT cT]/\aC w' bP 3 #[.int .i64 cap]/\aE w' w'.heap.size AT nT tb) :
 Calls Tryz.prog 229 (#[.pointer (some ⟨gs,0,none⟩)] ++ #[.pointer (some ⟨bT,0,none⟩),.pointer (some ⟨bP,0,none⟩)]) w fun e w'=>∃(r:Int),(∀s:RS Unit,s.begun=bs->s.t=t->s.left=left->gZ cap tb ps s r ())/\(r = -1\/∃i:Nat,r=i/\i<ps.length)/\e = .returned (.int .i64 r)/\(∃b2,SE w' gs t left A n c ps Bg bs b2)/\KX (fun k=>k=gs) w w':=by
 show Calls _ _ #[.pointer (some ⟨gs,0,none⟩),.pointer (some ⟨bT,0,none⟩),.pointer (some ⟨bP,0,none⟩)] _ _
 have HN:n<=60:=by have:=hv.len;have:=h.tr.1;omega
 have HPN:=aA (show ps.length=n from h.tr.1);have HV:=aA hv;have HX:=aA hx;have E:=aA h;obtain⟨c0,p0,t0,hlb,hlp,hlg⟩:_/\_/\_/\_/\_/\_:=⟨hT.cell 0,hP.cell 0,h.st.cell 0,hT.lt,hP.lt,h.st.lt⟩
 simp at c0 p0 t0;obtain⟨r,hr⟩:∃r:Nat,r=t % nT:=⟨_,rfl⟩
 have hrn:r<nT:=by rw [hr];exact Nat.mod_lt _ (by omega)
 have hri:(r:Int)<nT:=by omega
 have er:(t:Int).tmod nT=(r:Int):=by rw [Int.tmod_eq_emod_of_nonneg (by omega),hr];simp
 have HTL:=aA hI.1;obtain⟨g,o,hA,hg,hc⟩:=hI.2 (by omega);subst hA;have hcc:=hc r hrn;obtain⟨k,hk⟩:∃k,k=bY tb t:=⟨_,rfl⟩
 have HK:=aA hk;have hkv:aB tb r=k:=by rw [hk];unfold bY;rw [hI.1,hr]
 have hk0:=htb r hrn;rw [hkv] at hcc hk0;clear h hv hT hP hI htb hx hr hk hkv hc;go_enter Tryz.func229,Tryz.ntmps229
 go_upto_region 1 with fail
 go_quiet (fail)
 replace E:=aA (E.out.drewN nq);have K:=aA (show KX (fun k=>k=gs) w (w.drewN nq) from(KX.refl _ w).drewN nq);clear c0 p0 t0 hlb hlp hlg hcc hg;generalize w.drewN nq=w1 at *;by_cases hk1:k<0
 case pos=>
  have HR:=aA (show ∀s:RS Unit,s.begun=bs->s.t=t->s.left=left->gZ cap tb ps s (-1) () from fun s _ e2 _=>.inl ⟨by rw [e2,<- HK.out];exact hk1,rfl⟩);go_wp2_with fail
  go_ret
  exact⟨-1,HR.out,.inl rfl,rfl,⟨_,E.out⟩,K.out⟩
 case neg=>
 have HC:=aA (qU gs n c bef t left k A Bg ps bs w1 E.out HV.out);clear E;go_wp2_with fail
 refine HC.out.mono ?_;rintro e w3 ⟨q,hq,rfl,he,hk3⟩;have HQ:=aA hq;have E:=aA he;replace K:=aA (K.out.trans hk3);clear HC hq he hk3;rcases HQ.out.cases with rfl | ⟨i,rfl,hi⟩
 case inl=>
  have HR:=aA (show ∀s:RS Unit,s.begun=bs->s.t=t->s.left=left->gZ cap tb ps s (-1) () from fun s e1 e2 _=>.inr ⟨-1,by rw [e1,e2,<- HK.out];exact HQ.out,.inl ⟨rfl,rfl⟩⟩);go_wp2_with fail
  go_ret
  exact⟨-1,HR.out,.inl rfl,rfl,⟨_,E.out⟩,K.out⟩
 case inr=>
  obtain⟨m,b,ha⟩:=eC.ex tb k t;have HAH:=aA ha;have hm:0<=m/\m<=40:=by
   rcases ha with ⟨_,j,rfl,h,_⟩|⟨_,rfl,_⟩
   ·have:=HTL.out;omega
   ·omega
  have AH:=aA (fun q=>yT (some ⟨g,o,none⟩) nT cT tb k t m b (w3.drewN q) (by have:=(HX.out w3 K.out).2.2;exact this) hn1 hn2 (by omega) ht ha);obtain⟨c0,p0,t0,hlb,hlp,hlg⟩:_/\_/\_/\_/\_/\_:=⟨(HX.out w3 K.out).1.cell 0,(HX.out w3 K.out).2.1.cell 0,E.out.st.cell 0,(HX.out w3 K.out).1.lt,(HX.out w3 K.out).2.1.lt,E.out.st.lt⟩
  simp at c0 p0 t0;clear ha;go_upto_region 7 with fail
  go_quiet ((go_at_call 230;exact Calls.quiet_of_same (AH.out _)))
  replace E:=aA (E.out.drewN nq);replace K:=aA (K.out.drewN nq);clear c0 p0 t0 hlb hlp hlg AH;generalize w3.drewN nq=w4 at *;have SZ:=aA (fun q=>t7 gs n c _ i t left A Bg ps bs (w4.drewN q) (E.out.drewN q) (by have:=HPN.out;omega) HN);obtain⟨p0,hlp⟩:_/\_:=⟨(HX.out w4 K.out).2.1.cell 0,(HX.out w4 K.out).2.1.lt⟩
  obtain⟨l0,hlg⟩:_/\_:=⟨E.out.st.cell 1,E.out.st.lt⟩
  simp at p0 l0;obtain⟨z,hz⟩:∃z,z=eL ps i:=⟨_,rfl⟩
  have HZ:=aA hz;rw [<- hz] at SZ;obtain⟨M,hM⟩:∃M,M=(m-1)*cap:=⟨_,rfl⟩
  have HM:=aA hM;have hMb : -4000<=M/\M<=160000:=by
   have h1:(m-1)*cap<=39*cap:=Int.mul_le_mul_of_nonneg_right (by omega) (by omega);have h2 : -1*cap<=(m-1)*cap:=Int.mul_le_mul_of_nonneg_right (by omega) (by omega);omega
  have e1:IntKind.i64.wrap (m-1)=m-1:=IntWalk.i64_in _ (by omega);have e2:IntKind.i64.wrap ((m-1)*cap)=M:=by rw [<- hM];exact IntWalk.i64_in _ (by omega)
  have e3:IntKind.i64.wrap (left+M)=left+M:=IntWalk.i64_in _ (by omega);have hIP:=hi;clear hz hM hi;by_cases hgo:b=true/\left+M<z
  case pos=>
   obtain⟨rfl,hlt⟩:=hgo;have hd:decide (left+M<z)=true:=decide_eq_true hlt;have HR:=aA (show ∀s:RS Unit,s.begun=bs->s.t=t->s.left=left->gZ cap tb ps s (-1) () from fun s a1 a2 a3=>.inr ⟨i,by rw [a1,a2,<- HK.out];exact HQ.out,.inr ⟨by omega,m,true,by rw [a2,<- HK.out];exact HAH.out,.inl ⟨rfl,by rw [a3,<- HM.out,<- HZ.out];exact hlt,rfl⟩⟩⟩);go_upto_region 8 with fail
   go_quiet ((go_at_call 218;exact Calls.quiet_of_same (SZ.out _)))
   go_wp2_with fail
   go_ret
   exact⟨-1,HR.out,.inl rfl,rfl,⟨_,E.out.drewN nq⟩,K.out.drewN nq⟩
  case neg=>
   have HR:=aA (show ∀s:RS Unit,s.begun=bs->s.t=t->s.left=left->gZ cap tb ps s i () from fun s a1 a2 a3=>.inr ⟨i,by rw [a1,a2,<- HK.out];exact HQ.out,.inr ⟨by omega,m,b,by rw [a2,<- HK.out];exact HAH.out,.inr ⟨by rw [a3,<- HM.out,<- HZ.out];exact hgo,rfl⟩⟩⟩);cases b with
   | false=>
     go_upto_region 8 with fail
     go_quiet (fail)
     go_wp2_with fail
     go_ret
     exact⟨i,HR.out,.inr ⟨i,rfl,hIP⟩,rfl,⟨_,E.out.drewN nq⟩,K.out.drewN nq⟩
   | true=>
     have hd:decide (left+M<z)=false:=decide_eq_false (fun h=>hgo ⟨rfl,h⟩);clear hgo;go_upto_region 8 with fail
     go_quiet ((go_at_call 218;exact Calls.quiet_of_same (SZ.out _)))
     go_wp2_with fail
     go_ret
     exact⟨i,HR.out,.inr ⟨i,rfl,hIP⟩,rfl,⟨_,E.out.drewN nq⟩,K.out.drewN nq⟩
theorem a35(A:Option Addr)(n c m:Nat)(tb:List Int)(w:World)(hI:aE w w.heap.size A n tb)(hn:1<=n)(hn2:n<=40)(hz:∀k,k<n->-1<=aB tb k/\aB tb k<m) :
 Calls Tryz.prog 231 #[.slice A n c,.int .i64 m] w fun e w'=>e = .returned (.bool true)/\w'=w:=by
 have HI:=aA hI;have HZ:=aA hz;clear hI hz;go_enter Tryz.func231,Tryz.ntmps231
 go_wp2_with fail
 go_loopg [17,6] n (fun gg s17 _ wr=>∃k:Nat,k+gg=n/\s17 = .int .i64 k/\wr=w)
 case atStart=>exact⟨0,by omega,rfl,rfl⟩
 case round=>
  obtain⟨k,hkg,rfl,rfl⟩:=hrel;by_cases hk:k<n
  case pos=>
   have hki:(k:Int)<n:=by omega
   obtain⟨b,o,hA,hb,hc⟩:=HI.out.2 (by omega);subst hA;have hcc:=hc k hk;have hv:=HZ.out k hk;generalize aB tb k=v at *;have d1:decide (v < -1)=false:=decide_eq_false (by omega);have d2:decide ((m:Int)<=v)=false:=decide_eq_false (by omega);clear hc;go_wp2_with fail
   go_roundg (gk-1)
   case measure=>omega
   case rel=>exact⟨k+1,by omega,by go_num,rfl⟩
  case neg=>
   have hki:¬(k:Int)<n:=by omega
   go_wp2_with fail
   exact bodyPost_ret (v:=.bool true) (by simp [results,Tryz.results231,go_sem]) rfl ⟨rfl,rfl⟩
structure TZ(w:World)(n:Nat)(AT:Option Addr)(L cT:Nat)(tb:List Int)(AZ:Option Addr)(cZ:Nat)(zs:List SZ):Prop where
 i:aE w w.heap.size AT L tb
 l1:1<=L
 l2:L<=40
 lc:L<=cT
 t1:∀k,k<L->-1<=aB tb k/\aB tb k<n
 z:jY w AZ n cZ zs
 g:∀x∈zs,x.Good
section
variable{w w':World}{n L cT cZ:Nat}{AT AZ:Option Addr}{tb:List Int}{zs:List SZ}
theorem TZ.below(h:TZ w n AT L cT tb AZ cZ zs)(hb:Below w.heap.size w w'):TZ w' n AT L cT tb AZ cZ zs:=⟨h.i.ext hb,h.l1,h.l2,h.lc,h.t1,h.z.below hb,h.g⟩
theorem TZ.get(h:TZ w n AT L cT tb AZ cZ zs){k:Nat}(hk:k<n):∃(g p:Nat) (x:SZ),AZ=some ⟨g,p,none⟩/\g<w.heap.size/\zs[k]?=some x/\w.cell? ⟨g,p+k*2,none⟩=some (.int .i64 x.lo)/\w.cell? ⟨g,p+k*2+1,none⟩=some (.int .i64 x.hi)/\x.Good:=by
 obtain⟨g,p,h4,h5⟩:=h.z.2.2.2 (by omega);obtain⟨x,h6,h7,h8⟩:=h5.get (k:=k) (by rw [h.z.1];exact hk);exact⟨g,p,x,h4,h5.lt,h6,h7,h8,h.g x (List.mem_of_getElem? h6)⟩
end
theorem a3z(cap:Int)(cl n L cT cZ:Nat)(AT AZ:Option Addr)(tb:List Int)(zs:List SZ)(w:World)(h:TZ w n AT L cT tb AZ cZ zs)(h1:1<=cap)(h2:cap<=4000)(hcl:cl<n)(hn:n<=6) :
 Calls Tryz.prog 224 #[.int .i64 cap,.int .i64 cl,.slice AT L cT,.slice AZ n cZ] w fun e w'=>e = .returned (.int .i64 0)/\Below w.heap.size w w':=by
 have H:=aA h;clear h;go_enter Tryz.func224,Tryz.ntmps224
 go_wp2_with fail
 refine(pA cap cl AZ n cZ zs w H.out.z H.out.g h1 h2 (by omega) hn (by omega) (by omega)).mono ?_;rintro e w2 ⟨rfl,hb⟩;have BW:=aA hb;replace H:=aA (H.out.below hb);clear hb;go_wp2_with fail
 refine(a35 AT L cT n tb w2 H.out.i H.out.l1 H.out.l2 H.out.t1).mono ?_;rintro e w3 ⟨rfl,rfl⟩;go_wp2_with fail
 go_ret
 exact⟨rfl,BW.out⟩
theorem a33(cl n L cT cZ t:Nat)(AT AZ:Option Addr)(tb:List Int)(zs:List SZ)(w:World)(h:TZ w n AT L cT tb AZ cZ zs)(ht:t<L) :
 Calls Tryz.prog 225 #[.slice AT L cT,.int .i64 cl,.int .i64 t] w fun e w'=>e = .returned (.bool (decide (aB tb t=cl)))/\w'=w:=by
 obtain⟨b,o,hA,hb,hc⟩:=h.i.2 (by omega);subst hA;have hcc:=hc t ht;have h2:=h.l2;have et:(t:Int).tmod (L:Int)=t:=Int.tmod_eq_of_lt (by omega) (by omega);have hti:(t:Int)<L:=by omega
 generalize aB tb t=v at *;clear hc h;go_enter Tryz.func225,Tryz.ntmps225
 go_wp2_with fail
 go_ret
 exact⟨rfl,rfl⟩
theorem a3y(A:Option Addr)(n c:Nat)(tb:List Int)(cl:Int)(t:Nat)(m:Int)(b:Bool)(w:World)(h:aE w w.heap.size A n tb)(hn:1<=n)(hn2:n<=40)(hcl:0<=cl)(ht:t<=4000)(ha:eC tb cl t m b) :
 Calls Tryz.prog 226 #[.slice A n c,.int .i64 cl,.int .i64 t] w fun e w'=>e = .returned (.tuple #[.int .i64 m,.bool b])/\w'=w:=by
 go_enter Tryz.func226,Tryz.ntmps226
 go_wp2_with fail
 refine(yT A n c tb cl t m b w h hn hn2 hcl ht ha).mono ?_;rintro e w2 ⟨rfl,rfl⟩;go_wp2_with fail
 exact bodyPost_ret (v:=.tuple #[.int .i64 m,.bool b]) (by simp [results,Tryz.results226,go_sem]) rfl ⟨rfl,rfl⟩
end Go.Proofs.YtaejfleahamapaaGreat
