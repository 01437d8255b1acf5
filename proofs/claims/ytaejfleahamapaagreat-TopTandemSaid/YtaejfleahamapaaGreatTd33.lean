/- . -/
import Derived.Laws.EntriesVeiled
import Derived.Test.YtaejfleahamapaaGreatTd32
namespace Go.Proofs.YtaejfleahamapaaGreat
set_option linter.unusedVariables false
set_option linter.unusedSimpArgs false
set_option maxHeartbeats 4000000
set_option maxRecDepth 100000
open Go.RowKit
def nX(C q l x z:Int)(f:Cv):Prop:=∀(n:Nat) (y:Int),0<=y->C*n<=y+x*((y+l-1) / q+1)+z->f.at n<=y
theorem R6(cap:Nat)(cl n cW cZ:Nat)(AW AZ:Option Addr)(ws:List Int)(zs:List SZ)(w:World)(h:WZ w n AW cW ws AZ cZ zs 6000)(h1:1<=(cap:Int))(h2:(cap:Int)<=4000)(hcl:cl<n)(hn:n<=2)(hl:aW zs cl<1\/2<=aW zs cl)(hq0:0<=fK cl ws zs n)(hq1:fK cl ws zs n<=12000)(hz0:0<=fL cl zs n)(hz1:fL cl zs n<=3000) :
 Calls Tryz.prog 209 #[.int .i64 cap,.int .i64 cl,.slice AW n cW,.slice AZ n cZ] w (dI (dS (nX cap (aB ws cl) (aW zs cl) (fK cl ws zs n) (fL cl zs n))) w):=by
 have rb:=aC.new (w.alloc (.cells #[.int .i64 cap] 3)) 26 #[.slice none 0 0,.int .i64 0,.int .i64 0];simp only [World.size_alloc] at rb;have RB:=aA rb;have B4:=aA ((aC.new w 3 #[.int .i64 cap]).alloc (.cells #[.slice none 0 0,.int .i64 0,.int .i64 0] 26));have EB:=aA (aD (aF w (.cells #[.int .i64 cap] 3)) (aF _ (.cells #[.slice none 0 0,.int .i64 0,.int .i64 0] 26)));have H:=aA (h.below EB.out);clear rb h;go_enter Tryz.func209,Tryz.ntmps209
 go_upto_region 1 with fail
 generalize hwe:(w.alloc (.cells #[.int .i64 cap] 3)).alloc (.cells #[.slice none 0 0,.int .i64 0,.int .i64 0] 26)=w1 at *;clear hwe;have c4:=B4.out.cell 0;simp at c4;have hl4:=B4.out.lt;go_wp2_with fail
 refine(Q9 cap cl n cW cZ AW AZ ws zs w1 H.out h1 h2 hcl (by omega)).mono ?_;rintro e w2 ⟨rfl,hb⟩;replace RB:=aA (RB.out.below hb RB.out.lt);replace B4:=aA (B4.out.below hb B4.out.lt);replace H:=aA (H.out.below hb);replace EB:=aA (aD EB.out hb);clear hb c4 hl4;obtain⟨b,o,g,p,x,rfl,hbl,hwc,rfl,hgl,hx,x0,x1,hg⟩:=H.out.get hcl;have hw:=H.out.w1 cl hcl;unfold SZ.Good at hg;have hcli:(cl:Int)<(n:Int):=by omega
 have HX:=aA (qM hx);rw [HX.out] at hl;clear hx x0;by_cases hlo:x.hi<1
 case pos=>
  have hd:decide (x.hi<1)=true:=decide_eq_true hlo;obtain⟨⟨r0,r1,r2⟩,⟨y0,y1,y2⟩,hlr⟩:=RB.out.c3;go_wp2_with fail
  have rb:=RB.out.store3 (.slice none 0 0) (.int .i64 0) (.int .i64 0);exact bodyPost_ret (v:=.tuple #[.agg #[.slice none 0 0,.int .i64 0,.int .i64 0],.int .i64 5]) (by simp [results,Tryz.results209,go_sem,rb.cell]) rfl ⟨Cv.none,5,dS.none (by omega),none,0,0,rfl,aE.none_,(fun b off s h=>by cases h),cO EB.out (by omega) _ _ _⟩
 case neg=>
  have hd:decide (x.hi<1)=false:=decide_eq_false hlo;obtain⟨q,hq⟩:∃q,q=aB ws cl:=⟨_,rfl⟩
  obtain⟨l,hll⟩:∃l,l=x.hi:=⟨_,rfl⟩
  have HQ:=aA (show aB ws cl=q from hq.symm);have HLX:=aA (show aW zs cl=l by rw [HX.out,hll]);rw [<- hq] at hwc hw;rw [<- hll] at x1 hl hg hd;have hl2:2<=l:=by omega
  have hl15:l<=1500:=by omega
  clear hq hll hlo hl hg HX;have HL2:=aA RB.out.lt;go_upto_region 6 with fail
  go_cut [11,12] (fun s11 s12 wx=>∃b2 b3:Nat,s11 = .pointer (some ⟨b2,0,none⟩)/\s12 = .pointer (some ⟨b3,0,none⟩)/\Hid (aC wx b2 3 #[.int .i64 q])/\Hid (aC wx b3 3 #[.int .i64 l])/\b2≠b3/\w2.heap.size<=b2/\w2.heap.size<=b3/\Hid (Below w2.heap.size w2 wx))
  case first=>
   go_region
   ·go_wp2_with fail
    go_meet
    exact⟨_,_,rfl,rfl,aA (jH w2 _ _).1,aA (jH w2 _ _).2.1,by omega,by omega,by omega,aA (jH w2 _ _).2.2⟩
   ·go_wp2_with fail
    go_meet
    exact⟨_,_,rfl,rfl,aA (jH w2 _ _).2.1,aA (jH w2 _ _).1,by omega,by omega,by omega,aA (jH w2 _ _).2.2⟩
  case rest=>
   obtain⟨b2,b3,rfl,rfl,R2,R3,hne,hb2,hb3,KB⟩:=hcut;have hb:=KB.out;have hn2:w.heap.size+1<b2:=by have:=HL2.out;omega
   have hn3:w.heap.size+1<b3:=by have:=HL2.out;omega
   replace RB:=aA (RB.out.below hb RB.out.lt);replace B4:=aA (B4.out.below hb B4.out.lt);replace H:=aA (H.out.below hb);replace EB:=aA (aD EB.out hb);clear hb KB hwc x1 hbl hgl hb2 hb3 HL2 hne hd;go_wp2_with fail
   refine(a09 cl n cW cZ _ _ ws zs wc H.out hcl (by omega)).mono ?_;rintro e w3 ⟨rfl,hb⟩;replace RB:=aA (RB.out.below hb RB.out.lt);replace B4:=aA (B4.out.below hb B4.out.lt);replace H:=aA (H.out.below hb);replace EB:=aA (aD EB.out hb);replace R2:=aA (R2.out.below hb R2.out.lt);replace R3:=aA (R3.out.below hb R3.out.lt);clear hb;rw [HQ.out,HLX.out];generalize fK cl ws zs n=x at *;generalize fL cl zs n=z at *;obtain⟨L,hL⟩:∃L:Nat,q+x=(L:Int):=⟨(q+x).toNat,by omega⟩
   have HL:=aA hL;have HL4:=aA RB.out.lt;have R4:=aA (aC.new w3 3 #[.int .i64 z]);have hb:=aF w3 (.cells #[.int .i64 z] 3);replace RB:=aA (RB.out.below hb RB.out.lt);replace B4:=aA (B4.out.below hb B4.out.lt);replace H:=aA (H.out.below hb);replace EB:=aA (aD EB.out hb);replace R2:=aA (R2.out.below hb R2.out.lt);replace R3:=aA (R3.out.below hb R3.out.lt);clear hb;go_upto_region 8 with fail
   generalize hwe:w3.alloc (.cells #[.int .i64 z] 3)=w4 at *;clear hwe;have hn4:w.heap.size+1<w3.heap.size:=HL4.out;generalize w3.heap.size=b4 at *;have c4:=B4.out.cell 0;simp at c4;have hl4:=B4.out.lt;have c2:=R2.out.cell 0;simp at c2;have hl2':=R2.out.lt;go_wp2_with fail
   refine(yL L cap w4 (by omega) (by omega) (by omega) (by omega)).mono ?_;rintro e w5 ⟨s,P,ok,hS,rfl,hb⟩;have HS:=aA hS;replace RB:=aA (RB.out.below hb RB.out.lt);replace B4:=aA (B4.out.below hb B4.out.lt);replace H:=aA (H.out.below hb);replace EB:=aA (aD EB.out hb);replace R2:=aA (R2.out.below hb R2.out.lt);replace R3:=aA (R3.out.below hb R3.out.lt);replace R4:=aA (R4.out.below hb R4.out.lt);clear hb c4 hl4 c2 hl2' hS hL;have HL1:=aA RB.out.lt;have R1:=aA (aC.new w5 3 #[.int .i64 s]);have hb:=aF w5 (.cells #[.int .i64 s] 3);replace RB:=aA (RB.out.below hb RB.out.lt);replace B4:=aA (B4.out.below hb B4.out.lt);replace H:=aA (H.out.below hb);replace EB:=aA (aD EB.out hb);replace R2:=aA (R2.out.below hb R2.out.lt);replace R3:=aA (R3.out.below hb R3.out.lt);replace R4:=aA (R4.out.below hb R4.out.lt);clear hb;go_upto_region 9 with fail
   generalize hwe:w5.alloc (.cells #[.int .i64 s] 3)=w6 at *;clear hwe;have hn1:w.heap.size+1<w5.heap.size:=HL1.out;generalize w5.heap.size=b1 at *;rcases HS.out with ⟨rfl,hs1,hs2,hp1,hp2,k,hk1,hk2⟩|⟨rfl,rfl,rfl⟩
   case inr=>
    obtain⟨⟨r0,r1,r2⟩,⟨y0,y1,y2⟩,hlr⟩:=RB.out.c3;go_wp2_with fail
    have rb:=RB.out.store3 (.slice none 0 0) (.int .i64 0) (.int .i64 0);exact bodyPost_ret (v:=.tuple #[.agg #[.slice none 0 0,.int .i64 0,.int .i64 0],.int .i64 3]) (by simp [results,Tryz.results209,go_sem,rb.cell]) rfl ⟨Cv.none,3,dS.none (by omega),none,0,0,rfl,aE.none_,(fun b off s h=>by cases h),cO EB.out (by omega) _ _ _⟩
   case inl=>
    have HL2':=HL.out;have HL5:=aA RB.out.lt;have RF:=aA (aC.new w6 51 #[.func (.func 213) #[] #[.pointer (some ⟨b1,0,none⟩),.pointer (some ⟨b2,0,none⟩),.pointer (some ⟨b3,0,none⟩),.pointer (some ⟨b4,0,none⟩)]]);have hb:=aF w6 (.cells #[.func (.func 213) #[] #[.pointer (some ⟨b1,0,none⟩),.pointer (some ⟨b2,0,none⟩),.pointer (some ⟨b3,0,none⟩),.pointer (some ⟨b4,0,none⟩)]] 51);replace RB:=aA (RB.out.below hb RB.out.lt);replace B4:=aA (B4.out.below hb B4.out.lt);replace H:=aA (H.out.below hb);replace EB:=aA (aD EB.out hb);replace R2:=aA (R2.out.below hb R2.out.lt);replace R3:=aA (R3.out.below hb R3.out.lt);replace R4:=aA (R4.out.below hb R4.out.lt);replace R1:=aA (R1.out.below hb R1.out.lt);clear hb HS;go_upto_region 13 with fail
    generalize hwe:w6.alloc (.cells #[.func (.func 213) #[] #[.pointer (some ⟨b1,0,none⟩),.pointer (some ⟨b2,0,none⟩),.pointer (some ⟨b3,0,none⟩),.pointer (some ⟨b4,0,none⟩)]] 51)=w7 at *;clear hwe;have hn5:w.heap.size+1<w6.heap.size:=HL5.out;generalize w6.heap.size=b5 at *;have HNE:=aA (show b1≠w.heap.size+1/\b2≠w.heap.size+1/\b3≠w.heap.size+1/\b4≠w.heap.size+1/\b5≠w.heap.size+1 by omega);clear hn1 hn2 hn3 hn4 hn5;obtain⟨V,hV⟩:∃V,V=AA (s-q) (l-1) q z (-1):=⟨_,rfl⟩
    have hV0 : -1<=V/\V<=480000*3000+3000:=by
     rw [hV];unfold AA;have h3:0<=(-1+(l-1)) / q:=Int.ediv_nonneg (by omega) (by omega);have h4:(-1+(l-1)) / q<=2000:=by have:=Int.ediv_le_self q (show 0<=-1+(l-1) by omega);omega
     have h5:=Int.mul_nonneg (show 0<=s-q by omega) (show 0<=(-1+(l-1)) / q+1 by omega);have h6:(s-q)*((-1+(l-1)) / q+1)<=480000*2001:=Int.mul_le_mul (by omega) (by omega) (by omega) (by omega);omega
    have HVV:=aA hV;obtain⟨S,hSS⟩:∃S,S=V.tdiv cap:=⟨_,rfl⟩
    have hSb : -1<=S/\S<=V+1/\V<cap*(S+1):=by
     have h3:=Int.mul_tdiv_add_tmod V cap;have h4:=Int.tmod_lt_of_pos V (show 0<(cap:Int) by omega);rw [<- hSS] at h3;have h5:(cap:Int)*(S+1)=cap*S+cap:=by rw [Int.mul_add,Int.mul_one]
     rcases Int.lt_or_le V 0 with g|g
     ·have e:S = -((1:Int) / cap):=by rw [hSS,show V = -1 by omega,Int.neg_tdiv,Int.tdiv_eq_ediv_of_nonneg (by omega)]
      have h6:0<=(1:Int) / cap:=Int.ediv_nonneg (by omega) (by omega);have h7:=Int.ediv_le_self (cap:Int) (show(0:Int)<=1 by omega);omega
     ·rw [Int.tdiv_eq_ediv_of_nonneg g] at hSS;have h6:0<=V / cap:=Int.ediv_nonneg (by omega) (by omega);have h7:=Int.ediv_le_self (cap:Int) g;omega
    obtain⟨hS0,hS1,hS2⟩:=hSb;have HS2:=aA hS2;have e1:V.tdiv cap=S:=hSS.symm;have e2:IntKind.i64.wrap S=S:=IntWalk.i64_in _ (by omega);have e3:IntKind.i64.wrap (S+1)=S+1:=IntWalk.i64_in _ (by omega);have hcn:(cap:Int)≠0:=by omega
    have HA:=aA (fun m=>wE b1 b2 b3 b4 s q l z (-1) (w7.drewN m) ⟨R1.out.drewN m,R2.out.drewN m,R3.out.drewN m,R4.out.drewN m⟩ (by omega) (by omega) (by omega) hl2 hl15 hz0 (by omega) (by omega) (by omega));rw [<- hV] at HA;clear hV hSS hS2;have c1:=R1.out.cell 0;have c2:=R2.out.cell 0;have c3:=R3.out.cell 0;have cf:=RF.out.cell 0;simp at c1 c2 c3 cf;have hl1:=R1.out.lt;have hl2':=R2.out.lt;have hl3:=R3.out.lt;have hlf:=RF.out.lt;have c4:=B4.out.cell 0;simp at c4;have hl4:=B4.out.lt;have hdl:decide ((2:Int)<=l)=true:=decide_eq_true hl2;go_upto_region 14 with fail
    go_quiet ((go_at_call 213;exact Calls.quiet_of (HA.out _)))
    replace RB:=aA (RB.out.drewN nq);replace EB:=aA (cC (k:=nq) EB.out);replace R1:=aA (R1.out.drewN nq);replace R2:=aA (R2.out.drewN nq);replace R3:=aA (R3.out.drewN nq);replace R4:=aA (R4.out.drewN nq);replace RF:=aA (RF.out.drewN nq);replace B4:=aA (B4.out.drewN nq);clear c1 c2 c3 cf c4 hl1 hl2' hl3 hlf hl4 e1 e2 e3 HA H hdl;generalize w7.drewN nq=w8 at *;by_cases hst:400<S+1
    case pos=>
     have hd4:decide (400<S+1)=true:=decide_eq_true hst;obtain⟨⟨r0,r1,r2⟩,⟨y0,y1,y2⟩,hlr⟩:=RB.out.c3;go_wp2_with fail
     have rb:=RB.out.store3 (.slice none 0 0) (.int .i64 0) (.int .i64 0);exact bodyPost_ret (v:=.tuple #[.agg #[.slice none 0 0,.int .i64 0,.int .i64 0],.int .i64 3]) (by simp [results,Tryz.results209,go_sem,rb.cell]) rfl ⟨Cv.none,3,dS.none (by omega),none,0,0,rfl,aE.none_,(fun b off s h=>by cases h),cO EB.out (by omega) _ _ _⟩
    case neg=>
     have hd4:decide (400<S+1)=false:=decide_eq_false hst;have hcp:(cap:Int)*P<=4000*120:=Int.mul_le_mul (by omega) hp2 (by omega) (by omega);have hcp0:0<=(cap:Int)*P:=Int.mul_nonneg (by omega) (by omega);have hks:k*1<=k*s:=Int.mul_le_mul_of_nonneg_left (by omega) (by omega);have hkr:k*q<=480000*6000:=Int.mul_le_mul (by omega) (by omega) (by omega) (by omega);have hkr0:0<=k*q:=Int.mul_nonneg (by omega) (by omega);have e1:IntKind.i64.wrap ((cap:Int)*P)=k*s:=by rw [<- hk2];exact IntWalk.i64_in _ (by omega)
     have e2:(k*s).tdiv s=k:=Int.mul_tdiv_cancel _ (by omega);have e3:IntKind.i64.wrap k=k:=IntWalk.i64_in _ (by omega);have e4:IntKind.i64.wrap (k*q)=k*q:=IntWalk.i64_in _ (by omega);have hsn:s≠0:=by omega
     have c1:=R1.out.cell 0;have c2:=R2.out.cell 0;have c3:=R3.out.cell 0;have cf:=RF.out.cell 0;simp at c1 c2 c3 cf;have hl1:=R1.out.lt;have hl2':=R2.out.lt;have hl3:=R3.out.lt;have hlf:=RF.out.lt;have c4:=B4.out.cell 0;simp at c4;have hl4:=B4.out.lt;have HK:=aA hk2;clear hk2 hcp hks;go_upto_region 20 with fail
     replace RB:=aA (aC.drew RB.out);replace EB:=aA (Below.drew EB.out);replace R2:=aA (aC.drew R2.out);replace R1:=aA (aC.drew R1.out);replace B4:=aA (aC.drew B4.out);replace R3:=aA (aC.drew R3.out);replace R4:=aA (aC.drew R4.out);replace RF:=aA (aC.drew RF.out);refine wp_region_held_drew (S:=fun w'=>w'.cell? ⟨b1,0,none⟩=some (.int .i64 s)/\w'.cell? ⟨b2,0,none⟩=some (.int .i64 q)/\w'.cell? ⟨w.heap.size,0,none⟩=some (.int .i64 cap)) (by kernel_rfl) (by exact⟨c1,c2,c4⟩) (fun hH=>?_);clear c1 c2 c3 cf c4 hl1 hl2' hl3 hlf hl4;generalize hwd:w8.drew=w9 at *;clear hwd;refine aO [0,1,2,3,4,5,6,7,8,9] ?_;(iterate 10 refine aK ?_);refine aP ?_;refine aJ 10 (fun K hK=>?_);go_simp
     obtain⟨P,rfl⟩:=Int.eq_ofNat_of_zero_le (show 0<=P by omega);obtain⟨st,hstN⟩:=Int.eq_ofNat_of_zero_le (show 0<=S+1 by omega);have HST:=aA hstN;have hst2:=fun t:Nat=>zG (C:=(cap:Int)) (a:=s-q) (b:=l-1) (c:=q) (z:=z) (by omega) (by omega) (by omega) (by omega) (by omega) t
     have hbd:∀t:Nat,t<=600->(dV cap (s-q) (l-1) q z t:Int)<=2400000:=fun t ht=>by
      have:=hst2 t
      have h3:(cap:Int)*t<=4000*600:=Int.mul_le_mul (by omega) (by omega) (by omega) (by omega);omega
     have HBD:=aA hbd;clear hst2 hbd;refine(kN 214 #[.pointer (some ⟨b5,0,none⟩),.pointer (some ⟨w.heap.size,0,none⟩)] (S+1) P (k*q) (fun t=>(dV cap (s-q) (l-1) q z t:Int)) w9 (by omega) (by omega) hp1 (by omega) hkr0 (by omega)
      (fun t ht=>by have:=HBD.out t (by omega);omega)
      (aA (fun t wa ht hb=>Q4 b1 b2 b3 b4 s q l z b5 w.heap.size t _ cap wa ⟨R1.out.below hb R1.out.lt,R2.out.below hb R2.out.lt,R3.out.below hb R3.out.lt,R4.out.below hb R4.out.lt⟩ (RF.out.below hb RF.out.lt) (B4.out.below hb B4.out.lt) (by omega) (by omega) (by omega) hl2 hl15 hz0 (by omega) h1 h2 (by omega) (by have:=HBD.out t (by omega);omega) (fun y=>lU (by omega) (by omega) (by omega) (by omega) (by omega) t y))) (fun x w=>by kernel_rfl)).mono ?_
     rintro e wa ⟨f,er,hS,A5,m5,d5,rfl,hI5,hA5,hb⟩;have hM:=i9 (h:=fun t=>(dV cap (s-q) (l-1) q z t:Int)) (s:=st) (p:=P) (i:=k*q) (by omega) (fun t u ht _ h=>absurd h (by have:=HBD.out t (by have:=HST.out;omega);unfold aG;omega)) (fun _=>zH (by omega) (by omega) (by omega) (by omega) (by omega) (by omega) (by rw [HK.out];congr 1;omega) (by rw [<- HVV.out,<- HST.out];exact HS2.out)) (by have:=HST.out;rw [this] at hS;simpa using hS);have F:=aA (show dS (nX cap (aB ws cl) (aW zs cl) x z) f er from by
      rw [HQ.out,HLX.out];exact dS.made hM (zI (by omega) (by omega) (by omega) (by omega) (by omega)) (fun t ht=>by have:=HBD.out t (by omega);unfold aG;omega) (fun f _ hat n y hy hc=>by
       rw [hat];refine rJ (by omega) (by omega) (by omega) (by omega) (by omega) hy ?_;unfold AA;rw [show y+(l-1)=y+l-1 by omega];have:0<=(y+l-1) / q:=Int.ediv_nonneg (by omega) (by omega)
       have:=Int.mul_le_mul_of_nonneg_right (show x<=s-q by omega) (show 0<=(y+l-1) / q+1 by omega)
       omega))
     have hw1:=RB.out.lt;replace RB:=aA (RB.out.below hb RB.out.lt);replace EB:=aA (aD EB.out hb);replace R1:=aA (R1.out.below hb R1.out.lt);replace R2:=aA (R2.out.below hb R2.out.lt);replace B4:=aA (B4.out.below hb B4.out.lt);have HI5:=aA hI5;have HA5:=aA hA5;have c1:=R1.out.cell 0;have c2:=R2.out.cell 0;have c4:=B4.out.cell 0;simp at c1 c2 c4;clear hS hI5 hA5 hb hM hH hstN;refine aH hK (by exact⟨c1,c2,c4⟩) (fun hH=>?_);refine aO [11,12] ?_;(iterate 2 refine aK ?_);refine aP ?_;obtain⟨⟨r0,r1,r2⟩,⟨y0,y1,y2⟩,hlr⟩:=RB.out.c3;refine aJ 13 (fun K hK=>?_);go_simp
     have st3:=aR.three (w.heap.size+1) wa (.slice A5 m5 d5) (.int .i64 f.per) (.int .i64 f.inc);refine hK.out _ _ ?_ (fun hHeld2=>?_)
     ·exact⟨(World.cell?_of_block (a:=⟨b1,0,none⟩) (st3.block b1 (HNE.out.1))).trans c1,(World.cell?_of_block (a:=⟨b2,0,none⟩) (st3.block b2 (HNE.out.2.1))).trans c2,(World.cell?_of_block (a:=⟨w.heap.size,0,none⟩) (st3.block w.heap.size (by omega))).trans c4⟩
     clear hK K
     (try simp only [Act.put]);try simp only [dC,dD,dE]
     refine bD 14 ?_;refine aT ?_;clear hH hHeld2;have rb:=RB.out.store3 (.slice A5 m5 d5) (.int .i64 f.per) (.int .i64 f.inc);go_wp2_with fail
     exact bodyPost_ret (v:=.tuple #[.agg #[.slice A5 m5 d5,.int .i64 f.per,.int .i64 f.inc],.int .i64 er]) (by simp [results,Tryz.results209,go_sem,rb.cell]) rfl (fX F.out HA5.out (by omega) (by omega) HI5.out EB.out)
end Go.Proofs.YtaejfleahamapaaGreat
