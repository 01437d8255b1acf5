/- . -/
import Derived.Test.YtaejfleahamapaaGreatTd26
import Derived.Test.YtaejfleahamapaaGreatTd29
namespace Go.Proofs.YtaejfleahamapaaGreat
set_option linter.unusedVariables false
set_option linter.unusedSimpArgs false
set_option maxHeartbeats 4000000
set_option maxRecDepth 100000
open Go.RowKit
theorem tP(c:Int)(w:World)(h1:1<=c)(h2:c<=4000):Calls Tryz.prog 26 #[.int .i64 c] w (lC (aS c) 0 w):=by
 have RB:=aA (aC.new w 26 #[.slice none 0 0,.int .i64 0,.int .i64 0]);have BW:=aA (aF w (.cells #[.slice none 0 0,.int .i64 0,.int .i64 0] 26));have e:j6 c=(aS c,0):=by unfold j6;rw [if_neg (by omega),if_neg (by omega)];rfl
 go_enter Tryz.func26,Tryz.ntmps26
 go_upto_region 1 with fail
 generalize hwe:w.alloc (.cells #[.slice none 0 0,.int .i64 0,.int .i64 0] 26)=w1 at *;clear hwe;have d1:decide (c<1)=false:=by simp;omega
 have d2:decide ((4000:Int)<c)=false:=by simp;omega
 go_wp2_with fail
 refine(a0b c _).mono ?_;rw [e];rintro e w2 ⟨A,n,d,rfl,hI,hA,hb⟩;have hrw:=RB.out.lt;replace RB:=aA (RB.out.below hb RB.out.lt);replace BW:=aA (aD BW.out hb);have HI:=aA hI;have HA:=aA hA;clear hI hA hb;obtain⟨⟨r0,r1,r2⟩,⟨y0,y1,y2⟩,hlr⟩:=RB.out.c3;go_wp2_with fail
 have rb:=RB.out.store3 (.slice A n d) (.int .i64 (aS c).per) (.int .i64 (aS c).inc);refine bodyPost_ret (v:=.tuple #[.agg #[.slice A n d,.int .i64 (aS c).per,.int .i64 (aS c).inc],.int .i64 0]) (by simp [results,Tryz.results26,go_sem,rb.cell]) rfl ?_;exact⟨A,n,d,rfl,HI.out.sto (aR.three w.heap.size w2 _ _ _) (fun b off s e=>by have:=HA.out b off s e;omega),(fun b off s e=>by have:=HA.out b off s e;omega),cO BW.out (Nat.le_refl _) _ _ _⟩
def l7(zs:List SZ)(cl:Nat):Int:=(zs.drop (cl+1)).foldl (fun m x=>max m (x.hi-1)) 0
def i5(cap:Int)(cl:Nat)(fs:List Cv)(zs:List SZ)(r:Cv)(er:Int):Prop:=
 ∃o e,j1 dO (fs.take cl) o e/\((e≠0/\r=Cv.none/\er=e)\/(e=0/\∃o2 e2,jZ o (l7 zs cl) o2 e2/\((e2≠0/\r=Cv.none/\er=e2)\/(e2=0/\lB (aS cap) o2 r er))))
theorem wR:∀(l:List SZ) (m:Int),(∀x∈l,x.hi<=1500)->0<=m->m<=1500->0<=l.foldl (fun m x=>max m (x.hi-1)) m/\l.foldl (fun m x=>max m (x.hi-1)) m<=1500
 | [],m,_,h1,h2=>⟨h1,h2⟩
 | x :: l,m,h,h1,h2=>wR l _ (fun y hy=>h y (List.mem_cons_of_mem _ hy)) (by show 0<=max m (x.hi-1);omega) (by have:=h x (List.mem_cons_self ..);show max m (x.hi-1)<=1500;omega)
theorem cR.take{w:World}{b o:Nat}{xs:List CR}(h:cR w b o xs)(m:Nat):cR w b o (xs.take m):=
 ⟨h.lt,fun k j x hx hj=>by
  rw [List.getElem?_take] at hx;split at hx
  ·exact h.cell k j x hx hj
  ·exact absurd hx (by simp),fun x hx=>h.inn x (List.mem_of_mem_take hx)⟩
theorem a4o{f g r:Cv}{er:Int}(h:mU f g r er):r.vals.length<=400:=by
 rcases h with ⟨_,rfl,_⟩|⟨_,_,a,b,_,_,⟨_,rfl,_⟩|⟨_,g,_,⟨hl,rfl,_⟩|⟨_,rfl,_⟩⟩⟩
 ·decide
 ·decide
 ·exact hl.1
 ·decide
theorem vZ:dO.vals.length<=400:=by decide
theorem uE:∀{fs:List Cv} {s r:Cv} {er:Int},s.vals.length<=400->j1 s fs r er->r.vals.length<=400
 | [],_,_,_,hs,h=>by rw [h.1];exact hs
 | _ :: _,_,_,_,_,⟨t,e,h1,h2⟩=>by
   rcases h2 with ⟨_,h2⟩|⟨_,rfl,_⟩
   ·exact uE (a4o h1) h2
   ·decide
theorem a1x{f r:Cv}{d er:Int}(h:jZ f d r er):r.vals.length<=400:=by
 rcases h with ⟨_,rfl,_⟩|⟨_,_,rfl,_⟩|⟨_,_,_,a,_,⟨_,hl,_⟩|⟨_,rfl,_⟩⟩
 ·decide
 ·decide
 ·exact hl.1
 ·decide
structure mR(w wx:World)(g o:Nat)(xs:List CR)(A:Option Addr)(n c:Nat)(zs:List SZ):Prop where
 row:cR wx g o xs
 sz:jY wx A n c zs
 rb:aC wx w.heap.size 26 #[.slice none 0 0,.int .i64 0,.int .i64 0]
 bw:Below w.heap.size w wx
theorem mR.below{w wx wy:World}{g o n c:Nat}{xs:List CR}{A:Option Addr}{zs:List SZ}(h:mR w wx g o xs A n c zs)(hb:Below wx.heap.size wx wy):mR w wy g o xs A n c zs:=⟨h.row.below hb,h.sz.below hb,h.rb.below hb h.rb.lt,aD h.bw hb⟩
theorem a1h(cap:Int)(cl g o n c q s d:Nat)(xs:List CR)(zs:List SZ)(w:World)(hc1:1<=cap)(hc2:cap<=4000)(hcl:cl<n)(hn:n<=6)(hnc:n<=c)(hnd:n<=d)(hx:xs.length=n)(hrow:cR w g o xs)(hfin:∀x∈xs,x.f.Fin)(hlen:∀x∈xs,x.n<=1000)
 (hz:zs.length=n) (hrz:eM w q s zs) (hg:∀x∈zs,x.Good) :
 Calls Tryz.prog 178 #[.int .i64 cap,.int .i64 cl,.slice (some ⟨g,o,none⟩) n c,.slice (some ⟨q,s,none⟩) n d] w (dI (i5 cap cl (xs.map CR.f) zs) w):=by
 have E:=aA (show mR w (w.alloc (.cells #[.slice none 0 0,.int .i64 0,.int .i64 0] 26)) g o xs (some ⟨q,s,none⟩) n d zs from⟨hrow.below (aF _ _),⟨hz,hnd,by omega,fun _=>⟨q,s,rfl,hrz.below (aF _ _)⟩⟩,aC.new _ _ _,aF _ _⟩);have HG:=aA hg;have HX:=aA hx;have HFI:=aA hfin;have HLE:=aA hlen;have HZ:=aA hz;clear hrow hrz hg hx hfin hlen hz;go_enter Tryz.func178,Tryz.ntmps178
 go_upto_region 1 with fail
 generalize hwe:w.alloc (.cells #[.slice none 0 0,.int .i64 0,.int .i64 0] 26)=w1 at *;clear hwe;go_wp2_with fail
 refine(pA cap cl (some ⟨q,s,none⟩) n d zs _ E.out.sz HG.out hc1 hc2 (by omega) hn (by omega) (by omega)).mono ?_;rintro e w2 ⟨rfl,hb⟩;replace E:=aA (E.out.below hb);clear hb;have d0:((n:Int) != (n:Int))=false:=by simp
 go_wp2_with fail
 go_loopg [35] n (fun gg s35 wx=>∃k:Nat,k+gg=n/\s35 = .int .i64 k/\mR w wx g o xs (some ⟨q,s,none⟩) n d zs)
 case atStart=>exact⟨0,by omega,rfl,E.out⟩
 case round=>
  clear E;obtain⟨k,hkg,rfl,hE⟩:=hrel;have E:=aA hE;clear hE;by_cases hk:k<n
  case pos=>
   have hki:(k:Int)<n:=by omega
   obtain⟨x,hx,hI,x0,x1,x2⟩:=E.out.row.get (k:=k) (by rw [HX.out];exact hk);have hgl:=E.out.row.lt;have hmem:=List.mem_of_getElem? hx;have hok:=(HFI.out x hmem).1;have hxn:=HLE.out x hmem;have HI:=aA (hI.alloc' (.cells #[.slice x.A x.n x.c,.int .i64 x.f.per,.int .i64 x.f.inc] 26));have BX:=aA (aC.new wr 26 #[.slice x.A x.n x.c,.int .i64 x.f.per,.int .i64 x.f.inc]);replace E:=aA (E.out.below (aF wr (.cells #[.slice x.A x.n x.c,.int .i64 x.f.per,.int .i64 x.f.inc] 26)));have OKB:=aA (Cv.okB_true hok);clear hI hmem hok hx;go_upto_region 9 with fail
   clear x0 x1 x2 hgl;generalize hwe:wr.alloc (.cells #[.slice x.A x.n x.c,.int .i64 x.f.per,.int .i64 x.f.inc] 26)=we at *;clear hwe;generalize wr.heap.size=Zx at *;obtain⟨⟨x0,x1,x2⟩,_,hlx⟩:=BX.out.c3;go_wp2_with fail
   refine(mI x.A x.n x.c x.f.per x.f.inc x.f.vals _ (by exact HI.out) (by omega)).mono ?_;rw [OKB.out];rintro e wf ⟨rfl,hb⟩;replace E:=aA (E.out.below hb);clear hb x0 x1 x2 hlx HI BX;go_wp2_with fail
   go_roundg (gk-1)
   case measure=>omega
   case rel=>exact⟨k+1,by omega,by go_num,E.out⟩
  case neg=>
   have hki:¬(k:Int)<n:=by omega
   clear hk hkg;obtain⟨m,hm⟩:∃m:Nat,m=n-(cl+1):=⟨_,rfl⟩
   have e1:IntKind.i64.wrap ((cl:Int)+1)=((cl+1:Nat):Int):=by rw [IntWalk.i64_in _ (by omega)];omega
   go_upto_region 13 with fail
   go_cut [47,48,49] (fun s47 s48 s49 wx=>∃(A':Option Addr) (d':Nat),s47 = .slice A' m d'/\(0<m->A'=some ⟨q,s+(cl+1)*2,none⟩)/\s48 = .int .i64 m/\s49 = .int .i64 0/\wx=wr)
   case first=>
    have HM:=aA hm;clear hm;go_wp2_with fail
    ·subst h;go_meet
     exact⟨_,_,by rw [HM.out],fun hm0=>by(have:=HM.out;omega),by rw [HM.out],rfl,rfl⟩
    ·go_meet
     exact⟨_,_,by rw [HM.out],fun _=>rfl,by rw [HM.out],rfl,rfl⟩
   case rest=>
    obtain⟨A',d',rfl,hA',rfl,rfl,rfl⟩:=hcut;have HA':=aA hA';have HM:=aA hm;have hm6:m<=6:=by omega
    have HDR:=aA (show(zs.drop (cl+1)).length=m by rw [List.length_drop,HZ.out,HM.out]);clear hA' hm e1;go_wp2_with fail
    go_loopg [13,49] m (fun gg s13 s49 wx=>∃k:Nat,k+gg=m/\s49 = .int .i64 k/\s13 = .int .i64 (((zs.drop (cl+1)).take k).foldl (fun m x=>max m (x.hi-1)) 0)/\mR w wx g o xs (some ⟨q,s,none⟩) n d zs)
    case atStart=>exact⟨0,by omega,rfl,rfl,E.out⟩
    case round=>
     clear E;obtain⟨k,hkg,rfl,rfl,hE⟩:=hrel;have E:=aA hE;clear hE;by_cases hk:k<m
     case pos=>
      have hki:(k:Int)<m:=by omega
      obtain⟨q',s',e9,hrz⟩:=E.out.sz.2.2.2 (by omega);cases e9
      obtain⟨x,hx,x0,x1⟩:=(hrz.drop (cl+1)).get (k:=k) (by rw [HDR.out];exact hk);have hql:=hrz.lt;obtain⟨g1,g2,g3⟩:=HG.out x (List.mem_of_mem_drop (List.mem_of_getElem? hx));obtain⟨v,hv⟩:∃v,v=((zs.drop (cl+1)).take k).foldl (fun m x=>max m (x.hi-1)) 0:=⟨_,rfl⟩
      obtain⟨v2,hv2⟩:∃v,v=((zs.drop (cl+1)).take (k+1)).foldl (fun m x=>max m (x.hi-1)) 0:=⟨_,rfl⟩
      have ev:v2=max v (x.hi-1):=by
       rw [hv2,hv,List.take_add_one,hx];simp
      rw [<- hv];have e2:IntKind.i64.wrap (x.hi-1)=x.hi-1:=IntWalk.i64_in _ (by omega);have e3:(if v<x.hi-1 then x.hi-1 else v)=v2:=by rw [ev];split <;> omega
      have HV2:=aA hv2;have hA2:=HA'.out (by omega);subst hA2;clear hrz hx hv hv2 ev;have BX:=aA (aC.new wr 67 #[.int .i64 x.lo,.int .i64 x.hi]);replace E:=aA (E.out.below (aF wr (.cells #[.int .i64 x.lo,.int .i64 x.hi] 67)));go_upto_region 16 with fail
      clear x0 x1 hql;generalize hwe:wr.alloc (.cells #[.int .i64 x.lo,.int .i64 x.hi] 67)=we at *;clear hwe;generalize wr.heap.size=Zx at *;have x1:=BX.out.cell 1;simp at x1;have hlx:=BX.out.lt;go_wp2_with fail
      go_roundg (gk-1)
      case measure=>omega
      case rel=>exact⟨k+1,by omega,by go_num,by rw [HV2.out],E.out⟩
     case neg=>
      have hki:¬(k:Int)<m:=by omega
      have hkm:k=m:=by omega
      obtain⟨v,hv⟩:∃v,v=((zs.drop (cl+1)).take k).foldl (fun m x=>max m (x.hi-1)) 0:=⟨_,rfl⟩
      have HV:=aA (show v=l7 zs cl by rw [hv,hkm,List.take_of_length_le (by rw [HDR.out];exact Nat.le_refl _)];rfl);have hvb:=wR (zs.drop (cl+1)) 0 (fun x hx=>(HG.out x (List.mem_of_mem_drop hx)).2.2) (by omega) (by omega);have hv1:0<=v:=by rw [HV.out];exact hvb.1
      have hv2:v<=1500:=by rw [HV.out];exact hvb.2
      rw [<- hv];clear hv hvb hk hkg hkm;go_wp2_with fail
      refine(zR (some ⟨g,o,none⟩) cl c (xs.take cl) wr (by rw [List.length_take,HX.out];omega) (by omega) (fun _=>⟨g,o,rfl,E.out.row.take cl⟩) (fun x hx=>by have:=HLE.out x (List.mem_of_mem_take hx);omega)).mono ?_;rintro e wa ⟨f1,er1,hS1,A1,m1,d1,rfl,hI1,hA1,hb⟩;rw [List.map_take] at hS1;have T1:=aA hS1;have hm1:m1<=400:=by have h1:=uE vZ hS1;have h2:f1.vals.length=m1:=hI1.1;omega
      have I1:=aA (hI1.alloc' (.cells #[.slice A1 m1 d1,.int .i64 f1.per,.int .i64 f1.inc] 26));have HA1:=aA hA1;have BO:=aA (aC.new wa 26 #[.slice A1 m1 d1,.int .i64 f1.per,.int .i64 f1.inc]);have hwa:=(E.out.rb.below hb E.out.rb.lt).lt;replace E:=aA ((E.out.below hb).below (aF wa (.cells #[.slice A1 m1 d1,.int .i64 f1.per,.int .i64 f1.inc] 26)));clear hS1 hI1 hA1 hb;go_upto_region 19 with fail
      generalize hwe:wa.alloc (.cells #[.slice A1 m1 d1,.int .i64 f1.per,.int .i64 f1.inc] 26)=wb at *;clear hwe;generalize wa.heap.size=Zo at *;by_cases he1:er1=0
      case neg=>
       have c1:(er1 == 0)=false:=by simpa using he1
       have c2:(er1 != 0)=true:=by simpa using he1
       have F:=aA (show i5 cap cl (xs.map CR.f) zs Cv.none er1 from⟨f1,er1,T1.out,.inl ⟨he1,rfl,rfl⟩⟩);clear he1;have RB:=aA E.out.rb;have BW:=aA E.out.bw;obtain⟨⟨r0,r1,r2⟩,⟨y0,y1,y2⟩,hlr⟩:=RB.out.c3;go_wp2_with fail
       have rb:=RB.out.store3 (.slice none 0 0) (.int .i64 0) (.int .i64 0);exact bodyPost_ret (v:=.tuple #[.agg #[.slice none 0 0,.int .i64 0,.int .i64 0],.int .i64 er1]) (by simp [results,Tryz.results178,go_sem,rb.cell]) rfl (kB F.out (cO BW.out (Nat.le_refl _) _ _ _))
      case pos=>
      subst he1;have FO:=aA (rK l8 (fun f hf=>by
       obtain⟨x,hx,rfl⟩:=List.mem_map.1 (List.mem_of_mem_take hf);exact HFI.out x hx) T1.out).1
      obtain⟨⟨o0,o1,o2⟩,⟨p0,p1,p2⟩,hlo⟩:=BO.out.c3;go_wp2_with fail
      refine(a1k A1 m1 d1 f1.per f1.inc v f1.vals wb (by exact I1.out) (by omega)).mono ?_;rintro e wf ⟨f2,er2,hS2,A2,m2,d2,rfl,hI2,hA2,hb⟩;have T2:=aA hS2;have hm2:m2<=400:=by have h1:=a1x hS2;have h2:f2.vals.length=m2:=hI2.1;omega
      replace BO:=aA (BO.out.below hb BO.out.lt);have hzf:=BO.out.lt;have hA2z:=aA (show ∀b off s,A2=some ⟨b,off,s⟩->b≠Zo from fun b off s e=>by have:=hA2 b off s e;omega);have I2:=aA (hI2.sto (aR.three Zo wf (.slice A2 m2 d2) (.int .i64 f2.per) (.int .i64 f2.inc)) hA2z.out);replace E:=aA (E.out.below hb);have B2:=aA (BO.out.store3 (.slice A2 m2 d2) (.int .i64 f2.per) (.int .i64 f2.inc));have ER:=aA (E.out.rb.sto (aR.three Zo wf (.slice A2 m2 d2) (.int .i64 f2.per) (.int .i64 f2.inc)) (by omega));have EB:=aA (cO E.out.bw (show w.heap.size<=Zo by omega) (.slice A2 m2 d2) (.int .i64 f2.per) (.int .i64 f2.inc));clear hS2 hI2 hA2 hb o0 o1 o2 p0 p1 p2 hlo I1 E;obtain⟨⟨o0,o1,o2⟩,⟨p0,p1,p2⟩,hlo⟩:=BO.out.c3;go_upto_region 21 with fail
      clear BO o0 o1 o2 p0 p1 p2 hlo;generalize hws:((wf.setCell ⟨Zo,0,none⟩ (.slice A2 m2 d2)).setCell ⟨Zo,1,none⟩ (.int .i64 f2.per)).setCell ⟨Zo,2,none⟩ (.int .i64 f2.inc)=ws at *;clear hws;by_cases he2:er2=0
      case neg=>
       have c2:(er2 != 0)=true:=by simpa using he2
       have F:=aA (show i5 cap cl (xs.map CR.f) zs Cv.none er2 from⟨f1,0,T1.out,.inr ⟨rfl,f2,er2,by rw [<- HV.out];exact T2.out,.inl ⟨he2,rfl,rfl⟩⟩⟩);clear he2;obtain⟨⟨r0,r1,r2⟩,⟨y0,y1,y2⟩,hlr⟩:=ER.out.c3;go_wp2_with fail
       have rb:=ER.out.store3 (.slice none 0 0) (.int .i64 0) (.int .i64 0);exact bodyPost_ret (v:=.tuple #[.agg #[.slice none 0 0,.int .i64 0,.int .i64 0],.int .i64 er2]) (by simp [results,Tryz.results178,go_sem,rb.cell]) rfl (kB F.out (cO EB.out (Nat.le_refl _) _ _ _))
      case pos=>
      subst he2;have FR:=aA (pC FO.out hv1 (by omega) T2.out).1;go_wp2_with fail
      refine(tP cap ws hc1 hc2).mono ?_;rintro e wg ⟨A3,m3,d3,rfl,hI3,hA3,hb⟩;have hm3:m3<=1:=by have h1:(aS cap).vals.length=m3:=hI3.1;rw [<- h1];exact Nat.le_refl 1
      have I3:=aA (hI3.alloc' (.cells #[.slice A3 m3 d3,.int .i64 (aS cap).per,.int .i64 (aS cap).inc] 26));have B3:=aA (aC.new wg 26 #[.slice A3 m3 d3,.int .i64 (aS cap).per,.int .i64 (aS cap).inc]);have hwg:=(ER.out.below hb ER.out.lt).lt;replace I2:=aA ((I2.out.ext hb).alloc' (.cells #[.slice A3 m3 d3,.int .i64 (aS cap).per,.int .i64 (aS cap).inc] 26));replace B2:=aA ((B2.out.below hb B2.out.lt).alloc (.cells #[.slice A3 m3 d3,.int .i64 (aS cap).per,.int .i64 (aS cap).inc] 26));replace ER:=aA ((ER.out.below hb ER.out.lt).alloc (.cells #[.slice A3 m3 d3,.int .i64 (aS cap).per,.int .i64 (aS cap).inc] 26));replace EB:=aA (aD (aD EB.out hb) (aF wg (.cells #[.slice A3 m3 d3,.int .i64 (aS cap).per,.int .i64 (aS cap).inc] 26)));clear hI3 hA3 hb;go_upto_region 24 with fail
      generalize hwe:wg.alloc (.cells #[.slice A3 m3 d3,.int .i64 (aS cap).per,.int .i64 (aS cap).inc] 26)=wi at *;clear hwe;generalize wg.heap.size=Zl at *;obtain⟨⟨o0,o1,o2⟩,-,hlo⟩:=B2.out.c3;obtain⟨⟨l0,l1,l2⟩,-,hll⟩:=B3.out.c3;go_wp2_with fail
      refine(a2f A3 A2 m3 m2 d3 d2 (aS cap).per (aS cap).inc f2.per f2.inc (aS cap).vals f2.vals wi (by exact I3.out) (by exact I2.out) (by omega) (by omega) (qN (c:=cap) (by omega) (by omega)) FR.out).mono ?_;rintro e wj ⟨f,er,hS,A5,m5,d5,rfl,hI5,hA5,hb⟩;have F:=aA (show i5 cap cl (xs.map CR.f) zs f er from⟨f1,0,T1.out,.inr ⟨rfl,f2,0,by rw [<- HV.out];exact T2.out,.inr ⟨rfl,hS⟩⟩⟩);have hwi:w.heap.size<wi.heap.size:=ER.out.lt;replace ER:=aA (ER.out.below hb ER.out.lt);replace EB:=aA (aD EB.out hb);have HI5:=aA hI5;have HA5:=aA hA5;clear hS hI5 hA5 hb I2 B2 I3 B3 o0 o1 o2 hlo l0 l1 l2 hll;obtain⟨⟨r0,r1,r2⟩,⟨y0,y1,y2⟩,hlr⟩:=ER.out.c3;go_wp2_with fail
      have rb:=ER.out.store3 (.slice A5 m5 d5) (.int .i64 f.per) (.int .i64 f.inc);exact bodyPost_ret (v:=.tuple #[.agg #[.slice A5 m5 d5,.int .i64 f.per,.int .i64 f.inc],.int .i64 er]) (by simp [results,Tryz.results178,go_sem,rb.cell]) rfl (fX F.out HA5.out (Nat.le_refl _) (by omega) HI5.out EB.out)
def iY(w:World)(cs:Array Value):Prop:=∀w',Below w.heap.size w w'->Calls Tryz.prog 75 #[.agg cs] w' fun e w''=>e = .returned (.int .i64 0)/\Below w'.heap.size w' w''
theorem iY.below{w w':World}{cs:Array Value}(h:iY w cs)(hb:Below w.heap.size w w'):iY w' cs:=fun w'' h2=>h w'' (aD hb h2)
structure nR(w wx:World)(cs:Array Value)(g o:Nat)(xs:List CR)(A:Option Addr)(n c:Nat)(zs:List SZ):Prop where
 ln:aC wx w.heap.size 44 cs
 row:cR wx g o xs
 sz:jY wx A n c zs
 ck:iY wx cs
 bw:Below w.heap.size w wx
theorem nR.below{w wx wy:World}{cs:Array Value}{g o n c:Nat}{xs:List CR}{A:Option Addr}{zs:List SZ}(h:nR w wx cs g o xs A n c zs)(hb:Below wx.heap.size wx wy):nR w wy cs g o xs A n c zs:=⟨h.ln.below hb h.ln.lt,h.row.below hb,h.sz.below hb,h.ck.below hb,aD h.bw hb⟩
theorem G0(k cap:Int)(cl g o n c q s d nW cW nS cS:Nat)(AW AS:Option Addr)(xs:List CR)(zs:List SZ)(w:World)(hc1:1<=cap)(hc2:cap<=4000)(hcl:cl<n)(hn:n<=6)(hnc:n<=c)(hnd:n<=d)(hx:xs.length=n)(hrow:cR w g o xs)(hfin:∀x∈xs,x.f.Fin)(hlen:∀x∈xs,x.n<=1000)(hz:zs.length=n)(hrz:eM w q s zs)(hg:∀x∈zs,x.Good)(hck:iY w #[.int .i64 k,.int .i64 cap,.int .i64 n,.slice AW nW cW,.slice AS nS cS]) :
 Calls Tryz.prog 78 #[.agg #[.int .i64 k,.int .i64 cap,.int .i64 n,.slice AW nW cW,.slice AS nS cS],.int .i64 cl,.slice (some ⟨g,o,none⟩) n c,.slice (some ⟨q,s,none⟩) n d] w fun e w'=>e = .returned (.int .i64 0)/\Below w.heap.size w w':=by
 have E:=aA (show nR w (w.alloc (.cells #[.int .i64 k,.int .i64 cap,.int .i64 n,.slice AW nW cW,.slice AS nS cS] 44)) #[.int .i64 k,.int .i64 cap,.int .i64 n,.slice AW nW cW,.slice AS nS cS] g o xs (some ⟨q,s,none⟩) n d zs from⟨aC.new _ _ _,hrow.below (aF _ _),⟨hz,hnd,by omega,fun _=>⟨q,s,rfl,hrz.below (aF _ _)⟩⟩,hck.below (aF _ _),aF _ _⟩);have HG:=aA hg;have HX:=aA hx;have HFI:=aA hfin;have HLE:=aA hlen;clear hrow hrz hg hx hfin hlen hz hck;go_enter Tryz.func78,Tryz.ntmps78
 go_upto_region 1 with fail
 generalize hwe:w.alloc (.cells #[.int .i64 k,.int .i64 cap,.int .i64 n,.slice AW nW cW,.slice AS nS cS] 44)=w1 at *;clear hwe;obtain⟨f0,f1,f2,f3,f4⟩:_/\_/\_/\_/\_:=⟨E.out.ln.cell 0,E.out.ln.cell 1,E.out.ln.cell 2,E.out.ln.cell 3,E.out.ln.cell 4⟩
 simp at f0 f1 f2 f3 f4;have hlf:=E.out.ln.lt;go_wp2_with fail
 refine(E.out.ck w1 (Below.refl _ _)).mono ?_;rintro e w2 ⟨rfl,hb⟩;replace E:=aA (E.out.below hb);clear hb;clear f0 f1 f2 f3 f4 hlf;obtain⟨f0,f1,f2,f3,f4⟩:_/\_/\_/\_/\_:=⟨E.out.ln.cell 0,E.out.ln.cell 1,E.out.ln.cell 2,E.out.ln.cell 3,E.out.ln.cell 4⟩
 simp at f0 f1 f2 f3 f4;have hlf:=E.out.ln.lt;have d0:((n:Int) != (n:Int))=false:=by simp
 have d1:decide ((n:Int)<=(cl:Int))=false:=decide_eq_false (by omega);have d2:decide ((cl:Int)<0)=false:=decide_eq_false (by omega);have d3:decide (n<=cl)=false:=decide_eq_false (by omega);go_wp2_with fail
 refine(pA cap cl (some ⟨q,s,none⟩) n d zs _ E.out.sz HG.out hc1 hc2 (by omega) hn (by omega) (by omega)).mono ?_;rintro e w3 ⟨rfl,hb⟩;replace E:=aA (E.out.below hb);clear hb d0 d1 d2 d3;clear f0 f1 f2 f3 f4 hlf;go_wp2_with fail
 go_loopg [50] n (fun gg s50 wx=>∃k':Nat,k'+gg=n/\s50 = .int .i64 k'/\nR w wx #[.int .i64 k,.int .i64 cap,.int .i64 n,.slice AW nW cW,.slice AS nS cS] g o xs (some ⟨q,s,none⟩) n d zs)
 case atStart=>exact⟨0,by omega,rfl,E.out⟩
 case round=>
  clear E;obtain⟨k',hkg,rfl,hE⟩:=hrel;have E:=aA hE;clear hE;by_cases hk:k'<n
  case pos=>
   have hki:(k':Int)<n:=by omega
   obtain⟨x,hx,hI,x0,x1,x2⟩:=E.out.row.get (k:=k') (by rw [HX.out];exact hk);have hgl:=E.out.row.lt;have hmem:=List.mem_of_getElem? hx;have hok:=(HFI.out x hmem).1;have hxn:=HLE.out x hmem;have HI:=aA (hI.alloc' (.cells #[.slice x.A x.n x.c,.int .i64 x.f.per,.int .i64 x.f.inc] 26));have BX:=aA (aC.new wr 26 #[.slice x.A x.n x.c,.int .i64 x.f.per,.int .i64 x.f.inc]);replace E:=aA (E.out.below (aF wr (.cells #[.slice x.A x.n x.c,.int .i64 x.f.per,.int .i64 x.f.inc] 26)));have OKB:=aA (Cv.okB_true hok);clear hI hmem hok hx;go_upto_region 12 with fail
   clear x0 x1 x2 hgl;generalize hwe:wr.alloc (.cells #[.slice x.A x.n x.c,.int .i64 x.f.per,.int .i64 x.f.inc] 26)=we at *;clear hwe;generalize wr.heap.size=Zx at *;obtain⟨⟨x0,x1,x2⟩,-,hlx⟩:=BX.out.c3;go_wp2_with fail
   refine(mI x.A x.n x.c x.f.per x.f.inc x.f.vals _ (by exact HI.out) (by omega)).mono ?_;rw [OKB.out];rintro e wf ⟨rfl,hb⟩;replace E:=aA (E.out.below hb);clear hb x0 x1 x2 hlx HI BX;go_wp2_with fail
   go_roundg (gk-1)
   case measure=>omega
   case rel=>exact⟨k'+1,by omega,by go_num,E.out⟩
  case neg=>
   have hki:¬(k':Int)<n:=by omega
   go_wp2_with fail
   go_ret
   exact⟨rfl,E.out.bw⟩
theorem yJ(k cap:Int)(cl g o n c q s d:Nat)(AW AS:Option Addr)(nW cW nS cS:Nat)(xs:List CR)(zs:List SZ)(w:World)(hc1:1<=cap)(hc2:cap<=4000)(hcl:cl<n)(hn:n<=6)(hnc:n<=c)(hnd:n<=d)(hx:xs.length=n)(hrow:cR w g o xs)(hfin:∀x∈xs,x.f.Fin)(hlen:∀x∈xs,x.n<=1000)
 (hz:zs.length=n) (hrz:eM w q s zs) (hg:∀x∈zs,x.Good) :
 Calls Tryz.prog 176 #[.agg #[],.agg #[.int .i64 k,.int .i64 cap,.int .i64 n,.slice AW nW cW,.slice AS nS cS],.int .i64 cl,.slice (some ⟨g,o,none⟩) n c,.slice (some ⟨q,s,none⟩) n d] w (dI (i5 cap cl (xs.map CR.f) zs) w):=by
 have b0:=aF w (.cells #[] 163);have b1:=aD b0 (aF _ (.cells #[.int .i64 k,.int .i64 cap,.int .i64 n,.slice AW nW cW,.slice AS nS cS] 44));have L1:=aA ((aC.new (w.alloc (.cells #[] 163)) 44 #[.int .i64 k,.int .i64 cap,.int .i64 n,.slice AW nW cW,.slice AS nS cS]).alloc (.cells #[.slice none 0 0,.int .i64 0,.int .i64 0] 26));have rb:=aC.new ((w.alloc (.cells #[] 163)).alloc (.cells #[.int .i64 k,.int .i64 cap,.int .i64 n,.slice AW nW cW,.slice AS nS cS] 44)) 26 #[.slice none 0 0,.int .i64 0,.int .i64 0];simp only [World.size_alloc] at rb;have ER:=aA rb;have EB:=aA (aD b1 (aF _ (.cells #[.slice none 0 0,.int .i64 0,.int .i64 0] 26)));have HROW:=aA (hrow.below EB.out);have HRZ:=aA (hrz.below EB.out);clear b0 b1 rb hrow hrz;go_enter Tryz.func176,Tryz.ntmps176
 go_upto_region 1 with fail
 generalize hwe:((w.alloc (.cells #[] 163)).alloc (.cells #[.int .i64 k,.int .i64 cap,.int .i64 n,.slice AW nW cW,.slice AS nS cS] 44)).alloc (.cells #[.slice none 0 0,.int .i64 0,.int .i64 0] 26)=w1 at *;clear hwe;have L2:=aA (show aC w1 (w.heap.size+1) 44 #[.int .i64 k,.int .i64 cap,.int .i64 n,.slice AW nW cW,.slice AS nS cS] by have:=L1.out;rw [World.size_alloc] at this;exact this);have f1:=L2.out.cell 1;simp at f1;have hlf:=L2.out.lt;go_wp2_with fail
 refine(a1h cap cl g o n c q s d xs zs w1 hc1 hc2 hcl hn hnc hnd hx HROW.out hfin hlen hz HRZ.out hg).mono ?_;rintro e w2 ⟨f,er,hS,A5,m5,d5,rfl,hI5,hA5,hb⟩;have F:=aA hS;have hw1:=ER.out.lt;replace ER:=aA (ER.out.below hb ER.out.lt);replace EB:=aA (aD EB.out hb);have HI5:=aA hI5;have HA5:=aA hA5;clear hS hI5 hA5 hb L1 L2 f1 hlf HROW HRZ;obtain⟨⟨r0,r1,r2⟩,⟨y0,y1,y2⟩,hlr⟩:=ER.out.c3;go_wp2_with fail
 have rb:=ER.out.store3 (.slice A5 m5 d5) (.int .i64 f.per) (.int .i64 f.inc);exact bodyPost_ret (v:=.tuple #[.agg #[.slice A5 m5 d5,.int .i64 f.per,.int .i64 f.inc],.int .i64 er]) (by simp [results,Tryz.results176,go_sem,rb.cell]) rfl (fX F.out HA5.out (by omega) (by omega) HI5.out EB.out)
def qA(k:Int):Nat:=match k.toNat with
 | 1=>172
 | 2=>176
 | 3=>190
 | 4=>207
 | _=>220
def a24(k:Int):Nat:=match k.toNat with
 | 1=>173
 | 2=>177
 | 3=>191
 | 4=>208
 | _=>221
theorem five{k:Int}(h1:1<=k)(h5:k<=5):k=1\/k=2\/k=3\/k=4\/k=5:=by omega
theorem yU(k cap:Int)(cl g o n c q s d nW cW nS cS:Nat)(AW AS:Option Addr)(xs:List CR)(zs:List SZ)(w:World)(hc1:1<=cap)(hc2:cap<=4000)(hcl:cl<n)(hn:n<=6)(hnc:n<=c)(hnd:n<=d)(hx:xs.length=n)(hrow:cR w g o xs)(hfin:∀x∈xs,x.f.Fin)(hlen:∀x∈xs,x.n<=1000)(hz:zs.length=n)(hrz:eM w q s zs)(hg:∀x∈zs,x.Good)(hck:iY w #[.int .i64 k,.int .i64 cap,.int .i64 n,.slice AW nW cW,.slice AS nS cS])(hk1:1<=k)(hk5:k<=5)(S:Cv->Int->Prop)(hm:∀w',Below w.heap.size w w'->Calls Tryz.prog (qA k) #[.agg #[],.agg #[.int .i64 k,.int .i64 cap,.int .i64 n,.slice AW nW cW,.slice AS nS cS],.int .i64 cl,.slice (some ⟨g,o,none⟩) n c,.slice (some ⟨q,s,none⟩) n d] w' (dI S w')) :
 Calls Tryz.prog 33 #[.agg #[.int .i64 k,.int .i64 cap,.int .i64 n,.slice AW nW cW,.slice AS nS cS],.int .i64 cl,.slice (some ⟨g,o,none⟩) n c,.slice (some ⟨q,s,none⟩) n d] w (dI S w):=by
 have b1:=aD (aF w (.cells #[.int .i64 k,.int .i64 cap,.int .i64 n,.slice AW nW cW,.slice AS nS cS] 44)) (aF _ (.cells #[.slice none 0 0,.int .i64 0,.int .i64 0] 26));have L1:=aA ((aC.new w 44 #[.int .i64 k,.int .i64 cap,.int .i64 n,.slice AW nW cW,.slice AS nS cS]).alloc (.cells #[.slice none 0 0,.int .i64 0,.int .i64 0] 26));have rb:=aC.new (w.alloc (.cells #[.int .i64 k,.int .i64 cap,.int .i64 n,.slice AW nW cW,.slice AS nS cS] 44)) 26 #[.slice none 0 0,.int .i64 0,.int .i64 0];simp only [World.size_alloc] at rb;have ER:=aA rb;have EB:=aA b1;have HROW:=aA (hrow.below EB.out);have HRZ:=aA (hrz.below EB.out);have HCK:=aA (hck.below EB.out);have HM:=aA hm;clear b1 rb hrow hrz hck hm;go_enter Tryz.func33,Tryz.ntmps33
 go_upto_region 1 with fail
 generalize hwe:(w.alloc (.cells #[.int .i64 k,.int .i64 cap,.int .i64 n,.slice AW nW cW,.slice AS nS cS] 44)).alloc (.cells #[.slice none 0 0,.int .i64 0,.int .i64 0] 26)=w1 at *;clear hwe;obtain⟨f0,f1,f2,f3,f4⟩:_/\_/\_/\_/\_:=⟨L1.out.cell 0,L1.out.cell 1,L1.out.cell 2,L1.out.cell 3,L1.out.cell 4⟩
 simp at f0 f1 f2 f3 f4;have hlf:=L1.out.lt;go_wp2_with fail
 refine(G0 k cap cl g o n c q s d nW cW nS cS AW AS xs zs w1 hc1 hc2 hcl hn hnc hnd hx HROW.out hfin hlen hz HRZ.out hg HCK.out).mono ?_;rintro e w2 ⟨rfl,hb⟩;replace L1:=aA (L1.out.below hb L1.out.lt);replace ER:=aA (ER.out.below hb ER.out.lt);replace EB:=aA (aD EB.out hb);replace HROW:=aA (HROW.out.below hb);replace HRZ:=aA (HRZ.out.below hb);try (replace HCK:=aA (HCK.out.below hb));clear hb f0 f1 f2 f3 f4 hlf;obtain⟨f0,f1,f2,f3,f4⟩:_/\_/\_/\_/\_:=⟨L1.out.cell 0,L1.out.cell 1,L1.out.cell 2,L1.out.cell 3,L1.out.cell 4⟩
 simp at f0 f1 f2 f3 f4;have hlf:=L1.out.lt;go_wp2_with fail
 refine(oT k hk1 hk5 _).mono ?_;rintro e w3 ⟨rfl,hb⟩;replace L1:=aA (L1.out.below hb L1.out.lt);replace ER:=aA (ER.out.below hb ER.out.lt);replace EB:=aA (aD EB.out hb);replace HROW:=aA (HROW.out.below hb);replace HRZ:=aA (HRZ.out.below hb);try (replace HCK:=aA (HCK.out.below hb));clear hb f0 f1 f2 f3 f4 hlf;obtain⟨f0,f1,f2,f3,f4⟩:_/\_/\_/\_/\_:=⟨L1.out.cell 0,L1.out.cell 1,L1.out.cell 2,L1.out.cell 3,L1.out.cell 4⟩
 simp at f0 f1 f2 f3 f4;have hlf:=L1.out.lt;have HM3:=aA (HM.out w3 EB.out);have HX:=aA (And.intro hk1 hk5);clear hk1 hk5 HM;rcases five HX.out.1 HX.out.2 with rfl|rfl|rfl|rfl|rfl
 all_goals
  simp only [eU];go_wp2_with fail
  refine HM3.out.mono ?_;rintro e w4 ⟨f,er,hS,A5,m5,d5,rfl,hI5,hA5,hb⟩;have F:=aA hS;have hw1:=ER.out.lt;replace ER:=aA (ER.out.below hb ER.out.lt);replace EB:=aA (aD EB.out hb);have HI5:=aA hI5;have HA5:=aA hA5;clear hS hI5 hA5 hb L1 f0 f1 f2 f3 f4 hlf HROW HRZ HCK HM3;obtain⟨⟨r0,r1,r2⟩,⟨y0,y1,y2⟩,hlr⟩:=ER.out.c3;go_wp2_with fail
  have rb:=ER.out.store3 (.slice A5 m5 d5) (.int .i64 f.per) (.int .i64 f.inc);exact bodyPost_ret (v:=.tuple #[.agg #[.slice A5 m5 d5,.int .i64 f.per,.int .i64 f.inc],.int .i64 er]) (by simp [results,Tryz.results33,go_sem,rb.cell]) rfl (fX F.out HA5.out (by omega) (by omega) HI5.out EB.out)
def mP(S:Cv->Int->Prop)(al:Cv)(i:Bool)(v A er:Int):Prop:=
 ∃f e,S f e/\((e≠0/\i=false/\v=0/\A=0/\er=e)\/(e=0/\jW (dB al f) al f i v A er))
def rU(S:Bool->Int->Int->Int->Prop)(w:World)(e:Ending)(w':World):Prop:=
 ∃i v A er,S i v A er/\e = .returned (.tuple #[.agg #[.bool i,.int .i64 v,.int .i64 A],.int .i64 er])/\Below w.heap.size w w'
theorem a2g{f g r:Cv}{er:Int}(h:lB f g r er):r.vals.length<=400:=by
 obtain⟨a,b,_,_,_,_,⟨_,rfl,_⟩|⟨_,⟨_,rfl,_⟩|⟨_,g,_,⟨hl,rfl,_⟩|⟨_,rfl,_⟩⟩⟩⟩:=h
 ·decide
 ·decide
 ·exact hl.1
 ·decide
theorem a1i{cap:Int}{cl:Nat}{fs:List Cv}{zs:List SZ}{r:Cv}{er:Int}(h:i5 cap cl fs zs r er):r.vals.length<=400:=by
 obtain⟨o,e,_,⟨_,rfl,_⟩|⟨_,o2,e2,_,⟨_,rfl,_⟩|⟨_,h⟩⟩⟩:=h
 ·decide
 ·decide
 ·exact a2g h
theorem a0l(FB:Nat)(al:CR)(k cap:Int)(cl g o n c q s d nW cW nS cS:Nat)(AW AS:Option Addr)(xs:List CR)(zs:List SZ)(w:World)(hc1:1<=cap)(hc2:cap<=4000)(hcl:cl<n)(hn:n<=6)(hnc:n<=c)(hnd:n<=d)(hx:xs.length=n)(hrow:cR w g o xs)(hfin:∀x∈xs,x.f.Fin)(hlen:∀x∈xs,x.n<=1000)(hz:zs.length=n)(hrz:eM w q s zs)(hg:∀x∈zs,x.Good)(hck:iY w #[.int .i64 k,.int .i64 cap,.int .i64 n,.slice AW nW cW,.slice AS nS cS])(hk1:1<=k)(hk5:k<=5)(S:Cv->Int->Prop)(hm:∀w',Below w.heap.size w w'->Calls Tryz.prog (qA k) #[.agg #[],.agg #[.int .i64 k,.int .i64 cap,.int .i64 n,.slice AW nW cW,.slice AS nS cS],.int .i64 cl,.slice (some ⟨g,o,none⟩) n c,.slice (some ⟨q,s,none⟩) n d] w' (dI S w'))(h4:∀f er,S f er->f.vals.length<=400)(hfb:aC w FB 37 #[.func (.func 11) #[] #[]])(hal:xs[cl]?=some al) :
 Calls Tryz.prog 107 #[.agg #[.int .i64 k,.int .i64 cap,.int .i64 n,.slice AW nW cW,.slice AS nS cS],.int .i64 cl,.slice (some ⟨g,o,none⟩) n c,.slice (some ⟨q,s,none⟩) n d,.pointer (some ⟨FB,0,none⟩)] w (rU (mP S al.f) w):=by
 have b1:=aD (aF w (.cells #[.int .i64 k,.int .i64 cap,.int .i64 n,.slice AW nW cW,.slice AS nS cS] 44)) (aF _ (.cells #[.bool false,.int .i64 0,.int .i64 0] 35));have L1:=aA ((aC.new w 44 #[.int .i64 k,.int .i64 cap,.int .i64 n,.slice AW nW cW,.slice AS nS cS]).alloc (.cells #[.bool false,.int .i64 0,.int .i64 0] 35));have rb:=aC.new (w.alloc (.cells #[.int .i64 k,.int .i64 cap,.int .i64 n,.slice AW nW cW,.slice AS nS cS] 44)) 35 #[.bool false,.int .i64 0,.int .i64 0];simp only [World.size_alloc] at rb;have ER:=aA rb;have EB:=aA b1;have HROW:=aA (hrow.below EB.out);have HRZ:=aA (hrz.below EB.out);have HCK:=aA (hck.below EB.out);have HFB:=aA (hfb.below EB.out hfb.lt);have HAL:=aA hal;have hgw:=hrow.lt;have hfw:=hfb.lt;have HM:=aA hm;have H4:=aA h4;clear b1 rb hrow hrz hck hfb hal hm h4;go_enter Tryz.func107,Tryz.ntmps107
 go_upto_region 1 with fail
 generalize hwe:(w.alloc (.cells #[.int .i64 k,.int .i64 cap,.int .i64 n,.slice AW nW cW,.slice AS nS cS] 44)).alloc (.cells #[.bool false,.int .i64 0,.int .i64 0] 35)=w1 at *;clear hwe;obtain⟨f0,f1,f2,f3,f4⟩:_/\_/\_/\_/\_:=⟨L1.out.cell 0,L1.out.cell 1,L1.out.cell 2,L1.out.cell 3,L1.out.cell 4⟩
 simp at f0 f1 f2 f3 f4;have hlf:=L1.out.lt;go_wp2_with fail
 refine(yU k cap cl g o n c q s d nW cW nS cS AW AS xs zs w1 hc1 hc2 hcl hn hnc hnd hx HROW.out hfin hlen hz HRZ.out hg HCK.out hk1 hk5 S (fun w' hb=>HM.out w' (aD EB.out hb))).mono ?_;rintro e w2 ⟨f,er,hS,A5,m5,d5,rfl,hI5,hA5,hb⟩;have F1:=aA hS;have hm5:m5<=400:=by have h1:=H4.out _ _ hS;have h2:f.vals.length=m5:=hI5.1;omega
 have hFB:=aA (HFB.out.below hb HFB.out.lt);have hw1:=(ER.out.below hb ER.out.lt).lt;replace ER:=aA ((ER.out.below hb ER.out.lt).alloc (.cells #[.slice A5 m5 d5,.int .i64 f.per,.int .i64 f.inc] 26));replace EB:=aA (aD (aD EB.out hb) (aF w2 (.cells #[.slice A5 m5 d5,.int .i64 f.per,.int .i64 f.inc] 26)));replace HROW:=aA ((HROW.out.below hb).below (aF w2 (.cells #[.slice A5 m5 d5,.int .i64 f.per,.int .i64 f.inc] 26)));replace HFB:=aA (hFB.out.alloc (.cells #[.slice A5 m5 d5,.int .i64 f.per,.int .i64 f.inc] 26));have HI5:=aA (hI5.alloc' (.cells #[.slice A5 m5 d5,.int .i64 f.per,.int .i64 f.inc] 26));have BF:=aA (aC.new w2 26 #[.slice A5 m5 d5,.int .i64 f.per,.int .i64 f.inc]);clear hS hI5 hA5 hb L1 f0 f1 f2 f3 f4 hlf HRZ HCK hFB;go_upto_region 2 with fail
 generalize hwe:w2.alloc (.cells #[.slice A5 m5 d5,.int .i64 f.per,.int .i64 f.inc] 26)=w3 at *;clear hwe;generalize w2.heap.size=Zf at *;by_cases he:er=0
 case neg=>
  have c2:(er != 0)=true:=by simpa using he
  have F:=aA (show mP S al.f false 0 0 er from⟨f,er,F1.out,.inl ⟨he,rfl,rfl,rfl,rfl⟩⟩);clear he;obtain⟨⟨r0,r1,r2⟩,⟨y0,y1,y2⟩,hlr⟩:=ER.out.c3;go_wp2_with fail
  have rb:=ER.out.store3 (.bool false) (.int .i64 0) (.int .i64 0);exact bodyPost_ret (v:=.tuple #[.agg #[.bool false,.int .i64 0,.int .i64 0],.int .i64 er]) (by simp [results,Tryz.results107,go_sem,rb.cell]) rfl ⟨false,0,0,er,F.out,rfl,cO EB.out (by omega) _ _ _⟩
 case pos=>
 subst he;go_upto_region 4 with fail
 have hcll:cl<xs.length:=by rw [hx];exact hcl
 replace ER:=aA (aC.drew ER.out);replace EB:=aA (Below.drew EB.out);replace HFB:=aA (aC.drew HFB.out);replace BF:=aA (aC.drew BF.out);replace HI5:=aA (show aE w3.drew w3.drew.heap.size A5 m5 f.vals from HI5.out);replace HROW:=aA (show cR w3.drew g o xs from⟨HROW.out.lt,HROW.out.cell,HROW.out.inn⟩);obtain⟨x,hx',hI,x0,x1,x2⟩:=HROW.out.get (k:=cl) hcll;rw [HAL.out] at hx';obtain rfl:=Option.some.inj hx';have hgl:=HROW.out.lt;have b0:w3.drew.cell? ⟨FB,0,none⟩=some (.func (.func 11) #[] #[]):=HFB.out.cell 0;have hbl:=HFB.out.lt;obtain⟨⟨l0,l1,l2⟩,-,hll⟩:=BF.out.c3;have hxn:=hlen al (List.mem_of_getElem? HAL.out);have HI:=aA hI;have hcli:(cl:Int)<n:=by omega
 refine wp_region_held_drew (S:=fun w'=>(w'.cell? ⟨FB,0,none⟩=some (.func (.func 11) #[] #[]))/\(w'.cell? ⟨g,o+cl*3,none⟩=some (.slice al.A al.n al.c)/\w'.cell? ⟨g,o+cl*3+1,none⟩=some (.int .i64 al.f.per)/\w'.cell? ⟨g,o+cl*3+2,none⟩=some (.int .i64 al.f.inc))/\w'.cell? ⟨Zf,0,none⟩=some (.slice A5 m5 d5)/\w'.cell? ⟨Zf,1,none⟩=some (.int .i64 f.per)/\w'.cell? ⟨Zf,2,none⟩=some (.int .i64 f.inc)) (by kernel_rfl) (by exact⟨b0,⟨x0,x1,x2⟩,l0,l1,l2⟩) (fun hH=>?_);have hwd9:w3.drew.heap.size=w3.heap.size:=rfl;generalize hwd:w3.drew=wd at *;clear hwd hI hx';refine aO [0,1,2,3,4,5] ?_;(iterate 6 refine aK ?_);refine aP ?_;refine aJ 6 (fun K hK=>?_);go_simp
 refine(qD al.A A5 al.n m5 al.c d5 al.f.per al.f.inc f.per f.inc al.f.vals f.vals wd (by exact HI.out) (by exact HI5.out) (by omega) (by omega)).mono ?_;rintro e wf ⟨i,v,A,er,hD,rfl,hb⟩;have F:=aA (show mP S al.f i v A er from⟨f,0,F1.out,.inr ⟨rfl,hD⟩⟩);have y0:=(hb.cell (p:=⟨FB,0,none⟩) hbl).trans b0;have z0:=(hb.cell (p:=⟨g,o+cl*3,none⟩) hgl).trans x0;have z1:=(hb.cell (p:=⟨g,o+cl*3+1,none⟩) hgl).trans x1;have z2:=(hb.cell (p:=⟨g,o+cl*3+2,none⟩) hgl).trans x2;have q0:=(hb.cell (p:=⟨Zf,0,none⟩) hll).trans l0;have q1:=(hb.cell (p:=⟨Zf,1,none⟩) hll).trans l1;have q2:=(hb.cell (p:=⟨Zf,2,none⟩) hll).trans l2;replace ER:=aA (ER.out.below hb ER.out.lt);replace EB:=aA (aD EB.out hb);clear hD hH x0 x1 x2 l0 l1 l2 b0 hgl hll hbl hb HFB BF HROW HI HI5;refine aH hK (by exact⟨y0,⟨z0,z1,z2⟩,q0,q1,q2⟩) (fun hH=>?_);clear y0 z0 z1 z2 q0 q1 q2;refine aO [7,8] ?_;(iterate 2 refine aK ?_);refine aP ?_;obtain⟨⟨r0,r1,r2⟩,⟨y0,y1,y2⟩,hlr⟩:=ER.out.c3;refine aJ 9 (fun K hK=>?_);go_simp
 have st:=aR.three (w.heap.size+1) wf (.bool i) (.int .i64 v) (.int .i64 A);refine hK.out _ _ ?_ (fun hHeld2=>?_)
 ·exact⟨(World.cell?_of_block (a:=⟨FB,0,none⟩) (st.block FB (by omega))).trans hH.1,⟨(World.cell?_of_block (a:=⟨g,_,none⟩) (st.block g (by omega))).trans hH.2.1.1,(World.cell?_of_block (a:=⟨g,_,none⟩) (st.block g (by omega))).trans hH.2.1.2.1,(World.cell?_of_block (a:=⟨g,_,none⟩) (st.block g (by omega))).trans hH.2.1.2.2⟩,
   (World.cell?_of_block (a:=⟨Zf,0,none⟩) (st.block Zf (by omega))).trans hH.2.2.1,(World.cell?_of_block (a:=⟨Zf,1,none⟩) (st.block Zf (by omega))).trans hH.2.2.2.1,(World.cell?_of_block (a:=⟨Zf,2,none⟩) (st.block Zf (by omega))).trans hH.2.2.2.2⟩
 clear hK K
 (try simp only [Act.put]);try simp only [dC,dD,dE]
 refine bD 10 ?_;refine aT ?_;clear hH hHeld2;have rb:=ER.out.store3 (.bool i) (.int .i64 v) (.int .i64 A);go_wp2_with fail
 exact bodyPost_ret (v:=.tuple #[.agg #[.bool i,.int .i64 v,.int .i64 A],.int .i64 er]) (by simp [results,Tryz.results107,go_sem,rb.cell]) rfl ⟨i,v,A,er,F.out,rfl,cO EB.out (by omega) _ _ _⟩
theorem a0m(w:World):Calls Tryz.prog 77 #[(.func (.func 11) #[] #[])] w fun e w'=>∃FB,e = .returned (.func (.func 107) #[] #[.pointer (some ⟨FB,0,none⟩)])/\aC w' FB 37 #[(.func (.func 11) #[] #[])]/\w.heap.size<=FB/\Below w.heap.size w w':=by
 have B:=aA (aC.new w 37 #[(.func (.func 11) #[] #[])]);have BW:=aA (aF w (.cells #[(.func (.func 11) #[] #[])] 37));go_enter Tryz.func77,Tryz.ntmps77
 go_wp2_with fail
 go_ret
 exact⟨_,rfl,B.out,Nat.le_refl _,BW.out⟩
theorem a3j(al:CR)(k cap:Int)(cl g o n c q s d nW cW nS cS:Nat)(AW AS:Option Addr)(xs:List CR)(zs:List SZ)(w:World)(hc1:1<=cap)(hc2:cap<=4000)(hcl:cl<n)(hn:n<=6)(hnc:n<=c)(hnd:n<=d)(hx:xs.length=n)(hrow:cR w g o xs)(hfin:∀x∈xs,x.f.Fin)(hlen:∀x∈xs,x.n<=1000)(hz:zs.length=n)(hrz:eM w q s zs)(hg:∀x∈zs,x.Good)(hck:iY w #[.int .i64 k,.int .i64 cap,.int .i64 n,.slice AW nW cW,.slice AS nS cS])(hk1:1<=k)(hk5:k<=5)(S:Cv->Int->Prop)(hm:∀w',Below w.heap.size w w'->Calls Tryz.prog (qA k) #[.agg #[],.agg #[.int .i64 k,.int .i64 cap,.int .i64 n,.slice AW nW cW,.slice AS nS cS],.int .i64 cl,.slice (some ⟨g,o,none⟩) n c,.slice (some ⟨q,s,none⟩) n d] w' (dI S w'))(h4:∀f er,S f er->f.vals.length<=400)(hne:k≠1)(hal:xs[cl]?=some al) :
 Calls Tryz.prog 24 #[.agg #[.int .i64 k,.int .i64 cap,.int .i64 n,.slice AW nW cW,.slice AS nS cS],.int .i64 cl,.slice (some ⟨g,o,none⟩) n c,.slice (some ⟨q,s,none⟩) n d] w (rU (mP S al.f) w):=by
 have b1:=aD (aF w (.cells #[.int .i64 k,.int .i64 cap,.int .i64 n,.slice AW nW cW,.slice AS nS cS] 44)) (aF _ (.cells #[.bool false,.int .i64 0,.int .i64 0] 35));have L1:=aA ((aC.new w 44 #[.int .i64 k,.int .i64 cap,.int .i64 n,.slice AW nW cW,.slice AS nS cS]).alloc (.cells #[.bool false,.int .i64 0,.int .i64 0] 35));have rb:=aC.new (w.alloc (.cells #[.int .i64 k,.int .i64 cap,.int .i64 n,.slice AW nW cW,.slice AS nS cS] 44)) 35 #[.bool false,.int .i64 0,.int .i64 0];simp only [World.size_alloc] at rb;have ER:=aA rb;have EB:=aA b1;have HROW:=aA (hrow.below EB.out);have HRZ:=aA (hrz.below EB.out);have HCK:=aA (hck.below EB.out);have HM:=aA hm;have H4:=aA h4;have dk:(k != 1)=true:=by simpa using hne
 clear b1 rb hrow hrz hck hm h4 hne;go_enter Tryz.func24,Tryz.ntmps24
 go_upto_region 1 with fail
 generalize hwe:(w.alloc (.cells #[.int .i64 k,.int .i64 cap,.int .i64 n,.slice AW nW cW,.slice AS nS cS] 44)).alloc (.cells #[.bool false,.int .i64 0,.int .i64 0] 35)=w1 at *;clear hwe;obtain⟨f0,f1,f2,f3,f4⟩:_/\_/\_/\_/\_:=⟨L1.out.cell 0,L1.out.cell 1,L1.out.cell 2,L1.out.cell 3,L1.out.cell 4⟩
 simp at f0 f1 f2 f3 f4;have hlf:=L1.out.lt;go_upto_region 2 with fail
 replace ER:=aA (aC.drew ER.out);replace EB:=aA (Below.drew EB.out);replace L1:=aA (aC.drew L1.out);replace HROW:=aA (show cR w1.drew g o xs from⟨HROW.out.lt,HROW.out.cell,HROW.out.inn⟩);replace HRZ:=aA (show eM w1.drew q s zs from⟨HRZ.out.lt,HRZ.out.cell⟩);replace HCK:=aA (show iY w1.drew #[.int .i64 k,.int .i64 cap,.int .i64 n,.slice AW nW cW,.slice AS nS cS] from fun w' h=>HCK.out w' (lH h));refine wp_region_held_drew (S:=fun w'=>w'.cell? ⟨w.heap.size,0,none⟩=some (.int .i64 k)/\w'.cell? ⟨w.heap.size,1,none⟩=some (.int .i64 cap)/\w'.cell? ⟨w.heap.size,2,none⟩=some (.int .i64 n)/\w'.cell? ⟨w.heap.size,3,none⟩=some (.slice AW nW cW)/\w'.cell? ⟨w.heap.size,4,none⟩=some (.slice AS nS cS)) (by kernel_rfl) (by exact⟨f0,f1,f2,f3,f4⟩) (fun hH=>?_);clear f0 f1 f2 f3 f4 hlf;generalize hwd:w1.drew=wd at *;clear hwd;obtain⟨f0,f1,f2,f3,f4⟩:_/\_/\_/\_/\_:=⟨L1.out.cell 0,L1.out.cell 1,L1.out.cell 2,L1.out.cell 3,L1.out.cell 4⟩
 simp at f0 f1 f2 f3 f4;have hlf:=L1.out.lt;refine aO [1,2,3,4] ?_;(iterate 4 refine aK ?_);refine aP ?_;refine aJ 0 (fun K hK=>?_);go_simp
 refine(a0m wd).mono ?_;rintro e we ⟨FB,rfl,hfb,hFB0,hb⟩;have HFB:=aA hfb;clear hfb hH;replace L1:=aA (L1.out.below hb L1.out.lt);replace ER:=aA (ER.out.below hb ER.out.lt);replace EB:=aA (aD EB.out hb);replace HROW:=aA (HROW.out.below hb);replace HRZ:=aA (HRZ.out.below hb);try (replace HCK:=aA (HCK.out.below hb));clear hb f0 f1 f2 f3 f4 hlf;obtain⟨f0,f1,f2,f3,f4⟩:_/\_/\_/\_/\_:=⟨L1.out.cell 0,L1.out.cell 1,L1.out.cell 2,L1.out.cell 3,L1.out.cell 4⟩
 simp at f0 f1 f2 f3 f4;have hlf:=L1.out.lt;refine aH hK (by exact⟨f0,f1,f2,f3,f4⟩) (fun hH=>?_);refine aJ 5 (fun K hK=>?_);go_simp
 refine(a0l FB al k cap cl g o n c q s d nW cW nS cS AW AS xs zs we hc1 hc2 hcl hn hnc hnd hx HROW.out hfin hlen hz HRZ.out hg HCK.out hk1 hk5 S (fun w' hb=>HM.out w' (aD (show Below w.heap.size w we from EB.out) hb)) H4.out HFB.out hal).mono ?_;rintro e wf ⟨i,v,A,er,hS,rfl,hb⟩;have F:=aA hS;clear hS hH;replace L1:=aA (L1.out.below hb L1.out.lt);replace ER:=aA (ER.out.below hb ER.out.lt);replace EB:=aA (aD EB.out hb);replace HROW:=aA (HROW.out.below hb);replace HRZ:=aA (HRZ.out.below hb);try (replace HCK:=aA (HCK.out.below hb));clear hb f0 f1 f2 f3 f4 hlf;obtain⟨f0,f1,f2,f3,f4⟩:_/\_/\_/\_/\_:=⟨L1.out.cell 0,L1.out.cell 1,L1.out.cell 2,L1.out.cell 3,L1.out.cell 4⟩
 simp at f0 f1 f2 f3 f4;have hlf:=L1.out.lt;refine aH hK (by exact⟨f0,f1,f2,f3,f4⟩) (fun hH=>?_);refine aO [6,7] ?_;(iterate 2 refine aK ?_);refine aP ?_;obtain⟨⟨r0,r1,r2⟩,⟨y0,y1,y2⟩,hlr⟩:=ER.out.c3;refine aJ 8 (fun K hK=>?_);go_simp
 have st:=aR.three (w.heap.size+1) wf (.bool i) (.int .i64 v) (.int .i64 A);refine hK.out _ _ ?_ (fun hHeld2=>?_)
 ·exact⟨(World.cell?_of_block (a:=⟨w.heap.size,0,none⟩) (st.block w.heap.size (by omega))).trans f0,(World.cell?_of_block (a:=⟨w.heap.size,1,none⟩) (st.block w.heap.size (by omega))).trans f1,(World.cell?_of_block (a:=⟨w.heap.size,2,none⟩) (st.block w.heap.size (by omega))).trans f2,(World.cell?_of_block (a:=⟨w.heap.size,3,none⟩) (st.block w.heap.size (by omega))).trans f3,(World.cell?_of_block (a:=⟨w.heap.size,4,none⟩) (st.block w.heap.size (by omega))).trans f4⟩
 clear hK K
 (try simp only [Act.put]);try simp only [dC,dD,dE]
 refine bD 9 ?_;refine aT ?_;clear hH hHeld2;have rb:=ER.out.store3 (.bool i) (.int .i64 v) (.int .i64 A);go_wp2_with fail
 exact bodyPost_ret (v:=.tuple #[.agg #[.bool i,.int .i64 v,.int .i64 A],.int .i64 er]) (by simp [results,Tryz.results24,go_sem,rb.cell]) rfl ⟨i,v,A,er,F.out,rfl,cO EB.out (by omega) _ _ _⟩
def nQ(cap:Int)(fs:List Cv)(i:Bool)(v A er:Int):Prop:=
 ∃o e,j1 dO fs o e/\((e≠0/\i=false/\v=0/\A=0/\er=e)\/(e=0/\jW (dB o (aS cap)) o (aS cap) i v A er))
theorem a3h(k cap:Int)(g o n c nW cW nS cS:Nat)(AW AS:Option Addr)(xs:List CR)(w:World)(hc1:1<=cap)(hc2:cap<=4000)(hn:n<=6)(hn1:1<=n)(hx:xs.length=n)(hrow:cR w g o xs)(hlen:∀x∈xs,x.n<=1000) :
 Calls Tryz.prog 79 #[.agg #[.int .i64 k,.int .i64 cap,.int .i64 n,.slice AW nW cW,.slice AS nS cS],.slice (some ⟨g,o,none⟩) n c] w (rU (nQ cap (xs.map CR.f)) w):=by
 have b1:=aD (aF w (.cells #[.int .i64 k,.int .i64 cap,.int .i64 n,.slice AW nW cW,.slice AS nS cS] 44)) (aF _ (.cells #[.bool false,.int .i64 0,.int .i64 0] 35));have L1:=aA ((aC.new w 44 #[.int .i64 k,.int .i64 cap,.int .i64 n,.slice AW nW cW,.slice AS nS cS]).alloc (.cells #[.bool false,.int .i64 0,.int .i64 0] 35));have rb:=aC.new (w.alloc (.cells #[.int .i64 k,.int .i64 cap,.int .i64 n,.slice AW nW cW,.slice AS nS cS] 44)) 35 #[.bool false,.int .i64 0,.int .i64 0];simp only [World.size_alloc] at rb;have ER:=aA rb;have EB:=aA b1;have HROW:=aA (hrow.below EB.out);have HLE:=aA hlen;clear b1 rb hrow hlen;go_enter Tryz.func79,Tryz.ntmps79
 go_upto_region 1 with fail
 generalize hwe:(w.alloc (.cells #[.int .i64 k,.int .i64 cap,.int .i64 n,.slice AW nW cW,.slice AS nS cS] 44)).alloc (.cells #[.bool false,.int .i64 0,.int .i64 0] 35)=w1 at *;clear hwe;go_wp2_with fail
 refine(zR (some ⟨g,o,none⟩) n c xs w1 hx (by omega) (fun _=>⟨g,o,rfl,HROW.out⟩) (fun x hx=>by have:=HLE.out x hx;omega)).mono ?_;rintro e w2 ⟨f,er,hS,A5,m5,d5,rfl,hI5,hA5,hb⟩;have T1:=aA hS;have hm1:m5<=400:=by have h1:=uE vZ hS;have h2:f.vals.length=m5:=hI5.1;omega
 have hbb:=aD hb (aF w2 (.cells #[.slice A5 m5 d5,.int .i64 f.per,.int .i64 f.inc] 26));have I1:=aA (hI5.alloc' (.cells #[.slice A5 m5 d5,.int .i64 f.per,.int .i64 f.inc] 26));have BO:=aA (aC.new w2 26 #[.slice A5 m5 d5,.int .i64 f.per,.int .i64 f.inc]);have hwa:=(ER.out.below hb ER.out.lt).lt;replace L1:=aA (L1.out.below hbb L1.out.lt);replace ER:=aA (ER.out.below hbb ER.out.lt);replace EB:=aA (aD EB.out hbb);clear hS hI5 hA5 hb hbb HROW HLE;go_upto_region 2 with fail
 generalize hwe:w2.alloc (.cells #[.slice A5 m5 d5,.int .i64 f.per,.int .i64 f.inc] 26)=w3 at *;clear hwe;generalize w2.heap.size=Zo at *;by_cases he:er=0
 case neg=>
  have c2:(er != 0)=true:=by simpa using he
  have F:=aA (show nQ cap (xs.map CR.f) false 0 0 er from⟨f,er,T1.out,.inl ⟨he,rfl,rfl,rfl,rfl⟩⟩);clear he;obtain⟨⟨r0,r1,r2⟩,⟨y0,y1,y2⟩,hlr⟩:=ER.out.c3;go_wp2_with fail
  have rb:=ER.out.store3 (.bool false) (.int .i64 0) (.int .i64 0);exact bodyPost_ret (v:=.tuple #[.agg #[.bool false,.int .i64 0,.int .i64 0],.int .i64 er]) (by simp [results,Tryz.results79,go_sem,rb.cell]) rfl ⟨false,0,0,er,F.out,rfl,cO EB.out (by omega) _ _ _⟩
 case pos=>
 subst he;have f1:=L1.out.cell 1;simp at f1;have hlf:=L1.out.lt;go_wp2_with fail
 refine(tP cap w3 hc1 hc2).mono ?_;rintro e w4 ⟨A6,m6,d6,rfl,hI6,hA6,hb⟩;have hm6:m6<=400:=by
  have h2:(aS cap).vals.length=m6:=hI6.1;have h3:(aS cap).vals.length<=400:=by simp [aS]
  omega
 replace BO:=aA ((BO.out.below hb BO.out.lt).alloc (.cells #[.slice A6 m6 d6,.int .i64 (aS cap).per,.int .i64 (aS cap).inc] 26));have hbb:=aD hb (aF w4 (.cells #[.slice A6 m6 d6,.int .i64 (aS cap).per,.int .i64 (aS cap).inc] 26));replace I1:=aA (I1.out.ext hbb);have I6:=aA (hI6.alloc' (.cells #[.slice A6 m6 d6,.int .i64 (aS cap).per,.int .i64 (aS cap).inc] 26));have B6:=aA (aC.new w4 26 #[.slice A6 m6 d6,.int .i64 (aS cap).per,.int .i64 (aS cap).inc]);replace ER:=aA (ER.out.below hbb ER.out.lt);replace EB:=aA (aD EB.out hbb);clear hI6 hA6 hb hbb L1 f1 hlf;generalize hlc:aS cap=lc at *;have HLC:=aA hlc;clear hlc;go_upto_region 5 with fail
 generalize hwe:w4.alloc (.cells #[.slice A6 m6 d6,.int .i64 lc.per,.int .i64 lc.inc] 26)=w5 at *;clear hwe;generalize w4.heap.size=Zp at *;obtain⟨⟨o0,o1,o2⟩,-,hlo⟩:=BO.out.c3;obtain⟨⟨q0,q1,q2⟩,-,hlq⟩:=B6.out.c3;obtain⟨⟨r0,r1,r2⟩,⟨y0,y1,y2⟩,hlr⟩:=ER.out.c3;go_wp2_with fail
 refine(qD A5 A6 m5 m6 d5 d6 f.per f.inc lc.per lc.inc f.vals lc.vals w5 (by exact I1.out) (by exact I6.out) (by omega) (by omega)).mono ?_;rintro e wf ⟨i,v,A,er,hD,rfl,hb⟩;have F:=aA (show nQ cap (xs.map CR.f) i v A er from⟨f,0,T1.out,.inr ⟨rfl,by rw [HLC.out];exact hD⟩⟩);replace ER:=aA (ER.out.below hb ER.out.lt);replace EB:=aA (aD EB.out hb);clear hD hb y0 y1 y2 r0 r1 r2 hlr q0 q1 q2 hlq o0 o1 o2 hlo;obtain⟨⟨r0,r1,r2⟩,⟨y0,y1,y2⟩,hlr⟩:=ER.out.c3;go_wp2_with fail
 have rb:=ER.out.store3 (.bool i) (.int .i64 v) (.int .i64 A);exact bodyPost_ret (v:=.tuple #[.agg #[.bool i,.int .i64 v,.int .i64 A],.int .i64 er]) (by simp [results,Tryz.results79,go_sem,rb.cell]) rfl ⟨i,v,A,er,F.out,rfl,cO EB.out (by omega) _ _ _⟩
structure cJ(w:World)(B:Nat)(k cap:Int)(AW AS:Option Addr)(nW cW nS cS:Nat)(ws tb:List Int):Prop where
 k1:1<=k/\k<=5
 c1:10<=cap/\cap<=50
 h12:k=1\/k=2->nW=0/\nS=0
 h3:k=3->nW=2/\cW=2/\nS=0/\(∃a b,ws = [a,b]/\1<=a/\a<=3/\1<=b/\b<=2)/\∃g,AW=some ⟨g,0,none⟩/\B<=g/\aN w g ws
 h4:k=4->nW=2/\cW=2/\nS=0/\(∃a b,ws = [a,b]/\20<=a/\a<=40/\20<=b/\b<=40)/\∃g,AW=some ⟨g,0,none⟩/\B<=g/\aN w g ws
 h5:k=5->nW=0/\nS=4/\cS=4/\(∃q,tb = [0,0,1,q]/\0<=q/\q<2)/\∃g,AS=some ⟨g,0,none⟩/\B<=g/\aN w g tb
section
variable{w w':World}{B:Nat}{k cap:Int}{AW AS:Option Addr}{nW cW nS cS:Nat}{ws tb:List Int}
theorem cJ.kx{X:Nat->Prop}(h:cJ w B k cap AW AS nW cW nS cS ws tb)(x:KX X w w')(hx:∀j,B<=j->¬X j):cJ w' B k cap AW AS nW cW nS cS ws tb:=by
 have q:∀g zs,B<=g->aN w g zs->aN w' g zs:=fun g zs hg hi=>(x.block g hi.lt (hx g hg)).trans hi
 refine⟨h.k1,h.c1,h.h12,fun e=>?_,fun e=>?_,fun e=>?_⟩
 ·obtain⟨a,b,c,d,g,e1,e2,e3⟩:=h.h3 e;exact⟨a,b,c,d,g,e1,e2,q _ _ e2 e3⟩
 ·obtain⟨a,b,c,d,g,e1,e2,e3⟩:=h.h4 e;exact⟨a,b,c,d,g,e1,e2,q _ _ e2 e3⟩
 ·obtain⟨a,b,c,d,g,e1,e2,e3⟩:=h.h5 e;exact⟨a,b,c,d,g,e1,e2,q _ _ e2 e3⟩
theorem cJ.below(h:cJ w B k cap AW AS nW cW nS cS ws tb)(hb:Below w.heap.size w w'):cJ w' B k cap AW AS nW cW nS cS ws tb:=h.kx (KX.of hb) (fun _ _ h=>h)
end
structure iL(w wr:World)(p r:Nat)(cs:Array Value):Prop where
 s:bQ wr p
 k:bI w.heap.size p w wr
 b:aC wr r 44 cs
 hp:p<w.heap.size
 hr:w.heap.size<=r
section
variable{w wr wx:World}{p r:Nat}{cs:Array Value}
theorem iL.next(h:iL w wr p r cs)(hs:bQ wx p)(hk:bI wr.heap.size p wr wx):iL w wx p r cs:=⟨hs,lL h.k hk,h.b.kept (by have:=h.hp;have:=h.hr;omega) hk,h.hp,h.hr⟩
theorem iL.alloc(h:iL w wr p r cs)(o:Obj):iL w (wr.alloc o) p r cs:=h.next (h.s.alloc o) (bI.of (aF wr o))
end
theorem aC.sto5L{w:World}{g:Nat}{t:TypeId}{x0 x1 x2 x3 x4:Value}(h:aC w g t #[x0,x1,x2,x3,x4])(a b c d e:Value) :
 aC (((((w.setCell ⟨g,0,none⟩ a).setCell ⟨g,1,none⟩ b).setCell ⟨g,2,none⟩ c).setCell ⟨g,3,none⟩ d).setCell ⟨g,4,none⟩ e) g t #[a,b,c,d,e]:=by
 have:=((((h.set_ 0 a).set_ 1 b).set_ 2 c).set_ 3 d).set_ 4 e
 simpa using this
theorem aR.fiveL(g:Nat)(w:World)(a b c d e:Value):aR g w (((((w.setCell ⟨g,0,none⟩ a).setCell ⟨g,1,none⟩ b).setCell ⟨g,2,none⟩ c).setCell ⟨g,3,none⟩ d).setCell ⟨g,4,none⟩ e):=(((((aR.refl g w).set 0 a).set 1 b).set 2 c).set 3 d).set 4 e
theorem iL.put{w wr wx:World}{p r:Nat}{cs ds:Array Value}(h:iL w wr p r cs)(s:aR r wr wx)(hb:aC wx r 44 ds):iL w wx p r ds:=
 ⟨h.s.kx (KX.sto s) (fun j hj e=>by have:=h.hp;have:=h.hr;omega),h.k.kx (KX.sto s) (Nat.le_refl _) (fun j hj e=>by have:=h.hr;omega),hb,h.hp,h.hr⟩
theorem iL.kxn{w wr wx:World}{p r q:Nat}{cs:Array Value}(h:iL w wr p r cs)(k:KX (fun k=>k=q) wr wx)(hq:r<q):iL w wx p r cs:=
 ⟨h.s.kx k (fun j hj e=>by have:=h.hp;have:=h.hr;omega),h.k.kx k (Nat.le_refl _) (fun j hj e=>by have:=h.hr;omega),(k.block r h.b.lt (by omega)).trans h.b,h.hp,h.hr⟩
def C4(p:Nat)(w:World)(e:Ending)(w':World):Prop:=
 ∃k cap AW AS nW cW nS cS ws tb,cJ w' w.heap.size k cap AW AS nW cW nS cS ws tb/\e = .returned (.agg #[.int .i64 k,.int .i64 cap,.int .i64 2,.slice AW nW cW,.slice AS nS cS])/\bQ w' p/\bI w.heap.size p w w'
theorem F4(p:Nat)(w:World)(hS:bQ w p) :
 Calls Tryz.prog 15 #[.pointer (some ⟨p,0,none⟩)] w (C4 p w):=by
 have E:=aA (show iL w (w.alloc (.cells #[.int .i64 0,.int .i64 0,.int .i64 0,.slice none 0 0,.slice none 0 0] 44)) p w.heap.size #[.int .i64 0,.int .i64 0,.int .i64 0,.slice none 0 0,.slice none 0 0] from⟨hS.alloc _,bI.of (aF w _),aC.new w _ _,hS.lt,Nat.le_refl _⟩);clear hS;go_enter Tryz.func15,Tryz.ntmps15
 go_upto_region 1 with fail
 generalize hwe:w.alloc (.cells #[.int .i64 0,.int .i64 0,.int .i64 0,.slice none 0 0,.slice none 0 0] 44)=w1 at *;clear hwe;go_wp2_with fail
 refine(j7 p 5 w1 E.out.s (by omega) (by omega)).mono ?_;rintro e w2 ⟨k0,hk0,hk1,rfl,hS1,hk⟩;replace E:=aA (E.out.next hS1 hk);clear hS1 hk;go_wp2_with fail
 refine(xZ p 4 [10,20,30,50] w2 E.out.s (by omega) (by omega) rfl).mono ?_;rintro e w3 ⟨cap,hc,rfl,hS1,hk⟩;replace E:=aA (E.out.next hS1 hk);have hc1:10<=cap/\cap<=50:=by
  simp only [List.mem_cons,List.not_mem_nil,or_false] at hc;omega
 clear hS1 hk hc;have hpl:=E.out.hp;have hw3:w.heap.size<w3.heap.size:=E.out.b.lt;have HL:=aA (hw3);rcases (show k0=0\/k0=1\/k0=2\/k0=3\/k0=4 by omega) with rfl|rfl|rfl|rfl|rfl
 ·go_upto_region 2 with fail
  have B3:=aA (aC.new w3 44 #[.int .i64 1,.int .i64 cap,.int .i64 2,.slice none 0 0,.slice none 0 0]);replace E:=aA (E.out.alloc (.cells #[.int .i64 1,.int .i64 cap,.int .i64 2,.slice none 0 0,.slice none 0 0] 44));generalize hwe:w3.alloc (.cells #[.int .i64 _,.int .i64 cap,.int .i64 2,.slice none 0 0,.slice none 0 0] 44)=w4 at *;clear hwe;generalize w3.heap.size=r at *;obtain⟨f0,hlf⟩:_/\_:=⟨B3.out.cell 0,B3.out.lt⟩
  simp at f0;go_upto_region 9 with fail
  clear f0 hlf;obtain⟨f0,f1,f2,f3,f4⟩:_/\_/\_/\_/\_:=⟨B3.out.cell 0,B3.out.cell 1,B3.out.cell 2,B3.out.cell 3,B3.out.cell 4⟩
  simp at f0 f1 f2 f3 f4;have hlf:=B3.out.lt;obtain⟨r0,r1,r2,r3,r4⟩:_/\_/\_/\_/\_:=⟨E.out.b.cell 0,E.out.b.cell 1,E.out.b.cell 2,E.out.b.cell 3,E.out.b.cell 4⟩
  simp at r0 r1 r2 r3 r4;have z0:=E.out.b.frozen 0;have z1:=E.out.b.frozen 1;have z2:=E.out.b.frozen 2;have z3:=E.out.b.frozen 3;have z4:=E.out.b.frozen 4;have hlr:=E.out.b.lt;go_wp2_with fail
  have rb:=E.out.b.sto5L (.int .i64 1) (.int .i64 cap) (.int .i64 2) (.slice none 0 0) (.slice none 0 0);have ee:=E.out.put (aR.fiveL _ _ (.int .i64 1) (.int .i64 cap) (.int .i64 2) (.slice none 0 0) (.slice none 0 0)) rb;have hs:=ee.s;have hk9:=ee.k;exact bodyPost_ret (v:=.agg #[.int .i64 1,.int .i64 cap,.int .i64 2,.slice none 0 0,.slice none 0 0]) (by simp [results,Tryz.results15,go_sem,rb.cell]) rfl ⟨1,cap,none,none,0,0,0,0,[],[],⟨by omega,hc1,fun _=>⟨rfl,rfl⟩,fun e=>by omega,fun e=>by omega,fun e=>by omega⟩,rfl,hs,hk9⟩
 ·go_upto_region 2 with fail
  have B3:=aA (aC.new w3 44 #[.int .i64 2,.int .i64 cap,.int .i64 2,.slice none 0 0,.slice none 0 0]);replace E:=aA (E.out.alloc (.cells #[.int .i64 2,.int .i64 cap,.int .i64 2,.slice none 0 0,.slice none 0 0] 44));generalize hwe:w3.alloc (.cells #[.int .i64 _,.int .i64 cap,.int .i64 2,.slice none 0 0,.slice none 0 0] 44)=w4 at *;clear hwe;generalize w3.heap.size=r at *;obtain⟨f0,hlf⟩:_/\_:=⟨B3.out.cell 0,B3.out.lt⟩
  simp at f0;go_upto_region 9 with fail
  clear f0 hlf;obtain⟨f0,f1,f2,f3,f4⟩:_/\_/\_/\_/\_:=⟨B3.out.cell 0,B3.out.cell 1,B3.out.cell 2,B3.out.cell 3,B3.out.cell 4⟩
  simp at f0 f1 f2 f3 f4;have hlf:=B3.out.lt;obtain⟨r0,r1,r2,r3,r4⟩:_/\_/\_/\_/\_:=⟨E.out.b.cell 0,E.out.b.cell 1,E.out.b.cell 2,E.out.b.cell 3,E.out.b.cell 4⟩
  simp at r0 r1 r2 r3 r4;have z0:=E.out.b.frozen 0;have z1:=E.out.b.frozen 1;have z2:=E.out.b.frozen 2;have z3:=E.out.b.frozen 3;have z4:=E.out.b.frozen 4;have hlr:=E.out.b.lt;go_wp2_with fail
  have rb:=E.out.b.sto5L (.int .i64 2) (.int .i64 cap) (.int .i64 2) (.slice none 0 0) (.slice none 0 0);have ee:=E.out.put (aR.fiveL _ _ (.int .i64 2) (.int .i64 cap) (.int .i64 2) (.slice none 0 0) (.slice none 0 0)) rb;have hs:=ee.s;have hk9:=ee.k;exact bodyPost_ret (v:=.agg #[.int .i64 2,.int .i64 cap,.int .i64 2,.slice none 0 0,.slice none 0 0]) (by simp [results,Tryz.results15,go_sem,rb.cell]) rfl ⟨2,cap,none,none,0,0,0,0,[],[],⟨by omega,hc1,fun _=>⟨rfl,rfl⟩,fun e=>by omega,fun e=>by omega,fun e=>by omega⟩,rfl,hs,hk9⟩
 ·go_upto_region 2 with fail
  have B3:=aA (aC.new w3 44 #[.int .i64 3,.int .i64 cap,.int .i64 2,.slice none 0 0,.slice none 0 0]);replace E:=aA (E.out.alloc (.cells #[.int .i64 3,.int .i64 cap,.int .i64 2,.slice none 0 0,.slice none 0 0] 44));generalize hwe:w3.alloc (.cells #[.int .i64 _,.int .i64 cap,.int .i64 2,.slice none 0 0,.slice none 0 0] 44)=w4 at *;clear hwe;generalize w3.heap.size=r at *;obtain⟨f0,hlf⟩:_/\_:=⟨B3.out.cell 0,B3.out.lt⟩
  simp at f0;go_upto_region 4 with fail
  clear f0 hlf;go_wp2_with fail
  refine(j7 p 3 w4 E.out.s (by omega) (by omega)).mono ?_;rintro e w5 ⟨a,ha0,ha1,rfl,hS1,hk⟩;replace B3:=aA (B3.out.kept (by have:=HL.out;omega) hk);replace E:=aA (E.out.next hS1 hk);clear hS1 hk;go_wp2_with fail
  refine(j7 p 2 w5 E.out.s (by omega) (by omega)).mono ?_;rintro e w6 ⟨b,hb0,hb1,rfl,hS1,hk⟩;replace B3:=aA (B3.out.kept (by have:=HL.out;omega) hk);replace E:=aA (E.out.next hS1 hk);clear hS1 hk;have f3:=B3.out.cell 3;have z3:=B3.out.frozen 3;have hl3:=B3.out.lt;simp at f3;have B5:=(B3.out.set_ 3 (.slice (some ⟨w6.heap.size,0,none⟩) 2 2)).alloc (.cells #[.int .i64 (1+a),.int .i64 (1+b)] 3);have IL0:=aC.new (w6.setCell ⟨r,3,none⟩ (.slice (some ⟨w6.heap.size,0,none⟩) 2 2)) 3 #[.int .i64 (1+a),.int .i64 (1+b)];rw [((aR.refl r w6).set 3 (.slice (some ⟨w6.heap.size,0,none⟩) 2 2)).size] at IL0;have IL:=aA IL0;have hne4:=HL.out;have E4:=aA ((E.out.kxn (KX.sto ((aR.refl r w6).set 3 (.slice (some ⟨w6.heap.size,0,none⟩) 2 2))) (by omega)).alloc (.cells #[.int .i64 (1+a),.int .i64 (1+b)] 3));have HR:=aA (show w.heap.size<w6.heap.size by omega);clear E B3 IL0;go_upto_region 9 with fail
  generalize hwe:(w6.setCell ⟨r,3,none⟩ (.slice (some ⟨w6.heap.size,0,none⟩) 2 2)).alloc (.cells #[.int .i64 (1+a),.int .i64 (1+b)] 3)=w7 at *;clear hwe;have E:=E4;have B3:=aA (show aC w7 r 44 _ from B5);simp at B3;clear E4 B5 f3 z3 hl3;generalize w6.heap.size=gl at *;obtain⟨f0,f1,f2,f3,f4⟩:_/\_/\_/\_/\_:=⟨B3.out.cell 0,B3.out.cell 1,B3.out.cell 2,B3.out.cell 3,B3.out.cell 4⟩
  simp at f0 f1 f2 f3 f4;have hlf:=B3.out.lt;obtain⟨r0,r1,r2,r3,r4⟩:_/\_/\_/\_/\_:=⟨E.out.b.cell 0,E.out.b.cell 1,E.out.b.cell 2,E.out.b.cell 3,E.out.b.cell 4⟩
  simp at r0 r1 r2 r3 r4;have z0:=E.out.b.frozen 0;have z1:=E.out.b.frozen 1;have z2:=E.out.b.frozen 2;have z3:=E.out.b.frozen 3;have z4:=E.out.b.frozen 4;have hlr:=E.out.b.lt;go_wp2_with fail
  have rb:=E.out.b.sto5L (.int .i64 3) (.int .i64 cap) (.int .i64 2) (.slice (some ⟨gl,0,none⟩) 2 2) (.slice none 0 0);have ee:=E.out.put (aR.fiveL _ _ (.int .i64 3) (.int .i64 cap) (.int .i64 2) (.slice (some ⟨gl,0,none⟩) 2 2) (.slice none 0 0)) rb;have hs:=ee.s;have hk9:=ee.k;have ib:aN _ gl [1+a,1+b]:=IL.out.sto (aR.fiveL w.heap.size w7 (.int .i64 3) (.int .i64 cap) (.int .i64 2) (.slice (some ⟨gl,0,none⟩) 2 2) (.slice none 0 0)) (by have:=HR.out;omega);have hgl:=HR.out;exact bodyPost_ret (v:=.agg #[.int .i64 3,.int .i64 cap,.int .i64 2,.slice (some ⟨gl,0,none⟩) 2 2,.slice none 0 0]) (by simp [results,Tryz.results15,go_sem,rb.cell]) rfl ⟨3,cap,some ⟨gl,0,none⟩,none,2,2,0,0,[1+a,1+b],[],⟨by omega,hc1,fun e=>by omega,fun _=>⟨rfl,rfl,rfl,⟨_,_,rfl,by omega,by omega,by omega,by omega⟩,gl,rfl,by omega,ib⟩,fun e=>by omega,fun e=>by omega⟩,rfl,hs,hk9⟩
 ·go_upto_region 2 with fail
  have B3:=aA (aC.new w3 44 #[.int .i64 4,.int .i64 cap,.int .i64 2,.slice none 0 0,.slice none 0 0]);replace E:=aA (E.out.alloc (.cells #[.int .i64 4,.int .i64 cap,.int .i64 2,.slice none 0 0,.slice none 0 0] 44));generalize hwe:w3.alloc (.cells #[.int .i64 _,.int .i64 cap,.int .i64 2,.slice none 0 0,.slice none 0 0] 44)=w4 at *;clear hwe;generalize w3.heap.size=r at *;obtain⟨f0,hlf⟩:_/\_:=⟨B3.out.cell 0,B3.out.lt⟩
  simp at f0;go_upto_region 6 with fail
  clear f0 hlf;go_wp2_with fail
  refine(j7 p 3 w4 E.out.s (by omega) (by omega)).mono ?_;rintro e w5 ⟨a,ha0,ha1,rfl,hS1,hk⟩;replace B3:=aA (B3.out.kept (by have:=HL.out;omega) hk);replace E:=aA (E.out.next hS1 hk);clear hS1 hk;go_wp2_with fail
  refine(j7 p 3 w5 E.out.s (by omega) (by omega)).mono ?_;rintro e w6 ⟨b,hb0,hb1,rfl,hS1,hk⟩;replace B3:=aA (B3.out.kept (by have:=HL.out;omega) hk);replace E:=aA (E.out.next hS1 hk);clear hS1 hk;have f3:=B3.out.cell 3;have z3:=B3.out.frozen 3;have hl3:=B3.out.lt;simp at f3;have B5:=(B3.out.set_ 3 (.slice (some ⟨w6.heap.size,0,none⟩) 2 2)).alloc (.cells #[.int .i64 (20+10*a),.int .i64 (20+10*b)] 3);have IL0:=aC.new (w6.setCell ⟨r,3,none⟩ (.slice (some ⟨w6.heap.size,0,none⟩) 2 2)) 3 #[.int .i64 (20+10*a),.int .i64 (20+10*b)];rw [((aR.refl r w6).set 3 (.slice (some ⟨w6.heap.size,0,none⟩) 2 2)).size] at IL0;have IL:=aA IL0;have hne4:=HL.out;have E4:=aA ((E.out.kxn (KX.sto ((aR.refl r w6).set 3 (.slice (some ⟨w6.heap.size,0,none⟩) 2 2))) (by omega)).alloc (.cells #[.int .i64 (20+10*a),.int .i64 (20+10*b)] 3));have HR:=aA (show w.heap.size<w6.heap.size by omega);clear E B3 IL0;go_upto_region 9 with fail
  generalize hwe:(w6.setCell ⟨r,3,none⟩ (.slice (some ⟨w6.heap.size,0,none⟩) 2 2)).alloc (.cells #[.int .i64 (20+10*a),.int .i64 (20+10*b)] 3)=w7 at *;clear hwe;have E:=E4;have B3:=aA (show aC w7 r 44 _ from B5);simp at B3;clear E4 B5 f3 z3 hl3;generalize w6.heap.size=gl at *;obtain⟨f0,f1,f2,f3,f4⟩:_/\_/\_/\_/\_:=⟨B3.out.cell 0,B3.out.cell 1,B3.out.cell 2,B3.out.cell 3,B3.out.cell 4⟩
  simp at f0 f1 f2 f3 f4;have hlf:=B3.out.lt;obtain⟨r0,r1,r2,r3,r4⟩:_/\_/\_/\_/\_:=⟨E.out.b.cell 0,E.out.b.cell 1,E.out.b.cell 2,E.out.b.cell 3,E.out.b.cell 4⟩
  simp at r0 r1 r2 r3 r4;have z0:=E.out.b.frozen 0;have z1:=E.out.b.frozen 1;have z2:=E.out.b.frozen 2;have z3:=E.out.b.frozen 3;have z4:=E.out.b.frozen 4;have hlr:=E.out.b.lt;go_wp2_with fail
  have rb:=E.out.b.sto5L (.int .i64 4) (.int .i64 cap) (.int .i64 2) (.slice (some ⟨gl,0,none⟩) 2 2) (.slice none 0 0);have ee:=E.out.put (aR.fiveL _ _ (.int .i64 4) (.int .i64 cap) (.int .i64 2) (.slice (some ⟨gl,0,none⟩) 2 2) (.slice none 0 0)) rb;have hs:=ee.s;have hk9:=ee.k;have ib:aN _ gl [20+10*a,20+10*b]:=IL.out.sto (aR.fiveL w.heap.size w7 (.int .i64 4) (.int .i64 cap) (.int .i64 2) (.slice (some ⟨gl,0,none⟩) 2 2) (.slice none 0 0)) (by have:=HR.out;omega);have hgl:=HR.out;exact bodyPost_ret (v:=.agg #[.int .i64 4,.int .i64 cap,.int .i64 2,.slice (some ⟨gl,0,none⟩) 2 2,.slice none 0 0]) (by simp [results,Tryz.results15,go_sem,rb.cell]) rfl ⟨4,cap,some ⟨gl,0,none⟩,none,2,2,0,0,[20+10*a,20+10*b],[],⟨by omega,hc1,fun e=>by omega,fun e=>by omega,fun _=>⟨rfl,rfl,rfl,⟨_,_,rfl,by omega,by omega,by omega,by omega⟩,gl,rfl,by omega,ib⟩,fun e=>by omega⟩,rfl,hs,hk9⟩
 ·go_upto_region 2 with fail
  have B3:=aA (aC.new w3 44 #[.int .i64 5,.int .i64 cap,.int .i64 2,.slice none 0 0,.slice none 0 0]);replace E:=aA (E.out.alloc (.cells #[.int .i64 5,.int .i64 cap,.int .i64 2,.slice none 0 0,.slice none 0 0] 44));generalize hwe:w3.alloc (.cells #[.int .i64 _,.int .i64 cap,.int .i64 2,.slice none 0 0,.slice none 0 0] 44)=w4 at *;clear hwe;generalize w3.heap.size=r at *;obtain⟨f0,hlf⟩:_/\_:=⟨B3.out.cell 0,B3.out.lt⟩
  simp at f0;go_upto_region 8 with fail
  clear f0 hlf;go_wp2_with fail
  refine(j7 p 2 w4 E.out.s (by omega) (by omega)).mono ?_;rintro e w6 ⟨a,ha0,ha1,rfl,hS1,hk⟩;replace B3:=aA (B3.out.kept (by have:=HL.out;omega) hk);replace E:=aA (E.out.next hS1 hk);clear hS1 hk;have f3:=B3.out.cell 4;have z3:=B3.out.frozen 4;have hl3:=B3.out.lt;simp at f3;have B5:=(B3.out.set_ 4 (.slice (some ⟨w6.heap.size,0,none⟩) 4 4)).alloc (.cells #[.int .i64 0,.int .i64 0,.int .i64 1,.int .i64 a] 3);have IL0:=aC.new (w6.setCell ⟨r,4,none⟩ (.slice (some ⟨w6.heap.size,0,none⟩) 4 4)) 3 #[.int .i64 0,.int .i64 0,.int .i64 1,.int .i64 a];rw [((aR.refl r w6).set 4 (.slice (some ⟨w6.heap.size,0,none⟩) 4 4)).size] at IL0;have IL:=aA IL0;have hne4:=HL.out;have E4:=aA ((E.out.kxn (KX.sto ((aR.refl r w6).set 4 (.slice (some ⟨w6.heap.size,0,none⟩) 4 4))) (by omega)).alloc (.cells #[.int .i64 0,.int .i64 0,.int .i64 1,.int .i64 a] 3));have HR:=aA (show w.heap.size<w6.heap.size by omega);clear E B3 IL0;go_upto_region 9 with fail
  generalize hwe:(w6.setCell ⟨r,4,none⟩ (.slice (some ⟨w6.heap.size,0,none⟩) 4 4)).alloc (.cells #[.int .i64 0,.int .i64 0,.int .i64 1,.int .i64 a] 3)=w7 at *;clear hwe;have E:=E4;have B3:=aA (show aC w7 r 44 _ from B5);simp at B3;clear E4 B5 f3 z3 hl3;generalize w6.heap.size=gl at *;obtain⟨f0,f1,f2,f3,f4⟩:_/\_/\_/\_/\_:=⟨B3.out.cell 0,B3.out.cell 1,B3.out.cell 2,B3.out.cell 3,B3.out.cell 4⟩
  simp at f0 f1 f2 f3 f4;have hlf:=B3.out.lt;obtain⟨r0,r1,r2,r3,r4⟩:_/\_/\_/\_/\_:=⟨E.out.b.cell 0,E.out.b.cell 1,E.out.b.cell 2,E.out.b.cell 3,E.out.b.cell 4⟩
  simp at r0 r1 r2 r3 r4;have z0:=E.out.b.frozen 0;have z1:=E.out.b.frozen 1;have z2:=E.out.b.frozen 2;have z3:=E.out.b.frozen 3;have z4:=E.out.b.frozen 4;have hlr:=E.out.b.lt;go_wp2_with fail
  have rb:=E.out.b.sto5L (.int .i64 5) (.int .i64 cap) (.int .i64 2) (.slice none 0 0) (.slice (some ⟨gl,0,none⟩) 4 4);have ee:=E.out.put (aR.fiveL _ _ (.int .i64 5) (.int .i64 cap) (.int .i64 2) (.slice none 0 0) (.slice (some ⟨gl,0,none⟩) 4 4)) rb;have hs:=ee.s;have hk9:=ee.k;have ib:aN _ gl [0,0,1,a]:=IL.out.sto (aR.fiveL w.heap.size w7 (.int .i64 5) (.int .i64 cap) (.int .i64 2) (.slice none 0 0) (.slice (some ⟨gl,0,none⟩) 4 4)) (by have:=HR.out;omega);have hgl:=HR.out;exact bodyPost_ret (v:=.agg #[.int .i64 5,.int .i64 cap,.int .i64 2,.slice none 0 0,.slice (some ⟨gl,0,none⟩) 4 4]) (by simp [results,Tryz.results15,go_sem,rb.cell]) rfl ⟨5,cap,none,some ⟨gl,0,none⟩,0,0,4,4,[],[0,0,1,a],⟨by omega,hc1,fun e=>by omega,fun e=>by omega,fun e=>by omega,fun _=>⟨rfl,rfl,rfl,⟨_,rfl,by omega,by omega⟩,gl,rfl,by omega,ib⟩⟩,rfl,hs,hk9⟩
end Go.Proofs.YtaejfleahamapaaGreat
