/- server.all and Delay of a line in the order of arrival. -/
import Derived.Deep.LoopGhost
import Derived.Deep.DeepCutAuto
import Derived.Deep.RegionHeld3
import Derived.Test.YtaejfleahamapaaGreatPp16
import Derived.Test.YtaejfleahamapaaGreatPp24
import Derived.Test.YtaejfleahamapaaGreatPp26
import Derived.Test.YtaejfleahamapaaGreatPp1
import Derived.Test.YtaejfleahamapaaGreatPp21
import Derived.Test.YtaejfleahamapaaGreatPp3
namespace Go.Proofs.YtaejfleahamapaaGreat
set_option linter.unusedVariables false
set_option linter.unusedSimpArgs false
section
open Go.RowKit
theorem serve_any(c:Int)(w:World)(h1:1≤c)(h2:c≤4000):Calls Tryz.prog 26 #[.int .i64 c] w (RetC (lineCv c) 0 w):=by
 have RB:=hi_ (Blk.new w 26 #[.slice none 0 0,.int .i64 0,.int .i64 0]);have BW:=hi_ (balloc w (.cells #[.slice none 0 0,.int .i64 0,.int .i64 0] 26));have e:lineC c=(lineCv c,0):=by unfold lineC;rw [if_neg (by omega),if_neg (by omega)];rfl
 go_enter Tryz.func26,Tryz.ntmps26
 go_upto_region 1 with fail
 generalize hwe:w.alloc (.cells #[.slice none 0 0,.int .i64 0,.int .i64 0] 26)=w1 at *;clear hwe;have d1:decide (c<1)=false:=by simp;omega
 have d2:decide ((4000:Int)<c)=false:=by simp;omega
 go_wp2_with fail
 refine(line_any c _).mono ?_;rw [e];rintro e w2 ⟨A,n,d,rfl,hI,hA,hb⟩;have hrw:=RB.out.lt;replace RB:=hi_ (RB.out.below hb RB.out.lt);replace BW:=hi_ (bthen BW.out hb);have HI:=hi_ hI;have HA:=hi_ hA;clear hI hA hb;obtain⟨⟨r0,r1,r2⟩,⟨y0,y1,y2⟩,hlr⟩:=RB.out.c3;go_wp2_with fail
 have rb:=RB.out.store3 (.slice A n d) (.int .i64 (lineCv c).per) (.int .i64 (lineCv c).inc);refine bodyPost_ret (v:=.tuple #[.agg #[.slice A n d,.int .i64 (lineCv c).per,.int .i64 (lineCv c).inc],.int .i64 0]) (by simp [results,Tryz.results26,go_sem,rb.cell]) rfl ?_;exact⟨A,n,d,rfl,HI.out.sto (Sto.three w.heap.size w2 _ _ _) (fun b off s e=>by have:=HA.out b off s e;omega),(fun b off s e=>by have:=HA.out b off s e;omega),bst3 BW.out (Nat.le_refl _) _ _ _⟩
def blkV(zs:List SZ)(cl:Nat):Int:=(zs.drop (cl+1)).foldl (fun m x=>max m (x.hi-1)) 0
def PrS(cap:Int)(cl:Nat)(fs:List Cv)(zs:List SZ)(r:Cv)(er:Int):Prop:=
 ∃o e,TotR cvZ (fs.take cl) o e∧((e≠0∧r=Cv.none∧er=e)∨(e=0∧∃o2 e2,RaiseS o (blkV zs cl) o2 e2∧((e2≠0∧r=Cv.none∧er=e2)∨(e2=0∧RestS (lineCv cap) o2 r er))))
theorem foldl_max_bd:∀(l:List SZ) (m:Int),(∀x∈l,x.hi≤1500)→0≤m→m≤1500→0≤l.foldl (fun m x=>max m (x.hi-1)) m∧l.foldl (fun m x=>max m (x.hi-1)) m≤1500
 | [],m,_,h1,h2=>⟨h1,h2⟩
 | x :: l,m,h,h1,h2=>foldl_max_bd l _ (fun y hy=>h y (List.mem_cons_of_mem _ hy)) (by show 0≤max m (x.hi-1);omega) (by have:=h x (List.mem_cons_self ..);show max m (x.hi-1)≤1500;omega)
theorem RowO.take{w:World}{b o:Nat}{xs:List CR}(h:RowO w b o xs)(m:Nat):RowO w b o (xs.take m):=
 ⟨h.lt,fun k j x hx hj=>by
  rw [List.getElem?_take] at hx;split at hx
  ·exact h.cell k j x hx hj
  ·exact absurd hx (by simp),fun x hx=>h.inn x (List.mem_of_mem_take hx)⟩
theorem sum_len{f g r:Cv}{er:Int}(h:SumS f g r er):r.vals.length≤400:=by
 rcases h with ⟨_,rfl,_⟩|⟨_,_,a,b,_,_,⟨_,rfl,_⟩|⟨_,g,_,⟨hl,rfl,_⟩|⟨_,rfl,_⟩⟩⟩
 ·decide
 ·decide
 ·exact hl.1
 ·decide
theorem cvZ_len:cvZ.vals.length≤400:=by decide
theorem tot_len:∀{fs:List Cv} {s r:Cv} {er:Int},s.vals.length≤400→TotR s fs r er→r.vals.length≤400
 | [],_,_,_,hs,h=>by rw [h.1];exact hs
 | _ :: _,_,_,_,_,⟨t,e,h1,h2⟩=>by
   rcases h2 with ⟨_,h2⟩|⟨_,rfl,_⟩
   ·exact tot_len (sum_len h1) h2
   ·decide
theorem raise_len{f r:Cv}{d er:Int}(h:RaiseS f d r er):r.vals.length≤400:=by
 rcases h with ⟨_,rfl,_⟩|⟨_,_,rfl,_⟩|⟨_,_,_,a,_,⟨_,hl,_⟩|⟨_,rfl,_⟩⟩
 ·decide
 ·decide
 ·exact hl.1
 ·decide
structure PrE(w wx:World)(g o:Nat)(xs:List CR)(A:Option Addr)(n c:Nat)(zs:List SZ):Prop where
 row:RowO wx g o xs
 sz:LsZ wx A n c zs
 rb:Blk wx w.heap.size 26 #[.slice none 0 0,.int .i64 0,.int .i64 0]
 bw:Below w.heap.size w wx
theorem PrE.below{w wx wy:World}{g o n c:Nat}{xs:List CR}{A:Option Addr}{zs:List SZ}(h:PrE w wx g o xs A n c zs)(hb:Below wx.heap.size wx wy):PrE w wy g o xs A n c zs:=⟨h.row.below hb,h.sz.below hb,h.rb.below hb h.rb.lt,bthen h.bw hb⟩
set_option maxHeartbeats 4000000 in
set_option maxRecDepth 100000 in
theorem prCurve_any(cap:Int)(cl g o n c q s d:Nat)(xs:List CR)(zs:List SZ)(w:World)(hc1:1≤cap)(hc2:cap≤4000)(hcl:cl<n)(hn:n≤6)(hnc:n≤c)(hnd:n≤d)(hx:xs.length=n)(hrow:RowO w g o xs)(hfin:∀x∈xs,x.f.Fin)(hlen:∀x∈xs,x.n≤1000)
 (hz:zs.length=n) (hrz:RowZ w q s zs) (hg:∀x∈zs,x.Good) :
 Calls Tryz.prog 178 #[.int .i64 cap,.int .i64 cl,.slice (some ⟨g,o,none⟩) n c,.slice (some ⟨q,s,none⟩) n d] w (RetS (PrS cap cl (xs.map CR.f) zs) w):=by
 have E:=hi_ (show PrE w (w.alloc (.cells #[.slice none 0 0,.int .i64 0,.int .i64 0] 26)) g o xs (some ⟨q,s,none⟩) n d zs from⟨hrow.below (balloc _ _),⟨hz,hnd,by omega,fun _=>⟨q,s,rfl,hrz.below (balloc _ _)⟩⟩,Blk.new _ _ _,balloc _ _⟩);have HG:=hi_ hg;have HX:=hi_ hx;have HFI:=hi_ hfin;have HLE:=hi_ hlen;have HZ:=hi_ hz;clear hrow hrz hg hx hfin hlen hz;go_enter Tryz.func178,Tryz.ntmps178
 go_upto_region 1 with fail
 generalize hwe:w.alloc (.cells #[.slice none 0 0,.int .i64 0,.int .i64 0] 26)=w1 at *;clear hwe;go_wp2_with fail
 refine(pcheck_any cap cl (some ⟨q,s,none⟩) n d zs _ E.out.sz HG.out hc1 hc2 (by omega) hn (by omega) (by omega)).mono ?_;rintro e w2 ⟨rfl,hb⟩;replace E:=hi_ (E.out.below hb);clear hb;have d0:((n:Int) != (n:Int))=false:=by simp
 go_wp2_with fail
 go_loopg [35] n (fun gg s35 wx=>∃k:Nat,k+gg=n∧s35 = .int .i64 k∧PrE w wx g o xs (some ⟨q,s,none⟩) n d zs)
 case atStart=>exact⟨0,by omega,rfl,E.out⟩
 case round=>
  clear E;obtain⟨k,hkg,rfl,hE⟩:=hrel;have E:=hi_ hE;clear hE;by_cases hk:k<n
  case pos=>
   have hki:(k:Int)<n:=by omega
   obtain⟨x,hx,hI,x0,x1,x2⟩:=E.out.row.get (k:=k) (by rw [HX.out];exact hk);have hgl:=E.out.row.lt;have hmem:=List.mem_of_getElem? hx;have hok:=(HFI.out x hmem).1;have hxn:=HLE.out x hmem;have HI:=hi_ (hI.alloc' (.cells #[.slice x.A x.n x.c,.int .i64 x.f.per,.int .i64 x.f.inc] 26));have BX:=hi_ (Blk.new wr 26 #[.slice x.A x.n x.c,.int .i64 x.f.per,.int .i64 x.f.inc]);replace E:=hi_ (E.out.below (balloc wr (.cells #[.slice x.A x.n x.c,.int .i64 x.f.per,.int .i64 x.f.inc] 26)));have OKB:=hi_ (Cv.okB_true hok);clear hI hmem hok hx;go_upto_region 9 with fail
   clear x0 x1 x2 hgl;generalize hwe:wr.alloc (.cells #[.slice x.A x.n x.c,.int .i64 x.f.per,.int .i64 x.f.inc] 26)=we at *;clear hwe;generalize wr.heap.size=Zx at *;obtain⟨⟨x0,x1,x2⟩,_,hlx⟩:=BX.out.c3;go_wp2_with fail
   refine(valid_any x.A x.n x.c x.f.per x.f.inc x.f.vals _ (by exact HI.out) (by omega)).mono ?_;rw [OKB.out];rintro e wf ⟨rfl,hb⟩;replace E:=hi_ (E.out.below hb);clear hb x0 x1 x2 hlx HI BX;go_wp2_with fail
   go_roundg (gk-1)
   case measure=>omega
   case rel=>exact⟨k+1,by omega,by go_num,E.out⟩
  case neg=>
   have hki:¬(k:Int)<n:=by omega
   clear hk hkg;obtain⟨m,hm⟩:∃m:Nat,m=n-(cl+1):=⟨_,rfl⟩
   have e1:IntKind.i64.wrap ((cl:Int)+1)=((cl+1:Nat):Int):=by rw [IntWalk.i64_in _ (by omega)];omega
   go_upto_region 13 with fail
   go_cut [47,48,49] (fun s47 s48 s49 wx=>∃(A':Option Addr) (d':Nat),s47 = .slice A' m d'∧(0<m→A'=some ⟨q,s+(cl+1)*2,none⟩)∧s48 = .int .i64 m∧s49 = .int .i64 0∧wx=wr)
   case first=>
    have HM:=hi_ hm;clear hm;go_wp2_with fail
    ·subst h;go_meet
     exact⟨_,_,by rw [HM.out],fun hm0=>by(have:=HM.out;omega),by rw [HM.out],rfl,rfl⟩
    ·go_meet
     exact⟨_,_,by rw [HM.out],fun _=>rfl,by rw [HM.out],rfl,rfl⟩
   case rest=>
    obtain⟨A',d',rfl,hA',rfl,rfl,rfl⟩:=hcut;have HA':=hi_ hA';have HM:=hi_ hm;have hm6:m≤6:=by omega
    have HDR:=hi_ (show(zs.drop (cl+1)).length=m by rw [List.length_drop,HZ.out,HM.out]);clear hA' hm e1;go_wp2_with fail
    go_loopg [13,49] m (fun gg s13 s49 wx=>∃k:Nat,k+gg=m∧s49 = .int .i64 k∧s13 = .int .i64 (((zs.drop (cl+1)).take k).foldl (fun m x=>max m (x.hi-1)) 0)∧PrE w wx g o xs (some ⟨q,s,none⟩) n d zs)
    case atStart=>exact⟨0,by omega,rfl,rfl,E.out⟩
    case round=>
     clear E;obtain⟨k,hkg,rfl,rfl,hE⟩:=hrel;have E:=hi_ hE;clear hE;by_cases hk:k<m
     case pos=>
      have hki:(k:Int)<m:=by omega
      obtain⟨q',s',e9,hrz⟩:=E.out.sz.2.2.2 (by omega);cases e9
      obtain⟨x,hx,x0,x1⟩:=(hrz.drop (cl+1)).get (k:=k) (by rw [HDR.out];exact hk);have hql:=hrz.lt;obtain⟨g1,g2,g3⟩:=HG.out x (List.mem_of_mem_drop (List.mem_of_getElem? hx));obtain⟨v,hv⟩:∃v,v=((zs.drop (cl+1)).take k).foldl (fun m x=>max m (x.hi-1)) 0:=⟨_,rfl⟩
      obtain⟨v2,hv2⟩:∃v,v=((zs.drop (cl+1)).take (k+1)).foldl (fun m x=>max m (x.hi-1)) 0:=⟨_,rfl⟩
      have ev:v2=max v (x.hi-1):=by
       rw [hv2,hv,List.take_add_one,hx];simp
      rw [← hv];have e2:IntKind.i64.wrap (x.hi-1)=x.hi-1:=IntWalk.i64_in _ (by omega);have e3:(if v<x.hi-1 then x.hi-1 else v)=v2:=by rw [ev];split <;> omega
      have HV2:=hi_ hv2;have hA2:=HA'.out (by omega);subst hA2;clear hrz hx hv hv2 ev;have BX:=hi_ (Blk.new wr 67 #[.int .i64 x.lo,.int .i64 x.hi]);replace E:=hi_ (E.out.below (balloc wr (.cells #[.int .i64 x.lo,.int .i64 x.hi] 67)));go_upto_region 16 with fail
      clear x0 x1 hql;generalize hwe:wr.alloc (.cells #[.int .i64 x.lo,.int .i64 x.hi] 67)=we at *;clear hwe;generalize wr.heap.size=Zx at *;have x1:=BX.out.cell 1;simp at x1;have hlx:=BX.out.lt;go_wp2_with fail
      go_roundg (gk-1)
      case measure=>omega
      case rel=>exact⟨k+1,by omega,by go_num,by rw [HV2.out],E.out⟩
     case neg=>
      have hki:¬(k:Int)<m:=by omega
      have hkm:k=m:=by omega
      obtain⟨v,hv⟩:∃v,v=((zs.drop (cl+1)).take k).foldl (fun m x=>max m (x.hi-1)) 0:=⟨_,rfl⟩
      have HV:=hi_ (show v=blkV zs cl by rw [hv,hkm,List.take_of_length_le (by rw [HDR.out];exact Nat.le_refl _)];rfl);have hvb:=foldl_max_bd (zs.drop (cl+1)) 0 (fun x hx=>(HG.out x (List.mem_of_mem_drop hx)).2.2) (by omega) (by omega);have hv1:0≤v:=by rw [HV.out];exact hvb.1
      have hv2:v≤1500:=by rw [HV.out];exact hvb.2
      rw [← hv];clear hv hvb hk hkg hkm;go_wp2_with fail
      refine(total_anyO (some ⟨g,o,none⟩) cl c (xs.take cl) wr (by rw [List.length_take,HX.out];omega) (by omega) (fun _=>⟨g,o,rfl,E.out.row.take cl⟩) (fun x hx=>by have:=HLE.out x (List.mem_of_mem_take hx);omega)).mono ?_;rintro e wa ⟨f1,er1,hS1,A1,m1,d1,rfl,hI1,hA1,hb⟩;rw [List.map_take] at hS1;have T1:=hi_ hS1;have hm1:m1≤400:=by have h1:=tot_len cvZ_len hS1;have h2:f1.vals.length=m1:=hI1.1;omega
      have I1:=hi_ (hI1.alloc' (.cells #[.slice A1 m1 d1,.int .i64 f1.per,.int .i64 f1.inc] 26));have HA1:=hi_ hA1;have BO:=hi_ (Blk.new wa 26 #[.slice A1 m1 d1,.int .i64 f1.per,.int .i64 f1.inc]);have hwa:=(E.out.rb.below hb E.out.rb.lt).lt;replace E:=hi_ ((E.out.below hb).below (balloc wa (.cells #[.slice A1 m1 d1,.int .i64 f1.per,.int .i64 f1.inc] 26)));clear hS1 hI1 hA1 hb;go_upto_region 19 with fail
      generalize hwe:wa.alloc (.cells #[.slice A1 m1 d1,.int .i64 f1.per,.int .i64 f1.inc] 26)=wb at *;clear hwe;generalize wa.heap.size=Zo at *;by_cases he1:er1=0
      case neg=>
       have c1:(er1 == 0)=false:=by simpa using he1
       have c2:(er1 != 0)=true:=by simpa using he1
       have F:=hi_ (show PrS cap cl (xs.map CR.f) zs Cv.none er1 from⟨f1,er1,T1.out,.inl ⟨he1,rfl,rfl⟩⟩);clear he1;have RB:=hi_ E.out.rb;have BW:=hi_ E.out.bw;obtain⟨⟨r0,r1,r2⟩,⟨y0,y1,y2⟩,hlr⟩:=RB.out.c3;go_wp2_with fail
       have rb:=RB.out.store3 (.slice none 0 0) (.int .i64 0) (.int .i64 0);exact bodyPost_ret (v:=.tuple #[.agg #[.slice none 0 0,.int .i64 0,.int .i64 0],.int .i64 er1]) (by simp [results,Tryz.results178,go_sem,rb.cell]) rfl (retS_none F.out (bst3 BW.out (Nat.le_refl _) _ _ _))
      case pos=>
      subst he1;have FO:=hi_ (tot_fin cvZ_fin (fun f hf=>by
       obtain⟨x,hx,rfl⟩:=List.mem_map.1 (List.mem_of_mem_take hf);exact HFI.out x hx) T1.out).1
      obtain⟨⟨o0,o1,o2⟩,⟨p0,p1,p2⟩,hlo⟩:=BO.out.c3;go_wp2_with fail
      refine(praise_any A1 m1 d1 f1.per f1.inc v f1.vals wb (by exact I1.out) (by omega)).mono ?_;rintro e wf ⟨f2,er2,hS2,A2,m2,d2,rfl,hI2,hA2,hb⟩;have T2:=hi_ hS2;have hm2:m2≤400:=by have h1:=raise_len hS2;have h2:f2.vals.length=m2:=hI2.1;omega
      replace BO:=hi_ (BO.out.below hb BO.out.lt);have hzf:=BO.out.lt;have hA2z:=hi_ (show ∀b off s,A2=some ⟨b,off,s⟩→b≠Zo from fun b off s e=>by have:=hA2 b off s e;omega);have I2:=hi_ (hI2.sto (Sto.three Zo wf (.slice A2 m2 d2) (.int .i64 f2.per) (.int .i64 f2.inc)) hA2z.out);replace E:=hi_ (E.out.below hb);have B2:=hi_ (BO.out.store3 (.slice A2 m2 d2) (.int .i64 f2.per) (.int .i64 f2.inc));have ER:=hi_ (E.out.rb.sto (Sto.three Zo wf (.slice A2 m2 d2) (.int .i64 f2.per) (.int .i64 f2.inc)) (by omega));have EB:=hi_ (bst3 E.out.bw (show w.heap.size≤Zo by omega) (.slice A2 m2 d2) (.int .i64 f2.per) (.int .i64 f2.inc));clear hS2 hI2 hA2 hb o0 o1 o2 p0 p1 p2 hlo I1 E;obtain⟨⟨o0,o1,o2⟩,⟨p0,p1,p2⟩,hlo⟩:=BO.out.c3;go_upto_region 21 with fail
      clear BO o0 o1 o2 p0 p1 p2 hlo;generalize hws:((wf.setCell ⟨Zo,0,none⟩ (.slice A2 m2 d2)).setCell ⟨Zo,1,none⟩ (.int .i64 f2.per)).setCell ⟨Zo,2,none⟩ (.int .i64 f2.inc)=ws at *;clear hws;by_cases he2:er2=0
      case neg=>
       have c2:(er2 != 0)=true:=by simpa using he2
       have F:=hi_ (show PrS cap cl (xs.map CR.f) zs Cv.none er2 from⟨f1,0,T1.out,.inr ⟨rfl,f2,er2,by rw [← HV.out];exact T2.out,.inl ⟨he2,rfl,rfl⟩⟩⟩);clear he2;obtain⟨⟨r0,r1,r2⟩,⟨y0,y1,y2⟩,hlr⟩:=ER.out.c3;go_wp2_with fail
       have rb:=ER.out.store3 (.slice none 0 0) (.int .i64 0) (.int .i64 0);exact bodyPost_ret (v:=.tuple #[.agg #[.slice none 0 0,.int .i64 0,.int .i64 0],.int .i64 er2]) (by simp [results,Tryz.results178,go_sem,rb.cell]) rfl (retS_none F.out (bst3 EB.out (Nat.le_refl _) _ _ _))
      case pos=>
      subst he2;have FR:=hi_ (raiseS_fin FO.out hv1 (by omega) T2.out).1;go_wp2_with fail
      refine(serve_any cap ws hc1 hc2).mono ?_;rintro e wg ⟨A3,m3,d3,rfl,hI3,hA3,hb⟩;have hm3:m3≤1:=by have h1:(lineCv cap).vals.length=m3:=hI3.1;rw [← h1];exact Nat.le_refl 1
      have I3:=hi_ (hI3.alloc' (.cells #[.slice A3 m3 d3,.int .i64 (lineCv cap).per,.int .i64 (lineCv cap).inc] 26));have B3:=hi_ (Blk.new wg 26 #[.slice A3 m3 d3,.int .i64 (lineCv cap).per,.int .i64 (lineCv cap).inc]);have hwg:=(ER.out.below hb ER.out.lt).lt;replace I2:=hi_ ((I2.out.ext hb).alloc' (.cells #[.slice A3 m3 d3,.int .i64 (lineCv cap).per,.int .i64 (lineCv cap).inc] 26));replace B2:=hi_ ((B2.out.below hb B2.out.lt).alloc (.cells #[.slice A3 m3 d3,.int .i64 (lineCv cap).per,.int .i64 (lineCv cap).inc] 26));replace ER:=hi_ ((ER.out.below hb ER.out.lt).alloc (.cells #[.slice A3 m3 d3,.int .i64 (lineCv cap).per,.int .i64 (lineCv cap).inc] 26));replace EB:=hi_ (bthen (bthen EB.out hb) (balloc wg (.cells #[.slice A3 m3 d3,.int .i64 (lineCv cap).per,.int .i64 (lineCv cap).inc] 26)));clear hI3 hA3 hb;go_upto_region 24 with fail
      generalize hwe:wg.alloc (.cells #[.slice A3 m3 d3,.int .i64 (lineCv cap).per,.int .i64 (lineCv cap).inc] 26)=wi at *;clear hwe;generalize wg.heap.size=Zl at *;obtain⟨⟨o0,o1,o2⟩,-,hlo⟩:=B2.out.c3;obtain⟨⟨l0,l1,l2⟩,-,hll⟩:=B3.out.c3;go_wp2_with fail
      refine(rest_any A3 A2 m3 m2 d3 d2 (lineCv cap).per (lineCv cap).inc f2.per f2.inc (lineCv cap).vals f2.vals wi (by exact I3.out) (by exact I2.out) (by omega) (by omega) (line_fin (c:=cap) (by omega) (by omega)) FR.out).mono ?_;rintro e wj ⟨f,er,hS,A5,m5,d5,rfl,hI5,hA5,hb⟩;have F:=hi_ (show PrS cap cl (xs.map CR.f) zs f er from⟨f1,0,T1.out,.inr ⟨rfl,f2,0,by rw [← HV.out];exact T2.out,.inr ⟨rfl,hS⟩⟩⟩);have hwi:w.heap.size<wi.heap.size:=ER.out.lt;replace ER:=hi_ (ER.out.below hb ER.out.lt);replace EB:=hi_ (bthen EB.out hb);have HI5:=hi_ hI5;have HA5:=hi_ hA5;clear hS hI5 hA5 hb I2 B2 I3 B3 o0 o1 o2 hlo l0 l1 l2 hll;obtain⟨⟨r0,r1,r2⟩,⟨y0,y1,y2⟩,hlr⟩:=ER.out.c3;go_wp2_with fail
      have rb:=ER.out.store3 (.slice A5 m5 d5) (.int .i64 f.per) (.int .i64 f.inc);exact bodyPost_ret (v:=.tuple #[.agg #[.slice A5 m5 d5,.int .i64 f.per,.int .i64 f.inc],.int .i64 er]) (by simp [results,Tryz.results178,go_sem,rb.cell]) rfl (retS_store F.out HA5.out (Nat.le_refl _) (by omega) HI5.out EB.out)
end
section
open Go.RowKit
def ChkOk(w:World)(cs:Array Value):Prop:=∀w',Below w.heap.size w w'→Calls Tryz.prog 75 #[.agg cs] w' fun e w''=>e = .returned (.int .i64 0)∧Below w'.heap.size w' w''
theorem ChkOk.below{w w':World}{cs:Array Value}(h:ChkOk w cs)(hb:Below w.heap.size w w'):ChkOk w' cs:=fun w'' h2=>h w'' (bthen hb h2)
structure ArE(w wx:World)(cs:Array Value)(g o:Nat)(xs:List CR)(A:Option Addr)(n c:Nat)(zs:List SZ):Prop where
 ln:Blk wx w.heap.size 44 cs
 row:RowO wx g o xs
 sz:LsZ wx A n c zs
 ck:ChkOk wx cs
 bw:Below w.heap.size w wx
theorem ArE.below{w wx wy:World}{cs:Array Value}{g o n c:Nat}{xs:List CR}{A:Option Addr}{zs:List SZ}(h:ArE w wx cs g o xs A n c zs)(hb:Below wx.heap.size wx wy):ArE w wy cs g o xs A n c zs:=⟨h.ln.below hb h.ln.lt,h.row.below hb,h.sz.below hb,h.ck.below hb,bthen h.bw hb⟩
set_option maxHeartbeats 4000000 in
set_option maxRecDepth 100000 in
theorem args_any(k cap:Int)(cl g o n c q s d nW cW nS cS:Nat)(AW AS:Option Addr)(xs:List CR)(zs:List SZ)(w:World)(hc1:1≤cap)(hc2:cap≤4000)(hcl:cl<n)(hn:n≤6)(hnc:n≤c)(hnd:n≤d)(hx:xs.length=n)(hrow:RowO w g o xs)(hfin:∀x∈xs,x.f.Fin)(hlen:∀x∈xs,x.n≤1000)(hz:zs.length=n)(hrz:RowZ w q s zs)(hg:∀x∈zs,x.Good)(hck:ChkOk w #[.int .i64 k,.int .i64 cap,.int .i64 n,.slice AW nW cW,.slice AS nS cS]) :
 Calls Tryz.prog 78 #[.agg #[.int .i64 k,.int .i64 cap,.int .i64 n,.slice AW nW cW,.slice AS nS cS],.int .i64 cl,.slice (some ⟨g,o,none⟩) n c,.slice (some ⟨q,s,none⟩) n d] w fun e w'=>e = .returned (.int .i64 0)∧Below w.heap.size w w':=by
 have E:=hi_ (show ArE w (w.alloc (.cells #[.int .i64 k,.int .i64 cap,.int .i64 n,.slice AW nW cW,.slice AS nS cS] 44)) #[.int .i64 k,.int .i64 cap,.int .i64 n,.slice AW nW cW,.slice AS nS cS] g o xs (some ⟨q,s,none⟩) n d zs from⟨Blk.new _ _ _,hrow.below (balloc _ _),⟨hz,hnd,by omega,fun _=>⟨q,s,rfl,hrz.below (balloc _ _)⟩⟩,hck.below (balloc _ _),balloc _ _⟩);have HG:=hi_ hg;have HX:=hi_ hx;have HFI:=hi_ hfin;have HLE:=hi_ hlen;clear hrow hrz hg hx hfin hlen hz hck;go_enter Tryz.func78,Tryz.ntmps78
 go_upto_region 1 with fail
 generalize hwe:w.alloc (.cells #[.int .i64 k,.int .i64 cap,.int .i64 n,.slice AW nW cW,.slice AS nS cS] 44)=w1 at *;clear hwe;obtain⟨f0,f1,f2,f3,f4⟩:_∧_∧_∧_∧_:=⟨E.out.ln.cell 0,E.out.ln.cell 1,E.out.ln.cell 2,E.out.ln.cell 3,E.out.ln.cell 4⟩
 simp at f0 f1 f2 f3 f4;have hlf:=E.out.ln.lt;go_wp2_with fail
 refine(E.out.ck w1 (Below.refl _ _)).mono ?_;rintro e w2 ⟨rfl,hb⟩;replace E:=hi_ (E.out.below hb);clear hb;clear f0 f1 f2 f3 f4 hlf;obtain⟨f0,f1,f2,f3,f4⟩:_∧_∧_∧_∧_:=⟨E.out.ln.cell 0,E.out.ln.cell 1,E.out.ln.cell 2,E.out.ln.cell 3,E.out.ln.cell 4⟩
 simp at f0 f1 f2 f3 f4;have hlf:=E.out.ln.lt;have d0:((n:Int) != (n:Int))=false:=by simp
 have d1:decide ((n:Int)≤(cl:Int))=false:=decide_eq_false (by omega);have d2:decide ((cl:Int)<0)=false:=decide_eq_false (by omega);have d3:decide (n≤cl)=false:=decide_eq_false (by omega);go_wp2_with fail
 refine(pcheck_any cap cl (some ⟨q,s,none⟩) n d zs _ E.out.sz HG.out hc1 hc2 (by omega) hn (by omega) (by omega)).mono ?_;rintro e w3 ⟨rfl,hb⟩;replace E:=hi_ (E.out.below hb);clear hb d0 d1 d2 d3;clear f0 f1 f2 f3 f4 hlf;go_wp2_with fail
 go_loopg [50] n (fun gg s50 wx=>∃k':Nat,k'+gg=n∧s50 = .int .i64 k'∧ArE w wx #[.int .i64 k,.int .i64 cap,.int .i64 n,.slice AW nW cW,.slice AS nS cS] g o xs (some ⟨q,s,none⟩) n d zs)
 case atStart=>exact⟨0,by omega,rfl,E.out⟩
 case round=>
  clear E;obtain⟨k',hkg,rfl,hE⟩:=hrel;have E:=hi_ hE;clear hE;by_cases hk:k'<n
  case pos=>
   have hki:(k':Int)<n:=by omega
   obtain⟨x,hx,hI,x0,x1,x2⟩:=E.out.row.get (k:=k') (by rw [HX.out];exact hk);have hgl:=E.out.row.lt;have hmem:=List.mem_of_getElem? hx;have hok:=(HFI.out x hmem).1;have hxn:=HLE.out x hmem;have HI:=hi_ (hI.alloc' (.cells #[.slice x.A x.n x.c,.int .i64 x.f.per,.int .i64 x.f.inc] 26));have BX:=hi_ (Blk.new wr 26 #[.slice x.A x.n x.c,.int .i64 x.f.per,.int .i64 x.f.inc]);replace E:=hi_ (E.out.below (balloc wr (.cells #[.slice x.A x.n x.c,.int .i64 x.f.per,.int .i64 x.f.inc] 26)));have OKB:=hi_ (Cv.okB_true hok);clear hI hmem hok hx;go_upto_region 12 with fail
   clear x0 x1 x2 hgl;generalize hwe:wr.alloc (.cells #[.slice x.A x.n x.c,.int .i64 x.f.per,.int .i64 x.f.inc] 26)=we at *;clear hwe;generalize wr.heap.size=Zx at *;obtain⟨⟨x0,x1,x2⟩,-,hlx⟩:=BX.out.c3;go_wp2_with fail
   refine(valid_any x.A x.n x.c x.f.per x.f.inc x.f.vals _ (by exact HI.out) (by omega)).mono ?_;rw [OKB.out];rintro e wf ⟨rfl,hb⟩;replace E:=hi_ (E.out.below hb);clear hb x0 x1 x2 hlx HI BX;go_wp2_with fail
   go_roundg (gk-1)
   case measure=>omega
   case rel=>exact⟨k'+1,by omega,by go_num,E.out⟩
  case neg=>
   have hki:¬(k':Int)<n:=by omega
   go_wp2_with fail
   go_ret
   exact⟨rfl,E.out.bw⟩
theorem rkcurve_any(k cap:Int)(cl g o n c q s d:Nat)(AW AS:Option Addr)(nW cW nS cS:Nat)(xs:List CR)(zs:List SZ)(w:World)(hc1:1≤cap)(hc2:cap≤4000)(hcl:cl<n)(hn:n≤6)(hnc:n≤c)(hnd:n≤d)(hx:xs.length=n)(hrow:RowO w g o xs)(hfin:∀x∈xs,x.f.Fin)(hlen:∀x∈xs,x.n≤1000)
 (hz:zs.length=n) (hrz:RowZ w q s zs) (hg:∀x∈zs,x.Good) :
 Calls Tryz.prog 176 #[.agg #[],.agg #[.int .i64 k,.int .i64 cap,.int .i64 n,.slice AW nW cW,.slice AS nS cS],.int .i64 cl,.slice (some ⟨g,o,none⟩) n c,.slice (some ⟨q,s,none⟩) n d] w (RetS (PrS cap cl (xs.map CR.f) zs) w):=by
 have b0:=balloc w (.cells #[] 163);have b1:=bthen b0 (balloc _ (.cells #[.int .i64 k,.int .i64 cap,.int .i64 n,.slice AW nW cW,.slice AS nS cS] 44));have L1:=hi_ ((Blk.new (w.alloc (.cells #[] 163)) 44 #[.int .i64 k,.int .i64 cap,.int .i64 n,.slice AW nW cW,.slice AS nS cS]).alloc (.cells #[.slice none 0 0,.int .i64 0,.int .i64 0] 26));have rb:=Blk.new ((w.alloc (.cells #[] 163)).alloc (.cells #[.int .i64 k,.int .i64 cap,.int .i64 n,.slice AW nW cW,.slice AS nS cS] 44)) 26 #[.slice none 0 0,.int .i64 0,.int .i64 0];simp only [World.size_alloc] at rb;have ER:=hi_ rb;have EB:=hi_ (bthen b1 (balloc _ (.cells #[.slice none 0 0,.int .i64 0,.int .i64 0] 26)));have HROW:=hi_ (hrow.below EB.out);have HRZ:=hi_ (hrz.below EB.out);clear b0 b1 rb hrow hrz;go_enter Tryz.func176,Tryz.ntmps176
 go_upto_region 1 with fail
 generalize hwe:((w.alloc (.cells #[] 163)).alloc (.cells #[.int .i64 k,.int .i64 cap,.int .i64 n,.slice AW nW cW,.slice AS nS cS] 44)).alloc (.cells #[.slice none 0 0,.int .i64 0,.int .i64 0] 26)=w1 at *;clear hwe;have L2:=hi_ (show Blk w1 (w.heap.size+1) 44 #[.int .i64 k,.int .i64 cap,.int .i64 n,.slice AW nW cW,.slice AS nS cS] by have:=L1.out;rw [World.size_alloc] at this;exact this);have f1:=L2.out.cell 1;simp at f1;have hlf:=L2.out.lt;go_wp2_with fail
 refine(prCurve_any cap cl g o n c q s d xs zs w1 hc1 hc2 hcl hn hnc hnd hx HROW.out hfin hlen hz HRZ.out hg).mono ?_;rintro e w2 ⟨f,er,hS,A5,m5,d5,rfl,hI5,hA5,hb⟩;have F:=hi_ hS;have hw1:=ER.out.lt;replace ER:=hi_ (ER.out.below hb ER.out.lt);replace EB:=hi_ (bthen EB.out hb);have HI5:=hi_ hI5;have HA5:=hi_ hA5;clear hS hI5 hA5 hb L1 L2 f1 hlf HROW HRZ;obtain⟨⟨r0,r1,r2⟩,⟨y0,y1,y2⟩,hlr⟩:=ER.out.c3;go_wp2_with fail
 have rb:=ER.out.store3 (.slice A5 m5 d5) (.int .i64 f.per) (.int .i64 f.inc);exact bodyPost_ret (v:=.tuple #[.agg #[.slice A5 m5 d5,.int .i64 f.per,.int .i64 f.inc],.int .i64 er]) (by simp [results,Tryz.results176,go_sem,rb.cell]) rfl (retS_store F.out HA5.out (by omega) (by omega) HI5.out EB.out)
end
section
open Go.RowKit
def curveF(k:Int):Nat:=match k.toNat with
 | 1=>172
 | 2=>176
 | 3=>190
 | 4=>207
 | _=>220
def runF(k:Int):Nat:=match k.toNat with
 | 1=>173
 | 2=>177
 | 3=>191
 | 4=>208
 | _=>221
theorem five{k:Int}(h1:1≤k)(h5:k≤5):k=1∨k=2∨k=3∨k=4∨k=5:=by omega
set_option maxHeartbeats 4000000 in
set_option maxRecDepth 100000 in
theorem scurve_any(k cap:Int)(cl g o n c q s d nW cW nS cS:Nat)(AW AS:Option Addr)(xs:List CR)(zs:List SZ)(w:World)(hc1:1≤cap)(hc2:cap≤4000)(hcl:cl<n)(hn:n≤6)(hnc:n≤c)(hnd:n≤d)(hx:xs.length=n)(hrow:RowO w g o xs)(hfin:∀x∈xs,x.f.Fin)(hlen:∀x∈xs,x.n≤1000)(hz:zs.length=n)(hrz:RowZ w q s zs)(hg:∀x∈zs,x.Good)(hck:ChkOk w #[.int .i64 k,.int .i64 cap,.int .i64 n,.slice AW nW cW,.slice AS nS cS])(hk1:1≤k)(hk5:k≤5)(S:Cv→Int→Prop)(hm:∀w',Below w.heap.size w w'→Calls Tryz.prog (curveF k) #[.agg #[],.agg #[.int .i64 k,.int .i64 cap,.int .i64 n,.slice AW nW cW,.slice AS nS cS],.int .i64 cl,.slice (some ⟨g,o,none⟩) n c,.slice (some ⟨q,s,none⟩) n d] w' (RetS S w')) :
 Calls Tryz.prog 33 #[.agg #[.int .i64 k,.int .i64 cap,.int .i64 n,.slice AW nW cW,.slice AS nS cS],.int .i64 cl,.slice (some ⟨g,o,none⟩) n c,.slice (some ⟨q,s,none⟩) n d] w (RetS S w):=by
 have b1:=bthen (balloc w (.cells #[.int .i64 k,.int .i64 cap,.int .i64 n,.slice AW nW cW,.slice AS nS cS] 44)) (balloc _ (.cells #[.slice none 0 0,.int .i64 0,.int .i64 0] 26));have L1:=hi_ ((Blk.new w 44 #[.int .i64 k,.int .i64 cap,.int .i64 n,.slice AW nW cW,.slice AS nS cS]).alloc (.cells #[.slice none 0 0,.int .i64 0,.int .i64 0] 26));have rb:=Blk.new (w.alloc (.cells #[.int .i64 k,.int .i64 cap,.int .i64 n,.slice AW nW cW,.slice AS nS cS] 44)) 26 #[.slice none 0 0,.int .i64 0,.int .i64 0];simp only [World.size_alloc] at rb;have ER:=hi_ rb;have EB:=hi_ b1;have HROW:=hi_ (hrow.below EB.out);have HRZ:=hi_ (hrz.below EB.out);have HCK:=hi_ (hck.below EB.out);have HM:=hi_ hm;clear b1 rb hrow hrz hck hm;go_enter Tryz.func33,Tryz.ntmps33
 go_upto_region 1 with fail
 generalize hwe:(w.alloc (.cells #[.int .i64 k,.int .i64 cap,.int .i64 n,.slice AW nW cW,.slice AS nS cS] 44)).alloc (.cells #[.slice none 0 0,.int .i64 0,.int .i64 0] 26)=w1 at *;clear hwe;obtain⟨f0,f1,f2,f3,f4⟩:_∧_∧_∧_∧_:=⟨L1.out.cell 0,L1.out.cell 1,L1.out.cell 2,L1.out.cell 3,L1.out.cell 4⟩
 simp at f0 f1 f2 f3 f4;have hlf:=L1.out.lt;go_wp2_with fail
 refine(args_any k cap cl g o n c q s d nW cW nS cS AW AS xs zs w1 hc1 hc2 hcl hn hnc hnd hx HROW.out hfin hlen hz HRZ.out hg HCK.out).mono ?_;rintro e w2 ⟨rfl,hb⟩;replace L1:=hi_ (L1.out.below hb L1.out.lt);replace ER:=hi_ (ER.out.below hb ER.out.lt);replace EB:=hi_ (bthen EB.out hb);replace HROW:=hi_ (HROW.out.below hb);replace HRZ:=hi_ (HRZ.out.below hb);try (replace HCK:=hi_ (HCK.out.below hb));clear hb f0 f1 f2 f3 f4 hlf;obtain⟨f0,f1,f2,f3,f4⟩:_∧_∧_∧_∧_:=⟨L1.out.cell 0,L1.out.cell 1,L1.out.cell 2,L1.out.cell 3,L1.out.cell 4⟩
 simp at f0 f1 f2 f3 f4;have hlf:=L1.out.lt;go_wp2_with fail
 refine(kind_any k hk1 hk5 _).mono ?_;rintro e w3 ⟨rfl,hb⟩;replace L1:=hi_ (L1.out.below hb L1.out.lt);replace ER:=hi_ (ER.out.below hb ER.out.lt);replace EB:=hi_ (bthen EB.out hb);replace HROW:=hi_ (HROW.out.below hb);replace HRZ:=hi_ (HRZ.out.below hb);try (replace HCK:=hi_ (HCK.out.below hb));clear hb f0 f1 f2 f3 f4 hlf;obtain⟨f0,f1,f2,f3,f4⟩:_∧_∧_∧_∧_:=⟨L1.out.cell 0,L1.out.cell 1,L1.out.cell 2,L1.out.cell 3,L1.out.cell 4⟩
 simp at f0 f1 f2 f3 f4;have hlf:=L1.out.lt;have HM3:=hi_ (HM.out w3 EB.out);have HX:=hi_ (And.intro hk1 hk5);clear hk1 hk5 HM;rcases five HX.out.1 HX.out.2 with rfl|rfl|rfl|rfl|rfl
 all_goals
  simp only [schedV];go_wp2_with fail
  refine HM3.out.mono ?_;rintro e w4 ⟨f,er,hS,A5,m5,d5,rfl,hI5,hA5,hb⟩;have F:=hi_ hS;have hw1:=ER.out.lt;replace ER:=hi_ (ER.out.below hb ER.out.lt);replace EB:=hi_ (bthen EB.out hb);have HI5:=hi_ hI5;have HA5:=hi_ hA5;clear hS hI5 hA5 hb L1 f0 f1 f2 f3 f4 hlf HROW HRZ HCK HM3;obtain⟨⟨r0,r1,r2⟩,⟨y0,y1,y2⟩,hlr⟩:=ER.out.c3;go_wp2_with fail
  have rb:=ER.out.store3 (.slice A5 m5 d5) (.int .i64 f.per) (.int .i64 f.inc);exact bodyPost_ret (v:=.tuple #[.agg #[.slice A5 m5 d5,.int .i64 f.per,.int .i64 f.inc],.int .i64 er]) (by simp [results,Tryz.results33,go_sem,rb.cell]) rfl (retS_store F.out HA5.out (by omega) (by omega) HI5.out EB.out)
end
section
open Go.RowKit
def MsS(S:Cv→Int→Prop)(al:Cv)(i:Bool)(v A er:Int):Prop:=
 ∃f e,S f e∧((e≠0∧i=false∧v=0∧A=0∧er=e)∨(e=0∧DevE (DelayS al f) al f i v A er))
def RetDl(S:Bool→Int→Int→Int→Prop)(w:World)(e:Ending)(w':World):Prop:=
 ∃i v A er,S i v A er∧e = .returned (.tuple #[.agg #[.bool i,.int .i64 v,.int .i64 A],.int .i64 er])∧Below w.heap.size w w'
theorem rest_len{f g r:Cv}{er:Int}(h:RestS f g r er):r.vals.length≤400:=by
 obtain⟨a,b,_,_,_,_,⟨_,rfl,_⟩|⟨_,⟨_,rfl,_⟩|⟨_,g,_,⟨hl,rfl,_⟩|⟨_,rfl,_⟩⟩⟩⟩:=h
 ·decide
 ·decide
 ·exact hl.1
 ·decide
theorem pr_len{cap:Int}{cl:Nat}{fs:List Cv}{zs:List SZ}{r:Cv}{er:Int}(h:PrS cap cl fs zs r er):r.vals.length≤400:=by
 obtain⟨o,e,_,⟨_,rfl,_⟩|⟨_,o2,e2,_,⟨_,rfl,_⟩|⟨_,h⟩⟩⟩:=h
 ·decide
 ·decide
 ·exact rest_len h
set_option maxHeartbeats 4000000 in
set_option maxRecDepth 100000 in
theorem measure1_any(FB:Nat)(al:CR)(k cap:Int)(cl g o n c q s d nW cW nS cS:Nat)(AW AS:Option Addr)(xs:List CR)(zs:List SZ)(w:World)(hc1:1≤cap)(hc2:cap≤4000)(hcl:cl<n)(hn:n≤6)(hnc:n≤c)(hnd:n≤d)(hx:xs.length=n)(hrow:RowO w g o xs)(hfin:∀x∈xs,x.f.Fin)(hlen:∀x∈xs,x.n≤1000)(hz:zs.length=n)(hrz:RowZ w q s zs)(hg:∀x∈zs,x.Good)(hck:ChkOk w #[.int .i64 k,.int .i64 cap,.int .i64 n,.slice AW nW cW,.slice AS nS cS])(hk1:1≤k)(hk5:k≤5)(S:Cv→Int→Prop)(hm:∀w',Below w.heap.size w w'→Calls Tryz.prog (curveF k) #[.agg #[],.agg #[.int .i64 k,.int .i64 cap,.int .i64 n,.slice AW nW cW,.slice AS nS cS],.int .i64 cl,.slice (some ⟨g,o,none⟩) n c,.slice (some ⟨q,s,none⟩) n d] w' (RetS S w'))(h4:∀f er,S f er→f.vals.length≤400)(hfb:Blk w FB 37 #[.func (.func 11) #[] #[]])(hal:xs[cl]?=some al) :
 Calls Tryz.prog 107 #[.agg #[.int .i64 k,.int .i64 cap,.int .i64 n,.slice AW nW cW,.slice AS nS cS],.int .i64 cl,.slice (some ⟨g,o,none⟩) n c,.slice (some ⟨q,s,none⟩) n d,.pointer (some ⟨FB,0,none⟩)] w (RetDl (MsS S al.f) w):=by
 have b1:=bthen (balloc w (.cells #[.int .i64 k,.int .i64 cap,.int .i64 n,.slice AW nW cW,.slice AS nS cS] 44)) (balloc _ (.cells #[.bool false,.int .i64 0,.int .i64 0] 35));have L1:=hi_ ((Blk.new w 44 #[.int .i64 k,.int .i64 cap,.int .i64 n,.slice AW nW cW,.slice AS nS cS]).alloc (.cells #[.bool false,.int .i64 0,.int .i64 0] 35));have rb:=Blk.new (w.alloc (.cells #[.int .i64 k,.int .i64 cap,.int .i64 n,.slice AW nW cW,.slice AS nS cS] 44)) 35 #[.bool false,.int .i64 0,.int .i64 0];simp only [World.size_alloc] at rb;have ER:=hi_ rb;have EB:=hi_ b1;have HROW:=hi_ (hrow.below EB.out);have HRZ:=hi_ (hrz.below EB.out);have HCK:=hi_ (hck.below EB.out);have HFB:=hi_ (hfb.below EB.out hfb.lt);have HAL:=hi_ hal;have hgw:=hrow.lt;have hfw:=hfb.lt;have HM:=hi_ hm;have H4:=hi_ h4;clear b1 rb hrow hrz hck hfb hal hm h4;go_enter Tryz.func107,Tryz.ntmps107
 go_upto_region 1 with fail
 generalize hwe:(w.alloc (.cells #[.int .i64 k,.int .i64 cap,.int .i64 n,.slice AW nW cW,.slice AS nS cS] 44)).alloc (.cells #[.bool false,.int .i64 0,.int .i64 0] 35)=w1 at *;clear hwe;obtain⟨f0,f1,f2,f3,f4⟩:_∧_∧_∧_∧_:=⟨L1.out.cell 0,L1.out.cell 1,L1.out.cell 2,L1.out.cell 3,L1.out.cell 4⟩
 simp at f0 f1 f2 f3 f4;have hlf:=L1.out.lt;go_wp2_with fail
 refine(scurve_any k cap cl g o n c q s d nW cW nS cS AW AS xs zs w1 hc1 hc2 hcl hn hnc hnd hx HROW.out hfin hlen hz HRZ.out hg HCK.out hk1 hk5 S (fun w' hb=>HM.out w' (bthen EB.out hb))).mono ?_;rintro e w2 ⟨f,er,hS,A5,m5,d5,rfl,hI5,hA5,hb⟩;have F1:=hi_ hS;have hm5:m5≤400:=by have h1:=H4.out _ _ hS;have h2:f.vals.length=m5:=hI5.1;omega
 have hFB:=hi_ (HFB.out.below hb HFB.out.lt);have hw1:=(ER.out.below hb ER.out.lt).lt;replace ER:=hi_ ((ER.out.below hb ER.out.lt).alloc (.cells #[.slice A5 m5 d5,.int .i64 f.per,.int .i64 f.inc] 26));replace EB:=hi_ (bthen (bthen EB.out hb) (balloc w2 (.cells #[.slice A5 m5 d5,.int .i64 f.per,.int .i64 f.inc] 26)));replace HROW:=hi_ ((HROW.out.below hb).below (balloc w2 (.cells #[.slice A5 m5 d5,.int .i64 f.per,.int .i64 f.inc] 26)));replace HFB:=hi_ (hFB.out.alloc (.cells #[.slice A5 m5 d5,.int .i64 f.per,.int .i64 f.inc] 26));have HI5:=hi_ (hI5.alloc' (.cells #[.slice A5 m5 d5,.int .i64 f.per,.int .i64 f.inc] 26));have BF:=hi_ (Blk.new w2 26 #[.slice A5 m5 d5,.int .i64 f.per,.int .i64 f.inc]);clear hS hI5 hA5 hb L1 f0 f1 f2 f3 f4 hlf HRZ HCK hFB;go_upto_region 2 with fail
 generalize hwe:w2.alloc (.cells #[.slice A5 m5 d5,.int .i64 f.per,.int .i64 f.inc] 26)=w3 at *;clear hwe;generalize w2.heap.size=Zf at *;by_cases he:er=0
 case neg=>
  have c2:(er != 0)=true:=by simpa using he
  have F:=hi_ (show MsS S al.f false 0 0 er from⟨f,er,F1.out,.inl ⟨he,rfl,rfl,rfl,rfl⟩⟩);clear he;obtain⟨⟨r0,r1,r2⟩,⟨y0,y1,y2⟩,hlr⟩:=ER.out.c3;go_wp2_with fail
  have rb:=ER.out.store3 (.bool false) (.int .i64 0) (.int .i64 0);exact bodyPost_ret (v:=.tuple #[.agg #[.bool false,.int .i64 0,.int .i64 0],.int .i64 er]) (by simp [results,Tryz.results107,go_sem,rb.cell]) rfl ⟨false,0,0,er,F.out,rfl,bst3 EB.out (by omega) _ _ _⟩
 case pos=>
 subst he;go_upto_region 4 with fail
 have hcll:cl<xs.length:=by rw [hx];exact hcl
 replace ER:=hi_ (Blk.drew ER.out);replace EB:=hi_ (Below.drew EB.out);replace HFB:=hi_ (Blk.drew HFB.out);replace BF:=hi_ (Blk.drew BF.out);replace HI5:=hi_ (show Ints w3.drew w3.drew.heap.size A5 m5 f.vals from HI5.out);replace HROW:=hi_ (show RowO w3.drew g o xs from⟨HROW.out.lt,HROW.out.cell,HROW.out.inn⟩);obtain⟨x,hx',hI,x0,x1,x2⟩:=HROW.out.get (k:=cl) hcll;rw [HAL.out] at hx';obtain rfl:=Option.some.inj hx';have hgl:=HROW.out.lt;have b0:w3.drew.cell? ⟨FB,0,none⟩=some (.func (.func 11) #[] #[]):=HFB.out.cell 0;have hbl:=HFB.out.lt;obtain⟨⟨l0,l1,l2⟩,-,hll⟩:=BF.out.c3;have hxn:=hlen al (List.mem_of_getElem? HAL.out);have HI:=hi_ hI;have hcli:(cl:Int)<n:=by omega
 refine wp_region_held_drew (S:=fun w'=>(w'.cell? ⟨FB,0,none⟩=some (.func (.func 11) #[] #[]))∧(w'.cell? ⟨g,o+cl*3,none⟩=some (.slice al.A al.n al.c)∧w'.cell? ⟨g,o+cl*3+1,none⟩=some (.int .i64 al.f.per)∧w'.cell? ⟨g,o+cl*3+2,none⟩=some (.int .i64 al.f.inc))∧w'.cell? ⟨Zf,0,none⟩=some (.slice A5 m5 d5)∧w'.cell? ⟨Zf,1,none⟩=some (.int .i64 f.per)∧w'.cell? ⟨Zf,2,none⟩=some (.int .i64 f.inc)) (by kernel_rfl) (by exact⟨b0,⟨x0,x1,x2⟩,l0,l1,l2⟩) (fun hHeld=>?_);have hwd9:w3.drew.heap.size=w3.heap.size:=rfl;generalize hwd:w3.drew=wd at *;clear hwd hI hx';refine tkO [0,1,2,3,4,5] ?_;(iterate 6 refine tkI ?_);refine tkX ?_;refine rdy2 6 (fun K hK=>?_);go_simp
 refine(delay_any al.A A5 al.n m5 al.c d5 al.f.per al.f.inc f.per f.inc al.f.vals f.vals wd (by exact HI.out) (by exact HI5.out) (by omega) (by omega)).mono ?_;rintro e wf ⟨i,v,A,er,hD,rfl,hb⟩;have F:=hi_ (show MsS S al.f i v A er from⟨f,0,F1.out,.inr ⟨rfl,hD⟩⟩);have y0:=(hb.cell (p:=⟨FB,0,none⟩) hbl).trans b0;have z0:=(hb.cell (p:=⟨g,o+cl*3,none⟩) hgl).trans x0;have z1:=(hb.cell (p:=⟨g,o+cl*3+1,none⟩) hgl).trans x1;have z2:=(hb.cell (p:=⟨g,o+cl*3+2,none⟩) hgl).trans x2;have q0:=(hb.cell (p:=⟨Zf,0,none⟩) hll).trans l0;have q1:=(hb.cell (p:=⟨Zf,1,none⟩) hll).trans l1;have q2:=(hb.cell (p:=⟨Zf,2,none⟩) hll).trans l2;replace ER:=hi_ (ER.out.below hb ER.out.lt);replace EB:=hi_ (bthen EB.out hb);clear hD hHeld x0 x1 x2 l0 l1 l2 b0 hgl hll hbl hb HFB BF HROW HI HI5;refine bkS hK (by exact⟨y0,⟨z0,z1,z2⟩,q0,q1,q2⟩) (fun hHeld=>?_);clear hK K;clear y0 z0 z1 z2 q0 q1 q2;refine tkO [7,8] ?_;(iterate 2 refine tkI ?_);refine tkX ?_;obtain⟨⟨r0,r1,r2⟩,⟨y0,y1,y2⟩,hlr⟩:=ER.out.c3;refine rdy2 9 (fun K hK=>?_);go_simp
 have st:=Sto.three (w.heap.size+1) wf (.bool i) (.int .i64 v) (.int .i64 A);refine hK.out _ _ ?_ (fun hHeld2=>?_)
 ·exact⟨(World.cell?_of_block (a:=⟨FB,0,none⟩) (st.block FB (by omega))).trans hHeld.1,⟨(World.cell?_of_block (a:=⟨g,_,none⟩) (st.block g (by omega))).trans hHeld.2.1.1,(World.cell?_of_block (a:=⟨g,_,none⟩) (st.block g (by omega))).trans hHeld.2.1.2.1,(World.cell?_of_block (a:=⟨g,_,none⟩) (st.block g (by omega))).trans hHeld.2.1.2.2⟩,
   (World.cell?_of_block (a:=⟨Zf,0,none⟩) (st.block Zf (by omega))).trans hHeld.2.2.1,(World.cell?_of_block (a:=⟨Zf,1,none⟩) (st.block Zf (by omega))).trans hHeld.2.2.2.1,(World.cell?_of_block (a:=⟨Zf,2,none⟩) (st.block Zf (by omega))).trans hHeld.2.2.2.2⟩
 clear hK K
 (try simp only [Act.put]);try simp only [g8b,g8c,g8d]
 refine tk1 10 ?_;refine dnH ?_;clear hHeld hHeld2;have rb:=ER.out.store3 (.bool i) (.int .i64 v) (.int .i64 A);go_wp2_with fail
 exact bodyPost_ret (v:=.tuple #[.agg #[.bool i,.int .i64 v,.int .i64 A],.int .i64 er]) (by simp [results,Tryz.results107,go_sem,rb.cell]) rfl ⟨i,v,A,er,F.out,rfl,bst3 EB.out (by omega) _ _ _⟩
theorem measure_any(w:World):Calls Tryz.prog 77 #[(.func (.func 11) #[] #[])] w fun e w'=>∃FB,e = .returned (.func (.func 107) #[] #[.pointer (some ⟨FB,0,none⟩)])∧Blk w' FB 37 #[(.func (.func 11) #[] #[])]∧w.heap.size≤FB∧Below w.heap.size w w':=by
 have B:=hi_ (Blk.new w 37 #[(.func (.func 11) #[] #[])]);have BW:=hi_ (balloc w (.cells #[(.func (.func 11) #[] #[])] 37));go_enter Tryz.func77,Tryz.ntmps77
 go_wp2_with fail
 go_ret
 exact⟨_,rfl,B.out,Nat.le_refl _,BW.out⟩
set_option maxHeartbeats 4000000 in
set_option maxRecDepth 100000 in
theorem sdelay_any(al:CR)(k cap:Int)(cl g o n c q s d nW cW nS cS:Nat)(AW AS:Option Addr)(xs:List CR)(zs:List SZ)(w:World)(hc1:1≤cap)(hc2:cap≤4000)(hcl:cl<n)(hn:n≤6)(hnc:n≤c)(hnd:n≤d)(hx:xs.length=n)(hrow:RowO w g o xs)(hfin:∀x∈xs,x.f.Fin)(hlen:∀x∈xs,x.n≤1000)(hz:zs.length=n)(hrz:RowZ w q s zs)(hg:∀x∈zs,x.Good)(hck:ChkOk w #[.int .i64 k,.int .i64 cap,.int .i64 n,.slice AW nW cW,.slice AS nS cS])(hk1:1≤k)(hk5:k≤5)(S:Cv→Int→Prop)(hm:∀w',Below w.heap.size w w'→Calls Tryz.prog (curveF k) #[.agg #[],.agg #[.int .i64 k,.int .i64 cap,.int .i64 n,.slice AW nW cW,.slice AS nS cS],.int .i64 cl,.slice (some ⟨g,o,none⟩) n c,.slice (some ⟨q,s,none⟩) n d] w' (RetS S w'))(h4:∀f er,S f er→f.vals.length≤400)(hne:k≠1)(hal:xs[cl]?=some al) :
 Calls Tryz.prog 24 #[.agg #[.int .i64 k,.int .i64 cap,.int .i64 n,.slice AW nW cW,.slice AS nS cS],.int .i64 cl,.slice (some ⟨g,o,none⟩) n c,.slice (some ⟨q,s,none⟩) n d] w (RetDl (MsS S al.f) w):=by
 have b1:=bthen (balloc w (.cells #[.int .i64 k,.int .i64 cap,.int .i64 n,.slice AW nW cW,.slice AS nS cS] 44)) (balloc _ (.cells #[.bool false,.int .i64 0,.int .i64 0] 35));have L1:=hi_ ((Blk.new w 44 #[.int .i64 k,.int .i64 cap,.int .i64 n,.slice AW nW cW,.slice AS nS cS]).alloc (.cells #[.bool false,.int .i64 0,.int .i64 0] 35));have rb:=Blk.new (w.alloc (.cells #[.int .i64 k,.int .i64 cap,.int .i64 n,.slice AW nW cW,.slice AS nS cS] 44)) 35 #[.bool false,.int .i64 0,.int .i64 0];simp only [World.size_alloc] at rb;have ER:=hi_ rb;have EB:=hi_ b1;have HROW:=hi_ (hrow.below EB.out);have HRZ:=hi_ (hrz.below EB.out);have HCK:=hi_ (hck.below EB.out);have HM:=hi_ hm;have H4:=hi_ h4;have dk:(k != 1)=true:=by simpa using hne
 clear b1 rb hrow hrz hck hm h4 hne;go_enter Tryz.func24,Tryz.ntmps24
 go_upto_region 1 with fail
 generalize hwe:(w.alloc (.cells #[.int .i64 k,.int .i64 cap,.int .i64 n,.slice AW nW cW,.slice AS nS cS] 44)).alloc (.cells #[.bool false,.int .i64 0,.int .i64 0] 35)=w1 at *;clear hwe;obtain⟨f0,f1,f2,f3,f4⟩:_∧_∧_∧_∧_:=⟨L1.out.cell 0,L1.out.cell 1,L1.out.cell 2,L1.out.cell 3,L1.out.cell 4⟩
 simp at f0 f1 f2 f3 f4;have hlf:=L1.out.lt;go_upto_region 2 with fail
 replace ER:=hi_ (Blk.drew ER.out);replace EB:=hi_ (Below.drew EB.out);replace L1:=hi_ (Blk.drew L1.out);replace HROW:=hi_ (show RowO w1.drew g o xs from⟨HROW.out.lt,HROW.out.cell,HROW.out.inn⟩);replace HRZ:=hi_ (show RowZ w1.drew q s zs from⟨HRZ.out.lt,HRZ.out.cell⟩);replace HCK:=hi_ (show ChkOk w1.drew #[.int .i64 k,.int .i64 cap,.int .i64 n,.slice AW nW cW,.slice AS nS cS] from fun w' h=>HCK.out w' (bofdrew h));refine wp_region_held_drew (S:=fun w'=>w'.cell? ⟨w.heap.size,0,none⟩=some (.int .i64 k)∧w'.cell? ⟨w.heap.size,1,none⟩=some (.int .i64 cap)∧w'.cell? ⟨w.heap.size,2,none⟩=some (.int .i64 n)∧w'.cell? ⟨w.heap.size,3,none⟩=some (.slice AW nW cW)∧w'.cell? ⟨w.heap.size,4,none⟩=some (.slice AS nS cS)) (by kernel_rfl) (by exact⟨f0,f1,f2,f3,f4⟩) (fun hHeld=>?_);clear f0 f1 f2 f3 f4 hlf;generalize hwd:w1.drew=wd at *;clear hwd;obtain⟨f0,f1,f2,f3,f4⟩:_∧_∧_∧_∧_:=⟨L1.out.cell 0,L1.out.cell 1,L1.out.cell 2,L1.out.cell 3,L1.out.cell 4⟩
 simp at f0 f1 f2 f3 f4;have hlf:=L1.out.lt;refine tkO [1,2,3,4] ?_;(iterate 4 refine tkI ?_);refine tkX ?_;refine rdy2 0 (fun K hK=>?_);go_simp
 refine(measure_any wd).mono ?_;rintro e we ⟨FB,rfl,hfb,hFB0,hb⟩;have HFB:=hi_ hfb;clear hfb hHeld;replace L1:=hi_ (L1.out.below hb L1.out.lt);replace ER:=hi_ (ER.out.below hb ER.out.lt);replace EB:=hi_ (bthen EB.out hb);replace HROW:=hi_ (HROW.out.below hb);replace HRZ:=hi_ (HRZ.out.below hb);try (replace HCK:=hi_ (HCK.out.below hb));clear hb f0 f1 f2 f3 f4 hlf;obtain⟨f0,f1,f2,f3,f4⟩:_∧_∧_∧_∧_:=⟨L1.out.cell 0,L1.out.cell 1,L1.out.cell 2,L1.out.cell 3,L1.out.cell 4⟩
 simp at f0 f1 f2 f3 f4;have hlf:=L1.out.lt;refine bkS hK (by exact⟨f0,f1,f2,f3,f4⟩) (fun hHeld=>?_);clear hK K;refine rdy2 5 (fun K hK=>?_);go_simp
 refine(measure1_any FB al k cap cl g o n c q s d nW cW nS cS AW AS xs zs we hc1 hc2 hcl hn hnc hnd hx HROW.out hfin hlen hz HRZ.out hg HCK.out hk1 hk5 S (fun w' hb=>HM.out w' (bthen (show Below w.heap.size w we from EB.out) hb)) H4.out HFB.out hal).mono ?_;rintro e wf ⟨i,v,A,er,hS,rfl,hb⟩;have F:=hi_ hS;clear hS hHeld;replace L1:=hi_ (L1.out.below hb L1.out.lt);replace ER:=hi_ (ER.out.below hb ER.out.lt);replace EB:=hi_ (bthen EB.out hb);replace HROW:=hi_ (HROW.out.below hb);replace HRZ:=hi_ (HRZ.out.below hb);try (replace HCK:=hi_ (HCK.out.below hb));clear hb f0 f1 f2 f3 f4 hlf;obtain⟨f0,f1,f2,f3,f4⟩:_∧_∧_∧_∧_:=⟨L1.out.cell 0,L1.out.cell 1,L1.out.cell 2,L1.out.cell 3,L1.out.cell 4⟩
 simp at f0 f1 f2 f3 f4;have hlf:=L1.out.lt;refine bkS hK (by exact⟨f0,f1,f2,f3,f4⟩) (fun hHeld=>?_);clear hK K;refine tkO [6,7] ?_;(iterate 2 refine tkI ?_);refine tkX ?_;obtain⟨⟨r0,r1,r2⟩,⟨y0,y1,y2⟩,hlr⟩:=ER.out.c3;refine rdy2 8 (fun K hK=>?_);go_simp
 have st:=Sto.three (w.heap.size+1) wf (.bool i) (.int .i64 v) (.int .i64 A);refine hK.out _ _ ?_ (fun hHeld2=>?_)
 ·exact⟨(World.cell?_of_block (a:=⟨w.heap.size,0,none⟩) (st.block w.heap.size (by omega))).trans f0,(World.cell?_of_block (a:=⟨w.heap.size,1,none⟩) (st.block w.heap.size (by omega))).trans f1,(World.cell?_of_block (a:=⟨w.heap.size,2,none⟩) (st.block w.heap.size (by omega))).trans f2,(World.cell?_of_block (a:=⟨w.heap.size,3,none⟩) (st.block w.heap.size (by omega))).trans f3,(World.cell?_of_block (a:=⟨w.heap.size,4,none⟩) (st.block w.heap.size (by omega))).trans f4⟩
 clear hK K
 (try simp only [Act.put]);try simp only [g8b,g8c,g8d]
 refine tk1 9 ?_;refine dnH ?_;clear hHeld hHeld2;have rb:=ER.out.store3 (.bool i) (.int .i64 v) (.int .i64 A);go_wp2_with fail
 exact bodyPost_ret (v:=.tuple #[.agg #[.bool i,.int .i64 v,.int .i64 A],.int .i64 er]) (by simp [results,Tryz.results24,go_sem,rb.cell]) rfl ⟨i,v,A,er,F.out,rfl,bst3 EB.out (by omega) _ _ _⟩
end
section
open Go.RowKit
def AllS(cap:Int)(fs:List Cv)(i:Bool)(v A er:Int):Prop:=
 ∃o e,TotR cvZ fs o e∧((e≠0∧i=false∧v=0∧A=0∧er=e)∨(e=0∧DevE (DelayS o (lineCv cap)) o (lineCv cap) i v A er))
set_option maxHeartbeats 4000000 in
set_option maxRecDepth 100000 in
theorem sall_any(k cap:Int)(g o n c nW cW nS cS:Nat)(AW AS:Option Addr)(xs:List CR)(w:World)(hc1:1≤cap)(hc2:cap≤4000)(hn:n≤6)(hn1:1≤n)(hx:xs.length=n)(hrow:RowO w g o xs)(hlen:∀x∈xs,x.n≤1000) :
 Calls Tryz.prog 79 #[.agg #[.int .i64 k,.int .i64 cap,.int .i64 n,.slice AW nW cW,.slice AS nS cS],.slice (some ⟨g,o,none⟩) n c] w (RetDl (AllS cap (xs.map CR.f)) w):=by
 have b1:=bthen (balloc w (.cells #[.int .i64 k,.int .i64 cap,.int .i64 n,.slice AW nW cW,.slice AS nS cS] 44)) (balloc _ (.cells #[.bool false,.int .i64 0,.int .i64 0] 35));have L1:=hi_ ((Blk.new w 44 #[.int .i64 k,.int .i64 cap,.int .i64 n,.slice AW nW cW,.slice AS nS cS]).alloc (.cells #[.bool false,.int .i64 0,.int .i64 0] 35));have rb:=Blk.new (w.alloc (.cells #[.int .i64 k,.int .i64 cap,.int .i64 n,.slice AW nW cW,.slice AS nS cS] 44)) 35 #[.bool false,.int .i64 0,.int .i64 0];simp only [World.size_alloc] at rb;have ER:=hi_ rb;have EB:=hi_ b1;have HROW:=hi_ (hrow.below EB.out);have HLE:=hi_ hlen;clear b1 rb hrow hlen;go_enter Tryz.func79,Tryz.ntmps79
 go_upto_region 1 with fail
 generalize hwe:(w.alloc (.cells #[.int .i64 k,.int .i64 cap,.int .i64 n,.slice AW nW cW,.slice AS nS cS] 44)).alloc (.cells #[.bool false,.int .i64 0,.int .i64 0] 35)=w1 at *;clear hwe;go_wp2_with fail
 refine(total_anyO (some ⟨g,o,none⟩) n c xs w1 hx (by omega) (fun _=>⟨g,o,rfl,HROW.out⟩) (fun x hx=>by have:=HLE.out x hx;omega)).mono ?_;rintro e w2 ⟨f,er,hS,A5,m5,d5,rfl,hI5,hA5,hb⟩;have T1:=hi_ hS;have hm1:m5≤400:=by have h1:=tot_len cvZ_len hS;have h2:f.vals.length=m5:=hI5.1;omega
 have hbb:=bthen hb (balloc w2 (.cells #[.slice A5 m5 d5,.int .i64 f.per,.int .i64 f.inc] 26));have I1:=hi_ (hI5.alloc' (.cells #[.slice A5 m5 d5,.int .i64 f.per,.int .i64 f.inc] 26));have BO:=hi_ (Blk.new w2 26 #[.slice A5 m5 d5,.int .i64 f.per,.int .i64 f.inc]);have hwa:=(ER.out.below hb ER.out.lt).lt;replace L1:=hi_ (L1.out.below hbb L1.out.lt);replace ER:=hi_ (ER.out.below hbb ER.out.lt);replace EB:=hi_ (bthen EB.out hbb);clear hS hI5 hA5 hb hbb HROW HLE;go_upto_region 2 with fail
 generalize hwe:w2.alloc (.cells #[.slice A5 m5 d5,.int .i64 f.per,.int .i64 f.inc] 26)=w3 at *;clear hwe;generalize w2.heap.size=Zo at *;by_cases he:er=0
 case neg=>
  have c2:(er != 0)=true:=by simpa using he
  have F:=hi_ (show AllS cap (xs.map CR.f) false 0 0 er from⟨f,er,T1.out,.inl ⟨he,rfl,rfl,rfl,rfl⟩⟩);clear he;obtain⟨⟨r0,r1,r2⟩,⟨y0,y1,y2⟩,hlr⟩:=ER.out.c3;go_wp2_with fail
  have rb:=ER.out.store3 (.bool false) (.int .i64 0) (.int .i64 0);exact bodyPost_ret (v:=.tuple #[.agg #[.bool false,.int .i64 0,.int .i64 0],.int .i64 er]) (by simp [results,Tryz.results79,go_sem,rb.cell]) rfl ⟨false,0,0,er,F.out,rfl,bst3 EB.out (by omega) _ _ _⟩
 case pos=>
 subst he;have f1:=L1.out.cell 1;simp at f1;have hlf:=L1.out.lt;go_wp2_with fail
 refine(serve_any cap w3 hc1 hc2).mono ?_;rintro e w4 ⟨A6,m6,d6,rfl,hI6,hA6,hb⟩;have hm6:m6≤400:=by
  have h2:(lineCv cap).vals.length=m6:=hI6.1;have h3:(lineCv cap).vals.length≤400:=by simp [lineCv]
  omega
 replace BO:=hi_ ((BO.out.below hb BO.out.lt).alloc (.cells #[.slice A6 m6 d6,.int .i64 (lineCv cap).per,.int .i64 (lineCv cap).inc] 26));have hbb:=bthen hb (balloc w4 (.cells #[.slice A6 m6 d6,.int .i64 (lineCv cap).per,.int .i64 (lineCv cap).inc] 26));replace I1:=hi_ (I1.out.ext hbb);have I6:=hi_ (hI6.alloc' (.cells #[.slice A6 m6 d6,.int .i64 (lineCv cap).per,.int .i64 (lineCv cap).inc] 26));have B6:=hi_ (Blk.new w4 26 #[.slice A6 m6 d6,.int .i64 (lineCv cap).per,.int .i64 (lineCv cap).inc]);replace ER:=hi_ (ER.out.below hbb ER.out.lt);replace EB:=hi_ (bthen EB.out hbb);clear hI6 hA6 hb hbb L1 f1 hlf;generalize hlc:lineCv cap=lc at *;have HLC:=hi_ hlc;clear hlc;go_upto_region 5 with fail
 generalize hwe:w4.alloc (.cells #[.slice A6 m6 d6,.int .i64 lc.per,.int .i64 lc.inc] 26)=w5 at *;clear hwe;generalize w4.heap.size=Zp at *;obtain⟨⟨o0,o1,o2⟩,-,hlo⟩:=BO.out.c3;obtain⟨⟨q0,q1,q2⟩,-,hlq⟩:=B6.out.c3;obtain⟨⟨r0,r1,r2⟩,⟨y0,y1,y2⟩,hlr⟩:=ER.out.c3;go_wp2_with fail
 refine(delay_any A5 A6 m5 m6 d5 d6 f.per f.inc lc.per lc.inc f.vals lc.vals w5 (by exact I1.out) (by exact I6.out) (by omega) (by omega)).mono ?_;rintro e wf ⟨i,v,A,er,hD,rfl,hb⟩;have F:=hi_ (show AllS cap (xs.map CR.f) i v A er from⟨f,0,T1.out,.inr ⟨rfl,by rw [HLC.out];exact hD⟩⟩);replace ER:=hi_ (ER.out.below hb ER.out.lt);replace EB:=hi_ (bthen EB.out hb);clear hD hb y0 y1 y2 r0 r1 r2 hlr q0 q1 q2 hlq o0 o1 o2 hlo;obtain⟨⟨r0,r1,r2⟩,⟨y0,y1,y2⟩,hlr⟩:=ER.out.c3;go_wp2_with fail
 have rb:=ER.out.store3 (.bool i) (.int .i64 v) (.int .i64 A);exact bodyPost_ret (v:=.tuple #[.agg #[.bool i,.int .i64 v,.int .i64 A],.int .i64 er]) (by simp [results,Tryz.results79,go_sem,rb.cell]) rfl ⟨i,v,A,er,F.out,rfl,bst3 EB.out (by omega) _ _ _⟩
set_option maxHeartbeats 4000000 in
set_option maxRecDepth 100000 in
theorem sdelay1_any(k cap:Int)(cl g o n c q s d nW cW nS cS:Nat)(AW AS:Option Addr)(xs:List CR)(zs:List SZ)(w:World)(hc1:1≤cap)(hc2:cap≤4000)(hcl:cl<n)(hn:n≤6)(hnc:n≤c)(hnd:n≤d)(hx:xs.length=n)(hrow:RowO w g o xs)(hfin:∀x∈xs,x.f.Fin)(hlen:∀x∈xs,x.n≤1000)(hz:zs.length=n)(hrz:RowZ w q s zs)(hg:∀x∈zs,x.Good)(hck:ChkOk w #[.int .i64 k,.int .i64 cap,.int .i64 n,.slice AW nW cW,.slice AS nS cS])(hk1:k=1) :
 Calls Tryz.prog 24 #[.agg #[.int .i64 k,.int .i64 cap,.int .i64 n,.slice AW nW cW,.slice AS nS cS],.int .i64 cl,.slice (some ⟨g,o,none⟩) n c,.slice (some ⟨q,s,none⟩) n d] w (RetDl (AllS cap (xs.map CR.f)) w):=by
 have b1:=bthen (balloc w (.cells #[.int .i64 k,.int .i64 cap,.int .i64 n,.slice AW nW cW,.slice AS nS cS] 44)) (balloc _ (.cells #[.bool false,.int .i64 0,.int .i64 0] 35));have L1:=hi_ ((Blk.new w 44 #[.int .i64 k,.int .i64 cap,.int .i64 n,.slice AW nW cW,.slice AS nS cS]).alloc (.cells #[.bool false,.int .i64 0,.int .i64 0] 35));have rb:=Blk.new (w.alloc (.cells #[.int .i64 k,.int .i64 cap,.int .i64 n,.slice AW nW cW,.slice AS nS cS] 44)) 35 #[.bool false,.int .i64 0,.int .i64 0];simp only [World.size_alloc] at rb;have ER:=hi_ rb;have EB:=hi_ b1;have HROW:=hi_ (hrow.below EB.out);have HRZ:=hi_ (hrz.below EB.out);have HCK:=hi_ (hck.below EB.out);have dk:(k != 1)=false:=by simp [hk1]
 clear b1 rb hrow hrz hck hk1;go_enter Tryz.func24,Tryz.ntmps24
 go_upto_region 1 with fail
 generalize hwe:(w.alloc (.cells #[.int .i64 k,.int .i64 cap,.int .i64 n,.slice AW nW cW,.slice AS nS cS] 44)).alloc (.cells #[.bool false,.int .i64 0,.int .i64 0] 35)=w1 at *;clear hwe;obtain⟨f0,f1,f2,f3,f4⟩:_∧_∧_∧_∧_:=⟨L1.out.cell 0,L1.out.cell 1,L1.out.cell 2,L1.out.cell 3,L1.out.cell 4⟩
 simp at f0 f1 f2 f3 f4;have hlf:=L1.out.lt;go_wp2_with fail
 refine(args_any k cap cl g o n c q s d nW cW nS cS AW AS xs zs w1 hc1 hc2 hcl hn hnc hnd hx HROW.out hfin hlen hz HRZ.out hg HCK.out).mono ?_;rintro e w2 ⟨rfl,hb⟩;replace L1:=hi_ (L1.out.below hb L1.out.lt);replace ER:=hi_ (ER.out.below hb ER.out.lt);replace EB:=hi_ (bthen EB.out hb);replace HROW:=hi_ (HROW.out.below hb);replace HRZ:=hi_ (HRZ.out.below hb);try (replace HCK:=hi_ (HCK.out.below hb));clear hb f0 f1 f2 f3 f4 hlf;obtain⟨f0,f1,f2,f3,f4⟩:_∧_∧_∧_∧_:=⟨L1.out.cell 0,L1.out.cell 1,L1.out.cell 2,L1.out.cell 3,L1.out.cell 4⟩
 simp at f0 f1 f2 f3 f4;have hlf:=L1.out.lt;go_wp2_with fail
 refine(sall_any k cap g o n c nW cW nS cS AW AS xs w2 hc1 hc2 hn (by omega) hx HROW.out hlen).mono ?_;rintro e w3 ⟨i,v,A,er,hS,rfl,hb⟩;have F:=hi_ hS;replace ER:=hi_ (ER.out.below hb ER.out.lt);replace EB:=hi_ (bthen EB.out hb);clear hS hb L1 f0 f1 f2 f3 f4 hlf HROW HRZ HCK;obtain⟨⟨r0,r1,r2⟩,⟨y0,y1,y2⟩,hlr⟩:=ER.out.c3;go_wp2_with fail
 have rb:=ER.out.store3 (.bool i) (.int .i64 v) (.int .i64 A);exact bodyPost_ret (v:=.tuple #[.agg #[.bool i,.int .i64 v,.int .i64 A],.int .i64 er]) (by simp [results,Tryz.results24,go_sem,rb.cell]) rfl ⟨i,v,A,er,F.out,rfl,bst3 EB.out (by omega) _ _ _⟩
end
end Go.Proofs.YtaejfleahamapaaGreat
