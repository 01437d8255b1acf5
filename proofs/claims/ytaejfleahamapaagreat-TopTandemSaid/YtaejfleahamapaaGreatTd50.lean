/- . -/
import Derived.Test.YtaejfleahamapaaGreatTd44
import Derived.Test.YtaejfleahamapaaGreatTd49
namespace Go.Proofs.YtaejfleahamapaaGreat
set_option linter.unusedVariables false
set_option linter.unusedSimpArgs false
variable{u0 u1 u3 u5 u6 u7 u8 u9 u10 u11 u12 u13 u14 u15 u16 u17 u18 u19 u20 u21 u22 u23 u24 u25 u26 u27 u28 u29 u30 u31 u32 u33 u34 u35 u36 u37 u38 u39 u40 u41 u42 u43 u44 u45 u46 u47 u48 u49 u50 u51 u52 u53 u54 u55 u56 u57 u58 u59 u60 u61 u62 u63 u64 u65 u66 u67 u68 u69 u70 u71 u72 u73 u74 u75 u76 u77 u78 u79 u80 u81 u82 u83 u84 u85 u86 u87 u88 u89 u90 u91 u92 u93 u94 u95 u96 u97 u98 u99 u100 u101 u102 u103 u104 u105 u106 u107 u108 u109 u110 u111 u112 u113 u114 u115 u116 u117 u118 u119 u120 u121 u122 u123 u124 u125 u126 u127 u128 u129 u130 u131 u132 u133 u134 u135 u136 u137 u138 u139 u140 u141 u142 u143 u144 u145 u146 u147 u148 u149 u150 u151 u152 u153 u154 u155 u156 u157 u158 u159 u160 u161 u162:Value}
set_option maxHeartbeats 8000000
set_option maxRecDepth 100000
open Go.RowKit
theorem mS.below{w wr wx:World}{l1 l2:LD}{A1 A2:Option Addr}{c1 c2 gD1 gD2:Nat}{vf:Value}{ps q:List PK}{done1 done2:List Int}(h:mS w wr l1 l2 A1 A2 c1 c2 gD1 gD2 vf ps q done1 done2)(hb:Below wr.heap.size wr wx):mS w wx l1 l2 A1 A2 c1 c2 gD1 gD2 vf ps q done1 done2:=
 ⟨cJ.below h.o1 hb,cJ.below h.o2 hb,h.tp.below hb,h.tq.below hb,h.d1.below hb h.d1.lt,h.d2.below hb h.d2.lt,h.f.kx (X:=fun _=>False) (KX.of hb) (fun _ _ h=>h),h.p5,h.sq,h.lq,h.sel,h.r1,h.r2⟩
structure iR(w wb wr:World)(T:Nat)(l1 l2:LD)(A1 A2:Option Addr)(c1 c2 gD1 gS1 gD2 gS2:Nat)(vf:Value)(ps q:List PK)(done1 done2:List Int):Prop where
 b:Below w.heap.size w wr
 tb:aC wr T 80 (TC l1 l2 (.slice A1 ps.length c1) (.slice A2 q.length c2) (.slice (some ⟨gD1,0,none⟩) ps.length ps.length) (.slice (some ⟨gS1,0,none⟩) 2 2) (.slice (some ⟨gD2,0,none⟩) q.length q.length) (.slice (some ⟨gS2,0,none⟩) 2 2) vf true)
 r:mS wb wr l1 l2 A1 A2 c1 c2 gD1 gD2 vf ps q done1 done2
section
variable{w wb wr wx:World}{T:Nat}{l1 l2:LD}{A1 A2:Option Addr}{c1 c2 gD1 gS1 gD2 gS2:Nat}{vf:Value}{ps q:List PK}{done1 done2:List Int}
theorem iR.below(h:iR w wb wr T l1 l2 A1 A2 c1 c2 gD1 gS1 gD2 gS2 vf ps q done1 done2)(hb:Below wr.heap.size wr wx):iR w wb wx T l1 l2 A1 A2 c1 c2 gD1 gS1 gD2 gS2 vf ps q done1 done2:=⟨aD h.b hb,h.tb.below hb h.tb.lt,h.r.below hb⟩
theorem iR.drew(h:iR w wb wr T l1 l2 A1 A2 c1 c2 gD1 gS1 gD2 gS2 vf ps q done1 done2):iR w wb wr.drew T l1 l2 A1 A2 c1 c2 gD1 gS1 gD2 gS2 vf ps q done1 done2:=h.below (cC (k:=1) (Below.refl _ _))
end
theorem aE.lt2{w:World}{A:Option Addr}{n b off:Nat}{s}{zs:List Int}(h:aE w w.heap.size A n zs)(hn:0<n)(e:A=some ⟨b,off,s⟩):b<w.heap.size:=by
 obtain⟨b',off',e',hb,_⟩:=h.2 hn;rw [e] at e';cases e';exact hb
def gE:Nat->Code->Code
 | 0,c=>c
 | n+1,.seq _ b=>gE n b
 | _,c=>c
theorem a4z{w w1:World}{T:Nat}{l1 l2:LD}{A1 A2:Option Addr}{c1 c2 gD1 gS1 gD2 gS2:Nat}{vA:Option Addr}{vc:Nat}{ps q:List PK}{done1 done2:List Int}{er3 er4 er5:Int}{i:Bool}{v A':Int}{D:Nat}{wr:World}(E:Hid (iR w w1 wr T l1 l2 A1 A2 c1 c2 gD1 gS1 gD2 gS2 (.slice vA (bO ps done1 ps.length).length vc) ps q done1 done2))(P5:Hid (gY 9 ps))(SQ:Hid (Sm q))(DB:Hid (aC wr D 35 #[.bool i,.int .i64 v,.int .i64 A']))(LWP:Hid (er3=0->er4=0->er5=0->i=false->rW ps q done1 done2 v)) :
 Code.wp Tryz.prog (gE 11 (Tryz.f6.body.getD .skip)) (bodyPost Tryz.prog Tryz.f6 (fun e w'=>e=Ending.returned (.bool true)/\Below w.heap.size w w')) ⟨List.toArray (u0 :: u1 :: (.bool false) :: u3 :: (.pointer (some ⟨T,0,none⟩)) :: u5 :: u6 :: u7 :: u8 :: u9 :: u10 :: u11 :: (.int .i64 er3) :: u13 :: (.int .i64 er4) :: (.pointer (some ⟨D,0,none⟩)) :: (.int .i64 er5) :: u17 :: u18 :: u19 :: u20 :: u21 :: u22 :: u23 :: u24 :: u25 :: u26 :: u27 :: u28 :: u29 :: u30 :: u31 :: u32 :: u33 :: u34 :: u35 :: u36 :: u37 :: u38 :: u39 :: u40 :: u41 :: u42 :: u43 :: u44 :: u45 :: u46 :: u47 :: u48 :: u49 :: u50 :: u51 :: u52 :: u53 :: u54 :: u55 :: u56 :: u57 :: u58 :: u59 :: u60 :: u61 :: u62 :: u63 :: u64 :: u65 :: u66 :: u67 :: u68 :: u69 :: u70 :: u71 :: u72 :: u73 :: u74 :: u75 :: u76 :: u77 :: u78 :: u79 :: u80 :: u81 :: u82 :: u83 :: u84 :: u85 :: u86 :: u87 :: u88 :: u89 :: u90 :: u91 :: u92 :: u93 :: u94 :: u95 :: u96 :: u97 :: u98 :: u99 :: u100 :: u101 :: u102 :: u103 :: u104 :: u105 :: u106 :: u107 :: u108 :: u109 :: u110 :: u111 :: u112 :: u113 :: u114 :: u115 :: u116 :: u117 :: u118 :: u119 :: u120 :: u121 :: u122 :: u123 :: u124 :: u125 :: u126 :: u127 :: u128 :: u129 :: u130 :: u131 :: u132 :: u133 :: u134 :: u135 :: u136 :: u137 :: u138 :: u139 :: u140 :: u141 :: u142 :: u143 :: u144 :: u145 :: u146 :: u147 :: u148 :: u149 :: u150 :: u151 :: u152 :: u153 :: u154 :: u155 :: u156 :: u157 :: u158 :: u159 :: u160 :: u161 :: u162 :: []),[]⟩ wr:=by
 conv in gE _ _=>simp only [Tryz.f6,gE,Option.getD]
 by_cases h1:er3=0
 case neg=>
  have z1:(er3 != 0)=true:=by simpa using h1
  go_wp2_with fail
  refine(mG _).mono ?_;rintro e wq ⟨rfl,hb⟩;have bw:=(E.out.below hb).b;go_wp2_with fail
  go_ret
  exact⟨rfl,bw⟩
 case pos=>
 subst h1;by_cases h2:er4=0
 case neg=>
  have z1:(er4 != 0)=true:=by simpa using h2
  go_wp2_with fail
  refine(mG _).mono ?_;rintro e wq ⟨rfl,hb⟩;have bw:=(E.out.below hb).b;go_wp2_with fail
  go_ret
  exact⟨rfl,bw⟩
 case pos=>
 subst h2;by_cases h3:er5=0
 case neg=>
  have z1:(er5 != 0)=true:=by simpa using h3
  go_wp2_with fail
  refine(mG _).mono ?_;rintro e wq ⟨rfl,hb⟩;have bw:=(E.out.below hb).b;go_wp2_with fail
  go_ret
  exact⟨rfl,bw⟩
 case pos=>
 subst h3;have d0:=DB.out.cell 0;simp at d0;have hld:=DB.out.lt;cases i
 case true=>
  go_wp2_with fail
  refine(mG _).mono ?_;rintro e wq ⟨rfl,hb⟩;have bw:=(E.out.below hb).b;go_wp2_with fail
  go_ret
  exact⟨rfl,bw⟩
 case false=>
 have LW:=aA (LWP.out rfl rfl rfl rfl);clear LWP;obtain⟨t3,t6⟩:_/\_:=⟨E.out.tb.cell 11,E.out.tb.cell 16⟩
 simp at t3 t6;have htl:=E.out.tb.lt;have hq15:=SQ.out.len;have hln:done2.length=q.length:=by
  obtain⟨sent,h⟩:=E.out.r.r2;exact(h.lens SQ.out.v (by have:=E.out.r.o2.c1;omega)).1
 have HLN:=aA hln;clear hln;go_upto_region 16 with fail
 go_wp2_with fail
 clear t3 t6 htl d0 hld;go_loopg [17,100] q.length (fun gg s17 s100 wx=>∃m k:Nat,m+gg=q.length/\s17 = .int .i64 ((aX 0 (q.take m)).length:Nat)/\s100 = .int .i64 m/\wx=wr.drewN k)
 case atStart=>exact⟨0,0,by omega,by rfl,rfl,rfl⟩
 case round=>
  obtain⟨m,k,hmg,rfl,rfl,rfl⟩:=hrel;obtain⟨n,hn⟩:∃n,n=(aX 0 (q.take m)).length:=⟨_,rfl⟩
  rw [<- hn];have HN:=aA hn;clear hn;by_cases hm:m<q.length
  case pos=>
   have hmi:(m:Int)<q.length:=by omega
   obtain⟨x,hx⟩:∃x,q[m]?=some x:=⟨_,List.getElem?_eq_getElem hm⟩
   obtain⟨g,o,rfl,hr⟩:=E.out.r.tq.2.2 (by omega);have y0:=hr.cell m 0 x hx (by omega);replace y0:wr.cell? ⟨g,o+m*3,none⟩=some (.int .i64 x.fl):=y0;have hla:g<wr.heap.size:=hr.lt;obtain⟨t0,t1,t2,t3⟩:_/\_/\_/\_:=⟨E.out.tb.cell 10,E.out.tb.cell 11,E.out.tb.cell 14,E.out.tb.cell 16⟩
   simp at t0 t1 t2 t3;have htl:T<wr.heap.size:=E.out.tb.lt;have HX:=aA hx;clear hx hr;by_cases hf:x.fl=0
   case neg=>
    have z1:(x.fl != 0)=true:=by simpa using hf
    have HF:=aA hf;clear hf;generalize x.fl=fl at y0 z1;go_wp2_with fail
    go_roundg (gk-1)
    case measure=>omega
    case rel=>exact⟨m+1,_,by omega,by rw [a3m HX.out HF.out,HN.out],by go_num,rfl⟩
   case pos=>
    have z1:(x.fl != 0)=false:=by simpa using hf
    obtain⟨i,y,hnl,hni,hy,hb⟩:=LW.out.2.2.2 m x HX.out hf;have hstep:=a3n HX.out hf;rw [<- HN.out] at hnl hni hstep;have HS:=aA hstep;clear hstep hf;have hil:i<ps.length:=(List.getElem?_eq_some_iff.1 hy).1;have hp9:=P5.out.len;have hyg:=P5.out.g y (List.mem_of_getElem? hy);obtain⟨g3,o3,rfl,hr⟩:=E.out.r.tp.2.2 (by omega);have y1:=hr.cell i 1 y hy (by omega);replace y1:wr.cell? ⟨g3,o3+i*3+1,none⟩=some (.int .i64 y.tm):=y1;have hlc:g3<wr.heap.size:=hr.lt;obtain⟨A5,c5,e5,hc5,hi5,-⟩:=E.out.r.f.ints;cases e5
    obtain⟨b5,o5,rfl,hl5,hc⟩:=hi5.2 (by omega);have y2:=hc n hnl;rw [hni] at y2;have y3:=E.out.r.d2.cell m (by rw [HLN.out];exact hm);have hld:gD2<wr.heap.size:=E.out.r.d2.lt;obtain⟨d0,d1,d2⟩:_/\_/\_:=⟨DB.out.cell 0,DB.out.cell 1,DB.out.cell 2⟩
    simp at d0 d1 d2;have hlb:D<wr.heap.size:=DB.out.lt;have hv:=LW.out.2.1;have hv2:=LW.out.2.2.1;have HB:=aA hb;have HY:=aA (show 0<=y.tm/\y.tm<=63 from by omega);clear hy hyg hr hc hi5 hc5 hni hb;generalize x.fl=fl at y0 z1;generalize aB done2 m=dn at *;generalize y.tm=tm at *;have hnm:n<=19:=by rw [HN.out];exact Nat.le_trans (yV 0 q m) (by omega)
    have hnli:¬(((bO ps done1 ps.length).length:Nat):Int)<=n:=by omega
    go_upto_region 22 with fail
    go_quiet (fail)
    have htm:=HY.out;have ew:IntKind.i64.wrap (tm+v)=tm+v:=IntWalk.i64_in _ (by omega);by_cases hlt:tm+v<300
    case neg=>
     have z2:decide (tm+v<300)=false:=decide_eq_false hlt;clear htm hlt;go_upto_region 23 with fail
     go_quiet (fail)
     go_wp2_with fail
     go_roundg (gk-1)
     case measure=>omega
     case rel=>exact⟨m+1,_,by omega,by rw [HS.out];go_num,by go_num,rfl⟩
    case pos=>
     have z2:decide (tm+v<300)=true:=decide_eq_true hlt;have hkd:=HB.out hlt;have z3:decide (dn<0)=false:=decide_eq_false (by omega);have ew2:IntKind.i64.wrap (dn-tm)=dn-tm:=IntWalk.i64_in _ (by omega);have z4:decide (v<dn-tm)=false:=decide_eq_false (by omega);clear hkd htm hlt hv hv2;go_upto_region 23 with fail
     go_quiet (fail)
     go_wp2_with fail
     go_roundg (gk-1)
     case measure=>omega
     case rel=>exact⟨m+1,_,by omega,by rw [HS.out];go_num,by go_num,rfl⟩
  case neg=>
   have hmi:¬(m:Int)<q.length:=by omega
   obtain rfl:m=q.length:=by omega
   have hnf:=HN.out;rw [List.take_length,LW.out.1] at hnf;have E2:=aA (E.out.below (cC (k:=k) (Below.refl wr.heap.size wr)));clear E;have E:=E2;clear E2;generalize wr.drewN k=wz at *;have t3:=E.out.tb.cell 16;simp at t3;have htl:T<wz.heap.size:=E.out.tb.lt;have z1:((n:Int) == (((bO ps done1 ps.length).length:Nat):Int))=true:=by rw [hnf];simp
   clear hnf;go_wp2_with fail
   refine(mG _).mono ?_;rintro e wq ⟨rfl,hb⟩;have bw:=(E.out.below hb).b;go_wp2_with fail
   go_ret
   exact⟨rfl,bw⟩
theorem a4y{w w1:World}{T:Nat}{l1 l2:LD}{A1 A2:Option Addr}{c1 c2 gD1 gS1 gD2 gS2:Nat}{vA:Option Addr}{vc:Nat}{ps q:List PK}{done1 done2:List Int}{X0 X1 Y0 Y1:CR}{e0 e1 d0 d1:Int}{g1 g2:Nat}{f:Cv}{zs:List SZ}{M:Int}{h:Cv}{er3:Int}{H:Nat}{Ah:Option Addr}{nh ch:Nat}{g:Cv}{zq:List SZ}{G:Nat}{Ag:Option Addr}{ng cg:Nat}{wr:World}(E:Hid (iR w w1 wr T l1 l2 A1 A2 c1 c2 gD1 gS1 gD2 gS2 (.slice vA (bO ps done1 ps.length).length vc) ps q done1 done2))(P5:Hid (gY 9 ps))(SQ:Hid (Sm q))(HL:Hid (dH 0 ps X0.f e0/\dH 1 ps X1.f e1/\dH 0 q Y0.f d0/\dH 1 q Y1.f d1))(RX:Hid (cR wr g1 0 [X0,X1]))(FX:Hid ((X0.f.Fin/\eE X0.f 0 ps)/\X1.f.Fin/\eE X1.f 1 ps))(HZF:Hid (fC ps zs/\iZ l1.k l1.cap l1.ws l1.tb 0 [X0.f,X1.f] zs f 0))(HM:Hid ((1<=M/\M<=1500/\∀x∈ps,x.fl=0->x.sz<=M)/\gX f (M-1) h er3))(HZG:Hid (fC q zq/\iZ l2.k l2.cap l2.ws l2.tb 0 [Y0.f,Y1.f] zq g 0))(FBg:Hid (aC wr G 26 #[.slice Ag ng cg,.int .i64 g.per,.int .i64 g.inc]))(HIg:Hid (aE wr wr.heap.size Ag ng g.vals))(FBh:Hid (aC wr H 26 #[.slice Ah nh ch,.int .i64 h.per,.int .i64 h.inc]))(HIh:Hid (aE wr wr.heap.size Ah nh h.vals)) :
 Code.wp Tryz.prog (gE 9 (Tryz.f6.body.getD .skip)) (bodyPost Tryz.prog Tryz.f6 (fun e w'=>e=Ending.returned (.bool true)/\Below w.heap.size w w')) ⟨List.toArray (u0 :: u1 :: (.bool false) :: u3 :: (.pointer (some ⟨T,0,none⟩)) :: (.slice (some ⟨g1,0,none⟩) 2 2) :: (.slice (some ⟨g2,0,none⟩) 2 2) :: u7 :: u8 :: (.pointer (some ⟨G,0,none⟩)) :: u10 :: (.pointer (some ⟨H,0,none⟩)) :: (.int .i64 er3) :: u13 :: u14 :: u15 :: u16 :: u17 :: u18 :: u19 :: u20 :: u21 :: u22 :: u23 :: u24 :: u25 :: u26 :: u27 :: u28 :: u29 :: u30 :: u31 :: u32 :: u33 :: u34 :: u35 :: u36 :: u37 :: u38 :: u39 :: u40 :: u41 :: u42 :: u43 :: u44 :: u45 :: u46 :: u47 :: u48 :: u49 :: u50 :: u51 :: u52 :: u53 :: u54 :: u55 :: u56 :: u57 :: u58 :: u59 :: u60 :: u61 :: u62 :: u63 :: u64 :: u65 :: u66 :: u67 :: u68 :: u69 :: u70 :: u71 :: u72 :: u73 :: u74 :: u75 :: u76 :: u77 :: u78 :: u79 :: u80 :: u81 :: u82 :: u83 :: u84 :: u85 :: u86 :: u87 :: u88 :: u89 :: u90 :: u91 :: u92 :: u93 :: u94 :: u95 :: u96 :: u97 :: u98 :: u99 :: u100 :: u101 :: u102 :: u103 :: u104 :: u105 :: u106 :: u107 :: u108 :: u109 :: u110 :: u111 :: u112 :: u113 :: u114 :: u115 :: u116 :: u117 :: u118 :: u119 :: u120 :: u121 :: u122 :: u123 :: u124 :: u125 :: u126 :: u127 :: u128 :: u129 :: u130 :: u131 :: u132 :: u133 :: u134 :: u135 :: u136 :: u137 :: u138 :: u139 :: u140 :: u141 :: u142 :: u143 :: u144 :: u145 :: u146 :: u147 :: u148 :: u149 :: u150 :: u151 :: u152 :: u153 :: u154 :: u155 :: u156 :: u157 :: u158 :: u159 :: u160 :: u161 :: u162 :: []),[]⟩ wr:=by
 conv in gE _ _=>simp only [Tryz.f6,gE,Option.getD]
 have GO:=aA (vW E.out.r.o2 HZG.out.1.z HZG.out.2);obtain⟨k0,k1,k2⟩:_/\_/\_:=⟨FBh.out.cell 0,FBh.out.cell 1,FBh.out.cell 2⟩
 obtain⟨k3,k4,k5⟩:_/\_/\_:=⟨FBg.out.cell 0,FBg.out.cell 1,FBg.out.cell 2⟩
 simp at k0 k1 k2 k3 k4 k5;have hlh:=FBh.out.lt;have hlg:=FBg.out.lt;go_wp2_with fail
 refine(O3 Ah Ag nh ng ch cg h.per h.inc g.per g.inc h.vals g.vals wr HIh.out HIg.out (by have h1:=HIh.out.1;have h2:=HM.out.2.1;omega) (by have h1:=HIg.out.1;have h2:=GO.out.n2;omega)).mono ?_;rintro e wy ⟨j,er4,hC,Aj,nj,cj,hcj,rfl,hI,hA,hb⟩;have hb2:=aD hb (aF wy (.cells #[.slice Aj nj cj,.int .i64 j.per,.int .i64 j.inc] 26));have FBj:=aA (aC.new wy 26 #[.slice Aj nj cj,.int .i64 j.per,.int .i64 j.inc]);have HIj:=aA (hI.ext (aF wy (.cells #[.slice Aj nj cj,.int .i64 j.per,.int .i64 j.inc] 26)));replace E:=aA (E.out.below hb2);replace RX:=aA (RX.out.below hb2);have HC:=aA hC;clear hC hcj hI hA hb hb2 k0 k1 k2 k3 k4 k5 hlh hlg FBh FBg HIh HIg;have JL:=aA (N4 HC.out);go_upto_region 12 with fail
 generalize hwe:wy.alloc _=wr at *;clear hwe;obtain⟨J,hJ⟩:∃J,J=wy.heap.size:=⟨_,rfl⟩
 rw [<- hJ] at FBj;simp only [<- hJ];clear hJ;go_upto_region 12 with fail
 go_cut [15,16] (fun s15 s16 wx=>∃(i:Bool) (v A' er5:Int) (D:Nat),Hid (jW (dB X0.f j) X0.f j i v A' er5)/\s15 = .pointer (some ⟨D,0,none⟩)/\s16 = .int .i64 er5/\Hid (aC wx D 35 #[.bool i,.int .i64 v,.int .i64 A'])/\Hid (Below wr.heap.size wr wx))
 case first=>
  obtain⟨k0,k1,k2,k3,k4,k5⟩:_/\_/\_/\_/\_/\_:=⟨RX.out.cell 0 0 X0 rfl (by omega),RX.out.cell 0 1 X0 rfl (by omega),RX.out.cell 0 2 X0 rfl (by omega),FBj.out.cell 0,FBj.out.cell 1,FBj.out.cell 2⟩
  simp [CR.cells] at k0 k1 k2
  simp at k3 k4 k5;have hlg1:=RX.out.lt;refine wp_region_held_drew (S:=fun w'=>w'.cell? ⟨g1,0,none⟩=some (.slice X0.A X0.n X0.c)/\w'.cell? ⟨g1,1,none⟩=some (.int .i64 X0.f.per)/\w'.cell? ⟨g1,2,none⟩=some (.int .i64 X0.f.inc)/\w'.cell? ⟨J,0,none⟩=some (.slice Aj nj cj)/\w'.cell? ⟨J,1,none⟩=some (.int .i64 j.per)/\w'.cell? ⟨J,2,none⟩=some (.int .i64 j.inc)) (by kernel_rfl) (by exact⟨k0,k1,k2,k3,k4,k5⟩) (fun hH=>?_);have BW:=aA (cC (k:=1) (Below.refl wr.heap.size wr));clear k0 k1 k2 k3 k4 k5;have hwe:wr.drewN 1=wr.drew:=rfl;rw [hwe] at BW;clear hwe;generalize hwd:wr.drew=wd at *;clear hwd;refine aO [0,1,2,3] ?_;(iterate 4 refine aK ?_);refine aP ?_;refine eS 4 8 (fun K hK=>?_) (fun K hK=>?_)
  ·skip
   rw [if_pos (by rfl)];go_simp
   refine(qD X0.A Aj X0.n nj X0.c cj X0.f.per X0.f.inc j.per j.inc X0.f.vals j.vals wd ((RX.out.inn X0 (List.mem_cons_self ..)).ext BW.out) (HIj.out.ext BW.out) (by have h1:=(RX.out.inn X0 (List.mem_cons_self ..)).1;have h2:=FX.out.1.1.1.n2;omega) (by have h1:=HIj.out.1;have h2:=JL.out;omega)).mono ?_;rintro e wa ⟨i,v,A',er5,hC,rfl,hb⟩;replace BW:=aA (aD BW.out hb)
   try (replace FB:=aA (FB.out.below hb FB.out.lt))
   have HC:=aA hC;clear hC hb;refine aH hK (by exact⟨by simpa [CR.cells] using (RX.out.below BW.out).cell 0 0 X0 rfl (by omega),by simpa [CR.cells] using (RX.out.below BW.out).cell 0 1 X0 rfl (by omega),by simpa [CR.cells] using (RX.out.below BW.out).cell 0 2 X0 rfl (by omega),by simpa using (FBj.out.below BW.out FBj.out.lt).cell 0,by simpa using (FBj.out.below BW.out FBj.out.lt).cell 1,by simpa using (FBj.out.below BW.out FBj.out.lt).cell 2⟩) (fun hH=>?_);refine aO [5,6,7] ?_;(iterate 3 refine aK ?_);refine aP ?_;refine aJ 8 (fun K hK=>?_);go_simp
   have ba:=aF wa (.cells #[.bool false,.int .i64 0,.int .i64 0] 35);have FB:=aC.new wa 35 #[.bool false,.int .i64 0,.int .i64 0];have HF:=aA (show wr.heap.size<=wa.heap.size from BW.out.size);replace BW:=aA (aD BW.out ba)
   try (replace RZ:=aA (RZ.out.below ba))
   obtain⟨D,hF⟩:∃F,F=wa.heap.size:=⟨_,rfl⟩
   rw [<- hF] at FB;replace HF:=aA (show wr.heap.size<=D from by rw [hF];exact HF.out);simp only [<- hF];replace FB:=aA FB;clear ba hF;generalize hwx:wa.alloc (.cells #[.bool false,.int .i64 0,.int .i64 0] 35)=wb at *;clear hwx;refine aH hK (by exact⟨by simpa [CR.cells] using (RX.out.below BW.out).cell 0 0 X0 rfl (by omega),by simpa [CR.cells] using (RX.out.below BW.out).cell 0 1 X0 rfl (by omega),by simpa [CR.cells] using (RX.out.below BW.out).cell 0 2 X0 rfl (by omega),by simpa using (FBj.out.below BW.out FBj.out.lt).cell 0,by simpa using (FBj.out.below BW.out FBj.out.lt).cell 1,by simpa using (FBj.out.below BW.out FBj.out.lt).cell 2⟩) (fun hH=>?_);refine dA 9 (fun K hK=>?_);obtain⟨f0,f1,f2⟩:_/\_/\_:=⟨FB.out.cell 0,FB.out.cell 1,FB.out.cell 2⟩
   simp at f0 f1 f2;have z0:=FB.out.frozen 0;have z1:=FB.out.frozen 1;have z2:=FB.out.frozen 2;have hlf:=FB.out.lt;rw [if_pos (by rfl)];go_simp
   have FB3:=aA (FB.out.store3 (.bool i) (.int .i64 v) (.int .i64 A'));have k:=((bG wb D 0 (.bool i)).trans (bG _ D 1 (.int .i64 v))).trans (bG _ D 2 (.int .i64 A'));have BW3:=aA (gC BW.out k (fun g e=>by rw [e];exact HF.out));clear k f0 f1 f2 z0 z1 z2 hlf FB BW;generalize hwz:((wb.setCell ⟨D,0,none⟩ _).setCell ⟨D,1,none⟩ _).setCell ⟨D,2,none⟩ _=wz at *;clear hwz;refine aH hK (by exact⟨by simpa [CR.cells] using (RX.out.below BW3.out).cell 0 0 X0 rfl (by omega),by simpa [CR.cells] using (RX.out.below BW3.out).cell 0 1 X0 rfl (by omega),by simpa [CR.cells] using (RX.out.below BW3.out).cell 0 2 X0 rfl (by omega),by simpa using (FBj.out.below BW3.out FBj.out.lt).cell 0,by simpa using (FBj.out.below BW3.out FBj.out.lt).cell 1,by simpa using (FBj.out.below BW3.out FBj.out.lt).cell 2⟩) (fun hH=>?_);refine bD 10 ?_;refine aT ?_;go_wp2_with fail
   go_meet
   exact⟨i,v,A',er5,D,HC,rfl,rfl,FB3,BW3⟩
  ·skip
   rw [if_pos (by rfl)];go_simp
   have ba:=aF wd (.cells #[.bool false,.int .i64 0,.int .i64 0] 35);have FB:=aC.new wd 35 #[.bool false,.int .i64 0,.int .i64 0];have HF:=aA (show wr.heap.size<=wd.heap.size from BW.out.size);replace BW:=aA (aD BW.out ba)
   try (replace RZ:=aA (RZ.out.below ba))
   obtain⟨D,hF⟩:∃F,F=wd.heap.size:=⟨_,rfl⟩
   rw [<- hF] at FB;replace HF:=aA (show wr.heap.size<=D from by rw [hF];exact HF.out);simp only [<- hF];replace FB:=aA FB;clear ba hF;generalize hwx:wd.alloc (.cells #[.bool false,.int .i64 0,.int .i64 0] 35)=wa at *;clear hwx;refine aH hK (by exact⟨by simpa [CR.cells] using (RX.out.below BW.out).cell 0 0 X0 rfl (by omega),by simpa [CR.cells] using (RX.out.below BW.out).cell 0 1 X0 rfl (by omega),by simpa [CR.cells] using (RX.out.below BW.out).cell 0 2 X0 rfl (by omega),by simpa using (FBj.out.below BW.out FBj.out.lt).cell 0,by simpa using (FBj.out.below BW.out FBj.out.lt).cell 1,by simpa using (FBj.out.below BW.out FBj.out.lt).cell 2⟩) (fun hH=>?_);refine aJ 4 (fun K hK=>?_);go_simp
   refine(qD X0.A Aj X0.n nj X0.c cj X0.f.per X0.f.inc j.per j.inc X0.f.vals j.vals wa ((RX.out.inn X0 (List.mem_cons_self ..)).ext BW.out) (HIj.out.ext BW.out) (by have h1:=(RX.out.inn X0 (List.mem_cons_self ..)).1;have h2:=FX.out.1.1.1.n2;omega) (by have h1:=HIj.out.1;have h2:=JL.out;omega)).mono ?_;rintro e wb ⟨i,v,A',er5,hC,rfl,hb⟩;replace BW:=aA (aD BW.out hb)
   try (replace FB:=aA (FB.out.below hb FB.out.lt))
   have HC:=aA hC;clear hC hb;refine aH hK (by exact⟨by simpa [CR.cells] using (RX.out.below BW.out).cell 0 0 X0 rfl (by omega),by simpa [CR.cells] using (RX.out.below BW.out).cell 0 1 X0 rfl (by omega),by simpa [CR.cells] using (RX.out.below BW.out).cell 0 2 X0 rfl (by omega),by simpa using (FBj.out.below BW.out FBj.out.lt).cell 0,by simpa using (FBj.out.below BW.out FBj.out.lt).cell 1,by simpa using (FBj.out.below BW.out FBj.out.lt).cell 2⟩) (fun hH=>?_);refine aO [5,6,7] ?_;(iterate 3 refine aK ?_);refine aP ?_;refine dA 9 (fun K hK=>?_);obtain⟨f0,f1,f2⟩:_/\_/\_:=⟨FB.out.cell 0,FB.out.cell 1,FB.out.cell 2⟩
   simp at f0 f1 f2;have z0:=FB.out.frozen 0;have z1:=FB.out.frozen 1;have z2:=FB.out.frozen 2;have hlf:=FB.out.lt;rw [if_pos (by rfl)];go_simp
   have FB3:=aA (FB.out.store3 (.bool i) (.int .i64 v) (.int .i64 A'));have k:=((bG wb D 0 (.bool i)).trans (bG _ D 1 (.int .i64 v))).trans (bG _ D 2 (.int .i64 A'));have BW3:=aA (gC BW.out k (fun g e=>by rw [e];exact HF.out));clear k f0 f1 f2 z0 z1 z2 hlf FB BW;generalize hwz:((wb.setCell ⟨D,0,none⟩ _).setCell ⟨D,1,none⟩ _).setCell ⟨D,2,none⟩ _=wz at *;clear hwz;refine aH hK (by exact⟨by simpa [CR.cells] using (RX.out.below BW3.out).cell 0 0 X0 rfl (by omega),by simpa [CR.cells] using (RX.out.below BW3.out).cell 0 1 X0 rfl (by omega),by simpa [CR.cells] using (RX.out.below BW3.out).cell 0 2 X0 rfl (by omega),by simpa using (FBj.out.below BW3.out FBj.out.lt).cell 0,by simpa using (FBj.out.below BW3.out FBj.out.lt).cell 1,by simpa using (FBj.out.below BW3.out FBj.out.lt).cell 2⟩) (fun hH=>?_);refine bD 10 ?_;refine aT ?_;go_wp2_with fail
   go_meet
   exact⟨i,v,A',er5,D,HC,rfl,rfl,FB3,BW3⟩
 case rest=>
  rename World=>wx
  obtain⟨i,v,A',er5,D,HD,rfl,rfl,HDB,BW⟩:=hcut;replace E:=aA (E.out.below BW.out);clear BW RX FBj HIj;have LW:=aA (show er3=0->er4=0->er5=0->i=false->rW ps q done1 done2 v from fun h3 h4 h5 hi=>by
   subst h3;subst h4;subst h5;subst hi;exact a49 E.out.r.sel (a41 E.out.r.o1 E.out.r.o2 P5.out SQ.out E.out.r.sel E.out.r.r1 E.out.r.r2 HL.out.1 HL.out.2.1 HL.out.2.2.1 HL.out.2.2.2 HZF.out.1 HZG.out.1 HZF.out.2 HZG.out.2 HM.out.1 HM.out.2 HC.out HD.out))
  rename_i K hK
  refine hK _ _ ?_;exact a4z E P5 SQ HDB LW
theorem a4x{w w1:World}{T:Nat}{l1 l2:LD}{A1 A2:Option Addr}{c1 c2 gD1 gS1 gD2 gS2:Nat}{vA:Option Addr}{vc:Nat}{ps q:List PK}{done1 done2:List Int}{X0 X1 Y0 Y1:CR}{e0 e1 d0 d1:Int}{g1 g2:Nat}{f:Cv}{er:Int}{zs:List SZ}{F:Nat}{Ac:Option Addr}{n cc:Nat}{g:Cv}{er2:Int}{zq:List SZ}{G:Nat}{Ag:Option Addr}{ng cg:Nat}{wr:World}(E:Hid (iR w w1 wr T l1 l2 A1 A2 c1 c2 gD1 gS1 gD2 gS2 (.slice vA (bO ps done1 ps.length).length vc) ps q done1 done2))(P5:Hid (gY 9 ps))(SQ:Hid (Sm q))(SP:Hid (Sm ps))(HL:Hid (dH 0 ps X0.f e0/\dH 1 ps X1.f e1/\dH 0 q Y0.f d0/\dH 1 q Y1.f d1))(RX:Hid (cR wr g1 0 [X0,X1]))(FX:Hid ((X0.f.Fin/\eE X0.f 0 ps)/\X1.f.Fin/\eE X1.f 1 ps))(HZF:Hid (fC ps zs/\iZ l1.k l1.cap l1.ws l1.tb 0 [X0.f,X1.f] zs f er))(FBf:Hid (aC wr F 26 #[.slice Ac n cc,.int .i64 f.per,.int .i64 f.inc]))(HIf:Hid (aE wr wr.heap.size Ac n f.vals))(HZG:Hid (fC q zq/\iZ l2.k l2.cap l2.ws l2.tb 0 [Y0.f,Y1.f] zq g er2))(FBg:Hid (aC wr G 26 #[.slice Ag ng cg,.int .i64 g.per,.int .i64 g.inc]))(HIg:Hid (aE wr wr.heap.size Ag ng g.vals)) :
 Code.wp Tryz.prog (gE 7 (Tryz.f6.body.getD .skip)) (bodyPost Tryz.prog Tryz.f6 (fun e w'=>e=Ending.returned (.bool true)/\Below w.heap.size w w')) ⟨List.toArray (u0 :: u1 :: (.bool false) :: u3 :: (.pointer (some ⟨T,0,none⟩)) :: (.slice (some ⟨g1,0,none⟩) 2 2) :: (.slice (some ⟨g2,0,none⟩) 2 2) :: (.pointer (some ⟨F,0,none⟩)) :: (.int .i64 er) :: (.pointer (some ⟨G,0,none⟩)) :: (.int .i64 er2) :: u11 :: u12 :: u13 :: u14 :: u15 :: u16 :: u17 :: u18 :: u19 :: u20 :: u21 :: u22 :: u23 :: u24 :: u25 :: u26 :: u27 :: u28 :: u29 :: u30 :: u31 :: u32 :: u33 :: u34 :: u35 :: u36 :: u37 :: u38 :: u39 :: u40 :: u41 :: u42 :: u43 :: u44 :: u45 :: u46 :: u47 :: u48 :: u49 :: u50 :: u51 :: u52 :: u53 :: u54 :: u55 :: u56 :: u57 :: u58 :: u59 :: u60 :: u61 :: u62 :: u63 :: u64 :: u65 :: u66 :: u67 :: u68 :: u69 :: u70 :: u71 :: u72 :: u73 :: u74 :: u75 :: u76 :: u77 :: u78 :: u79 :: u80 :: u81 :: u82 :: u83 :: u84 :: u85 :: u86 :: u87 :: u88 :: u89 :: u90 :: u91 :: u92 :: u93 :: u94 :: u95 :: u96 :: u97 :: u98 :: u99 :: u100 :: u101 :: u102 :: u103 :: u104 :: u105 :: u106 :: u107 :: u108 :: u109 :: u110 :: u111 :: u112 :: u113 :: u114 :: u115 :: u116 :: u117 :: u118 :: u119 :: u120 :: u121 :: u122 :: u123 :: u124 :: u125 :: u126 :: u127 :: u128 :: u129 :: u130 :: u131 :: u132 :: u133 :: u134 :: u135 :: u136 :: u137 :: u138 :: u139 :: u140 :: u141 :: u142 :: u143 :: u144 :: u145 :: u146 :: u147 :: u148 :: u149 :: u150 :: u151 :: u152 :: u153 :: u154 :: u155 :: u156 :: u157 :: u158 :: u159 :: u160 :: u161 :: u162 :: []),[]⟩ wr:=by
 conv in gE _ _=>simp only [Tryz.f6,gE,Option.getD]
 by_cases h1:er=0
 case neg=>
  have z1:(er != 0)=true:=by simpa using h1
  go_wp2_with fail
  refine(mG _).mono ?_;rintro e wq ⟨rfl,hb⟩;have bw:=(E.out.below hb).b;go_wp2_with fail
  go_ret
  exact⟨rfl,bw⟩
 case pos=>
 subst h1;by_cases h2:er2=0
 case neg=>
  have z1:(er2 != 0)=true:=by simpa using h2
  go_wp2_with fail
  refine(mG _).mono ?_;rintro e wq ⟨rfl,hb⟩;have bw:=(E.out.below hb).b;go_wp2_with fail
  go_ret
  exact⟨rfl,bw⟩
 case pos=>
 subst h2;have FO:=aA (vW E.out.r.o1 HZF.out.1.z HZF.out.2);go_upto_region 10 with fail
 go_cut [11,12] (fun s11 s12 wx=>∃(M:Int) (h:Cv) (er3:Int) (H:Nat) (Ah:Option Addr) (nh ch:Nat),Hid ((1<=M/\M<=1500/\∀x∈ps,x.fl=0->x.sz<=M)/\gX f (M-1) h er3)/\s11 = .pointer (some ⟨H,0,none⟩)/\s12 = .int .i64 er3/\Hid (aC wx H 26 #[.slice Ah nh ch,.int .i64 h.per,.int .i64 h.inc]/\aE wx wx.heap.size Ah nh h.vals)/\Hid (Below wr.heap.size wr wx))
 case first=>
  obtain⟨k0,k1,k2,k3⟩:_/\_/\_/\_:=⟨FBf.out.cell 0,FBf.out.cell 1,FBf.out.cell 2,E.out.tb.cell 10⟩
  simp at k0 k1 k2 k3;refine wp_region_held_drew (S:=fun w'=>w'.cell? ⟨F,0,none⟩=some (.slice Ac n cc)/\w'.cell? ⟨F,1,none⟩=some (.int .i64 f.per)/\w'.cell? ⟨F,2,none⟩=some (.int .i64 f.inc)/\w'.cell? ⟨T,10,none⟩=some (.slice A1 ps.length c1)) (by kernel_rfl) (by exact⟨k0,k1,k2,k3⟩) (fun hH=>?_);have BW:=aA (cC (k:=1) (Below.refl wr.heap.size wr));clear k0 k1 k2 k3;have hwe:wr.drewN 1=wr.drew:=rfl;rw [hwe] at BW;clear hwe;generalize hwd:wr.drew=wd at *;clear hwd;refine aO [0,1,2] ?_;(iterate 3 refine aK ?_);refine aP ?_;refine eS 3 8 (fun K hK=>?_) (fun K hK=>?_)
  ·skip
   rw [if_pos (by rfl)];go_simp
   refine(xM A1 ps.length c1 ps wd (by exact(E.out.below BW.out).r.tp) (by have:=P5.out.len;omega) (fun x hx=>by have:=P5.out.g x hx;omega)).mono ?_;rintro e wa ⟨M,rfl,hM,hb⟩;replace BW:=aA (aD BW.out hb)
   try (replace FB:=aA (FB.out.below hb FB.out.lt))
   have HM:=aA hM;clear hM hb;refine aH hK (by exact⟨by simpa using (FBf.out.below BW.out FBf.out.lt).cell 0,by simpa using (FBf.out.below BW.out FBf.out.lt).cell 1,by simpa using (FBf.out.below BW.out FBf.out.lt).cell 2,by simpa using (E.out.below BW.out).tb.cell 10⟩) (fun hH=>?_);refine eS 4 8 (fun K hK=>?_) (fun K hK=>?_)
   ·skip
    rw [if_pos (by rfl)];go_simp
    refine(sT Ac n cc f.per f.inc M f.vals wa (HIf.out.ext BW.out) (by have h1:=HIf.out.1;have h2:=FO.out.n2;omega) FO.out HM.out.1 HM.out.2.1).mono ?_;rintro e wb ⟨h,er3,hC,Ah,nh,ch,rfl,hI,hA,hb⟩;replace BW:=aA (aD BW.out hb)
    try (have HAF:=aA (show ∀b off s,Ah=some ⟨b,off,s⟩->0<nh->b≠H from fun b off s e hn=>by have h1:=hA b off s e;have h2:=FB.out.lt;omega))
    try (replace FB:=aA (FB.out.below hb FB.out.lt))
    have HC:=aA hC;have HI:=aA hI;clear hC hI hA hb;refine aH hK (by exact⟨by simpa using (FBf.out.below BW.out FBf.out.lt).cell 0,by simpa using (FBf.out.below BW.out FBf.out.lt).cell 1,by simpa using (FBf.out.below BW.out FBf.out.lt).cell 2,by simpa using (E.out.below BW.out).tb.cell 10⟩) (fun hH=>?_);refine aO [5,6,7] ?_;(iterate 3 refine aK ?_);refine aP ?_;refine aJ 8 (fun K hK=>?_);go_simp
    have ba:=aF wb (.cells #[.slice none 0 0,.int .i64 0,.int .i64 0] 26);have FB:=aC.new wb 26 #[.slice none 0 0,.int .i64 0,.int .i64 0];have HF:=aA (show wr.heap.size<=wb.heap.size from BW.out.size);replace BW:=aA (aD BW.out ba)
    try (replace RZ:=aA (RZ.out.below ba))
    obtain⟨H,hF⟩:∃F,F=wb.heap.size:=⟨_,rfl⟩
    try (have HAF:=aA (show ∀b off s,Ah=some ⟨b,off,s⟩->0<nh->b≠H from fun b off s e hn=>by have:=HI.out.lt2 hn e;omega))
    try (replace HI:=aA (HI.out.ext ba))
    rw [<- hF] at FB;replace HF:=aA (show wr.heap.size<=H from by rw [hF];exact HF.out);simp only [<- hF];replace FB:=aA FB;clear ba hF;generalize hwx:wb.alloc (.cells #[.slice none 0 0,.int .i64 0,.int .i64 0] 26)=wc at *;clear hwx;refine aH hK (by exact⟨by simpa using (FBf.out.below BW.out FBf.out.lt).cell 0,by simpa using (FBf.out.below BW.out FBf.out.lt).cell 1,by simpa using (FBf.out.below BW.out FBf.out.lt).cell 2,by simpa using (E.out.below BW.out).tb.cell 10⟩) (fun hH=>?_);refine dA 9 (fun K hK=>?_);obtain⟨f0,f1,f2⟩:_/\_/\_:=⟨FB.out.cell 0,FB.out.cell 1,FB.out.cell 2⟩
    simp at f0 f1 f2;have z0:=FB.out.frozen 0;have z1:=FB.out.frozen 1;have z2:=FB.out.frozen 2;have hlf:=FB.out.lt;rw [if_pos (by rfl)];go_simp
    have FB3:=aA (FB.out.store3 (.slice Ah nh ch) (.int .i64 h.per) (.int .i64 h.inc));have k:=((bG wc H 0 (.slice Ah nh ch)).trans (bG _ H 1 (.int .i64 h.per))).trans (bG _ H 2 (.int .i64 h.inc));have HI3:=aA (HI.out.kx k (fun hn b off s e h=>HAF.out b off s e hn h));have BW3:=aA (gC BW.out k (fun g e=>by rw [e];exact HF.out));clear k f0 f1 f2 z0 z1 z2 hlf FB BW HI;generalize hwz:((wc.setCell ⟨H,0,none⟩ _).setCell ⟨H,1,none⟩ _).setCell ⟨H,2,none⟩ _=wz at *;clear hwz;refine aH hK (by exact⟨by simpa using (FBf.out.below BW3.out FBf.out.lt).cell 0,by simpa using (FBf.out.below BW3.out FBf.out.lt).cell 1,by simpa using (FBf.out.below BW3.out FBf.out.lt).cell 2,by simpa using (E.out.below BW3.out).tb.cell 10⟩) (fun hH=>?_);refine bD 10 ?_;refine aT ?_;go_wp2_with fail
    go_meet
    exact⟨M,h,er3,H,Ah,nh,ch,aA ⟨HM.out,HC.out⟩,rfl,rfl,aA ⟨FB3.out,HI3.out⟩,BW3⟩
   ·skip
    rw [if_pos (by rfl)];go_simp
    have ba:=aF wa (.cells #[.slice none 0 0,.int .i64 0,.int .i64 0] 26);have FB:=aC.new wa 26 #[.slice none 0 0,.int .i64 0,.int .i64 0];have HF:=aA (show wr.heap.size<=wa.heap.size from BW.out.size);replace BW:=aA (aD BW.out ba)
    try (replace RZ:=aA (RZ.out.below ba))
    obtain⟨H,hF⟩:∃F,F=wa.heap.size:=⟨_,rfl⟩
    try (have HAF:=aA (show ∀b off s,Ah=some ⟨b,off,s⟩->0<nh->b≠H from fun b off s e hn=>by have:=HI.out.lt2 hn e;omega))
    try (replace HI:=aA (HI.out.ext ba))
    rw [<- hF] at FB;replace HF:=aA (show wr.heap.size<=H from by rw [hF];exact HF.out);simp only [<- hF];replace FB:=aA FB;clear ba hF;generalize hwx:wa.alloc (.cells #[.slice none 0 0,.int .i64 0,.int .i64 0] 26)=wb at *;clear hwx;refine aH hK (by exact⟨by simpa using (FBf.out.below BW.out FBf.out.lt).cell 0,by simpa using (FBf.out.below BW.out FBf.out.lt).cell 1,by simpa using (FBf.out.below BW.out FBf.out.lt).cell 2,by simpa using (E.out.below BW.out).tb.cell 10⟩) (fun hH=>?_);refine aJ 4 (fun K hK=>?_);go_simp
    refine(sT Ac n cc f.per f.inc M f.vals wb (HIf.out.ext BW.out) (by have h1:=HIf.out.1;have h2:=FO.out.n2;omega) FO.out HM.out.1 HM.out.2.1).mono ?_;rintro e wc ⟨h,er3,hC,Ah,nh,ch,rfl,hI,hA,hb⟩;replace BW:=aA (aD BW.out hb)
    try (have HAF:=aA (show ∀b off s,Ah=some ⟨b,off,s⟩->0<nh->b≠H from fun b off s e hn=>by have h1:=hA b off s e;have h2:=FB.out.lt;omega))
    try (replace FB:=aA (FB.out.below hb FB.out.lt))
    have HC:=aA hC;have HI:=aA hI;clear hC hI hA hb;refine aH hK (by exact⟨by simpa using (FBf.out.below BW.out FBf.out.lt).cell 0,by simpa using (FBf.out.below BW.out FBf.out.lt).cell 1,by simpa using (FBf.out.below BW.out FBf.out.lt).cell 2,by simpa using (E.out.below BW.out).tb.cell 10⟩) (fun hH=>?_);refine aO [5,6,7] ?_;(iterate 3 refine aK ?_);refine aP ?_;refine dA 9 (fun K hK=>?_);obtain⟨f0,f1,f2⟩:_/\_/\_:=⟨FB.out.cell 0,FB.out.cell 1,FB.out.cell 2⟩
    simp at f0 f1 f2;have z0:=FB.out.frozen 0;have z1:=FB.out.frozen 1;have z2:=FB.out.frozen 2;have hlf:=FB.out.lt;rw [if_pos (by rfl)];go_simp
    have FB3:=aA (FB.out.store3 (.slice Ah nh ch) (.int .i64 h.per) (.int .i64 h.inc));have k:=((bG wc H 0 (.slice Ah nh ch)).trans (bG _ H 1 (.int .i64 h.per))).trans (bG _ H 2 (.int .i64 h.inc));have HI3:=aA (HI.out.kx k (fun hn b off s e h=>HAF.out b off s e hn h));have BW3:=aA (gC BW.out k (fun g e=>by rw [e];exact HF.out));clear k f0 f1 f2 z0 z1 z2 hlf FB BW HI;generalize hwz:((wc.setCell ⟨H,0,none⟩ _).setCell ⟨H,1,none⟩ _).setCell ⟨H,2,none⟩ _=wz at *;clear hwz;refine aH hK (by exact⟨by simpa using (FBf.out.below BW3.out FBf.out.lt).cell 0,by simpa using (FBf.out.below BW3.out FBf.out.lt).cell 1,by simpa using (FBf.out.below BW3.out FBf.out.lt).cell 2,by simpa using (E.out.below BW3.out).tb.cell 10⟩) (fun hH=>?_);refine bD 10 ?_;refine aT ?_;go_wp2_with fail
    go_meet
    exact⟨M,h,er3,H,Ah,nh,ch,aA ⟨HM.out,HC.out⟩,rfl,rfl,aA ⟨FB3.out,HI3.out⟩,BW3⟩
  ·skip
   rw [if_pos (by rfl)];go_simp
   have ba:=aF wd (.cells #[.slice none 0 0,.int .i64 0,.int .i64 0] 26);have FB:=aC.new wd 26 #[.slice none 0 0,.int .i64 0,.int .i64 0];have HF:=aA (show wr.heap.size<=wd.heap.size from BW.out.size);replace BW:=aA (aD BW.out ba)
   try (replace RZ:=aA (RZ.out.below ba))
   obtain⟨H,hF⟩:∃F,F=wd.heap.size:=⟨_,rfl⟩
   try (have HAF:=aA (show ∀b off s,Ah=some ⟨b,off,s⟩->0<nh->b≠H from fun b off s e hn=>by have:=HI.out.lt2 hn e;omega))
   try (replace HI:=aA (HI.out.ext ba))
   rw [<- hF] at FB;replace HF:=aA (show wr.heap.size<=H from by rw [hF];exact HF.out);simp only [<- hF];replace FB:=aA FB;clear ba hF;generalize hwx:wd.alloc (.cells #[.slice none 0 0,.int .i64 0,.int .i64 0] 26)=wa at *;clear hwx;refine aH hK (by exact⟨by simpa using (FBf.out.below BW.out FBf.out.lt).cell 0,by simpa using (FBf.out.below BW.out FBf.out.lt).cell 1,by simpa using (FBf.out.below BW.out FBf.out.lt).cell 2,by simpa using (E.out.below BW.out).tb.cell 10⟩) (fun hH=>?_);refine aJ 3 (fun K hK=>?_);go_simp
   refine(xM A1 ps.length c1 ps wa (by exact(E.out.below BW.out).r.tp) (by have:=P5.out.len;omega) (fun x hx=>by have:=P5.out.g x hx;omega)).mono ?_;rintro e wb ⟨M,rfl,hM,hb⟩;replace BW:=aA (aD BW.out hb)
   try (replace FB:=aA (FB.out.below hb FB.out.lt))
   have HM:=aA hM;clear hM hb;refine aH hK (by exact⟨by simpa using (FBf.out.below BW.out FBf.out.lt).cell 0,by simpa using (FBf.out.below BW.out FBf.out.lt).cell 1,by simpa using (FBf.out.below BW.out FBf.out.lt).cell 2,by simpa using (E.out.below BW.out).tb.cell 10⟩) (fun hH=>?_);refine aJ 4 (fun K hK=>?_);go_simp
   refine(sT Ac n cc f.per f.inc M f.vals wb (HIf.out.ext BW.out) (by have h1:=HIf.out.1;have h2:=FO.out.n2;omega) FO.out HM.out.1 HM.out.2.1).mono ?_;rintro e wc ⟨h,er3,hC,Ah,nh,ch,rfl,hI,hA,hb⟩;replace BW:=aA (aD BW.out hb)
   try (have HAF:=aA (show ∀b off s,Ah=some ⟨b,off,s⟩->0<nh->b≠H from fun b off s e hn=>by have h1:=hA b off s e;have h2:=FB.out.lt;omega))
   try (replace FB:=aA (FB.out.below hb FB.out.lt))
   have HC:=aA hC;have HI:=aA hI;clear hC hI hA hb;refine aH hK (by exact⟨by simpa using (FBf.out.below BW.out FBf.out.lt).cell 0,by simpa using (FBf.out.below BW.out FBf.out.lt).cell 1,by simpa using (FBf.out.below BW.out FBf.out.lt).cell 2,by simpa using (E.out.below BW.out).tb.cell 10⟩) (fun hH=>?_);refine aO [5,6,7] ?_;(iterate 3 refine aK ?_);refine aP ?_;refine dA 9 (fun K hK=>?_);obtain⟨f0,f1,f2⟩:_/\_/\_:=⟨FB.out.cell 0,FB.out.cell 1,FB.out.cell 2⟩
   simp at f0 f1 f2;have z0:=FB.out.frozen 0;have z1:=FB.out.frozen 1;have z2:=FB.out.frozen 2;have hlf:=FB.out.lt;rw [if_pos (by rfl)];go_simp
   have FB3:=aA (FB.out.store3 (.slice Ah nh ch) (.int .i64 h.per) (.int .i64 h.inc));have k:=((bG wc H 0 (.slice Ah nh ch)).trans (bG _ H 1 (.int .i64 h.per))).trans (bG _ H 2 (.int .i64 h.inc));have HI3:=aA (HI.out.kx k (fun hn b off s e h=>HAF.out b off s e hn h));have BW3:=aA (gC BW.out k (fun g e=>by rw [e];exact HF.out));clear k f0 f1 f2 z0 z1 z2 hlf FB BW HI;generalize hwz:((wc.setCell ⟨H,0,none⟩ _).setCell ⟨H,1,none⟩ _).setCell ⟨H,2,none⟩ _=wz at *;clear hwz;refine aH hK (by exact⟨by simpa using (FBf.out.below BW3.out FBf.out.lt).cell 0,by simpa using (FBf.out.below BW3.out FBf.out.lt).cell 1,by simpa using (FBf.out.below BW3.out FBf.out.lt).cell 2,by simpa using (E.out.below BW3.out).tb.cell 10⟩) (fun hH=>?_);refine bD 10 ?_;refine aT ?_;go_wp2_with fail
   go_meet
   exact⟨M,h,er3,H,Ah,nh,ch,aA ⟨HM.out,HC.out⟩,rfl,rfl,aA ⟨FB3.out,HI3.out⟩,BW3⟩
 case rest=>
  rename World=>wx
  obtain⟨M,h,er3,H,Ah,nh,ch,HM,rfl,rfl,HH,BW⟩:=hcut;replace E:=aA (E.out.below BW.out);replace RX:=aA (RX.out.below BW.out);replace FBg:=aA (FBg.out.below BW.out FBg.out.lt);replace HIg:=aA (HIg.out.ext BW.out);have FBh:=aA HH.out.1;have HIh:=aA HH.out.2
  rename_i K hK
  refine hK _ _ ?_;exact a4y E P5 SQ HL RX FX HZF HM HZG FBg HIg FBh HIh
theorem a4w{w w1:World}{T:Nat}{l1 l2:LD}{A1 A2:Option Addr}{c1 c2 gD1 gS1 gD2 gS2:Nat}{vA:Option Addr}{vc:Nat}{ps q:List PK}{done1 done2:List Int}{X0 X1 Y0 Y1:CR}{e0 e1 d0 d1:Int}{g1 g2:Nat}{f:Cv}{er:Int}{zs:List SZ}{F:Nat}{Ac:Option Addr}{n cc:Nat}{wr:World}(E:Hid (iR w w1 wr T l1 l2 A1 A2 c1 c2 gD1 gS1 gD2 gS2 (.slice vA (bO ps done1 ps.length).length vc) ps q done1 done2))(P5:Hid (gY 9 ps))(SQ:Hid (Sm q))(SP:Hid (Sm ps))(HL:Hid (dH 0 ps X0.f e0/\dH 1 ps X1.f e1/\dH 0 q Y0.f d0/\dH 1 q Y1.f d1))(RX:Hid (cR wr g1 0 [X0,X1]))(FX:Hid ((X0.f.Fin/\eE X0.f 0 ps)/\X1.f.Fin/\eE X1.f 1 ps))(RY:Hid (cR wr g2 0 [Y0,Y1]))(FY:Hid ((Y0.f.Fin/\eE Y0.f 0 q)/\Y1.f.Fin/\eE Y1.f 1 q))(HZF:Hid (fC ps zs/\iZ l1.k l1.cap l1.ws l1.tb 0 [X0.f,X1.f] zs f er))(FBf:Hid (aC wr F 26 #[.slice Ac n cc,.int .i64 f.per,.int .i64 f.inc]))(HIf:Hid (aE wr wr.heap.size Ac n f.vals)) :
 Code.wp Tryz.prog (gE 6 (Tryz.f6.body.getD .skip)) (bodyPost Tryz.prog Tryz.f6 (fun e w'=>e=Ending.returned (.bool true)/\Below w.heap.size w w')) ⟨List.toArray (u0 :: u1 :: (.bool false) :: u3 :: (.pointer (some ⟨T,0,none⟩)) :: (.slice (some ⟨g1,0,none⟩) 2 2) :: (.slice (some ⟨g2,0,none⟩) 2 2) :: (.pointer (some ⟨F,0,none⟩)) :: (.int .i64 er) :: u9 :: u10 :: u11 :: u12 :: u13 :: u14 :: u15 :: u16 :: u17 :: u18 :: u19 :: u20 :: u21 :: u22 :: u23 :: u24 :: u25 :: u26 :: u27 :: u28 :: u29 :: u30 :: u31 :: u32 :: u33 :: u34 :: u35 :: u36 :: u37 :: u38 :: u39 :: u40 :: u41 :: u42 :: u43 :: u44 :: u45 :: u46 :: u47 :: u48 :: u49 :: u50 :: u51 :: u52 :: u53 :: u54 :: u55 :: u56 :: u57 :: u58 :: u59 :: u60 :: u61 :: u62 :: u63 :: u64 :: u65 :: u66 :: u67 :: u68 :: u69 :: u70 :: u71 :: u72 :: u73 :: u74 :: u75 :: u76 :: u77 :: u78 :: u79 :: u80 :: u81 :: u82 :: u83 :: u84 :: u85 :: u86 :: u87 :: u88 :: u89 :: u90 :: u91 :: u92 :: u93 :: u94 :: u95 :: u96 :: u97 :: u98 :: u99 :: u100 :: u101 :: u102 :: u103 :: u104 :: u105 :: u106 :: u107 :: u108 :: u109 :: u110 :: u111 :: u112 :: u113 :: u114 :: u115 :: u116 :: u117 :: u118 :: u119 :: u120 :: u121 :: u122 :: u123 :: u124 :: u125 :: u126 :: u127 :: u128 :: u129 :: u130 :: u131 :: u132 :: u133 :: u134 :: u135 :: u136 :: u137 :: u138 :: u139 :: u140 :: u141 :: u142 :: u143 :: u144 :: u145 :: u146 :: u147 :: u148 :: u149 :: u150 :: u151 :: u152 :: u153 :: u154 :: u155 :: u156 :: u157 :: u158 :: u159 :: u160 :: u161 :: u162 :: []),[]⟩ wr:=by
 conv in gE _ _=>simp only [Tryz.f6,gE,Option.getD]
 have hq15:=SQ.out.len;go_upto_region 7 with fail
 go_cut [9,10] (fun s9 s10 wx=>∃(f:Cv) (er:Int) (zs:List SZ) (F:Nat) (Ac:Option Addr) (n cc:Nat),Hid (fC q zs/\iZ l2.k l2.cap l2.ws l2.tb 0 [Y0.f,Y1.f] zs f er)/\s9 = .pointer (some ⟨F,0,none⟩)/\s10 = .int .i64 er/\Hid (aC wx F 26 #[.slice Ac n cc,.int .i64 f.per,.int .i64 f.inc]/\aE wx wx.heap.size Ac n f.vals)/\Hid (Below wr.heap.size wr wx))
 case first=>
  obtain⟨k0,k1,k2,k3,k4,k5⟩:_/\_/\_/\_/\_/\_:=⟨E.out.tb.cell 5,E.out.tb.cell 6,E.out.tb.cell 7,E.out.tb.cell 8,E.out.tb.cell 9,E.out.tb.cell 11⟩
  simp at k0 k1 k2 k3 k4 k5;refine wp_region_held_drew (S:=fun w'=>w'.cell? ⟨T,5,none⟩=some (.int .i64 l2.k)/\w'.cell? ⟨T,6,none⟩=some (.int .i64 l2.cap)/\w'.cell? ⟨T,7,none⟩=some (.int .i64 2)/\w'.cell? ⟨T,8,none⟩=some (.slice l2.AW l2.nW l2.cW)/\w'.cell? ⟨T,9,none⟩=some (.slice l2.AS l2.nS l2.cS)/\w'.cell? ⟨T,11,none⟩=some (.slice A2 q.length c2)) (by kernel_rfl) (by exact⟨k0,k1,k2,k3,k4,k5⟩) (fun hH=>?_);have BW:=aA (cC (k:=1) (Below.refl wr.heap.size wr));clear k0 k1 k2 k3 k4 k5;have hwe:wr.drewN 1=wr.drew:=rfl;rw [hwe] at BW;clear hwe;generalize hwd:wr.drew=wd at *;clear hwd;refine aO [0,1,2,3,4] ?_;(iterate 5 refine aK ?_);refine aP ?_;refine eS 5 10 (fun K hK=>?_) (fun K hK=>?_)
  ·skip
   rw [if_pos (by rfl)];go_simp
   refine(rF A2 q.length c2 q wd (by exact(E.out.below BW.out).r.tq) (by omega) (fun x hx=>by have:=SQ.out.g x hx;omega)).mono ?_;rintro e wa ⟨zs,gz,hz,rfl,hrz,hgz,hb⟩;replace BW:=aA (aD BW.out hb)
   try (replace FB:=aA (FB.out.below hb FB.out.lt))
   have Z:=aA hz;have RZ:=aA hrz;clear hz hrz hgz hb;refine aH hK (by exact⟨by simpa using (E.out.below BW.out).tb.cell 5,by simpa using (E.out.below BW.out).tb.cell 6,by simpa using (E.out.below BW.out).tb.cell 7,by simpa using (E.out.below BW.out).tb.cell 8,by simpa using (E.out.below BW.out).tb.cell 9,by simpa using (E.out.below BW.out).tb.cell 11⟩) (fun hH=>?_);refine eS 6 10 (fun K hK=>?_) (fun K hK=>?_)
   ·skip
    rw [if_pos (by rfl)];go_simp
    have hrow:=RY.out.below BW.out;refine(nE (cl:=0) (xs:=[Y0,Y1]) (E.out.below BW.out).r.o2 (by omega) (Nat.le_refl 2) (Nat.le_refl 2) rfl hrow (fun x hx=>?_) (fun x hx=>?_) Z.out.z RZ.out).mono ?_
    ·rcases List.mem_cons.1 hx with rfl|hx
     ·exact FY.out.1.1
     ·rw [List.mem_singleton] at hx;rw [hx];exact FY.out.2.1
    ·rcases List.mem_cons.1 hx with rfl|hx
     ·have h1:=(hrow.inn _ (List.mem_cons_self ..)).1;have h2:=FY.out.1.1.1.n2;omega
     ·rw [List.mem_singleton] at hx;rw [hx];have h1:=(hrow.inn Y1 (by simp)).1;have h2:=FY.out.2.1.1.n2;omega
    rintro e wb ⟨f,er,hC,Ac,n,cc,rfl,hI,hA,hb⟩;replace BW:=aA (aD BW.out hb)
    try (have HAF:=aA (show ∀b off s,Ac=some ⟨b,off,s⟩->0<n->b≠F from fun b off s e hn=>by have h1:=hA b off s e;have h2:=FB.out.lt;omega))
    try (replace FB:=aA (FB.out.below hb FB.out.lt))
    have HC:=aA hC;have HI:=aA hI;clear hC hI hA hb hrow RZ;refine aH hK (by exact⟨by simpa using (E.out.below BW.out).tb.cell 5,by simpa using (E.out.below BW.out).tb.cell 6,by simpa using (E.out.below BW.out).tb.cell 7,by simpa using (E.out.below BW.out).tb.cell 8,by simpa using (E.out.below BW.out).tb.cell 9,by simpa using (E.out.below BW.out).tb.cell 11⟩) (fun hH=>?_);refine aO [7,8,9] ?_;(iterate 3 refine aK ?_);refine aP ?_;refine aJ 10 (fun K hK=>?_);go_simp
    have ba:=aF wb (.cells #[.slice none 0 0,.int .i64 0,.int .i64 0] 26);have FB:=aC.new wb 26 #[.slice none 0 0,.int .i64 0,.int .i64 0];have HF:=aA (show wr.heap.size<=wb.heap.size from BW.out.size);replace BW:=aA (aD BW.out ba)
    try (replace RZ:=aA (RZ.out.below ba))
    obtain⟨F,hF⟩:∃F,F=wb.heap.size:=⟨_,rfl⟩
    try (have HAF:=aA (show ∀b off s,Ac=some ⟨b,off,s⟩->0<n->b≠F from fun b off s e hn=>by have:=HI.out.lt2 hn e;omega))
    try (replace HI:=aA (HI.out.ext ba))
    rw [<- hF] at FB;replace HF:=aA (show wr.heap.size<=F from by rw [hF];exact HF.out);simp only [<- hF];replace FB:=aA FB;clear ba hF;generalize hwx:wb.alloc (.cells #[.slice none 0 0,.int .i64 0,.int .i64 0] 26)=wc at *;clear hwx;refine aH hK (by exact⟨by simpa using (E.out.below BW.out).tb.cell 5,by simpa using (E.out.below BW.out).tb.cell 6,by simpa using (E.out.below BW.out).tb.cell 7,by simpa using (E.out.below BW.out).tb.cell 8,by simpa using (E.out.below BW.out).tb.cell 9,by simpa using (E.out.below BW.out).tb.cell 11⟩) (fun hH=>?_);refine dA 11 (fun K hK=>?_);obtain⟨f0,f1,f2⟩:_/\_/\_:=⟨FB.out.cell 0,FB.out.cell 1,FB.out.cell 2⟩
    simp at f0 f1 f2;have z0:=FB.out.frozen 0;have z1:=FB.out.frozen 1;have z2:=FB.out.frozen 2;have hlf:=FB.out.lt;rw [if_pos (by rfl)];go_simp
    have FB3:=aA (FB.out.store3 (.slice Ac n cc) (.int .i64 f.per) (.int .i64 f.inc));have k:=((bG wc F 0 (.slice Ac n cc)).trans (bG _ F 1 (.int .i64 f.per))).trans (bG _ F 2 (.int .i64 f.inc));have HI3:=aA (HI.out.kx k (fun hn b off s e h=>HAF.out b off s e hn h));have BW3:=aA (gC BW.out k (fun g e=>by rw [e];exact HF.out));clear k f0 f1 f2 z0 z1 z2 hlf FB BW HI;generalize hwz:((wc.setCell ⟨F,0,none⟩ _).setCell ⟨F,1,none⟩ _).setCell ⟨F,2,none⟩ _=wz at *;clear hwz;refine aH hK (by exact⟨by simpa using (E.out.below BW3.out).tb.cell 5,by simpa using (E.out.below BW3.out).tb.cell 6,by simpa using (E.out.below BW3.out).tb.cell 7,by simpa using (E.out.below BW3.out).tb.cell 8,by simpa using (E.out.below BW3.out).tb.cell 9,by simpa using (E.out.below BW3.out).tb.cell 11⟩) (fun hH=>?_);refine bD 12 ?_;refine aT ?_;go_wp2_with fail
    go_meet
    exact⟨f,er,zs,F,Ac,n,cc,aA ⟨Z.out,HC.out⟩,rfl,rfl,aA ⟨FB3.out,HI3.out⟩,BW3⟩
   ·skip
    rw [if_pos (by rfl)];go_simp
    have ba:=aF wa (.cells #[.slice none 0 0,.int .i64 0,.int .i64 0] 26);have FB:=aC.new wa 26 #[.slice none 0 0,.int .i64 0,.int .i64 0];have HF:=aA (show wr.heap.size<=wa.heap.size from BW.out.size);replace BW:=aA (aD BW.out ba)
    try (replace RZ:=aA (RZ.out.below ba))
    obtain⟨F,hF⟩:∃F,F=wa.heap.size:=⟨_,rfl⟩
    try (have HAF:=aA (show ∀b off s,Ac=some ⟨b,off,s⟩->0<n->b≠F from fun b off s e hn=>by have:=HI.out.lt2 hn e;omega))
    try (replace HI:=aA (HI.out.ext ba))
    rw [<- hF] at FB;replace HF:=aA (show wr.heap.size<=F from by rw [hF];exact HF.out);simp only [<- hF];replace FB:=aA FB;clear ba hF;generalize hwx:wa.alloc (.cells #[.slice none 0 0,.int .i64 0,.int .i64 0] 26)=wb at *;clear hwx;refine aH hK (by exact⟨by simpa using (E.out.below BW.out).tb.cell 5,by simpa using (E.out.below BW.out).tb.cell 6,by simpa using (E.out.below BW.out).tb.cell 7,by simpa using (E.out.below BW.out).tb.cell 8,by simpa using (E.out.below BW.out).tb.cell 9,by simpa using (E.out.below BW.out).tb.cell 11⟩) (fun hH=>?_);refine aJ 6 (fun K hK=>?_);go_simp
    have hrow:=RY.out.below BW.out;refine(nE (cl:=0) (xs:=[Y0,Y1]) (E.out.below BW.out).r.o2 (by omega) (Nat.le_refl 2) (Nat.le_refl 2) rfl hrow (fun x hx=>?_) (fun x hx=>?_) Z.out.z RZ.out).mono ?_
    ·rcases List.mem_cons.1 hx with rfl|hx
     ·exact FY.out.1.1
     ·rw [List.mem_singleton] at hx;rw [hx];exact FY.out.2.1
    ·rcases List.mem_cons.1 hx with rfl|hx
     ·have h1:=(hrow.inn _ (List.mem_cons_self ..)).1;have h2:=FY.out.1.1.1.n2;omega
     ·rw [List.mem_singleton] at hx;rw [hx];have h1:=(hrow.inn Y1 (by simp)).1;have h2:=FY.out.2.1.1.n2;omega
    rintro e wc ⟨f,er,hC,Ac,n,cc,rfl,hI,hA,hb⟩;replace BW:=aA (aD BW.out hb)
    try (have HAF:=aA (show ∀b off s,Ac=some ⟨b,off,s⟩->0<n->b≠F from fun b off s e hn=>by have h1:=hA b off s e;have h2:=FB.out.lt;omega))
    try (replace FB:=aA (FB.out.below hb FB.out.lt))
    have HC:=aA hC;have HI:=aA hI;clear hC hI hA hb hrow RZ;refine aH hK (by exact⟨by simpa using (E.out.below BW.out).tb.cell 5,by simpa using (E.out.below BW.out).tb.cell 6,by simpa using (E.out.below BW.out).tb.cell 7,by simpa using (E.out.below BW.out).tb.cell 8,by simpa using (E.out.below BW.out).tb.cell 9,by simpa using (E.out.below BW.out).tb.cell 11⟩) (fun hH=>?_);refine aO [7,8,9] ?_;(iterate 3 refine aK ?_);refine aP ?_;refine dA 11 (fun K hK=>?_);obtain⟨f0,f1,f2⟩:_/\_/\_:=⟨FB.out.cell 0,FB.out.cell 1,FB.out.cell 2⟩
    simp at f0 f1 f2;have z0:=FB.out.frozen 0;have z1:=FB.out.frozen 1;have z2:=FB.out.frozen 2;have hlf:=FB.out.lt;rw [if_pos (by rfl)];go_simp
    have FB3:=aA (FB.out.store3 (.slice Ac n cc) (.int .i64 f.per) (.int .i64 f.inc));have k:=((bG wc F 0 (.slice Ac n cc)).trans (bG _ F 1 (.int .i64 f.per))).trans (bG _ F 2 (.int .i64 f.inc));have HI3:=aA (HI.out.kx k (fun hn b off s e h=>HAF.out b off s e hn h));have BW3:=aA (gC BW.out k (fun g e=>by rw [e];exact HF.out));clear k f0 f1 f2 z0 z1 z2 hlf FB BW HI;generalize hwz:((wc.setCell ⟨F,0,none⟩ _).setCell ⟨F,1,none⟩ _).setCell ⟨F,2,none⟩ _=wz at *;clear hwz;refine aH hK (by exact⟨by simpa using (E.out.below BW3.out).tb.cell 5,by simpa using (E.out.below BW3.out).tb.cell 6,by simpa using (E.out.below BW3.out).tb.cell 7,by simpa using (E.out.below BW3.out).tb.cell 8,by simpa using (E.out.below BW3.out).tb.cell 9,by simpa using (E.out.below BW3.out).tb.cell 11⟩) (fun hH=>?_);refine bD 12 ?_;refine aT ?_;go_wp2_with fail
    go_meet
    exact⟨f,er,zs,F,Ac,n,cc,aA ⟨Z.out,HC.out⟩,rfl,rfl,aA ⟨FB3.out,HI3.out⟩,BW3⟩
  ·skip
   rw [if_pos (by rfl)];go_simp
   have ba:=aF wd (.cells #[.slice none 0 0,.int .i64 0,.int .i64 0] 26);have FB:=aC.new wd 26 #[.slice none 0 0,.int .i64 0,.int .i64 0];have HF:=aA (show wr.heap.size<=wd.heap.size from BW.out.size);replace BW:=aA (aD BW.out ba)
   try (replace RZ:=aA (RZ.out.below ba))
   obtain⟨F,hF⟩:∃F,F=wd.heap.size:=⟨_,rfl⟩
   try (have HAF:=aA (show ∀b off s,Ac=some ⟨b,off,s⟩->0<n->b≠F from fun b off s e hn=>by have:=HI.out.lt2 hn e;omega))
   try (replace HI:=aA (HI.out.ext ba))
   rw [<- hF] at FB;replace HF:=aA (show wr.heap.size<=F from by rw [hF];exact HF.out);simp only [<- hF];replace FB:=aA FB;clear ba hF;generalize hwx:wd.alloc (.cells #[.slice none 0 0,.int .i64 0,.int .i64 0] 26)=wa at *;clear hwx;refine aH hK (by exact⟨by simpa using (E.out.below BW.out).tb.cell 5,by simpa using (E.out.below BW.out).tb.cell 6,by simpa using (E.out.below BW.out).tb.cell 7,by simpa using (E.out.below BW.out).tb.cell 8,by simpa using (E.out.below BW.out).tb.cell 9,by simpa using (E.out.below BW.out).tb.cell 11⟩) (fun hH=>?_);refine aJ 5 (fun K hK=>?_);go_simp
   refine(rF A2 q.length c2 q wa (by exact(E.out.below BW.out).r.tq) (by omega) (fun x hx=>by have:=SQ.out.g x hx;omega)).mono ?_;rintro e wb ⟨zs,gz,hz,rfl,hrz,hgz,hb⟩;replace BW:=aA (aD BW.out hb)
   try (replace FB:=aA (FB.out.below hb FB.out.lt))
   have Z:=aA hz;have RZ:=aA hrz;clear hz hrz hgz hb;refine aH hK (by exact⟨by simpa using (E.out.below BW.out).tb.cell 5,by simpa using (E.out.below BW.out).tb.cell 6,by simpa using (E.out.below BW.out).tb.cell 7,by simpa using (E.out.below BW.out).tb.cell 8,by simpa using (E.out.below BW.out).tb.cell 9,by simpa using (E.out.below BW.out).tb.cell 11⟩) (fun hH=>?_);refine aJ 6 (fun K hK=>?_);go_simp
   have hrow:=RY.out.below BW.out;refine(nE (cl:=0) (xs:=[Y0,Y1]) (E.out.below BW.out).r.o2 (by omega) (Nat.le_refl 2) (Nat.le_refl 2) rfl hrow (fun x hx=>?_) (fun x hx=>?_) Z.out.z RZ.out).mono ?_
   ·rcases List.mem_cons.1 hx with rfl|hx
    ·exact FY.out.1.1
    ·rw [List.mem_singleton] at hx;rw [hx];exact FY.out.2.1
   ·rcases List.mem_cons.1 hx with rfl|hx
    ·have h1:=(hrow.inn _ (List.mem_cons_self ..)).1;have h2:=FY.out.1.1.1.n2;omega
    ·rw [List.mem_singleton] at hx;rw [hx];have h1:=(hrow.inn Y1 (by simp)).1;have h2:=FY.out.2.1.1.n2;omega
   rintro e wc ⟨f,er,hC,Ac,n,cc,rfl,hI,hA,hb⟩;replace BW:=aA (aD BW.out hb)
   try (have HAF:=aA (show ∀b off s,Ac=some ⟨b,off,s⟩->0<n->b≠F from fun b off s e hn=>by have h1:=hA b off s e;have h2:=FB.out.lt;omega))
   try (replace FB:=aA (FB.out.below hb FB.out.lt))
   have HC:=aA hC;have HI:=aA hI;clear hC hI hA hb hrow RZ;refine aH hK (by exact⟨by simpa using (E.out.below BW.out).tb.cell 5,by simpa using (E.out.below BW.out).tb.cell 6,by simpa using (E.out.below BW.out).tb.cell 7,by simpa using (E.out.below BW.out).tb.cell 8,by simpa using (E.out.below BW.out).tb.cell 9,by simpa using (E.out.below BW.out).tb.cell 11⟩) (fun hH=>?_);refine aO [7,8,9] ?_;(iterate 3 refine aK ?_);refine aP ?_;refine dA 11 (fun K hK=>?_);obtain⟨f0,f1,f2⟩:_/\_/\_:=⟨FB.out.cell 0,FB.out.cell 1,FB.out.cell 2⟩
   simp at f0 f1 f2;have z0:=FB.out.frozen 0;have z1:=FB.out.frozen 1;have z2:=FB.out.frozen 2;have hlf:=FB.out.lt;rw [if_pos (by rfl)];go_simp
   have FB3:=aA (FB.out.store3 (.slice Ac n cc) (.int .i64 f.per) (.int .i64 f.inc));have k:=((bG wc F 0 (.slice Ac n cc)).trans (bG _ F 1 (.int .i64 f.per))).trans (bG _ F 2 (.int .i64 f.inc));have HI3:=aA (HI.out.kx k (fun hn b off s e h=>HAF.out b off s e hn h));have BW3:=aA (gC BW.out k (fun g e=>by rw [e];exact HF.out));clear k f0 f1 f2 z0 z1 z2 hlf FB BW HI;generalize hwz:((wc.setCell ⟨F,0,none⟩ _).setCell ⟨F,1,none⟩ _).setCell ⟨F,2,none⟩ _=wz at *;clear hwz;refine aH hK (by exact⟨by simpa using (E.out.below BW3.out).tb.cell 5,by simpa using (E.out.below BW3.out).tb.cell 6,by simpa using (E.out.below BW3.out).tb.cell 7,by simpa using (E.out.below BW3.out).tb.cell 8,by simpa using (E.out.below BW3.out).tb.cell 9,by simpa using (E.out.below BW3.out).tb.cell 11⟩) (fun hH=>?_);refine bD 12 ?_;refine aT ?_;go_wp2_with fail
   go_meet
   exact⟨f,er,zs,F,Ac,n,cc,aA ⟨Z.out,HC.out⟩,rfl,rfl,aA ⟨FB3.out,HI3.out⟩,BW3⟩
 case rest=>
  rename World=>wx
  obtain⟨g,er2,zq,G,Ag,ng,cg,HZG,rfl,rfl,HGG,BW⟩:=hcut;replace E:=aA (E.out.below BW.out);replace RX:=aA (RX.out.below BW.out);replace FBf:=aA (FBf.out.below BW.out FBf.out.lt);replace HIf:=aA (HIf.out.ext BW.out);have FBg:=aA HGG.out.1;have HIg:=aA HGG.out.2
  rename_i K hK
  refine hK _ _ ?_;exact a4x E P5 SQ SP HL RX FX HZF FBf HIf HZG FBg HIg
end Go.Proofs.YtaejfleahamapaaGreat
