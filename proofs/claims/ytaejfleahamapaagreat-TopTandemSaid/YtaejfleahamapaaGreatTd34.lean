/- . -/
import Derived.Test.YtaejfleahamapaaGreatTd32
namespace Go.Proofs.YtaejfleahamapaaGreat
set_option linter.unusedVariables false
set_option linter.unusedSimpArgs false
set_option maxHeartbeats 4000000
set_option maxRecDepth 100000
open Go.RowKit
section
def oF(C lost:Int)(tb:List Int)(c:Int)(f:Cv):Prop:=∀t n,t<tb.length->f.at n<=cF C lost tb c t n
theorem rG(w:World){v lost:Int}(h:v=lost):aC (w.alloc (.cells #[.int .i64 v] 3)).drew w.heap.size 3 #[.int .i64 lost]/\Below w.heap.size w (w.alloc (.cells #[.int .i64 v] 3)).drew:=by
 subst h;exact⟨aC.drew (aC.new w _ _),Below.drew (aF w _)⟩
structure fR(w3 w:World)(bz gb N:Nat)(ls:List Int):Prop where
 bw:Below w3.heap.size w3 w
 lb:aC w gb 22 #[.slice (some ⟨bz,0,none⟩) N N]
 iz:aN w bz ls
 h1:w3.heap.size<=bz
 h2:w3.heap.size<=gb
 h3:bz≠gb
 ll:ls.length=N
section
variable{w3 w w':World}{bz gb N:Nat}{ls:List Int}
theorem fR.new(w:World)(N:Nat):fR w ((w.alloc (.cells (Array.replicate N (Value.int .i64 0)) 3)).alloc (.cells #[.slice (some ⟨w.heap.size,0,none⟩) N N] 22)) w.heap.size (w.heap.size+1) N (List.replicate N 0):=by
 have h:=aC.new (w.alloc (.cells (Array.replicate N (Value.int .i64 0)) 3)) 22 #[.slice (some ⟨w.heap.size,0,none⟩) N N];rw [World.size_alloc] at h;exact⟨aD (aF w _) (aF _ _),h,(aN.zeros (n:=N) (aC.new w 3 (Array.replicate N (Value.int .i64 0)))).alloc _,by omega,by omega,by omega,by simp⟩
theorem fR.set_(h:fR w3 w bz gb N ls)(i:Nat)(x:Int):fR w3 (w.setCell ⟨bz,i,none⟩ (.int .i64 x)) bz gb N (ls.set i x):=by
 have:=h.h1;have:=h.h2;have:=h.h3
 exact⟨h.bw.setCell (by simp;omega) _,h.lb.far (by simp;omega) _,h.iz.set_ i x,h.h1,h.h2,h.h3,by simp [h.ll]⟩
theorem fR.drew(h:fR w3 w bz gb N ls):fR w3 w.drew bz gb N ls:=⟨Below.drew h.bw,aC.drew h.lb,h.iz.drew,h.h1,h.h2,h.h3,h.ll⟩
theorem fR.below(h:fR w3 w bz gb N ls)(hb:Below w.heap.size w w'):fR w3 w' bz gb N ls:=⟨aD h.bw hb,h.lb.below hb h.lb.lt,h.iz.below hb h.iz.lt,h.h1,h.h2,h.h3,h.ll⟩
theorem fR.cells(h:fR w3 w bz gb N ls){k:Nat}(hk:k<N):w.cell? ⟨gb,0,none⟩=some (.slice (some ⟨bz,0,none⟩) N N)/\w.cell? ⟨bz,k,none⟩=some (.int .i64 (aB ls k))/\w.frozen? ⟨bz,k,none⟩=false/\gb<w.heap.size/\bz<w.heap.size:=by
 have c0:=h.lb.cell 0;simp at c0;exact⟨c0,h.iz.cell k (by rw [h.ll];exact hk),h.iz.frozen k,h.lb.lt,h.iz.lt⟩
end
theorem xS{ls:List Int}{k:Nat}(x:Int)(h:k<ls.length)(j:Nat):aB (ls.set k x) j=if j=k then x else aB ls j:=by
 unfold aB;simp only [List.getD_eq_getElem?_getD,List.getElem?_set];by_cases e:k=j
 ·subst e;simp [h]
 ·rw [if_neg e,if_neg (by omega)]
theorem sS{B:Nat}{w0 w w':World}{row:Option Nat}(k:w.grownBy w' row)(h:Below B w0 w)(hB:B<=w0.heap.size)(hr:∀g,row=some g->B<=g):Below B w0 w':=Below.grown h k (Nat.le_trans hB h.size) hr
structure jM(w3 w:World)(bz gb N:Nat)(ls:List Int)(AL:Option Addr)(M:Nat)(long:List Int):Prop where
 e:fR w3 w bz gb N ls
 z:aE w w.heap.size AL M long
 n:∀b off o,AL=some ⟨b,off,o⟩->b≠bz
section
variable{w3 w:World}{bz gb N M:Nat}{ls long:List Int}{AL:Option Addr}
theorem jM.set_(h:jM w3 w bz gb N ls AL M long)(i:Nat)(x:Int):jM w3 (w.setCell ⟨bz,i,none⟩ (.int .i64 x)) bz gb N (ls.set i x) AL M long:=⟨h.e.set_ i x,h.z.sto ((aR.refl bz w).set i _) h.n,h.n⟩
theorem jM.put{X v:Int}{k:Nat}(h:jM w3 w bz gb N ls AL M long)(e:X=v):jM w3 (w.setCell ⟨bz,k,none⟩ (.int .i64 X)).drew bz gb N (ls.set k v) AL M long:=by
 subst e;have s:=h.set_ k X;exact⟨s.e.drew,s.z,s.n⟩
end
theorem U5{tb long:List Int}{L:Nat}(hl:tb.length=L)(h1:1<=L)(h:long=tb ++ tb ++ tb ++ tb)(i:Nat)(hi:i<L+L+L+L):aB long i=bY tb i:=by
 subst hl;subst h;unfold bY aB;simp only [List.getD_eq_getElem?_getD]
 congr 1
 have e:∀k j,i=j+k*tb.length->j<tb.length->i % tb.length=j:=fun k j h hj=>by rw [h,Nat.add_mul_mod_self_right,Nat.mod_eq_of_lt hj]
 simp only [List.getElem?_append,List.length_append];split
 ·split
  ·split
   ·rw [e 0 i (by omega) (by omega)]
   ·rw [e 1 (i-tb.length) (by omega) (by omega)]
  ·rw [e 2 (i-(tb.length+tb.length)) (by omega) (by omega)]
 ·rw [e 3 (i-(tb.length+tb.length+tb.length)) (by omega) (by omega)]
def rZ(args:Array Value):Sem Value:=Builtin.append_ #[251,251] 251 args
theorem F6(args:Array Value):Builtin.append_ #[251,251] 251 args=rZ args:=rfl
theorem a28{w:World}{A:Option Addr}{L:Nat}{tb:List Int}(h:aE w w.heap.size A L tb)(h1:1<=L)(h2:L<=40)(c:Nat):∃v' w',Sem.run Tryz.prog (rZ #[.slice A L L,.slice A L c]) w = .ok v' w'/\Own w' w.heap.size v' (L+L) (tb ++ tb)/\w.grownBy w' none:=by
 obtain⟨i0,hi0,hz0,hz1,hz2⟩:=info_parts iE;have hl:=h.1;obtain⟨b,off,rfl,hb,hc⟩:=h.2 (by omega);have hcs:∀j u,(tb.map (Value.int .i64))[j]?=some u->w.cell? ((⟨b,off,none⟩:Addr).add j)=some u:=by
  intro j u hu;have hj:j<L:=by
   rcases Nat.lt_or_ge j L with g|g
   ·exact g
   ·rw [List.getElem?_eq_none (by simp [hl];exact g)] at hu;cases hu
  rw [Addr.add_lit,hc j hj];rw [List.getElem?_map,List.getElem?_eq_getElem (by omega)] at hu;simp at hu;rw [<- hu];simp [aB,show j<tb.length by omega]
 obtain⟨v',w',hr,ho,hg⟩:=run_append_arg_grows (P:=Tryz.prog) w 251 251 3 i0 (.int .i64 0) 1 8 Tryz.underlying251 hi0 hz0 hz1 hz2 rfl (by omega) ⟨b,off,none⟩ L L (tb.map (Value.int .i64)) (by simp [hl]) hcs ⟨b,off,none⟩ L c (tb.map (Value.int .i64)) (by simp [hl]) hcs (by omega) (by unfold maxLen;omega) (by omega);exact⟨v',w',hr,by rw [Own,List.map_append];exact ho,hg⟩
theorem yS{w:World}{base n:Nat}{v:Value}{xs:List Int}(h:Own w base v n xs){B m:Nat}{A:Option Addr}{zs:List Int}(c:Nat)(hr:aE w B A m zs)(h63:n+m<=100000000)(hbase:base<=w.heap.size) :
 ∃v' w',Sem.run Tryz.prog (rZ #[v,.slice A m c]) w = .ok v' w'/\Own w' base v' (n+m) (xs ++ zs)/\w.grownBy w' v.ownBlock/\(v'.ownBlock=v.ownBlock\/v'.ownBlock=some w.heap.size):=
 tM _ _ Tryz.underlying251 h c hr h63 hbase
attribute [local go_sem ↓] F6
theorem a32{w3 w:World}{bz gb N:Nat}{ls:List Int}(h:fR w3 w bz gb N ls){t:Nat}(ht:t<N) :
 Calls Tryz.prog 228 (#[.int .i64 t] ++ #[.pointer (some ⟨gb,0,none⟩)]) w fun e w'=>e = .returned (.int .i64 (aB ls t))/\Below w.heap.size w w':=by
 show Calls _ _ #[.int .i64 t,.pointer (some ⟨gb,0,none⟩)] _ _
 obtain⟨y0,y1,y2,y3,y4⟩:=h.cells ht;have hti:(t:Int)<N:=by omega
 clear h;go_enter Tryz.func228,Tryz.ntmps228
 go_wp2_with fail
 go_ret
 exact⟨rfl,Below.refl _ _⟩
theorem a31(cap:Nat)(cl n L cT cZ:Nat)(AT AZ:Option Addr)(tb:List Int)(zs:List SZ)(w:World)(h:TZ w n AT L cT tb AZ cZ zs)(h1:1<=(cap:Int))(h2:(cap:Int)<=4000)(hcl:cl<n)(hn:n<=2)(hsv:∃k,k<L/\aB tb k=cl)(hot:∃k,k<L/\aB tb k≠cl) :
 Calls Tryz.prog 222 #[.int .i64 cap,.int .i64 cl,.slice AT L cT,.slice AZ n cZ] w (dI (dS (oF cap (max 0 (aW zs cl-1)) tb cl)) w):=by
 have rb:=aC.new (w.alloc (.cells #[.int .i64 cap] 3)) 26 #[.slice none 0 0,.int .i64 0,.int .i64 0];simp only [World.size_alloc] at rb;have RB:=aA rb;have B4:=aA ((aC.new w 3 #[.int .i64 cap]).alloc (.cells #[.slice none 0 0,.int .i64 0,.int .i64 0] 26));have EB:=aA (aD (aF w (.cells #[.int .i64 cap] 3)) (aF _ (.cells #[.slice none 0 0,.int .i64 0,.int .i64 0] 26)));have H:=aA (h.below EB.out);have HSV:=aA hsv;have HOT:=aA hot;have hL1:=h.l1;have hL2:=h.l2;have HTL:=aA h.i.1;clear rb h hsv hot;go_enter Tryz.func222,Tryz.ntmps222
 go_upto_region 1 with fail
 generalize hwe:(w.alloc (.cells #[.int .i64 cap] 3)).alloc (.cells #[.slice none 0 0,.int .i64 0,.int .i64 0] 26)=w1 at *;clear hwe;have c4:=B4.out.cell 0;simp at c4;have hl4:=B4.out.lt;go_wp2_with fail
 refine(a3z cap cl n L cT cZ AT AZ tb zs w1 H.out h1 h2 hcl (by omega)).mono ?_;rintro e w2 ⟨rfl,hb⟩;replace RB:=aA (RB.out.below hb RB.out.lt);replace B4:=aA (B4.out.below hb B4.out.lt);replace H:=aA (H.out.below hb);replace EB:=aA (aD EB.out hb);clear hb c4 hl4;obtain⟨g,p,x,rfl,hgl,hx,x0,x1,hg⟩:=H.out.get hcl;unfold SZ.Good at hg;have hcli:(cl:Int)<(n:Int):=by omega
 obtain⟨hi,hhi⟩:∃hi,hi=x.hi:=⟨_,rfl⟩
 rw [<- hhi] at x1 hg;obtain⟨lost,hlo⟩:∃lost,lost=max 0 (hi-1):=⟨_,rfl⟩
 have HLZ:=aA (show max 0 (aW zs cl-1)=lost by rw [qM hx,<- hhi,hlo]);have hl0:0<=lost/\lost<=1500:=by omega
 have HLO:=aA hlo;clear hlo;have e1:IntKind.i64.wrap (hi-1)=hi-1:=IntWalk.i64_in _ (by omega);clear hx hhi;have HL2:=aA RB.out.lt;go_upto_region 4 with fail
 go_cut [11,12] (fun s11 s12 wx=>∃bl:Nat,s11 = .slice AT L cT/\s12 = .pointer (some ⟨bl,0,none⟩)/\Hid (aC wx bl 3 #[.int .i64 lost])/\w2.heap.size<=bl/\Hid (Below w2.heap.size w2 wx))
 case first=>
  go_region
  go_wp2_with fail
  all_goals go_meet
  ·exact⟨_,rfl,rfl,aA (rG w2 (v:=hi-1) (lost:=lost) (by have:=HLO.out;omega)).1,by omega,aA (rG w2 (v:=hi-1) (lost:=lost) (by have:=HLO.out;omega)).2⟩
  ·exact⟨_,rfl,rfl,aA (rG w2 (v:=0) (lost:=lost) (by have:=HLO.out;omega)).1,by omega,aA (rG w2 (v:=0) (lost:=lost) (by have:=HLO.out;omega)).2⟩
 case rest=>
  obtain⟨bl,rfl,rfl,R2,hbl,KB⟩:=hcut;have hb:=KB.out;replace x1:wc.cell? ⟨g,p+cl*2+1,none⟩=some (.int .i64 hi):=(World.cell?_of_block (a:=⟨g,p+cl*2+1,none⟩) (hb.block g hgl)).trans x1;replace hgl:g<wc.heap.size:=by have:=hb.size;omega
  have HBL:=aA (show w.heap.size+1<bl by have:=HL2.out;omega);replace RB:=aA (RB.out.below hb RB.out.lt);replace B4:=aA (B4.out.below hb B4.out.lt);replace H:=aA (H.out.below hb);replace EB:=aA (aD EB.out hb);clear hb KB hbl HL2 x0;go_wp2_with fail
  go_loopg [13,14,45] L (fun gg s13 _ s45 wr=>∃(k:Nat) (b:Bool),k+gg=L/\s45 = .int .i64 k/\s13 = .bool b/\Hid ((∃j,j<k/\aB tb j=cl)->b=true)/\wr=wc)
  case atStart=>exact⟨0,false,by omega,rfl,rfl,aA (fun⟨j,hj,_⟩=>by omega),rfl⟩
  case round=>
   obtain⟨k,b,hkg,rfl,rfl,HK,rfl⟩:=hrel;by_cases hk:k<L
   case pos=>
    have hki:(k:Int)<L:=by omega
    cases b
    case true=>
     go_wp2_with fail
     go_roundg (gk-1)
     case measure=>omega
     case rel=>exact⟨k+1,true,by omega,by go_num,rfl,aA (fun _=>rfl),rfl⟩
    case false=>
     go_wp2_with fail
     refine(a33 cl n L cT cZ k _ _ tb zs wr H.out hk).mono ?_;rintro e w3 ⟨rfl,rfl⟩;obtain⟨bb,hbb⟩:∃bb,bb=decide (aB tb k=(cl:Int)):=⟨_,rfl⟩
     rw [<- hbb];have HK2:=aA (show(∃j,j<k+1/\aB tb j=cl)->bb=true from fun⟨j,hj,hc⟩=>by
      by_cases e:j=k
      ·subst e;rw [hbb];exact decide_eq_true hc
      ·exact absurd (HK.out ⟨j,by omega,hc⟩) (by simp))
     clear hbb;go_wp2_with fail
     go_roundg (gk-1)
     case measure=>omega
     case rel=>exact⟨k+1,bb,by omega,by go_num,rfl,HK2,rfl⟩
   case neg=>
    have hki:¬(k:Int)<L:=by omega
    obtain rfl:L=k:=by omega
    obtain rfl:b=true:=HK.out HSV.out;by_cases hh:hi<1
    case pos=>
     have hd:decide (hi<1)=true:=decide_eq_true hh;obtain⟨⟨r0,r1,r2⟩,⟨y0,y1,y2⟩,hlr⟩:=RB.out.c3;go_wp2_with fail
     have rb:=RB.out.store3 (.slice none 0 0) (.int .i64 0) (.int .i64 0);exact bodyPost_ret (v:=.tuple #[.agg #[.slice none 0 0,.int .i64 0,.int .i64 0],.int .i64 5]) (by simp [results,Tryz.results222,go_sem,rb.cell]) rfl ⟨Cv.none,5,dS.none (by omega),none,0,0,rfl,aE.none_,(fun b off s h=>by cases h),cO EB.out (by omega) _ _ _⟩
    case neg=>
     have hd:decide (hi<1)=false:=decide_eq_false hh;obtain⟨m,e,ha⟩:=eC.ex tb (cl:Int) 0;have he:e=true:=by
      rcases e with _|_
      ·obtain⟨j,hj,hc⟩:=HOT.out;have:=(ha.all (by rw [HTL.out];omega)) j
       rw [show bY tb j=aB tb j by unfold bY;rw [HTL.out,Nat.mod_eq_of_lt hj]] at this;exact absurd this hc
      ·rfl
     subst he;have HA:=aA ha;clear ha;go_wp2_with fail
     refine(a3y AT L cT tb cl 0 m true wr H.out.i hL1 hL2 (by omega) (by omega) HA.out).mono ?_;rintro e w3 ⟨rfl,rfl⟩;clear HA;obtain⟨N,hN⟩:∃N:Nat,N=3*L:=⟨_,rfl⟩
     have hmi:∀w:World,(Instr.makeSlice 22 (.int .i64 (3*(L:Int))) (.int .i64 (3*(L:Int)))).run Tryz.prog w = .ok (.slice (some ⟨w.heap.size,0,none⟩) N N) (w.alloc (.cells (Array.replicate N (Value.int .i64 0)) 3)):=by
      rw [show 3*(L:Int)=(N:Int) by omega];exact rD N (by omega)
     have hN1:1<=N/\N<=120:=by omega
     have HN:=aA hN;clear hN;go_upto_region 19 with fail
     have E0:=aA (fR.new w3 N);have HBLr:=aA R2.out.lt;generalize hwe:(w3.alloc (.cells (Array.replicate N (Value.int .i64 0)) 3)).alloc (.cells #[.slice (some ⟨w3.heap.size,0,none⟩) N N] 22)=w5 at *;clear hwe hmi;generalize hbz:w3.heap.size=bz at *;generalize hgb:bz+1=gb at *;clear hgb;obtain⟨y0,y1,y2,y3,y4⟩:=E0.out.cells (k:=0) (by omega);go_wp2_with fail
     clear y0 y1 y2 y3 y4;go_loopg [20,92] N (fun gg _ s92 wq=>∃(j:Nat) (ls:List Int),j+gg=N/\s92 = .int .i64 j/\Hid (fR w3 wq bz gb N ls)/\Hid (∀i,i<j->aB ls i=aG))
     case atStart=>exact⟨0,_,by omega,rfl,E0,aA (fun i hi=>by omega)⟩
     case round=>
      clear E0;obtain⟨j,ls,hjg,rfl,E,HI⟩:=hrel;by_cases hj:j<N
      case pos=>
       have hji:(j:Int)<N:=by omega
       obtain⟨y0,y1,y2,y3,y4⟩:=E.out.cells hj;have E2:=aA (E.out.set_ j aG);have HI2:=aA (show ∀i,i<j+1->aB (ls.set j aG) i=aG from fun i hi=>by
        rw [xS _ (by rw [E.out.ll];exact hj)];split
        ·rfl
        ·exact HI.out i (by omega))
       clear E HI;go_wp2_with fail
       go_roundg (gk-1)
       case measure=>omega
       case rel=>exact⟨j+1,_,by omega,by go_num,E2,HI2⟩
      case neg=>
       have hji:¬(j:Int)<N:=by omega
       obtain rfl:N=j:=by omega
       clear hjg hji;have hLc:=H.out.lc;have hLc2:(L:Int)<=cT:=by omega
       have HTq:=aA (H.out.below E.out.bw);obtain⟨v1,q1,r1,o1,k1⟩:=a28 HTq.out.i hL1 hL2 cT;have b1:=sS k1 (Below.refl wr.heap.size _) (Nat.le_refl _) (fun _ h=>by cases h);obtain⟨v2,q2,r2,o2,k2,n2⟩:=yS o1 cT (HTq.out.below b1).i (by omega) b1.size;have b2:=sS k2 b1 (Nat.le_refl _) (fun g h=>(o1.blk_lt g h).1);obtain⟨v3,q3,r3,o3,k3,n3⟩:=yS o2 cT (HTq.out.below b2).i (by omega) b2.size;have b3:=sS k3 b2 (Nat.le_refl _) (fun g h=>(o2.blk_lt g h).1);have HB3:=aA b3;have HO3:=aA o3;clear b1 b2 b3 o1 o2 o3 k1 k2 k3 n2 n3 HTq;go_upto_region 25 with fail
       obtain⟨AL,cL,rfl,hcL,hzL,hbL⟩:=HO3.out.ints;have S:=aA (jM.mk (E.out.below HB3.out) hzL (fun b off o h=>by have:=hbL b off o h;have:=E.out.iz.lt;omega));have HM:=aA (show ∀j,j<N->aB ls j=b8 cap lost tb cl 0 j from fun j hj=>HI.out j hj);have HLG:=aA (U5 HTL.out hL1 (Eq.refl (tb ++ tb ++ tb ++ tb)));clear E HI HO3 HB3 hzL hbL hcL r1 r2 r3 hLc hLc2;generalize tb ++ tb ++ tb ++ tb=long at *;generalize hM:L+L+L+L=M at *;go_wp2_with fail
       go_loopg [22,23,24,25,111,116] L (fun gg _ _ _ _ s111 _ wr=>∃(f:Nat) (ls:List Int),f+gg=L/\s111 = .int .i64 f/\Hid (jM w3 wr bz gb N ls AL M long)/\Hid (∀j,j<N->aB ls j=b8 cap lost tb cl f j))
       case atStart=>exact⟨0,ls,by omega,rfl,S,HM⟩
       case round=>
        clear S HM ls;obtain⟨f,ls,hfg,rfl,S,HM⟩:=hrel;by_cases hf:f<L
        case pos=>
         have hfi:(f:Int)<L:=by omega
         obtain⟨y0,y1,y2,y3,y4⟩:=S.out.e.cells (k:=0) (by omega);go_wp2_with fail
         clear y0 y1 y2 y3 y4;obtain⟨go,hgo⟩:∃go:Nat,go=gk:=⟨_,rfl⟩
         go_loopg [23,24,25,116] N (fun gg s23 s24 _ s116 wq=>∃(k:Nat) (l2:List Int) (a b:Int),k+gg=N/\s116 = .int .i64 k/\s23 = .int .i64 a/\s24 = .int .i64 b/\Hid (bB cap lost tb cl f k=(a,b))/\Hid (jM w3 wq bz gb N l2 AL M long)/\Hid (∀j,j<N->aB l2 j=b8 cap lost tb cl (if j<k then f+1 else f) j))
         case atStart=>exact⟨0,ls,0,0,by omega,rfl,rfl,rfl,aA rfl,S,aA (fun j hj=>by rw [if_neg (by omega)];exact HM.out j hj)⟩
         case round=>
          clear S HM ls;obtain⟨k,l2,a,b,hkg,rfl,rfl,rfl,HP,S,HM⟩:=hrel;by_cases hk:k<N
          case pos=>
           have hki:(k:Int)<N:=by omega
           have hnn:=mF (C:=(cap:Int)) (lost:=lost) (tb:=tb) (c:=cl) (by omega) f k;have hle:=tV (C:=(cap:Int)) (lost:=lost) (tb:=tb) (c:=cl) (by omega) (by omega) f k;rw [HP.out] at hnn hle;have hck:(cap:Int)*k<=4000*120:=Int.mul_le_mul (by omega) (by omega) (by omega) (by omega);obtain⟨na,nb⟩:0<=a/\0<=b:=hnn;have hab:a+b<=480000:=Int.le_trans hle hck;obtain⟨z,hz⟩:∃z,z=aB l2 k:=⟨_,rfl⟩
           have hzm:=HM.out k hk;rw [if_neg (by omega),<- hz] at hzm;have hz0:0<=z:=by rw [hzm];exact rH (by omega) (by omega) k f
           obtain⟨y0,y1,y2,y3,y4⟩:=S.out.e.cells hk;rw [<- hz] at y1;have HZ:=aA hzm;obtain⟨v,hv⟩:∃v,v=b8 cap lost tb cl (f+1) k:=⟨_,rfl⟩
           have HVV:=aA (show v=min z (a+max 0 (b-lost)) by
            have hF:cF cap lost tb cl f k=a+max 0 (b-lost):=by unfold cF;rw [HP.out]
            have:=a3s (C:=(cap:Int)) (lost:=lost) (tb:=tb) (c:=cl) f k (by rw [hF];unfold aG;omega)
            rw [hv,this,hF,hzm])
           have HW:=aA (show ∀j,j<N->aB (l2.set k v) j=b8 cap lost tb cl (if j<k+1 then f+1 else f) j from fun j hj=>by
            rw [xS _ (by rw [S.out.e.ll];exact hk)];by_cases e:j=k
            ·rw [if_pos e,if_pos (by omega),e,hv]
            ·rw [if_neg e,HM.out j hj];by_cases e2:j<k
             ·rw [if_pos e2,if_pos (by omega)]
             ·rw [if_neg e2,if_neg (by omega)])
           clear hle hck hz hzm hv HM;have r2:=R2.out.below S.out.e.bw R2.out.lt;have c2:=r2.cell 0;simp at c2;have hl2':=r2.lt;clear r2;go_upto_region 32 with fail
           go_cut [] (fun wx=>Hid (jM w3 wx bz gb N (l2.set k v) AL M long))
           case first=>
            go_region
            go_wp2_with fail
            all_goals go_meet
            all_goals exact aA (jM.put S.out (by have:=HVV.out;omega))
           case rest=>
            have S2:=hcut;have hkf:(f:Int)+(k:Int)<(M:Int):=by have:=HN.out;omega
            obtain⟨gl,ol,rfl,hgl',hcc⟩:=S2.out.z.2 (by omega);have hc2:=hcc (f+k) (by omega);rw [HLG.out _ (by omega)] at hc2;obtain⟨q,hq⟩:∃q,q=bY tb (f+k):=⟨_,rfl⟩
            rw [<- hq] at hc2;have HQ:=aA hq;have c2:=(R2.out.below S2.out.e.bw R2.out.lt).cell 0;have c4:=(B4.out.below S2.out.e.bw B4.out.lt).cell 0;simp at c2 c4;have hl2':=(R2.out.below S2.out.e.bw R2.out.lt).lt;have hl4:=(B4.out.below S2.out.e.bw B4.out.lt).lt;clear hcut hcc hq;by_cases hqc:q=cl
            case pos=>
             have HP2:=aA (show bB cap lost tb cl f (k+1)=(a,b+cap) by rw [bB,if_pos (by rw [<- HQ.out,hqc]),HP.out]);have hd:(q == (cl:Int))=true:=by simp [hqc]
             clear hqc HP;go_wp2_with fail
             go_roundg (gk-1)
             case measure=>omega
             case rel=>exact⟨k+1,_,a,b+cap,by omega,by go_num,rfl,rfl,HP2,S2,HW⟩
            case neg=>
             have HP2:=aA (show bB cap lost tb cl f (k+1)=(a+max 0 (b-lost),0) by rw [bB,if_neg (by rw [<- HQ.out];exact hqc),HP.out]);have hd:(q == (cl:Int))=false:=by simp [hqc]
             clear hqc HP;go_wp2_with fail
             case inl hlt=>
              have HP3:=aA (show bB cap lost tb cl f (k+1)=(a+(b-lost),0) by rw [HP2.out];congr 1;omega);go_roundg (gk-1)
              case measure=>omega
              case rel=>exact⟨k+1,_,_,0,by omega,by go_num,rfl,rfl,HP3,S2,HW⟩
             case inr hge=>
              have HP3:=aA (show bB cap lost tb cl f (k+1)=(a,0) by rw [HP2.out];congr 1;omega);go_roundg (gk-1)
              case measure=>omega
              case rel=>exact⟨k+1,_,_,0,by omega,by go_num,rfl,rfl,HP3,S2,HW⟩
          case neg=>
           have hki:¬(k:Int)<N:=by omega
           have HM2:=aA (show ∀j,j<N->aB l2 j=b8 cap lost tb cl (f+1) j from fun j hj=>by have:=HM.out j hj;rwa [if_pos (by omega)] at this);clear HM;go_wp2_with fail
           go_roundg (go-1)
           case measure=>omega
           case rel=>exact⟨f+1,l2,by omega,by go_num,S,HM2⟩
        case neg=>
         have hfi:¬(f:Int)<L:=by omega
         obtain rfl:L=f:=by omega
         clear hfi hfg;have E:=aA S.out.e;obtain⟨T,hT⟩:∃T:Nat,T=2*L:=⟨_,rfl⟩
         obtain⟨I,hI⟩:∃I:Int,I=b8 cap lost tb cl L T-b8 cap lost tb cl L L:=⟨_,rfl⟩
         have hmb:=fun j:Nat=>yZ (C:=(cap:Int)) (lost:=lost) (tb:=tb) (c:=cl) (by omega) (by omega) j hL1
         have hmn:=fun j:Nat=>rH (C:=(cap:Int)) (lost:=lost) (tb:=tb) (c:=cl) (by omega) (by omega) j L
         have hcb:∀j:Nat,j<=400->(cap:Int)*j<=1600000:=fun j hj=>Int.mul_le_mul (a:=cap) (c:=4000) (b:=j) (d:=400) (by omega) (by omega) (by omega) (by omega)
         have hbd:∀j:Nat,j<=400->0<=b8 cap lost tb cl L j/\b8 cap lost tb cl L j<=1600000:=fun j hj=>⟨hmn j,Int.le_trans (hmb j) (hcb j hj)⟩
         have HBD:=aA hbd;have hup:=y5 (C:=(cap:Int)) (lost:=lost) (tb:=tb) (c:=cl) (by omega) (by omega) L L L;rw [show L+L=T by omega] at hup;have b1:=hbd T (by omega);have b2:=hbd L (by omega);have hI0:0<=I:=by omega
         have hI1:I<=1600000:=by omega
         have hTN:T<N/\L<N:=by have:=HN.out;omega
         obtain⟨y0,y1,y2,y3,y4⟩:=E.out.cells (k:=T) hTN.1;obtain⟨_,z1,_,_,_⟩:=E.out.cells (k:=L) hTN.2;rw [HM.out _ (by omega)] at y1 z1;obtain⟨q1,hq1⟩:∃q,q=b8 cap lost tb cl L T:=⟨_,rfl⟩
         obtain⟨q2,hq2⟩:∃q,q=b8 cap lost tb cl L L:=⟨_,rfl⟩
         rw [<- hq1] at y1 b1 hI;rw [<- hq2] at z1 b2 hI;have ei:IntKind.i64.wrap (q1-q2)=I:=by rw [hI];exact IntWalk.i64_in _ (by omega)
         have eT:IntKind.i64.wrap (2*(L:Int))=(T:Int):=by rw [hT];exact IntWalk.i64_in _ (by omega)
         have hTi:(T:Int)<N:=by omega
         have hLN:(L:Int)<N:=by omega
         have HI:=aA (show I=b8 cap lost tb cl L (2*L)-b8 cap lost tb cl L L by rw [<- hT,<- hq1,<- hq2,hI]);have HT2:=aA (show T=2*L from hT);clear hI hq1 hq2 hup hmb hmn hcb hbd hT;go_upto_region 38 with fail
         replace E:=aA E.out.drew;refine wp_region_held_drew (S:=fun w'=>w'.cell? ⟨gb,0,none⟩=some (.slice (some ⟨bz,0,none⟩) N N)/\w'.cell? ⟨bz,T,none⟩=some (.int .i64 q1)/\w'.cell? ⟨bz,L,none⟩=some (.int .i64 q2)) (by kernel_rfl) (by exact⟨y0,y1,z1⟩) (fun hH=>?_);clear y0 y1 y2 y3 y4 z1;generalize hwd:wr.drew=w7 at *;clear hwd;refine aO [0,1,2,3,4,5,6,7,8,9,10,11,12] ?_;(iterate 13 refine aK ?_);refine aP ?_;refine aJ 13 (fun K hK=>?_);go_simp
         have hIZ:=E.out.iz;have hll:=E.out.ll;refine(kN 228 #[.pointer (some ⟨gb,0,none⟩)] L L I (fun t=>b8 cap lost tb cl L t) w7 (by omega) (by omega) (by omega) (by omega) hI0 (by omega)
          (fun t ht=>by have:=HBD.out t (by omega);omega)
          (aA (fun t w8 ht hb=>by
           have hn3:=HN.out;have:=a32 (E.out.below hb) (t:=t) (by omega)
           rwa [HM.out t (by omega)] at this)) (fun x w=>by kernel_rfl)).mono ?_
         rintro e w8 ⟨f,er,hS,A5,m5,d5,rfl,hI5,hA5,hb⟩;have hPr:aY (fun t=>b8 cap lost tb cl L t) L L I:=by
          obtain⟨b,hb1,hb2⟩:=HOT.out;rw [HI.out];exact a3r (b:=b) (by omega) (by unfold bY;rw [HTL.out,Nat.mod_eq_of_lt hb1];exact hb2) (by rw [HTL.out];exact hb1) HTL.out
         have hM:=i9 (h:=fun t=>b8 cap lost tb cl L t) (s:=L) (p:=L) (i:=I) (by omega) (fun t u ht _ h=>absurd h (by have:=HBD.out t (by omega);unfold aG;omega)) (fun _=>hPr) (by simpa using hS);have F:=aA (show dS (oF cap (max 0 (aW zs cl-1)) tb cl) f er by rw [HLZ.out];exact dS.made hM (a3q (by omega) (by omega) hL1) (fun t ht=>by have:=HBD.out t ht;unfold aG;omega) (fun f _ hat t n ht=>by
          rw [hat];exact tS (by rw [<- HTL.out];exact ht)))
         clear hS hM hPr;have hw7:w.heap.size+1<w7.heap.size:=(RB.out.below E.out.bw RB.out.lt).lt;have hbw:=aD E.out.bw hb;replace RB:=aA (RB.out.below hbw RB.out.lt);replace EB:=aA (aD EB.out hbw);have HI5:=aA hI5;have HA5:=aA hA5;replace E:=aA (E.out.below hb);obtain⟨y0,y1,y2,y3,y4⟩:=E.out.cells (k:=T) hTN.1;obtain⟨_,z1,_,_,_⟩:=E.out.cells (k:=L) hTN.2;have w1':w8.cell? ⟨bz,T,none⟩=some (.int .i64 q1):=y1.trans (by have:=hH.2.1;have h2:=(hIZ.cell T (by omega));exact h2.symm.trans this);have w2':w8.cell? ⟨bz,L,none⟩=some (.int .i64 q2):=z1.trans (by have:=hH.2.2;have h2:=(hIZ.cell L (by omega));exact h2.symm.trans this);have hx1:=E.out.h1;have hx2:=E.out.h2;have hx3:=RB.out.lt;have hx4:=HBLr.out;have hlt:=HBL.out;clear hI5 hA5 hb hbw hH y1 y2 y3 y4 z1 hIZ;refine aH hK (by exact⟨y0,w1',w2'⟩) (fun hH=>?_);refine aO [14,15] ?_;(iterate 2 refine aK ?_);refine aP ?_;obtain⟨⟨r0,r1,r2⟩,⟨y0',y1',y2'⟩,hlr⟩:=RB.out.c3;refine aJ 16 (fun K hK=>?_);go_simp
         have st:=aR.three (w.heap.size+1) w8 (.slice A5 m5 d5) (.int .i64 f.per) (.int .i64 f.inc);refine hK.out _ _ ?_ (fun hHeld2=>?_)
         ·exact⟨(World.cell?_of_block (a:=⟨gb,0,none⟩) (st.block gb (by omega))).trans y0,(World.cell?_of_block (a:=⟨bz,T,none⟩) (st.block bz (by omega))).trans w1',(World.cell?_of_block (a:=⟨bz,L,none⟩) (st.block bz (by omega))).trans w2'⟩
         clear hK K
         (try simp only [Act.put]);try simp only [dC,dD,dE]
         refine bD 17 ?_;refine aT ?_;have rb:=RB.out.store3 (.slice A5 m5 d5) (.int .i64 f.per) (.int .i64 f.inc);go_wp2_with fail
         exact bodyPost_ret (v:=.tuple #[.agg #[.slice A5 m5 d5,.int .i64 f.per,.int .i64 f.inc],.int .i64 er]) (by simp [results,Tryz.results222,go_sem,rb.cell]) rfl (fX F.out HA5.out (by omega) (by omega) HI5.out EB.out)
end
end Go.Proofs.YtaejfleahamapaaGreat
