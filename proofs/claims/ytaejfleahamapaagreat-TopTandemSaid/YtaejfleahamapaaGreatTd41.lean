/- . -/
import Derived.Test.YtaejfleahamapaaGreatTd12
import Derived.Test.YtaejfleahamapaaGreatTd19
namespace Go.Proofs.YtaejfleahamapaaGreat
set_option linter.unusedVariables false
set_option linter.unusedSimpArgs false
set_option maxHeartbeats 4000000
set_option maxRecDepth 100000
open Go.RowKit
structure GV(fl:Int)(ps:List PK)(k:Nat)(T:Int)(zs:List Int):Prop where
 len:zs.length=endN ps+1
 done:∀(j:Nat) (x:PK) (t:Int),ps[j]?=some x->x.tm<=t->t<=endN ps->(j<k\/j=k/\t<T)->aV fl ps t-aV fl ps x.tm<=aB zs (t-x.tm).toNat
 att:∀i,i<=endN ps->aB zs i=0\/∃x∈ps,∃t:Int,x.tm<=t/\t<=endN ps/\(t-x.tm).toNat=i/\aB zs i=aV fl ps t-aV fl ps x.tm
 nn:∀i,0<=aB zs i
structure mN(fl:Int)(ps:List PK)(zs:List Int):Prop where
 len:zs.length=endN ps+1
 covers:∀(x:PK) (t:Int),x∈ps->x.tm<=t->t<=endN ps->aV fl ps t-aV fl ps x.tm<=aB zs (t-x.tm).toNat
 att:∀i,i<=endN ps->aB zs i=0\/∃x∈ps,∃t:Int,x.tm<=t/\t<=endN ps/\(t-x.tm).toNat<=i/\aB zs i=aV fl ps t-aV fl ps x.tm
 mono:∀i j,i<=j->j<=endN ps->aB zs i<=aB zs j
 nn:∀i,0<=aB zs i
structure MV(fl:Int)(ps:List PK)(K:Nat)(zs:List Int):Prop where
 len:zs.length=endN ps+1
 covers:∀(x:PK) (t:Int),x∈ps->x.tm<=t->t<=endN ps->aV fl ps t-aV fl ps x.tm<=aB zs (t-x.tm).toNat
 att:∀i,i<=endN ps->aB zs i=0\/∃x∈ps,∃t:Int,x.tm<=t/\t<=endN ps/\(t-x.tm).toNat<=i/\aB zs i=aV fl ps t-aV fl ps x.tm
 mono:∀i j,i<=j->j<K->aB zs i<=aB zs j
 nn:∀i,0<=aB zs i
theorem xR(n i:Nat):aB (List.replicate n 0) i=0:=by
 unfold aB;by_cases h:i<n
 ·simp [h]
 ·simp [h]
section
variable{fl:Int}{ps:List PK}{k K:Nat}{T:Int}{zs:List Int}
theorem GV.start(hv:aM ps):GV fl ps 0 0 (List.replicate (endN ps+1) 0):=by
 refine⟨by simp,fun j x t hx h1 h2 h3=>?_,fun i _=>.inl (xR _ _),fun i=>by rw [xR];exact Int.le_refl _⟩
 have:=hv.good x (List.mem_of_getElem? hx)
 unfold PK.Good at this;omega
theorem GV.into(h:GV fl ps k 0 zs){x:PK}(hx:ps[k]?=some x):GV fl ps k x.tm zs:=
 ⟨h.len,fun j y t hy h1 h2 h3=>by
  rcases h3 with h3 | ⟨rfl,h3⟩
  ·exact h.done j y t hy h1 h2 (.inl h3)
  ·rw [hx] at hy;cases hy
   omega,h.att,h.nn⟩
theorem GV.out(hv:aM ps)(h:GV fl ps k (endN ps+1) zs):GV fl ps (k+1) 0 zs:=
 ⟨h.len,fun j y t hy h1 h2 h3=>by
  have:=hv.good y (List.mem_of_getElem? hy)
  unfold PK.Good at this;rcases h3 with h3 | ⟨rfl,h3⟩
  ·by_cases e:j=k
   ·exact h.done j y t hy h1 h2 (.inr ⟨e,by omega⟩)
   ·exact h.done j y t hy h1 h2 (.inl (by omega))
  ·omega,h.att,h.nn⟩
theorem GV.step(h:GV fl ps k T zs){x:PK}(hx:ps[k]?=some x)(h1:x.tm<=T)(h2:T<=endN ps){i:Nat}(hi:i=(T-x.tm).toNat)(hi2:i<=endN ps){m:Int}(hm:m=max (aB zs i) (aV fl ps T-aV fl ps x.tm)):GV fl ps k (T+1) (zs.set i m):=by
 have hset:∀j,aB (zs.set i m) j=if j=i then m else aB zs j:=fun j=>eQ _ _ _ _ (by rw [h.len];omega)
 refine⟨by rw [List.length_set];exact h.len,fun j y t hy g1 g2 g3=>?_,fun j hj=>?_,fun j=>?_⟩
 ·rw [hset];by_cases hnew:j=k/\t=T
  ·obtain⟨rfl,rfl⟩:=hnew;rw [hx] at hy;cases hy
   rw [if_pos hi.symm];omega
  ·have:=h.done j y t hy g1 g2 (by omega)
   split
   ·rename_i e
    rw [e] at this;omega
   ·exact this
 ·rw [hset];split
  ·rename_i e
   rcases Int.lt_or_le (aB zs i) (aV fl ps T-aV fl ps x.tm) with g|g
   ·exact .inr ⟨x,List.mem_of_getElem? hx,T,h1,h2,by omega,by omega⟩
   ·rw [show m=aB zs i by omega,e];exact h.att i hi2
  ·exact h.att j hj
 ·rw [hset];split
  ·have:=h.nn i
   omega
  ·exact h.nn j
theorem MV.start(hk:ps.length<=k)(h:GV fl ps k 0 zs):MV fl ps 1 zs:=by
 refine⟨h.len,fun x t hx h1 h2=>?_,fun i hi=>?_,fun i j h1 h2=>by rw [show i=j by omega];exact Int.le_refl _,h.nn⟩
 ·obtain⟨j,hj,e⟩:=List.getElem_of_mem hx;exact h.done j x t (by rw [List.getElem?_eq_getElem hj,e]) h1 h2 (.inl (by omega))
 ·rcases h.att i hi with e | ⟨x,hx,t,a,b,c,d⟩
  ·exact .inl e
  ·exact .inr ⟨x,hx,t,a,b,by omega,d⟩
theorem MV.step(h:MV fl ps K zs)(hK:1<=K)(hK2:K<=endN ps){m:Int}(hm:m=max (aB zs K) (aB zs (K-1))):MV fl ps (K+1) (zs.set K m):=by
 have hset:∀j,aB (zs.set K m) j=if j=K then m else aB zs j:=fun j=>eQ _ _ _ _ (by rw [h.len];omega)
 refine⟨by rw [List.length_set];exact h.len,fun x t hx h1 h2=>?_,fun i hi=>?_,fun i j h1 h2=>?_,fun j=>?_⟩
 ·have:=h.covers x t hx h1 h2
  rw [hset];split
  ·rename_i e
   rw [e] at this;omega
  ·exact this
 ·rw [hset];split
  ·rename_i e
   rcases Int.lt_or_le (aB zs K) (aB zs (K-1)) with g|g
   ·rw [show m=aB zs (K-1) by omega];rcases h.att (K-1) (by omega) with e2 | ⟨x,hx,t,a,b,c,d⟩
    ·exact .inl e2
    ·exact .inr ⟨x,hx,t,a,b,by omega,d⟩
   ·rw [show m=aB zs K by omega,e];exact h.att K hK2
  ·exact h.att i hi
 ·rw [hset,hset];by_cases e:j=K
  ·rw [if_pos e];by_cases e2:i=K
   ·rw [if_pos e2];exact Int.le_refl _
   ·rw [if_neg e2];have:=h.mono i (K-1) (by omega) (by omega)
    omega
  ·rw [if_neg e,if_neg (by omega)];exact h.mono i j h1 (by omega)
 ·rw [hset];split
  ·have:=h.nn K
   omega
  ·exact h.nn j
theorem MV.done(h:MV fl ps (endN ps+1) zs):mN fl ps zs:=⟨h.len,h.covers,h.att,fun i j h1 h2=>h.mono i j h1 (by omega),h.nn⟩
theorem mN.bd(hv:aM ps)(h:mN fl ps zs)(i:Nat):0<=aB zs i/\aB zs i<=90000:=by
 refine⟨h.nn i,?_⟩
 by_cases hi:i<=endN ps
 ·rcases h.att i hi with e | ⟨x,hx,t,a,b,c,d⟩
  ·omega
  ·have h1:=lG (fl:=fl) (t:=t) hv;have h2:=lG (fl:=fl) (t:=x.tm) hv;omega
 ·have:=h.len
  have e:aB zs i=0:=by unfold aB;simp [List.getD,List.getElem?_eq_none (show zs.length<=i by omega)]
  omega
end
theorem Z5(g b N:Nat)(c:Nat)(zs:List Int)(t:Nat)(w:World)(hb:aC w g 22 #[.slice (some ⟨b,0,none⟩) (N+1) c])(hz:aN w b zs)(hl:zs.length=N+1)(hN:N<=2001) :
 Calls Tryz.prog 100 (#[.int .i64 t] ++ #[.pointer (some ⟨g,0,none⟩)]) w fun e w'=>e = .returned (.int .i64 (aB zs (min t N)))/\Below w.heap.size w w':=by
 show Calls _ _ #[.int .i64 t,.pointer (some ⟨g,0,none⟩)] _ _
 have c0:=hb.cell 0;simp at c0;have hlg:=hb.lt;have hlb:=hz.lt;have HZ:=aA (show aB zs (min t N)=aB zs (min t N) from rfl);rcases Nat.lt_or_ge N t with hlt|hge
 ·have e1:min t N=N:=by omega
  rw [e1];have hc:=hz.cell N (by omega);have hti:(N:Int)<t:=by omega
  clear hb hz;go_enter Tryz.func100,Tryz.ntmps100
  go_wp2_with fail
  go_ret
  exact⟨rfl,Below.refl _ _⟩
 ·have e1:min t N=t:=by omega
  rw [e1];have hc:=hz.cell t (by omega);have hti:(t:Int)<=N:=by omega
  have hti2:¬((N:Int)<t):=by omega
  clear hb hz;go_enter Tryz.func100,Tryz.ntmps100
  go_wp2_with fail
  go_ret
  exact⟨rfl,Below.refl _ _⟩
structure EL(w wr:World)(av:List Int)(N ba bz g:Nat)(zs:List Int):Prop where
 rb:aC wr w.heap.size 26 #[.slice none 0 0,.int .i64 0,.int .i64 0]
 bw:Below w.heap.size w wr
 ia:aN wr ba av
 bx:aC wr g 22 #[.slice (some ⟨bz,0,none⟩) (N+1) (N+1)]
 iz:aN wr bz zs
 h1:w.heap.size<ba
 h2:ba<bz
 h3:bz<g
section
variable{w wr:World}{av zs:List Int}{N ba bz g:Nat}
theorem EL.alloc(h:EL w wr av N ba bz g zs)(o:Obj):EL w (wr.alloc o) av N ba bz g zs:=⟨h.rb.alloc o,h.bw.alloc h.bw.size o,h.ia.alloc o,h.bx.alloc o,h.iz.alloc o,h.h1,h.h2,h.h3⟩
theorem EL.drewN(h:EL w wr av N ba bz g zs)(k:Nat):EL w (wr.drewN k) av N ba bz g zs:=⟨h.rb.drewN k,cC h.bw,h.ia.drewN k,h.bx.drewN k,h.iz.drewN k,h.h1,h.h2,h.h3⟩
theorem EL.set_(h:EL w wr av N ba bz g zs)(i:Nat)(x:Int):EL w (wr.setCell ⟨bz,i,none⟩ (.int .i64 x)) av N ba bz g (zs.set i x):=by
 have:=h.h1;have:=h.h2;have:=h.h3
 exact⟨h.rb.far (by simp;omega) _,h.bw.setCell (by simp;omega) _,h.ia.far (by simp;omega) _,h.bx.far (by simp;omega) _,h.iz.set_ i x,h.h1,h.h2,h.h3⟩
end
def dH(fl:Int)(ps:List PK)(f:Cv)(er:Int):Prop:=∃zs,mN fl ps zs/\eK (fun t=>aB zs (min t (endN ps))) f er
theorem sC(A:Option Addr)(n c:Nat)(fl:Int)(ps:List PK)(w:World)(h:bN w A n c ps)(hv:aM ps)(hfl : -1<=fl) :
 Calls Tryz.prog 46 #[.slice A n c,.int .i64 fl] w (dI (dH fl ps) w):=by
 obtain⟨N,hN⟩:∃N,N=endN ps:=⟨_,rfl⟩
 have hN2:N<=2001:=by rw [hN];exact wI hv
 have hn:n<=60:=by have:=hv.len;have:=h.1;omega
 have hnl:ps.length=n:=h.1;have HN:=aA hN;have HL:=aA hnl;have HT:=aA h;have HV:=aA hv;have rb:=aC.new w 26 #[.slice none 0 0,.int .i64 0,.int .i64 0];have hb0:=aF w (.cells #[.slice none 0 0,.int .i64 0,.int .i64 0] 26);have d1:decide (fl < -1)=false:=decide_eq_false (by omega);clear hN h hv hnl;obtain⟨i0,hi0,hz0,hz1,hz2⟩:=info_parts iE;go_enter Tryz.func46,Tryz.ntmps46
 go_upto_region 1 with fail
 have hs0:(w.alloc (.cells #[.slice none 0 0,.int .i64 0,.int .i64 0] 26)).heap.size=w.heap.size+1:=by simp
 generalize hwe:w.alloc (.cells #[.slice none 0 0,.int .i64 0,.int .i64 0] 26)=w0 at *;clear hwe;have HT0:=aA (HT.out.below hb0);have HB:=aA (kV A n c ps w0 HT0.out HV.out);have RB:=aA rb;have BW:=aA hb0;clear rb hb0;go_wp2_with fail
 refine HB.out.mono ?_;rintro e w1 ⟨rfl,hb1⟩;clear HB;have RB:=aA (RB.out.below hb1 RB.out.lt);have BW:=aA (aD BW.out hb1);have HB:=aA (a4q A n c fl ps w1 (HT.out.below BW.out) HV.out);unfold uS at HB;rw [<- HN.out] at HB;have hs1:w.heap.size+1<=w1.heap.size:=by have:=hb1.size;omega
 clear hb1;go_wp2_with fail
 refine HB.out.mono ?_;rintro e w2 ⟨ba,hba,rfl,hia,hb2⟩;clear HB HT0;have RB:=aA (RB.out.below hb2 RB.out.lt);have BW:=aA (aD BW.out hb2);have IA:=aA hia;clear hia hb2;have hs2:ba<w2.heap.size:=IA.out.lt;go_upto_region 8 with (at_make;refine wpList_make_full _ rfl _ _ 22 rfl w2.heap.size 3 i0 _ 1 Tryz.underlying22 hi0 hz0 hz1 .i64 .i64 _ _ (N+1) rfl rfl rfl rfl (by rw [hz2];omega) (by unfold maxLen;omega) (by simp) ?_;intro w3 own3 grow3)
 have bw3:Below w2.heap.size w2 w3:=(Below.refl _ _).grown grow3 (by simp) (by simp);have ib3:=aN.made own3 (by omega);have e0:EL w (w3.alloc (.cells #[.slice (some ⟨w2.heap.size,0,none⟩) (N+1) (N+1)] 22)) (iJ fl ps) N ba w2.heap.size w3.heap.size (List.replicate (N+1) 0):=by
  have:=IA.out.lt
  refine⟨(RB.out.below bw3 RB.out.lt).alloc _,(aD BW.out bw3).alloc (by have:=BW.out.size;have:=bw3.size;omega) _,(IA.out.below bw3 this).alloc _,aC.new w3 _ _,by simpa using ib3.alloc _,by omega,by omega,ib3.lt⟩
 have E:=aA e0;have HV0:=aA (GV.start (fl:=fl) HV.out);rw [<- HN.out] at HV0;have hs3:=ib3.lt;clear own3 grow3 hi0 hz0 hz1 hz2 bw3 ib3 e0 RB BW IA hs2;generalize hw4:w3.alloc (.cells #[.slice (some ⟨w2.heap.size,0,none⟩) (N+1) (N+1)] 22)=w4 at *;generalize hbz:w2.heap.size=bz at *;generalize hgg:w3.heap.size=g at *;clear hw4 hbz hgg hs0 hs1 hba hs3;go_wp2_with fail
 go_loopg [31,10,11] n (fun gg s31 _ _ wr=>∃(k:Nat) (zs:List Int),k+gg=n/\s31 = .int .i64 k/\Hid (GV fl ps k 0 zs)/\Hid (EL w wr (iJ fl ps) N ba bz g zs))
 case atStart=>exact⟨0,_,by omega,rfl,HV0,E⟩
 case round=>
  clear E HV0;obtain⟨k,zs,hkg,rfl,HG,E⟩:=hrel;by_cases hk:k<n
  case pos=>
   have hki:(k:Int)<n:=by omega
   obtain⟨gp,o,hA,hr⟩:=HT.out.2.2 (by omega);subst hA;have HR:=hr.below E.out.bw;obtain⟨x,hx,x0,x1,x2⟩:=HR.get (k:=k) (by rw [HL.out];exact hk);have hgl:=HR.lt;have HX:=aA hx;have hxg:g<wr.heap.size:=E.out.bx.lt;have hgd:=HV.out.good x (List.mem_of_getElem? hx);unfold PK.Good at hgd;obtain⟨g1,g2,g3,g4,g5,g6⟩:=hgd;have hti:x.tm<=N:=by
    have h1:=HV.out.sorted k (n-1) x;obtain⟨y,hy⟩:∃y,ps[n-1]?=some y:=⟨_,List.getElem?_eq_getElem (by rw [HL.out];omega)⟩
    have h2:=h1 y (by omega) hx hy;have h3:=sI (n:=n-1) (by rw [HL.out];omega) hy (by omega);rw [HN.out];omega
   have HG:=aA (HG.out.into hx);have E:=aA (E.out.alloc (.cells #[.int .i64 x.fl,.int .i64 x.tm,.int .i64 x.sz] 71));have XB:=aA (aC.new wr 71 #[.int .i64 x.fl,.int .i64 x.tm,.int .i64 x.sz]);clear HR hr hx;go_upto_region 11 with fail
   generalize hw5:wr.alloc (.cells #[.int .i64 x.fl,.int .i64 x.tm,.int .i64 x.sz] 71)=w5 at *;generalize hgx:wr.heap.size=gx at *;obtain⟨m,hm⟩:=Int.eq_ofNat_of_zero_le g3;rw [hm] at XB g3 g4 hti HG;have HM:=aA hm;have q1:=XB.out.cell 1;simp at q1;have hlx:=XB.out.lt;have hmN:m<=N:=by omega
   clear hm x0 x1 x2 hgl hw5 g1 g2 g5 g6;go_wp2_with fail
   clear q1 hlx;go_loopg [11] (N+1-m) (fun g2 s11 wq=>∃(T:Nat) (zs:List Int),m<=T/\T+g2=N+1/\s11 = .int .i64 T/\Hid (GV fl ps k T zs)/\Hid (EL w wq (iJ fl ps) N ba bz g zs)/\Hid (aC wq gx 71 #[.int .i64 x.fl,.int .i64 m,.int .i64 x.sz]))
   case atStart=>exact⟨m,zs,by omega,by omega,rfl,HG,E,XB⟩
   case round=>
    clear E HG XB;obtain⟨T,zs,hmT,hTg,rfl,HG,E,XB⟩:=hrel;by_cases hT:T<N+1
    case pos=>
     obtain⟨d,rfl⟩:∃d,T=m+d:=⟨T-m,by omega⟩
     have hTi:(m:Int)+(d:Int)<(N:Int)+1:=by omega
     have ed:IntKind.i64.wrap ((m:Int)+d-m)=d:=by rw [show(m:Int)+d-m=d by omega];exact IntWalk.i64_in _ (by omega)
     have ha1:=lG (fl:=fl) (t:=((m+d:Nat):Int)) HV.out;have ha2:=lG (fl:=fl) (t:=(m:Int)) HV.out;have hz1:=HG.out.nn d;have HA1:=aA (show aB (iJ fl ps) (m+d)=aV fl ps ((m+d:Nat):Int) by unfold iJ;rw [dT _ _ _ _ (by rw [<- HN.out];omega),Nat.zero_add]);have HA2:=aA (show aB (iJ fl ps) m=aV fl ps (m:Int) by unfold iJ;rw [dT _ _ _ _ (by rw [<- HN.out];omega),Nat.zero_add]);obtain⟨z,hz⟩:∃z,z=aB zs d:=⟨_,rfl⟩
     obtain⟨p,hp⟩:∃p,p=aV fl ps ((m+d:Nat):Int):=⟨_,rfl⟩
     obtain⟨q,hq⟩:∃q,q=aV fl ps (m:Int):=⟨_,rfl⟩
     have hzl:=HG.out.len;rw [<- HN.out] at hzl;have y0:wr.cell? ⟨g,0,none⟩=some (.slice (some ⟨bz,0,none⟩) (N+1) (N+1)):=by simpa using E.out.bx.cell 0
     have y1:wr.cell? ⟨gx,1,none⟩=some (.int .i64 m):=by simpa using XB.out.cell 1
     have y2:wr.cell? ⟨bz,d,none⟩=some (.int .i64 z):=by rw [hz];exact E.out.iz.cell d (by omega)
     have y3:wr.cell? ⟨ba,m+d,none⟩=some (.int .i64 p):=by rw [hp,<- HA1.out];exact E.out.ia.cell _ (by unfold iJ;rw [cU,<- HN.out];omega)
     have y4:wr.cell? ⟨ba,m,none⟩=some (.int .i64 q):=by rw [hq,<- HA2.out];exact E.out.ia.cell _ (by unfold iJ;rw [cU,<- HN.out];omega)
     rw [<- hp] at ha1;rw [<- hq] at ha2;have HZ:=aA hz;have HP:=aA hp;have HQ:=aA hq;have HZL:=aA hzl;have b1:(d:Int)<(N:Int)+1:=by omega
     have b2:(m:Int)<(N:Int)+1:=by omega
     have b3:0<=(m:Int)+(d:Int):=by omega
     have b4:((m:Int)+(d:Int)).toNat=m+d:=by omega
     have epq:IntKind.i64.wrap (p-q)=p-q:=IntWalk.i64_in _ (by omega);clear hz hp hq hz1 hzl;go_wp2_with fail
     refine wp_region_held_drew (S:=fun w'=>w'.cell? ⟨g,0,none⟩=some (.slice (some ⟨bz,0,none⟩) (N+1) (N+1))/\w'.cell? ⟨gx,1,none⟩=some (.int .i64 m)/\w'.cell? ⟨ba,m+d,none⟩=some (.int .i64 p)/\w'.cell? ⟨ba,m,none⟩=some (.int .i64 q)) (by kernel_rfl) ⟨y0,y1,y3,y4⟩ (fun hH=>?_);refine aO [0,1,2,3,4,5,6,7,8,9,10,12,13,14,15,16,17,18,19,20,21] ?_;(iterate 21 refine aK ?_);refine aP ?_;refine aJ 11 (fun K hK=>?_);go_simp
     refine aH hK (by exact⟨y0,y1,y3,y4⟩) (fun hH=>?_);refine aO [22,23] ?_;(iterate 2 refine aK ?_);refine aP ?_;have fz:=E.out.iz.frozen d;refine aJ 24 (fun K hK=>?_);go_simp
     have hmx:max (aB zs d) (aV fl ps ((m+d:Nat):Int)-aV fl ps x.tm)=if z<p-q then p-q else z:=by
      rw [HM.out,<- HZ.out,<- HP.out,<- HQ.out];split <;> omega
     have hgs:=HG.out.step HX.out (by rw [HM.out];omega) (by rw [<- HN.out];omega) (i:=d) (by rw [HM.out];omega) (by rw [<- HN.out];omega) hmx.symm;have hes:=(E.out.set_ d (if z<p-q then p-q else z)).drewN 1;have hxs:=(XB.out.far (p:=⟨bz,d,none⟩) (by have:=E.out.h3;simp;omega) (.int .i64 (if z<p-q then p-q else z))).drewN 1;have HG:=aA hgs;have E:=aA hes;have XB:=aA hxs;clear hgs hes hxs y0 y1 y2 y3 y4 hmx;generalize (if z<p-q then p-q else z)=v at *;refine aH hK (by exact (by have h:=E.out.bx.cell 0;have h1:=XB.out.cell 1;exact⟨by simpa using h,by simpa using h1,by rw [HP.out,<- HA1.out];exact E.out.ia.cell _ (by unfold iJ;rw [cU,<- HN.out];omega),by rw [HQ.out,<- HA2.out];exact E.out.ia.cell _ (by unfold iJ;rw [cU,<- HN.out];omega)⟩)) (fun hH=>?_);refine aT ?_;clear hH fz ed epq b3 b4;go_wp2_with fail
     go_roundg (gk-1)
     case measure=>omega
     case rel=>exact⟨m+d+1,zs.set d v,by omega,by omega,by go_num,aA (by have:=HG.out;rw [show(((m+d+1:Nat)):Int)=((m+d:Nat):Int)+1 by omega];exact this),E,XB⟩
    case neg=>
     obtain rfl:T=N+1:=by omega
     have HG:=aA (by have:=HG.out;rw [show(((N+1:Nat)):Int)=(endN ps:Int)+1 by rw [<- HN.out];omega] at this;exact this.out HV.out);go_wp2_with fail
     go_roundg (n-1-k)
     case measure=>omega
     case rel=>exact⟨k+1,zs,by omega,by go_num,HG,E⟩
  case neg=>
   obtain rfl:k=n:=by omega
   have HM:=aA (MV.start (Nat.le_of_eq HL.out) HG.out);clear HG;have HM0:=HM;have E0:=E;obtain⟨y0,hly⟩:wr.cell? ⟨g,0,none⟩=some (.slice (some ⟨bz,0,none⟩) (N+1) (N+1))/\g<wr.heap.size:=⟨by simpa using E.out.bx.cell 0,E.out.bx.lt⟩
   go_wp2_with fail
   clear y0 hly;go_loopg [12] N (fun gg s12 wq=>∃(j:Nat) (zs:List Int),j+gg=N/\s12 = .int .i64 ((j:Int)+1)/\Hid (MV fl ps (j+1) zs)/\Hid (EL w wq (iJ fl ps) N ba bz g zs))
   case atStart=>exact⟨0,zs,by omega,by go_num,HM0,E0⟩
   case round=>
    clear HM E HM0 E0;obtain⟨j,zs,hjg,rfl,HM,E⟩:=hrel;have y0:wr.cell? ⟨g,0,none⟩=some (.slice (some ⟨bz,0,none⟩) (N+1) (N+1)):=by simpa using E.out.bx.cell 0
    by_cases hj:j<N
    case pos=>
     have hji:(j:Int)+1<(N:Int)+1:=by omega
     have hzl:=HM.out.len;rw [<- HN.out] at hzl;obtain⟨z,hz⟩:∃z,z=aB zs (j+1):=⟨_,rfl⟩
     obtain⟨q,hq⟩:∃q,q=aB zs j:=⟨_,rfl⟩
     have y1:wr.cell? ⟨bz,j+1,none⟩=some (.int .i64 z):=by rw [hz];exact E.out.iz.cell (j+1) (by omega)
     have y2:wr.cell? ⟨bz,j,none⟩=some (.int .i64 q):=by rw [hq];exact E.out.iz.cell j (by omega)
     have b1:(j:Int)<(N:Int)+1:=by omega
     have b3:0<=(j:Int)+1:=by omega
     have b4:((j:Int)+1).toNat=j+1:=by omega
     have ej:IntKind.i64.wrap (j:Int)=j:=IntWalk.i64_in _ (by omega);have HZ:=aA hz;have HQ:=aA hq;have HZL:=aA hzl;clear hz hq hzl;go_wp2_with fail
     refine wp_region_held_drew (S:=fun w'=>w'.cell? ⟨g,0,none⟩=some (.slice (some ⟨bz,0,none⟩) (N+1) (N+1))/\w'.cell? ⟨bz,j,none⟩=some (.int .i64 q)) (by kernel_rfl) ⟨y0,y2⟩ (fun hH=>?_);refine aO [0,1,2,3,4,6,7,8,9,10] ?_;(iterate 10 refine aK ?_);refine aP ?_;refine aJ 5 (fun K hK=>?_);go_simp
     refine aH hK (by exact⟨y0,y2⟩) (fun hH=>?_);refine aO [11,12] ?_;(iterate 2 refine aK ?_);refine aP ?_;have fz:=E.out.iz.frozen (j+1);refine aJ 13 (fun K hK=>?_);go_simp
     have hmx:max (aB zs (j+1)) (aB zs (j+1-1))=if z<q then q else z:=by
      rw [Nat.add_sub_cancel,<- HZ.out,<- HQ.out];split <;> omega
     have hgs:=HM.out.step (by omega) (by rw [<- HN.out];omega) hmx.symm;have hes:=(E.out.set_ (j+1) (if z<q then q else z)).drewN 1;have HM:=aA hgs;have E:=aA hes;clear hgs hes y0 y1 y2 hmx;generalize (if z<q then q else z)=v at *;refine aH hK (by exact (by have h:=E.out.bx.cell 0;exact⟨by simpa using h,by rw [HQ.out];have:=E.out.iz.cell j (by rw [List.length_set];have:=HZL.out;omega);rwa [eQ _ _ _ _ (by have:=HZL.out;omega),if_neg (by omega)] at this⟩)) (fun hH=>?_);refine aT ?_;clear hH fz ej b3 b4;go_wp2_with fail
     go_roundg (gk-1)
     case measure=>omega
     case rel=>exact⟨j+1,zs.set (j+1) v,by omega,by go_num,HM,E⟩
    case neg=>
     obtain rfl:j=N:=by omega
     have LV:=aA (show mN fl ps zs from (by have:=HM.out;rw [show(j+1)=endN ps+1 by rw [<- HN.out]] at this;exact this.done));clear HM;have hly:=E.out.bx.lt;go_wp2_with fail
     refine(kN 100 #[.pointer (some ⟨g,0,none⟩)] j 1 0 (fun t=>aB zs (min t j)) wr (by omega) (by omega) (by omega) (by omega) (by omega) (by omega)
      (fun t ht=>by have:=LV.out.bd HV.out (min t j);omega)
      (aA (fun t w4 ht hb=>Z5 g bz j (j+1) zs t w4 (E.out.bx.below hb E.out.bx.lt) (E.out.iz.below hb E.out.iz.lt) (by rw [LV.out.len,<- HN.out]) hN2)) (fun x w=>by kernel_rfl)).mono ?_
     rintro e w5 ⟨f,er,hS,A5,n5,c5,rfl,hI5,hA5,hb⟩;have hjN:j=endN ps:=HN.out;have hM:eK (fun t=>aB zs (min t (endN ps))) f er:=by
      rw [<- hjN];refine i9 (h:=fun t=>aB zs (min t j)) (s:=j) (p:=1) (i:=0) (by omega) (fun t u _ _ h=>?_) (fun _ t ht=>?_) hS
      ·have:=LV.out.bd HV.out (min t j)
       have h2:aB zs (min t j)=aG:=h;unfold aG at h2;omega
      ·show aB zs (min (t+1) j)=aB zs (min t j)+0
       rw [show min (t+1) j=min t j by omega,Int.add_zero]
     have F:=aA (show dH fl ps f er from⟨zs,LV.out,hM⟩);have RB:=aA (E.out.rb.below hb E.out.rb.lt);have BW:=aA (aD E.out.bw hb);have HI5:=aA hI5;have HA5:=aA hA5;have hs0:=E.out.rb.lt;clear hS hI5 hA5 hb hM hjN E y0;have hlr:=RB.out.lt;obtain⟨r0,r1,r2⟩:_/\_/\_:=⟨RB.out.cell 0,RB.out.cell 1,RB.out.cell 2⟩
     simp at r0 r1 r2;obtain⟨z0,z1,z2⟩:_/\_/\_:=⟨RB.out.frozen 0,RB.out.frozen 1,RB.out.frozen 2⟩
     go_wp2_with fail
     have rb:=RB.out.store3 (.slice A5 n5 c5) (.int .i64 f.per) (.int .i64 f.inc)
     exact bodyPost_ret (v:=.tuple #[.agg #[.slice A5 n5 c5,.int .i64 f.per,.int .i64 f.inc],.int .i64 er]) (by simp [results,Tryz.results46,go_sem,rb.cell]) rfl
      (fX F.out HA5.out (Nat.le_refl _) hs0 HI5.out BW.out)
end Go.Proofs.YtaejfleahamapaaGreat
