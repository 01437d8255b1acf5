/- . -/
import Derived.Test.YtaejfleahamapaaGreatTd17
import Derived.Test.YtaejfleahamapaaGreatTd26
namespace Go.Proofs.YtaejfleahamapaaGreat
set_option linter.unusedVariables false
set_option linter.unusedSimpArgs false
open Go.RowKit
theorem lK{ps:List PK}:dY ps (jX ps):=by
 intro s r sg hl h;have h:r=cX ps s.begun s.t:=h;unfold cX at h;cases hx:ps[dJ s.begun]? with
 | none=>rw [hx] at h;exact .inl h
 | some x=>
   rw [hx] at h;simp only at h
   by_cases ht:x.tm<=s.t
   ·rw [if_pos ht] at h;have:=(List.getElem?_eq_some_iff.1 hx).1
    exact .inr ⟨_,x,h,hx,qH _ (by omega),ht,fun j y hj _ _=>m8 _ hj⟩
   ·rw [if_neg ht] at h;exact .inl h
theorem S9{ps:List PK}(hv:aM ps){bs:List Bool}(hl:bs.length=ps.length){t:Int}(h:cX ps bs t = -1):∀(i:Nat) (x:PK),ps[i]?=some x->x.tm<=t->bs[i]?=some true:=by
 intro i x hx ht;have hi:=(List.getElem?_eq_some_iff.1 hx).1;rcases Nat.lt_or_ge i (dJ bs) with g|g
 ·exact m8 _ g
 ·exfalso
  obtain⟨y,hy⟩:∃y,ps[dJ bs]?=some y:=⟨_,List.getElem?_eq_getElem (by omega)⟩
  unfold cX at h;rw [hy] at h;simp only at h
  have:=hv.sorted _ _ y x g hy hx
  rw [if_pos (by omega)] at h;omega
section
variable{cap:Int}{ps:List PK}{ticks:Nat}{s:RS Unit}
end
theorem a5r{f:Cv}{c:Int}{v A:Nat}(hok:f.Ok)(hf:∀n,¬f.infAt n)(h0:f.at 0=0)(hs:∀s u,f.at (s+u)<=f.at s+f.at u)(hc:1<=c)(hc2:c<=4000)(hb:z8 f (aS c) 0 false v A) :
 f.at A=c*A+v/\∀j,j<=A->c*j<=f.at j:=by
 have gl:=qN (c:=c) (by omega) (by omega);have ga:∀t,(aS c).at t=c*t:=fun t=>sX (by omega) (by omega) t
 rcases hb with ⟨h,_⟩|⟨_,h1,h2,h3⟩
 ·cases h
 ·have le:∀t:Nat,f.at t<=c*t+v:=fun t=>by
   rcases h1 t with h|h
   ·exact absurd h (gl.not_infAt t)
   ·have:=h.2
    rw [ga] at this;exact this
  have ea:f.at A=c*A+v:=by
   rcases Nat.eq_zero_or_pos v with g|g
   ·rw [h2 g,h0,g];simp
   ·have:=(h3 g).1.2
    rw [ga] at this;exact this
  refine⟨ea,fun j hj=>?_⟩
  have h4:=hs j (A-j);rw [show j+(A-j)=A by omega,ea] at h4;have h5:=le (A-j);rw [Int.ofNat_sub hj,Int.mul_sub] at h5;omega
theorem j9{ps:List PK}(hv:aM ps){cls:Nat}:dY ps (gL cls ps):=by
 intro s r sg hl h;have h:jL cls ps s.t s.begun r:=h;rcases h with ⟨k,_,h0,h,_⟩|⟨h,_⟩
 ·obtain⟨i,x,h1,h2,_,h4,h5,h6⟩:=qX hv hl h h0;exact .inr ⟨i,x,h1,h2,h4,h5,h6⟩
 ·exact .inl h
theorem G5{ps:List PK}{bs:List Bool}(hl:bs.length=ps.length){i:Nat}{x:PK}(hx:ps[i]?=some x):bs[i]?=some false\/bs[i]?=some true:=by
 have hj:=(List.getElem?_eq_some_iff.1 hx).1;obtain⟨b,hb⟩:∃b,bs[i]?=some b:=⟨_,List.getElem?_eq_getElem (by rw [hl];exact hj)⟩
 cases b
 ·exact .inl hb
 ·exact .inr hb
theorem tJ{ps:List PK}{cls c:Nat}(hcc:c<cls):jI c ps (gL cls ps):=by
 intro s sg hl h i x hx hf ht;have h:jL cls ps s.t s.begun (-1):=h;rcases h with ⟨k,_,h0,_⟩|⟨_,h⟩
 ·omega
 ·rcases G5 hl hx with hb|hb
  ·exact(o7 ⟨i,x,hx,hf,ht,hb⟩ (h c hcc)).elim
  ·exact hb
theorem T5{ps:List PK}(hv:aM ps)(c:Int):jI c ps (jX ps):=by
 intro s sg hl h i x hx _ ht;exact S9 hv hl (show cX ps s.begun s.t = -1 from(show(-1:Int)=_ from h).symm) i x hx ht
section
variable{σ:Type}{cap:Int}{ps:List PK}{ticks:Nat}{Ch:RS σ->Int->σ->Prop}{sg0:σ}{s:RS σ}
theorem zQ(hv:aM ps)(hfl:∀x∈ps,x.fl<2)(hc:1<=cap)(hg:dY ps Ch)(hw:∀c:Nat,c<2->jI c ps Ch)(h:aQ cap 2 ps ticks Ch sg0 s)(t:Nat):∀n:Nat,t+n<=s.t->(∀j,t<j->j<=t+n->s.row 0 j+s.row 1 j<aV (0:Nat) ps (j:Int)+aV (1:Nat) ps (j:Int))->
 s.tot 2 (t+n)=s.tot 2 t+cap*n
 | 0,_,_=>by simp
 | n+1,hn,hb=>by
   have ih:=zQ hv hfl hc hg hw h t n (by omega) (fun j h1 h2=>hb j h1 (by omega));have hb:=hb (t+n+1) (by omega) (by omega);have:s.tot 2 (t+n+1)=s.tot 2 (t+n)+cap:=by
    rcases Int.lt_or_le (s.row 0 (t+n+1)) (aV (0:Nat) ps ((t+n+1:Nat):Int)) with g|g
    ·exact uF (cls:=2) hv hfl hc hg (c:=0) (by omega) (hw 0 (by omega)) h (t+n) (by omega) g
    ·exact uF (cls:=2) hv hfl hc hg (c:=1) (by omega) (hw 1 (by omega)) h (t+n) (by omega) (by show s.row 1 (t+n+1)<aV (1:Nat) ps ((t+n+1:Nat):Int);omega)
   rw [show cap*((n+1:Nat):Int)=cap*n+cap by rw [Int.natCast_add,Int.mul_add];simp,<- Nat.add_assoc,this,ih];omega
theorem uD(hv:aM ps)(hfl:∀x∈ps,x.fl<2)(hc:1<=cap)(hg:dY ps Ch)(hw:∀c:Nat,c<2->jI c ps Ch)(h:aQ cap 2 ps ticks Ch sg0 s)(k:Nat)(hk:k<=s.t):∃t,t<=k/\s.row 0 t=aV (0:Nat) ps t/\s.row 1 t=aV (1:Nat) ps t/\∀u:Nat,t+u<=k->s.row 0 (t+u)+s.row 1 (t+u)=aV (0:Nat) ps t+aV (1:Nat) ps t+cap*u:=by
 have hi:=h.inv (cls:=2) hv hfl hc hg;have z0:=hi.z 0 (by omega);have z1:=hi.z 1 (by omega);have a0:aV (0:Nat) ps ((0:Nat):Int)<=0:=oH (by omega) hv;have a1:aV (1:Nat) ps ((0:Nat):Int)<=0:=oH (by omega) hv;obtain⟨t,h1,h2,h3⟩:=sW (A:=fun j=>aV (0:Nat) ps (j:Nat)+aV (1:Nat) ps (j:Nat)) (R:=fun j=>s.row 0 j+s.row 1 j) (by show aV (0:Nat) ps ((0:Nat):Int)+aV (1:Nat) ps ((0:Nat):Int)<=_;rw [z0,z1];omega) k;have h2:aV (0:Nat) ps (t:Int)+aV (1:Nat) ps (t:Int)<=s.row 0 t+s.row 1 t:=h2;have l0:=h.row_leK (cls:=2) hv hfl hc hg (c:=0) (by omega) t (by omega);have l1:=h.row_leK (cls:=2) hv hfl hc hg (c:=1) (by omega) t (by omega);have l0:s.row 0 t<=aV (0:Nat) ps (t:Int):=l0;have l1:s.row 1 t<=aV (1:Nat) ps (t:Int):=l1;refine⟨t,h1,by omega,by omega,fun u hu=>?_⟩
 have hf:=zQ hv hfl hc hg hw h t u (by omega) (fun j a b=>h3 j a (by omega));rw [lV (c:=0) (d:=1) (by omega) (by omega) (by omega),lV (c:=0) (d:=1) (by omega) (by omega) (by omega)] at hf;omega
theorem Z8(hv:aM ps)(hfl:∀x∈ps,x.fl<2)(hc:1<=cap)(hg:dY ps Ch)(hw:∀c:Nat,c<2->jI c ps Ch){α β:Nat->Int}(ha:∀a b:Nat,a<=b->aV (0:Nat) ps b-aV (0:Nat) ps a<=α (b-a))(hβ:∀n,β n<=0\/∃u,u<=n/\β n<=cap*u-α u)
 (h:aQ cap 2 ps ticks Ch sg0 s):i8 β (1:Nat) ps (s.row 1) s.t:=by
 intro k hk;obtain⟨t,h1,h2,h3,h4⟩:=uD hv hfl hc hg hw h k hk;refine⟨t,h1,?_⟩
 rcases hβ (k-t) with hb | ⟨u,hu,hb⟩
 ·have:=nN hv hfl hc hg (c:=1) (by omega) h h1 hk
  omega
 ·have e:=h4 u (by omega);have l0:=h.row_leK (cls:=2) hv hfl hc hg (c:=0) (by omega) (t+u) (by omega);have l0:s.row 0 (t+u)<=aV (0:Nat) ps ((t+u:Nat):Int):=l0;have a:=ha t (t+u) (by omega);rw [Nat.add_sub_cancel_left] at a;have:=nN hv hfl hc hg (c:=1) (by omega) h (show t+u<=k by omega) hk
  omega
theorem aQ.part(hv:aM ps)(hc:1<=cap)(h:aQ cap 2 ps ticks Ch sg0 s):∀i x,s.now=some i->ps[i]?=some x->s.rest<=x.sz/\(s.rest=x.sz->s.on=true/\0<s.left):=by
 induction h with
 | start=>intro i x h;cases h
 | tick s h hon ht ih=>
   intro i x hn hx;have:=ih i x hn hx
   exact⟨this.1,fun h=>by have:=(this.2 h).1;rw [hon] at this;cases this⟩
 | close s h hon hl ih=>
   intro i x hn hx;have:=ih i x hn hx
   exact⟨this.1,fun h=>by have:=(this.2 h).2;omega⟩
 | idle s sg h hon hl hn0 hch ih=>
   intro i x hn hx;have hn:s.now=some i:=hn;rw [hn0] at hn;cases hn
 | begin_ s sg i x h hon hl hn hch hx ih=>
   intro j y hj hy;cases hj
   rw [hx] at hy;cases hy
   exact⟨Int.le_refl _,fun _=>⟨hon,hl⟩⟩
 | send s i x h hon hl hn hx hlt ih=>
   intro j y hj hy;have:=(ih j y hj hy).1
   exact⟨by show s.rest-s.left<=_;omega,fun h=>by have h:s.rest-s.left=y.sz:=h;omega⟩
 | fin s i x h hon hl hn hx hlt ih=>intro i x h;cases h
end
section
variable{cap:Int}{ps:List PK}{ticks:Nat}{s:RS Unit}{M:Int}
theorem yA(hv:aM ps)(hfl:∀x∈ps,x.fl<2)(hc:1<=cap)(hM:∀x∈ps,x.fl=1->x.sz<=M)(hM1:1<=M){β:Nat->Int}(hβ:∀n,β n<=0\/∃u,u<=n/\β n<=cap*u-(M-1))
 (h:aQ cap 2 ps ticks (gL 2 ps) () s):i8 β (0:Nat) ps (s.row 0) s.t:=by
 have hz:β 0<=0:=by
  rcases hβ 0 with h | ⟨u,hu,h⟩
  ·exact h
  ·obtain rfl:u=0:=by omega
   simp at h;omega
 refine rE (c:=0) hv hfl hc (j9 hv) (by omega) hz h ?_;intro s0 t0 k m0 on0 e0 htk e ha hb hr hk;have hq:=aQ.busy2 (c:=0) (d:=1) hv hfl hc (j9 hv) (by omega) (by omega) (by omega) (tJ (by omega)) t0 (fun Y O a b _=>O+b<=M-1/\0<=b) ?_ ?_ ?_ ?_ m0 (by omega) ha hb
 ·have hf:=rO (cls:=2) (c:=0) hv hfl hc (j9 hv) (by omega) (tJ (by omega)) h t0 (k-t0) (by omega) (fun j a b=>by rw [hr 0 (by omega) j (by omega)];exact hb j a (by omega));rw [lV (c:=0) (d:=1) (by omega) (by omega) (by omega),lV (c:=0) (d:=1) (by omega) (by omega) (by omega),show t0+(k-t0)=k by omega] at hf;have hq:_/\_:=hq;rw [e,<- hr 1 (by omega) k (Nat.le_refl _),<- hr 1 (by omega) t0 (by omega)] at hq;have hup:=nN hv hfl hc (j9 hv) (c:=0) (by omega) h (show t0<=k by omega) hk;rcases hβ (k-t0) with h | ⟨u,hu,h⟩
  ·omega
  ·have:cap*(u:Int)<=cap*((k-t0:Nat):Int):=Int.mul_le_mul_of_nonneg_left (by omega) (by omega)
   omega
 ·intro s m hon _;have hi:=m.inv (cls:=2) hv hfl hc (j9 hv);refine⟨?_,qY hi 1⟩
  cases hn:s.now with
  | none=>rw [iF hn];omega
  | some i=>
    obtain⟨_,x,hx,_⟩:=hi.nw i hn;have h2:=m.part hv hc i x hn hx;rw [fW hn hx];split
    ·have:=hM x (List.mem_of_getElem? hx) (by assumption)
     rcases Int.lt_or_le s.rest x.sz with g|g
     ·omega
     ·have:=(h2.2 (by omega)).1
      rw [hon] at this;cases this
    ·omega
 ·intro s sg i x Y O m hch hx hwt hq;have hch:jL 2 ps s.t s.begun i:=hch;rcases hch with ⟨k,hk2,h0,h,h3⟩|⟨h,_⟩
  ·have e:=nK h rfl hx;rcases Nat.eq_zero_or_pos k with rfl|hp
   ·exact .inl ⟨by omega,hq⟩
   ·exact(o7 hwt (h3 0 hp)).elim
  ·omega
 ·intro Y O a b n sg hn hna hq;exact hq
 ·intro Y O a b n sg hn hna hq;omega
theorem T4(hv:aM ps)(hc:1<=cap)(h:aQ cap 2 ps ticks (jX ps) () s):(∀i j:Nat,i<j->s.begun[j]?=some true->s.begun[i]?=some true)/\∀i j:Nat,s.now=some i->i<j->s.begun[j]?≠some true:=by
 induction h with
 | start=>
   refine⟨fun i j _ h=>?_,fun i j h=>(by cases h)⟩
   simp [List.getElem?_replicate] at h
 | tick s h hon ht ih=>exact ih
 | close s h hon hl ih=>exact ih
 | idle s sg h hon hl hn hch ih=>exact ih
 | begin_ s sg k x h hon hl hn hch hx ih=>
   have hch:(k:Int)=cX ps s.begun s.t:=hch;have hk:k=dJ s.begun:=by
    unfold cX at hch;split at hch
    ·split at hch <;> omega
    ·omega
   have hlb:=(h.ok hv hc).lb;have hkl:k<s.begun.length:=by rw [hlb];exact(List.getElem?_eq_some_iff.1 hx).1
   have hkf:s.begun[k]?=some false:=by rw [hk];exact qH _ (by omega)
   have hno:∀j,k<j->s.begun[j]?≠some true:=fun j hj hb=>by
    have:=ih.1 k j hj hb
    rw [hkf] at this;cases this
   refine⟨fun i j hij hb=>?_,fun i j hi hij hb=>?_⟩
   ·rcases jO.1 hb with h1 | ⟨rfl,_⟩
    ·exact jO.2 (.inl (ih.1 i j hij h1))
    ·exact jO.2 (.inl (m8 _ (by omega)))
   ·cases hi
    rcases jO.1 hb with h1 | ⟨rfl,_⟩
    ·exact hno j hij h1
    ·omega
 | send s i x h hon hl hn hx hlt ih=>exact ih
 | fin s i x h hon hl hn hx hlt ih=>exact⟨ih.1,fun i j h=>(by cases h)⟩
theorem vK{c:Int}:∀{ps:List PK} {bs:List Bool} {i:Nat},(∀x∈ps,0<=x.sz)->(∀j,i<j->bs[j]?≠some true)->cN c ps bs<=bE c ps i
 | [],_,_,_,_=>by simp [cN,bE]
 | x :: ps,[],i,hs,_=>by simp only [cN];exact o9 hs
 | x :: ps,b :: bs,0,hs,h=>by
   rw [cN,bE,sB (fun j y _ _ e=>h (j+1) (by omega) (by simpa using e))];have:=hs x (List.mem_cons_self ..)
   by_cases e:x.fl=c
   ·rw [if_pos e];split <;> omega
   ·rw [if_neg e,if_neg (fun h=>e h.2)];omega
 | x :: ps,b :: bs,i+1,hs,h=>by
   have ih:=vK (c:=c) (ps:=ps) (bs:=bs) (i:=i) (fun y hy=>hs y (List.mem_cons_of_mem _ hy)) (fun j hj e=>h (j+1) (by omega) (by simpa using e));have:=hs x (List.mem_cons_self ..)
   rw [cN,bE];by_cases e:x.fl=c
   ·rw [if_pos e];split <;> omega
   ·rw [if_neg e,if_neg (fun h=>e h.2)];omega
theorem S8(hv:aM ps)(hfl:∀x∈ps,x.fl<2)(hc:1<=cap)(h:aQ cap 2 ps ticks (jX ps) () s)(hoff:s.on=false){α:Nat->Int}{c d:Nat}(hc2:c<2)(ha:∀a b:Nat,a<=b->(aV (0:Nat) ps b+aV (1:Nat) ps b)-(aV (0:Nat) ps a+aV (1:Nat) ps a)<=α (b-a))(hd:∀u:Nat,1<=u->α u<=cap*((u+d:Nat):Int)){i:Nat}{x:PK}(hx:ps[i]?=some x)(hxf:x.fl=c){a:Nat}(hxa:x.tm=a)(hk:a+d<s.t) :
 0<=aB s.done i/\aB s.done i<=a+d:=by
 have hi:=h.inv (cls:=2) hv hfl hc lK;rcases Int.lt_or_le (s.row c (a+d+1)) (bE c ps i) with g|g
 ·exfalso
  obtain⟨s0,m0,on0,t0,r0,_⟩:=h.ends (cls:=2) hv hfl hc (a+d) (by omega);have ec:s0.cur=a+d+1:=by rw [RS.cur_on on0,t0]
  have hi0:=m0.inv (cls:=2) hv hfl hc lK;rw [r0 c _ hc2 (Nat.le_refl _)] at g;obtain⟨o1,o2⟩:=T4 hv hc m0;have hno:∀j,i<j->s0.begun[j]?≠some true:=fun j hj hb=>by
   have hbi:=o1 i j hj hb;rcases hi0.dn i x hx with ⟨_,h1|h1⟩|⟨h1,h2,_⟩
   ·rw [hbi] at h1;cases h1
   ·exact o2 i j h1 hj hb
   ·have h3:=hi0.fw i x c hx hxf h1;have h4:s0.row c ((aB s0.done i).toNat+1)<=s0.row c (a+d+1):=by
     have hstep:∀n,(aB s0.done i).toNat+1+n<=s0.cur->s0.row c ((aB s0.done i).toNat+1)<=s0.row c ((aB s0.done i).toNat+1+n):=fun n=>by
      induction n with
      | zero=>intro _;exact Int.le_refl _
      | succ n ih=>intro hn;exact Int.le_trans (ih (by omega)) (hi0.mono c _ hc2 (by omega))
     have:=hstep (a+d+1-((aB s0.done i).toNat+1)) (by omega)
     rwa [show(aB s0.done i).toNat+1+(a+d+1-((aB s0.done i).toNat+1))=a+d+1 by omega] at this
    omega
  have hle:∀e:Nat,e<2->s0.row e (a+d+1)<=bE e ps i:=fun e he=>by
   have h1:=hi0.sum e he;have h2:=qY hi0 e;have h3:=vK (c:=(e:Int)) (gP hv) hno;rw [ec] at h1;omega
  have hp:∀e:Nat,bE e ps i<=aV e ps ((a+1:Nat):Int):=fun e=>qZ (by omega) (gP hv) (fun j y hj hy=>by have:=hv.sorted j i y x hj hy hx;omega)
  have l0:=hle 0 (by omega);have l1:=hle 1 (by omega);have p0:=hp 0;have p1:=hp 1;have l0:s0.row 0 (a+d+1)<=bE (0:Nat) ps i:=l0;have l1:s0.row 1 (a+d+1)<=bE (1:Nat) ps i:=l1;have p0:bE (0:Nat) ps i<=aV (0:Nat) ps ((a+1:Nat):Int):=p0;have p1:bE (1:Nat) ps i<=aV (1:Nat) ps ((a+1:Nat):Int):=p1;have hlt:s0.row 0 (a+d+1)+s0.row 1 (a+d+1)<aV (0:Nat) ps ((a+1:Nat):Int)+aV (1:Nat) ps ((a+1:Nat):Int):=by
   rcases (show c=0\/c=1 by omega) with rfl|rfl
   ·have g:s0.row 0 (a+d+1)<bE (0:Nat) ps i:=g;omega
   ·have g:s0.row 1 (a+d+1)<bE (1:Nat) ps i:=g;omega
  obtain⟨t,h1,h2,h3,h4⟩:=uD hv hfl hc lK (fun c _=>T5 hv c) h (a+d+1) (by omega);have h5:=h4 (a+d+1-t) (by omega);rw [show t+(a+d+1-t)=a+d+1 by omega,r0 0 _ (by omega) (Nat.le_refl _),r0 1 _ (by omega) (Nat.le_refl _)] at h5;rcases Nat.lt_or_ge a t with g2|g2
  ·have q0:=oG (c:=((0:Nat):Int)) (t:=((a+1:Nat):Int)) (u:=(t:Int)) (by omega) (by omega) (gP hv);have q1:=oG (c:=((1:Nat):Int)) (t:=((a+1:Nat):Int)) (u:=(t:Int)) (by omega) (by omega) (gP hv);have:=Int.mul_nonneg (show 0<=cap by omega) (show(0:Int)<=((a+d+1-t:Nat):Int) by omega)
   omega
  ·have q:=ha t (a+1) (by omega);have q2:=hd (a+1-t) (by omega);rw [show a+1-t+d=a+d+1-t by omega] at q2;omega
 ·have:=hi.bw i x c (a+d+1) hx hxf (by rw [RS.cur_off hoff];omega) g
  omega
end
def bY(tb:List Int)(t:Nat):Int:=aB tb (t % tb.length)
def eC(tb:List Int)(c:Int)(t:Nat)(n:Int)(e:Bool):Prop:=
 (e=true/\∃m:Nat,n=m/\m<tb.length/\bY tb (t+m)≠c/\∀j,j<m->bY tb (t+j)=c)\/(e=false/\n=0/\∀j,j<tb.length->bY tb (t+j)=c)
def gZ(cap:Int)(tb:List Int)(ps:List PK):RS Unit->Int->Unit->Prop:=fun s r _=>
 (bY tb s.t<0/\r = -1)\/∃i,cA ps s.begun s.t (bY tb s.t) i/\((i = -1/\r = -1)\/(0<=i/\∃n e,eC tb (bY tb s.t) s.t n e/\
  ((e=true/\s.left+(n-1)*cap<eL ps i/\r = -1)\/(¬(e=true/\s.left+(n-1)*cap<eL ps i)/\r=i))))
theorem rI{ps:List PK}(hv:aM ps){cap:Int}{tb:List Int}:dY ps (gZ cap tb ps):=by
 intro s r sg hl h;rcases h with ⟨_,h⟩|⟨i,h1,⟨_,h⟩|⟨h0,n,e,_,⟨_,_,h⟩|⟨_,h⟩⟩⟩
 ·exact .inl h
 ·exact .inl h
 ·exact .inl h
 ·obtain⟨j,x,h2,h3,_,h4,h5,h6⟩:=qX hv hl h1 h0;exact .inr ⟨j,x,by omega,h3,h4,h5,h6⟩
def uX(tb:List Int)(c:Int):Prop:=∀t,bY tb t=c
theorem tX{tb:List Int}(t:Nat):bY tb (t+tb.length)=bY tb t:=by unfold bY;rw [Nat.add_mod_right]
theorem eC.all{tb:List Int}{c:Int}{t:Nat}{n:Int}(hl:1<=tb.length)(h:eC tb c t n false):uX tb c:=by
 rcases h with ⟨h,_⟩|⟨_,_,h⟩
 ·cases h
 ·intro u;have h1:=h ((u+tb.length*t-t) % tb.length) (Nat.mod_lt _ (by omega));have e:bY tb (t+(u+tb.length*t-t) % tb.length)=bY tb u:=by
   unfold bY;rw [Nat.add_mod_mod];have:t<=tb.length*t:=Nat.le_mul_of_pos_left _ (by omega)
   rw [show t+(u+tb.length*t-t)=u+tb.length*t by omega,Nat.add_mul_mod_self_left]
  rw [e] at h1;exact h1
theorem eC.uniq{tb:List Int}{c:Int}{t:Nat}{n n':Int}{e e':Bool}(h:eC tb c t n e)(k:eC tb c t n' e'):n=n'/\e=e':=by
 rcases h with ⟨rfl,m,rfl,h1,h2,h3⟩|⟨rfl,rfl,h3⟩ <;> rcases k with ⟨rfl,m',rfl,k1,k2,k3⟩|⟨rfl,rfl,k3⟩
 ·rcases Nat.lt_trichotomy m m' with g|g|g
  ·exact absurd (k3 m g) h2
  ·exact⟨by rw [g],rfl⟩
  ·exact absurd (h3 m' g) k2
 ·exact absurd (k3 m h1) h2
 ·exact absurd (h3 m' k1) k2
 ·exact⟨rfl,rfl⟩
theorem eC.ex(tb:List Int)(c:Int)(t:Nat):∃n e,eC tb c t n e:=by
 have key:∀k,(∃m,m<k/\bY tb (t+m)≠c/\∀j,j<m->bY tb (t+j)=c)\/∀j,j<k->bY tb (t+j)=c:=fun k=>by
  induction k with
  | zero=>exact .inr (fun j h=>by omega)
  | succ k ih=>
    rcases ih with ⟨m,h1,h2⟩|h
    ·exact .inl ⟨m,by omega,h2⟩
    ·by_cases e:bY tb (t+k)=c
     ·exact .inr (fun j hj=>by rcases Nat.lt_or_ge j k with g|g;exact h j g;rw [show j=k by omega];exact e)
     ·exact .inl ⟨k,by omega,e,h⟩
 rcases key tb.length with ⟨m,h1,h2,h3⟩|h
 ·exact⟨m,true,.inl ⟨rfl,m,rfl,h1,h2,h3⟩⟩
 ·exact⟨0,false,.inr ⟨rfl,rfl,h⟩⟩
theorem eC.next{tb:List Int}{c:Int}{t:Nat}{n:Int}(h:eC tb c t n true)(h0:bY tb t=c)(hl:1<=tb.length):eC tb c (t+1) (n-1) true/\1<=n:=by
 rcases h with ⟨_,m,rfl,h1,h2,h3⟩|⟨h,_⟩
 ·rcases m with _|m
  ·exact absurd h0 h2
  ·exact⟨.inl ⟨rfl,m,by omega,by omega,by rw [show t+1+m=t+(m+1) by omega];exact h2,fun j hj=>by rw [show t+1+j=t+(j+1) by omega];exact h3 (j+1) (by omega)⟩,by omega⟩
 ·cases h
theorem eC.own{tb:List Int}{c:Int}{t:Nat}{n:Int}(h:eC tb c t n true)(hn:1<=n):bY tb t=c:=by
 rcases h with ⟨_,m,rfl,h1,h2,h3⟩|⟨h,_⟩
 ·exact h3 0 (by omega)
 ·cases h
def bB(C lost:Int)(tb:List Int)(c:Int)(t:Nat):Nat->Int × Int
 | 0=>(0,0)
 | n+1=>if bY tb (t+n)=c then ((bB C lost tb c t n).1,(bB C lost tb c t n).2+C) else ((bB C lost tb c t n).1+max 0 ((bB C lost tb c t n).2-lost),0)
def cF(C lost:Int)(tb:List Int)(c:Int)(t n:Nat):Int:=(bB C lost tb c t n).1+max 0 ((bB C lost tb c t n).2-lost)
section
variable{C lost c:Int}{tb:List Int}
theorem mF(hC:0<=C)(t:Nat):∀n,0<=(bB C lost tb c t n).1/\0<=(bB C lost tb c t n).2
 | 0=>⟨Int.le_refl _,Int.le_refl _⟩
 | n+1=>by
   have:=mF hC t n
   unfold bB;split <;> simp only <;> omega
theorem tW(t n:Nat):bB C lost tb c (t+tb.length) n=bB C lost tb c t n:=by
 induction n with
 | zero=>rfl
 | succ n ih=>unfold bB;rw [ih,show t+tb.length+n=t+n+tb.length by omega,tX]
theorem a3u(t k n:Nat):bB C lost tb c (t+k*tb.length) n=bB C lost tb c t n:=by
 induction k with
 | zero=>simp
 | succ k ih=>rw [Nat.succ_mul,<- Nat.add_assoc,tW,ih]
theorem a3p(hl:1<=tb.length)(t n:Nat):cF C lost tb c t n=cF C lost tb c (t % tb.length) n:=by
 have e:t % tb.length+t / tb.length*tb.length=t:=by rw [Nat.mul_comm];exact Nat.mod_add_div t tb.length
 have:=a3u (C:=C) (lost:=lost) (c:=c) (tb:=tb) (t % tb.length) (t / tb.length) n
 rw [e] at this;unfold cF;rw [this]
theorem y7{t m:Nat}(hl:0<=lost)(hm:bY tb (t+m)≠c):∀n,bB C lost tb c t (m+1+n)=(cF C lost tb c t (m+1)+(bB C lost tb c (t+m+1) n).1,(bB C lost tb c (t+m+1) n).2)
 | 0=>by
   have e:bB C lost tb c t (m+1)=((bB C lost tb c t m).1+max 0 ((bB C lost tb c t m).2-lost),0):=by rw [bB,if_neg hm]
   have e2:max 0 (0-lost)=0:=by omega
   rw [Nat.add_zero,cF,e];simp only [bB,e2];simp
 | n+1=>by
   have ih:=y7 hl hm n;rw [<- Nat.add_assoc,bB,ih,bB,show t+(m+1+n)=t+m+1+n by omega];split <;> simp [Int.add_assoc]
theorem tR{t m:Nat}(hl:0<=lost)(hm:bY tb (t+m)≠c)(n:Nat):cF C lost tb c t (m+1+n)=cF C lost tb c t (m+1)+cF C lost tb c (t+m+1) n:=by
 unfold cF;rw [y7 hl hm];simp only [cF];omega
theorem yX{b:Nat}(hl:0<=lost)(hb:bY tb b≠c)(hbL:b<tb.length)(t k:Nat)(ht:t<tb.length)(hk:tb.length<=k):cF C lost tb c t (k+tb.length)=cF C lost tb c t k+cF C lost tb c (b+1) tb.length:=by
 have key:∃m,m<tb.length/\bY tb (t+m)≠c/\cF C lost tb c (t+m+1) tb.length=cF C lost tb c (b+1) tb.length:=by
  rcases Nat.lt_or_ge b t with g|g
  ·refine⟨b+tb.length-t,by omega,by rw [show t+(b+tb.length-t)=b+tb.length by omega,tX];exact hb,?_⟩
   rw [show t+(b+tb.length-t)+1=b+1+tb.length by omega];unfold cF;rw [tW]
  ·exact⟨b-t,by omega,by rw [show t+(b-t)=b by omega];exact hb,by rw [show t+(b-t)+1=b+1 by omega]⟩
 obtain⟨m,hm,h1,h2⟩:=key;have e1:=tR (C:=C) hl h1 (k-m-1);have e2:=tR (C:=C) hl h1 (k+tb.length-m-1);rw [show m+1+(k-m-1)=k by omega] at e1;rw [show m+1+(k+tb.length-m-1)=k+tb.length by omega] at e2;have e3:=tR (C:=C) (t:=t+m+1) (m:=tb.length-1) hl (by rw [show t+m+1+(tb.length-1)=t+m+tb.length by omega,tX];exact h1) (k-m-1);rw [show tb.length-1+1=tb.length by omega,show tb.length+(k-m-1)=k+tb.length-m-1 by omega,show t+m+1+(tb.length-1)+1=t+m+1+tb.length by omega] at e3;have e4:cF C lost tb c (t+m+1+tb.length) (k-m-1)=cF C lost tb c (t+m+1) (k-m-1):=by unfold cF;rw [tW]
 rw [e4,h2] at e3;omega
end
section
variable{cap:Int}{ps:List PK}{ticks:Nat}{tb:List Int}{c d:Nat}{s:RS Unit}{L:Int}
theorem a3w(hv:aM ps)(hc:1<=cap)(hl:1<=tb.length)(h:aQ cap 2 ps ticks (gZ cap tb ps) () s):∀i x,s.now=some i->ps[i]?=some x->uX tb x.fl\/∃n,eC tb x.fl s.t n true/\if s.on=true then bY tb s.t=x.fl/\s.rest<=s.left+(n-1)*cap else s.rest<=n*cap:=by
 induction h with
 | start=>intro i x h;cases h
 | tick s h hon ht ih=>
   intro i x hn hx;rcases ih i x hn hx with h1 | ⟨n,h1,h2⟩
   ·exact .inl h1
   ·refine .inr ⟨n,h1,?_⟩;rw [hon,if_neg (by simp)] at h2;rw [if_pos rfl];have h3:=(h.ok hv hc).nw i hn;have hn1:1<=n:=by
     rcases Int.lt_or_le n 1 with g|g
     ·have:n*cap<=0*cap:=Int.mul_le_mul_of_nonneg_right (by omega) (by omega)
      omega
     ·exact g
    refine⟨h1.own hn1,?_⟩
    show s.rest<=cap+(n-1)*cap
    rw [Int.sub_mul,Int.one_mul];omega
 | close s h hon hl2 ih=>
   intro i x hn hx;rcases ih i x hn hx with h1 | ⟨n,h1,h2⟩
   ·exact .inl h1
   ·rw [if_pos hon] at h2;exact .inr ⟨n-1,(h1.next h2.1 hl).1,by rw [if_neg (by simp)];show s.rest<=_;omega⟩
 | idle s sg h hon hl hn0 hch ih=>
   intro i x hn hx;have hn:s.now=some i:=hn;rw [hn0] at hn;cases hn
 | begin_ s sg i x h hon hl2 hn hch hx ih=>
   intro j y hj hy;cases hj
   rw [hx] at hy;cases hy
   rcases hch with ⟨_,h⟩|⟨k,h1,⟨_,h⟩|⟨h0,n,e,ha,⟨_,_,h⟩|⟨h2,h⟩⟩⟩
   ·omega
   ·omega
   ·omega
   ·subst h;have e1:=nK h1 rfl hx;rw [<- e1] at ha;cases e with
    | false=>exact .inl (ha.all hl)
    | true=>
      refine .inr ⟨n,ha,?_⟩;rw [kU hx] at h2;rw [if_pos (by exact hon)];exact⟨e1.symm,Int.not_lt.1 (fun h=>h2 ⟨rfl,h⟩)⟩
 | send s i x h hon hl2 hn hx hlt ih=>
   intro j y hj hy;rcases ih j y hj hy with h1 | ⟨n,h1,h2⟩
   ·exact .inl h1
   ·rw [if_pos hon] at h2;exact .inr ⟨n,h1,by rw [if_pos (by exact hon)];exact⟨h2.1,by show s.rest-s.left<=0+(n-1)*cap;omega⟩⟩
 | fin s i x h hon hl hn hx hlt ih=>intro i x h;cases h
theorem y9(hv:aM ps)(hc:1<=cap)(hl:1<=tb.length)(h:aQ cap 2 ps ticks (gZ cap tb ps) () s)(hon:s.on=true){i:Nat}{x:PK}(hn:s.now=some i)(hx:ps[i]?=some x):x.fl=bY tb s.t:=by
 rcases a3w hv hc hl h i x hn hx with h1 | ⟨n,h1,h2⟩
 ·exact(h1 _).symm
 ·rw [if_pos hon] at h2;exact h2.1.symm
def mT(cap lost:Int)(tb:List Int)(c t0:Nat)(s:RS Unit):Prop:=
 t0<=s.t/\(bB cap lost tb c t0 (s.t-t0)).1<=s.row c s.cur-s.row c t0/\
  (((bB cap lost tb c t0 (s.t-t0)).2+(bB cap lost tb c t0 (s.t-t0)).1+(if s.on=true/\bY tb s.t=c then cap-s.left else 0)<=s.row c s.cur-s.row c t0)\/
   (∃n,eC tb c s.t n true/\(bB cap lost tb c t0 (s.t-t0)).2+(bB cap lost tb c t0 (s.t-t0)).1+n*cap<=s.row c s.cur-s.row c t0+lost))
theorem a3v(hv:aM ps)(hfl:∀x∈ps,x.fl<2)(hc:1<=cap)(hl:1<=tb.length)(hc2:c<2)(hL:1<=L)(hLs:∀x∈ps,x.fl=c->x.sz<=L)(t0:Nat)(h:aQ cap 2 ps ticks (gZ cap tb ps) () s)(h0:t0<=s.t)(he:aV c ps t0<=s.row c t0)(hb:lY c t0 ps s):mT cap (L-1) tb c t0 s:=by
 refine aQ.busy hv hfl hc (rI hv) hc2 t0 (mT cap (L-1) tb c t0) ?_ ?_ ?_ ?_ ?_ ?_ h h0 he hb
 ·intro s h hon ht _;refine⟨by omega,?_⟩
  rw [RS.cur_off hon,hon,ht,Nat.sub_self];simp [bB]
 ·intro s h hon h0 ⟨q0,q1,q2⟩;have hr:=fun k=>nM (h.ok hv hc) hon hc2 k
  have e1:({ s with on:=true,left:=cap,sent:=s.sent.map (fun l=>l ++ [aB l s.t]) }:RS Unit).row c (s.t+1)=s.row c s.t:=(hr _).trans (by rw [if_neg (by omega),if_pos rfl]);have e2:({ s with on:=true,left:=cap,sent:=s.sent.map (fun l=>l ++ [aB l s.t]) }:RS Unit).row c t0=s.row c t0:=(hr _).trans (if_pos h0);rw [RS.cur_off hon] at q1 q2;rw [hon] at q2;unfold mT;rw [RS.cur_on rfl];simp only
  rw [e1,e2];refine⟨q0,q1,?_⟩
  rcases q2 with q2|q2
  ·refine .inl ?_;simp only [Bool.false_eq_true,false_and,if_false] at q2;split <;> omega
  ·exact .inr q2
 ·intro s sg h hon h0 ⟨q0,q1,q2⟩ hd;have eR:({ s with on:=false,t:=s.t+1,sg:=sg }:RS Unit).cur=s.cur:=by rw [RS.cur_off rfl,RS.cur_on hon]
  have eP:=show bB cap (L-1) tb c t0 (s.t+1-t0)=_ from by rw [show s.t+1-t0=s.t-t0+1 by omega,bB,show t0+(s.t-t0)=s.t by omega]
  have hnn:=mF (lost:=L-1) (tb:=tb) (c:=(c:Int)) (show 0<=cap by omega) t0 (s.t-t0);unfold mT;rw [eR];show t0<=s.t+1/\_<=s.row c s.cur-s.row c t0/\((_+(if false=true/\_ then cap-s.left else 0)<=s.row c s.cur-s.row c t0)\/(∃n,eC tb c (s.t+1) n true/\_<=s.row c s.cur-s.row c t0+(L-1)))
  simp only
  rw [eP];by_cases ho:bY tb s.t=c
  ·rw [if_pos ho];rw [if_pos ⟨hon,ho⟩] at q2;refine⟨by omega,q1,?_⟩
   rcases q2 with q2 | ⟨n,q2,q3⟩
   ·rcases hd with ⟨hl0,_⟩|⟨hl0,hn,hch,hwt⟩
    ·exact .inl (by simp only [Bool.false_eq_true,false_and,if_false];omega)
    ·rcases hch with ⟨h,_⟩|⟨k,h1,⟨h2,_⟩|⟨h2,n,e,ha,⟨h3,h4,_⟩|⟨_,h⟩⟩⟩
     ·omega
     ·rw [ho,h2] at h1;exact(o7 hwt h1).elim
     ·subst h3;rw [ho] at ha h1;obtain⟨a1,a2⟩:=ha.next ho hl;refine .inr ⟨n-1,a1,?_⟩;have:=(o4 hv hLs k h2 h1).2
      show(bB cap (L-1) tb c t0 (s.t-t0)).2+cap+(bB cap (L-1) tb c t0 (s.t-t0)).1+(n-1)*cap<=_
      omega
     ·omega
   ·obtain⟨a1,a2⟩:=q2.next ho hl;refine .inr ⟨n-1,a1,?_⟩;show(bB cap (L-1) tb c t0 (s.t-t0)).2+cap+(bB cap (L-1) tb c t0 (s.t-t0)).1+(n-1)*cap<=_
    rw [Int.sub_mul,Int.one_mul];omega
  ·rw [if_neg ho];rw [if_neg (fun h=>ho h.2)] at q2;have hge:(bB cap (L-1) tb c t0 (s.t-t0)).1+max 0 ((bB cap (L-1) tb c t0 (s.t-t0)).2-(L-1))<=s.row c s.cur-s.row c t0:=by
    rcases q2 with q2 | ⟨n,q2,q3⟩
    ·omega
    ·have hn:n=0:=by
      rcases q2 with ⟨_,m,rfl,h1,h2,h3⟩|⟨h,_⟩
      ·rcases m with _|m
       ·rfl
       ·exact absurd (h3 0 (by omega)) ho
      ·cases h
     subst hn;omega
   exact⟨by omega,hge,.inl (by simp only [Bool.false_eq_true,false_and,if_false];omega)⟩
 ·intro s sg i x h hon h0 ⟨q0,q1,q2⟩ hl0 hn hch hx hwt;exact⟨q0,q1,q2⟩
 ·intro s i x h hon h0 ⟨q0,q1,q2⟩ hl0 hn hx hlt;have hx1:=(dF hv hx).2;have hx2:=hfl x (List.mem_of_getElem? hx);have hr:∀j,({ s with rest:=s.rest-s.left,left:=0,sent:=cM s.sent x.fl.toNat (s.t+1) s.left }:RS Unit).row c j=s.row c j+if c=x.fl.toNat/\j=s.t+1 then s.left else 0:=fun j=>kD (cls:=2) (h.ok hv hc) hon (F:=x.fl.toNat) (by omega) s.left c j
  have e1:=hr (s.t+1);have e2:=hr t0;rw [if_neg (fun h=>by omega),Int.add_zero] at e2;have e3:=y9 hv hc hl h hon hn hx;rw [RS.cur_on hon] at q1 q2;unfold mT;rw [RS.cur_on (by exact hon),e1,e2];refine⟨q0,?_,?_⟩
  ·show(bB cap (L-1) tb c t0 (s.t-t0)).1<=_
   split <;> omega
  ·show(bB cap (L-1) tb c t0 (s.t-t0)).2+(bB cap (L-1) tb c t0 (s.t-t0)).1+(if s.on=true/\bY tb s.t=c then cap-0 else 0)<=_\/∃n,eC tb c s.t n true/\(bB cap (L-1) tb c t0 (s.t-t0)).2+(bB cap (L-1) tb c t0 (s.t-t0)).1+n*cap<=_
   rcases q2 with q2 | ⟨n,q2,q3⟩
   ·refine .inl ?_;by_cases ho:bY tb s.t=c
    ·rw [if_pos ⟨hon,ho⟩] at q2 ⊢;rw [if_pos ⟨by omega,rfl⟩];omega
    ·rw [if_neg (fun h=>ho h.2)] at q2 ⊢;split <;> omega
   ·exact .inr ⟨n,q2,by split <;> omega⟩
 ·intro s i x h hon h0 ⟨q0,q1,q2⟩ hl0 hn hx hlt;have hnw:=(h.ok hv hc).nw i hn;have hx1:=(dF hv hx).2;have hx2:=hfl x (List.mem_of_getElem? hx);have hr:∀j,({ s with now:=none,rest:=0,left:=s.left-s.rest,sent:=cM s.sent x.fl.toNat (s.t+1) s.rest,done:=s.done.set i s.t }:RS Unit).row c j=s.row c j+if c=x.fl.toNat/\j=s.t+1 then s.rest else 0:=fun j=>kD (cls:=2) (h.ok hv hc) hon (F:=x.fl.toNat) (by omega) s.rest c j
  have e1:=hr (s.t+1);have e2:=hr t0;rw [if_neg (fun h=>by omega),Int.add_zero] at e2;have e3:=y9 hv hc hl h hon hn hx;rw [RS.cur_on hon] at q1 q2;unfold mT;rw [RS.cur_on (by exact hon),e1,e2];refine⟨q0,?_,?_⟩
  ·show(bB cap (L-1) tb c t0 (s.t-t0)).1<=_
   split <;> omega
  ·show(bB cap (L-1) tb c t0 (s.t-t0)).2+(bB cap (L-1) tb c t0 (s.t-t0)).1+(if s.on=true/\bY tb s.t=c then cap-(s.left-s.rest) else 0)<=_\/∃n,eC tb c s.t n true/\(bB cap (L-1) tb c t0 (s.t-t0)).2+(bB cap (L-1) tb c t0 (s.t-t0)).1+n*cap<=_
   rcases q2 with q2 | ⟨n,q2,q3⟩
   ·refine .inl ?_;by_cases ho:bY tb s.t=c
    ·rw [if_pos ⟨hon,ho⟩] at q2 ⊢;rw [if_pos ⟨by omega,rfl⟩];omega
    ·rw [if_neg (fun h=>ho h.2)] at q2 ⊢;split <;> omega
   ·exact .inr ⟨n,q2,by split <;> omega⟩
theorem a3x(hv:aM ps)(hfl:∀x∈ps,x.fl<2)(hc:1<=cap)(hl:1<=tb.length)(hc2:c<2)(hL:1<=L)(hLs:∀x∈ps,x.fl=c->x.sz<=L){β:Nat->Int}(hβ:∀t n:Nat,t<tb.length->β n<=cF cap (L-1) tb c t n)
 (h:aQ cap 2 ps ticks (gZ cap tb ps) () s):i8 β c ps (s.row c) s.t:=by
 have hz:β 0<=0:=by
  have:=hβ 0 0 (by omega)
  unfold cF bB at this;simp only at this
  omega
 refine rE hv hfl hc (rI hv) hc2 hz h ?_;intro s0 t0 k m0 on0 e0 htk e ha hb hr hk;obtain⟨q0,q1,q2⟩:=a3v hv hfl hc hl hc2 hL hLs t0 m0 (by omega) ha hb;have hn:=hβ (t0 % tb.length) (k-t0) (Nat.mod_lt _ (by omega));rw [<- a3p hl] at hn;rw [e0,e,<- hr c hc2 k (Nat.le_refl _),<- hr c hc2 t0 (by omega)] at q1 q2;rw [on0] at q2;simp only [Bool.false_eq_true,false_and,if_false] at q2;have hnn:=mF (lost:=L-1) (tb:=tb) (c:=(c:Int)) (show 0<=cap by omega) t0 (k-t0);unfold cF at hn;rcases q2 with q2 | ⟨n,q2,q3⟩
 ·omega
 ·have:0<=n*cap:=by
   refine Int.mul_nonneg ?_ (by omega);rcases q2 with ⟨_,m,rfl,_⟩|⟨h,_⟩
   ·omega
   ·cases h
  omega
end
def b8(C lost:Int)(tb:List Int)(c:Int):Nat->Nat->Int
 | 0,_=>aG
 | 1,j=>cF C lost tb c 0 j
 | m+2,j=>min (b8 C lost tb c (m+1) j) (cF C lost tb c (m+1) j)
section
variable{C lost c:Int}{tb:List Int}
theorem tV(hC:0<=C)(hl:0<=lost)(t:Nat):∀n:Nat,(bB C lost tb c t n).1+(bB C lost tb c t n).2<=C*n
 | 0=>by simp [bB]
 | n+1=>by
   have:=tV hC hl t n
   have h0:=mF (C:=C) (lost:=lost) (tb:=tb) (c:=c) hC t n;rw [Int.natCast_add,Int.mul_add];unfold bB;split <;> simp only <;> omega
theorem tQ(hC:0<=C)(hl:0<=lost)(t n:Nat):0<=cF C lost tb c t n/\cF C lost tb c t n<=C*n:=by
 have:=tV (tb:=tb) (c:=c) hC hl t n
 have h0:=mF (C:=C) (lost:=lost) (tb:=tb) (c:=c) hC t n;unfold cF;omega
theorem yY(hC:0<=C)(hl:0<=lost)(t n:Nat):cF C lost tb c t n<=cF C lost tb c t (n+1):=by
 have h0:=mF (C:=C) (lost:=lost) (tb:=tb) (c:=c) hC t n;unfold cF;rw [bB];split <;> simp only <;> omega
theorem y6{m:Nat}(hm:1<=m)(j:Nat):b8 C lost tb c (m+1) j=min (b8 C lost tb c m j) (cF C lost tb c m j):=by
 obtain⟨m,rfl⟩:∃k,m=k+1:=⟨m-1,by omega⟩
 rfl
theorem a3s(m j:Nat)(h:cF C lost tb c m j<=aG):b8 C lost tb c (m+1) j=min (b8 C lost tb c m j) (cF C lost tb c m j):=by
 rcases m with _|m
 ·simp only [b8];omega
 ·rfl
theorem tS{t j:Nat}:∀{m:Nat},t<m->b8 C lost tb c m j<=cF C lost tb c t j
 | 0,h=>by omega
 | 1,h=>by
   obtain rfl:t=0:=by omega
   exact Int.le_refl _
 | m+2,h=>by
   unfold b8;rcases Nat.lt_or_ge t (m+1) with g|g
   ·have:=tS (j:=j) g;omega
   ·obtain rfl:t=m+1:=by omega
    omega
theorem rH(hC:0<=C)(hl:0<=lost)(j:Nat):∀m,0<=b8 C lost tb c m j
 | 0=>by unfold b8 aG;omega
 | 1=>(tQ (tb:=tb) (c:=c) hC hl 0 j).1
 | m+2=>by
   have:=rH hC hl j (m+1)
   have:=(tQ (tb:=tb) (c:=c) hC hl (m+1) j).1
   unfold b8;omega
theorem yZ(hC:0<=C)(hl:0<=lost)(j:Nat){m:Nat}(hm:1<=m):b8 C lost tb c m j<=C*j:=Int.le_trans (tS (t:=0) hm) (tQ hC hl 0 j).2
theorem tU(hC:0<=C)(hl:0<=lost)(j:Nat):∀m,b8 C lost tb c m j<=b8 C lost tb c m (j+1)
 | 0=>Int.le_refl _
 | 1=>yY hC hl 0 j
 | m+2=>by
   have:=tU hC hl j (m+1)
   have:=yY (tb:=tb) (c:=c) hC hl (m+1) j
   unfold b8;omega
theorem y5(hC:0<=C)(hl:0<=lost)(m i:Nat):∀k,b8 C lost tb c m i<=b8 C lost tb c m (i+k)
 | 0=>Int.le_refl _
 | k+1=>Int.le_trans (y5 hC hl m i k) (tU hC hl (i+k) m)
theorem a3t{m:Nat}(hm:1<=m)(hC:0<=C)(hl:0<=lost):b8 C lost tb c m 0=0:=by
 have h1:=yZ (tb:=tb) (c:=c) hC hl 0 hm;have h2:=rH (tb:=tb) (c:=c) hC hl 0 m;simp at h1;omega
theorem tT{b:Nat}(hl:0<=lost)(hb:bY tb b≠c)(hbL:b<tb.length)(k:Nat)(hk:tb.length<=k):∀m,m<tb.length->b8 C lost tb c (m+1) (k+tb.length)=b8 C lost tb c (m+1) k+cF C lost tb c (b+1) tb.length
 | 0,hm=>yX hl hb hbL 0 k hm hk
 | m+1,hm=>by
   have ih:=tT hl hb hbL k hk m (by omega);have h1:=yX (C:=C) hl hb hbL (m+1) k hm hk;rw [y6 (by omega),ih,y6 (m:=m+1) (by omega),h1];omega
theorem a3r{b:Nat}(hl:0<=lost)(hb:bY tb b≠c)(hbL:b<tb.length){L:Nat}(hL:tb.length=L):aY (fun t=>b8 C lost tb c L t) L L (b8 C lost tb c L (2*L)-b8 C lost tb c L L):=by
 subst hL;obtain⟨m,hm⟩:∃k,tb.length=k+1:=⟨tb.length-1,by omega⟩
 intro t ht;have h1:=tT (C:=C) hl hb hbL t ht m (by omega);have h2:=tT (C:=C) hl hb hbL tb.length (Nat.le_refl _) m (by omega);rw [<- hm] at h1 h2;show b8 C lost tb c tb.length (t+tb.length)=b8 C lost tb c tb.length t+_
 rw [show 2*tb.length=tb.length+tb.length by omega];omega
theorem a3q(hC:0<=C)(hl:0<=lost){m:Nat}(hm:1<=m):eZ (fun t=>b8 C lost tb c m t):=
 ⟨by have:=a3t (tb:=tb) (c:=c) hm hC hl;show 0<=b8 C lost tb c m 0;omega,fun t=>tU hC hl t m⟩
end
end Go.Proofs.YtaejfleahamapaaGreat
