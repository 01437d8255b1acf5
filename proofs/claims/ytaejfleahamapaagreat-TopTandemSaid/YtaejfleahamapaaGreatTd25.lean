/- . -/
import Derived.Test.YtaejfleahamapaaGreatTd2
namespace Go.Proofs.YtaejfleahamapaaGreat
set_option linter.unusedVariables false
set_option linter.unusedSimpArgs false
def cP(r:Nat->Int)(lo:Int):Nat->Int
 | 0=>lo
 | k+1=>max (cP r lo k) (r k)
theorem lT(r:Nat->Int)(lo:Int)(k:Nat):lo<=cP r lo k:=by
 induction k with
 | zero=>exact Int.le_refl _
 | succ k ih=>show lo<=max _ _;omega
theorem kC(r:Nat->Int)(lo:Int){k j:Nat}(h:j<k):r j<=cP r lo k:=by
 induction k with
 | zero=>omega
 | succ k ih=>
   show r j<=max _ _
   rcases Nat.lt_or_ge j k with h1|h1
   ·have:=ih h1;omega
   ·obtain rfl:j=k:=by omega
    omega
theorem rC{r:Nat->Int}{lo M:Int}{k:Nat}(h0:lo<=M)(h:∀j,j<k->r j<=M):cP r lo k<=M:=by
 induction k with
 | zero=>exact h0
 | succ k ih=>
   show max _ _<=M
   have:=ih (fun j hj=>h j (by omega))
   have:=h k (by omega)
   omega
theorem rB(r:Nat->Int)(lo:Int)(k:Nat):cP r lo k=lo\/∃j,j<k/\cP r lo k=r j:=by
 induction k with
 | zero=>exact .inl rfl
 | succ k ih=>
   show max _ _=_\/∃j,_/\max _ _=_
   by_cases h:cP r lo k<=r k
   ·exact .inr ⟨k,by omega,by omega⟩
   ·rcases ih with h1 | ⟨j,hj,h1⟩
    ·exact .inl (by omega)
    ·exact .inr ⟨j,by omega,by omega⟩
theorem yK(r:Nat->Int)(lo:Int){k m:Nat}(h:k<=m):cP r lo k<=cP r lo m:=rC (lT _ _ _) (fun j hj=>kC _ _ (by omega))
def eH(a b:Cv)(t:Nat):Int:=cP (dif a b) 0 (t+1)
def fY(a b:Cv)(k:Nat):Int:=cP (fun j=>dif a b (aL a b+j)) (-4611686018427387904) k
def fM(a b:Cv):Nat:=if 0<dG a b then max 400 (aL a b+aI a b) else aL a b+aI a b
def iW(a b:Cv):Nat:=if 0<dG a b then aI a b else 1
def gT(a b:Cv):Int:=if 0<dG a b then dG a b else 0
def lE(a b:Cv):Prop:=0<dG a b/\fY a b (fM a b+1-aL a b)<cP (dif a b) 0 (aL a b)
section
variable{a b:Cv}
theorem a2i(k:Nat):cP (dif a b) 0 (aL a b+k)=max (cP (dif a b) 0 (aL a b)) (fY a b k):=by
 induction k with
 | zero=>
   have:=lT (dif a b) 0 (aL a b)
   show cP (dif a b) 0 (aL a b)=max _ (-4611686018427387904)
   omega
 | succ k ih=>
   show max (cP (dif a b) 0 (aL a b+k)) (dif a b (aL a b+k))=max _ (max (fY a b k) (dif a b (aL a b+k)))
   omega
theorem yI(a b:Cv):eZ (eH a b):=⟨lT _ _ _,fun t=>yK _ _ (by omega)⟩
theorem a2j(a b:Cv)(k:Nat):eH a b k=max (cP (dif a b) 0 (min (k+1) (aL a b))) (fY a b (k+1-aL a b)):=by
 by_cases h:k+1<=aL a b
 ·rw [show min (k+1) (aL a b)=k+1 by omega,show k+1-aL a b=0 by omega];have:=lT (dif a b) 0 (k+1)
  show cP (dif a b) 0 (k+1)=max _ (-4611686018427387904)
  omega
 ·rw [show min (k+1) (aL a b)=aL a b by omega];have:=a2i (a:=a) (b:=b) (k+1-aL a b)
  rw [show aL a b+(k+1-aL a b)=k+1 by omega] at this;exact this
theorem a2h(ha:a.Fin)(hb:b.Fin)(hC:1<=aI a b)(hbad:¬lE a b):aY (eH a b) (fM a b) (iW a b) (gT a b):=by
 have P:=a05 ha hb;obtain⟨F,hF⟩:∃F,F=aL a b:=⟨_,rfl⟩
 obtain⟨C,hCe⟩:∃C,C=aI a b:=⟨_,rfl⟩
 obtain⟨D,hD⟩:∃D,D=dG a b:=⟨_,rfl⟩
 rw [<- hF,<- hCe,<- hD] at P;rw [<- hCe] at hC;by_cases hd:0<D
 ·have e1:iW a b=C:=by unfold iW;rw [<- hD,if_pos hd,hCe]
  have e2:gT a b=D:=by unfold gT;rw [<- hD,if_pos hd]
  have e3:fM a b=max 400 (F+C):=by unfold fM;rw [<- hD,if_pos hd,<- hF,<- hCe]
  rw [e1,e2,e3];intro t ht;have hm:cP (dif a b) 0 F<=fY a b (max 400 (F+C)+1-F):=by
   rcases Int.lt_or_le (fY a b (max 400 (F+C)+1-F)) (cP (dif a b) 0 F) with h|h
   ·exact absurd ⟨by rw [<- hD];exact hd,by rw [e3,<- hF];exact h⟩ hbad
   ·exact h
  have key:∀u,max 400 (F+C)<=u->∃j,F<=j/\j<=u/\eH a b u=dif a b j:=by
   intro u hu;rcases rB (dif a b) 0 (u+1) with h | ⟨j,hj,h⟩
   ·
    have h1:fY a b (max 400 (F+C)+1-F) = -4611686018427387904\/∃j,j<max 400 (F+C)+1-F/\fY a b (max 400 (F+C)+1-F)=dif a b (aL a b+j):=rB _ _ _;have h2:=lT (dif a b) 0 F;rcases h1 with h1 | ⟨j,hj,h1⟩
    ·omega
    ·refine⟨F+j,by omega,by omega,?_⟩
     have h3:=kC (dif a b) 0 (k:=u+1) (j:=F+j) (by omega);rw [<- hF] at h1;show cP (dif a b) 0 (u+1)=_
     omega
   ·by_cases hj2:F<=j
    ·exact⟨j,hj2,by omega,h⟩
    ·have h1:fY a b (max 400 (F+C)+1-F) = -4611686018427387904\/∃j,j<max 400 (F+C)+1-F/\fY a b (max 400 (F+C)+1-F)=dif a b (aL a b+j):=rB _ _ _;have h2:=lT (dif a b) 0 F;have h4:=kC (dif a b) 0 (k:=F) (j:=j) (by omega);rcases h1 with h1 | ⟨i,hi,h1⟩
     ·omega
     ·refine⟨F+i,by omega,by omega,?_⟩
      have h3:=kC (dif a b) 0 (k:=u+1) (j:=F+i) (by omega);rw [<- hF] at h1;show cP (dif a b) 0 (u+1)=_
      omega
  obtain⟨j,hj1,hj2,hj3⟩:=key t ht;obtain⟨i,hi1,hi2,hi3⟩:=key (t+C) (by omega);have a1:dif a b (j+C)<=eH a b (t+C):=kC _ _ (by omega);rw [P j hj1] at a1;have a2:dif a b i<=eH a b t+D:=by
   by_cases hi4:F+C<=i
   ·have h1:=P (i-C) (by omega);rw [show i-C+C=i by omega] at h1;have h2:dif a b (i-C)<=eH a b t:=kC _ _ (by omega);omega
   ·have h2:dif a b i<=eH a b t:=kC _ _ (by omega);omega
  omega
 ·have e1:iW a b=1:=by unfold iW;rw [<- hD,if_neg hd]
  have e2:gT a b=0:=by unfold gT;rw [<- hD,if_neg hd]
  have e3:fM a b=F+C:=by unfold fM;rw [<- hD,if_neg hd,<- hF,<- hCe]
  rw [e1,e2,e3];have low:∀t,dif a b t<=cP (dif a b) 0 (F+C):=by
   intro t
   induction t using Nat.strongRecOn with
   | ind t ih=>
     by_cases ht:t<F+C
     ·exact kC _ _ ht
     ·have h1:=P (t-C) (by omega);rw [show t-C+C=t by omega] at h1;have:=ih (t-C) (by omega)
      omega
  have con:∀t,F+C<=t+1->eH a b t=cP (dif a b) 0 (F+C):=fun t ht=>by
   have h1:eH a b t<=cP (dif a b) 0 (F+C):=rC (lT _ _ _) (fun j _=>low j);have h2:cP (dif a b) 0 (F+C)<=eH a b t:=yK _ _ ht;omega
  intro t ht;rw [con t (by omega),con (t+1) (by omega),Int.add_zero]
end
noncomputable def dP(a:Cv)(c:Int)(t:Nat):Int:=if t=0 then 0 else gG a c (t-1)
section
variable{a f:Cv}{c:Int}
theorem nB:dP a c 0=0:=if_pos rfl
theorem jQ(t:Nat):dP a c (t+1)=gG a c t:=by unfold dP;rw [if_neg (by omega),Nat.add_sub_cancel]
theorem V7(hf:f.Ok)(ha:NF f.at a):dP a c=dP f c:=by
 funext t
 unfold dP;rw [a0i hf ha]
theorem V8(ha:a.Ok)(h0:0<=c):eZ (dP a c):=by
 have hu:=xG ha h0;refine⟨by rw [nB];exact Int.le_refl _,fun t=>?_⟩
 rw [jQ];rcases t with _|t
 ·rw [nB];exact hu.nn 0
 ·rw [jQ];exact hu.le (by omega)
theorem wZ(ha:a.Ok)(h0:0<=c){t:Nat}(ht:t<=4000000000):0<=dP a c t/\dP a c t<=4611686018427387904:=by
 rcases t with _|t
 ·rw [nB];omega
 ·rw [jQ];exact a0j ha h0 (by omega)
theorem wY(ha:a.Ok)(h0:0<=c){t u:Nat}(ht:t<=4000000000)(h:dP a c t=aG)(htu:t<=u):dP a c u=aG:=by
 rcases t with _|t
 ·rw [nB] at h;unfold aG at h;omega
 ·rcases u with _|u
  ·omega
  ·rw [jQ] at h ⊢;exact(a0h ha h0 (by omega) h (by omega)).2
theorem wX(ha:a.Ok){s:Nat}(h2:a.vals.length-a.per.toNat<=s)(hne:∀j,j<s+1+a.per.toNat->dP a c j≠aG):a.Fin:=
 a0f ha h2 (fun j hj=>by
  have:=hne (j+1) (by omega)
  rwa [jQ] at this)
theorem V5(ha:a.Ok)(h0:0<=c)(hi:a.inc=0){r:Cv}{er:Int}(h:eW (dP a c) (a.vals.length-a.per.toNat+1) a.per.toNat a.inc r er):eK (dP a c) r er:=by
 have hn:=ha.n2;have hp:=ha.p2;have hp1:=ha.p1;refine i9 (by omega) (fun t u ht htu hx=>wY ha h0 (by omega) hx htu) (fun hne=>?_) h;have hf:=wX ha (Nat.le_refl _) hne;intro t ht;have e:=a0g hf hi (c:=c) (Nat.le_refl _) (t-1) (by omega);obtain⟨u,rfl⟩:∃u,t=u+1:=⟨t-1,by omega⟩
 rw [Nat.add_sub_cancel] at e;rw [show u+1+a.per.toNat=(u+a.per.toNat)+1 by omega,jQ,jQ];exact e
theorem V6(ha:a.Ok)(h0:0<=c)(h4:c<=a.at 399){r:Cv}{er:Int}(h:eW (dP a c) 400 a.per.toNat a.inc r er):eK (dP a c) r er:=by
 have hn:=ha.n2;have hp:=ha.p2;have hp1:=ha.p1;have hpn:=ha.pn;have hi:=ha.i1;refine i9 (by omega) (fun t u ht htu hx=>wY ha h0 (by omega) hx htu) (fun hne=>?_) h;have hf:=wX ha (s:=399) (by omega) (fun j hj=>hne j (by omega));intro t ht;obtain⟨u,rfl⟩:∃u,t=u+1:=⟨t-1,by omega⟩
 rw [show u+1+a.per.toNat=(u+a.per.toNat)+1 by omega,jQ,jQ,kT (hf.not_infAt _),kT (hf.not_infAt _),hf.toL.step u (by omega)];have:=ha.at_le (show 399<=u by omega)
 omega
def gX(f:Cv)(c:Int)(r:Cv)(er:Int):Prop:=r.vals.length<=400/\(er=0->r.Ok/\∀t,r.at t=dP f c t)
theorem gX.made(ha:a.Ok)(h0:0<=c)(hf:f.Ok)(hn:NF f.at a){r:Cv}{er:Int}(h:eK (dP a c) r er):gX f c r er:=by
 rcases h.get (V8 ha h0) with ⟨rfl,h1,h2⟩|⟨rfl,rfl⟩
 ·exact⟨h1.n2,fun _=>⟨h1,fun t=>by rw [h2.at,V7 hf hn]⟩⟩
 ·exact⟨by decide,fun h=>by omega⟩
theorem gX.none_{er:Int}(h:er≠0):gX f c Cv.none er:=⟨by decide,fun e=>absurd e h⟩
end
def cG(f g:Cv)(t s:Nat):Prop:=s<=t/\¬f.infAt s/\¬g.infAt (t-s)
def cQ(f g:Cv)(lo t S:Nat)(v:Int):Prop:=
 ((∀s,lo<=s->s<S->¬cG f g t s)/\v=aG)\/
 ((∃s,lo<=s/\s<S/\cG f g t s/\v=f.at s+g.at (t-s))/\∀s,lo<=s->s<S->cG f g t s->v<=f.at s+g.at (t-s))
def eJ(f g:Cv)(t:Nat)(v:Int):Prop:=cQ f g 0 t (t+1) v
def bZ(f g:Cv)(h:Nat->Int):Prop:=∀t,eJ f g t (h t)
theorem cQ.zero(f g:Cv)(lo t:Nat):cQ f g lo t lo aG:=.inl ⟨fun s h1 h2=>by omega,rfl⟩
theorem cQ.unique{f g:Cv}{lo t S:Nat}{v v':Int}(h:cQ f g lo t S v)(k:cQ f g lo t S v'):v=v':=by
 rcases h with ⟨h1,rfl⟩|⟨⟨s,h0,h1,h2,h3⟩,h4⟩ <;> rcases k with ⟨k1,rfl⟩|⟨⟨s',k0,k1,k2,k3⟩,k4⟩
 ·rfl
 ·exact absurd k2 (h1 _ k0 k1)
 ·exact absurd h2 (k1 _ h0 h1)
 ·have:=h4 _ k0 k1 k2;have:=k4 _ h0 h1 h2;omega
section
variable{f g:Cv}{lo t S:Nat}{v:Int}
theorem cQ.skip(h:cQ f g lo t S v)(h1:¬cG f g t S):cQ f g lo t (S+1) v:=by
 rcases h with ⟨h2,rfl⟩|⟨⟨s,h0,h2,h3,h4⟩,h5⟩
 ·refine .inl ⟨fun s k1 k2=>?_,rfl⟩;rcases Nat.lt_or_ge s S with h|h
  ·exact h2 s k1 h
  ·rw [show s=S by omega];exact h1
 ·refine .inr ⟨⟨s,h0,by omega,h3,h4⟩,fun s' k1 k2 k3=>?_⟩;rcases Nat.lt_or_ge s' S with h|h
  ·exact h5 s' k1 h k3
  ·exact absurd (show cG f g t S by rwa [show S=s' by omega]) h1
theorem cQ.more(h:cQ f g lo t S v)(hl:lo<=S)(h1:cG f g t S)(h2:(∀s,lo<=s->s<S->¬cG f g t s)\/f.at S+g.at (t-S)<=v):cQ f g lo t (S+1) (f.at S+g.at (t-S)):=by
 refine .inr ⟨⟨S,hl,by omega,h1,rfl⟩,fun s' k1 k2 k3=>?_⟩;rcases Nat.lt_or_ge s' S with h3|h3
 ·rcases h2 with h2|h2
  ·exact absurd k3 (h2 s' k1 h3)
  ·rcases h with ⟨h4,_⟩|⟨_,h4⟩
   ·exact absurd k3 (h4 s' k1 h3)
   ·have:=h4 s' k1 h3 k3;omega
 ·rw [show s'=S by omega];exact Int.le_refl _
theorem cQ.keep(h:cQ f g lo t S v)(h1:v<=f.at S+g.at (t-S))(h2:f.at S+g.at (t-S)<aG):cQ f g lo t (S+1) v:=by
 rcases h with ⟨h3,rfl⟩|⟨⟨s,h0,h3,h4,h5⟩,h6⟩
 ·omega
 ·refine .inr ⟨⟨s,h0,by omega,h4,h5⟩,fun s' k1 k2 k3=>?_⟩;rcases Nat.lt_or_ge s' S with h|h
  ·exact h6 s' k1 h k3
  ·rw [show s'=S by omega];exact h1
theorem vX(f g:Cv)(lo t:Nat)(S:Nat)(hS:lo<=S):∃v,cQ f g lo t S v:=by
 induction S with
 | zero=>rw [show lo=0 by omega];exact⟨aG,cQ.zero f g 0 t⟩
 | succ S ih=>
   rcases Nat.lt_or_ge S lo with h|h
   ·rw [show lo=S+1 by omega];exact⟨aG,cQ.zero f g _ t⟩
   ·obtain⟨v,hv⟩:=ih h;by_cases hc:cG f g t S
    ·rcases hv with ⟨h1,h2⟩|⟨h1,h2⟩
     ·exact⟨_,cQ.more (.inl ⟨h1,h2⟩) h hc (.inl h1)⟩
     ·rcases (show v<=f.at S+g.at (t-S)\/f.at S+g.at (t-S)<v by omega) with h3|h3
      ·obtain⟨s,k0,k1,k2,k3⟩:=h1;refine⟨v,.inr ⟨⟨s,k0,by omega,k2,k3⟩,fun s' m1 m2 m3=>?_⟩⟩
       rcases Nat.lt_or_ge s' S with h|h
       ·exact h2 s' m1 h m3
       ·rw [show s'=S by omega];exact h3
      ·exact⟨_,cQ.more (.inr ⟨h1,h2⟩) h hc (.inr (by omega))⟩
    ·exact⟨v,hv.skip hc⟩
theorem cG.symm{s:Nat}(h:cG f g t s):cG g f t (t-s):=⟨by omega,h.2.2,by rw [show t-(t-s)=s by have:=h.1;omega];exact h.2.1⟩
theorem eJ.none(h:∀s,¬cG f g t s):eJ f g t aG:=.inl ⟨fun s _ _=>h s,rfl⟩
theorem eJ.cases(h:eJ f g t v):((∀s,¬cG f g t s)/\v=aG)\/((∃s,cG f g t s/\v=f.at s+g.at (t-s))/\∀s,cG f g t s->v<=f.at s+g.at (t-s)):=by
 rcases h with ⟨h1,rfl⟩|⟨⟨s,_,h2,h3,h4⟩,h5⟩
 ·exact .inl ⟨fun s hs=>h1 s (Nat.zero_le _) (by have:=hs.1;omega) hs,rfl⟩
 ·exact .inr ⟨⟨s,h3,h4⟩,fun s' hs=>h5 s' (Nat.zero_le _) (by have:=hs.1;omega) hs⟩
theorem eJ.of(h:((∀s,¬cG f g t s)/\v=aG)\/((∃s,cG f g t s/\v=f.at s+g.at (t-s))/\∀s,cG f g t s->v<=f.at s+g.at (t-s))):eJ f g t v:=by
 rcases h with ⟨h1,rfl⟩|⟨⟨s,h3,h4⟩,h5⟩
 ·exact eJ.none h1
 ·exact .inr ⟨⟨s,Nat.zero_le _,by have:=h3.1;omega,h3,h4⟩,fun s' _ _ hs=>h5 s' hs⟩
theorem eJ.symm(h:eJ f g t v):eJ g f t v:=by
 rcases h.cases with ⟨h1,rfl⟩|⟨⟨s,h3,h4⟩,h5⟩
 ·exact eJ.none fun s hs=>h1 _ hs.symm
 ·refine eJ.of (.inr ⟨⟨t-s,h3.symm,?_⟩,fun s' hs=>?_⟩)
  ·rw [show t-(t-s)=s by have:=h3.1;omega];omega
  ·have:=h5 _ hs.symm
   rw [show t-(t-s')=s' by have:=hs.1;omega] at this;omega
end
theorem bZ.symm{f g:Cv}{h:Nat->Int}(H:bZ f g h):bZ g f h:=fun t=>(H t).symm
theorem bZ.unique{f g:Cv}{h h':Nat->Int}(H:bZ f g h)(K:bZ f g h'):h=h':=funext fun t=>(H t).unique (K t)
theorem M7(f g:Cv):∃h,bZ f g h:=
 ⟨fun t=>(vX f g 0 t (t+1) (by omega)).choose,fun t=>(vX f g 0 t (t+1) (by omega)).choose_spec⟩
theorem bZ.nf{f g a b:Cv}(hf:f.Ok)(hg:g.Ok)(ha:NF f.at a)(hb:NF g.at b){h:Nat->Int}(H:bZ a b h):bZ f g h:=fun t=>by
 have e:∀s,cG a b t s↔cG f g t s:=fun s=>by unfold cG;rw [ha.inf_iff hf,hb.inf_iff hg]
 refine eJ.of ?_;rcases (H t).cases with ⟨h1,h2⟩|⟨⟨s,h3,h4⟩,h5⟩
 ·exact .inl ⟨fun s hs=>h1 s ((e s).2 hs),h2⟩
 ·rw [ha.at,hb.at] at h4;refine .inr ⟨⟨s,(e s).1 h3,h4⟩,fun s' hs=>?_⟩;have:=h5 s' ((e s').2 hs)
  rwa [ha.at,hb.at] at this
def lZ(A B h:Nat->Int):Prop:=∀t,(∃s,s<=t/\h t=A s+B (t-s))/\∀s,s<=t->h t<=A s+B (t-s)
section
variable{A B h:Nat->Int}{sa sb L:Nat}{Ga Gb:Int}
theorem vQ{G:Int}(hA:aY A sa L G)(hB:aY B sb L G)(H:lZ A B h):aY h (sa+sb+L) L G:=by
 intro t ht;obtain⟨⟨s,hs,e⟩,hmin⟩:=H t;obtain⟨⟨s',hs',e'⟩,hmin'⟩:=H (t+L);have h1:h (t+L)<=h t+G:=by
  rcases Nat.lt_or_ge s sa with k|k
  ·have k1:=hmin' s (by omega);have k2:=hB (t-s) (by omega);rw [show t-s+L=t+L-s by omega] at k2;omega
  ·have k1:=hmin' (s+L) (by omega);have k2:=hA s k;rw [show t+L-(s+L)=t-s by omega] at k1;omega
 have h2:h t<=h (t+L)-G:=by
  rcases Nat.lt_or_ge s' (sa+L) with k|k
  ·have k1:=hmin s' (by omega);have k2:=hB (t-s') (by omega);rw [show t-s'+L=t+L-s' by omega] at k2;omega
  ·have k1:=hmin (s'-L) (by omega);have k2:=hA (s'-L) (by omega);rw [show s'-L+L=s' by omega] at k2;rw [show t-(s'-L)=t+L-s' by omega] at k1;omega
 omega
def lW(A B:Nat->Int)(sa t:Nat)(v:Int):Prop:=∃s,sa<=s/\s<=t/\v=A s+B (t-s)
theorem vH(hA:aY A sa L Ga)(hB:aY B sb L Gb)(hG:Ga<Gb)(H:lZ A B h){t s:Nat}(hs:sa<=s)(hst:s<=t)(e:h t=A s+B (t-s)):t-s<sb+L:=by
 rcases Nat.lt_or_ge (t-s) (sb+L) with k|k
 ·exact k
 ·exfalso
  have k1:=(H t).2 (s+L) (by omega);have k2:=hA s hs;have k3:=hB (t-s-L) (by omega);rw [show t-s-L+L=t-s by omega] at k3;rw [show t-(s+L)=t-s-L by omega] at k1;omega
theorem G4(hA:aY A sa L Ga)(hB:aY B sb L Gb)(hG:Ga<Gb)(H:lZ A B h){t:Nat}(ht:sa+sb<=t)(h0:lW A B sa t (h t)):lW A B sa (t+L) (h (t+L)):=by
 obtain⟨s,h1,h2,h3⟩:=h0;obtain⟨⟨s',hs',e'⟩,hmin'⟩:=H (t+L);rcases Nat.lt_or_ge s' sa with k|k
 ·exfalso
  have k1:=(H t).2 s' (by omega);have k2:=hB (t-s') (by omega);rw [show t-s'+L=t+L-s' by omega] at k2;have k3:=hmin' (s+L) (by omega);have k4:=hA s h1;rw [show t+L-(s+L)=t-s by omega] at k3;omega
 ·exact⟨s',k,hs',e'⟩
theorem G3(hA:aY A sa L Ga)(hB:aY B sb L Gb)(hG:Ga<Gb)(H:lZ A B h)(hL:1<=L){T:Nat}(hT:sa+sb<=T)(h0:∀t,T<=t->t<T+L->lW A B sa t (h t))(t:Nat)(ht:T<=t):lW A B sa t (h t):=by
 obtain⟨r,m,hr,rfl⟩:=a2c hL ht
 induction m with
 | zero=>rw [Nat.zero_mul,Nat.add_zero];exact h0 _ (by omega) (by omega)
 | succ m ih=>
   have:=G4 hA hB hG H (by omega) (ih (by omega))
   rwa [show T+r+m*L+L=T+r+(m+1)*L by rw [Nat.add_mul];omega] at this
theorem vJ(hA:aY A sa L Ga)(hB:aY B sb L Gb)(hG:Ga<Gb)(H:lZ A B h){p:Nat}{i:Int}(hp:aY A sa p i){T:Nat}(hT:sa+sb+L<=T)(h0:∀t,T<=t->lW A B sa t (h t)):aY h T p i:=by
 intro t ht;obtain⟨s,h1,h2,h3⟩:=h0 t ht;obtain⟨s',k1,k2,k3⟩:=h0 (t+p) (by omega);have m1:=vH hA hB hG H k1 k2 k3;have e1:=(H (t+p)).2 (s+p) (by omega);have e2:=hp s h1;rw [show t+p-(s+p)=t-s by omega] at e1;have e3:=(H t).2 (s'-p) (by omega);have e4:=hp (s'-p) (by omega);rw [show s'-p+p=s' by omega] at e4;rw [show t-(s'-p)=t+p-s' by omega] at e3;omega
theorem vI(hA:aY A sa L Ga)(hB:aY B sb L Gb)(hG:Ga<Gb)(H:lZ A B h){q S:Nat}{b:Int}(hq:1<=q)(hP:aY h S q b){t0:Nat}(ht0:sa+sb+L<=t0)(hS:S<=t0):lW A B sa t0 (h t0):=by
 have p1:=hA.mul q;have p2:=hB.mul q;have p3:=hP.mul L;rw [Nat.mul_comm L q] at p3;have hqq:(q:Int)*(Ga+1)<=(q:Int)*Gb:=Int.mul_le_mul_of_nonneg_left (by omega) (by omega);rw [Int.mul_add,Int.mul_one] at hqq;generalize (q:Int)*Ga=X at *;generalize (q:Int)*Gb=Y at *;generalize (L:Int)*b=Z at *;generalize hQ:q*L=Q at *;have hXZ:Z<=X:=by
  have key:∀m:Nat,h t0+m*Z<=A t0+B 0+m*X:=fun m=>by
   have e1:=p1.mul m t0 (by omega);have e3:=p3.mul m t0 (by omega);have e4:=(H (t0+m*Q)).2 (t0+m*Q) (Nat.le_refl _);rw [Nat.sub_self] at e4;omega
  have k:=key (A t0+B 0-h t0+1).toNat;have k0:=key 0;rw [show((A t0+B 0-h t0+1).toNat:Int)=A t0+B 0-h t0+1 by omega] at k;rcases (show Z<=X\/X<Z by omega) with h'|h'
  ·exact h'
  ·exfalso
   have:(A t0+B 0-h t0+1)*(X+1)<=(A t0+B 0-h t0+1)*Z:=Int.mul_le_mul_of_nonneg_left (by omega) (by omega)
   rw [Int.mul_add,Int.mul_one] at this;omega
 obtain⟨⟨s,hs,e⟩,hmin⟩:=H (t0+Q);have e3:=p3 t0 (by omega);rcases Nat.lt_or_ge s sa with k|k
 ·exfalso
  have k1:=(H t0).2 s (by omega);have k2:=p2 (t0-s) (by omega);rw [show t0-s+Q=t0+Q-s by omega] at k2;omega
 ·have m1:=vH hA hB hG H k hs e;have k2:=p1 (s-Q) (by omega);rw [show s-Q+Q=s by omega] at k2;have k1:=(H t0).2 (s-Q) (by omega);rw [show t0-(s-Q)=t0+Q-s by omega] at k1;exact⟨s-Q,by omega,by omega,by rw [show t0-(s-Q)=t0+Q-s by omega];omega⟩
end
theorem mY{a b:Cv}(fa:a.Fin)(fb:b.Fin){h:Nat->Int}(H:bZ a b h):lZ a.at b.at h:=fun t=>by
 have c:∀s,s<=t->cG a b t s:=fun s hs=>⟨hs,fa.not_infAt _,fb.not_infAt _⟩
 rcases (H t).cases with ⟨h1,_⟩|⟨⟨s,h3,h4⟩,h5⟩
 ·exact absurd (c 0 (Nat.zero_le _)) (h1 0)
 ·exact⟨⟨s,h3.1,h4⟩,fun s' hs=>h5 s' (c s' hs)⟩
section
variable{a b:Cv}{h:Nat->Int}
theorem vV(ha:a.Ok)(hb:b.Ok){t u:Nat}(htu:t<=u)(h:∀s,¬cG a b t s):∀s,¬cG a b u s:=fun s ⟨h1,h2,h3⟩=>by
 rcases Nat.lt_or_ge t s with k|k
 ·exact h t ⟨Nat.le_refl _,fun e=>h2 (e.later ha (by omega)),fun e=>h3 (e.later hb (by omega))⟩
 ·exact h s ⟨k,h2,fun e=>h3 (e.later hb (by omega))⟩
theorem sE(ha:a.Ok)(hb:b.Ok){t s:Nat}(ht:t<=2000)(h:cG a b t s):0<=a.at s+b.at (t-s)/\a.at s+b.at (t-s)<=8000000000000:=by
 have bd:∀{c:Cv} (hc:c.Ok) {u:Nat},u<=2000->¬c.infAt u->0<=c.at u/\c.at u<=4000000000000:=fun {c} hc {u} hu hi=>by
  rcases hc.fin_or with fc|ic
  ·have h2:=fc.at_bd u;have:(u:Int)*1073741824<=2000*1073741824:=Int.mul_le_mul_of_nonneg_right (by omega) (by omega)
   omega
  ·have hlt:u<400:=by
    rcases Nat.lt_or_ge u 400 with hh|hh
    ·exact hh
    ·exact absurd ⟨ic,hc.at_inf ic (by have:=hc.n2;omega)⟩ hi
   have:=hc.fin_bd hi hlt
   omega
 have h1:=bd ha (u:=s) (by have:=h.1;omega) h.2.1;have h2:=bd hb (u:=t-s) (by omega) h.2.2;omega
theorem oJ(ha:a.Ok)(hb:b.Ok)(H:bZ a b h){t:Nat}(ht:t<=2000):((∀s,¬cG a b t s)/\h t=aG)\/(0<=h t/\h t<=8000000000000):=by
 rcases (H t).cases with h1 | ⟨⟨s,h3,h4⟩,h5⟩
 ·exact .inl h1
 ·have:=sE ha hb ht h3
  exact .inr (by omega)
theorem oK(ha:a.Ok)(hb:b.Ok)(H:bZ a b h){t:Nat}(ht:t<=2000):0<=h t/\h t<=4611686018427387904:=by
 rcases oJ ha hb H ht with ⟨_,h1⟩|h1
 ·rw [h1];unfold aG;omega
 ·omega
theorem N5(ha:a.Ok)(hb:b.Ok)(H:bZ a b h){t u:Nat}(ht:t<=2000)(htu:t<=u)(hi:h t=aG):h u=aG:=by
 rcases oJ ha hb H ht with ⟨h1,_⟩|h1
 ·exact(H u).unique (eJ.none (vV ha hb htu h1))
 ·unfold aG at hi;omega
theorem wA(ha:a.Ok)(hb:b.Ok)(H:bZ a b h):eZ h:=by
 refine⟨(oK ha hb H (by omega)).1,fun t=>?_⟩
 rcases (H t).cases with ⟨h1,h2⟩|⟨⟨s,h3,h4⟩,h5⟩
 ·rw [h2,(H (t+1)).unique (eJ.none (vV ha hb (by omega) h1))];exact Int.le_refl _
 ·rcases (H (t+1)).cases with ⟨k1,k2⟩|⟨⟨s',k3,k4⟩,k5⟩
  ·rw [k2];rcases Nat.lt_or_ge t 2000 with k|k
   ·have:=(oK ha hb H (t:=t) (by omega)).2;unfold aG;omega
   ·exfalso
    have n1:=ha.n2;have n2:=hb.n2;by_cases fa:a.Fin
    ·by_cases fb:b.Fin
     ·exact k1 0 ⟨by omega,fa.not_infAt _,fb.not_infAt _⟩
     ·have ib:=hb.fin_or.resolve_left fb;refine k1 (s+1) ⟨by have:=h3.1;omega,fa.not_infAt _,fun e=>?_⟩;rw [show t+1-(s+1)=t-s by omega] at e;exact h3.2.2 e
    ·have ia:=ha.fin_or.resolve_left fa;refine k1 s ⟨by have:=h3.1;omega,h3.2.1,fun e=>?_⟩;by_cases fb:b.Fin
     ·exact fb.not_infAt _ e
     ·have ib:=hb.fin_or.resolve_left fb;have hs:s<400:=by
       rcases Nat.lt_or_ge s 400 with q|q
       ·exact q
       ·exact absurd ⟨ia,ha.at_inf ia (by omega)⟩ h3.2.1
      exact h3.2.2 ⟨ib,hb.at_inf ib (by omega)⟩
  ·rcases Nat.lt_or_ge t s' with k|k
   ·have e:s'=t+1:=by have:=k3.1;omega
    subst e;have k6:=h5 t ⟨Nat.le_refl _,fun e=>k3.2.1 (e.later ha (by omega)),by have:=k3.2.2;rwa [Nat.sub_self] at this ⊢⟩;have k7:=ha.at_mono t;rw [Nat.sub_self] at k4 k6;omega
   ·have k6:=h5 s' ⟨k,k3.2.1,fun e=>k3.2.2 (e.later hb (by omega))⟩;have k7:=hb.at_le (show t-s'<=t+1-s' by omega);omega
theorem sF(fa:a.Fin)(hb:b.Ok)(ib:aB b.vals (b.vals.length-1)=aG)(H:bZ a b h)(hne:h 0≠aG):aY h (a.vals.length-a.per.toNat+(b.vals.length-b.per.toNat)) a.per.toNat a.inc:=by
 obtain⟨sa,hsa⟩:∃sa,sa=a.vals.length-a.per.toNat:=⟨_,rfl⟩
 obtain⟨sb,hsb⟩:∃sb,sb=b.vals.length-b.per.toNat:=⟨_,rfl⟩
 have hA:=fa.toL.step;rw [<- hsa] at hA ⊢;rw [<- hsb];have far:∀t s,cG a b t s->t-s<sb:=fun t s hs=>by
  rcases Nat.lt_or_ge (t-s) sb with k|k
  ·exact k
  ·exact absurd (hb.infAt_start ib (by omega)) hs.2.2
 have hb0:¬b.infAt 0:=by
  rcases (H 0).cases with ⟨_,h2⟩|⟨⟨s,h3,_⟩,_⟩
  ·exact absurd h2 hne
  ·have:=h3.2.2;rwa [Nat.zero_sub] at this
 have val:∀t,(∃s,cG a b t s/\h t=a.at s+b.at (t-s))/\∀s,cG a b t s->h t<=a.at s+b.at (t-s):=fun t=>by
  rcases (H t).cases with ⟨h1,_⟩|h1
  ·exact absurd ⟨Nat.le_refl _,fa.not_infAt _,by rw [Nat.sub_self];exact hb0⟩ (h1 t)
  ·exact h1
 intro t ht;obtain⟨⟨s,h1,h2⟩,h3⟩:=val t;obtain⟨⟨s',k1,k2⟩,k3⟩:=val (t+a.per.toNat);have f1:=far _ _ h1;have f2:=far _ _ k1;have g1:=h1.1;have g2:=k1.1;have e1:=k3 (s+a.per.toNat) ⟨by omega,fa.not_infAt _,by rw [show t+a.per.toNat-(s+a.per.toNat)=t-s by omega];exact h1.2.2⟩;have e2:=hA s (by omega);rw [show t+a.per.toNat-(s+a.per.toNat)=t-s by omega] at e1;have e3:=h3 (s'-a.per.toNat) ⟨by omega,fa.not_infAt _,by rw [show t-(s'-a.per.toNat)=t+a.per.toNat-s' by omega];exact k1.2.2⟩;have e4:=hA (s'-a.per.toNat) (by omega);rw [show s'-a.per.toNat+a.per.toNat=s' by omega] at e4;rw [show t-(s'-a.per.toNat)=t+a.per.toNat-s' by omega] at e3;omega
end
def iN(a b r:Cv)(er:Int):Prop:=∃h,bZ a b h/\dZ h r er
theorem iN.unique{a b r r':Cv}{e e':Int}(H:iN a b r e)(K:iN a b r' e'):r=r'/\e=e':=by
 obtain⟨h,h1,h2⟩:=H;obtain⟨k,k1,k2⟩:=K;obtain rfl:=h1.unique k1;exact h2.unique k2
def fH:Cv->Cv->Cv->Int->Prop:=lA iN
theorem fH.unique{f g r r':Cv}{e e':Int}(h:fH f g r e)(k:fH f g r' e'):r=r'/\e=e':=lA.unique (S:=iN) (fun h k=>iN.unique h k) h k
section
variable{a b r:Cv}{er:Int}{h:Nat->Int}
theorem qB(ha:a.Ok)(hb:b.Ok)(H:bZ a b h){s p:Nat}{i:Int}(hp:1<=p)(hsp:s+p<=2000)(hper:(∀j,j<s+p->h j≠aG)->aY h s p i)(hS:eW h s p i r er):dZ h r er:=
 (i9 hp (fun t u ht htu hi=>N5 ha hb H (by omega) htu hi) hper hS).toL
theorem N6(ha:a.Ok)(hb:b.Ok)(ia:aB a.vals (a.vals.length-1)=aG)(ib:aB b.vals (b.vals.length-1)=aG)(H:bZ a b h){s p:Nat}{i:Int}(hp:1<=p)(hsp:s+p<=2000)
 (hs:a.vals.length-a.per.toNat+(b.vals.length-b.per.toNat)<=s) (hS:eW h s p i r er):dZ h r er:=by
 refine qB ha hb H hp hsp (fun hne=>absurd ?_ (hne s (by omega))) hS;refine(H s).unique (eJ.none fun u hu=>?_);rcases Nat.lt_or_ge u (a.vals.length-a.per.toNat) with k|k
 ·exact hu.2.2 (hb.infAt_start ib (by omega))
 ·exact hu.2.1 (ha.infAt_start ia k)
theorem N7(fa:a.Fin)(hb:b.Ok)(ib:aB b.vals (b.vals.length-1)=aG)(H:bZ a b h){s:Nat}(hsp:s+a.per.toNat<=2000)
 (hs:a.vals.length-a.per.toNat+(b.vals.length-b.per.toNat)<=s) (hS:eW h s a.per.toNat a.inc r er):dZ h r er:=
 qB fa.1 hb H (by have:=fa.1.p1;omega) hsp (fun hne=>(sF fa hb ib H (hne 0 (by have:=fa.1.p1;omega))).mono hs) hS
theorem wU(ha:a.Ok)(hb:b.Ok)(ib:aB b.vals (b.vals.length-1)=aG):aI a b=a.per.toNat/\bR a b=a.inc:=by
 have h1:=(hb.last ib).1;have hp:=ha.p1;have e:aI a b=a.per.toNat:=by
  unfold aI a9;rw [h1,show(1:Int).toNat=1 from rfl,Nat.gcd_one_right,Nat.div_one,Nat.mul_one]
 refine⟨e,?_⟩
 unfold bR;rw [e,Nat.div_self (by omega)];simp
theorem N8(fa:a.Fin)(fb:b.Fin)(hG:bR a b=cH a b)(H:bZ a b h){s:Nat}(hsp:s+aI a b<=2000)
 (hs:a.vals.length-a.per.toNat+(b.vals.length-b.per.toNat)+aI a b<=s) (hS:eW h s (aI a b) (bR a b) r er):dZ h r er:=by
 have hp:=fa.1.p1;have hq:=fb.1.p1;refine qB fa.1 fb.1 H (iG fa.1 fb.1).c1 hsp (fun _=>?_) hS;have h2:=nA fa.1 fb (s:=b.vals.length-b.per.toNat) (Nat.le_refl _);rw [<- hG] at h2;exact(vQ (l9 fa fb.1 (Nat.le_refl _)) h2 (mY fa fb H)).mono hs
theorem N9(fa:a.Fin)(fb:b.Fin)(hG:bR a b<cH a b)(H:bZ a b h){s:Nat}(hsp:s+a.per.toNat<=2000)
 (hs:a.vals.length-a.per.toNat+(b.vals.length-b.per.toNat)+aI a b<=s) (hat:∀t,s<=t->t<s+aI a b->cQ a b (a.vals.length-a.per.toNat) t (t+1) (h t)) (hS:eW h s a.per.toNat a.inc r er):dZ h r er:=by
 have hp:=fa.1.p1;have hq:=fb.1.p1;refine qB fa.1 fb.1 H (by omega) hsp (fun _=>?_) hS;have hA:=l9 fa fb.1 (s:=a.vals.length-a.per.toNat) (Nat.le_refl _);have hB:=nA fa.1 fb (s:=b.vals.length-b.per.toNat) (Nat.le_refl _);have HC:=mY fa fb H;refine vJ hA hB hG HC fa.toL.step hs (G3 hA hB hG HC (iG fa.1 fb.1).c1 (by omega) (fun t h1 h2=>?_));rcases hat t h1 h2 with ⟨h3,_⟩|⟨⟨u,h3,h4,h5,h6⟩,_⟩
 ·exact absurd ⟨Nat.le_refl _,fa.not_infAt _,fb.not_infAt _⟩ (h3 t (by omega) (by omega))
 ·exact⟨u,h3,h5.1,h6⟩
theorem O0(fa:a.Fin)(fb:b.Fin)(hG:bR a b<cH a b)(H:bZ a b h){t:Nat}{v:Int}(h4:400<=t)(h5:t<=2000)
 (hs:a.vals.length-a.per.toNat+(b.vals.length-b.per.toNat)+aI a b<=t) (hv:cQ a b (a.vals.length-a.per.toNat) t (t+1) v) (hlt:h t<v):dZ h Cv.none 3:=by
 refine dZ.none_ fun g hg hl=>?_
 have hA:=l9 fa fb.1 (s:=a.vals.length-a.per.toNat) (Nat.le_refl _);have hB:=nA fa.1 fb (s:=b.vals.length-b.per.toNat) (Nat.le_refl _);have HC:=mY fa fb H;have hne:h 400≠aG:=by
  rcases oJ fa.1 fb.1 H (t:=400) (by omega) with ⟨k,_⟩|k
  ·exact absurd ⟨Nat.le_refl _,fa.not_infAt _,fb.not_infAt _⟩ (k 400)
  ·unfold aG;omega
 obtain⟨q,G,hq,hP⟩:=a0a hg hl hne;obtain⟨u,k1,k2,k3⟩:=vI hA hB hG HC hq hP hs h4;rcases hv with ⟨h6,_⟩|⟨_,h6⟩
 ·exact h6 u k1 (by omega) ⟨k2,fa.not_infAt _,fb.not_infAt _⟩
 ·have:=h6 u k1 (by omega) ⟨k2,fa.not_infAt _,fb.not_infAt _⟩
  omega
end
section
theorem xC{p:Nat->Prop}:∀n,p n->∃m,m<=n/\p m/\∀k,k<m->¬p k
 | 0,h=>⟨0,Nat.le_refl _,h,fun k hk=>by omega⟩
 | n+1,h=>by
   by_cases e:∃k,k<=n/\p k
   ·obtain⟨k,hk,hp⟩:=e;obtain⟨m,h1,h2⟩:=xC k hp;exact⟨m,by omega,h2⟩
   ·exact⟨n+1,Nat.le_refl _,h,fun k hk hp=>e ⟨k,by omega,hp⟩⟩
open Classical in
noncomputable def pG(p:Nat->Prop):Nat:=if h:∃n,p n/\∀k,k<n->¬p k then Classical.choose h else 0
theorem a44{p:Nat->Prop}{N:Nat}(hN:p N)(hm:∀a b,a<=b->p a->p b)(y:Nat):p y↔pG p<=y:=by
 obtain⟨m,_,h1,h2⟩:=xC N hN;have hx:∃n,p n/\∀k,k<n->¬p k:=⟨m,h1,h2⟩
 have hs:=Classical.choose_spec hx;have e:pG p=Classical.choose hx:=by unfold pG;rw [dif_pos hx]
 rw [<- e] at hs;constructor
 ·intro h;rcases Nat.lt_or_ge y (pG p) with g|g
  ·exact absurd h (hs.2 y g)
  ·exact g
 ·intro h;exact hm _ _ h hs.1
def AA(a b c z y:Int):Int:=y+a*((y+b) / c+1)+z
noncomputable def dV(C a b c z:Int)(t:Nat):Nat:=pG (fun y=>C*t<=AA a b c z y)
section
variable{C a b c z:Int}
theorem uL(ha:0<=a)(hc:1<=c){x y:Int}(h:x<=y):AA a b c z x<=AA a b c z y:=by
 unfold AA;have h1:(x+b) / c<=(y+b) / c:=Int.ediv_le_ediv (by omega) (by omega);have h2:a*((x+b) / c+1)<=a*((y+b) / c+1):=Int.mul_le_mul_of_nonneg_left (by omega) ha;omega
theorem uK(ha:0<=a)(hb:0<=b)(hc:1<=c)(hz:0<=z){y:Int}(hy:0<=y):y<=AA a b c z y:=by
 unfold AA;have h1:0<=(y+b) / c:=Int.ediv_nonneg (by omega) (by omega);have h2:=Int.mul_nonneg ha (show 0<=(y+b) / c+1 by omega);omega
theorem lU(hC:0<=C)(ha:0<=a)(hb:0<=b)(hc:1<=c)(hz:0<=z)(t y:Nat):C*t<=AA a b c z y↔dV C a b c z t<=y:=by
 have h0:0<=C*t:=Int.mul_nonneg hC (by omega);refine a44 (p:=fun y=>C*t<=AA a b c z y) (N:=(C*t).toNat) ?_ (fun x y h k=>Int.le_trans k (uL ha hc (by omega))) y;have:=uK (y:=C*t) ha hb hc hz h0
 show C*t<=AA a b c z ((C*t).toNat:Int)
 rw [Int.toNat_of_nonneg h0];exact this
theorem zG(hC:0<=C)(ha:0<=a)(hb:0<=b)(hc:1<=c)(hz:0<=z)(t:Nat):(dV C a b c z t:Int)<=C*t:=by
 have h0:0<=C*t:=Int.mul_nonneg hC (by omega);have:=(lU hC ha hb hc hz t (C*t).toNat).1 (by rw [Int.toNat_of_nonneg h0];exact uK ha hb hc hz h0)
 omega
theorem rJ(hC:0<=C)(ha:0<=a)(hb:0<=b)(hc:1<=c)(hz:0<=z){t:Nat}{y:Int}(hy:0<=y)(h:C*t<=AA a b c z y):(dV C a b c z t:Int)<=y:=by
 obtain⟨y,rfl⟩:=Int.eq_ofNat_of_zero_le hy;have:=(lU hC ha hb hc hz t y).1 h
 omega
theorem zI(hC:0<=C)(ha:0<=a)(hb:0<=b)(hc:1<=c)(hz:0<=z):eZ (fun t=>(dV C a b c z t:Int)):=by
 refine⟨by simp,fun t=>?_⟩
 have h1:=(lU hC ha hb hc hz (t+1) (dV C a b c z (t+1))).2 (Nat.le_refl _);rw [show C*((t+1:Nat):Int)=C*t+C by rw [Int.natCast_add,Int.mul_add];simp] at h1;have:=(lU hC ha hb hc hz t (dV C a b c z (t+1))).1 (by omega)
 show(dV C a b c z t:Int)<=dV C a b c z (t+1)
 omega
theorem uJ(hc:1<=c)(y k:Int):AA a b c z (y+k*c)=AA a b c z y+k*(a+c):=by
 unfold AA;rw [show y+k*c+b=y+b+k*c by omega,Int.add_mul_ediv_right _ _ (by omega),Int.mul_add k,show(y+b) / c+k+1=(y+b) / c+1+k by omega,Int.mul_add a ((y+b) / c+1) k,Int.mul_comm k a];omega
theorem zH(hC:0<=C)(ha:0<=a)(hb:0<=b)(hc:1<=c)(hz:0<=z){st P:Nat}{k:Int}(hk:0<=k)(hP:C*P=k*(a+c))(hst:AA a b c z (-1)<C*st):aY (fun t=>(dV C a b c z t:Int)) st P (k*c):=by
 intro t ht;show(dV C a b c z (t+P):Int)=dV C a b c z t+k*c
 have hkc:0<=k*c:=Int.mul_nonneg hk (by omega);have e:C*((t+P:Nat):Int)=C*t+k*(a+c):=by rw [Int.natCast_add,Int.mul_add,hP]
 have hct:C*st<=C*t:=Int.mul_le_mul_of_nonneg_left (by omega) hC;have up:(dV C a b c z (t+P):Int)<=dV C a b c z t+k*c:=by
  refine rJ hC ha hb hc hz (by omega) ?_;rw [e,uJ hc];have:=(lU hC ha hb hc hz t (dV C a b c z t)).2 (Nat.le_refl _)
  omega
 have lo:dV C a b c z t+k*c<=(dV C a b c z (t+P):Int):=by
  have h1:=(lU hC ha hb hc hz (t+P) (dV C a b c z (t+P))).2 (Nat.le_refl _);rw [e] at h1;rw [show((dV C a b c z (t+P):Nat):Int)=(dV C a b c z (t+P):Int)-k*c+k*c by omega,uJ hc] at h1;rcases Int.lt_or_le ((dV C a b c z (t+P):Int)-k*c) 0 with g|g
  ·exfalso
   have:=uL (b:=b) (z:=z) ha hc (show(dV C a b c z (t+P):Int)-k*c<=-1 by omega)
   omega
  ·have:=rJ (t:=t) hC ha hb hc hz g (by omega)
   omega
 omega
end
def dS(P:Cv->Prop)(f:Cv)(er:Int):Prop:=f.vals.length<=400/\(er=0->f.Fin/\P f)
theorem dS.made{h:Nat->Int}{P:Cv->Prop}{f:Cv}{er:Int}(m:eK h f er)(H:eZ h)(hn:∀t,t<=400->h t≠aG)(hP:∀f:Cv,f.Ok->(∀t,f.at t=h t)->P f):dS P f er:=by
 rcases m.get H with ⟨rfl,h1,h2⟩|⟨rfl,rfl⟩
 ·refine⟨h1.n2,fun _=>⟨⟨h1,?_⟩,hP f h1 h2.at⟩⟩
  have n1:=h1.n1;have n2:=h1.n2;rw [<- Cv.at_lt (by omega),h2.at];exact hn _ (by omega)
 ·exact⟨by decide,fun h=>by omega⟩
theorem dS.none{P:Cv->Prop}{er:Int}(h:er≠0):dS P Cv.none er:=⟨by decide,fun e=>absurd e h⟩
end
theorem a04{a b:Cv}(ha:a.Ok)(hb:b.Ok):aL a b+aI a b<=14800:=by
 have a1:=ha.p1;have a2:=ha.p2;have a3:=ha.n2;have b1:=hb.p1;have b2:=hb.p2;have b3:=hb.n2;have h:=(jP (p:=a.per.toNat) (q:=b.per.toNat) (by omega) (by omega)).2.2.2.1;have h2:a.per.toNat*b.per.toNat<=120*120:=Nat.mul_le_mul (by omega) (by omega);unfold aL aI;omega
theorem dB.at_lt{a b:Cv}(ha:a.Ok)(hb:b.Ok){v A:Nat}(h:dB a b false v A):A<=14800:=by
 have hl:¬l3 a b:=fun hl=>by
  have:=(dB.unique hb (xF ha hl) h).1
  cases this
 have hb1:=a04 ha hb;rcases h with ⟨h,_⟩|⟨_,_,h0,h1⟩
 ·cases h
 ·rcases Nat.eq_zero_or_pos v with e|e
  ·rw [h0 e];omega
  ·obtain⟨u,rfl⟩:∃u,v=u+1:=⟨v-1,by omega⟩
   have h2:=h1 u rfl;rcases Nat.lt_or_ge A (aL a b+aI a b) with h3|h3
   ·omega
   ·exfalso
    have hc:=(jP (p:=a.per.toNat) (q:=b.per.toNat) (by have:=ha.p1;omega) (by have:=hb.p1;omega)).2.2.1;obtain⟨r,rfl⟩:∃r,A=r+aI a b:=⟨A-aI a b,by omega⟩
    have h4:=(h2.2 r (by unfold aI;omega)).step ha hb hl (by omega) (by omega);rw [show r+u+aI a b=r+aI a b+u by omega] at h4;exact h2.1 h4
theorem dB.small{f g:Cv}(ff:f.Fin)(fg:g.Fin){v A:Nat}(h:dB f g false v A):(v:Int)<=4000000000000000:=by
 have hA:=h.at_lt ff.1 fg.1;have hp1:=fg.1.p1;have hp2:=fg.1.p2;have hpn:=fg.1.pn;have hn2:=fg.1.n2;rcases h with ⟨h,_⟩|⟨_,hd,h0,h1⟩
 ·cases h
 ·rcases Nat.eq_zero_or_pos v with e|e
  ·omega
  ·obtain⟨u,rfl⟩:∃u,v=u+1:=⟨v-1,by omega⟩
   have h3:g.at (A+u)<f.at A:=by
    rcases Int.lt_or_le (g.at (A+u)) (f.at A) with h'|h'
    ·exact h'
    ·exact absurd (.inr ⟨ff.not_infAt _,h'⟩) (h1 u rfl).1
   have h4:f.at A<=g.at (A+u+1):=by
    rcases hd A with h'|h'
    ·exact absurd h' (fg.not_infAt _)
    ·exact h'.2
   have hb:=ff.at_bd A;by_cases hi:g.inc=0
   ·rcases Nat.lt_or_ge (A+u) g.vals.length with h5|h5
    ·omega
    ·exfalso
     have h6:=fg.toL.step (A+u) (by omega);have h7:=fg.1.at_le (show A+u+1<=A+u+g.per.toNat by omega);omega
   ·have hi1:=fg.1.i1;have e1:=fg.toL.step.mul (f.at A).toNat (g.vals.length-1) (by omega);have h5:((f.at A).toNat:Int)*1<=((f.at A).toNat:Int)*g.inc:=Int.mul_le_mul_of_nonneg_left (by omega) (by omega);have h6:=fg.1.up0.nn (g.vals.length-1);rcases Nat.lt_or_ge (A+u) (g.vals.length-1+(f.at A).toNat*g.per.toNat) with h7|h7
    ·have h8:(f.at A).toNat*g.per.toNat<=(f.at A).toNat*120:=Nat.mul_le_mul_left _ (by omega);omega
    ·have h9:=fg.1.at_le h7;omega
theorem qQ{h:Nat->Int}{r:Cv}{er:Int}(m:dZ h r er)(H:eZ h){s p:Nat}{i:Int}(hp:1<=p)(P:aY h s p i)(hsp:s+p<=400)(hp2:p<=120)(hv:∀t,t<s+p->h t<=1073741824)(hi:i<=1073741824) :
 er=0/\r.Ok/\NF h r/\r.Fin:=by
 obtain⟨g,hg,h1,h2⟩:=sZ hp P (fun t ht=>by have:=hv t ht;unfold aG;omega);have gp1:=hg.p1;have gpn:=hg.pn;have hinc:g.inc<=1073741824:=by
  have h3:=hg.per (g.vals.length-g.per.toNat) (Nat.le_refl _);rw [show g.vals.length-g.per.toNat+g.per.toNat=g.vals.length by omega] at h3;have h4:=H.nn (g.vals.length-g.per.toNat);by_cases e:g.vals.length<s+p
  ·have:=hv _ e;omega
  ·have h5:=P s (Nat.le_refl _);have h6:=H.le (show s<=g.vals.length-g.per.toNat by omega);rw [show g.vals.length=s+p by omega] at h3 h6;omega
 have hl:jK g:=⟨by omega,fun k hk=>(iU _).2 (.inr (by rw [hg.vals k hk];exact hv k (by omega))),by omega,hinc⟩
 obtain⟨rfl,rfl⟩:=m.is (.inl hg) hl;have ok:=oX (.inl hg) H hl;have hn:=ok.n1;exact⟨rfl,ok,.inl hg,ok,by rw [hg.vals _ (by omega)];exact hg.fin _ (by omega)⟩
end Go.Proofs.YtaejfleahamapaaGreat
