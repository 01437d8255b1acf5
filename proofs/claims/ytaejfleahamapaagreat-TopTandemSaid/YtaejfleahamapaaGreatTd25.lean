/- . -/
import Derived.Test.YtaejfleahamapaaGreatTd2
namespace Go.Proofs.YtaejfleahamapaaGreat
set_option linter.unusedVariables false
set_option linter.unusedSimpArgs false
def cP(r:Nat->Int)(lo:Int):Nat->Int
 | 0=>lo
 | k+1=>max (cP r lo k) (r k)
theorem lI(r:Nat->Int)(lo:Int)(k:Nat):lo<=cP r lo k:=by
 induction k with
 | zero=>exact Int.le_refl _
 | succ k ih=>show lo<=max _ _;omega
theorem jY(r:Nat->Int)(lo:Int){k j:Nat}(h:j<k):r j<=cP r lo k:=by
 induction k with
 | zero=>omega
 | succ k ih=>
   show r j<=max _ _
   rcases Nat.lt_or_ge j k with h1|h1
   ·have:=ih h1;omega
   ·obtain rfl:j=k:=by omega
    omega
theorem qV{r:Nat->Int}{lo M:Int}{k:Nat}(h0:lo<=M)(h:∀j,j<k->r j<=M):cP r lo k<=M:=by
 induction k with
 | zero=>exact h0
 | succ k ih=>
   show max _ _<=M
   have:=ih (λj hj=>h j (by omega))
   have:=h k (by omega)
   omega
theorem qS(r:Nat->Int)(lo:Int)(k:Nat):cP r lo k=lo\/∃j,j<k/\cP r lo k=r j:=by
 induction k with
 | zero=>exact .inl rfl
 | succ k ih=>
   show max _ _=_\/∃j,_/\max _ _=_
   by_cases h:cP r lo k<=r k
   ·exact .inr ⟨k,by omega,by omega⟩
   ·rcases ih with h1 | ⟨j,hj,h1⟩
    ·exact .inl (by omega)
    ·exact .inr ⟨j,by omega,by omega⟩
theorem wQ(r:Nat->Int)(lo:Int){k m:Nat}(h:k<=m):cP r lo k<=cP r lo m:=qV (lI _ _ _) (λj hj=>jY _ _ (by omega))
def eG(a b:Cv)(t:Nat):Int:=cP (dif a b) 0 (t+1)
def fX(a b:Cv)(k:Nat):Int:=cP (λj=>dif a b (aL a b+j)) (-4611686018427387904) k
def fJ(a b:Cv):Nat:=if 0<dG a b then max 400 (aL a b+aI a b) else aL a b+aI a b
def iS(a b:Cv):Nat:=if 0<dG a b then aI a b else 1
def gN(a b:Cv):Int:=if 0<dG a b then dG a b else 0
def lC(a b:Cv):Prop:=0<dG a b/\fX a b (fJ a b+1-aL a b)<cP (dif a b) 0 (aL a b)
section
variable{a b:Cv}
theorem JE(k:Nat):cP (dif a b) 0 (aL a b+k)=max (cP (dif a b) 0 (aL a b)) (fX a b k):=by
 induction k with
 | zero=>
   have:=lI (dif a b) 0 (aL a b)
   show cP (dif a b) 0 (aL a b)=max _ (-4611686018427387904)
   omega
 | succ k ih=>
   show max (cP (dif a b) 0 (aL a b+k)) (dif a b (aL a b+k))=max _ (max (fX a b k) (dif a b (aL a b+k)))
   omega
theorem vH(a b:Cv):eZ (eG a b):=⟨lI _ _ _,λt=>wQ _ _ (by omega)⟩
theorem H6(a b:Cv)(k:Nat):eG a b k=max (cP (dif a b) 0 (min (k+1) (aL a b))) (fX a b (k+1-aL a b)):=by
 by_cases h:k+1<=aL a b
 ·rw [show min (k+1) (aL a b)=k+1 by omega,show k+1-aL a b=0 by omega];have:=lI (dif a b) 0 (k+1)
  show cP (dif a b) 0 (k+1)=max _ (-4611686018427387904)
  omega
 ·rw [show min (k+1) (aL a b)=aL a b by omega];have:=JE (a:=a) (b:=b) (k+1-aL a b)
  rw [show aL a b+(k+1-aL a b)=k+1 by omega] at this;exact this
theorem PE(ha:a.Fin)(hb:b.Fin)(hC:1<=aI a b)(hbad:¬lC a b):aZ (eG a b) (fJ a b) (iS a b) (gN a b):=by
 have P:=H8 ha hb;obtain⟨F,hF⟩:∃F,F=aL a b:=⟨_,rfl⟩
 obtain⟨C,hCe⟩:∃C,C=aI a b:=⟨_,rfl⟩
 obtain⟨D,hD⟩:∃D,D=dG a b:=⟨_,rfl⟩
 rw [<- hF,<- hCe,<- hD] at P;rw [<- hCe] at hC;by_cases hd:0<D
 ·have e1:iS a b=C:=by unfold iS;rw [<- hD,if_pos hd,hCe]
  have e2:gN a b=D:=by unfold gN;rw [<- hD,if_pos hd]
  have e3:fJ a b=max 400 (F+C):=by unfold fJ;rw [<- hD,if_pos hd,<- hF,<- hCe]
  rw [e1,e2,e3];intro t ht;have hm:cP (dif a b) 0 F<=fX a b (max 400 (F+C)+1-F):=by
   rcases Int.lt_or_le (fX a b (max 400 (F+C)+1-F)) (cP (dif a b) 0 F) with h|h
   ·exact absurd ⟨by rw [<- hD];exact hd,by rw [e3,<- hF];exact h⟩ hbad
   ·exact h
  have key:∀u,max 400 (F+C)<=u->∃j,F<=j/\j<=u/\eG a b u=dif a b j:=by
   intro u hu;rcases qS (dif a b) 0 (u+1) with h | ⟨j,hj,h⟩
   ·
    have h1:fX a b (max 400 (F+C)+1-F) = -4611686018427387904\/∃j,j<max 400 (F+C)+1-F/\fX a b (max 400 (F+C)+1-F)=dif a b (aL a b+j):=qS _ _ _;have h2:=lI (dif a b) 0 F;rcases h1 with h1 | ⟨j,hj,h1⟩
    ·omega
    ·refine⟨F+j,by omega,by omega,?_⟩
     have h3:=jY (dif a b) 0 (k:=u+1) (j:=F+j) (by omega);rw [<- hF] at h1;show cP (dif a b) 0 (u+1)=_
     omega
   ·by_cases hj2:F<=j
    ·exact⟨j,hj2,by omega,h⟩
    ·have h1:fX a b (max 400 (F+C)+1-F) = -4611686018427387904\/∃j,j<max 400 (F+C)+1-F/\fX a b (max 400 (F+C)+1-F)=dif a b (aL a b+j):=qS _ _ _;have h2:=lI (dif a b) 0 F;have h4:=jY (dif a b) 0 (k:=F) (j:=j) (by omega);rcases h1 with h1 | ⟨i,hi,h1⟩
     ·omega
     ·refine⟨F+i,by omega,by omega,?_⟩
      have h3:=jY (dif a b) 0 (k:=u+1) (j:=F+i) (by omega);rw [<- hF] at h1;show cP (dif a b) 0 (u+1)=_
      omega
  obtain⟨j,hj1,hj2,hj3⟩:=key t ht;obtain⟨i,hi1,hi2,hi3⟩:=key (t+C) (by omega);have a1:dif a b (j+C)<=eG a b (t+C):=jY _ _ (by omega);rw [P j hj1] at a1;have a2:dif a b i<=eG a b t+D:=by
   by_cases hi4:F+C<=i
   ·have h1:=P (i-C) (by omega);rw [show i-C+C=i by omega] at h1;have h2:dif a b (i-C)<=eG a b t:=jY _ _ (by omega);omega
   ·have h2:dif a b i<=eG a b t:=jY _ _ (by omega);omega
  omega
 ·have e1:iS a b=1:=by unfold iS;rw [<- hD,if_neg hd]
  have e2:gN a b=0:=by unfold gN;rw [<- hD,if_neg hd]
  have e3:fJ a b=F+C:=by unfold fJ;rw [<- hD,if_neg hd,<- hF,<- hCe]
  rw [e1,e2,e3];have low:∀t,dif a b t<=cP (dif a b) 0 (F+C):=by
   intro t
   induction t using Nat.strongRecOn with
   | ind t ih=>
     by_cases ht:t<F+C
     ·exact jY _ _ ht
     ·have h1:=P (t-C) (by omega);rw [show t-C+C=t by omega] at h1;have:=ih (t-C) (by omega)
      omega
  have con:∀t,F+C<=t+1->eG a b t=cP (dif a b) 0 (F+C):=λt ht=>by
   have h1:eG a b t<=cP (dif a b) 0 (F+C):=qV (lI _ _ _) (λj _=>low j);have h2:cP (dif a b) 0 (F+C)<=eG a b t:=wQ _ _ ht;omega
  intro t ht;rw [con t (by omega),con (t+1) (by omega),Int.add_zero]
end
noncomputable def dM(a:Cv)(c:Int)(t:Nat):Int:=if t=0 then 0 else gH a c (t-1)
section
variable{a f:Cv}{c:Int}
theorem mL:dM a c 0=0:=if_pos rfl
theorem jQ(t:Nat):dM a c (t+1)=gH a c t:=by unfold dM;rw [if_neg (by omega),Nat.add_sub_cancel]
theorem DW(hf:f.Ok)(ha:NF f.at a):dM a c=dM f c:=by
 funext t
 unfold dM;rw [FV hf ha]
theorem MW(ha:a.Ok)(h0:0<=c):eZ (dM a c):=by
 have hu:=xT ha h0;refine⟨by rw [mL];exact Int.le_refl _,λt=>?_⟩
 rw [jQ];rcases t with _|t
 ·rw [mL];exact hu.nn 0
 ·rw [jQ];exact hu.le (by omega)
theorem wV(ha:a.Ok)(h0:0<=c){t:Nat}(ht:t<=4000000000):0<=dM a c t/\dM a c t<=4611686018427387904:=by
 rcases t with _|t
 ·rw [mL];omega
 ·rw [jQ];exact CV ha h0 (by omega)
theorem zG(ha:a.Ok)(h0:0<=c){t u:Nat}(ht:t<=4000000000)(h:dM a c t=aG)(htu:t<=u):dM a c u=aG:=by
 rcases t with _|t
 ·rw [mL] at h;unfold aG at h;omega
 ·rcases u with _|u
  ·omega
  ·rw [jQ] at h ⊢;exact(JJ ha h0 (by omega) h (by omega)).2
theorem zS(ha:a.Ok){s:Nat}(h2:a.vals.length-a.per.toNat<=s)(hne:∀j,j<s+1+a.per.toNat->dM a c j≠aG):a.Fin:=
 OL ha h2 (λj hj=>by
  have:=hne (j+1) (by omega)
  rwa [jQ] at this)
theorem DJ(ha:a.Ok)(h0:0<=c)(hi:a.inc=0){r:Cv}{er:Int}(h:eV (dM a c) (a.vals.length-a.per.toNat+1) a.per.toNat a.inc r er):eK (dM a c) r er:=by
 have hn:=ha.n2;have hp:=ha.p2;have hp1:=ha.p1;refine i7 (by omega) (λt u ht htu hx=>zG ha h0 (by omega) hx htu) (λhne=>?_) h;have hf:=zS ha (Nat.le_refl _) hne;intro t ht;have e:=OJ hf hi (c:=c) (Nat.le_refl _) (t-1) (by omega);obtain⟨u,rfl⟩:∃u,t=u+1:=⟨t-1,by omega⟩
 rw [Nat.add_sub_cancel] at e;rw [show u+1+a.per.toNat=(u+a.per.toNat)+1 by omega,jQ,jQ];exact e
theorem BM(ha:a.Ok)(h0:0<=c)(h4:c<=a.at 399){r:Cv}{er:Int}(h:eV (dM a c) 400 a.per.toNat a.inc r er):eK (dM a c) r er:=by
 have hn:=ha.n2;have hp:=ha.p2;have hp1:=ha.p1;have hpn:=ha.pn;have hi:=ha.i1;refine i7 (by omega) (λt u ht htu hx=>zG ha h0 (by omega) hx htu) (λhne=>?_) h;have hf:=zS ha (s:=399) (by omega) (λj hj=>hne j (by omega));intro t ht;obtain⟨u,rfl⟩:∃u,t=u+1:=⟨t-1,by omega⟩
 rw [show u+1+a.per.toNat=(u+a.per.toNat)+1 by omega,jQ,jQ,kQ (hf.not_infAt _),kQ (hf.not_infAt _),hf.toL.step u (by omega)];have:=ha.at_le (show 399<=u by omega)
 omega
def iC(f:Cv)(c:Int)(r:Cv)(er:Int):Prop:=r.vals.length<=400/\(er=0->r.Ok/\∀t,r.at t=dM f c t)
theorem iC.made(ha:a.Ok)(h0:0<=c)(hf:f.Ok)(hn:NF f.at a){r:Cv}{er:Int}(h:eK (dM a c) r er):iC f c r er:=by
 rcases h.get (MW ha h0) with ⟨rfl,h1,h2⟩|⟨rfl,rfl⟩
 ·exact⟨h1.n2,λ_=>⟨h1,λt=>by rw [h2.at,DW hf hn]⟩⟩
 ·exact⟨by decide,λh=>by omega⟩
theorem iC.none_{er:Int}(h:er≠0):iC f c Cv.none er:=⟨by decide,λe=>absurd e h⟩
end
def cG(f g:Cv)(t s:Nat):Prop:=s<=t/\¬f.infAt s/\¬g.infAt (t-s)
def cR(f g:Cv)(lo t S:Nat)(v:Int):Prop:=
 ((∀s,lo<=s->s<S->¬cG f g t s)/\v=aG)\/
 ((∃s,lo<=s/\s<S/\cG f g t s/\v=f.at s+g.at (t-s))/\∀s,lo<=s->s<S->cG f g t s->v<=f.at s+g.at (t-s))
def eL(f g:Cv)(t:Nat)(v:Int):Prop:=cR f g 0 t (t+1) v
def bZ(f g:Cv)(h:Nat->Int):Prop:=∀t,eL f g t (h t)
theorem cR.zero(f g:Cv)(lo t:Nat):cR f g lo t lo aG:=.inl ⟨λs h1 h2=>by omega,rfl⟩
theorem cR.unique{f g:Cv}{lo t S:Nat}{v v':Int}(h:cR f g lo t S v)(k:cR f g lo t S v'):v=v':=by
 rcases h with ⟨h1,rfl⟩|⟨⟨s,h0,h1,h2,h3⟩,h4⟩ <;> rcases k with ⟨k1,rfl⟩|⟨⟨s',k0,k1,k2,k3⟩,k4⟩
 ·rfl
 ·exact absurd k2 (h1 _ k0 k1)
 ·exact absurd h2 (k1 _ h0 h1)
 ·have:=h4 _ k0 k1 k2;have:=k4 _ h0 h1 h2;omega
section
variable{f g:Cv}{lo t S:Nat}{v:Int}
theorem cR.skip(h:cR f g lo t S v)(h1:¬cG f g t S):cR f g lo t (S+1) v:=by
 rcases h with ⟨h2,rfl⟩|⟨⟨s,h0,h2,h3,h4⟩,h5⟩
 ·refine .inl ⟨λs k1 k2=>?_,rfl⟩;rcases Nat.lt_or_ge s S with h|h
  ·exact h2 s k1 h
  ·rw [show s=S by omega];exact h1
 ·refine .inr ⟨⟨s,h0,by omega,h3,h4⟩,λs' k1 k2 k3=>?_⟩;rcases Nat.lt_or_ge s' S with h|h
  ·exact h5 s' k1 h k3
  ·exact absurd (show cG f g t S by rwa [show S=s' by omega]) h1
theorem cR.more(h:cR f g lo t S v)(hl:lo<=S)(h1:cG f g t S)(h2:(∀s,lo<=s->s<S->¬cG f g t s)\/f.at S+g.at (t-S)<=v):cR f g lo t (S+1) (f.at S+g.at (t-S)):=by
 refine .inr ⟨⟨S,hl,by omega,h1,rfl⟩,λs' k1 k2 k3=>?_⟩;rcases Nat.lt_or_ge s' S with h3|h3
 ·rcases h2 with h2|h2
  ·exact absurd k3 (h2 s' k1 h3)
  ·rcases h with ⟨h4,_⟩|⟨_,h4⟩
   ·exact absurd k3 (h4 s' k1 h3)
   ·have:=h4 s' k1 h3 k3;omega
 ·rw [show s'=S by omega];exact Int.le_refl _
theorem cR.keep(h:cR f g lo t S v)(h1:v<=f.at S+g.at (t-S))(h2:f.at S+g.at (t-S)<aG):cR f g lo t (S+1) v:=by
 rcases h with ⟨h3,rfl⟩|⟨⟨s,h0,h3,h4,h5⟩,h6⟩
 ·omega
 ·refine .inr ⟨⟨s,h0,by omega,h4,h5⟩,λs' k1 k2 k3=>?_⟩;rcases Nat.lt_or_ge s' S with h|h
  ·exact h6 s' k1 h k3
  ·rw [show s'=S by omega];exact h1
theorem wL(f g:Cv)(lo t:Nat)(S:Nat)(hS:lo<=S):∃v,cR f g lo t S v:=by
 induction S with
 | zero=>rw [show lo=0 by omega];exact⟨aG,cR.zero f g 0 t⟩
 | succ S ih=>
   rcases Nat.lt_or_ge S lo with h|h
   ·rw [show lo=S+1 by omega];exact⟨aG,cR.zero f g _ t⟩
   ·obtain⟨v,hv⟩:=ih h;by_cases hc:cG f g t S
    ·rcases hv with ⟨h1,h2⟩|⟨h1,h2⟩
     ·exact⟨_,cR.more (.inl ⟨h1,h2⟩) h hc (.inl h1)⟩
     ·rcases (show v<=f.at S+g.at (t-S)\/f.at S+g.at (t-S)<v by omega) with h3|h3
      ·obtain⟨s,k0,k1,k2,k3⟩:=h1;refine⟨v,.inr ⟨⟨s,k0,by omega,k2,k3⟩,λs' m1 m2 m3=>?_⟩⟩
       rcases Nat.lt_or_ge s' S with h|h
       ·exact h2 s' m1 h m3
       ·rw [show s'=S by omega];exact h3
      ·exact⟨_,cR.more (.inr ⟨h1,h2⟩) h hc (.inr (by omega))⟩
    ·exact⟨v,hv.skip hc⟩
theorem cG.symm{s:Nat}(h:cG f g t s):cG g f t (t-s):=⟨by omega,h.2.2,by rw [show t-(t-s)=s by have:=h.1;omega];exact h.2.1⟩
theorem eL.none(h:∀s,¬cG f g t s):eL f g t aG:=.inl ⟨λs _ _=>h s,rfl⟩
theorem eL.cases(h:eL f g t v):((∀s,¬cG f g t s)/\v=aG)\/((∃s,cG f g t s/\v=f.at s+g.at (t-s))/\∀s,cG f g t s->v<=f.at s+g.at (t-s)):=by
 rcases h with ⟨h1,rfl⟩|⟨⟨s,_,h2,h3,h4⟩,h5⟩
 ·exact .inl ⟨λs hs=>h1 s (Nat.zero_le _) (by have:=hs.1;omega) hs,rfl⟩
 ·exact .inr ⟨⟨s,h3,h4⟩,λs' hs=>h5 s' (Nat.zero_le _) (by have:=hs.1;omega) hs⟩
theorem eL.of(h:((∀s,¬cG f g t s)/\v=aG)\/((∃s,cG f g t s/\v=f.at s+g.at (t-s))/\∀s,cG f g t s->v<=f.at s+g.at (t-s))):eL f g t v:=by
 rcases h with ⟨h1,rfl⟩|⟨⟨s,h3,h4⟩,h5⟩
 ·exact eL.none h1
 ·exact .inr ⟨⟨s,Nat.zero_le _,by have:=h3.1;omega,h3,h4⟩,λs' _ _ hs=>h5 s' hs⟩
theorem eL.symm(h:eL f g t v):eL g f t v:=by
 rcases h.cases with ⟨h1,rfl⟩|⟨⟨s,h3,h4⟩,h5⟩
 ·exact eL.none λs hs=>h1 _ hs.symm
 ·refine eL.of (.inr ⟨⟨t-s,h3.symm,?_⟩,λs' hs=>?_⟩)
  ·rw [show t-(t-s)=s by have:=h3.1;omega];omega
  ·have:=h5 _ hs.symm
   rw [show t-(t-s')=s' by have:=hs.1;omega] at this;omega
end
theorem bZ.symm{f g:Cv}{h:Nat->Int}(H:bZ f g h):bZ g f h:=λt=>(H t).symm
theorem bZ.unique{f g:Cv}{h h':Nat->Int}(H:bZ f g h)(K:bZ f g h'):h=h':=funext λt=>(H t).unique (K t)
theorem BG(f g:Cv):∃h,bZ f g h:=
 ⟨λt=>(wL f g 0 t (t+1) (by omega)).choose,λt=>(wL f g 0 t (t+1) (by omega)).choose_spec⟩
theorem bZ.nf{f g a b:Cv}(hf:f.Ok)(hg:g.Ok)(ha:NF f.at a)(hb:NF g.at b){h:Nat->Int}(H:bZ a b h):bZ f g h:=λt=>by
 have e:∀s,cG a b t s↔cG f g t s:=λs=>by unfold cG;rw [ha.inf_iff hf,hb.inf_iff hg]
 refine eL.of ?_;rcases (H t).cases with ⟨h1,h2⟩|⟨⟨s,h3,h4⟩,h5⟩
 ·exact .inl ⟨λs hs=>h1 s ((e s).2 hs),h2⟩
 ·rw [ha.at,hb.at] at h4;refine .inr ⟨⟨s,(e s).1 h3,h4⟩,λs' hs=>?_⟩;have:=h5 s' ((e s').2 hs)
  rwa [ha.at,hb.at] at this
def mH(A B h:Nat->Int):Prop:=∀t,(∃s,s<=t/\h t=A s+B (t-s))/\∀s,s<=t->h t<=A s+B (t-s)
section
variable{A B h:Nat->Int}{sa sb L:Nat}{Ga Gb:Int}
theorem uZ{G:Int}(hA:aZ A sa L G)(hB:aZ B sb L G)(H:mH A B h):aZ h (sa+sb+L) L G:=by
 intro t ht;obtain⟨⟨s,hs,e⟩,hmin⟩:=H t;obtain⟨⟨s',hs',e'⟩,hmin'⟩:=H (t+L);have h1:h (t+L)<=h t+G:=by
  rcases Nat.lt_or_ge s sa with k|k
  ·have k1:=hmin' s (by omega);have k2:=hB (t-s) (by omega);rw [show t-s+L=t+L-s by omega] at k2;omega
  ·have k1:=hmin' (s+L) (by omega);have k2:=hA s k;rw [show t+L-(s+L)=t-s by omega] at k1;omega
 have h2:h t<=h (t+L)-G:=by
  rcases Nat.lt_or_ge s' (sa+L) with k|k
  ·have k1:=hmin s' (by omega);have k2:=hB (t-s') (by omega);rw [show t-s'+L=t+L-s' by omega] at k2;omega
  ·have k1:=hmin (s'-L) (by omega);have k2:=hA (s'-L) (by omega);rw [show s'-L+L=s' by omega] at k2;rw [show t-(s'-L)=t+L-s' by omega] at k1;omega
 omega
def mC(A B:Nat->Int)(sa t:Nat)(v:Int):Prop:=∃s,sa<=s/\s<=t/\v=A s+B (t-s)
theorem xJ(hA:aZ A sa L Ga)(hB:aZ B sb L Gb)(hG:Ga<Gb)(H:mH A B h){t s:Nat}(hs:sa<=s)(hst:s<=t)(e:h t=A s+B (t-s)):t-s<sb+L:=by
 rcases Nat.lt_or_ge (t-s) (sb+L) with k|k
 ·exact k
 ·exfalso
  have k1:=(H t).2 (s+L) (by omega);have k2:=hA s hs;have k3:=hB (t-s-L) (by omega);rw [show t-s-L+L=t-s by omega] at k3;rw [show t-(s+L)=t-s-L by omega] at k1;omega
theorem GE(hA:aZ A sa L Ga)(hB:aZ B sb L Gb)(hG:Ga<Gb)(H:mH A B h){t:Nat}(ht:sa+sb<=t)(h0:mC A B sa t (h t)):mC A B sa (t+L) (h (t+L)):=by
 obtain⟨s,h1,h2,h3⟩:=h0;obtain⟨⟨s',hs',e'⟩,hmin'⟩:=H (t+L);rcases Nat.lt_or_ge s' sa with k|k
 ·exfalso
  have k1:=(H t).2 s' (by omega);have k2:=hB (t-s') (by omega);rw [show t-s'+L=t+L-s' by omega] at k2;have k3:=hmin' (s+L) (by omega);have k4:=hA s h1;rw [show t+L-(s+L)=t-s by omega] at k3;omega
 ·exact⟨s',k,hs',e'⟩
theorem MS(hA:aZ A sa L Ga)(hB:aZ B sb L Gb)(hG:Ga<Gb)(H:mH A B h)(hL:1<=L){T:Nat}(hT:sa+sb<=T)(h0:∀t,T<=t->t<T+L->mC A B sa t (h t))(t:Nat)(ht:T<=t):mC A B sa t (h t):=by
 obtain⟨r,m,hr,rfl⟩:=MT hL ht
 induction m with
 | zero=>rw [Nat.zero_mul,Nat.add_zero];exact h0 _ (by omega) (by omega)
 | succ m ih=>
   have:=GE hA hB hG H (by omega) (ih (by omega))
   rwa [show T+r+m*L+L=T+r+(m+1)*L by rw [Nat.add_mul];omega] at this
theorem vE(hA:aZ A sa L Ga)(hB:aZ B sb L Gb)(hG:Ga<Gb)(H:mH A B h){p:Nat}{i:Int}(hp:aZ A sa p i){T:Nat}(hT:sa+sb+L<=T)(h0:∀t,T<=t->mC A B sa t (h t)):aZ h T p i:=by
 intro t ht;obtain⟨s,h1,h2,h3⟩:=h0 t ht;obtain⟨s',k1,k2,k3⟩:=h0 (t+p) (by omega);have m1:=xJ hA hB hG H k1 k2 k3;have e1:=(H (t+p)).2 (s+p) (by omega);have e2:=hp s h1;rw [show t+p-(s+p)=t-s by omega] at e1;have e3:=(H t).2 (s'-p) (by omega);have e4:=hp (s'-p) (by omega);rw [show s'-p+p=s' by omega] at e4;rw [show t-(s'-p)=t+p-s' by omega] at e3;omega
theorem uN(hA:aZ A sa L Ga)(hB:aZ B sb L Gb)(hG:Ga<Gb)(H:mH A B h){q S:Nat}{b:Int}(hq:1<=q)(hP:aZ h S q b){t0:Nat}(ht0:sa+sb+L<=t0)(hS:S<=t0):mC A B sa t0 (h t0):=by
 have p1:=hA.mul q;have p2:=hB.mul q;have p3:=hP.mul L;rw [Nat.mul_comm L q] at p3;have hqq:(q:Int)*(Ga+1)<=(q:Int)*Gb:=Int.mul_le_mul_of_nonneg_left (by omega) (by omega);rw [Int.mul_add,Int.mul_one] at hqq;generalize (q:Int)*Ga=X at *;generalize (q:Int)*Gb=Y at *;generalize (L:Int)*b=Z at *;generalize hQ:q*L=Q at *;have hXZ:Z<=X:=by
  have key:∀m:Nat,h t0+m*Z<=A t0+B 0+m*X:=λm=>by
   have e1:=p1.mul m t0 (by omega);have e3:=p3.mul m t0 (by omega);have e4:=(H (t0+m*Q)).2 (t0+m*Q) (Nat.le_refl _);rw [Nat.sub_self] at e4;omega
  have k:=key (A t0+B 0-h t0+1).toNat;have k0:=key 0;rw [show((A t0+B 0-h t0+1).toNat:Int)=A t0+B 0-h t0+1 by omega] at k;rcases (show Z<=X\/X<Z by omega) with h'|h'
  ·exact h'
  ·exfalso
   have:(A t0+B 0-h t0+1)*(X+1)<=(A t0+B 0-h t0+1)*Z:=Int.mul_le_mul_of_nonneg_left (by omega) (by omega)
   rw [Int.mul_add,Int.mul_one] at this;omega
 obtain⟨⟨s,hs,e⟩,hmin⟩:=H (t0+Q);have e3:=p3 t0 (by omega);rcases Nat.lt_or_ge s sa with k|k
 ·exfalso
  have k1:=(H t0).2 s (by omega);have k2:=p2 (t0-s) (by omega);rw [show t0-s+Q=t0+Q-s by omega] at k2;omega
 ·have m1:=xJ hA hB hG H k hs e;have k2:=p1 (s-Q) (by omega);rw [show s-Q+Q=s by omega] at k2;have k1:=(H t0).2 (s-Q) (by omega);rw [show t0-(s-Q)=t0+Q-s by omega] at k1;exact⟨s-Q,by omega,by omega,by rw [show t0-(s-Q)=t0+Q-s by omega];omega⟩
end
theorem mM{a b:Cv}(fa:a.Fin)(fb:b.Fin){h:Nat->Int}(H:bZ a b h):mH a.at b.at h:=λt=>by
 have c:∀s,s<=t->cG a b t s:=λs hs=>⟨hs,fa.not_infAt _,fb.not_infAt _⟩
 rcases (H t).cases with ⟨h1,_⟩|⟨⟨s,h3,h4⟩,h5⟩
 ·exact absurd (c 0 (Nat.zero_le _)) (h1 0)
 ·exact⟨⟨s,h3.1,h4⟩,λs' hs=>h5 s' (c s' hs)⟩
section
variable{a b:Cv}{h:Nat->Int}
theorem yE(ha:a.Ok)(hb:b.Ok){t u:Nat}(htu:t<=u)(h:∀s,¬cG a b t s):∀s,¬cG a b u s:=λs ⟨h1,h2,h3⟩=>by
 rcases Nat.lt_or_ge t s with k|k
 ·exact h t ⟨Nat.le_refl _,λe=>h2 (e.later ha (by omega)),λe=>h3 (e.later hb (by omega))⟩
 ·exact h s ⟨k,h2,λe=>h3 (e.later hb (by omega))⟩
theorem uG(ha:a.Ok)(hb:b.Ok){t s:Nat}(ht:t<=2000)(h:cG a b t s):0<=a.at s+b.at (t-s)/\a.at s+b.at (t-s)<=8000000000000:=by
 have bd:∀{c:Cv} (hc:c.Ok) {u:Nat},u<=2000->¬c.infAt u->0<=c.at u/\c.at u<=4000000000000:=λ{c} hc {u} hu hi=>by
  rcases hc.fin_or with fc|ic
  ·have h2:=fc.at_bd u;have:(u:Int)*1073741824<=2000*1073741824:=Int.mul_le_mul_of_nonneg_right (by omega) (by omega)
   omega
  ·have hlt:u<400:=by
    rcases Nat.lt_or_ge u 400 with hh|hh
    ·exact hh
    ·exact absurd ⟨ic,hc.at_inf ic (by have:=hc.n2;omega)⟩ hi
   have:=hc.fin_bd hi hlt
   omega
 have h1:=bd ha (u:=s) (by have:=h.1;omega) h.2.1;have h2:=bd hb (u:=t-s) (by omega) h.2.2;omega
theorem oS(ha:a.Ok)(hb:b.Ok)(H:bZ a b h){t:Nat}(ht:t<=2000):((∀s,¬cG a b t s)/\h t=aG)\/(0<=h t/\h t<=8000000000000):=by
 rcases (H t).cases with h1 | ⟨⟨s,h3,h4⟩,h5⟩
 ·exact .inl h1
 ·have:=uG ha hb ht h3
  exact .inr (by omega)
theorem oP(ha:a.Ok)(hb:b.Ok)(H:bZ a b h){t:Nat}(ht:t<=2000):0<=h t/\h t<=4611686018427387904:=by
 rcases oS ha hb H ht with ⟨_,h1⟩|h1
 ·rw [h1];unfold aG;omega
 ·omega
theorem ED(ha:a.Ok)(hb:b.Ok)(H:bZ a b h){t u:Nat}(ht:t<=2000)(htu:t<=u)(hi:h t=aG):h u=aG:=by
 rcases oS ha hb H ht with ⟨h1,_⟩|h1
 ·exact(H u).unique (eL.none (yE ha hb htu h1))
 ·unfold aG at hi;omega
theorem zQ(ha:a.Ok)(hb:b.Ok)(H:bZ a b h):eZ h:=by
 refine⟨(oP ha hb H (by omega)).1,λt=>?_⟩
 rcases (H t).cases with ⟨h1,h2⟩|⟨⟨s,h3,h4⟩,h5⟩
 ·rw [h2,(H (t+1)).unique (eL.none (yE ha hb (by omega) h1))];exact Int.le_refl _
 ·rcases (H (t+1)).cases with ⟨k1,k2⟩|⟨⟨s',k3,k4⟩,k5⟩
  ·rw [k2];rcases Nat.lt_or_ge t 2000 with k|k
   ·have:=(oP ha hb H (t:=t) (by omega)).2;unfold aG;omega
   ·exfalso
    have n1:=ha.n2;have n2:=hb.n2;by_cases fa:a.Fin
    ·by_cases fb:b.Fin
     ·exact k1 0 ⟨by omega,fa.not_infAt _,fb.not_infAt _⟩
     ·have ib:=hb.fin_or.resolve_left fb;refine k1 (s+1) ⟨by have:=h3.1;omega,fa.not_infAt _,λe=>?_⟩;rw [show t+1-(s+1)=t-s by omega] at e;exact h3.2.2 e
    ·have ia:=ha.fin_or.resolve_left fa;refine k1 s ⟨by have:=h3.1;omega,h3.2.1,λe=>?_⟩;by_cases fb:b.Fin
     ·exact fb.not_infAt _ e
     ·have ib:=hb.fin_or.resolve_left fb;have hs:s<400:=by
       rcases Nat.lt_or_ge s 400 with q|q
       ·exact q
       ·exact absurd ⟨ia,ha.at_inf ia (by omega)⟩ h3.2.1
      exact h3.2.2 ⟨ib,hb.at_inf ib (by omega)⟩
  ·rcases Nat.lt_or_ge t s' with k|k
   ·have e:s'=t+1:=by have:=k3.1;omega
    subst e;have k6:=h5 t ⟨Nat.le_refl _,λe=>k3.2.1 (e.later ha (by omega)),by have:=k3.2.2;rwa [Nat.sub_self] at this ⊢⟩;have k7:=ha.at_mono t;rw [Nat.sub_self] at k4 k6;omega
   ·have k6:=h5 s' ⟨k,k3.2.1,λe=>k3.2.2 (e.later hb (by omega))⟩;have k7:=hb.at_le (show t-s'<=t+1-s' by omega);omega
theorem sZ(fa:a.Fin)(hb:b.Ok)(ib:aB b.vals (b.vals.length-1)=aG)(H:bZ a b h)(hne:h 0≠aG):aZ h (a.vals.length-a.per.toNat+(b.vals.length-b.per.toNat)) a.per.toNat a.inc:=by
 obtain⟨sa,hsa⟩:∃sa,sa=a.vals.length-a.per.toNat:=⟨_,rfl⟩
 obtain⟨sb,hsb⟩:∃sb,sb=b.vals.length-b.per.toNat:=⟨_,rfl⟩
 have hA:=fa.toL.step;rw [<- hsa] at hA ⊢;rw [<- hsb];have far:∀t s,cG a b t s->t-s<sb:=λt s hs=>by
  rcases Nat.lt_or_ge (t-s) sb with k|k
  ·exact k
  ·exact absurd (hb.infAt_start ib (by omega)) hs.2.2
 have hb0:¬b.infAt 0:=by
  rcases (H 0).cases with ⟨_,h2⟩|⟨⟨s,h3,_⟩,_⟩
  ·exact absurd h2 hne
  ·have:=h3.2.2;rwa [Nat.zero_sub] at this
 have val:∀t,(∃s,cG a b t s/\h t=a.at s+b.at (t-s))/\∀s,cG a b t s->h t<=a.at s+b.at (t-s):=λt=>by
  rcases (H t).cases with ⟨h1,_⟩|h1
  ·exact absurd ⟨Nat.le_refl _,fa.not_infAt _,by rw [Nat.sub_self];exact hb0⟩ (h1 t)
  ·exact h1
 intro t ht;obtain⟨⟨s,h1,h2⟩,h3⟩:=val t;obtain⟨⟨s',k1,k2⟩,k3⟩:=val (t+a.per.toNat);have f1:=far _ _ h1;have f2:=far _ _ k1;have g1:=h1.1;have g2:=k1.1;have e1:=k3 (s+a.per.toNat) ⟨by omega,fa.not_infAt _,by rw [show t+a.per.toNat-(s+a.per.toNat)=t-s by omega];exact h1.2.2⟩;have e2:=hA s (by omega);rw [show t+a.per.toNat-(s+a.per.toNat)=t-s by omega] at e1;have e3:=h3 (s'-a.per.toNat) ⟨by omega,fa.not_infAt _,by rw [show t-(s'-a.per.toNat)=t+a.per.toNat-s' by omega];exact k1.2.2⟩;have e4:=hA (s'-a.per.toNat) (by omega);rw [show s'-a.per.toNat+a.per.toNat=s' by omega] at e4;rw [show t-(s'-a.per.toNat)=t+a.per.toNat-s' by omega] at e3;omega
end
def iQ(a b r:Cv)(er:Int):Prop:=∃h,bZ a b h/\eA h r er
theorem iQ.unique{a b r r':Cv}{e e':Int}(H:iQ a b r e)(K:iQ a b r' e'):r=r'/\e=e':=by
 obtain⟨h,h1,h2⟩:=H;obtain⟨k,k1,k2⟩:=K;obtain rfl:=h1.unique k1;exact h2.unique k2
def fL:Cv->Cv->Cv->Int->Prop:=lU iQ
theorem fL.unique{f g r r':Cv}{e e':Int}(h:fL f g r e)(k:fL f g r' e'):r=r'/\e=e':=lU.unique (S:=iQ) (λh k=>iQ.unique h k) h k
section
variable{a b r:Cv}{er:Int}{h:Nat->Int}
theorem qE(ha:a.Ok)(hb:b.Ok)(H:bZ a b h){s p:Nat}{i:Int}(hp:1<=p)(hsp:s+p<=2000)(hper:(∀j,j<s+p->h j≠aG)->aZ h s p i)(hS:eV h s p i r er):eA h r er:=
 (i7 hp (λt u ht htu hi=>ED ha hb H (by omega) htu hi) hper hS).toL
theorem AU(ha:a.Ok)(hb:b.Ok)(ia:aB a.vals (a.vals.length-1)=aG)(ib:aB b.vals (b.vals.length-1)=aG)(H:bZ a b h){s p:Nat}{i:Int}(hp:1<=p)(hsp:s+p<=2000)
 (hs:a.vals.length-a.per.toNat+(b.vals.length-b.per.toNat)<=s) (hS:eV h s p i r er):eA h r er:=by
 refine qE ha hb H hp hsp (λhne=>absurd ?_ (hne s (by omega))) hS;refine(H s).unique (eL.none λu hu=>?_);rcases Nat.lt_or_ge u (a.vals.length-a.per.toNat) with k|k
 ·exact hu.2.2 (hb.infAt_start ib (by omega))
 ·exact hu.2.1 (ha.infAt_start ia k)
theorem GS(fa:a.Fin)(hb:b.Ok)(ib:aB b.vals (b.vals.length-1)=aG)(H:bZ a b h){s:Nat}(hsp:s+a.per.toNat<=2000)
 (hs:a.vals.length-a.per.toNat+(b.vals.length-b.per.toNat)<=s) (hS:eV h s a.per.toNat a.inc r er):eA h r er:=
 qE fa.1 hb H (by have:=fa.1.p1;omega) hsp (λhne=>(sZ fa hb ib H (hne 0 (by have:=fa.1.p1;omega))).mono hs) hS
theorem wH(ha:a.Ok)(hb:b.Ok)(ib:aB b.vals (b.vals.length-1)=aG):aI a b=a.per.toNat/\bR a b=a.inc:=by
 have h1:=(hb.last ib).1;have hp:=ha.p1;have e:aI a b=a.per.toNat:=by
  unfold aI a9;rw [h1,show(1:Int).toNat=1 from rfl,Nat.gcd_one_right,Nat.div_one,Nat.mul_one]
 refine⟨e,?_⟩
 unfold bR;rw [e,Nat.div_self (by omega)];simp
theorem C9(fa:a.Fin)(fb:b.Fin)(hG:bR a b=cH a b)(H:bZ a b h){s:Nat}(hsp:s+aI a b<=2000)
 (hs:a.vals.length-a.per.toNat+(b.vals.length-b.per.toNat)+aI a b<=s) (hS:eV h s (aI a b) (bR a b) r er):eA h r er:=by
 have hp:=fa.1.p1;have hq:=fb.1.p1;refine qE fa.1 fb.1 H (gZ fa.1 fb.1).c1 hsp (λ_=>?_) hS;have h2:=nF fa.1 fb (s:=b.vals.length-b.per.toNat) (Nat.le_refl _);rw [<- hG] at h2;exact(uZ (l4 fa fb.1 (Nat.le_refl _)) h2 (mM fa fb H)).mono hs
theorem IV(fa:a.Fin)(fb:b.Fin)(hG:bR a b<cH a b)(H:bZ a b h){s:Nat}(hsp:s+a.per.toNat<=2000)
 (hs:a.vals.length-a.per.toNat+(b.vals.length-b.per.toNat)+aI a b<=s) (hat:∀t,s<=t->t<s+aI a b->cR a b (a.vals.length-a.per.toNat) t (t+1) (h t)) (hS:eV h s a.per.toNat a.inc r er):eA h r er:=by
 have hp:=fa.1.p1;have hq:=fb.1.p1;refine qE fa.1 fb.1 H (by omega) hsp (λ_=>?_) hS;have hA:=l4 fa fb.1 (s:=a.vals.length-a.per.toNat) (Nat.le_refl _);have hB:=nF fa.1 fb (s:=b.vals.length-b.per.toNat) (Nat.le_refl _);have HC:=mM fa fb H;refine vE hA hB hG HC fa.toL.step hs (MS hA hB hG HC (gZ fa.1 fb.1).c1 (by omega) (λt h1 h2=>?_));rcases hat t h1 h2 with ⟨h3,_⟩|⟨⟨u,h3,h4,h5,h6⟩,_⟩
 ·exact absurd ⟨Nat.le_refl _,fa.not_infAt _,fb.not_infAt _⟩ (h3 t (by omega) (by omega))
 ·exact⟨u,h3,h5.1,h6⟩
theorem MA(fa:a.Fin)(fb:b.Fin)(hG:bR a b<cH a b)(H:bZ a b h){t:Nat}{v:Int}(h4:400<=t)(h5:t<=2000)
 (hs:a.vals.length-a.per.toNat+(b.vals.length-b.per.toNat)+aI a b<=t) (hv:cR a b (a.vals.length-a.per.toNat) t (t+1) v) (hlt:h t<v):eA h Cv.none 3:=by
 refine eA.none_ λg hg hl=>?_
 have hA:=l4 fa fb.1 (s:=a.vals.length-a.per.toNat) (Nat.le_refl _);have hB:=nF fa.1 fb (s:=b.vals.length-b.per.toNat) (Nat.le_refl _);have HC:=mM fa fb H;have hne:h 400≠aG:=by
  rcases oS fa.1 fb.1 H (t:=400) (by omega) with ⟨k,_⟩|k
  ·exact absurd ⟨Nat.le_refl _,fa.not_infAt _,fb.not_infAt _⟩ (k 400)
  ·unfold aG;omega
 obtain⟨q,G,hq,hP⟩:=H9 hg hl hne;obtain⟨u,k1,k2,k3⟩:=uN hA hB hG HC hq hP hs h4;rcases hv with ⟨h6,_⟩|⟨_,h6⟩
 ·exact h6 u k1 (by omega) ⟨k2,fa.not_infAt _,fb.not_infAt _⟩
 ·have:=h6 u k1 (by omega) ⟨k2,fa.not_infAt _,fb.not_infAt _⟩
  omega
end
section
theorem zX{p:Nat->Prop}:∀n,p n->∃m,m<=n/\p m/\∀k,k<m->¬p k
 | 0,h=>⟨0,Nat.le_refl _,h,λk hk=>by omega⟩
 | n+1,h=>by
   by_cases e:∃k,k<=n/\p k
   ·obtain⟨k,hk,hp⟩:=e;obtain⟨m,h1,h2⟩:=zX k hp;exact⟨m,by omega,h2⟩
   ·exact⟨n+1,Nat.le_refl _,h,λk hk hp=>e ⟨k,by omega,hp⟩⟩
open Classical in
noncomputable def oJ(p:Nat->Prop):Nat:=if h:∃n,p n/\∀k,k<n->¬p k then Classical.choose h else 0
theorem KG{p:Nat->Prop}{N:Nat}(hN:p N)(hm:∀a b,a<=b->p a->p b)(y:Nat):p y↔oJ p<=y:=by
 obtain⟨m,_,h1,h2⟩:=zX N hN;have hx:∃n,p n/\∀k,k<n->¬p k:=⟨m,h1,h2⟩
 have hs:=Classical.choose_spec hx;have e:oJ p=Classical.choose hx:=by unfold oJ;rw [dif_pos hx]
 rw [<- e] at hs;constructor
 ·intro h;rcases Nat.lt_or_ge y (oJ p) with g|g
  ·exact absurd h (hs.2 y g)
  ·exact g
 ·intro h;exact hm _ _ h hs.1
def AA(a b c z y:Int):Int:=y+a*((y+b) / c+1)+z
noncomputable def dV(C a b c z:Int)(t:Nat):Nat:=oJ (λy=>C*t<=AA a b c z y)
section
variable{C a b c z:Int}
theorem xF(ha:0<=a)(hc:1<=c){x y:Int}(h:x<=y):AA a b c z x<=AA a b c z y:=by
 unfold AA;have h1:(x+b) / c<=(y+b) / c:=Int.ediv_le_ediv (by omega) (by omega);have h2:a*((x+b) / c+1)<=a*((y+b) / c+1):=Int.mul_le_mul_of_nonneg_left (by omega) ha;omega
theorem xE(ha:0<=a)(hb:0<=b)(hc:1<=c)(hz:0<=z){y:Int}(hy:0<=y):y<=AA a b c z y:=by
 unfold AA;have h1:0<=(y+b) / c:=Int.ediv_nonneg (by omega) (by omega);have h2:=Int.mul_nonneg ha (show 0<=(y+b) / c+1 by omega);omega
theorem lM(hC:0<=C)(ha:0<=a)(hb:0<=b)(hc:1<=c)(hz:0<=z)(t y:Nat):C*t<=AA a b c z y↔dV C a b c z t<=y:=by
 have h0:0<=C*t:=Int.mul_nonneg hC (by omega);refine KG (p:=λy=>C*t<=AA a b c z y) (N:=(C*t).toNat) ?_ (λx y h k=>Int.le_trans k (xF ha hc (by omega))) y;have:=xE (y:=C*t) ha hb hc hz h0
 show C*t<=AA a b c z ((C*t).toNat:Int)
 rw [Int.toNat_of_nonneg h0];exact this
theorem yK(hC:0<=C)(ha:0<=a)(hb:0<=b)(hc:1<=c)(hz:0<=z)(t:Nat):(dV C a b c z t:Int)<=C*t:=by
 have h0:0<=C*t:=Int.mul_nonneg hC (by omega);have:=(lM hC ha hb hc hz t (C*t).toNat).1 (by rw [Int.toNat_of_nonneg h0];exact xE ha hb hc hz h0)
 omega
theorem rJ(hC:0<=C)(ha:0<=a)(hb:0<=b)(hc:1<=c)(hz:0<=z){t:Nat}{y:Int}(hy:0<=y)(h:C*t<=AA a b c z y):(dV C a b c z t:Int)<=y:=by
 obtain⟨y,rfl⟩:=Int.eq_ofNat_of_zero_le hy;have:=(lM hC ha hb hc hz t y).1 h
 omega
theorem xG(hC:0<=C)(ha:0<=a)(hb:0<=b)(hc:1<=c)(hz:0<=z):eZ (λt=>(dV C a b c z t:Int)):=by
 refine⟨by simp,λt=>?_⟩
 have h1:=(lM hC ha hb hc hz (t+1) (dV C a b c z (t+1))).2 (Nat.le_refl _);rw [show C*((t+1:Nat):Int)=C*t+C by rw [Int.natCast_add,Int.mul_add];simp] at h1;have:=(lM hC ha hb hc hz t (dV C a b c z (t+1))).1 (by omega)
 show(dV C a b c z t:Int)<=dV C a b c z (t+1)
 omega
theorem yH(hc:1<=c)(y k:Int):AA a b c z (y+k*c)=AA a b c z y+k*(a+c):=by
 unfold AA;rw [show y+k*c+b=y+b+k*c by omega,Int.add_mul_ediv_right _ _ (by omega),Int.mul_add k,show(y+b) / c+k+1=(y+b) / c+1+k by omega,Int.mul_add a ((y+b) / c+1) k,Int.mul_comm k a];omega
theorem yU(hC:0<=C)(ha:0<=a)(hb:0<=b)(hc:1<=c)(hz:0<=z){st P:Nat}{k:Int}(hk:0<=k)(hP:C*P=k*(a+c))(hst:AA a b c z (-1)<C*st):aZ (λt=>(dV C a b c z t:Int)) st P (k*c):=by
 intro t ht;show(dV C a b c z (t+P):Int)=dV C a b c z t+k*c
 have hkc:0<=k*c:=Int.mul_nonneg hk (by omega);have e:C*((t+P:Nat):Int)=C*t+k*(a+c):=by rw [Int.natCast_add,Int.mul_add,hP]
 have hct:C*st<=C*t:=Int.mul_le_mul_of_nonneg_left (by omega) hC;have up:(dV C a b c z (t+P):Int)<=dV C a b c z t+k*c:=by
  refine rJ hC ha hb hc hz (by omega) ?_;rw [e,yH hc];have:=(lM hC ha hb hc hz t (dV C a b c z t)).2 (Nat.le_refl _)
  omega
 have lo:dV C a b c z t+k*c<=(dV C a b c z (t+P):Int):=by
  have h1:=(lM hC ha hb hc hz (t+P) (dV C a b c z (t+P))).2 (Nat.le_refl _);rw [e] at h1;rw [show((dV C a b c z (t+P):Nat):Int)=(dV C a b c z (t+P):Int)-k*c+k*c by omega,yH hc] at h1;rcases Int.lt_or_le ((dV C a b c z (t+P):Int)-k*c) 0 with g|g
  ·exfalso
   have:=xF (b:=b) (z:=z) ha hc (show(dV C a b c z (t+P):Int)-k*c<=-1 by omega)
   omega
  ·have:=rJ (t:=t) hC ha hb hc hz g (by omega)
   omega
 omega
end
def dT(P:Cv->Prop)(f:Cv)(er:Int):Prop:=f.vals.length<=400/\(er=0->f.Fin/\P f)
theorem dT.made{h:Nat->Int}{P:Cv->Prop}{f:Cv}{er:Int}(m:eK h f er)(H:eZ h)(hn:∀t,t<=400->h t≠aG)(hP:∀f:Cv,f.Ok->(∀t,f.at t=h t)->P f):dT P f er:=by
 rcases m.get H with ⟨rfl,h1,h2⟩|⟨rfl,rfl⟩
 ·refine⟨h1.n2,λ_=>⟨⟨h1,?_⟩,hP f h1 h2.at⟩⟩
  have n1:=h1.n1;have n2:=h1.n2;rw [<- Cv.at_lt (by omega),h2.at];exact hn _ (by omega)
 ·exact⟨by decide,λh=>by omega⟩
theorem dT.none{P:Cv->Prop}{er:Int}(h:er≠0):dT P Cv.none er:=⟨by decide,λe=>absurd e h⟩
end
theorem EN{a b:Cv}(ha:a.Ok)(hb:b.Ok):aL a b+aI a b<=14800:=by
 have a1:=ha.p1;have a2:=ha.p2;have a3:=ha.n2;have b1:=hb.p1;have b2:=hb.p2;have b3:=hb.n2;have h:=(jO (p:=a.per.toNat) (q:=b.per.toNat) (by omega) (by omega)).2.2.2.1;have h2:a.per.toNat*b.per.toNat<=120*120:=Nat.mul_le_mul (by omega) (by omega);unfold aL aI;omega
theorem dE.at_lt{a b:Cv}(ha:a.Ok)(hb:b.Ok){v A:Nat}(h:dE a b false v A):A<=14800:=by
 have hl:¬mD a b:=λhl=>by
  have:=(dE.unique hb (vB ha hl) h).1
  cases this
 have hb1:=EN ha hb;rcases h with ⟨h,_⟩|⟨_,_,h0,h1⟩
 ·cases h
 ·rcases Nat.eq_zero_or_pos v with e|e
  ·rw [h0 e];omega
  ·obtain⟨u,rfl⟩:∃u,v=u+1:=⟨v-1,by omega⟩
   have h2:=h1 u rfl;rcases Nat.lt_or_ge A (aL a b+aI a b) with h3|h3
   ·omega
   ·exfalso
    have hc:=(jO (p:=a.per.toNat) (q:=b.per.toNat) (by have:=ha.p1;omega) (by have:=hb.p1;omega)).2.2.1;obtain⟨r,rfl⟩:∃r,A=r+aI a b:=⟨A-aI a b,by omega⟩
    have h4:=(h2.2 r (by unfold aI;omega)).step ha hb hl (by omega) (by omega);rw [show r+u+aI a b=r+aI a b+u by omega] at h4;exact h2.1 h4
theorem dE.small{f g:Cv}(ff:f.Fin)(fg:g.Fin){v A:Nat}(h:dE f g false v A):(v:Int)<=4000000000000000:=by
 have hA:=h.at_lt ff.1 fg.1;have hp1:=fg.1.p1;have hp2:=fg.1.p2;have hpn:=fg.1.pn;have hn2:=fg.1.n2;rcases h with ⟨h,_⟩|⟨_,hd,h0,h1⟩
 ·cases h
 ·rcases Nat.eq_zero_or_pos v with e|e
  ·omega
  ·obtain⟨u,rfl⟩:∃u,v=u+1:=⟨v-1,by omega⟩
   have h3:g.at (A+u)<f.at A:=by
    rcases Int.lt_or_le (g.at (A+u)) (f.at A) with h'|h'
    ·exact h'
    ·exact absurd (.inr ⟨ff.not_infAt _,h'⟩) (h1 u rfl).1
   have h4:f.at A<=g.at (A+u+1):=by
    rcases hd A with h'|h'
    ·exact absurd h' (fg.not_infAt _)
    ·exact h'.2
   have hb:=ff.at_bd A;by_cases hi:g.inc=0
   ·rcases Nat.lt_or_ge (A+u) g.vals.length with h5|h5
    ·omega
    ·exfalso
     have h6:=fg.toL.step (A+u) (by omega);have h7:=fg.1.at_le (show A+u+1<=A+u+g.per.toNat by omega);omega
   ·have hi1:=fg.1.i1;have e1:=fg.toL.step.mul (f.at A).toNat (g.vals.length-1) (by omega);have h5:((f.at A).toNat:Int)*1<=((f.at A).toNat:Int)*g.inc:=Int.mul_le_mul_of_nonneg_left (by omega) (by omega);have h6:=fg.1.up0.nn (g.vals.length-1);rcases Nat.lt_or_ge (A+u) (g.vals.length-1+(f.at A).toNat*g.per.toNat) with h7|h7
    ·have h8:(f.at A).toNat*g.per.toNat<=(f.at A).toNat*120:=Nat.mul_le_mul_left _ (by omega);omega
    ·have h9:=fg.1.at_le h7;omega
theorem pV{h:Nat->Int}{r:Cv}{er:Int}(m:eA h r er)(H:eZ h){s p:Nat}{i:Int}(hp:1<=p)(P:aZ h s p i)(hsp:s+p<=400)(hp2:p<=120)(hv:∀t,t<s+p->h t<=1073741824)(hi:i<=1073741824) :
 er=0/\r.Ok/\NF h r/\r.Fin:=by
 obtain⟨g,hg,h1,h2⟩:=tX hp P (λt ht=>by have:=hv t ht;unfold aG;omega);have gp1:=hg.p1;have gpn:=hg.pn;have hinc:g.inc<=1073741824:=by
  have h3:=hg.per (g.vals.length-g.per.toNat) (Nat.le_refl _);rw [show g.vals.length-g.per.toNat+g.per.toNat=g.vals.length by omega] at h3;have h4:=H.nn (g.vals.length-g.per.toNat);by_cases e:g.vals.length<s+p
  ·have:=hv _ e;omega
  ·have h5:=P s (Nat.le_refl _);have h6:=H.le (show s<=g.vals.length-g.per.toNat by omega);rw [show g.vals.length=s+p by omega] at h3 h6;omega
 have hl:jU g:=⟨by omega,λk hk=>(iL _).2 (.inr (by rw [hg.vals k hk];exact hv k (by omega))),by omega,hinc⟩
 obtain⟨rfl,rfl⟩:=m.is (.inl hg) hl;have ok:=nV (.inl hg) H hl;have hn:=ok.n1;exact⟨rfl,ok,.inl hg,ok,by rw [hg.vals _ (by omega)];exact hg.fin _ (by omega)⟩
end Go.Proofs.YtaejfleahamapaaGreat
