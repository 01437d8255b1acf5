/- . -/
import Derived.Test.YtaejfleahamapaaGreatTd17
import Derived.Test.YtaejfleahamapaaGreatTd41
import Derived.Test.YtaejfleahamapaaGreatTd30
import Derived.Test.YtaejfleahamapaaGreatTd45
namespace Go.Proofs.YtaejfleahamapaaGreat
set_option linter.unusedVariables false
set_option linter.unusedSimpArgs false
def iU(t:Nat):Int:=if t=0 then 0 else 30
theorem yB:aM dZ:=by
 refine⟨by decide,λx hx=>?_,λk j x y h hx hy=>?_⟩
 ·simp [dZ] at hx
  rw [hx];unfold PK.Good;decide
 ·have h1:=List.mem_of_getElem? hx;have h2:=List.mem_of_getElem? hy;simp [dZ] at h1 h2
  rw [h1,h2];exact Int.le_refl _
theorem IY{zs:List Int}(h:mP 0 dZ zs)(t:Nat):aB zs (min t (endN dZ))=iU t:=by
 have eN:endN dZ=1:=by decide
 have a0:aV 0 dZ 0=0:=by decide
 have a1:aV 0 dZ 1=30:=by decide
 have ht:∀x∈dZ,x.tm=0:=by intro x hx;simp [dZ] at hx;rw [hx]
 rw [eN];unfold iU;by_cases h0:t=0
 ·subst h0;rw [if_pos rfl];rcases h.att 0 (by omega) with e | ⟨x,hx,u,h1,h2,h3,h4⟩
  ·exact e
  ·have e1:=ht x hx;have:u=0:=by omega
   subst this;rw [show min 0 1=0 from rfl,h4,e1];omega
 ·rw [if_neg h0,show min t 1=1 by omega];have hc:=h.covers ⟨0,0,15⟩ 1 (by simp [dZ]) (by show(0:Int)<=1;omega) (by rw [eN];decide);have e2:(1-(0:Int)).toNat=1:=rfl;simp only [a1,a0,e2] at hc;rcases h.att 1 (by omega) with e | ⟨x,hx,u,h1,h2,h3,h4⟩
  ·omega
  ·have e1:=ht x hx;rw [eN] at h2;rw [e1] at h1 h4;rcases (show u=0\/u=1 by omega) with e|e <;> subst e
   ·rw [a0] at h4;omega
   ·rw [a1,a0] at h4;omega
theorem IF:eZ iU:=⟨by decide,λt=>by unfold iU;split <;> split <;> omega⟩
theorem EP{f:Cv}{er:Int}(h:dL 0 dZ f er):er=0/\f.Fin/\∀t,f.at t=iU t:=by
 obtain⟨zs,h1,h2⟩:=h;have m:=(h2.congr (h':=iU) (λt=>IY h1 t)).toL;obtain⟨e,_,n,fi⟩:=pV (s:=1) (p:=1) (i:=0) m IF (by omega) (λt ht=>by unfold iU;rw [if_neg (by omega),if_neg (by omega)];omega) (by omega) (by omega) (λt ht=>by unfold iU;split <;> omega) (by omega);exact⟨e,fi,n.at⟩
theorem EK{o r:Cv}{er:Int}(ho:o.Ok)(hz:∀t,o.at t=0)(h:lL (aS 10) o r er):er=0/\r.Fin/\∀t:Nat,r.at t=10*t:=by
 obtain⟨a,b,ha,hb,fa,fb,h⟩:=h;have ea:a=dI 10:=ha.unique (rG (by omega) (by omega));have eb:b=⟨[0],1,0⟩:=GW hb (λt=>by rw [hb.at];exact hz t);subst ea eb;have hC:aI (dI 10) ⟨[0],1,0⟩=1:=by decide
 have hF:aL (dI 10) ⟨[0],1,0⟩=0:=by decide
 have hD:dif (dI 10) ⟨[0],1,0⟩=λt:Nat=>10*(t:Int):=funext λt=>by
  unfold dif;rw [mW (by omega) (by omega),show(⟨[0],1,0⟩:Cv).at t=0 from oI.at t];omega
 have hR:∀t:Nat,eG (dI 10) ⟨[0],1,0⟩ t=10*t:=λt=>by
  unfold eG;rw [hD];refine Int.le_antisymm (qV (by omega) (λj hj=>by omega)) ?_;exact jY (λt:Nat=>10*(t:Int)) 0 (show t<t+1 by omega)
 have hnb:¬lC (dI 10) ⟨[0],1,0⟩:=by
  rintro⟨_,h2⟩;rw [hF] at h2;have h3:=jY (λj=>dif (dI 10) ⟨[0],1,0⟩ (0+j)) (-4611686018427387904) (show 0<fJ (dI 10) ⟨[0],1,0⟩+1-0 by omega);have h4:fX (dI 10) ⟨[0],1,0⟩ (fJ (dI 10) ⟨[0],1,0⟩+1-0)=cP (λj=>dif (dI 10) ⟨[0],1,0⟩ (0+j)) (-4611686018427387904) (fJ (dI 10) ⟨[0],1,0⟩+1-0):=by
   unfold fX;rw [hF]
  rw [h4] at h2;have h5:cP (dif (dI 10) ⟨[0],1,0⟩) 0 0=0:=rfl;have h6:dif (dI 10) ⟨[0],1,0⟩ (0+0)=0:=by rw [hD];rfl
  rw [h6] at h3;omega
 rcases h with ⟨h,_⟩|⟨_,⟨h,_⟩|⟨_,h⟩⟩
 ·omega
 ·exact absurd h hnb
 ·have m:=(h.congr (h':=λt:Nat=>10*(t:Int)) hR).toL;obtain⟨e,_,n,fi⟩:=pV (s:=0) (p:=1) (i:=10) m ⟨by decide,λt=>by omega⟩ (by omega) (λt ht=>by omega) (by omega) (by omega) (λt ht=>by omega) (by omega);exact⟨e,fi,n.at⟩
theorem BN{f g:Cv}{er:Int}(h:iZ 10 0 [f] [⟨15,15⟩] g er):er=0/\g.Fin/\∀t:Nat,g.at t=10*t:=by
 obtain⟨o,e,h1,h⟩:=h;obtain⟨rfl,rfl⟩:o=dP/\e=0:=h1;rcases h with ⟨h,_⟩|⟨_,o2,e2,h2,h⟩
 ·exact absurd rfl h
 have hb:mE [⟨15,15⟩] 0=0:=rfl;rw [hb] at h2;have zf:=lW;have hv:∀t,dR dP 0 t=0:=λt=>by
  rcases Nat.eq_zero_or_pos t with e|e
  ·subst e;exact lS
  ·rw [jI e (zf.not_infAt t),nQ];rfl
 obtain⟨e3,ok,n,_⟩:=pV (s:=0) (p:=1) (i:=0) (j0.made zf.1 (by omega) (by omega) h2) ⟨by rw [hv];omega,λt=>by rw [hv,hv];omega⟩ (by omega) (λt ht=>by rw [hv,hv];rfl) (by omega) (by omega) (λt ht=>by rw [hv];omega) (by omega);rcases h with ⟨h,_⟩|⟨_,h⟩
 ·exact absurd e3 h
 ·exact EK ok (λt=>by rw [n.at,hv]) h
theorem xA{h:Nat->Int}{a:Cv}{s:Nat}{i:Int}(ha:NF h a)(P:aZ h s 1 i)(hn:∀t,t<s+1->h t≠aG):a.per=1:=by
 obtain⟨g,hg,_,h2⟩:=tX (by omega) P hn;obtain rfl:=ha.unique (.inl hg);have:=hg.p1
 omega
theorem PH{f:Cv}{i:Bool}{v A er:Int}(hf:f.Fin)(hv:∀t,f.at t=iU t)(h:mJ (iZ 10 0 [f] [⟨15,15⟩]) f i v A er):er=0/\v=2:=by
 obtain⟨g,e,hp,h⟩:=h;obtain⟨rfl,gf,gv⟩:=BN hp;rcases h with ⟨h,_⟩|⟨_,h⟩
 ·exact absurd rfl h
 rcases h with ⟨h,_⟩|⟨_,_,_,rfl,v',A',rfl,rfl,h⟩
 ·refine absurd ?_ (h.not hf.1 gf.1);obtain⟨a,ha⟩:=hf.1.nf;obtain⟨b,hb⟩:=gf.1.nf;have a1:a.per=1:=xA (s:=1) (i:=0) ha (λt ht=>by rw [hv,hv];unfold iU;rw [if_neg (by omega),if_neg (by omega)];omega) (λt _=>by rw [hv];unfold iU aG;split <;> omega);have b1:b.per=1:=xA (s:=0) (i:=10) hb (λt ht=>by rw [gv,gv];omega) (λt ht=>by rw [gv];unfold aG;omega);refine⟨a,b,ha,hb,?_⟩
  rw [a1,b1];decide
 have le:∀t u,dX f g t u↔iU t<=10*(u:Int):=λt u=>by
  unfold dX;rw [hv,gv];constructor
  ·rintro (h|h)
   ·exact absurd h (gf.not_infAt u)
   ·exact h.2
  ·exact λh=>.inr ⟨hf.not_infAt t,h⟩
 have k:dE f g false 2 1:=by
  refine .inr ⟨rfl,λt=>?_,λh=>by omega,λu hu=>⟨λh=>?_,λt ht=>?_⟩⟩
  ·rw [le];unfold iU;split <;> omega
  ·rw [le] at h;obtain rfl:u=1:=by omega
   exact absurd h (by decide)
  ·rw [le];obtain rfl:t=0:=by omega
   show(0:Int)<=_
   omega
 obtain⟨_,rfl,_⟩:=h.unique gf.1 k;exact⟨rfl,rfl⟩
theorem M8{r:Cv}{fr:Int}{cs:List Int}{er:Int}(h:l6 (aS 10) (aS 10) r fr cs er):er=0/\jV (aS 10) (aS 10) r fr cs:=by
 obtain⟨rfl,rfl⟩:=fL.unique h.1 (NZ (r:=10) (q:=10) (by omega) (by omega) (by omega));exact⟨rfl,DE h⟩
end Go.Proofs.YtaejfleahamapaaGreat
