/- . -/
import Derived.Test.YtaejfleahamapaaGreatTd17
import Derived.Test.YtaejfleahamapaaGreatTd41
import Derived.Test.YtaejfleahamapaaGreatTd30
import Derived.Test.YtaejfleahamapaaGreatTd45
namespace Go.Proofs.YtaejfleahamapaaGreat
set_option linter.unusedVariables false
set_option linter.unusedSimpArgs false
def iS(t:Nat):Int:=if t=0 then 0 else 30
theorem zT:aM eB:=by
 refine⟨by decide,fun x hx=>?_,fun k j x y h hx hy=>?_⟩
 ·simp [eB] at hx
  rw [hx];unfold PK.Good;decide
 ·have h1:=List.mem_of_getElem? hx;have h2:=List.mem_of_getElem? hy;simp [eB] at h1 h2
  rw [h1,h2];exact Int.le_refl _
theorem Z4{zs:List Int}(h:mN 0 eB zs)(t:Nat):aB zs (min t (endN eB))=iS t:=by
 have eN:endN eB=1:=by decide
 have a0:aV 0 eB 0=0:=by decide
 have a1:aV 0 eB 1=30:=by decide
 have ht:∀x∈eB,x.tm=0:=by intro x hx;simp [eB] at hx;rw [hx]
 rw [eN];unfold iS;by_cases h0:t=0
 ·subst h0;rw [if_pos rfl];rcases h.att 0 (by omega) with e | ⟨x,hx,u,h1,h2,h3,h4⟩
  ·exact e
  ·have e1:=ht x hx;have:u=0:=by omega
   subst this;rw [show min 0 1=0 from rfl,h4,e1];omega
 ·rw [if_neg h0,show min t 1=1 by omega];have hc:=h.covers ⟨0,0,15⟩ 1 (by simp [eB]) (by show(0:Int)<=1;omega) (by rw [eN];decide);have e2:(1-(0:Int)).toNat=1:=rfl;simp only [a1,a0,e2] at hc;rcases h.att 1 (by omega) with e | ⟨x,hx,u,h1,h2,h3,h4⟩
  ·omega
  ·have e1:=ht x hx;rw [eN] at h2;rw [e1] at h1 h4;rcases (show u=0\/u=1 by omega) with e|e <;> subst e
   ·rw [a0] at h4;omega
   ·rw [a1,a0] at h4;omega
theorem a5c:eZ iS:=⟨by decide,fun t=>by unfold iS;split <;> split <;> omega⟩
theorem M6{f:Cv}{er:Int}(h:dH 0 eB f er):er=0/\f.Fin/\∀t,f.at t=iS t:=by
 obtain⟨zs,h1,h2⟩:=h;have m:=(h2.congr (h':=iS) (fun t=>Z4 h1 t)).toL;obtain⟨e,_,n,fi⟩:=qQ (s:=1) (p:=1) (i:=0) m a5c (by omega) (fun t ht=>by unfold iS;rw [if_neg (by omega),if_neg (by omega)];omega) (by omega) (by omega) (fun t ht=>by unfold iS;split <;> omega) (by omega);exact⟨e,fi,n.at⟩
theorem a2d{o r:Cv}{er:Int}(ho:o.Ok)(hz:∀t,o.at t=0)(h:lB (aS 10) o r er):er=0/\r.Fin/\∀t:Nat,r.at t=10*t:=by
 obtain⟨a,b,ha,hb,fa,fb,h⟩:=h;have ea:a=dL 10:=ha.unique (qP (by omega) (by omega));have eb:b=⟨[0],1,0⟩:=a0s hb (fun t=>by rw [hb.at];exact hz t);subst ea eb;have hC:aI (dL 10) ⟨[0],1,0⟩=1:=by decide
 have hF:aL (dL 10) ⟨[0],1,0⟩=0:=by decide
 have hD:dif (dL 10) ⟨[0],1,0⟩=fun t:Nat=>10*(t:Int):=funext fun t=>by
  unfold dif;rw [nG (by omega) (by omega),show(⟨[0],1,0⟩:Cv).at t=0 from pH.at t];omega
 have hR:∀t:Nat,eH (dL 10) ⟨[0],1,0⟩ t=10*t:=fun t=>by
  unfold eH;rw [hD];refine Int.le_antisymm (rC (by omega) (fun j hj=>by omega)) ?_;exact kC (fun t:Nat=>10*(t:Int)) 0 (show t<t+1 by omega)
 have hnb:¬lE (dL 10) ⟨[0],1,0⟩:=by
  rintro⟨_,h2⟩;rw [hF] at h2;have h3:=kC (fun j=>dif (dL 10) ⟨[0],1,0⟩ (0+j)) (-4611686018427387904) (show 0<fM (dL 10) ⟨[0],1,0⟩+1-0 by omega);have h4:fY (dL 10) ⟨[0],1,0⟩ (fM (dL 10) ⟨[0],1,0⟩+1-0)=cP (fun j=>dif (dL 10) ⟨[0],1,0⟩ (0+j)) (-4611686018427387904) (fM (dL 10) ⟨[0],1,0⟩+1-0):=by
   unfold fY;rw [hF]
  rw [h4] at h2;have h5:cP (dif (dL 10) ⟨[0],1,0⟩) 0 0=0:=rfl;have h6:dif (dL 10) ⟨[0],1,0⟩ (0+0)=0:=by rw [hD];rfl
  rw [h6] at h3;omega
 rcases h with ⟨h,_⟩|⟨_,⟨h,_⟩|⟨_,h⟩⟩
 ·omega
 ·exact absurd h hnb
 ·have m:=(h.congr (h':=fun t:Nat=>10*(t:Int)) hR).toL;obtain⟨e,_,n,fi⟩:=qQ (s:=0) (p:=1) (i:=10) m ⟨by decide,fun t=>by omega⟩ (by omega) (fun t ht=>by omega) (by omega) (by omega) (fun t ht=>by omega) (by omega);exact⟨e,fi,n.at⟩
theorem a1g{f g:Cv}{er:Int}(h:i5 10 0 [f] [⟨15,15⟩] g er):er=0/\g.Fin/\∀t:Nat,g.at t=10*t:=by
 obtain⟨o,e,h1,h⟩:=h;obtain⟨rfl,rfl⟩:o=dO/\e=0:=h1;rcases h with ⟨h,_⟩|⟨_,o2,e2,h2,h⟩
 ·exact absurd rfl h
 have hb:l7 [⟨15,15⟩] 0=0:=rfl;rw [hb] at h2;have zf:=l8;have hv:∀t,dQ dO 0 t=0:=fun t=>by
  rcases Nat.eq_zero_or_pos t with e|e
  ·subst e;exact lS
  ·rw [jT e (zf.not_infAt t),oI];rfl
 obtain⟨e3,ok,n,_⟩:=qQ (s:=0) (p:=1) (i:=0) (jZ.made zf.1 (by omega) (by omega) h2) ⟨by rw [hv];omega,fun t=>by rw [hv,hv];omega⟩ (by omega) (fun t ht=>by rw [hv,hv];rfl) (by omega) (by omega) (fun t ht=>by rw [hv];omega) (by omega);rcases h with ⟨h,_⟩|⟨_,h⟩
 ·exact absurd e3 h
 ·exact a2d ok (fun t=>by rw [n.at,hv]) h
theorem xN{h:Nat->Int}{a:Cv}{s:Nat}{i:Int}(ha:NF h a)(P:aY h s 1 i)(hn:∀t,t<s+1->h t≠aG):a.per=1:=by
 obtain⟨g,hg,_,h2⟩:=sZ (by omega) P hn;obtain rfl:=ha.unique (.inl hg);have:=hg.p1
 omega
theorem P7{f:Cv}{i:Bool}{v A er:Int}(hf:f.Fin)(hv:∀t,f.at t=iS t)(h:mP (i5 10 0 [f] [⟨15,15⟩]) f i v A er):er=0/\v=2:=by
 obtain⟨g,e,hp,h⟩:=h;obtain⟨rfl,gf,gv⟩:=a1g hp;rcases h with ⟨h,_⟩|⟨_,h⟩
 ·exact absurd rfl h
 rcases h with ⟨h,_⟩|⟨_,_,_,rfl,v',A',rfl,rfl,h⟩
 ·refine absurd ?_ (h.not hf.1 gf.1);obtain⟨a,ha⟩:=hf.1.nf;obtain⟨b,hb⟩:=gf.1.nf;have a1:a.per=1:=xN (s:=1) (i:=0) ha (fun t ht=>by rw [hv,hv];unfold iS;rw [if_neg (by omega),if_neg (by omega)];omega) (fun t _=>by rw [hv];unfold iS aG;split <;> omega);have b1:b.per=1:=xN (s:=0) (i:=10) hb (fun t ht=>by rw [gv,gv];omega) (fun t ht=>by rw [gv];unfold aG;omega);refine⟨a,b,ha,hb,?_⟩
  rw [a1,b1];decide
 have le:∀t u,dX f g t u↔iS t<=10*(u:Int):=fun t u=>by
  unfold dX;rw [hv,gv];constructor
  ·rintro (h|h)
   ·exact absurd h (gf.not_infAt u)
   ·exact h.2
  ·exact fun h=>.inr ⟨hf.not_infAt t,h⟩
 have k:dB f g false 2 1:=by
  refine .inr ⟨rfl,fun t=>?_,fun h=>by omega,fun u hu=>⟨fun h=>?_,fun t ht=>?_⟩⟩
  ·rw [le];unfold iS;split <;> omega
  ·rw [le] at h;obtain rfl:u=1:=by omega
   exact absurd h (by decide)
  ·rw [le];obtain rfl:t=0:=by omega
   show(0:Int)<=_
   omega
 obtain⟨_,rfl,_⟩:=h.unique gf.1 k;exact⟨rfl,rfl⟩
theorem a1q{r:Cv}{fr:Int}{cs:List Int}{er:Int}(h:l4 (aS 10) (aS 10) r fr cs er):er=0/\jV (aS 10) (aS 10) r fr cs:=by
 obtain⟨rfl,rfl⟩:=fH.unique h.1 (a0d (r:=10) (q:=10) (by omega) (by omega) (by omega));exact⟨rfl,a1r h⟩
end Go.Proofs.YtaejfleahamapaaGreat
