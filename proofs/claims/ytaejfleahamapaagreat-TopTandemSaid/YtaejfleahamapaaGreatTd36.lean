/- . -/
import Derived.Test.YtaejfleahamapaaGreatTd21
import Derived.Test.YtaejfleahamapaaGreatTd35
namespace Go.Proofs.YtaejfleahamapaaGreat
set_option linter.unusedVariables false
set_option linter.unusedSimpArgs false
open Go.RowKit
def nV(ps:List PK)(done:List Int)(c:Nat)(i:Bool)(v er:Int):Prop:=
 er=0->i=false->(0<=v/\v<=4000000000000000)/\∀(j:Nat) (x:PK),ps[j]?=some x->x.fl=c->x.tm+v<200->0<=aB done j/\aB done j<=x.tm+v
section
variable{cap:Int}{ps:List PK}{done:List Int}{sent:List (List Int)}{c:Nat}{al f:Cv}{i:Bool}{v A er:Int}
theorem wD{σ:Type}{Ch:RS σ->Int->σ->Prop}{sg0:σ}{s:RS σ}(hv:aM ps)(hfl:∀x∈ps,x.fl<2)(hc:1<=cap)(hg:dY ps Ch)(hm:aQ cap 2 ps 200 Ch sg0 s)(ht:s.t=200)(hs:i8 f.at c ps (s.row c) s.t)(hal:al.Fin)(ha:eE al c ps)(hf:f.Fin)
 (hd:jW (dB al f) al f i v A er):nV ps s.done c i v er:=by
 intro he hi;have hi2:=hm.inv (cls:=2) hv hfl hc hg;rcases hd with ⟨hb,_⟩|⟨_,hfo,_,_,d,A',rfl,rfl,h⟩
 ·rcases hb with ⟨_,h⟩|⟨_,_,h,_⟩ <;> omega
 ·rcases id h with ⟨h,_⟩|⟨_,hD,_⟩
  ·rw [hi] at h;cases h
  ·refine⟨⟨by omega,by rw [hi] at h;exact h.small hal hf⟩,fun j x hx hxf hk=>?_⟩
   have hgd:=hv.good x (List.mem_of_getElem? hx);unfold PK.Good at hgd;obtain⟨a,hxa⟩:=Int.eq_ofNat_of_zero_le hgd.2.2.1;rw [hxa] at hk ⊢;refine a3o hv hi2 (α:=al.at) (β:=f.at) (c:=c) (d:=d) (N:=s.t) (by unfold RS.cur;split <;> omega) hs ha (fun u _=>?_) (fun n=>hfo.up0.nn n) hx hxf hxa (by omega);rcases hD u with h | ⟨_,h⟩
   ·exact absurd h (hf.not_infAt _)
   ·exact h
def uI:List SZ:=[⟨5,20⟩,⟨5,20⟩]
theorem nV.err(h:er≠0):nV ps done c i v er:=fun he=>absurd he h
variable(hv:aM ps)(hfl:∀x∈ps,x.fl<2)(hsz:∀x∈ps,5<=x.sz/\x.sz<=20)(hc:1<=cap)(hc2:c<2)(hal:al.Fin)(ha:eE al c ps)
include hv hfl hsz hc hc2 hal ha
end
theorem q8{cap:Int}{o r:Cv}(h0:0<=cap)(h1:cap<=1073741824)(ho:o.Fin)(h:lB (aS cap) o r 0):r.Fin/\∀n:Nat,r.at n<=0\/∃u:Nat,u<=n/\r.at n<=cap*u-o.at u:=by
 obtain⟨a,b,ha,hb,fa,fb,⟨_,_,h⟩|⟨_,⟨_,_,h⟩|⟨_,h⟩⟩⟩:=h
 ·omega
 ·omega
 ·have ea:∀t:Nat,a.at t=cap*t:=fun t=>by rw [ha.at,sX h0 h1]
  have eb:∀t,b.at t=o.at t:=fun t=>hb.at t
  have key:∀n:Nat,eH a b n<=0\/∃u:Nat,u<=n/\eH a b n<=cap*u-o.at u:=fun n=>by
   rcases rB (dif a b) 0 (n+1) with e | ⟨j,hj,e⟩
   ·exact .inl (by show cP _ _ _<=0;omega)
   ·refine .inr ⟨j,by omega,?_⟩;show cP _ _ _<=_
    rw [e];unfold dif;rw [ea,eb];exact Int.le_refl _
  rcases h.get (yI a b) with ⟨_,h2,h3⟩|⟨h2,_⟩
  ·refine⟨sL h3 h2 (fun t ht=>?_),fun n=>by rw [h3.at];exact key n⟩
   have hn:=(yI a b).nn t;intro e;have hi:aG=4611686018427387904:=rfl;rcases key t with g | ⟨u,hu,g⟩
   ·omega
   ·have:=(ho.at_bd u).1
    have:cap*(u:Int)<=1073741824*400:=Int.mul_le_mul h1 (by omega) (by omega) (by omega)
    omega
  ·omega
section
variable{cap:Int}{ps:List PK}{done:List Int}{sent:List (List Int)}{c:Nat}{al f0 f1:Cv}{i:Bool}{v A er:Int}
variable(hv:aM ps)(hfl:∀x∈ps,x.fl<2)(hsz:∀x∈ps,5<=x.sz/\x.sz<=20)(hc:1<=cap)(hcm:cap<=4000)(o0:f0.Fin)(o1:f1.Fin)(a0:eE f0 (0:Nat) ps)(a1:eE f1 (1:Nat) ps)
include hv hfl hc hcm o0 o1 a0 a1
omit o1 a1 in
theorem qE(hsz:∀x∈ps,5<=x.sz/\x.sz<=20)(hc2:c<2)(hal:al.Fin)(ha:eE al c ps)(hr:dN cap 2 ps 200 (gL 2 ps) () done sent)(hd:mP (i5 cap c [f0,f1] uI) al i v A er):nV ps done c i v er:=by
 obtain⟨s,hm,hoff,ht,rfl,rfl⟩:=hr;obtain⟨f,e,⟨o,e1,hT,h⟩,hd⟩:=hd;by_cases he:e=0
 ·subst he;obtain⟨_,hd⟩:_/\_:=hd.resolve_left (fun h=>h.1 rfl);rcases h with ⟨h,_,h'⟩|⟨rfl,o2,e2,hR,⟨h,_,h'⟩|⟨rfl,hS⟩⟩
  ·exact absurd h'.symm h
  ·exact absurd h'.symm h
  ·rcases (show c=0\/c=1 by omega) with rfl|rfl
   ·obtain⟨rfl,_⟩:o=dO/\_:=hT;have hb:l7 uI 0=19:=by decide
    rw [hb] at hR;obtain⟨r1,r2,r3⟩:=pC l8 (by omega) (by omega) hR;obtain⟨hf,hs⟩:=q8 (by omega) (by omega) r1 hS;refine wD hv hfl hc (j9 hv) hm ht ?_ hal ha hf hd;refine yA hv hfl hc (M:=20) (fun x hx _=>(hsz x hx).2) (by omega) (fun n=>?_) hm;rcases hs n with g | ⟨u,hu,g⟩
    ·exact .inl g
    ·rcases Nat.eq_zero_or_pos u with rfl|hp
     ·rw [r2] at g;exact .inl (by simpa using g)
     ·rw [r3 u hp,oI] at g;exact .inr ⟨u,hu,by omega⟩
   ·obtain⟨t1,hat⟩:=rK l8 (fun f hf=>by
     have hf:f∈[f0]:=hf;rw [List.mem_singleton] at hf;subst hf;exact o0) hT
    have hb:l7 uI 1=0:=by decide
    rw [hb] at hR;obtain⟨r1,r2,r3⟩:=pC t1 (by omega) (by omega) hR;obtain⟨hf,hs⟩:=q8 (by omega) (by omega) r1 hS;refine wD hv hfl hc (j9 hv) hm ht ?_ hal ha hf hd;refine Z8 hv hfl hc (j9 hv) (fun c hc=>tJ hc) (α:=f0.at) a0 (fun n=>?_) hm;rcases hs n with g | ⟨u,hu,g⟩
    ·exact .inl g
    ·rcases Nat.eq_zero_or_pos u with rfl|hp
     ·rw [r2] at g;exact .inl (by simpa using g)
     ·rw [r3 u hp,hat,oI] at g;have e:pD (List.take 1 [f0,f1]) u=f0.at u:=by show(f0.at u+0)=_;omega
      rw [e] at g;exact .inr ⟨u,hu,by omega⟩
 ·rcases hd with ⟨_,_,_,_,rfl⟩|⟨h,_⟩
  ·exact nV.err he
  ·exact absurd h he
end
end Go.Proofs.YtaejfleahamapaaGreat
