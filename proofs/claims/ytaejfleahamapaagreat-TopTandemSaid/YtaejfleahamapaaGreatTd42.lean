/- . -/
import Derived.Test.YtaejfleahamapaaGreatTd28
import Derived.Test.YtaejfleahamapaaGreatTd36
import Derived.Test.YtaejfleahamapaaGreatTd40
import Derived.Test.YtaejfleahamapaaGreatTd41
namespace Go.Proofs.YtaejfleahamapaaGreat
set_option linter.unusedVariables false
set_option linter.unusedSimpArgs false
set_option maxHeartbeats 2000000
set_option maxRecDepth 100000
open Go.RowKit
theorem pT{c:Int}{ps:List PK}{s t:Int}(h:∀x∈ps,x.tm<s↔x.tm<t):aV c ps s=aV c ps t:=by
 unfold aV eY
 congr 1
 refine List.map_congr_left fun x hx=>?_
 have:=h x (List.mem_filter.1 hx).1
 by_cases e:x.tm<s
 ·rw [if_pos e,if_pos (this.1 e)]
 ·rw [if_neg e,if_neg (fun h=>e (this.2 h))]
theorem xD{a:Int}:∀{ps:List PK},(∃y∈ps,a<=y.tm)->∃x∈ps,a<=x.tm/\∀y∈ps,a<=y.tm->x.tm<=y.tm
 | [],h=>by obtain⟨y,hy,_⟩:=h;cases hy
 | z :: ps,h=>by
   by_cases h2:∃y∈ps,a<=y.tm
   ·obtain⟨x,hx,h3,h4⟩:=xD h2;by_cases hz:a<=z.tm/\z.tm<=x.tm
    ·refine⟨z,List.mem_cons_self ..,hz.1,fun y hy hy2=>?_⟩
     rcases List.mem_cons.1 hy with rfl|hy
     ·exact Int.le_refl _
     ·have:=h4 y hy hy2;omega
    ·refine⟨x,List.mem_cons_of_mem _ hx,h3,fun y hy hy2=>?_⟩
     rcases List.mem_cons.1 hy with rfl|hy
     ·omega
     ·exact h4 y hy hy2
   ·obtain⟨y,hy,hy2⟩:=h;rcases List.mem_cons.1 hy with rfl|hy
    ·refine⟨y,List.mem_cons_self ..,hy2,fun u hu hu2=>?_⟩
     rcases List.mem_cons.1 hu with rfl|hu
     ·exact Int.le_refl _
     ·exact absurd ⟨u,hu,hu2⟩ h2
    ·exact absurd ⟨y,hy,hy2⟩ h2
theorem xL{ps:List PK}(hv:aM ps){x:PK}(hx:x∈ps):x.tm<endN ps:=by
 obtain⟨k,hk⟩:=List.getElem?_of_mem hx;have hl:=(List.getElem?_eq_some_iff.1 hk).1;obtain⟨y,hy⟩:∃y,ps[ps.length-1]?=some y:=⟨_,List.getElem?_eq_getElem (by omega)⟩
 have hg:=hv.good y (List.mem_of_getElem? hy);unfold PK.Good at hg;have h1:=sI (n:=ps.length-1) (by omega) hy hg.2.2.1;have h2:=hv.sorted k (ps.length-1) x y (by omega) hk hy;omega
theorem lM{c:Int}{ps:List PK}{f:Cv}{er:Int}(hv:aM ps)(hE:endN ps<=399)(h:dH c ps f er):er=0/\f.Fin/\eE f c ps:=by
 obtain⟨zs,hl,hm⟩:=h;have up:eZ (fun t=>aB zs (min t (endN ps))):=⟨hl.nn _,fun t=>hl.mono _ _ (by omega) (by omega)⟩
 obtain⟨e,_,n,fi⟩:=qQ (s:=endN ps) (p:=1) (i:=0) hm.toL up (by omega) (fun t ht=>by show aB zs (min (t+1) (endN ps))=aB zs (min t (endN ps))+0;rw [show min (t+1) (endN ps)=min t (endN ps) by omega];omega) (by omega) (by omega) (fun t ht=>by
  show aB zs (min t (endN ps))<=1073741824
  rcases hl.att (min t (endN ps)) (by omega) with h | ⟨x,_,u,_,_,_,h⟩
  ·omega
  ·have:=(lG (fl:=c) (t:=u) hv).2;have:=(lG (fl:=c) (t:=x.tm) hv).1;omega) (by omega)
 refine⟨e,fi,fun a b hab=>?_⟩
 rw [n.at];show _<=aB zs (min (b-a) (endN ps))
 have h0:=hl.nn (min (b-a) (endN ps));by_cases hex:∃y∈ps,(a:Int)<=y.tm
 ·obtain⟨x,hx,h1,h2⟩:=xD hex;have ea:aV c ps a=aV c ps x.tm:=pT (fun y hy=>⟨fun h=>by omega,fun h=>by
   rcases Int.lt_or_le y.tm a with g|g
   ·exact g
   ·have:=h2 y hy g;omega⟩)
  rcases Int.lt_or_le x.tm b with g|g
  ·have hxe:=xL hv hx;have eb:aV c ps b=aV c ps ((min b (endN ps):Nat):Int):=pT (fun y hy=>by have:=xL hv hy;omega);have hc:=hl.covers x ((min b (endN ps):Nat):Int) hx (by omega) (by omega);have hm2:=hl.mono (((min b (endN ps):Nat):Int)-x.tm).toNat (min (b-a) (endN ps)) (by omega) (by omega);rw [ea,eb];omega
  ·have eb:aV c ps b=aV c ps a:=pT (fun y hy=>⟨fun h=>by
    rcases Int.lt_or_le y.tm a with g2|g2
    ·exact g2
    ·have:=h2 y hy g2;omega,fun h=>by omega⟩)
   omega
 ·have eb:aV c ps b=aV c ps a:=pT (fun y hy=>⟨fun h=>by
   rcases Int.lt_or_le y.tm a with g2|g2
   ·exact g2
   ·exact absurd ⟨y,hy,g2⟩ hex,fun h=>by omega⟩)
  omega
def kF(n t:Nat):Int:=if t<=n then 0 else aG
def kW(n:Nat):Cv:=⟨List.replicate (n+1) 0 ++ [aG],1,0⟩
theorem z6(n k:Nat)(hk:k<n+2):aB (kW n).vals k=kF n k:=by
 show aB (List.replicate (n+1) 0 ++ [aG]) k=kF n k
 unfold kF;rw [xP];simp only [List.length_replicate];rcases Nat.lt_or_ge k (n+1) with h|h
 ·rw [if_pos h,if_pos (by omega),tC]
 ·rw [if_neg (by omega),if_neg (by omega),show k-(n+1)=0 by omega];rfl
theorem z5(n:Nat):NF (kF n) (kW n):=by
 have hl:(kW n).vals.length=n+2:=by simp [kW]
 refine .inr ⟨rfl,rfl,by omega,fun t ht=>z6 n t (by omega),fun t ht=>?_,fun t ht=>?_⟩
 ·unfold kF;rw [if_pos (by omega)];decide
 ·unfold kF;rw [if_neg (by omega)]
theorem z7{n:Nat}(hn:n<=398):(kW n).Ok:=by
 have hl:(kW n).vals.length=n+2:=by simp [kW]
 refine oX (z5 n) ⟨by unfold kF;rw [if_pos (Nat.zero_le _)];exact Int.le_refl _,fun t=>?_⟩ ⟨by omega,fun k hk=>(iU _).2 ?_,by show(1:Int)<=120;omega,by show(0:Int)<=1073741824;omega⟩
 ·unfold kF;split <;> split
  ·exact Int.le_refl _
  ·decide
  ·omega
  ·exact Int.le_refl _
 ·rw [z6 n k (by omega)];unfold kF;split
  ·right;omega
  ·left;rfl
def kZ(cap:Int)(ps:List PK)(T:Nat)(f:Cv)(done:List Int):Prop:=
 ∃(σ:Type) (Ch:RS σ->Int->σ->Prop) (sg0:σ) (s:RS σ),dY ps Ch/\aQ cap 2 ps T Ch sg0 s/\s.on=false/\s.t=T/\s.done=done/\i8 f.at (0:Nat) ps (s.row 0) T
structure fC(ps:List PK)(zs:List SZ):Prop where
 z:Z2 zs
 b:∀x∈ps,gF zs x.fl.toNat<=x.sz/\x.sz<=aW zs x.fl.toNat
 e:∀j,j<2->5<=gF zs j\/((∀x∈ps,x.fl≠(j:Int))/\gF zs j=0/\aW zs j=0)
section
variable{cap:Int}{ps:List PK}{T:Nat}{done:List Int}{sent:List (List Int)}{f f0 f1:Cv}{zs:List SZ}{ws tb:List Int}
theorem fC.cls(h:fC ps zs){j:Nat}:∀x∈ps,x.fl=j->gF zs j<=x.sz/\x.sz<=aW zs j:=fun x hx e=>by
 have:=h.b x hx
 rw [e,Int.toNat_natCast] at this;exact this
theorem fC.lo0(h:fC ps zs)(hne:∃x∈ps,x.fl=0):5<=gF zs 0/\5<=aW zs 0:=by
 obtain⟨x,hx,e⟩:=hne;have h1:5<=gF zs 0:=by
  rcases h.e 0 (by omega) with h | ⟨h,_⟩
  ·exact h
  ·exact absurd e (h x hx)
 have:=h.cls (j:=0) x hx e
 omega
variable(hv:aM ps)(hfl:∀x∈ps,x.fl<2)(hc:1<=cap)(hcm:cap<=4000)(hz:fC ps zs)(hne:∃x∈ps,x.fl=0)
include hv hfl hc hz hne
theorem sv3(hl:ws.length=2)(h0:1<=aB ws 0)(h1:1<=aB ws 1)(hr:dN cap 2 ps T (kL ws ps) (0,aB ws 0) done sent)(hS:dS (oE cap (aB ws 0*gF zs 0) (fJ 0 ws zs 2)) f 0):f.Ok/\kZ cap ps T f done:=by
 obtain⟨s,hm,hoff,ht,rfl,rfl⟩:=hr;obtain⟨hf,hp⟩:=hS.2 rfl;have e:fJ 0 ws zs 2=aB ws 1*aW zs 1:=by
  show(0+(if(0:Nat)=0 then 0 else aB ws 0*aW zs 0))+(if(1:Nat)=0 then 0 else aB ws 1*aW zs 1)=_
  simp
 rw [e] at hp;have hlo:=hz.lo0 hne;refine⟨hf.1,_,_,_,s,mE hv,hm,hoff,ht,rfl,?_⟩
 have h:=a2w hv hfl hc (c:=0) (d:=1) (by omega) (by omega) (by omega) hl h0 h1 (L:=gF zs 0) (M:=aW zs 1) (by omega) (hz.z.b 1 (by omega)).1 (fun x hx e=>(hz.cls (j:=0) x hx e).1) (fun x hx e=>(hz.cls (j:=1) x hx e).2) (fun n y hy hq=>hp n y hy hq) hm;rw [ht] at h;exact h
omit hz hne in
theorem vD(h1:∀x∈ps,x.fl≠1){σ:Type}{Ch:RS σ->Int->σ->Prop}{sg0:σ}{s:RS σ}(hg:dY ps Ch)(hw:∀c:Nat,c<2->jI c ps Ch){β:Nat->Int}(hβ:∀n:Nat,β n<=cap*n)(h:aQ cap 2 ps T Ch sg0 s):i8 β (0:Nat) ps (s.row 0) s.t:=by
 intro k hk;obtain⟨t,g1,g2,g3,g4⟩:=uD hv hfl hc hg hw h k hk;refine⟨t,g1,?_⟩
 have e:=g4 (k-t) (by omega);rw [show t+(k-t)=k by omega] at e;have z1:∀u:Int,aV (1:Nat) ps u=0:=fun u=>by
  unfold aV eY;have:aX ((1:Nat):Int) ps = []:=List.filter_eq_nil_iff.2 (fun x hx hq=>by
   have:=h1 x hx
   unfold PK.own at hq;simp at hq;omega)
  rw [this];rfl
 have r1:=h.row_leK (cls:=2) hv hfl hc hg (c:=1) (by omega) k hk;have r1:s.row 1 k<=aV (1:Nat) ps (k:Int):=r1;rw [z1] at r1 e;have:=hβ (k-t)
 omega
theorem sv4(hl:ws.length=2)(h0:1<=aB ws 0)(h1:1<=aB ws 1)(hr:dN cap 2 ps T (kJ ws ps) ([0,0],0,false) done sent)(hS:dS (nX cap (aB ws 0) (aW zs 0) (fK 0 ws zs 2) (fL 0 zs 2)) f 0):f.Ok/\kZ cap ps T f done:=by
 obtain⟨s,hm,hoff,ht,rfl,rfl⟩:=hr;obtain⟨hf,hp⟩:=hS.2 rfl;have hlo:=hz.lo0 hne;refine⟨hf.1,_,_,_,s,kQ hv,hm,hoff,ht,rfl,?_⟩
 have ex:fK 0 ws zs 2=if aW zs 1<1 then 0 else aB ws 1:=by
  show(0+(if(0:Nat)=0\/aW zs 0<1 then 0 else aB ws 0))+(if(1:Nat)=0\/aW zs 1<1 then 0 else aB ws 1)=_
  simp
 have ez:fL 0 zs 2=if aW zs 1<1 then 0 else aW zs 1-1:=by
  show(0+(if(0:Nat)=0\/aW zs 0<1 then 0 else aW zs 0-1))+(if(1:Nat)=0\/aW zs 1<1 then 0 else aW zs 1-1)=_
  simp
 rw [ex,ez] at hp;rw [<- ht];rcases hz.e 1 (by omega) with g | ⟨g,g2,g3⟩
 ·obtain⟨b1,b2,b3⟩:=hz.z.b 1 (by omega);by_cases hi1:aW zs 1<1
  ·refine vD hv hfl hc (fun x hx e=>?_) (kQ hv) (fun c _=>qF hv c) (fun n=>?_) hm
   ·have:=hz.cls (j:=1) x hx e;omega
   ·have hn:=Int.mul_nonneg (show 0<=cap by omega) (show(0:Int)<=n by omega);exact hp n (cap*n) hn (by rw [if_pos hi1,if_pos hi1];omega)
  ·rw [if_neg hi1,if_neg hi1] at hp;exact Q7 hv hfl hc (c:=0) (d:=1) (by omega) (by omega) (by omega) hl h0 h1 (L:=aW zs 0) (M:=aW zs 1) (by omega) (by omega) (fun x hx e=>(hz.cls (j:=0) x hx e).2) (fun x hx e=>(hz.cls (j:=1) x hx e).2) (fun n y hy hq=>hp n y hy (by omega)) hm
 ·have hi1:aW zs 1<1:=by omega
  refine vD hv hfl hc g (kQ hv) (fun c _=>qF hv c) (fun n=>?_) hm;have hn:=Int.mul_nonneg (show 0<=cap by omega) (show(0:Int)<=n by omega);exact hp n (cap*n) hn (by rw [if_pos hi1,if_pos hi1];omega)
theorem sv5(hl:1<=tb.length)(hr:dN cap 2 ps T (gZ cap tb ps) () done sent)(hS:dS (oF cap (max 0 (aW zs 0-1)) tb ((0:Nat):Int)) f 0):f.Ok/\kZ cap ps T f done:=by
 obtain⟨s,hm,hoff,ht,rfl,rfl⟩:=hr;obtain⟨hf,hp⟩:=hS.2 rfl;have hlo:=hz.lo0 hne;rw [show max 0 (aW zs 0-1)=aW zs 0-1 by omega] at hp;refine⟨hf.1,_,_,_,s,rI hv,hm,hoff,ht,rfl,?_⟩
 rw [<- ht];exact a3x hv hfl hc hl (c:=0) (by omega) (L:=aW zs 0) (by omega) (fun x hx e=>(hz.cls (j:=0) x hx e).2) (fun t n htn=>hp t n htn) hm
theorem pF(hcm:cap<=4000)(hr:dN cap 2 ps T (gL 2 ps) () done sent)(hS:i5 cap 0 [f0,f1] zs f 0):f.Ok/\kZ cap ps T f done:=by
 obtain⟨s,hm,hoff,ht,rfl,rfl⟩:=hr;obtain⟨o,e,hT,h⟩:=hS;obtain⟨rfl,rfl⟩:o=dO/\e=0:=hT;rcases h with ⟨h,_⟩|⟨_,o2,e2,hR,⟨h,_,h'⟩|⟨rfl,hS⟩⟩
 ·exact absurd rfl h
 ·exact absurd h'.symm h
 ·obtain⟨z0,z1,rfl⟩:∃a b,zs = [a,b]:=by
   have:=hz.z.len
   match zs,this with
   | [a,b],_=>exact⟨a,b,rfl⟩
  have hb:l7 [z0,z1] 0=max 0 (aW [z0,z1] 1-1):=rfl;rw [hb] at hR;have hb1:=hz.z.b 1 (by omega);generalize hM:aW [z0,z1] 1=M at *;obtain⟨r1,r2,r3⟩:=pC l8 (by omega) (by omega) hR;obtain⟨hf,hs⟩:=q8 (by omega) (by omega) r1 hS;refine⟨hf.1,_,_,_,s,j9 hv,hm,hoff,ht,rfl,?_⟩
  rw [<- ht];refine yA hv hfl hc (M:=max 1 M) (fun x hx e=>?_) (by omega) (fun n=>?_) hm
  ·have:=(hz.cls (j:=1) x hx e).2
   rw [hM] at this;omega
  ·rcases hs n with g | ⟨u,hu,g⟩
   ·exact .inl g
   ·rcases Nat.eq_zero_or_pos u with rfl|hp
    ·rw [r2] at g;exact .inl (by simpa using g)
    ·rw [r3 u hp,oI] at g;exact .inr ⟨u,hu,by omega⟩
end
section
variable{cap:Int}{ps:List PK}{T:Nat}{done:List Int}{sent:List (List Int)}{f0 f1:Cv}
theorem rY{c:Int}(h0:0<=c)(u:Int):∀(ps:List PK),(∀(k j:Nat) (x y:PK),k<=j->ps[k]?=some x->ps[j]?=some y->x.tm<=y.tm)->∃k,k<=ps.length/\aV c ps u=pK c ps k/\∀(i:Nat) (x:PK),i<k->ps[i]?=some x->x.tm<u
 | [],_=>⟨0,Nat.le_refl _,rfl,fun i x h=>by omega⟩
 | x :: ps,hs=>by
   by_cases h:x.tm<u
   ·obtain⟨k,h1,h2,h3⟩:=rY h0 u ps (fun k j a b hkj ha hb=>hs (k+1) (j+1) a b (by omega) (by simpa using ha) (by simpa using hb));refine⟨k+1,by rw [List.length_cons];omega,?_,fun i y hi hy=>?_⟩
    ·rw [o8,<- h2,jN h0];by_cases e:x.fl=c
     ·rw [if_pos ⟨e,h⟩,if_pos e]
     ·rw [if_neg (fun h=>e h.1),if_neg e]
    ·rcases i with _|i
     ·simp at hy;subst hy;exact h
     ·simp at hy;exact h3 i y (by omega) hy
   ·obtain⟨k,h1,h2⟩:=pV h0 u (x :: ps) hs;refine⟨0,Nat.zero_le _,?_,fun i y hi=>by omega⟩
    show aV c (x :: ps) u=0
    unfold aV eY;have:∀y∈aX c (x :: ps),¬y.tm<u:=fun y hy=>by
     have hm:=(List.mem_filter.1 hy).1;obtain⟨j,hj⟩:=List.getElem?_of_mem hm;have:=hs 0 j x y (Nat.zero_le _) rfl hj
     omega
    generalize aX c (x :: ps)=l at this
    induction l with
    | nil=>rfl
    | cons z l ih=>
      rw [List.map_cons,List.sum_cons,if_neg (this z (List.mem_cons_self ..)),ih (fun y hy=>this y (List.mem_cons_of_mem _ hy))]
      rfl
theorem pE(hv:aM ps)(hfl:∀x∈ps,x.fl<2)(hc:1<=cap)(hcm:cap<=4000)(o0:f0.Fin)(o1:f1.Fin)(a0:eE f0 (0:Nat) ps)(a1:eE f1 (1:Nat) ps){v A:Int}(hr:dN cap 2 ps T (jX ps) () done sent)(hd:nQ cap [f0,f1] false v A 0)(hv2:v<=398):0<=v/\kZ cap ps T (kW v.toNat) done:=by
 obtain⟨s,hm,hoff,ht,rfl,rfl⟩:=hr;obtain⟨o,e,hT,⟨h,_,_,_,h'⟩|⟨rfl,hd⟩⟩:=hd
 ·exact absurd h'.symm h
 ·obtain⟨ho,hat⟩:=rK l8 (fun f hf=>by
   rcases List.mem_cons.1 hf with rfl|hf
   ·exact o0
   ·rw [List.mem_singleton] at hf;subst hf;exact o1) hT
  have hl:=qN (c:=cap) (by omega) (by omega);have hi:=hm.inv (cls:=2) hv hfl hc lK;have cur1:s.cur=T:=by rw [RS.cur_off hoff];exact ht
  rcases hd with ⟨hb,_⟩|⟨_,hfo,_,_,d,A',rfl,rfl,h⟩
  ·rcases hb with ⟨_,h⟩|⟨_,_,h,_⟩ <;> omega
  ·rcases h with ⟨h,_⟩|⟨_,hD,_⟩
   ·cases h
   ·refine⟨by omega,_,_,_,s,lK,hm,hoff,ht,rfl,?_⟩
    rw [Int.toNat_natCast];intro k hk;refine⟨k-d,by omega,?_⟩
    rw [(z5 d).at];unfold kF;rw [if_pos (show k-(k-d)<=d by omega)];show aV 0 ps ((k-d:Nat):Int)+0<=s.row 0 k
    have hdone:∀(i:Nat) (x:PK),ps[i]?=some x->x.fl=0->x.tm<((k-d:Nat):Int)->bE 0 ps i<=s.row 0 k:=fun i x hx hx0 hlt=>by
     have hgx:=hv.good x (List.mem_of_getElem? hx);unfold PK.Good at hgx;obtain⟨a,ha⟩:=Int.eq_ofNat_of_zero_le hgx.2.2.1;have hq:=S8 (c:=0) (d:=d) hv hfl hc hm hoff (α:=o.at) (by omega) (fun a b hab=>by
      have e0:=a0 a b hab;have e1:=a1 a b hab;rw [hat,oI];simp only [pD,List.map_cons,List.map_nil,List.sum_cons,List.sum_nil];omega) (fun u _=>by
      rcases hD u with h | ⟨_,h⟩
      ·exact absurd h (hl.not_infAt _)
      ·rwa [sX (by omega) (by omega)] at h) hx hx0 ha (by omega)
     have f:=hi.fw i x 0 hx hx0 hq.1;have up:=nN hv hfl hc lK (c:=0) (by omega) hm (t0:=(aB s.done i).toNat+1) (k:=k) (by omega) (by omega);exact Int.le_trans f up
    obtain⟨j,hj,e,hlt⟩:=rY (Int.le_refl 0) ((k-d:Nat):Int) ps hv.sorted;rw [e,Int.add_zero];have key:∀n,n<=j->pK 0 ps n<=s.row 0 k:=fun n=>by
     induction n with
     | zero=>
       intro _;have z:=hi.z 0 (by omega);have:=nN hv hfl hc lK (c:=0) (by omega) hm (t0:=0) (k:=k) (by omega) (by omega)
       show 0<=s.row 0 k
       omega
     | succ n ih=>
       intro hn;obtain⟨x,hx⟩:∃x,ps[n]?=some x:=⟨_,List.getElem?_eq_getElem (by omega)⟩
       by_cases e0:x.fl=0
       ·have:=hdone n x hx e0 (hlt n x (by omega) hx)
        rwa [lR] at this
       ·have e2:pK 0 ps (n+1)=pK 0 ps n:=by
         rw [pK,hx];show pK 0 ps n+(if x.fl=0 then x.sz else 0)=_
         rw [if_neg e0];omega
        rw [e2];exact ih (by omega)
    exact key j (Nat.le_refl _)
end
structure mJ(ps:List PK)(T:Nat)(done:List Int):Prop where
 d:rP ps done
 lt:∀(i:Nat) (x:PK),ps[i]?=some x->aB done i<T
 ff:∀(i j:Nat) (x y:PK),ps[i]?=some x->ps[j]?=some y->x.fl=0->y.fl=0->i<=j->aB done j≠-1->aB done i<=aB done j
theorem oW{σ:Type}{cap:Int}{ps:List PK}{T:Nat}{Ch:RS σ->Int->σ->Prop}{sg0:σ}{s:RS σ}(hv:aM ps)(hfl:∀x∈ps,x.fl<2)(hc:1<=cap)(hg:dY ps Ch)(hm:aQ cap 2 ps T Ch sg0 s)(hoff:s.on=false)(ht:s.t=T)(hT:T<=1990):mJ ps T s.done:=by
 have hi:=hm.inv (cls:=2) hv hfl hc hg;have cur1:s.cur=T:=by rw [RS.cur_off hoff];exact ht
 have ok:=hm.ok hv hc;have hlt:∀(i:Nat) (x:PK),ps[i]?=some x->aB s.done i<T:=fun i x hx=>by
  rcases hi.dn i x hx with ⟨e,_⟩|⟨_,b,_⟩
  ·omega
  ·omega
 refine⟨⟨ok.ld,fun i x hx=>?_⟩,hlt,fun i j x y hx hy hx0 hy0 hij hd=>(oM hv hi hx hy hx0 hy0 hij hd).2.2⟩
 rcases hi.dn i x hx with ⟨e,_⟩|⟨a,b,_⟩
 ·exact .inl e
 ·refine .inr ⟨?_,by omega⟩;have hgx:=hv.good x (List.mem_of_getElem? hx);have hfx:=hfl x (List.mem_of_getElem? hx);unfold PK.Good at hgx;obtain⟨c,hcx⟩:=Int.eq_ofNat_of_zero_le hgx.1;rcases Int.lt_or_le (aB s.done i) x.tm with g|g
  ·exfalso
   have f:=hi.fw i x c hx hcx a;have r:=hm.row_leK (cls:=2) hv hfl hc hg (c:=c) (by omega) ((aB s.done i).toNat+1) (by omega);obtain⟨j,hj,e,hlt⟩:=rY (c:=(c:Int)) (by omega) (((aB s.done i).toNat+1:Nat):Int) ps hv.sorted;rw [e] at r;have hji:j<=i:=by
    rcases Nat.lt_or_ge i j with h|h
    ·have:=hlt i x h hx;omega
    ·exact h
   have m:=tE (c:=(c:Int)) (gP hv) j (i-j);rw [show j+(i-j)=i by omega] at m;rw [lR,pK,hx] at f;simp only [hcx,if_true] at f;omega
  ·exact g
theorem j0.dn{k cap:Int}{ws tb:List Int}{ps:List PK}{T:Nat}{done:List Int}{sent:List (List Int)}(hv:aM ps)(hfl:∀x∈ps,x.fl<2)(hc:1<=cap)(hT:T<=1990)(h:j0 k cap ws tb ps T done sent):mJ ps T done:=by
 rcases h with ⟨_,s,hm,hoff,ht,rfl,rfl⟩|⟨_,s,hm,hoff,ht,rfl,rfl⟩|⟨_,s,hm,hoff,ht,rfl,rfl⟩|⟨_,s,hm,hoff,ht,rfl,rfl⟩|⟨_,s,hm,hoff,ht,rfl,rfl⟩
 ·exact oW hv hfl hc lK hm hoff ht hT
 ·exact oW hv hfl hc (j9 hv) hm hoff ht hT
 ·exact oW hv hfl hc (mE hv) hm hoff ht hT
 ·exact oW hv hfl hc (kQ hv) hm hoff ht hT
 ·exact oW hv hfl hc (rI hv) hm hoff ht hT
section
variable{ps:List PK}{T:Nat}{done:List Int}
theorem wK(a:AR) : [a].filter (fun a=>a.p.own 0)=if a.p.fl=0 then [a] else []:=by
 by_cases h:a.p.fl=0
 ·rw [if_pos h];have:=(iH a.p).2 h
  simp [List.filter,this]
 ·rw [if_neg h];have:a.p.own 0=false:=by
   cases e:a.p.own 0 with
   | false=>rfl
   | true=>exact absurd ((iH _).1 e) h
  simp [List.filter,this]
theorem U6(k:Nat):bO ps done (k+1)=bO ps done k ++ (match ps[k]? with
 | some x=>if aB done k≠-1/\x.fl=0 then [⟨⟨x.fl,aB done k+1,x.sz⟩,k⟩] else []
 | none=>[]):=by
 unfold bO;rw [cY,List.filter_append]
 congr 1
 cases ps[k]? with
 | none=>rfl
 | some x=>
   simp only
   by_cases h:aB done k = -1
   ·rw [if_pos h,if_neg (fun h2=>h2.1 h)];rfl
   ·rw [if_neg h,wK];by_cases h0:x.fl=0
    ·rw [if_pos h0,if_pos ⟨h,h0⟩]
    ·rw [if_neg h0,if_neg (fun h2=>h0 h2.2)]
theorem mJ.pw(h:mJ ps T done):∀k,(bO ps done k).Pairwise (fun a b=>a.p.tm<=b.p.tm)
 | 0=>by unfold bO cY;exact List.Pairwise.nil
 | k+1=>by
   rw [U6,List.pairwise_append];refine⟨h.pw k,?_,fun a ha b hb=>?_⟩
   ·split
    ·split
     ·exact List.pairwise_singleton _ _
     ·exact List.Pairwise.nil
    ·exact List.Pairwise.nil
   ·split at hb
    ·rename_i y hy
     split at hb
     ·rename_i hc
      rw [List.mem_singleton] at hb;subst hb;obtain⟨i,x,hi,hx,hx0,hd,rfl⟩:=m9 ha;have:=h.ff i k x y hx hy hx0 hc.2 (by omega) hc.1
      show aB done i+1<=aB done k+1
      omega
     ·cases hb
    ·cases hb
def a0(as':List AR):List AR:=as'.filter (fun a=>a.p.own 0)
theorem pS{as':List AR}{i:Nat}{a:AR}(h:as'[i]?=some a):a0 (as'.take (i+1))=a0 (as'.take i) ++ (if a.p.fl=0 then [a] else []):=by
 have hl:i<as'.length:=(List.getElem?_eq_some_iff.1 h).1;have:as'.take (i+1)=as'.take i ++ [a]:=by
  rw [List.take_add_one,h];rfl
 unfold a0;rw [this,List.filter_append,wK]
structure pN(ps:List PK)(done:List Int)(as':List AR):Prop where
 len:as'.length<=ps.length
 g:∀a∈as',0<=a.p.fl/\a.p.fl<2/\0<=a.p.tm/\a.p.tm<=150/\5<=a.p.sz/\a.p.sz<=20
 e:a0 as'=bO ps done ps.length
 pw:(a0 as').Pairwise (fun a b=>a.p.tm<=b.p.tm)
theorem mJ.next{as':List AR}(h:mJ ps 150 done)(hg:∀x∈ps,0<=x.fl/\x.fl<2/\0<=x.tm/\5<=x.sz/\x.sz<=20)(hS:f9 (fun x:AR=>x.p.tm) (cY ps done ps.length) as'):pN ps done as':=by
 have e:a0 as'=bO ps done ps.length:=hS.f _ (h.pw ps.length);refine⟨?_,fun a ha=>?_,e,by rw [e];exact h.pw _⟩
 ·have:=hS.p.length_eq
  have:=sO ps done ps.length
  omega
 ·obtain⟨i,x,hi,hx,hne,rfl⟩:=sP (hS.p.mem_iff.1 ha);have h1:=hg x (List.mem_of_getElem? hx);have h2:=h.lt i x hx;have h3:=(h.d.2 i x hx).resolve_left hne;show 0<=x.fl/\x.fl<2/\0<=aB done i+1/\aB done i+1<=150/\5<=x.sz/\x.sz<=20
  omega
theorem a1s{l:List PK}(h:l.Pairwise (fun a b=>a.tm<=b.tm)):∀(k j:Nat) (x y:PK),k<=j->l[k]?=some x->l[j]?=some y->x.tm<=y.tm:=by
 intro k j x y hkj hx hy;rcases Nat.lt_or_ge k j with g|g
 ·obtain⟨h1,rfl⟩:=List.getElem?_eq_some_iff.1 hx;obtain⟨h2,rfl⟩:=List.getElem?_eq_some_iff.1 hy;exact List.pairwise_iff_getElem.1 h k j h1 h2 g
 ·obtain rfl:k=j:=by omega
  rw [hx] at hy;cases hy;exact Int.le_refl _
structure Sm(q:List PK):Prop where
 len:q.length<=19
 g:∀x∈q,0<=x.fl/\x.fl<2/\0<=x.tm/\x.tm<=150/\5<=x.sz/\x.sz<=20
 so:∀(k j:Nat) (x y:PK),k<=j->q[k]?=some x->q[j]?=some y->x.tm<=y.tm
theorem Sm.v{q:List PK}(h:Sm q):aM q:=⟨by have:=h.len;omega,fun x hx=>by
 have:=h.g x hx
 unfold PK.Good;omega,h.so⟩
theorem Sm.fl{q:List PK}(h:Sm q):∀x∈q,x.fl<2:=fun x hx=>(h.g x hx).2.1
theorem Sm.endN{q:List PK}(h:Sm q):endN q<=399:=by
 unfold Go.Proofs.YtaejfleahamapaaGreat.endN;cases e:q.getLast? with
 | none=>simp
 | some x=>
   have:=h.g x (List.mem_of_getLast? e)
   simp only
   omega
theorem gY.sm{n:Nat}{xs:List PK}(h:gY n xs)(hn:n<=19):Sm xs:=⟨by have:=h.len;omega,fun x hx=>by have:=h.g x hx;omega,h.so⟩
theorem pN.own{as':List AR}(h:pN ps done as')(hp:ps.length<=9):Sm ((a0 as').map AR.p)/\(∀x∈(a0 as').map AR.p,x.fl=0)/\((a0 as').map AR.p).length<=9:=by
 have hl:((a0 as').map AR.p).length<=9:=by
  have h1:(a0 as').length<=as'.length:=List.length_filter_le _ _;have h2:=h.len;rw [List.length_map];omega
 refine⟨⟨by omega,fun x hx=>?_,a1s (List.pairwise_map.2 h.pw)⟩,fun x hx=>?_,hl⟩
 ·obtain⟨a,ha,rfl⟩:=List.mem_map.1 hx;exact h.g a (List.mem_filter.1 ha).1
 ·obtain⟨a,ha,rfl⟩:=List.mem_map.1 hx;exact(iH _).1 (List.mem_filter.1 ha).2
def f1(x:PK):PK:=⟨1,x.tm,x.sz⟩
theorem gY.oth{xs:List PK}(h:gY 6 xs):Sm (xs.map f1)/\∀x∈xs.map f1,x.fl=1:=by
 refine⟨⟨by rw [List.length_map];have:=h.len;omega,fun x hx=>?_,fun k j x y hkj hx hy=>?_⟩,fun x hx=>?_⟩
 ·obtain⟨a,ha,rfl⟩:=List.mem_map.1 hx;have:=h.g a ha
  show(0:Int)<=1/\(1:Int)<2/\0<=a.tm/\a.tm<=150/\5<=a.sz/\a.sz<=20
  omega
 ·rw [List.getElem?_map] at hx hy;obtain⟨a,ha,rfl⟩:=Option.map_eq_some_iff.1 hx;obtain⟨b,hb,rfl⟩:=Option.map_eq_some_iff.1 hy;exact h.so k j a b hkj ha hb
 ·obtain⟨a,ha,rfl⟩:=List.mem_map.1 hx;rfl
theorem a0p{as':List AR}{xs q:List PK}(h:pN ps done as')(hp:ps.length<=9)(hx:gY 6 xs)(hS:f9 PK.tm ((a0 as').map AR.p ++ xs.map f1) q):Sm q/\q.length<=15/\aX 0 q=(bO ps done ps.length).map AR.p:=by
 obtain⟨o1,o2,o3⟩:=h.own hp;obtain⟨p1,p2⟩:=hx.oth;have hlen:=hS.p.length_eq;rw [List.length_append,List.length_map (f:=f1)] at hlen;have h6:=hx.len;have hq:q.length<=15:=by omega
 have ef:((a0 as').map AR.p ++ xs.map f1).filter (PK.own 0)=(a0 as').map AR.p:=by
  rw [List.filter_append,List.filter_eq_self.2 (fun x hx=>(iH x).2 (o2 x hx)),List.filter_eq_nil_iff.2 (fun x hx h0=>by have:=(iH x).1 h0;have:=p2 x hx;omega),List.append_nil]
 refine⟨⟨by omega,fun x hx=>?_,fun k j x y hkj ha hb=>?_⟩,hq,?_⟩
 ·rcases List.mem_append.1 (hS.p.mem_iff.1 hx) with g|g
  ·exact o1.g x g
  ·exact p1.g x g
 ·rcases Nat.lt_or_ge k j with g|g
  ·exact hS.s k j x y g ha hb
  ·obtain rfl:k=j:=by omega
   rw [ha] at hb;cases hb;exact Int.le_refl _
 ·rw [<- h.e];have:=hS.f (PK.own 0) (by rw [ef];exact List.pairwise_map.2 h.pw)
  rw [ef] at this;exact this
end
theorem zV{v:Int}{f:Cv}(h0:0<=v)(hf:f=(fF v).1)(he:0=(fF v).2):v<=398/\f=kW v.toNat:=by
 unfold fF at hf he;rw [if_neg (by omega)] at hf he;by_cases h:398<v
 ·rw [if_pos h] at he;cases he
 ·rw [if_neg h] at hf;exact⟨by omega,hf⟩
theorem zU{v:Int}(he:0=(fF v).2):0<=v/\v<=398:=by
 unfold fF at he;by_cases h:v<0
 ·rw [if_pos h] at he;cases he
 ·rw [if_neg h] at he;by_cases h2:398<v
  ·rw [if_pos h2] at he;cases he
  ·omega
theorem zE{w:World}{B:Nat}{k cap:Int}{AW AS:Option Addr}{nW cW nS cS:Nat}{ws tb:List Int}{ps:List PK}{T:Nat}{done:List Int}{sent:List (List Int)}{f f0 f1:Cv}{zs:List SZ}
 (h:cJ w B k cap AW AS nW cW nS cS ws tb) (hv:aM ps) (hfl:∀x∈ps,x.fl<2) (hz:fC ps zs) (hne:∃x∈ps,x.fl=0) (o0:f0.Fin) (o1:f1.Fin) (a0:eE f0 (0:Nat) ps) (a1:eE f1 (1:Nat) ps)
 (hr:j0 k cap ws tb ps T done sent) (hS:iZ k cap ws tb 0 [f0,f1] zs f 0):f.Ok/\kZ cap ps T f done:=by
 have hc:=h.c1;rcases hr with ⟨rfl,hr⟩|⟨rfl,hr⟩|⟨rfl,hr⟩|⟨rfl,hr⟩|⟨rfl,hr⟩
 ·rcases hS with ⟨_,i,v,A,e,hA,⟨h1,_,h2⟩|⟨_,_,_,h2⟩|⟨rfl,rfl,hf,he⟩⟩|⟨h1,_⟩
  ·exact absurd h2.symm h1
  ·cases h2
  ·have hb:=zU he;have hw:=zV hb.1 hf he;have hs:=pE hv hfl (by omega) (by omega) o0 o1 a0 a1 hr hA hb.2;rw [hw.2];exact⟨z7 (by omega),hs.2⟩
  ·exact absurd rfl h1
 all_goals
  rcases hS with ⟨h1,_⟩|⟨_,hS⟩
  ·omega
 ·rcases hS with ⟨_,hS⟩|⟨h1,_⟩|⟨h1,_⟩|⟨h1,_⟩
  ·exact pF hv hfl (by omega) hz hne (by omega) hr hS
  all_goals omega
 ·obtain⟨_,_,_,⟨a,b,rfl,b1,b2,b3,b4⟩,_⟩:=h.h3 rfl;rcases hS with ⟨h1,_⟩|⟨_,hS⟩|⟨h1,_⟩|⟨h1,_⟩
  ·omega
  ·exact sv3 (ws:=[a,b]) hv hfl (by omega) hz hne rfl (by show 1<=a;omega) (by show 1<=b;omega) hr hS
  all_goals omega
 ·obtain⟨_,_,_,⟨a,b,rfl,b1,b2,b3,b4⟩,_⟩:=h.h4 rfl;rcases hS with ⟨h1,_⟩|⟨h1,_⟩|⟨_,hS⟩|⟨h1,_⟩
  ·omega
  ·omega
  ·exact sv4 (ws:=[a,b]) hv hfl (by omega) hz hne rfl (by show 1<=a;omega) (by show 1<=b;omega) hr hS
  ·omega
 ·obtain⟨_,_,_,⟨q,rfl,_⟩,_⟩:=h.h5 rfl;rcases hS with ⟨h1,_⟩|⟨h1,_⟩|⟨h1,_⟩|⟨_,hS⟩
  ·omega
  ·omega
  ·omega
  ·exact sv5 (tb:=[0,0,1,q]) hv hfl (by omega) hz hne (by show 1<=4;omega) hr hS
theorem a40{cap1 cap2:Int}{ps q:List PK}{done1 done2:List Int}{f g hop both al:Cv}{c:Int}(h1:kZ cap1 ps 150 f done1)(h2:kZ cap2 q 300 g done2)(hv1:aM ps)(hfl1:∀x∈ps,x.fl<2)(hc1:1<=cap1)(hv2:aM q)(hfl2:∀x∈q,x.fl<2)(hc2:1<=cap2)
 (hsel:aX 0 q=(bO ps done1 ps.length).map AR.p) (hfo:f.Ok) (hgo:g.Ok) (hc0:0<=c) (hcs:∀x∈ps,x.fl=0->x.sz<=c+1) (hho:hop.Ok) (hhv:∀t,hop.at t=dP f c t) (hbo:both.Ok) (hcv:bZ hop g both.at)
 (ha:eE al (0:Nat) ps) {V:Nat} (hD:DB al both V) {m n:Nat} {x:PK} {a:AR} {i:Nat} {y:PK} (hx:q[m]?=some x) (hx0:x.fl=0) (hn:n=(aX 0 (q.take m)).length) (han:(bO ps done1 ps.length)[n]?=some a) (hai:a.ix=i) (hy:ps[i]?=some y) (hk:y.tm+V<300) :
 0<=aB done2 m/\aB done2 m-y.tm<=V:=by
 obtain⟨σ,Ch1,sg1,s1,hg1,m1,off1,t1,rfl,pE⟩:=h1;obtain⟨τ,Ch2,sg2,s2,hg2,m2,off2,t2,rfl,pF⟩:=h2;exact a43 hv1 hfl1 hc1 hg1 m1 off1 t1 hv2 hfl2 hc2 hg2 m2 off2 t2 (by omega) hsel pE pF hfo hgo hc0 hcs hho hhv hbo hcv ha hD hx hx0 hn han hai hy (by omega)
theorem M9{f g r:Cv}(H:fH f g r 0):r.Ok/\bZ f g r.at:=by
 rcases H with ⟨_,_,h⟩|⟨hf,hg,a,b,ha,hb,H⟩
 ·cases h
 ·obtain⟨hao,_⟩:=lO hf ha;obtain⟨hbo,_⟩:=lO hg hb;rcases H with ⟨_,_,h⟩|⟨hc,h,h1,h2⟩
  ·cases h
  ·rcases h2.get (wA hao hbo h1) with ⟨_,h3,h4⟩|⟨h3,_⟩
   ·have e:r.at=h:=by funext t;exact h4.at t
    rw [<- e] at h1 h4;exact⟨h3,h1.nf hf hg ha hb⟩
   ·cases h3
theorem Y6{g:Cv}(hg:g.Ok)(h:¬g.Fin):g.infAt (g.vals.length-1):=by
 have e:aB g.vals (g.vals.length-1)=aG:=Classical.byContradiction fun h2=>h ⟨hg,h2⟩
 exact⟨e,by rw [Cv.at_lt (by have:=hg.n1;omega)];exact e⟩
theorem dB.small2{f g:Cv}(ff:f.Fin)(hg:g.Ok){v A:Nat}(h:dB f g false v A):(v:Int)<=4000000000000000:=by
 by_cases fg:g.Fin
 ·exact dB.small ff fg h
 ·have hl:=Y6 hg fg;have hn:=hg.n2;rcases h with ⟨h,_⟩|⟨_,hd,h0,h1⟩
  ·cases h
  ·rcases Nat.eq_zero_or_pos v with e|e
   ·omega
   ·obtain⟨u,rfl⟩:∃u,v=u+1:=⟨v-1,by omega⟩
    rcases Nat.lt_or_ge (A+u) (g.vals.length-1) with h2|h2
    ·omega
    ·exact absurd (.inl (hl.later hg h2)) (h1 u rfl).1
theorem vW{w:World}{B:Nat}{k cap:Int}{AW AS:Option Addr}{nW cW nS cS:Nat}{ws tb:List Int}{f f0 f1:Cv}{zs:List SZ}(h:cJ w B k cap AW AS nW cW nS cS ws tb)(hz:Z2 zs)(hS:iZ k cap ws tb 0 [f0,f1] zs f 0):f.Ok:=by
 have hc:=h.c1;rcases hS with ⟨_,i,v,A,e,hA,⟨h1,_,h2⟩|⟨_,_,_,h2⟩|⟨rfl,rfl,hf,he⟩⟩|⟨_,hS⟩
 ·exact absurd h2.symm h1
 ·cases h2
 ·have hb:=zU he;rw [(zV hb.1 hf he).2];exact z7 (by omega)
 ·rcases hS with ⟨_,hS⟩|⟨_,hS⟩|⟨_,hS⟩|⟨_,hS⟩
  ·obtain⟨o,e,hT,h⟩:=hS;obtain⟨rfl,rfl⟩:o=dO/\e=0:=hT;rcases h with ⟨h,_⟩|⟨_,o2,e2,hR,⟨h,_,h'⟩|⟨rfl,hS⟩⟩
   ·exact absurd rfl h
   ·exact absurd h'.symm h
   ·obtain⟨z0,z1,rfl⟩:∃a b,zs = [a,b]:=by
     have:=hz.len
     match zs,this with
     | [a,b],_=>exact⟨a,b,rfl⟩
    have hb:l7 [z0,z1] 0=max 0 (aW [z0,z1] 1-1):=rfl;rw [hb] at hR;have hb1:=hz.b 1 (by omega);generalize hM:aW [z0,z1] 1=M at *;obtain⟨r1,r2,r3⟩:=pC l8 (by omega) (by omega) hR;exact(q8 (by omega) (by omega) r1 hS).1.1
  ·exact(hS.2 rfl).1.1
  ·exact(hS.2 rfl).1.1
  ·exact(hS.2 rfl).1.1
theorem a41{w w':World}{B B':Nat}{k cap:Int}{AW AS:Option Addr}{nW cW nS cS:Nat}{ws tb:List Int}{k' cap':Int}{AW' AS':Option Addr}{nW' cW' nS' cS':Nat}{ws' tb':List Int}{ps q:List PK}{done1 done2:List Int}{f g hop both X0 X1 Y0 Y1:Cv}{e0 e1 d0 d1 M v A:Int}{zs zq:List SZ}
 (h1:cJ w B k cap AW AS nW cW nS cS ws tb) (h2:cJ w' B' k' cap' AW' AS' nW' cW' nS' cS' ws' tb') (P5:gY 9 ps) (sq:Sm q) (sel:aX 0 q=(bO ps done1 ps.length).map AR.p) (r1:∃sent,j0 k cap ws tb ps 150 done1 sent) (r2:∃sent,j0 k' cap' ws' tb' q 300 done2 sent)
 (a0:dH 0 ps X0 e0) (a1:dH 1 ps X1 e1) (b0:dH 0 q Y0 d0) (b1:dH 1 q Y1 d1) (z1:fC ps zs) (z2:fC q zq) (c1:iZ k cap ws tb 0 [X0,X1] zs f 0) (c2:iZ k' cap' ws' tb' 0 [Y0,Y1] zq g 0)
 (hm:1<=M/\M<=1500/\∀x∈ps,x.fl=0->x.sz<=M) (hh:gX f (M-1) hop 0) (hc:fH hop g both 0) (hD:jW (dB X0 both) X0 both false v A 0) :
 ∃V:Nat,v=V/\(V:Int)<=4000000000000000/\∀(m n:Nat) (x:PK) (a:AR) (i:Nat) (y:PK),q[m]?=some x->x.fl=0->n=(aX 0 (q.take m)).length->(bO ps done1 ps.length)[n]?=some a->a.ix=i->ps[i]?=some y->y.tm+V<300->0<=aB done2 m/\aB done2 m-y.tm<=V:=by
 have sp:=P5.sm (by omega);have hc1:=h1.c1;have hc2:=h2.c1;obtain⟨sent1,r1⟩:=r1;obtain⟨sent2,r2⟩:=r2;obtain⟨_,fa0,va0⟩:=lM sp.v sp.endN a0;obtain⟨_,fa1,va1⟩:=lM sp.v sp.endN a1;obtain⟨_,fb0,vb0⟩:=lM sq.v sq.endN b0;obtain⟨_,fb1,vb1⟩:=lM sq.v sq.endN b1;obtain⟨ho,hv⟩:=hh.2 rfl;obtain⟨bo,bf⟩:=M9 hc;rcases hD with ⟨hb,_⟩|⟨_,_,_,_,V,A',rfl,rfl,hS⟩
 ·rcases hb with ⟨_,h⟩|⟨_,_,h,_⟩ <;> omega
 ·refine⟨V,rfl,hS.small2 fa0 bo,fun m n x a i y hx hx0 hn han hai hy hk=>?_⟩
  have hDB:DB X0 both V:=by
   rcases hS with ⟨h,_⟩|⟨_,h,_⟩
   ·cases h
   ·exact h
  obtain⟨i',x',_,hx',hx0',_⟩:=m9 (List.mem_of_getElem? han);obtain⟨fo,l1⟩:=zE h1 sp.v sp.fl z1 ⟨x',List.mem_of_getElem? hx',hx0'⟩ fa0 fa1 va0 va1 r1 c1;obtain⟨go,l2⟩:=zE h2 sq.v sq.fl z2 ⟨x,List.mem_of_getElem? hx,hx0⟩ fb0 fb1 vb0 vb1 r2 c2;exact a40 l1 l2 sp.v sp.fl (by omega) sq.v sq.fl (by omega) sel fo go (c:=M-1) (by omega) (fun z hz e=>by have:=hm.2.2 z hz e;omega) ho hv bo bf va0 hDB hx hx0 hn han hai hy hk
def uQ(ps:List PK)(w:World)(e:Ending)(w':World):Prop:=
 ∃(X0 X1:CR) (e0 e1:Int) (g:Nat),dH 0 ps X0.f e0/\dH 1 ps X1.f e1/\e = .returned (.slice (some ⟨g,0,none⟩) 2 2)/\cR w' g 0 [X0,X1]/\w.heap.size<=g/\Below w.heap.size w w'
theorem xI(A:Option Addr)(n c:Nat)(ps:List PK)(w:World)(hT:bN w A n c ps)(hv:aM ps) :
 Calls Tryz.prog 32 #[.slice A n c] w (uQ ps w):=by
 have HT:=aA hT;have HV:=aA hv;clear hT hv;go_enter Tryz.func32,Tryz.ntmps32
 go_wp2_with fail
 refine(sC A n c 0 ps w HT.out HV.out (by omega)).mono ?_;rintro e w1 ⟨f0,e0,hS,A5,m5,c5,rfl,hI,hA,hb⟩;have S0:=aA hS;have b1:=aD hb (aF w1 (.cells #[.slice A5 m5 c5,.int .i64 f0.per,.int .i64 f0.inc] 26));have I0:=aA (hI.alloc' (.cells #[.slice A5 m5 c5,.int .i64 f0.per,.int .i64 f0.inc] 26));have B0:=aA (aC.new w1 26 #[.slice A5 m5 c5,.int .i64 f0.per,.int .i64 f0.inc]);have W:=aA b1;replace HT:=aA (HT.out.below b1);clear hS hI hA hb b1;go_upto_region 2 with fail
 generalize hwe:w1.alloc _=w2 at *;clear hwe;generalize w1.heap.size=Z0 at *;go_wp2_with fail
 refine(sC A n c 1 ps w2 HT.out HV.out (by omega)).mono ?_;rintro e w3 ⟨f1,e1,hS,A6,m6,c6,rfl,hI,hA,hb⟩;have S1:=aA hS;have b1:=aD hb (aF w3 (.cells #[.slice A6 m6 c6,.int .i64 f1.per,.int .i64 f1.inc] 26));have I1:=aA (hI.alloc' (.cells #[.slice A6 m6 c6,.int .i64 f1.per,.int .i64 f1.inc] 26));have B1:=aA (aC.new w3 26 #[.slice A6 m6 c6,.int .i64 f1.per,.int .i64 f1.inc]);replace I0:=aA (I0.out.ext b1);replace B0:=aA (B0.out.below b1 B0.out.lt);replace W:=aA (aD W.out b1);clear hS hI hA hb b1 HT;go_upto_region 3 with fail
 generalize hwe:w3.alloc _=w4 at *;clear hwe;generalize w3.heap.size=Z1 at *;obtain⟨⟨x0,x1,x2⟩,_,hlx⟩:=B0.out.c3;obtain⟨⟨y0,y1,y2⟩,_,hly⟩:=B1.out.c3;have F:=aA (show uQ ps w (.returned (.slice (some ⟨w4.heap.size,0,none⟩) 2 2)) (w4.alloc (.cells #[.slice A5 m5 c5,.int .i64 f0.per,.int .i64 f0.inc,.slice A6 m6 c6,.int .i64 f1.per,.int .i64 f1.inc] 26)) from by
  have hb:=aF w4 (.cells #[.slice A5 m5 c5,.int .i64 f0.per,.int .i64 f0.inc,.slice A6 m6 c6,.int .i64 f1.per,.int .i64 f1.inc] 26);have bk:=aC.new w4 26 #[.slice A5 m5 c5,.int .i64 f0.per,.int .i64 f0.inc,.slice A6 m6 c6,.int .i64 f1.per,.int .i64 f1.inc];refine⟨⟨A5,m5,c5,f0⟩,⟨A6,m6,c6,f1⟩,e0,e1,w4.heap.size,S0.out,S1.out,rfl,⟨bk.lt,fun k j x hx hj=>?_,fun x hx=>?_⟩,W.out.size,aD W.out hb⟩
  ·have hk:=(List.getElem?_eq_some_iff.1 hx).1;have hk:k<2:=hk;rw [bk.cell];rcases (show k=0\/k=1 by omega) with rfl|rfl <;> cases hx <;> rcases (show j=0\/j=1\/j=2 by omega) with rfl|rfl|rfl <;> rfl
  ·rcases List.mem_cons.1 hx with rfl|hx
   ·exact I0.out.ext hb
   ·rw [List.mem_singleton] at hx;subst hx;exact I1.out.ext hb)
 go_wp2_with fail
 go_ret
 exact F.out
theorem xM(A:Option Addr)(n c:Nat)(ps:List PK)(w:World)(hT:bN w A n c ps)(hn:n<=60)(hz:∀x∈ps,1<=x.sz/\x.sz<=1500) :
 Calls Tryz.prog 36 #[.slice A n c,.int .i64 0] w fun e w'=>∃m:Int,e = .returned (.int .i64 m)/\(1<=m/\m<=1500/\∀x∈ps,x.fl=0->x.sz<=m)/\Below w.heap.size w w':=by
 have HT:=aA hT;have HZ:=aA hz;have hl:ps.length=n:=hT.1;clear hT hz;go_enter Tryz.func36,Tryz.ntmps36
 go_wp2_with fail
 go_loopg [5,10] n (fun gg s5 s10 wr=>∃(k:Nat) (m:Int),k+gg=n/\s10 = .int .i64 k/\s5 = .int .i64 m/\Hid (1<=m/\m<=1500/\∀(i:Nat) (x:PK),i<k->ps[i]?=some x->x.fl=0->x.sz<=m)/\Hid (Below w.heap.size w wr))
 case atStart=>exact⟨0,1,by omega,rfl,rfl,aA ⟨by omega,by omega,fun i x hi=>by omega⟩,aA (Below.refl _ _)⟩
 case round=>
  obtain⟨k,m,hkg,rfl,rfl,M,W⟩:=hrel;by_cases hk:k<n
  case pos=>
   have hki:(k:Int)<n:=by omega
   obtain⟨x,hx⟩:∃x,ps[k]?=some x:=⟨_,List.getElem?_eq_getElem (by omega)⟩
   obtain⟨g,o,rfl,hr⟩:=(HT.out.below W.out).2.2 (by omega);have y0:=hr.cell k 0 x hx (by omega);have y1:=hr.cell k 1 x hx (by omega);have y2:=hr.cell k 2 x hx (by omega);replace y0:wr.cell? ⟨g,o+k*3,none⟩=some (.int .i64 x.fl):=y0;replace y1:wr.cell? ⟨g,o+k*3+1,none⟩=some (.int .i64 x.tm):=y1;replace y2:wr.cell? ⟨g,o+k*3+2,none⟩=some (.int .i64 x.sz):=y2;have hgl:g<wr.heap.size:=hr.lt;have hzx:=HZ.out x (List.mem_of_getElem? hx);have W2:=aA (aD W.out (aF wr (.cells #[.int .i64 x.fl,.int .i64 x.tm,.int .i64 x.sz] 71)));have hm:=M.out.1;have hm2:=M.out.2.1;by_cases hf:x.fl=0
   case neg=>
    have e1:(x.fl == 0)=false:=by simpa using hf
    have M2:=aA (show 1<=m/\m<=1500/\∀(i:Nat) (y:PK),i<k+1->ps[i]?=some y->y.fl=0->y.sz<=m from⟨hm,hm2,fun i y hi hy hy0=>by
     by_cases e:i=k
     ·subst e;rw [hx] at hy;cases hy;exact absurd hy0 hf
     ·exact M.out.2.2 i y (by omega) hy hy0⟩)
    clear hx hr hf M;go_wp2_with fail
    go_roundg (gk-1)
    case measure=>omega
    case rel=>exact⟨k+1,m,by omega,by go_num,rfl,M2,W2⟩
   case pos=>
    have e1:(x.fl == 0)=true:=by simpa using hf
    have M2:=aA (show 1<=max m x.sz/\max m x.sz<=1500/\∀(i:Nat) (y:PK),i<k+1->ps[i]?=some y->y.fl=0->y.sz<=max m x.sz from⟨by omega,by omega,fun i y hi hy hy0=>by
     by_cases e:i=k
     ·subst e;rw [hx] at hy;cases hy;omega
     ·have:=M.out.2.2 i y (by omega) hy hy0;omega⟩)
    clear hx hr hf M;go_wp2_with fail
    go_roundg (gk-1)
    case measure=>omega
    case rel=>exact⟨k+1,max m x.sz,by omega,by go_num,rfl,M2,W2⟩
  case neg=>
   have hki:¬(k:Int)<n:=by omega
   have F:=aA (show 1<=m/\m<=1500/\∀x∈ps,x.fl=0->x.sz<=m from⟨M.out.1,M.out.2.1,fun x hx hx0=>by
    obtain⟨i,hi⟩:=List.getElem?_of_mem hx;exact M.out.2.2 i x (by have:=(List.getElem?_eq_some_iff.1 hi).1;omega) hi hx0⟩)
   go_wp2_with fail
   go_ret
   exact⟨m,rfl,F.out,W.out⟩
def eG(xs:List PK)(j:Int)(z:SZ):Prop:=(z.lo=0/\z.hi=0/\∀x∈xs,x.fl≠j)\/(5<=z.lo/\z.lo<=z.hi/\z.hi<=20/\∀x∈xs,x.fl=j->z.lo<=x.sz/\x.sz<=z.hi)
section
variable{xs:List PK}{j:Int}{z:SZ}{x:PK}
theorem eG.other(h:eG xs j z)(hx:x.fl≠j):eG (xs ++ [x]) j z:=by
 rcases h with ⟨a,b,c⟩|⟨a,b,c,d⟩
 ·refine .inl ⟨a,b,fun y hy=>?_⟩;rcases List.mem_append.1 hy with h|h
  ·exact c y h
  ·rw [List.mem_singleton] at h;subst h;exact hx
 ·refine .inr ⟨a,b,c,fun y hy e=>?_⟩;rcases List.mem_append.1 hy with h|h
  ·exact d y h e
  ·rw [List.mem_singleton] at h;subst h;exact absurd e hx
theorem eG.first(h:eG xs j z)(h0:z.hi=0)(hx:5<=x.sz/\x.sz<=20):eG (xs ++ [x]) j ⟨x.sz,x.sz⟩:=by
 rcases h with ⟨a,b,c⟩|⟨a,b,c,d⟩
 ·refine .inr ⟨hx.1,Int.le_refl _,hx.2,fun y hy e=>?_⟩;rcases List.mem_append.1 hy with h|h
  ·exact absurd e (c y h)
  ·rw [List.mem_singleton] at h;subst h;exact⟨Int.le_refl _,Int.le_refl _⟩
 ·omega
theorem eG.more(h:eG xs j z)(h0:z.hi≠0)(hx:5<=x.sz/\x.sz<=20):eG (xs ++ [x]) j ⟨min z.lo x.sz,max z.hi x.sz⟩:=by
 rcases h with ⟨a,b,c⟩|⟨a,b,c,d⟩
 ·exact absurd b h0
 ·refine .inr ⟨by show 5<=min z.lo x.sz;omega,by show min z.lo x.sz<=max z.hi x.sz;omega,by show max z.hi x.sz<=20;omega,fun y hy e=>?_⟩;show min z.lo x.sz<=y.sz/\y.sz<=max z.hi x.sz
  rcases List.mem_append.1 hy with h|h
  ·have:=d y h e;omega
  ·rw [List.mem_singleton] at h;subst h;omega
end
theorem fC.of{ps:List PK}{z0 z1:SZ}(h0:eG ps 0 z0)(h1:eG ps 1 z1)(hfl:∀x∈ps,0<=x.fl/\x.fl<2):fC ps [z0,z1]:=by
 have g:∀(j:Int) (z:SZ),eG ps j z->0<=z.lo/\z.lo<=z.hi/\z.hi<=20/\(z.hi<1\/2<=z.hi)/\∀x∈ps,x.fl=j->z.lo<=x.sz/\x.sz<=z.hi:=fun j z h=>by
  rcases h with ⟨a,b,c⟩|⟨a,b,c,d⟩
  ·exact⟨by omega,by omega,by omega,by omega,fun x hx e=>absurd e (c x hx)⟩
  ·exact⟨by omega,b,c,by omega,d⟩
 have g0:=g 0 z0 h0;have g1:=g 1 z1 h1;refine⟨⟨rfl,fun z hz=>?_,fun j hj=>?_⟩,fun x hx=>?_,fun j hj=>?_⟩
 ·unfold SZ.Good;rcases List.mem_cons.1 hz with rfl|hz
  ·omega
  ·rw [List.mem_singleton] at hz;subst hz;omega
 ·rcases (show j=0\/j=1 by omega) with rfl|rfl
  ·show 0<=z0.hi/\z0.hi<=20/\(z0.hi<1\/2<=z0.hi);omega
  ·show 0<=z1.hi/\z1.hi<=20/\(z1.hi<1\/2<=z1.hi);omega
 ·have hf:=hfl x hx;rcases (show x.fl=0\/x.fl=1 by omega) with e|e
  ·rw [e];exact g0.2.2.2.2 x hx e
  ·rw [e];exact g1.2.2.2.2 x hx e
 ·rcases (show j=0\/j=1 by omega) with rfl|rfl
  ·rcases h0 with ⟨a,b,c⟩|⟨a,_⟩
   ·exact .inr ⟨c,a,b⟩
   ·exact .inl a
  ·rcases h1 with ⟨a,b,c⟩|⟨a,_⟩
   ·exact .inr ⟨c,a,b⟩
   ·exact .inl a
theorem X4:(Tryz.prog.info? 67).map (fun i=>(i.zero,i.size,i.bytes))=some (some (.agg #[.int .i64 0,.int .i64 0]),2,16):=by kernel_rfl
theorem a3f(w:World):(Instr.makeSlice 68 (.int .i64 2) (.int .i64 2)).run Tryz.prog w = .ok (.slice (some ⟨w.heap.size,0,none⟩) 2 2) (w.alloc (.cells #[.int .i64 0,.int .i64 0,.int .i64 0,.int .i64 0] 67)):=by
 obtain⟨i0,hi0,hz0,hz1,hz2⟩:=info_parts X4;have:=run_make (P:=Tryz.prog) w 68 67 i0 _ Tryz.underlying68 hi0 hz0 .i64 .i64 2 2 (by omega) (by omega) (by rw [hz2];omega) (by omega)
 rw [hz1] at this;have e:madeCells (Value.agg #[Value.int .i64 0,Value.int .i64 0]).cells (Int.toNat 2*2)=#[.int .i64 0,.int .i64 0,.int .i64 0,.int .i64 0]:=by kernel_rfl
 rw [e] at this;exact this
def E9(ps:List PK)(w:World)(e:Ending)(w':World):Prop:=
 ∃(zs:List SZ) (g:Nat),fC ps zs/\e = .returned (.slice (some ⟨g,0,none⟩) 2 2)/\eM w' g 0 zs/\w.heap.size<=g/\Below w.heap.size w w'
theorem rF(A:Option Addr)(n c:Nat)(ps:List PK)(w:World)(hT:bN w A n c ps)(hn:n<=60)(hz:∀x∈ps,0<=x.fl/\x.fl<2/\5<=x.sz/\x.sz<=20) :
 Calls Tryz.prog 34 #[.slice A n c,.int .i64 2] w (E9 ps w):=by
 have HT:=aA hT;have HZ:=aA hz;have hl:ps.length=n:=hT.1;have hmk:=a3f w;have b0:=aF w (.cells #[.int .i64 0,.int .i64 0,.int .i64 0,.int .i64 0] 67);have B:=aA (aC.new w 67 #[.int .i64 0,.int .i64 0,.int .i64 0,.int .i64 0]);have W:=aA b0;clear hT hz b0;go_enter Tryz.func34,Tryz.ntmps34
 go_upto_region 2 with fail
 generalize hwe:w.alloc _=w1 at *;obtain⟨G,hG⟩:∃G,G=w.heap.size:=⟨_,rfl⟩
 simp only [<- hG];have HG:=aA hG;replace B:=aA (show aC w1 G 67 #[.int .i64 0,.int .i64 0,.int .i64 0,.int .i64 0] by rw [hG];exact B.out);clear hwe hmk hG;go_wp2_with fail
 go_loopg [13] n (fun gg s13 wr=>∃(k:Nat) (z0 z1:SZ),k+gg=n/\s13 = .int .i64 k/\Hid (eG (ps.take k) 0 z0/\eG (ps.take k) 1 z1)/\Hid (aC wr G 67 #[.int .i64 z0.lo,.int .i64 z0.hi,.int .i64 z1.lo,.int .i64 z1.hi])/\Hid (Below w.heap.size w wr))
 case atStart=>exact⟨0,⟨0,0⟩,⟨0,0⟩,by omega,rfl,aA ⟨.inl ⟨rfl,rfl,fun x hx=>by simp at hx⟩,.inl ⟨rfl,rfl,fun x hx=>by simp at hx⟩⟩,B,W⟩
 case round=>
  clear B W;obtain⟨k,z0,z1,hkg,rfl,S,B,W⟩:=hrel;by_cases hk:k<n
  case pos=>
   have hki:(k:Int)<n:=by omega
   obtain⟨x,hx⟩:∃x,ps[k]?=some x:=⟨_,List.getElem?_eq_getElem (by omega)⟩
   obtain⟨g,o,rfl,hr⟩:=(HT.out.below W.out).2.2 (by omega);have y0:=hr.cell k 0 x hx (by omega);have y1:=hr.cell k 1 x hx (by omega);have y2:=hr.cell k 2 x hx (by omega);replace y0:wr.cell? ⟨g,o+k*3,none⟩=some (.int .i64 x.fl):=y0;replace y1:wr.cell? ⟨g,o+k*3+1,none⟩=some (.int .i64 x.tm):=y1;replace y2:wr.cell? ⟨g,o+k*3+2,none⟩=some (.int .i64 x.sz):=y2;have hgl:g<wr.heap.size:=hr.lt;have hzx:=HZ.out x (List.mem_of_getElem? hx);have htk:ps.take (k+1)=ps.take k ++ [x]:=by rw [List.take_add_one,hx];rfl
   have HTK:=aA htk;have hb1:=aF wr (.cells #[.int .i64 x.fl,.int .i64 x.tm,.int .i64 x.sz] 71);have XB:=aA (aC.new wr 71 #[.int .i64 x.fl,.int .i64 x.tm,.int .i64 x.sz]);have B1:=aA (B.out.alloc (.cells #[.int .i64 x.fl,.int .i64 x.tm,.int .i64 x.sz] 71));have W1:=aA (aD W.out hb1);have hgx:=B.out.lt;clear hx hr hb1 B W htk;go_upto_region 5 with fail
   generalize hwe:wr.alloc _=w2 at *;clear hwe;generalize wr.heap.size=X at *;obtain⟨⟨x0,x1,x2⟩,_,hlx⟩:=XB.out.c3;have b0:=B1.out.cell 0;have b1:=B1.out.cell 1;have b2:=B1.out.cell 2;have b3:=B1.out.cell 3;simp at b0 b1 b2 b3;have f0:=B1.out.frozen 0;have f1:=B1.out.frozen 1;have f2:=B1.out.frozen 2;have f3:=B1.out.frozen 3;have hlg:=B1.out.lt;rcases (show x.fl=0\/x.fl=1 by omega) with e|e
   ·have hSn:eG (ps.take (k+1)) 1 z1:=by rw [HTK.out];exact S.out.2.other (by omega)
    rw [e] at x0;by_cases h0:z0.hi=0
    ·have S2:=aA (show eG (ps.take (k+1)) 0 ⟨x.sz,x.sz⟩/\eG (ps.take (k+1)) 1 z1 from⟨by rw [HTK.out];exact S.out.1.first h0 hzx.2.2,hSn⟩);rw [h0] at b1;clear hSn S;go_upto_region 9 with fail
     have B2:=aA (show aC ((w2.setCell ⟨G,0,none⟩ (.int .i64 x.sz)).setCell ⟨G,1,none⟩ (.int .i64 x.sz)) G 67 #[.int .i64 x.sz,.int .i64 x.sz,.int .i64 z1.lo,.int .i64 z1.hi] from by
      have:=(B1.out.set_ 0 (.int .i64 x.sz)).set_ 1 (.int .i64 x.sz)
      simpa using this)
     have X2:=aA (show aC ((w2.setCell ⟨G,0,none⟩ (.int .i64 x.sz)).setCell ⟨G,1,none⟩ (.int .i64 x.sz)) X 71 #[.int .i64 x.fl,.int .i64 x.tm,.int .i64 x.sz] from(XB.out.far (p:=⟨G,0,none⟩) (by show X≠G;omega) _).far (p:=⟨G,1,none⟩) (by show X≠G;omega) _);have W2:=aA (show Below w.heap.size w ((w2.setCell ⟨G,0,none⟩ (.int .i64 x.sz)).setCell ⟨G,1,none⟩ (.int .i64 x.sz)) from(W1.out.setCell (by show w.heap.size<=G;rw [HG.out];exact Nat.le_refl _) _).setCell (by show w.heap.size<=G;rw [HG.out];exact Nat.le_refl _) _);clear B1 XB W1 b0 b1 b2 b3 f0 f1 f2 f3 hlg x0 x1 x2 hlx h0;generalize (w2.setCell ⟨G,0,none⟩ (.int .i64 x.sz)).setCell ⟨G,1,none⟩ (.int .i64 x.sz)=w5 at *;obtain⟨⟨x0,x1,x2⟩,_,hlx⟩:=X2.out.c3;have b0:=B2.out.cell 0;have b1:=B2.out.cell 1;simp at b0 b1;have f0:=B2.out.frozen 0;have f1:=B2.out.frozen 1;have hlg:=B2.out.lt
     go_region
     have B3:=aA (show aC ((w5.setCell ⟨G,0,none⟩ (.int .i64 (x.sz))).setCell ⟨G,1,none⟩ (.int .i64 (x.sz))).drew G 67 #[.int .i64 x.sz,.int .i64 x.sz,.int .i64 z1.lo,.int .i64 z1.hi] from by
      have:=(B2.out.set_ 0 (.int .i64 (x.sz))).set_ 1 (.int .i64 (x.sz))
      have h2:aC ((w5.setCell ⟨G,0,none⟩ (.int .i64 (x.sz))).setCell ⟨G,1,none⟩ (.int .i64 (x.sz))) G 67 #[.int .i64 x.sz,.int .i64 x.sz,.int .i64 z1.lo,.int .i64 z1.hi]:=by simpa using this
      exact h2)
     have W3:=aA (show Below w.heap.size w ((w5.setCell ⟨G,0,none⟩ (.int .i64 (x.sz))).setCell ⟨G,1,none⟩ (.int .i64 (x.sz))).drew from cC (k:=1) ((W2.out.setCell (by show w.heap.size<=G;rw [HG.out];exact Nat.le_refl _) _).setCell (by show w.heap.size<=G;rw [HG.out];exact Nat.le_refl _) _));clear B2 X2 W2 x0 x1 x2 hlx b0 b1 f0 f1 hlg;go_wp2_with fail
     go_roundg (gk-1)
     case measure=>omega
     case rel=>exact⟨k+1,⟨x.sz,x.sz⟩,z1,by omega,by go_num,S2,B3,W3⟩
    ·have S2:=aA (show eG (ps.take (k+1)) 0 ⟨min z0.lo x.sz,max z0.hi x.sz⟩/\eG (ps.take (k+1)) 1 z1 from⟨by rw [HTK.out];exact S.out.1.more h0 hzx.2.2,hSn⟩);have e1:(z0.hi == 0)=false:=by simpa using h0
     clear hSn S h0;go_upto_region 9 with fail
     have B2:=B1;have X2:=XB;have W2:=W1;clear B1 XB W1 b0 b1 b2 b3 f0 f1 f2 f3 hlg x0 x1 x2 hlx;obtain⟨⟨x0,x1,x2⟩,_,hlx⟩:=X2.out.c3;have b0:=B2.out.cell 0;have b1:=B2.out.cell 1;simp at b0 b1;have f0:=B2.out.frozen 0;have f1:=B2.out.frozen 1;have hlg:=B2.out.lt
     go_region
     have B3:=aA (show aC ((w2.setCell ⟨G,0,none⟩ (.int .i64 (min z0.lo x.sz))).setCell ⟨G,1,none⟩ (.int .i64 (max z0.hi x.sz))).drew G 67 #[.int .i64 (min z0.lo x.sz),.int .i64 (max z0.hi x.sz),.int .i64 z1.lo,.int .i64 z1.hi] from by
      have:=(B2.out.set_ 0 (.int .i64 (min z0.lo x.sz))).set_ 1 (.int .i64 (max z0.hi x.sz))
      have h2:aC ((w2.setCell ⟨G,0,none⟩ (.int .i64 (min z0.lo x.sz))).setCell ⟨G,1,none⟩ (.int .i64 (max z0.hi x.sz))) G 67 #[.int .i64 (min z0.lo x.sz),.int .i64 (max z0.hi x.sz),.int .i64 z1.lo,.int .i64 z1.hi]:=by simpa using this
      exact h2)
     have W3:=aA (show Below w.heap.size w ((w2.setCell ⟨G,0,none⟩ (.int .i64 (min z0.lo x.sz))).setCell ⟨G,1,none⟩ (.int .i64 (max z0.hi x.sz))).drew from cC (k:=1) ((W2.out.setCell (by show w.heap.size<=G;rw [HG.out];exact Nat.le_refl _) _).setCell (by show w.heap.size<=G;rw [HG.out];exact Nat.le_refl _) _));clear B2 X2 W2 x0 x1 x2 hlx b0 b1 f0 f1 hlg;go_wp2_with fail
     go_roundg (gk-1)
     case measure=>omega
     case rel=>exact⟨k+1,⟨min z0.lo x.sz,max z0.hi x.sz⟩,z1,by omega,by go_num,S2,B3,W3⟩
   ·have hSn:eG (ps.take (k+1)) 0 z0:=by rw [HTK.out];exact S.out.1.other (by omega)
    rw [e] at x0;by_cases h0:z1.hi=0
    ·have S2:=aA (show eG (ps.take (k+1)) 0 z0/\eG (ps.take (k+1)) 1 ⟨x.sz,x.sz⟩ from⟨hSn,by rw [HTK.out];exact S.out.2.first h0 hzx.2.2⟩);rw [h0] at b3;clear hSn S;go_upto_region 9 with fail
     have B2:=aA (show aC ((w2.setCell ⟨G,2,none⟩ (.int .i64 x.sz)).setCell ⟨G,3,none⟩ (.int .i64 x.sz)) G 67 #[.int .i64 z0.lo,.int .i64 z0.hi,.int .i64 x.sz,.int .i64 x.sz] from by
      have:=(B1.out.set_ 2 (.int .i64 x.sz)).set_ 3 (.int .i64 x.sz)
      simpa using this)
     have X2:=aA (show aC ((w2.setCell ⟨G,2,none⟩ (.int .i64 x.sz)).setCell ⟨G,3,none⟩ (.int .i64 x.sz)) X 71 #[.int .i64 x.fl,.int .i64 x.tm,.int .i64 x.sz] from(XB.out.far (p:=⟨G,2,none⟩) (by show X≠G;omega) _).far (p:=⟨G,3,none⟩) (by show X≠G;omega) _);have W2:=aA (show Below w.heap.size w ((w2.setCell ⟨G,2,none⟩ (.int .i64 x.sz)).setCell ⟨G,3,none⟩ (.int .i64 x.sz)) from(W1.out.setCell (by show w.heap.size<=G;rw [HG.out];exact Nat.le_refl _) _).setCell (by show w.heap.size<=G;rw [HG.out];exact Nat.le_refl _) _);clear B1 XB W1 b0 b1 b2 b3 f0 f1 f2 f3 hlg x0 x1 x2 hlx h0;generalize (w2.setCell ⟨G,2,none⟩ (.int .i64 x.sz)).setCell ⟨G,3,none⟩ (.int .i64 x.sz)=w5 at *;obtain⟨⟨x0,x1,x2⟩,_,hlx⟩:=X2.out.c3;have b0:=B2.out.cell 2;have b1:=B2.out.cell 3;simp at b0 b1;have f0:=B2.out.frozen 2;have f1:=B2.out.frozen 3;have hlg:=B2.out.lt
     go_region
     have B3:=aA (show aC ((w5.setCell ⟨G,2,none⟩ (.int .i64 (x.sz))).setCell ⟨G,3,none⟩ (.int .i64 (x.sz))).drew G 67 #[.int .i64 z0.lo,.int .i64 z0.hi,.int .i64 x.sz,.int .i64 x.sz] from by
      have:=(B2.out.set_ 2 (.int .i64 (x.sz))).set_ 3 (.int .i64 (x.sz))
      have h2:aC ((w5.setCell ⟨G,2,none⟩ (.int .i64 (x.sz))).setCell ⟨G,3,none⟩ (.int .i64 (x.sz))) G 67 #[.int .i64 z0.lo,.int .i64 z0.hi,.int .i64 x.sz,.int .i64 x.sz]:=by simpa using this
      exact h2)
     have W3:=aA (show Below w.heap.size w ((w5.setCell ⟨G,2,none⟩ (.int .i64 (x.sz))).setCell ⟨G,3,none⟩ (.int .i64 (x.sz))).drew from cC (k:=1) ((W2.out.setCell (by show w.heap.size<=G;rw [HG.out];exact Nat.le_refl _) _).setCell (by show w.heap.size<=G;rw [HG.out];exact Nat.le_refl _) _));clear B2 X2 W2 x0 x1 x2 hlx b0 b1 f0 f1 hlg;go_wp2_with fail
     go_roundg (gk-1)
     case measure=>omega
     case rel=>exact⟨k+1,z0,⟨x.sz,x.sz⟩,by omega,by go_num,S2,B3,W3⟩
    ·have S2:=aA (show eG (ps.take (k+1)) 0 z0/\eG (ps.take (k+1)) 1 ⟨min z1.lo x.sz,max z1.hi x.sz⟩ from⟨hSn,by rw [HTK.out];exact S.out.2.more h0 hzx.2.2⟩);have e1:(z1.hi == 0)=false:=by simpa using h0
     clear hSn S h0;go_upto_region 9 with fail
     have B2:=B1;have X2:=XB;have W2:=W1;clear B1 XB W1 b0 b1 b2 b3 f0 f1 f2 f3 hlg x0 x1 x2 hlx;obtain⟨⟨x0,x1,x2⟩,_,hlx⟩:=X2.out.c3;have b0:=B2.out.cell 2;have b1:=B2.out.cell 3;simp at b0 b1;have f0:=B2.out.frozen 2;have f1:=B2.out.frozen 3;have hlg:=B2.out.lt
     go_region
     have B3:=aA (show aC ((w2.setCell ⟨G,2,none⟩ (.int .i64 (min z1.lo x.sz))).setCell ⟨G,3,none⟩ (.int .i64 (max z1.hi x.sz))).drew G 67 #[.int .i64 z0.lo,.int .i64 z0.hi,.int .i64 (min z1.lo x.sz),.int .i64 (max z1.hi x.sz)] from by
      have:=(B2.out.set_ 2 (.int .i64 (min z1.lo x.sz))).set_ 3 (.int .i64 (max z1.hi x.sz))
      have h2:aC ((w2.setCell ⟨G,2,none⟩ (.int .i64 (min z1.lo x.sz))).setCell ⟨G,3,none⟩ (.int .i64 (max z1.hi x.sz))) G 67 #[.int .i64 z0.lo,.int .i64 z0.hi,.int .i64 (min z1.lo x.sz),.int .i64 (max z1.hi x.sz)]:=by simpa using this
      exact h2)
     have W3:=aA (show Below w.heap.size w ((w2.setCell ⟨G,2,none⟩ (.int .i64 (min z1.lo x.sz))).setCell ⟨G,3,none⟩ (.int .i64 (max z1.hi x.sz))).drew from cC (k:=1) ((W2.out.setCell (by show w.heap.size<=G;rw [HG.out];exact Nat.le_refl _) _).setCell (by show w.heap.size<=G;rw [HG.out];exact Nat.le_refl _) _));clear B2 X2 W2 x0 x1 x2 hlx b0 b1 f0 f1 hlg;go_wp2_with fail
     go_roundg (gk-1)
     case measure=>omega
     case rel=>exact⟨k+1,z0,⟨min z1.lo x.sz,max z1.hi x.sz⟩,by omega,by go_num,S2,B3,W3⟩
  case neg=>
   have hki:¬(k:Int)<n:=by omega
   have hs:=S.out;rw [List.take_of_length_le (by omega)] at hs;have F:=aA (fC.of hs.1 hs.2 (fun x hx=>⟨(HZ.out x hx).1,(HZ.out x hx).2.1⟩));have R:=aA (show eM wr G 0 [z0,z1] from by
    refine⟨B.out.lt,fun k j x hx hj=>?_⟩
    have hk:=(List.getElem?_eq_some_iff.1 hx).1;have hk:k<2:=hk;rw [B.out.cell];rcases (show k=0\/k=1 by omega) with rfl|rfl <;> cases hx <;> rcases (show j=0\/j=1 by omega) with rfl|rfl <;> rfl)
   go_wp2_with fail
   go_ret
   exact⟨[z0,z1],G,F.out,rfl,R.out,by rw [HG.out];exact Nat.le_refl _,W.out⟩
theorem N4{f g r:Cv}{er:Int}(H:fH f g r er):r.vals.length<=400:=by
 rcases H with ⟨_,rfl,_⟩|⟨_,_,a,b,_,_,⟨_,rfl,_⟩|⟨_,h,_,⟨_,hl,_⟩|⟨_,rfl,_⟩⟩⟩
 ·exact Nat.zero_le _
 ·exact Nat.zero_le _
 ·exact hl.1
 ·exact Nat.zero_le _
theorem a3m{q:List PK}{m:Nat}{x:PK}(hx:q[m]?=some x)(h:x.fl≠0):(aX 0 (q.take (m+1))).length=(aX 0 (q.take m)).length:=by
 rw [tN 0 q m x hx,if_neg (fun e=>h ((iH x).1 e)),List.append_nil]
theorem a3n{q:List PK}{m:Nat}{x:PK}(hx:q[m]?=some x)(h:x.fl=0):(aX 0 (q.take (m+1))).length=(aX 0 (q.take m)).length+1:=by
 rw [tN 0 q m x hx,if_pos ((iH x).2 h),List.length_append];rfl
def rW(ps q:List PK)(done1 done2:List Int)(v:Int):Prop:=
 (aX 0 q).length=(bO ps done1 ps.length).length/\0<=v/\v<=4000000000000000/\∀(m:Nat) (x:PK),q[m]?=some x->x.fl=0->∃(i:Nat) (y:PK),(aX 0 (q.take m)).length<(bO ps done1 ps.length).length/\aB ((bO ps done1 ps.length).map AR.ix) (aX 0 (q.take m)).length=i/\ps[i]?=some y/\(y.tm+v<300->0<=aB done2 m/\aB done2 m-y.tm<=v)
theorem a49{ps q:List PK}{done1 done2:List Int}{v:Int}(sel:aX 0 q=(bO ps done1 ps.length).map AR.p)
 (h:∃V:Nat,v=V/\(V:Int)<=4000000000000000/\∀(m n:Nat) (x:PK) (a:AR) (i:Nat) (y:PK),q[m]?=some x->x.fl=0->n=(aX 0 (q.take m)).length->(bO ps done1 ps.length)[n]?=some a->a.ix=i->ps[i]?=some y->y.tm+V<300->0<=aB done2 m/\aB done2 m-y.tm<=V):rW ps q done1 done2 v:=by
 obtain⟨V,rfl,hV,H⟩:=h;refine⟨by rw [sel,List.length_map],by omega,hV,fun m x hx h0=>?_⟩
 have h1:=(tO q m x hx h0).1;generalize hn:(aX 0 (q.take m)).length=n at *;rw [sel,List.getElem?_map] at h1;obtain⟨a,ha,_⟩:=Option.map_eq_some_iff.1 h1;obtain⟨i,y,_,hy,_,_,he⟩:=m9 (List.mem_of_getElem? ha);have hi:a.ix=i:=by rw [he]
 refine⟨i,y,(List.getElem?_eq_some_iff.1 ha).1,?_,hy,fun hk=>H m n x a i y hx h0 hn.symm ha hi hy hk⟩
 unfold aB;rw [List.getD_eq_getElem?_getD,List.getElem?_map,ha];exact hi
end Go.Proofs.YtaejfleahamapaaGreat
