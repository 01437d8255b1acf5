/- The delays of lines in the order of arrival and with priorities hold (plain). -/
import Derived.Test.YtaejfleahamapaaGreatPp19
import Derived.Test.YtaejfleahamapaaGreatPp15
import Derived.Test.YtaejfleahamapaaGreatPp18
import Derived.Test.YtaejfleahamapaaGreatPp25
import Derived.Test.YtaejfleahamapaaGreatPp32
import Derived.Test.YtaejfleahamapaaGreatPp27
import Derived.Test.YtaejfleahamapaaGreatPp2
namespace Go.Proofs.YtaejfleahamapaaGreat
set_option linter.unusedVariables false
set_option linter.unusedSimpArgs false
section
open Go.RowKit
def DlG(ps:List PK)(done:List Int)(c:Nat)(i:Bool)(v er:Int):Prop:=
 er=0→i=false→(0≤v∧v≤4000000000000000)∧∀(j:Nat) (x:PK),ps[j]?=some x→x.fl=c→x.tm+v<200→0≤nth done j∧nth done j≤x.tm+v
section
variable{cap:Int}{ps:List PK}{done:List Int}{sent:List (List Int)}{c:Nat}{al f:Cv}{i:Bool}{v A er:Int}
theorem dl_core{σ:Type}{Ch:RS σ→Int→σ→Prop}{sg0:σ}{s:RS σ}(hv:Valid ps)(hfl:∀x∈ps,x.fl<2)(hc:1≤cap)(hg:ChGood ps Ch)(hm:MRun cap 2 ps 200 Ch sg0 s)(ht:s.t=200)(hs:Serves f.at c ps (s.row c) s.t)(hal:al.Fin)(ha:AvS al c ps)(hf:f.Fin)
 (hd:DevE (DelayS al f) al f i v A er):DlG ps s.done c i v er:=by
 intro he hi;have hi2:=hm.inv (cls:=2) hv hfl hc hg;rcases hd with ⟨hb,_⟩|⟨_,hfo,_,_,d,A',rfl,rfl,h⟩
 ·rcases hb with ⟨_,h⟩|⟨_,_,h,_⟩ <;> omega
 ·rcases id h with ⟨h,_⟩|⟨_,hD,_⟩
  ·rw [hi] at h;cases h
  ·refine⟨⟨by omega,by rw [hi] at h;exact h.small hal hf⟩,fun j x hx hxf hk=>?_⟩
   have hgd:=hv.good x (List.mem_of_getElem? hx);unfold PK.Good at hgd;obtain⟨a,hxa⟩:=Int.eq_ofNat_of_zero_le hgd.2.2.1;rw [hxa] at hk ⊢;refine serves_delay hv hi2 (α:=al.at) (β:=f.at) (c:=c) (d:=d) (N:=s.t) (by unfold RS.cur;split <;> omega) hs ha (fun u _=>?_) (fun n=>hfo.up0.nn n) hx hxf hxa (by omega);rcases hD u with h | ⟨_,h⟩
   ·exact absurd h (hf.not_infAt _)
   ·exact h
def zs2:List SZ:=[⟨5,20⟩,⟨5,20⟩]
theorem DlG.err(h:er≠0):DlG ps done c i v er:=fun he=>absurd he h
theorem othR2{ws:List Int}(hc:c<2):othR c ws zs2 2=nth ws (1-c)*20:=by
 rcases (show c=0∨c=1 by omega) with rfl|rfl
 ·show(0+(if(0:Nat)=0 then 0 else _))+(if(1:Nat)=0 then 0 else nth ws 1*20)=_
  simp
 ·show(0+(if(0:Nat)=1 then 0 else nth ws 0*20))+(if(1:Nat)=1 then 0 else _)=_
  simp
theorem othX2{ws:List Int}(hc:c<2):othX c ws zs2 2=nth ws (1-c)∧othZ c zs2 2=19:=by
 rcases (show c=0∨c=1 by omega) with rfl|rfl
 ·exact⟨by simp [othX,sumN,zs2,hiOf],by simp [othZ,sumN,zs2,hiOf]⟩
 ·exact⟨by simp [othX,sumN,zs2,hiOf],by simp [othZ,sumN,zs2,hiOf]⟩
theorem lo2(hc:c<2):loOf zs2 c=5∧hiOf zs2 c=20:=by
 rcases (show c=0∨c=1 by omega) with rfl|rfl <;> exact⟨rfl,rfl⟩
variable(hv:Valid ps)(hfl:∀x∈ps,x.fl<2)(hsz:∀x∈ps,5≤x.sz∧x.sz≤20)(hc:1≤cap)(hc2:c<2)(hal:al.Fin)(ha:AvS al c ps)
include hv hfl hsz hc hc2 hal ha
theorem dl3{ws:List Int}(hl:ws.length=2)(h0:1≤nth ws 0)(h1:1≤nth ws 1)(hr:RunOf cap 2 ps 200 (RrC ws ps) (0,nth ws 0) done sent)(hd:MsS (SvS (RrP cap (nth ws c*loOf zs2 c) (othR c ws zs2 2))) al i v A er):DlG ps done c i v er:=by
 obtain⟨s,hm,hoff,ht,rfl,rfl⟩:=hr;obtain⟨f,e,hS,⟨h,_,_,_,rfl⟩|⟨rfl,hd⟩⟩:=hd
 ·exact DlG.err h
 ·obtain⟨hf,hp⟩:=hS.2 rfl;rw [othR2 hc2,(lo2 hc2).1] at hp;refine dl_core hv hfl hc (rr_good hv) hm ht ?_ hal ha hf hd;exact rr_serves hv hfl hc hc2 (d:=1-c) (by omega) (by omega) hl h0 h1 (L:=5) (M:=20) (by omega) (by omega) (fun x hx _=>(hsz x hx).1) (fun x hx _=>(hsz x hx).2) (fun n y hy hq=>hp n y hy hq) hm
theorem dl4{ws:List Int}(hl:ws.length=2)(h0:1≤nth ws 0)(h1:1≤nth ws 1)(hr:RunOf cap 2 ps 200 (DrC ws ps) ([0,0],0,false) done sent)(hd:MsS (SvS (DrP cap (nth ws c) (hiOf zs2 c) (othX c ws zs2 2) (othZ c zs2 2))) al i v A er):DlG ps done c i v er:=by
 obtain⟨s,hm,hoff,ht,rfl,rfl⟩:=hr;obtain⟨f,e,hS,⟨h,_,_,_,rfl⟩|⟨rfl,hd⟩⟩:=hd
 ·exact DlG.err h
 ·obtain⟨hf,hp⟩:=hS.2 rfl;rw [(othX2 hc2).1,(othX2 (ws:=ws) hc2).2,(lo2 hc2).2] at hp;refine dl_core hv hfl hc (dr_good hv) hm ht ?_ hal ha hf hd;exact dr_serves hv hfl hc hc2 (d:=1-c) (by omega) (by omega) hl h0 h1 (L:=20) (M:=20) (by omega) (by omega) (fun x hx _=>(hsz x hx).2) (fun x hx _=>(hsz x hx).2) (fun n y hy hq=>hp n y hy (by omega)) hm
theorem dl5{tb:List Int}(hl:1≤tb.length)(hr:RunOf cap 2 ps 200 (SlC cap tb ps) () done sent)(hd:MsS (SvS (SlPr cap (max 0 (hiOf zs2 c-1)) tb c)) al i v A er):DlG ps done c i v er:=by
 obtain⟨s,hm,hoff,ht,rfl,rfl⟩:=hr;obtain⟨f,e,hS,⟨h,_,_,_,rfl⟩|⟨rfl,hd⟩⟩:=hd
 ·exact DlG.err h
 ·obtain⟨hf,hp⟩:=hS.2 rfl;rw [(lo2 hc2).2] at hp;refine dl_core hv hfl hc (sl_good hv) hm ht ?_ hal ha hf hd;exact sl_serves hv hfl hc hl hc2 (L:=20) (by omega) (fun x hx _=>(hsz x hx).2) (fun t n htn=>hp t n htn) hm
end
end
section
open Go.RowKit
theorem restS_ser{cap:Int}{o r:Cv}(h0:0≤cap)(h1:cap≤1073741824)(ho:o.Fin)(h:RestS (lineCv cap) o r 0):r.Fin∧∀n:Nat,r.at n≤0∨∃u:Nat,u≤n∧r.at n≤cap*u-o.at u:=by
 obtain⟨a,b,ha,hb,fa,fb,⟨_,_,h⟩|⟨_,⟨_,_,h⟩|⟨_,h⟩⟩⟩:=h
 ·omega
 ·omega
 ·have ea:∀t:Nat,a.at t=cap*t:=fun t=>by rw [ha.at,line_at h0 h1]
  have eb:∀t,b.at t=o.at t:=fun t=>hb.at t
  have key:∀n:Nat,restV a b n≤0∨∃u:Nat,u≤n∧restV a b n≤cap*u-o.at u:=fun n=>by
   rcases rmx_at (dif a b) 0 (n+1) with e | ⟨j,hj,e⟩
   ·exact .inl (by show rmx _ _ _≤0;omega)
   ·refine .inr ⟨j,by omega,?_⟩;show rmx _ _ _≤_
    rw [e];unfold dif;rw [ea,eb];exact Int.le_refl _
  rcases h.get (rest_up a b) with ⟨_,h2,h3⟩|⟨h2,_⟩
  ·refine⟨fin_of h3 h2 (fun t ht=>?_),fun n=>by rw [h3.at];exact key n⟩
   have hn:=(rest_up a b).nn t;intro e;have hi:inf=4611686018427387904:=rfl;rcases key t with g | ⟨u,hu,g⟩
   ·omega
   ·have:=(ho.at_bd u).1
    have:cap*(u:Int)≤1073741824*400:=Int.mul_le_mul h1 (by omega) (by omega) (by omega)
    omega
  ·omega
section
variable{cap:Int}{ps:List PK}{done:List Int}{sent:List (List Int)}{c:Nat}{al f0 f1:Cv}{i:Bool}{v A er:Int}
variable(hv:Valid ps)(hfl:∀x∈ps,x.fl<2)(hsz:∀x∈ps,5≤x.sz∧x.sz≤20)(hc:1≤cap)(hcm:cap≤4000)(o0:f0.Fin)(o1:f1.Fin)(a0:AvS f0 (0:Nat) ps)(a1:AvS f1 (1:Nat) ps)
include hv hfl hc hcm o0 o1 a0 a1
theorem dl1(hc2:c<2)(hr:RunOf cap 2 ps 200 (FiC ps) () done sent)(hd:AllS cap [f0,f1] i v A er):DlG ps done c i v er:=by
 obtain⟨s,hm,hoff,ht,rfl,rfl⟩:=hr;obtain⟨o,e,hT,⟨h,_,_,_,rfl⟩|⟨rfl,hd⟩⟩:=hd
 ·exact DlG.err h
 ·obtain⟨ho,hat⟩:=tot_fin cvZ_fin (fun f hf=>by
   rcases List.mem_cons.1 hf with rfl|hf
   ·exact o0
   ·rw [List.mem_singleton] at hf;subst hf;exact o1) hT
  intro he hi;have hl:=line_fin (c:=cap) (by omega) (by omega);rcases hd with ⟨hb,_⟩|⟨_,hfo,_,_,d,A',rfl,rfl,h⟩
  ·rcases hb with ⟨_,h⟩|⟨_,_,h,_⟩ <;> omega
  ·rcases id h with ⟨h,_⟩|⟨_,hD,_⟩
   ·rw [hi] at h;cases h
   ·refine⟨⟨by omega,by rw [hi] at h;exact h.small ho hl⟩,fun j x hx hxf hk=>?_⟩
    have hgd:=hv.good x (List.mem_of_getElem? hx);unfold PK.Good at hgd;obtain⟨a,hxa⟩:=Int.eq_ofNat_of_zero_le hgd.2.2.1;rw [hxa] at hk ⊢;refine fi_delay (c:=c) (d:=d) hv hfl hc hm hoff (α:=o.at) hc2 (fun a b hab=>?_) (fun u _=>?_) hx hxf hxa (by omega)
    ·have e0:=a0 a b hab;have e1:=a1 a b hab;rw [hat,cvZ_at];simp only [sumAt,List.map_cons,List.map_nil,List.sum_cons,List.sum_nil];omega
    ·rcases hD u with h | ⟨_,h⟩
     ·exact absurd h (hl.not_infAt _)
     ·rwa [line_at (by omega) (by omega)] at h
omit o1 a1 in
theorem dl2(hsz:∀x∈ps,5≤x.sz∧x.sz≤20)(hc2:c<2)(hal:al.Fin)(ha:AvS al c ps)(hr:RunOf cap 2 ps 200 (PrC 2 ps) () done sent)(hd:MsS (PrS cap c [f0,f1] zs2) al i v A er):DlG ps done c i v er:=by
 obtain⟨s,hm,hoff,ht,rfl,rfl⟩:=hr;obtain⟨f,e,⟨o,e1,hT,h⟩,hd⟩:=hd;by_cases he:e=0
 ·subst he;obtain⟨_,hd⟩:_∧_:=hd.resolve_left (fun h=>h.1 rfl);rcases h with ⟨h,_,h'⟩|⟨rfl,o2,e2,hR,⟨h,_,h'⟩|⟨rfl,hS⟩⟩
  ·exact absurd h'.symm h
  ·exact absurd h'.symm h
  ·rcases (show c=0∨c=1 by omega) with rfl|rfl
   ·obtain⟨rfl,_⟩:o=cvZ∧_:=hT;have hb:blkV zs2 0=19:=by decide
    rw [hb] at hR;obtain⟨r1,r2,r3⟩:=raiseS_fin cvZ_fin (by omega) (by omega) hR;obtain⟨hf,hs⟩:=restS_ser (by omega) (by omega) r1 hS;refine dl_core hv hfl hc (pr_good hv) hm ht ?_ hal ha hf hd;refine pr0_serves hv hfl hc (M:=20) (fun x hx _=>(hsz x hx).2) (by omega) (fun n=>?_) hm;rcases hs n with g | ⟨u,hu,g⟩
    ·exact .inl g
    ·rcases Nat.eq_zero_or_pos u with rfl|hp
     ·rw [r2] at g;exact .inl (by simpa using g)
     ·rw [r3 u hp,cvZ_at] at g;exact .inr ⟨u,hu,by omega⟩
   ·obtain⟨t1,hat⟩:=tot_fin cvZ_fin (fun f hf=>by
     have hf:f∈[f0]:=hf;rw [List.mem_singleton] at hf;subst hf;exact o0) hT
    have hb:blkV zs2 1=0:=by decide
    rw [hb] at hR;obtain⟨r1,r2,r3⟩:=raiseS_fin t1 (by omega) (by omega) hR;obtain⟨hf,hs⟩:=restS_ser (by omega) (by omega) r1 hS;refine dl_core hv hfl hc (pr_good hv) hm ht ?_ hal ha hf hd;refine left_serves hv hfl hc (pr_good hv) (fun c hc=>pr_work hc) (α:=f0.at) a0 (fun n=>?_) hm;rcases hs n with g | ⟨u,hu,g⟩
    ·exact .inl g
    ·rcases Nat.eq_zero_or_pos u with rfl|hp
     ·rw [r2] at g;exact .inl (by simpa using g)
     ·rw [r3 u hp,hat,cvZ_at] at g;have e:sumAt (List.take 1 [f0,f1]) u=f0.at u:=by show(f0.at u+0)=_;omega
      rw [e] at g;exact .inr ⟨u,hu,by omega⟩
 ·rcases hd with ⟨_,_,_,_,rfl⟩|⟨h,_⟩
  ·exact DlG.err he
  ·exact absurd h he
end
end
end Go.Proofs.YtaejfleahamapaaGreat
