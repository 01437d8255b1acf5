/- Convolution: its values, in plain words. -/
import Derived.Test.YtaejfleahamapaaGreatPp2
namespace Go.Proofs.YtaejfleahamapaaGreat
set_option linter.unusedVariables false
set_option linter.unusedSimpArgs false
section
def rmx(r:Nat→Int)(lo:Int):Nat→Int
 | 0=>lo
 | k+1=>max (rmx r lo k) (r k)
theorem rmx_ge(r:Nat→Int)(lo:Int)(k:Nat):lo≤rmx r lo k:=by
 induction k with
 | zero=>exact Int.le_refl _
 | succ k ih=>show lo≤max _ _;omega
theorem rmx_val(r:Nat→Int)(lo:Int){k j:Nat}(h:j<k):r j≤rmx r lo k:=by
 induction k with
 | zero=>omega
 | succ k ih=>
   show r j≤max _ _
   rcases Nat.lt_or_ge j k with h1|h1
   ·have:=ih h1;omega
   ·obtain rfl:j=k:=by omega
    omega
theorem rmx_le{r:Nat→Int}{lo M:Int}{k:Nat}(h0:lo≤M)(h:∀j,j<k→r j≤M):rmx r lo k≤M:=by
 induction k with
 | zero=>exact h0
 | succ k ih=>
   show max _ _≤M
   have:=ih (fun j hj=>h j (by omega))
   have:=h k (by omega)
   omega
theorem rmx_at(r:Nat→Int)(lo:Int)(k:Nat):rmx r lo k=lo∨∃j,j<k∧rmx r lo k=r j:=by
 induction k with
 | zero=>exact .inl rfl
 | succ k ih=>
   show max _ _=_∨∃j,_∧max _ _=_
   by_cases h:rmx r lo k≤r k
   ·exact .inr ⟨k,by omega,by omega⟩
   ·rcases ih with h1 | ⟨j,hj,h1⟩
    ·exact .inl (by omega)
    ·exact .inr ⟨j,by omega,by omega⟩
theorem rmx_mono(r:Nat→Int)(lo:Int){k m:Nat}(h:k≤m):rmx r lo k≤rmx r lo m:=rmx_le (rmx_ge _ _ _) (fun j hj=>rmx_val _ _ (by omega))
def restV(a b:Cv)(t:Nat):Int:=rmx (dif a b) 0 (t+1)
def tailV(a b:Cv)(k:Nat):Int:=rmx (fun j=>dif a b (ordF a b+j)) (-4611686018427387904) k
def rstFrom(a b:Cv):Nat:=if 0<ordD a b then max 400 (ordF a b+ordC a b) else ordF a b+ordC a b
def rstPer(a b:Cv):Nat:=if 0<ordD a b then ordC a b else 1
def rstInc(a b:Cv):Int:=if 0<ordD a b then ordD a b else 0
def RstBad(a b:Cv):Prop:=0<ordD a b∧tailV a b (rstFrom a b+1-ordF a b)<rmx (dif a b) 0 (ordF a b)
section
variable{a b:Cv}
theorem rest_split(k:Nat):rmx (dif a b) 0 (ordF a b+k)=max (rmx (dif a b) 0 (ordF a b)) (tailV a b k):=by
 induction k with
 | zero=>
   have:=rmx_ge (dif a b) 0 (ordF a b)
   show rmx (dif a b) 0 (ordF a b)=max _ (-4611686018427387904)
   omega
 | succ k ih=>
   show max (rmx (dif a b) 0 (ordF a b+k)) (dif a b (ordF a b+k))=max _ (max (tailV a b k) (dif a b (ordF a b+k)))
   omega
theorem rest_up(a b:Cv):Up0 (restV a b):=⟨rmx_ge _ _ _,fun t=>rmx_mono _ _ (by omega)⟩
theorem rest_val(a b:Cv)(k:Nat):restV a b k=max (rmx (dif a b) 0 (min (k+1) (ordF a b))) (tailV a b (k+1-ordF a b)):=by
 by_cases h:k+1≤ordF a b
 ·rw [show min (k+1) (ordF a b)=k+1 by omega,show k+1-ordF a b=0 by omega];have:=rmx_ge (dif a b) 0 (k+1)
  show rmx (dif a b) 0 (k+1)=max _ (-4611686018427387904)
  omega
 ·rw [show min (k+1) (ordF a b)=ordF a b by omega];have:=rest_split (a:=a) (b:=b) (k+1-ordF a b)
  rw [show ordF a b+(k+1-ordF a b)=k+1 by omega] at this;exact this
theorem rest_per(ha:a.Fin)(hb:b.Fin)(hC:1≤ordC a b)(hbad:¬RstBad a b):Per (restV a b) (rstFrom a b) (rstPer a b) (rstInc a b):=by
 have P:=ord_per ha hb;obtain⟨F,hF⟩:∃F,F=ordF a b:=⟨_,rfl⟩
 obtain⟨C,hCe⟩:∃C,C=ordC a b:=⟨_,rfl⟩
 obtain⟨D,hD⟩:∃D,D=ordD a b:=⟨_,rfl⟩
 rw [← hF,← hCe,← hD] at P;rw [← hCe] at hC;by_cases hd:0<D
 ·have e1:rstPer a b=C:=by unfold rstPer;rw [← hD,if_pos hd,hCe]
  have e2:rstInc a b=D:=by unfold rstInc;rw [← hD,if_pos hd]
  have e3:rstFrom a b=max 400 (F+C):=by unfold rstFrom;rw [← hD,if_pos hd,← hF,← hCe]
  rw [e1,e2,e3];intro t ht;have hm:rmx (dif a b) 0 F≤tailV a b (max 400 (F+C)+1-F):=by
   rcases Int.lt_or_le (tailV a b (max 400 (F+C)+1-F)) (rmx (dif a b) 0 F) with h|h
   ·exact absurd ⟨by rw [← hD];exact hd,by rw [e3,← hF];exact h⟩ hbad
   ·exact h
  have key:∀u,max 400 (F+C)≤u→∃j,F≤j∧j≤u∧restV a b u=dif a b j:=by
   intro u hu;rcases rmx_at (dif a b) 0 (u+1) with h | ⟨j,hj,h⟩
   ·-- the value 0: then the tail is at most 0 as well
    have h1:tailV a b (max 400 (F+C)+1-F) = -4611686018427387904∨∃j,j<max 400 (F+C)+1-F∧tailV a b (max 400 (F+C)+1-F)=dif a b (ordF a b+j):=rmx_at _ _ _;have h2:=rmx_ge (dif a b) 0 F;rcases h1 with h1 | ⟨j,hj,h1⟩
    ·omega
    ·refine⟨F+j,by omega,by omega,?_⟩
     have h3:=rmx_val (dif a b) 0 (k:=u+1) (j:=F+j) (by omega);rw [← hF] at h1;show rmx (dif a b) 0 (u+1)=_
     omega
   ·by_cases hj2:F≤j
    ·exact⟨j,hj2,by omega,h⟩
    ·have h1:tailV a b (max 400 (F+C)+1-F) = -4611686018427387904∨∃j,j<max 400 (F+C)+1-F∧tailV a b (max 400 (F+C)+1-F)=dif a b (ordF a b+j):=rmx_at _ _ _;have h2:=rmx_ge (dif a b) 0 F;have h4:=rmx_val (dif a b) 0 (k:=F) (j:=j) (by omega);rcases h1 with h1 | ⟨i,hi,h1⟩
     ·omega
     ·refine⟨F+i,by omega,by omega,?_⟩
      have h3:=rmx_val (dif a b) 0 (k:=u+1) (j:=F+i) (by omega);rw [← hF] at h1;show rmx (dif a b) 0 (u+1)=_
      omega
  obtain⟨j,hj1,hj2,hj3⟩:=key t ht;obtain⟨i,hi1,hi2,hi3⟩:=key (t+C) (by omega);have a1:dif a b (j+C)≤restV a b (t+C):=rmx_val _ _ (by omega);rw [P j hj1] at a1;have a2:dif a b i≤restV a b t+D:=by
   by_cases hi4:F+C≤i
   ·have h1:=P (i-C) (by omega);rw [show i-C+C=i by omega] at h1;have h2:dif a b (i-C)≤restV a b t:=rmx_val _ _ (by omega);omega
   ·have h2:dif a b i≤restV a b t:=rmx_val _ _ (by omega);omega
  omega
 ·have e1:rstPer a b=1:=by unfold rstPer;rw [← hD,if_neg hd]
  have e2:rstInc a b=0:=by unfold rstInc;rw [← hD,if_neg hd]
  have e3:rstFrom a b=F+C:=by unfold rstFrom;rw [← hD,if_neg hd,← hF,← hCe]
  rw [e1,e2,e3];have low:∀t,dif a b t≤rmx (dif a b) 0 (F+C):=by
   intro t
   induction t using Nat.strongRecOn with
   | ind t ih=>
     by_cases ht:t<F+C
     ·exact rmx_val _ _ ht
     ·have h1:=P (t-C) (by omega);rw [show t-C+C=t by omega] at h1;have:=ih (t-C) (by omega)
      omega
  have con:∀t,F+C≤t+1→restV a b t=rmx (dif a b) 0 (F+C):=fun t ht=>by
   have h1:restV a b t≤rmx (dif a b) 0 (F+C):=rmx_le (rmx_ge _ _ _) (fun j _=>low j);have h2:rmx (dif a b) 0 (F+C)≤restV a b t:=rmx_mono _ _ ht;omega
  intro t ht;rw [con t (by omega),con (t+1) (by omega),Int.add_zero]
end
end
section
theorem least_ex{p:Nat→Prop}:∀n,p n→∃m,m≤n∧p m∧∀k,k<m→¬p k
 | 0,h=>⟨0,Nat.le_refl _,h,fun k hk=>by omega⟩
 | n+1,h=>by
   by_cases e:∃k,k≤n∧p k
   ·obtain⟨k,hk,hp⟩:=e;obtain⟨m,h1,h2⟩:=least_ex k hp;exact⟨m,by omega,h2⟩
   ·exact⟨n+1,Nat.le_refl _,h,fun k hk hp=>e ⟨k,by omega,hp⟩⟩
open Classical in
noncomputable def thr(p:Nat→Prop):Nat:=if h:∃n,p n∧∀k,k<n→¬p k then Classical.choose h else 0
theorem thr_iff{p:Nat→Prop}{N:Nat}(hN:p N)(hm:∀a b,a≤b→p a→p b)(y:Nat):p y↔thr p≤y:=by
 obtain⟨m,_,h1,h2⟩:=least_ex N hN;have hx:∃n,p n∧∀k,k<n→¬p k:=⟨m,h1,h2⟩
 have hs:=Classical.choose_spec hx;have e:thr p=Classical.choose hx:=by unfold thr;rw [dif_pos hx]
 rw [← e] at hs;constructor
 ·intro h;rcases Nat.lt_or_ge y (thr p) with g|g
  ·exact absurd h (hs.2 y g)
  ·exact g
 ·intro h;exact hm _ _ h hs.1
def AA(a b c z y:Int):Int:=y+a*((y+b) / c+1)+z
noncomputable def stN(C a b c z:Int)(t:Nat):Nat:=thr (fun y=>C*t≤AA a b c z y)
section
variable{C a b c z:Int}
theorem AA_mono(ha:0≤a)(hc:1≤c){x y:Int}(h:x≤y):AA a b c z x≤AA a b c z y:=by
 unfold AA;have h1:(x+b) / c≤(y+b) / c:=Int.ediv_le_ediv (by omega) (by omega);have h2:a*((x+b) / c+1)≤a*((y+b) / c+1):=Int.mul_le_mul_of_nonneg_left (by omega) ha;omega
theorem AA_ge(ha:0≤a)(hb:0≤b)(hc:1≤c)(hz:0≤z){y:Int}(hy:0≤y):y≤AA a b c z y:=by
 unfold AA;have h1:0≤(y+b) / c:=Int.ediv_nonneg (by omega) (by omega);have h2:=Int.mul_nonneg ha (show 0≤(y+b) / c+1 by omega);omega
theorem stN_iff(hC:0≤C)(ha:0≤a)(hb:0≤b)(hc:1≤c)(hz:0≤z)(t y:Nat):C*t≤AA a b c z y↔stN C a b c z t≤y:=by
 have h0:0≤C*t:=Int.mul_nonneg hC (by omega);refine thr_iff (p:=fun y=>C*t≤AA a b c z y) (N:=(C*t).toNat) ?_ (fun x y h k=>Int.le_trans k (AA_mono ha hc (by omega))) y;have:=AA_ge (y:=C*t) ha hb hc hz h0
 show C*t≤AA a b c z ((C*t).toNat:Int)
 rw [Int.toNat_of_nonneg h0];exact this
theorem stN_le(hC:0≤C)(ha:0≤a)(hb:0≤b)(hc:1≤c)(hz:0≤z)(t:Nat):(stN C a b c z t:Int)≤C*t:=by
 have h0:0≤C*t:=Int.mul_nonneg hC (by omega);have:=(stN_iff hC ha hb hc hz t (C*t).toNat).1 (by rw [Int.toNat_of_nonneg h0];exact AA_ge ha hb hc hz h0)
 omega
theorem stN_serve(hC:0≤C)(ha:0≤a)(hb:0≤b)(hc:1≤c)(hz:0≤z){t:Nat}{y:Int}(hy:0≤y)(h:C*t≤AA a b c z y):(stN C a b c z t:Int)≤y:=by
 obtain⟨y,rfl⟩:=Int.eq_ofNat_of_zero_le hy;have:=(stN_iff hC ha hb hc hz t y).1 h
 omega
theorem stN_up(hC:0≤C)(ha:0≤a)(hb:0≤b)(hc:1≤c)(hz:0≤z):Up0 (fun t=>(stN C a b c z t:Int)):=by
 refine⟨by simp,fun t=>?_⟩
 have h1:=(stN_iff hC ha hb hc hz (t+1) (stN C a b c z (t+1))).2 (Nat.le_refl _);rw [show C*((t+1:Nat):Int)=C*t+C by rw [Int.natCast_add,Int.mul_add];simp] at h1;have:=(stN_iff hC ha hb hc hz t (stN C a b c z (t+1))).1 (by omega)
 show(stN C a b c z t:Int)≤stN C a b c z (t+1)
 omega
theorem AA_add(hc:1≤c)(y k:Int):AA a b c z (y+k*c)=AA a b c z y+k*(a+c):=by
 unfold AA;rw [show y+k*c+b=y+b+k*c by omega,Int.add_mul_ediv_right _ _ (by omega),Int.mul_add k,show(y+b) / c+k+1=(y+b) / c+1+k by omega,Int.mul_add a ((y+b) / c+1) k,Int.mul_comm k a];omega
theorem stN_per(hC:0≤C)(ha:0≤a)(hb:0≤b)(hc:1≤c)(hz:0≤z){st P:Nat}{k:Int}(hk:0≤k)(hP:C*P=k*(a+c))(hst:AA a b c z (-1)<C*st):Per (fun t=>(stN C a b c z t:Int)) st P (k*c):=by
 intro t ht;show(stN C a b c z (t+P):Int)=stN C a b c z t+k*c
 have hkc:0≤k*c:=Int.mul_nonneg hk (by omega);have e:C*((t+P:Nat):Int)=C*t+k*(a+c):=by rw [Int.natCast_add,Int.mul_add,hP]
 have hct:C*st≤C*t:=Int.mul_le_mul_of_nonneg_left (by omega) hC;have up:(stN C a b c z (t+P):Int)≤stN C a b c z t+k*c:=by
  refine stN_serve hC ha hb hc hz (by omega) ?_;rw [e,AA_add hc];have:=(stN_iff hC ha hb hc hz t (stN C a b c z t)).2 (Nat.le_refl _)
  omega
 have lo:stN C a b c z t+k*c≤(stN C a b c z (t+P):Int):=by
  have h1:=(stN_iff hC ha hb hc hz (t+P) (stN C a b c z (t+P))).2 (Nat.le_refl _);rw [e] at h1;rw [show((stN C a b c z (t+P):Nat):Int)=(stN C a b c z (t+P):Int)-k*c+k*c by omega,AA_add hc] at h1;rcases Int.lt_or_le ((stN C a b c z (t+P):Int)-k*c) 0 with g|g
  ·exfalso
   have:=AA_mono (b:=b) (z:=z) ha hc (show(stN C a b c z (t+P):Int)-k*c≤-1 by omega)
   omega
  ·have:=stN_serve (t:=t) hC ha hb hc hz g (by omega)
   omega
 omega
end
def SvS(P:Cv→Prop)(f:Cv)(er:Int):Prop:=f.vals.length≤400∧(er=0→f.Fin∧P f)
theorem SvS.made{h:Nat→Int}{P:Cv→Prop}{f:Cv}{er:Int}(m:MadeS h f er)(H:Up0 h)(hn:∀t,t≤400→h t≠inf)(hP:∀f:Cv,f.Ok→(∀t,f.at t=h t)→P f):SvS P f er:=by
 rcases m.get H with ⟨rfl,h1,h2⟩|⟨rfl,rfl⟩
 ·refine⟨h1.n2,fun _=>⟨⟨h1,?_⟩,hP f h1 h2.at⟩⟩
  have n1:=h1.n1;have n2:=h1.n2;rw [← Cv.at_lt (by omega),h2.at];exact hn _ (by omega)
 ·exact⟨by decide,fun h=>by omega⟩
theorem SvS.none{P:Cv→Prop}{er:Int}(h:er≠0):SvS P Cv.none er:=⟨by decide,fun e=>absurd e h⟩
end
section
theorem lim_of{h:Nat→Int}(hu:Up0 h){p:Nat}{i:Int}(hp:1≤p)(hp2:p≤120)(H:Per h 1 p i)(hb:∀t,t≤p→h t≤1073741824)(hi:i≤1073741824):∃g,NF h g∧Lim g∧g.Ok:=by
 obtain⟨g,hg,hl,hq⟩:=nf_exists hp H (fun t ht=>by have:=hb t (by omega);unfold inf;omega);have hp1:=hg.p1;have hpn:=hg.pn;have hinc:g.inc≤i:=by
  have h1:=hg.per (1+g.vals.length) (by omega);have h2:=H (1+g.vals.length) (by omega);have h3:=hu.le (show 1+g.vals.length+g.per.toNat≤1+g.vals.length+p by omega);omega
 have hL:Lim g:=⟨by omega,fun k hk=>(okv_iff _).2 (.inr (by rw [hg.vals k hk];exact hb k (by omega))),by omega,by omega⟩
 exact⟨g,.inl hg,hL,nf_lim_ok (.inl hg) hu hL⟩
theorem MadeS.eq{h:Nat→Int}{f g:Cv}{er:Int}(m:MadeS h f er)(hg:NF h g)(hl:Lim g):f=g∧er=0:=MadeS.unique m ⟨g,hg,.inl ⟨hl,rfl,rfl⟩⟩
/-! ### Token buckets: burst B / b, rate R / r -/
def tokV(B b R r:Int)(t:Nat):Int:=if t=0 then 0 else (B*r+R*((t:Int)-1)*b) / (b*r)
theorem tok_parts{B b X r:Int}(hb:1≤b)(hr:1≤r):(B*r+X*b) / (b*r)=B / b+X / r+(B % b*r+X % r*b) / (b*r):=by
 have hbr:b*r≠0:=by
  have:0<b*r:=Int.mul_pos (by omega) (by omega)
  omega
 have h1:=Int.mul_ediv_add_emod B b;have h2:=Int.mul_ediv_add_emod X r;have e:B*r+X*b=(B % b*r+X % r*b)+(b*r)*(B / b+X / r):=by
  generalize B / b=u at *;generalize B % b=v at *;generalize X / r=y at *;generalize X % r=z at *;subst h1 h2;simp only [Int.add_mul,Int.mul_add];have e1:b*u*r=b*r*u:=by rw [Int.mul_assoc,Int.mul_comm u r,← Int.mul_assoc]
  have e2:r*y*b=b*r*y:=by rw [Int.mul_comm (r*y) b,← Int.mul_assoc]
  rw [e1,e2];omega
 rw [e,Int.add_mul_ediv_left _ _ hbr];omega
theorem tok_zero(B b R r:Int):tokV B b R r 0=0:=rfl
theorem tok_pos(B b R r:Int){t:Nat}(ht:1≤t):tokV B b R r t=(B*r+R*((t:Int)-1)*b) / (b*r):=if_neg (by omega)
theorem tok_per{B b R r:Int}(hb:1≤b)(hr:1≤r):Per (tokV B b R r) 1 r.toNat R:=by
 intro t ht;have hbr:b*r≠0:=by
  have:0<b*r:=Int.mul_pos (by omega) (by omega)
  omega
 rw [tok_pos _ _ _ _ (by omega),tok_pos _ _ _ _ ht];have e:B*r+R*(((t+r.toNat:Nat):Int)-1)*b=B*r+R*((t:Int)-1)*b+(b*r)*R:=by
  have h1:(((t+r.toNat:Nat):Int)-1)=((t:Int)-1)+r:=by omega
  rw [h1,Int.mul_add,Int.add_mul];have e1:R*r*b=b*r*R:=by rw [Int.mul_comm,Int.mul_comm R r,← Int.mul_assoc]
  rw [e1];omega
 rw [e,Int.add_mul_ediv_left _ _ hbr]
theorem tok_up{B b R r:Int}(hB:0≤B)(hb:1≤b)(hR:0≤R)(hr:1≤r):Up0 (tokV B b R r):=by
 have hbr:0<b*r:=Int.mul_pos (by omega) (by omega);have hBr:0≤B*r:=Int.mul_nonneg hB (by omega);refine⟨Int.le_refl _,fun t=>?_⟩
 have hpos:∀t:Nat,1≤t→0≤R*((t:Int)-1)*b:=fun t ht=>Int.mul_nonneg (Int.mul_nonneg hR (by omega)) (by omega)
 by_cases h0:t=0
 ·subst h0;rw [tok_zero,tok_pos _ _ _ _ (by omega)];have:=hpos 1 (by omega)
  exact Int.ediv_nonneg (by omega) (by omega)
 ·rw [tok_pos _ _ _ _ (by omega),tok_pos _ _ _ _ (by omega)];refine Int.ediv_le_ediv hbr ?_;have:R*((t:Int)-1)*b≤R*(((t+1:Nat):Int)-1)*b:=
   Int.mul_le_mul_of_nonneg_right (Int.mul_le_mul_of_nonneg_left (by omega) hR) (by omega)
  omega
theorem tok_le{B b R r:Int}(hB:0≤B)(hb:1≤b)(hR:0≤R)(hr:1≤r){t:Nat}(ht:1≤t):tokV B b R r t≤B+R*((t:Int)-1):=by
 have hbr:0<b*r:=Int.mul_pos (by omega) (by omega);rw [tok_pos _ _ _ _ ht];have hX:0≤R*((t:Int)-1):=Int.mul_nonneg hR (by omega);obtain⟨X,hXe⟩:∃X,X=R*((t:Int)-1):=⟨_,rfl⟩
 rw [← hXe] at hX ⊢;have h1:B*r≤B*(b*r):=Int.mul_le_mul_of_nonneg_left (by
  have:1*r≤b*r:=Int.mul_le_mul_of_nonneg_right hb (by omega)
  omega) hB
 have h2:X*b≤X*(b*r):=Int.mul_le_mul_of_nonneg_left (by
  have:b*1≤b*r:=Int.mul_le_mul_of_nonneg_left hr (by omega)
  omega) hX
 have h3:(B*r+X*b) / (b*r)≤((B+X)*(b*r)) / (b*r):=Int.ediv_le_ediv hbr (by rw [Int.add_mul];omega);rw [Int.mul_ediv_cancel _ (by omega)] at h3;exact h3
/-! ### Staircases: S bytes every E ticks, A ticks ahead -/
end
section
section
variable{R r L l:Int}
end
end
section
theorem made_fin{h:Nat→Int}{r:Cv}{er:Int}(m:MadeL h r er)(H:Up0 h){s p:Nat}{i:Int}(hp:1≤p)(P:Per h s p i)(hsp:s+p≤400)(hp2:p≤120)(hv:∀t,t<s+p→h t≤1073741824)(hi:i≤1073741824) :
 er=0∧r.Ok∧NF h r∧r.Fin:=by
 obtain⟨g,hg,h1,h2⟩:=nf_exists hp P (fun t ht=>by have:=hv t ht;unfold inf;omega);have gp1:=hg.p1;have gpn:=hg.pn;have hinc:g.inc≤1073741824:=by
  have h3:=hg.per (g.vals.length-g.per.toNat) (Nat.le_refl _);rw [show g.vals.length-g.per.toNat+g.per.toNat=g.vals.length by omega] at h3;have h4:=H.nn (g.vals.length-g.per.toNat);by_cases e:g.vals.length<s+p
  ·have:=hv _ e;omega
  ·have h5:=P s (Nat.le_refl _);have h6:=H.le (show s≤g.vals.length-g.per.toNat by omega);rw [show g.vals.length=s+p by omega] at h3 h6;omega
 have hl:Lim g:=⟨by omega,fun k hk=>(okv_iff _).2 (.inr (by rw [hg.vals k hk];exact hv k (by omega))),by omega,hinc⟩
 obtain⟨rfl,rfl⟩:=m.is (.inl hg) hl;have ok:=nf_lim_ok (.inl hg) H hl;have hn:=ok.n1;exact⟨rfl,ok,.inl hg,ok,by rw [hg.vals _ (by omega)];exact hg.fin _ (by omega)⟩
/-! ### The statement PointwiseUndoes -/
end
section
def CSp(f g:Cv)(t s:Nat):Prop:=s≤t∧¬f.infAt s∧¬g.infAt (t-s)
def CvI(f g:Cv)(lo t S:Nat)(v:Int):Prop:=
 ((∀s,lo≤s→s<S→¬CSp f g t s)∧v=inf)∨
 ((∃s,lo≤s∧s<S∧CSp f g t s∧v=f.at s+g.at (t-s))∧∀s,lo≤s→s<S→CSp f g t s→v≤f.at s+g.at (t-s))
def CvT(f g:Cv)(t:Nat)(v:Int):Prop:=CvI f g 0 t (t+1) v
def CvF(f g:Cv)(h:Nat→Int):Prop:=∀t,CvT f g t (h t)
theorem CvI.zero(f g:Cv)(lo t:Nat):CvI f g lo t lo inf:=.inl ⟨fun s h1 h2=>by omega,rfl⟩
theorem CvI.unique{f g:Cv}{lo t S:Nat}{v v':Int}(h:CvI f g lo t S v)(k:CvI f g lo t S v'):v=v':=by
 rcases h with ⟨h1,rfl⟩|⟨⟨s,h0,h1,h2,h3⟩,h4⟩ <;> rcases k with ⟨k1,rfl⟩|⟨⟨s',k0,k1,k2,k3⟩,k4⟩
 ·rfl
 ·exact absurd k2 (h1 _ k0 k1)
 ·exact absurd h2 (k1 _ h0 h1)
 ·have:=h4 _ k0 k1 k2;have:=k4 _ h0 h1 h2;omega
section
variable{f g:Cv}{lo t S:Nat}{v:Int}
theorem CvI.skip(h:CvI f g lo t S v)(h1:¬CSp f g t S):CvI f g lo t (S+1) v:=by
 rcases h with ⟨h2,rfl⟩|⟨⟨s,h0,h2,h3,h4⟩,h5⟩
 ·refine .inl ⟨fun s k1 k2=>?_,rfl⟩;rcases Nat.lt_or_ge s S with h|h
  ·exact h2 s k1 h
  ·rw [show s=S by omega];exact h1
 ·refine .inr ⟨⟨s,h0,by omega,h3,h4⟩,fun s' k1 k2 k3=>?_⟩;rcases Nat.lt_or_ge s' S with h|h
  ·exact h5 s' k1 h k3
  ·exact absurd (show CSp f g t S by rwa [show S=s' by omega]) h1
theorem CvI.more(h:CvI f g lo t S v)(hl:lo≤S)(h1:CSp f g t S)(h2:(∀s,lo≤s→s<S→¬CSp f g t s)∨f.at S+g.at (t-S)≤v):CvI f g lo t (S+1) (f.at S+g.at (t-S)):=by
 refine .inr ⟨⟨S,hl,by omega,h1,rfl⟩,fun s' k1 k2 k3=>?_⟩;rcases Nat.lt_or_ge s' S with h3|h3
 ·rcases h2 with h2|h2
  ·exact absurd k3 (h2 s' k1 h3)
  ·rcases h with ⟨h4,_⟩|⟨_,h4⟩
   ·exact absurd k3 (h4 s' k1 h3)
   ·have:=h4 s' k1 h3 k3;omega
 ·rw [show s'=S by omega];exact Int.le_refl _
theorem CvI.keep(h:CvI f g lo t S v)(h1:v≤f.at S+g.at (t-S))(h2:f.at S+g.at (t-S)<inf):CvI f g lo t (S+1) v:=by
 rcases h with ⟨h3,rfl⟩|⟨⟨s,h0,h3,h4,h5⟩,h6⟩
 ·omega
 ·refine .inr ⟨⟨s,h0,by omega,h4,h5⟩,fun s' k1 k2 k3=>?_⟩;rcases Nat.lt_or_ge s' S with h|h
  ·exact h6 s' k1 h k3
  ·rw [show s'=S by omega];exact h1
theorem cvI_exists(f g:Cv)(lo t:Nat)(S:Nat)(hS:lo≤S):∃v,CvI f g lo t S v:=by
 induction S with
 | zero=>rw [show lo=0 by omega];exact⟨inf,CvI.zero f g 0 t⟩
 | succ S ih=>
   rcases Nat.lt_or_ge S lo with h|h
   ·rw [show lo=S+1 by omega];exact⟨inf,CvI.zero f g _ t⟩
   ·obtain⟨v,hv⟩:=ih h;by_cases hc:CSp f g t S
    ·rcases hv with ⟨h1,h2⟩|⟨h1,h2⟩
     ·exact⟨_,CvI.more (.inl ⟨h1,h2⟩) h hc (.inl h1)⟩
     ·rcases (show v≤f.at S+g.at (t-S)∨f.at S+g.at (t-S)<v by omega) with h3|h3
      ·obtain⟨s,k0,k1,k2,k3⟩:=h1;refine⟨v,.inr ⟨⟨s,k0,by omega,k2,k3⟩,fun s' m1 m2 m3=>?_⟩⟩
       rcases Nat.lt_or_ge s' S with h|h
       ·exact h2 s' m1 h m3
       ·rw [show s'=S by omega];exact h3
      ·exact⟨_,CvI.more (.inr ⟨h1,h2⟩) h hc (.inr (by omega))⟩
    ·exact⟨v,hv.skip hc⟩
theorem CSp.symm{s:Nat}(h:CSp f g t s):CSp g f t (t-s):=⟨by omega,h.2.2,by rw [show t-(t-s)=s by have:=h.1;omega];exact h.2.1⟩
theorem CvT.none(h:∀s,¬CSp f g t s):CvT f g t inf:=.inl ⟨fun s _ _=>h s,rfl⟩
theorem CvT.cases(h:CvT f g t v):((∀s,¬CSp f g t s)∧v=inf)∨((∃s,CSp f g t s∧v=f.at s+g.at (t-s))∧∀s,CSp f g t s→v≤f.at s+g.at (t-s)):=by
 rcases h with ⟨h1,rfl⟩|⟨⟨s,_,h2,h3,h4⟩,h5⟩
 ·exact .inl ⟨fun s hs=>h1 s (Nat.zero_le _) (by have:=hs.1;omega) hs,rfl⟩
 ·exact .inr ⟨⟨s,h3,h4⟩,fun s' hs=>h5 s' (Nat.zero_le _) (by have:=hs.1;omega) hs⟩
theorem CvT.of(h:((∀s,¬CSp f g t s)∧v=inf)∨((∃s,CSp f g t s∧v=f.at s+g.at (t-s))∧∀s,CSp f g t s→v≤f.at s+g.at (t-s))):CvT f g t v:=by
 rcases h with ⟨h1,rfl⟩|⟨⟨s,h3,h4⟩,h5⟩
 ·exact CvT.none h1
 ·exact .inr ⟨⟨s,Nat.zero_le _,by have:=h3.1;omega,h3,h4⟩,fun s' _ _ hs=>h5 s' hs⟩
theorem CvT.symm(h:CvT f g t v):CvT g f t v:=by
 rcases h.cases with ⟨h1,rfl⟩|⟨⟨s,h3,h4⟩,h5⟩
 ·exact CvT.none fun s hs=>h1 _ hs.symm
 ·refine CvT.of (.inr ⟨⟨t-s,h3.symm,?_⟩,fun s' hs=>?_⟩)
  ·rw [show t-(t-s)=s by have:=h3.1;omega];omega
  ·have:=h5 _ hs.symm
   rw [show t-(t-s')=s' by have:=hs.1;omega] at this;omega
end
theorem CvF.symm{f g:Cv}{h:Nat→Int}(H:CvF f g h):CvF g f h:=fun t=>(H t).symm
theorem CvF.unique{f g:Cv}{h h':Nat→Int}(H:CvF f g h)(K:CvF f g h'):h=h':=funext fun t=>(H t).unique (K t)
theorem cvF_exists(f g:Cv):∃h,CvF f g h:=
 ⟨fun t=>(cvI_exists f g 0 t (t+1) (by omega)).choose,fun t=>(cvI_exists f g 0 t (t+1) (by omega)).choose_spec⟩
theorem CvF.nf{f g a b:Cv}(hf:f.Ok)(hg:g.Ok)(ha:NF f.at a)(hb:NF g.at b){h:Nat→Int}(H:CvF a b h):CvF f g h:=fun t=>by
 have e:∀s,CSp a b t s↔CSp f g t s:=fun s=>by unfold CSp;rw [ha.inf_iff hf,hb.inf_iff hg]
 refine CvT.of ?_;rcases (H t).cases with ⟨h1,h2⟩|⟨⟨s,h3,h4⟩,h5⟩
 ·exact .inl ⟨fun s hs=>h1 s ((e s).2 hs),h2⟩
 ·rw [ha.at,hb.at] at h4;refine .inr ⟨⟨s,(e s).1 h3,h4⟩,fun s' hs=>?_⟩;have:=h5 s' ((e s').2 hs)
  rwa [ha.at,hb.at] at this
/-! ### Functions without infinite values -/
def Conv(A B h:Nat→Int):Prop:=∀t,(∃s,s≤t∧h t=A s+B (t-s))∧∀s,s≤t→h t≤A s+B (t-s)
section
variable{A B h:Nat→Int}{sa sb L:Nat}{Ga Gb:Int}
theorem conv_eq{G:Int}(hA:Per A sa L G)(hB:Per B sb L G)(H:Conv A B h):Per h (sa+sb+L) L G:=by
 intro t ht;obtain⟨⟨s,hs,e⟩,hmin⟩:=H t;obtain⟨⟨s',hs',e'⟩,hmin'⟩:=H (t+L);have h1:h (t+L)≤h t+G:=by
  rcases Nat.lt_or_ge s sa with k|k
  ·have k1:=hmin' s (by omega);have k2:=hB (t-s) (by omega);rw [show t-s+L=t+L-s by omega] at k2;omega
  ·have k1:=hmin' (s+L) (by omega);have k2:=hA s k;rw [show t+L-(s+L)=t-s by omega] at k1;omega
 have h2:h t≤h (t+L)-G:=by
  rcases Nat.lt_or_ge s' (sa+L) with k|k
  ·have k1:=hmin s' (by omega);have k2:=hB (t-s') (by omega);rw [show t-s'+L=t+L-s' by omega] at k2;omega
  ·have k1:=hmin (s'-L) (by omega);have k2:=hA (s'-L) (by omega);rw [show s'-L+L=s' by omega] at k2;rw [show t-(s'-L)=t+L-s' by omega] at k1;omega
 omega
def Att(A B:Nat→Int)(sa t:Nat)(v:Int):Prop:=∃s,sa≤s∧s≤t∧v=A s+B (t-s)
theorem att_far(hA:Per A sa L Ga)(hB:Per B sb L Gb)(hG:Ga<Gb)(H:Conv A B h){t s:Nat}(hs:sa≤s)(hst:s≤t)(e:h t=A s+B (t-s)):t-s<sb+L:=by
 rcases Nat.lt_or_ge (t-s) (sb+L) with k|k
 ·exact k
 ·exfalso
  have k1:=(H t).2 (s+L) (by omega);have k2:=hA s hs;have k3:=hB (t-s-L) (by omega);rw [show t-s-L+L=t-s by omega] at k3;rw [show t-(s+L)=t-s-L by omega] at k1;omega
theorem att_next(hA:Per A sa L Ga)(hB:Per B sb L Gb)(hG:Ga<Gb)(H:Conv A B h){t:Nat}(ht:sa+sb≤t)(h0:Att A B sa t (h t)):Att A B sa (t+L) (h (t+L)):=by
 obtain⟨s,h1,h2,h3⟩:=h0;obtain⟨⟨s',hs',e'⟩,hmin'⟩:=H (t+L);rcases Nat.lt_or_ge s' sa with k|k
 ·exfalso
  have k1:=(H t).2 s' (by omega);have k2:=hB (t-s') (by omega);rw [show t-s'+L=t+L-s' by omega] at k2;have k3:=hmin' (s+L) (by omega);have k4:=hA s h1;rw [show t+L-(s+L)=t-s by omega] at k3;omega
 ·exact⟨s',k,hs',e'⟩
theorem att_all(hA:Per A sa L Ga)(hB:Per B sb L Gb)(hG:Ga<Gb)(H:Conv A B h)(hL:1≤L){T:Nat}(hT:sa+sb≤T)(h0:∀t,T≤t→t<T+L→Att A B sa t (h t))(t:Nat)(ht:T≤t):Att A B sa t (h t):=by
 obtain⟨r,m,hr,rfl⟩:=res_of hL ht
 induction m with
 | zero=>rw [Nat.zero_mul,Nat.add_zero];exact h0 _ (by omega) (by omega)
 | succ m ih=>
   have:=att_next hA hB hG H (by omega) (ih (by omega))
   rwa [show T+r+m*L+L=T+r+(m+1)*L by rw [Nat.add_mul];omega] at this
theorem att_per(hA:Per A sa L Ga)(hB:Per B sb L Gb)(hG:Ga<Gb)(H:Conv A B h){p:Nat}{i:Int}(hp:Per A sa p i){T:Nat}(hT:sa+sb+L≤T)(h0:∀t,T≤t→Att A B sa t (h t)):Per h T p i:=by
 intro t ht;obtain⟨s,h1,h2,h3⟩:=h0 t ht;obtain⟨s',k1,k2,k3⟩:=h0 (t+p) (by omega);have m1:=att_far hA hB hG H k1 k2 k3;have e1:=(H (t+p)).2 (s+p) (by omega);have e2:=hp s h1;rw [show t+p-(s+p)=t-s by omega] at e1;have e3:=(H t).2 (s'-p) (by omega);have e4:=hp (s'-p) (by omega);rw [show s'-p+p=s' by omega] at e4;rw [show t-(s'-p)=t+p-s' by omega] at e3;omega
theorem att_of_per(hA:Per A sa L Ga)(hB:Per B sb L Gb)(hG:Ga<Gb)(H:Conv A B h){q S:Nat}{b:Int}(hq:1≤q)(hP:Per h S q b){t0:Nat}(ht0:sa+sb+L≤t0)(hS:S≤t0):Att A B sa t0 (h t0):=by
 have p1:=hA.mul q;have p2:=hB.mul q;have p3:=hP.mul L;rw [Nat.mul_comm L q] at p3;have hqq:(q:Int)*(Ga+1)≤(q:Int)*Gb:=Int.mul_le_mul_of_nonneg_left (by omega) (by omega);rw [Int.mul_add,Int.mul_one] at hqq;generalize (q:Int)*Ga=X at *;generalize (q:Int)*Gb=Y at *;generalize (L:Int)*b=Z at *;generalize hQ:q*L=Q at *;have hXZ:Z≤X:=by
  have key:∀m:Nat,h t0+m*Z≤A t0+B 0+m*X:=fun m=>by
   have e1:=p1.mul m t0 (by omega);have e3:=p3.mul m t0 (by omega);have e4:=(H (t0+m*Q)).2 (t0+m*Q) (Nat.le_refl _);rw [Nat.sub_self] at e4;omega
  have k:=key (A t0+B 0-h t0+1).toNat;have k0:=key 0;rw [show((A t0+B 0-h t0+1).toNat:Int)=A t0+B 0-h t0+1 by omega] at k;rcases (show Z≤X∨X<Z by omega) with h'|h'
  ·exact h'
  ·exfalso
   have:(A t0+B 0-h t0+1)*(X+1)≤(A t0+B 0-h t0+1)*Z:=Int.mul_le_mul_of_nonneg_left (by omega) (by omega)
   rw [Int.mul_add,Int.mul_one] at this;omega
 obtain⟨⟨s,hs,e⟩,hmin⟩:=H (t0+Q);have e3:=p3 t0 (by omega);rcases Nat.lt_or_ge s sa with k|k
 ·exfalso
  have k1:=(H t0).2 s (by omega);have k2:=p2 (t0-s) (by omega);rw [show t0-s+Q=t0+Q-s by omega] at k2;omega
 ·have m1:=att_far hA hB hG H k hs e;have k2:=p1 (s-Q) (by omega);rw [show s-Q+Q=s by omega] at k2;have k1:=(H t0).2 (s-Q) (by omega);rw [show t0-(s-Q)=t0+Q-s by omega] at k1;exact⟨s-Q,by omega,by omega,by rw [show t0-(s-Q)=t0+Q-s by omega];omega⟩
end
theorem cvF_fin{a b:Cv}(fa:a.Fin)(fb:b.Fin){h:Nat→Int}(H:CvF a b h):Conv a.at b.at h:=fun t=>by
 have c:∀s,s≤t→CSp a b t s:=fun s hs=>⟨hs,fa.not_infAt _,fb.not_infAt _⟩
 rcases (H t).cases with ⟨h1,_⟩|⟨⟨s,h3,h4⟩,h5⟩
 ·exact absurd (c 0 (Nat.zero_le _)) (h1 0)
 ·exact⟨⟨s,h3.1,h4⟩,fun s' hs=>h5 s' (c s' hs)⟩
/-! ### Infinite values -/
section
variable{a b:Cv}{h:Nat→Int}
theorem csp_later(ha:a.Ok)(hb:b.Ok){t u:Nat}(htu:t≤u)(h:∀s,¬CSp a b t s):∀s,¬CSp a b u s:=fun s ⟨h1,h2,h3⟩=>by
 rcases Nat.lt_or_ge t s with k|k
 ·exact h t ⟨Nat.le_refl _,fun e=>h2 (e.later ha (by omega)),fun e=>h3 (e.later hb (by omega))⟩
 ·exact h s ⟨k,h2,fun e=>h3 (e.later hb (by omega))⟩
theorem csp_bd(ha:a.Ok)(hb:b.Ok){t s:Nat}(ht:t≤2000)(h:CSp a b t s):0≤a.at s+b.at (t-s)∧a.at s+b.at (t-s)≤8000000000000:=by
 have bd:∀{c:Cv} (hc:c.Ok) {u:Nat},u≤2000→¬c.infAt u→0≤c.at u∧c.at u≤4000000000000:=fun {c} hc {u} hu hi=>by
  rcases hc.fin_or with fc|ic
  ·have h2:=fc.at_bd u;have:(u:Int)*1073741824≤2000*1073741824:=Int.mul_le_mul_of_nonneg_right (by omega) (by omega)
   omega
  ·have hlt:u<400:=by
    rcases Nat.lt_or_ge u 400 with hh|hh
    ·exact hh
    ·exact absurd ⟨ic,hc.at_inf ic (by have:=hc.n2;omega)⟩ hi
   have:=hc.fin_bd hi hlt
   omega
 have h1:=bd ha (u:=s) (by have:=h.1;omega) h.2.1;have h2:=bd hb (u:=t-s) (by omega) h.2.2;omega
theorem cv_bd(ha:a.Ok)(hb:b.Ok)(H:CvF a b h){t:Nat}(ht:t≤2000):((∀s,¬CSp a b t s)∧h t=inf)∨(0≤h t∧h t≤8000000000000):=by
 rcases (H t).cases with h1 | ⟨⟨s,h3,h4⟩,h5⟩
 ·exact .inl h1
 ·have:=csp_bd ha hb ht h3
  exact .inr (by omega)
theorem cv_small(ha:a.Ok)(hb:b.Ok)(H:CvF a b h){t:Nat}(ht:t≤2000):0≤h t∧h t≤4611686018427387904:=by
 rcases cv_bd ha hb H ht with ⟨_,h1⟩|h1
 ·rw [h1];unfold inf;omega
 ·omega
theorem cv_hinf(ha:a.Ok)(hb:b.Ok)(H:CvF a b h){t u:Nat}(ht:t≤2000)(htu:t≤u)(hi:h t=inf):h u=inf:=by
 rcases cv_bd ha hb H ht with ⟨h1,_⟩|h1
 ·exact(H u).unique (CvT.none (csp_later ha hb htu h1))
 ·unfold inf at hi;omega
theorem cv_up(ha:a.Ok)(hb:b.Ok)(H:CvF a b h):Up0 h:=by
 refine⟨(cv_small ha hb H (by omega)).1,fun t=>?_⟩
 rcases (H t).cases with ⟨h1,h2⟩|⟨⟨s,h3,h4⟩,h5⟩
 ·rw [h2,(H (t+1)).unique (CvT.none (csp_later ha hb (by omega) h1))];exact Int.le_refl _
 ·rcases (H (t+1)).cases with ⟨k1,k2⟩|⟨⟨s',k3,k4⟩,k5⟩
  ·rw [k2];rcases Nat.lt_or_ge t 2000 with k|k
   ·have:=(cv_small ha hb H (t:=t) (by omega)).2;unfold inf;omega
   ·exfalso
    have n1:=ha.n2;have n2:=hb.n2;by_cases fa:a.Fin
    ·by_cases fb:b.Fin
     ·exact k1 0 ⟨by omega,fa.not_infAt _,fb.not_infAt _⟩
     ·have ib:=hb.fin_or.resolve_left fb;refine k1 (s+1) ⟨by have:=h3.1;omega,fa.not_infAt _,fun e=>?_⟩;rw [show t+1-(s+1)=t-s by omega] at e;exact h3.2.2 e
    ·have ia:=ha.fin_or.resolve_left fa;refine k1 s ⟨by have:=h3.1;omega,h3.2.1,fun e=>?_⟩;by_cases fb:b.Fin
     ·exact fb.not_infAt _ e
     ·have ib:=hb.fin_or.resolve_left fb;have hs:s<400:=by
       rcases Nat.lt_or_ge s 400 with q|q
       ·exact q
       ·exact absurd ⟨ia,ha.at_inf ia (by omega)⟩ h3.2.1
      exact h3.2.2 ⟨ib,hb.at_inf ib (by omega)⟩
  ·rcases Nat.lt_or_ge t s' with k|k
   ·have e:s'=t+1:=by have:=k3.1;omega
    subst e;have k6:=h5 t ⟨Nat.le_refl _,fun e=>k3.2.1 (e.later ha (by omega)),by have:=k3.2.2;rwa [Nat.sub_self] at this ⊢⟩;have k7:=ha.at_mono t;rw [Nat.sub_self] at k4 k6;omega
   ·have k6:=h5 s' ⟨k,k3.2.1,fun e=>k3.2.2 (e.later hb (by omega))⟩;have k7:=hb.at_le (show t-s'≤t+1-s' by omega);omega
theorem cv_one(fa:a.Fin)(hb:b.Ok)(ib:nth b.vals (b.vals.length-1)=inf)(H:CvF a b h)(hne:h 0≠inf):Per h (a.vals.length-a.per.toNat+(b.vals.length-b.per.toNat)) a.per.toNat a.inc:=by
 obtain⟨sa,hsa⟩:∃sa,sa=a.vals.length-a.per.toNat:=⟨_,rfl⟩
 obtain⟨sb,hsb⟩:∃sb,sb=b.vals.length-b.per.toNat:=⟨_,rfl⟩
 have hA:=fa.toL.step;rw [← hsa] at hA ⊢;rw [← hsb];have far:∀t s,CSp a b t s→t-s<sb:=fun t s hs=>by
  rcases Nat.lt_or_ge (t-s) sb with k|k
  ·exact k
  ·exact absurd (hb.infAt_start ib (by omega)) hs.2.2
 have hb0:¬b.infAt 0:=by
  rcases (H 0).cases with ⟨_,h2⟩|⟨⟨s,h3,_⟩,_⟩
  ·exact absurd h2 hne
  ·have:=h3.2.2;rwa [Nat.zero_sub] at this
 have val:∀t,(∃s,CSp a b t s∧h t=a.at s+b.at (t-s))∧∀s,CSp a b t s→h t≤a.at s+b.at (t-s):=fun t=>by
  rcases (H t).cases with ⟨h1,_⟩|h1
  ·exact absurd ⟨Nat.le_refl _,fa.not_infAt _,by rw [Nat.sub_self];exact hb0⟩ (h1 t)
  ·exact h1
 intro t ht;obtain⟨⟨s,h1,h2⟩,h3⟩:=val t;obtain⟨⟨s',k1,k2⟩,k3⟩:=val (t+a.per.toNat);have f1:=far _ _ h1;have f2:=far _ _ k1;have g1:=h1.1;have g2:=k1.1;have e1:=k3 (s+a.per.toNat) ⟨by omega,fa.not_infAt _,by rw [show t+a.per.toNat-(s+a.per.toNat)=t-s by omega];exact h1.2.2⟩;have e2:=hA s (by omega);rw [show t+a.per.toNat-(s+a.per.toNat)=t-s by omega] at e1;have e3:=h3 (s'-a.per.toNat) ⟨by omega,fa.not_infAt _,by rw [show t-(s'-a.per.toNat)=t+a.per.toNat-s' by omega];exact k1.2.2⟩;have e4:=hA (s'-a.per.toNat) (by omega);rw [show s'-a.per.toNat+a.per.toNat=s' by omega] at e4;rw [show t-(s'-a.per.toNat)=t+a.per.toNat-s' by omega] at e3;omega
end
def CvoS(a b r:Cv)(er:Int):Prop:=∃h,CvF a b h∧MadeL h r er
theorem CvoS.unique{a b r r':Cv}{e e':Int}(H:CvoS a b r e)(K:CvoS a b r' e'):r=r'∧e=e':=by
 obtain⟨h,h1,h2⟩:=H;obtain⟨k,k1,k2⟩:=K;obtain rfl:=h1.unique k1;exact h2.unique k2
def CvS:Cv→Cv→Cv→Int→Prop:=PairS CvoS
theorem CvS.unique{f g r r':Cv}{e e':Int}(h:CvS f g r e)(k:CvS f g r' e'):r=r'∧e=e':=PairS.unique (S:=CvoS) (fun h k=>CvoS.unique h k) h k
section
variable{a b r:Cv}{er:Int}{h:Nat→Int}
theorem cv_build(ha:a.Ok)(hb:b.Ok)(H:CvF a b h){s p:Nat}{i:Int}(hp:1≤p)(hsp:s+p≤2000)(hper:(∀j,j<s+p→h j≠inf)→Per h s p i)(hS:BuildS h s p i r er):MadeL h r er:=
 (build_made hp (fun t u ht htu hi=>cv_hinf ha hb H (by omega) htu hi) hper hS).toL
theorem cv_made0(ha:a.Ok)(hb:b.Ok)(ia:nth a.vals (a.vals.length-1)=inf)(ib:nth b.vals (b.vals.length-1)=inf)(H:CvF a b h){s p:Nat}{i:Int}(hp:1≤p)(hsp:s+p≤2000)
 (hs:a.vals.length-a.per.toNat+(b.vals.length-b.per.toNat)≤s) (hS:BuildS h s p i r er):MadeL h r er:=by
 refine cv_build ha hb H hp hsp (fun hne=>absurd ?_ (hne s (by omega))) hS;refine(H s).unique (CvT.none fun u hu=>?_);rcases Nat.lt_or_ge u (a.vals.length-a.per.toNat) with k|k
 ·exact hu.2.2 (hb.infAt_start ib (by omega))
 ·exact hu.2.1 (ha.infAt_start ia k)
theorem cv_made1(fa:a.Fin)(hb:b.Ok)(ib:nth b.vals (b.vals.length-1)=inf)(H:CvF a b h){s:Nat}(hsp:s+a.per.toNat≤2000)
 (hs:a.vals.length-a.per.toNat+(b.vals.length-b.per.toNat)≤s) (hS:BuildS h s a.per.toNat a.inc r er):MadeL h r er:=
 cv_build fa.1 hb H (by have:=fa.1.p1;omega) hsp (fun hne=>(cv_one fa hb ib H (hne 0 (by have:=fa.1.p1;omega))).mono hs) hS
theorem gn_of_inf(ha:a.Ok)(hb:b.Ok)(ib:nth b.vals (b.vals.length-1)=inf):ordC a b=a.per.toNat∧gnA a b=a.inc:=by
 have h1:=(hb.last ib).1;have hp:=ha.p1;have e:ordC a b=a.per.toNat:=by
  unfold ordC comm;rw [h1,show(1:Int).toNat=1 from rfl,Nat.gcd_one_right,Nat.div_one,Nat.mul_one]
 refine⟨e,?_⟩
 unfold gnA;rw [e,Nat.div_self (by omega)];simp
theorem cv_made2(fa:a.Fin)(fb:b.Fin)(hG:gnA a b=gnB a b)(H:CvF a b h){s:Nat}(hsp:s+ordC a b≤2000)
 (hs:a.vals.length-a.per.toNat+(b.vals.length-b.per.toNat)+ordC a b≤s) (hS:BuildS h s (ordC a b) (gnA a b) r er):MadeL h r er:=by
 have hp:=fa.1.p1;have hq:=fb.1.p1;refine cv_build fa.1 fb.1 H (ord_b fa.1 fb.1).c1 hsp (fun _=>?_) hS;have h2:=gnB_per fa.1 fb (s:=b.vals.length-b.per.toNat) (Nat.le_refl _);rw [← hG] at h2;exact(conv_eq (gnA_per fa fb.1 (Nat.le_refl _)) h2 (cvF_fin fa fb H)).mono hs
theorem cv_made3(fa:a.Fin)(fb:b.Fin)(hG:gnA a b<gnB a b)(H:CvF a b h){s:Nat}(hsp:s+a.per.toNat≤2000)
 (hs:a.vals.length-a.per.toNat+(b.vals.length-b.per.toNat)+ordC a b≤s) (hat:∀t,s≤t→t<s+ordC a b→CvI a b (a.vals.length-a.per.toNat) t (t+1) (h t)) (hS:BuildS h s a.per.toNat a.inc r er):MadeL h r er:=by
 have hp:=fa.1.p1;have hq:=fb.1.p1;refine cv_build fa.1 fb.1 H (by omega) hsp (fun _=>?_) hS;have hA:=gnA_per fa fb.1 (s:=a.vals.length-a.per.toNat) (Nat.le_refl _);have hB:=gnB_per fa.1 fb (s:=b.vals.length-b.per.toNat) (Nat.le_refl _);have HC:=cvF_fin fa fb H;refine att_per hA hB hG HC fa.toL.step hs (att_all hA hB hG HC (ord_b fa.1 fb.1).c1 (by omega) (fun t h1 h2=>?_));rcases hat t h1 h2 with ⟨h3,_⟩|⟨⟨u,h3,h4,h5,h6⟩,_⟩
 ·exact absurd ⟨Nat.le_refl _,fa.not_infAt _,fb.not_infAt _⟩ (h3 t (by omega) (by omega))
 ·exact⟨u,h3,h5.1,h6⟩
theorem cv_none3(fa:a.Fin)(fb:b.Fin)(hG:gnA a b<gnB a b)(H:CvF a b h){t:Nat}{v:Int}(h4:400≤t)(h5:t≤2000)
 (hs:a.vals.length-a.per.toNat+(b.vals.length-b.per.toNat)+ordC a b≤t) (hv:CvI a b (a.vals.length-a.per.toNat) t (t+1) v) (hlt:h t<v):MadeL h Cv.none 3:=by
 refine MadeL.none_ fun g hg hl=>?_
 have hA:=gnA_per fa fb.1 (s:=a.vals.length-a.per.toNat) (Nat.le_refl _);have hB:=gnB_per fa.1 fb (s:=b.vals.length-b.per.toNat) (Nat.le_refl _);have HC:=cvF_fin fa fb H;have hne:h 400≠inf:=by
  rcases cv_bd fa.1 fb.1 H (t:=400) (by omega) with ⟨k,_⟩|k
  ·exact absurd ⟨Nat.le_refl _,fa.not_infAt _,fb.not_infAt _⟩ (k 400)
  ·unfold inf;omega
 obtain⟨q,G,hq,hP⟩:=lim_per hg hl hne;obtain⟨u,k1,k2,k3⟩:=att_of_per hA hB hG HC hq hP hs h4;rcases hv with ⟨h6,_⟩|⟨_,h6⟩
 ·exact h6 u k1 (by omega) ⟨k2,fa.not_infAt _,fb.not_infAt _⟩
 ·have:=h6 u k1 (by omega) ⟨k2,fa.not_infAt _,fb.not_infAt _⟩
  omega
end
end
end Go.Proofs.YtaejfleahamapaaGreat
