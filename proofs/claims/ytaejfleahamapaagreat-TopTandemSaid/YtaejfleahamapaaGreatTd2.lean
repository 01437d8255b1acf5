/- . -/
namespace Go.Proofs.YtaejfleahamapaaGreat
set_option linter.unusedVariables false
set_option linter.unusedSimpArgs false
section
def aB(zs:List Int)(k:Nat):Int:=zs.getD k 0
def aG:Int:=4611686018427387904
structure Cv where
 vals:List Int
 per:Int
 inc:Int
def Cv.none:Cv:=⟨[],0,0⟩
def Cv.at(f:Cv)(t:Nat):Int:=
 if t<f.vals.length then aB f.vals t
 else if aB f.vals (t-((t-f.vals.length) / f.per.toNat+1)*f.per.toNat)=aG then aG
 else aB f.vals (t-((t-f.vals.length) / f.per.toNat+1)*f.per.toNat)+(((t-f.vals.length) / f.per.toNat+1:Nat):Int)*f.inc
def gR(x:Int):Bool:=x == aG || decide (x<=1073741824)
theorem iU(x:Int):gR x=true↔x=aG\/x<=1073741824:=by simp [gR]
structure Cv.Ok(f:Cv):Prop where
 n1:1<=f.vals.length
 n2:f.vals.length<=400
 p1:1<=f.per
 p2:f.per<=120
 pn:f.per<=f.vals.length
 i1:0<=f.inc
 i2:f.inc<=1073741824
 v:∀k,k<f.vals.length->gR (aB f.vals k)=true
 z:0<=aB f.vals 0
 mono:∀k,k+1<f.vals.length->aB f.vals k<=aB f.vals (k+1)
 last:aB f.vals (f.vals.length-1)=aG->f.per=1/\f.inc=0
 wrap:aB f.vals (f.vals.length-1)≠aG->aB f.vals (f.vals.length-1)<=aB f.vals (f.vals.length-f.per.toNat)+f.inc
open Classical in
noncomputable def Cv.okB(f:Cv):Bool:=decide f.Ok
theorem Cv.okB_true{f:Cv}(h:f.Ok):f.okB=true:=by simp [Cv.okB,h]
theorem Cv.okB_false{f:Cv}(h:¬f.Ok):f.okB=false:=by simp [Cv.okB,h]
theorem Cv.okB_iff{f:Cv}:f.okB=true↔f.Ok:=by simp [Cv.okB]
theorem eQ(zs:List Int)(k j:Nat)(x:Int)(h:k<zs.length):aB (zs.set k x) j=if j=k then x else aB zs j:=by
 unfold aB;by_cases e:j=k
 ·subst e;simp [h]
 ·rw [if_neg e];simp [Ne.symm e]
theorem tC(n j:Nat):aB (List.replicate n 0) j=0:=by
 unfold aB;by_cases h:j<n <;> simp [h]
theorem xQ(zs:List Int)(k:Nat)(hk:zs.length<=k):aB zs k=0:=by simp [aB,hk]
theorem nF{xs ys:List Int}(hl:xs.length=ys.length)(h:∀k,k<xs.length->aB xs k=aB ys k):xs=ys:=by
 apply List.ext_getElem hl
 intro k h1 h2;have:=h k h1
 simpa [aB,h1,h2] using this
theorem tB(zs:List Int)(s k:Nat):aB (zs.drop s) k=aB zs (s+k):=by simp [aB]
theorem oZ(zs:List Int)(n k:Nat)(hk:k<n):aB (zs.take n) k=aB zs k:=by simp [aB,hk]
theorem xP(xs ys:List Int)(k:Nat):aB (xs ++ ys) k=if k<xs.length then aB xs k else aB ys (k-xs.length):=by
 unfold aB;split
 ·rename_i h;simp [List.getElem?_append_left h]
 ·rename_i h;simp [List.getElem?_append_right (Nat.le_of_not_lt h)]
def aZ(h:Nat->Int)(s n:Nat):List Int:=(List.range n).map fun j=>h (s+j)
theorem cU(h:Nat->Int)(s n:Nat):(aZ h s n).length=n:=by simp [aZ]
theorem dT(h:Nat->Int)(s n k:Nat)(hk:k<n):aB (aZ h s n) k=h (s+k):=by simp [aZ,aB,hk]
theorem m4{zs:List Int}{h:Nat->Int}{s n:Nat}(hl:zs.length=n)(hz:∀j,j<n->aB zs j=h (s+j)):zs=aZ h s n:=
 nF (by rw [cU,hl]) (fun k hk=>by rw [dT _ _ _ _ (by omega),hz k (by omega)])
def chk(zs:List Int)(p i:Int):Cv × Int:=if zs.length<=400/\(∀k,k<zs.length->gR (aB zs k)=true) then (⟨zs,p,i⟩,0) else (Cv.none,3)
def jJ(zs:List Int)(inc:Int)(p i:Nat):Prop:=
 if i+p<zs.length then aB zs (i+p)=aB zs i+inc*p / zs.length else aB zs (i+p-zs.length)+inc=aB zs i+inc*p / zs.length
def LT(zs:List Int)(inc:Int)(p:Nat):Prop:=
 ((zs.length:Int) % p=0/\inc*p % zs.length=0)/\∀i,i<zs.length->jJ zs inc p i
def eW(h:Nat->Int)(s p:Nat)(i:Int)(f:Cv)(er:Int):Prop:=
 (∃m,m<s+p/\h m=aG/\(∀j,j<m->h j≠aG)/\f=(chk (aZ h 0 (m+1)) 1 0).1/\er=(chk (aZ h 0 (m+1)) 1 0).2)\/
 ((∀j,j<s+p->h j≠aG)/\∃q s':Nat,1<=q/\q<=p/\(q=p\/LT (aZ h s p) i q)/\(∀r,1<=r->r<q->¬LT (aZ h s p) i r)/\s'<=s/\
   (∀t,s'<=t->t<s->h t+i*q / p=h (t+q))/\(s'=0\/h (s'-1)+i*q / p≠h (s'-1+q))/\
   ((q<=120/\i*q / p<=1073741824/\f=(chk (aZ h 0 (s'+q)) q (i*q / p)).1/\er=(chk (aZ h 0 (s'+q)) q (i*q / p)).2)\/
     (¬(q<=120/\i*q / p<=1073741824)/\f=Cv.none/\er=3)))
theorem oR{t n p:Nat}(h1:1<=p)(h2:p<=n)(ht:n<=t):((t-n) / p+1)*p<=t/\t-((t-n) / p+1)*p<n/\n<=t-((t-n) / p+1)*p+p:=by
 have hd:=Nat.div_add_mod (t-n) p;have hm:=Nat.mod_lt (t-n) (show 0<p by omega);rw [Nat.add_mul,Nat.one_mul,Nat.mul_comm];generalize hq:p*((t-n) / p)=q at *;omega
theorem Cv.Ok.le{f:Cv}(h:f.Ok):∀a b,a<=b->b<f.vals.length->aB f.vals a<=aB f.vals b:=by
 intro a b hab hb
 induction b with
 | zero=>rw [show a=0 by omega];exact Int.le_refl _
 | succ b ih=>
   by_cases e:a=b+1
   ·rw [e];exact Int.le_refl _
   ·exact Int.le_trans (ih (by omega) (by omega)) (h.mono b hb)
theorem Cv.Ok.nn{f:Cv}(h:f.Ok)(k:Nat):0<=aB f.vals k/\aB f.vals k<=4611686018427387904:=by
 by_cases hk:k<f.vals.length
 ·have h1:=h.le 0 k (by omega) hk;have h2:=h.z;have h3:=(iU _).1 (h.v k hk);unfold aG at h3;omega
 ·rw [xQ _ _ (by omega)];omega
noncomputable def Cv.value(f:Cv)(t:Int):Int × Int:=if f.okB=true then (if t<0\/1048576<t then (0,2) else (f.at t.toNat,0)) else (0,1)
def fE(xs ys:List Int):Bool:=decide (xs=ys)
theorem sJ{xs ys:List Int}(h:xs=ys):fE xs ys=true:=by simp [fE,h]
theorem qG{xs ys:List Int}(h:xs≠ys):fE xs ys=false:=by simp [fE,h]
def Cv.same(f g:Cv):Bool:=fE f.vals g.vals && f.per == g.per && f.inc == g.inc
theorem Cv.same_iff(f g:Cv):Cv.same f g=true↔f=g:=by
 cases f;cases g
 simp [Cv.same,fE,and_assoc]
def mQ(f g:Cv)(er:Int):Prop:=
 (f.okB=true/\eW f.at (f.vals.length-f.per.toNat) f.per.toNat f.inc g er)\/(f.okB=false/\g=Cv.none/\er=1)
def Cv.Fin(f:Cv):Prop:=f.Ok/\aB f.vals (f.vals.length-1)≠aG
theorem Cv.Fin.ne{f:Cv}(h:f.Fin)(k:Nat)(hk:k<f.vals.length):aB f.vals k≠aG/\aB f.vals k<=1073741824:=by
 have h1:=h.1.le k (f.vals.length-1) (by omega) (by omega);have h2:=(iU _).1 (h.1.v (f.vals.length-1) (by have:=h.1.n1;omega));have h3:aB f.vals (f.vals.length-1)<=1073741824:=by
  rcases h2 with h2|h2
  ·exact absurd h2 h.2
  ·exact h2
 unfold aG;omega
theorem Cv.at_lt{f:Cv}{t:Nat}(h:t<f.vals.length):f.at t=aB f.vals t:=by unfold Cv.at;rw [if_pos h]
theorem Cv.Fin.at_ge{f:Cv}(h:f.Fin){t:Nat}(ht:f.vals.length<=t) :
 f.at t=aB f.vals (t-((t-f.vals.length) / f.per.toNat+1)*f.per.toNat)+(((t-f.vals.length) / f.per.toNat+1:Nat):Int)*f.inc:=by
 have hp1:=h.1.p1;have hpn:=h.1.pn;have:=oR (t:=t) (n:=f.vals.length) (p:=f.per.toNat) (by omega) (by omega) ht
 unfold Cv.at;rw [if_neg (by omega),if_neg (h.ne _ this.2.1).1]
theorem Cv.Fin.step{f:Cv}(h:f.Fin){t:Nat}(ht:f.vals.length<=t+f.per.toNat):f.at (t+f.per.toNat)=f.at t+f.inc:=by
 have hp1:=h.1.p1;have hpn:=h.1.pn;obtain⟨p,hp⟩:∃p,p=f.per.toNat:=⟨_,rfl⟩
 have hpp:1<=p:=by omega
 rw [h.at_ge ht,<- hp];rw [<- hp] at ht;by_cases hlt:t<f.vals.length
 ·rw [Cv.at_lt hlt,Nat.div_eq_of_lt (show t+p-f.vals.length<p by omega)];simp
 ·rw [h.at_ge (by omega),<- hp];have e:(t+p-f.vals.length) / p=(t-f.vals.length) / p+1:=by
   rw [show t+p-f.vals.length=(t-f.vals.length)+p by omega,Nat.add_div_right _ (by omega)]
  rw [e,show t+p-((t-f.vals.length) / p+1+1)*p=t-((t-f.vals.length) / p+1)*p by rw [Nat.add_mul _ 1 p];omega];rw [show(((t-f.vals.length) / p+1+1:Nat):Int)=(((t-f.vals.length) / p+1:Nat):Int)+1 by omega,Int.add_mul,Int.one_mul];omega
theorem Cv.Ok.at_inf{f:Cv}(h:f.Ok)(hl:aB f.vals (f.vals.length-1)=aG){t:Nat}(ht:f.vals.length<=t+1):f.at t=aG:=by
 have hp:=(h.last hl).1;have hn:=h.n1;by_cases hlt:t<f.vals.length
 ·rw [Cv.at_lt hlt,show t=f.vals.length-1 by omega];exact hl
 ·unfold Cv.at;rw [if_neg hlt,hp,show(1:Int).toNat=1 from rfl,Nat.div_one,Nat.mul_one,show t-(t-f.vals.length+1)=f.vals.length-1 by omega,if_pos hl]
theorem Cv.Fin.at_bd{f:Cv}(h:f.Fin)(t:Nat):0<=f.at t/\f.at t<=1073741824+(t:Int)*1073741824:=by
 by_cases hlt:t<f.vals.length
 ·rw [Cv.at_lt hlt];have h1:=h.1.nn t;have h2:=h.ne t hlt;omega
 ·have hp1:=h.1.p1;have hpn:=h.1.pn;have hi1:=h.1.i1;have hi2:=h.1.i2;have hx:=oR (t:=t) (n:=f.vals.length) (p:=f.per.toNat) (by omega) (by omega) (by omega);rw [h.at_ge (by omega)];have h1:=h.1.nn (t-((t-f.vals.length) / f.per.toNat+1)*f.per.toNat);have h2:=h.ne _ hx.2.1;generalize aB f.vals (t-((t-f.vals.length) / f.per.toNat+1)*f.per.toNat)=v at *;have hk:(t-f.vals.length) / f.per.toNat+1<=t:=by
   have:=Nat.div_le_self (t-f.vals.length) f.per.toNat
   have:=h.1.n1
   omega
  generalize (t-f.vals.length) / f.per.toNat+1=k at *;have h3:(k:Int)*f.inc<=(t:Int)*1073741824:=Int.mul_le_mul (by omega) hi2 hi1 (by omega);have h4:0<=(k:Int)*f.inc:=Int.mul_nonneg (by omega) hi1;omega
theorem fT{α:Type}{xs:List α}{i:Nat}:xs.toArray[i]?=xs[i]?:=List.getElem?_toArray
theorem fU{α:Type}{a:α}{l:List α}{i:Nat}:(a :: l)[i+1]?=l[i]?:=List.getElem?_cons_succ
theorem fV{α:Type}{a:α}{l:List α}:(a :: l)[0]?=some a:=List.getElem?_cons_zero
theorem dC{α:Type}{l:List α}{i:Nat}{a:α}:l.toArray.setIfInBounds i a=(l.set i a).toArray:=by simp
theorem dD{α:Type}{x:α}{xs:List α}{n:Nat}{a:α}:(x :: xs).set (n+1) a=x :: xs.set n a:=List.set_cons_succ
theorem dE{α:Type}{x:α}{xs:List α}{a:α}:(x :: xs).set 0 a=a :: xs:=List.set_cons_zero
end
def aY(h:Nat->Int)(s p:Nat)(a:Int):Prop:=∀t,s<=t->h (t+p)=h t+a
theorem aY.mono{h:Nat->Int}{s s' p:Nat}{a:Int}(k:aY h s p a)(hs:s<=s'):aY h s' p a:=fun t ht=>k t (by omega)
theorem aY.mul{h:Nat->Int}{s p:Nat}{a:Int}(k:aY h s p a)(m:Nat):aY h s (m*p) (m*a):=by
 intro t ht
 induction m with
 | zero=>simp
 | succ m ih=>
   rw [Nat.add_mul,Nat.one_mul,<- Nat.add_assoc,k _ (by omega),ih,Int.natCast_add,Int.add_mul];omega
structure Cv.FinL(f:Cv):Prop where
 p1:1<=f.per
 pn:f.per<=f.vals.length
 ne:∀k,k<f.vals.length->aB f.vals k≠aG
theorem Cv.Fin.toL{f:Cv}(h:f.Fin):f.FinL:=⟨h.1.p1,h.1.pn,fun k hk=>(h.ne k hk).1⟩
theorem Cv.FinL.at_ge{f:Cv}(h:f.FinL){t:Nat}(ht:f.vals.length<=t) :
 f.at t=aB f.vals (t-((t-f.vals.length) / f.per.toNat+1)*f.per.toNat)+(((t-f.vals.length) / f.per.toNat+1:Nat):Int)*f.inc:=by
 have hp1:=h.p1;have hpn:=h.pn;have:=oR (t:=t) (n:=f.vals.length) (p:=f.per.toNat) (by omega) (by omega) ht
 unfold Cv.at;rw [if_neg (by omega),if_neg (h.ne _ this.2.1)]
theorem Cv.FinL.step{f:Cv}(h:f.FinL):aY f.at (f.vals.length-f.per.toNat) f.per.toNat f.inc:=by
 intro t ht;have hp1:=h.p1;have hpn:=h.pn;obtain⟨p,hp⟩:∃p,p=f.per.toNat:=⟨_,rfl⟩
 have hpp:1<=p:=by omega
 rw [h.at_ge (by omega),<- hp];rw [<- hp] at ht;by_cases hlt:t<f.vals.length
 ·rw [Cv.at_lt hlt,Nat.div_eq_of_lt (show t+p-f.vals.length<p by omega)];simp
 ·rw [h.at_ge (by omega),<- hp];have e:(t+p-f.vals.length) / p=(t-f.vals.length) / p+1:=by
   rw [show t+p-f.vals.length=(t-f.vals.length)+p by omega,Nat.add_div_right _ (by omega)]
  rw [e,show t+p-((t-f.vals.length) / p+1+1)*p=t-((t-f.vals.length) / p+1)*p by rw [Nat.add_mul _ 1 p];omega];rw [show(((t-f.vals.length) / p+1+1:Nat):Int)=(((t-f.vals.length) / p+1:Nat):Int)+1 by omega,Int.add_mul,Int.one_mul];omega
theorem Cv.FinL.unique{f:Cv}(hf:f.FinL){h:Nat->Int}(h0:∀t,t<f.vals.length->aB f.vals t=h t)(h1:aY h (f.vals.length-f.per.toNat) f.per.toNat f.inc)(t:Nat):f.at t=h t:=by
 have hp1:=hf.p1;have hpn:=hf.pn
 induction t using Nat.strongRecOn with
 | _ t ih=>
   by_cases hlt:t<f.vals.length
   ·rw [Cv.at_lt hlt,h0 t hlt]
   ·obtain⟨u,rfl⟩:∃u,t=u+f.per.toNat:=⟨t-f.per.toNat,by omega⟩
    rw [hf.step u (by omega),h1 u (by omega),ih u (by omega)]
theorem Cv.Ok.at_mono{f:Cv}(h:f.Ok)(t:Nat):f.at t<=f.at (t+1):=by
 by_cases hl:aB f.vals (f.vals.length-1)=aG
 ·by_cases ht:f.vals.length<=t+1+1
  ·rw [h.at_inf hl (t:=t+1) (by omega)];by_cases hlt:t<f.vals.length
   ·rw [Cv.at_lt hlt];exact(h.nn t).2
   ·rw [h.at_inf hl (by omega)];exact Int.le_refl _
  ·rw [Cv.at_lt (by omega),Cv.at_lt (by omega)];exact h.mono t (by omega)
 ·have hF:f.Fin:=⟨h,hl⟩
  have hp1:=h.p1;have hpn:=h.pn
  induction t using Nat.strongRecOn with
  | _ t ih=>
    by_cases h1:t+1<f.vals.length
    ·rw [Cv.at_lt h1,Cv.at_lt (by omega)];exact h.mono t h1
    ·by_cases h2:t+1=f.vals.length
     ·rw [h2,show f.vals.length=(f.vals.length-f.per.toNat)+f.per.toNat by omega,hF.toL.step _ (by omega)];rw [Cv.at_lt (by omega),Cv.at_lt (by omega),show t=f.vals.length-1 by omega];exact h.wrap hl
     ·obtain⟨u,rfl⟩:∃u,t=u+f.per.toNat:=⟨t-f.per.toNat,by omega⟩
      rw [show u+f.per.toNat+1=(u+1)+f.per.toNat by omega,hF.toL.step _ (by omega),hF.toL.step _ (by omega)];have:=ih u (by omega)
      omega
theorem Cv.Ok.at_le{f:Cv}(h:f.Ok){t u:Nat}(htu:t<=u):f.at t<=f.at u:=by
 induction u with
 | zero=>rw [show t=0 by omega];exact Int.le_refl _
 | succ u ih=>
   by_cases e:t=u+1
   ·rw [e];exact Int.le_refl _
   ·exact Int.le_trans (ih (by omega)) (h.at_mono u)
structure kK(h:Nat->Int)(g:Cv):Prop where
 p1:1<=g.per
 pn:g.per<=g.vals.length
 vals:∀t,t<g.vals.length->aB g.vals t=h t
 per:aY h (g.vals.length-g.per.toNat) g.per.toNat g.inc
 least:∀(q s:Nat) (b:Int),1<=q->aY h s q b->g.per.toNat<=q
 start:g.vals.length=g.per.toNat\/h (g.vals.length-g.per.toNat-1)+g.inc≠h (g.vals.length-1)
 fin:∀t,t<g.vals.length->h t≠aG
structure rT(h:Nat->Int)(g:Cv):Prop where
 p1:g.per=1
 i0:g.inc=0
 n1:1<=g.vals.length
 vals:∀t,t<g.vals.length->aB g.vals t=h t
 before:∀t,t+1<g.vals.length->h t≠aG
 from_:∀t,g.vals.length<=t+1->h t=aG
def NF(h:Nat->Int)(g:Cv):Prop:=kK h g\/rT h g
theorem v8{f g:Cv}(h1:f.vals=g.vals)(h2:f.per=g.per)(h3:f.inc=g.inc):f=g:=by
 cases f;cases g;simp_all
theorem kK.len_le{h:Nat->Int}{f g:Cv}(a:kK h f)(b:kK h g)(hp:f.per=g.per)(hi:f.inc=g.inc):g.vals.length<=f.vals.length:=by
 rcases Nat.lt_or_ge f.vals.length g.vals.length with hlt|hge
 ·exfalso
  have:=a.pn;have:=a.p1
  rcases b.start with hs|hs
  ·omega
  ·apply hs
   have:=a.per (g.vals.length-g.per.toNat-1) (by omega)
   rw [<- hi,<- this]
   congr 1
   omega
 ·exact hge
theorem kK.not_inf{h:Nat->Int}{f g:Cv}(a:kK h f)(b:rT h g):False:=by
 have hp1:=a.p1;have hpn:=a.pn;have h1:=a.per.mul g.vals.length (f.vals.length-1) (by omega);have h2:=a.per.mul (g.vals.length+1) (f.vals.length-1) (by omega);have hle:g.vals.length<=g.vals.length*f.per.toNat:=Nat.le_mul_of_pos_right _ (by omega);rw [b.from_ _ (by omega)] at h1;rw [b.from_ _ (by rw [Nat.add_mul];omega),Int.natCast_add,Int.add_mul] at h2;apply a.fin (f.vals.length-1) (by omega)
 have hi:f.inc=0:=by omega
 rw [hi] at h1;omega
theorem NF.unique{h:Nat->Int}{f g:Cv}(a:NF h f)(b:NF h g):f=g:=by
 rcases a with a|a <;> rcases b with b|b
 ·have hp:f.per=g.per:=by
   have h1:=a.least _ _ _ (by have:=b.p1;omega) b.per;have h2:=b.least _ _ _ (by have:=a.p1;omega) a.per;have:=a.p1;have:=b.p1
   omega
  have hi:f.inc=g.inc:=by
   have h1:=a.per (f.vals.length+g.vals.length) (by omega);have h2:=b.per (f.vals.length+g.vals.length) (by omega);rw [hp] at h1;omega
  have hn:=Nat.le_antisymm (b.len_le a hp.symm hi.symm) (a.len_le b hp hi);exact v8 (nF hn (fun k hk=>by rw [a.vals k hk,b.vals k (by omega)])) hp hi
 ·exact(a.not_inf b).elim
 ·exact(b.not_inf a).elim
 ·have hn:f.vals.length=g.vals.length:=by
   have:=a.n1;have:=b.n1
   rcases Nat.lt_trichotomy f.vals.length g.vals.length with e|e|e
   ·exact absurd (a.from_ (f.vals.length-1) (by omega)) (b.before _ (by omega))
   ·exact e
   ·exact absurd (b.from_ (g.vals.length-1) (by omega)) (a.before _ (by omega))
  exact v8 (nF hn (fun k hk=>by rw [a.vals k hk,b.vals k (by omega)])) (by rw [a.p1,b.p1]) (by rw [a.i0,b.i0])
theorem NF.at{h:Nat->Int}{g:Cv}(a:NF h g)(t:Nat):g.at t=h t:=by
 rcases a with a|a
 ·exact Cv.FinL.unique ⟨a.p1,a.pn,fun k hk=>by rw [a.vals k hk];exact a.fin k hk⟩ a.vals a.per t
 ·by_cases hlt:t<g.vals.length
  ·rw [Cv.at_lt hlt,a.vals t hlt]
  ·rw [a.from_ t (by omega)];unfold Cv.at;have hn:=a.n1;rw [if_neg hlt,a.p1,show(1:Int).toNat=1 from rfl,Nat.div_one,Nat.mul_one,show t-(t-g.vals.length+1)=g.vals.length-1 by omega,a.vals _ (by omega),a.from_ _ (by omega),if_pos rfl]
theorem qS{Q:Nat->Prop}(h:∃n,Q n):∃n,Q n/\∀m,m<n->¬Q m:=by
 obtain⟨n,hn⟩:=h
 induction n using Nat.strongRecOn with
 | _ n ih=>
   by_cases hm:∃m,m<n/\Q m
   ·obtain⟨m,h1,h2⟩:=hm;exact ih m h1 h2
   ·exact⟨n,hn,fun m h1 h2=>hm ⟨m,h1,h2⟩⟩
theorem a5t{a b:Int}{k:Nat}(hk:1<=k)(h:a=k*b):a / k=b:=by
 subst h;exact Int.mul_ediv_cancel_left _ (by omega)
theorem LT.per{h:Nat->Int}{s p r:Nat}{i:Int}(hp:1<=p)(H:aY h s p i)(hl:LT (aZ h s p) i r)(hr:r<=p):aY h s r (i*r / p):=by
 have hlen:=cU h s p;have hb:∀j,j<p->h (s+j+r)=h (s+j)+i*r / p:=by
  intro j hj;have:=hl.2 j (by rw [hlen];exact hj)
  unfold jJ at this;rw [hlen,dT _ _ _ _ hj] at this;by_cases e:j+r<p
  ·rw [if_pos e,dT _ _ _ _ e,<- Nat.add_assoc] at this;exact this
  ·rw [if_neg e,dT _ _ _ _ (by omega)] at this;rw [<- this,<- H _ (by omega)]
   congr 1
   omega
 intro t ht;obtain⟨u,rfl⟩:∃u,t=s+u:=⟨t-s,by omega⟩
 have hu:=Nat.div_add_mod u p;have hm:=Nat.mod_lt u (show 0<p by omega);have e1:s+u=s+u % p+(u / p)*p:=by rw [Nat.mul_comm];omega
 have e2:s+u+r=s+u % p+r+(u / p)*p:=by omega
 rw [e2,H.mul (u / p) _ (by omega),e1,H.mul (u / p) _ (by omega),hb _ hm];omega
theorem LT.of_per{h:Nat->Int}{s p r:Nat}{i b:Int}(hp:1<=p)(hr:1<=r)(H:aY h s p i)(hR:aY h s r b)(k:Nat)(hk:p=k*r)(hb:i=k*b):LT (aZ h s p) i r:=by
 have hlen:=cU h s p;have hk1:1<=k:=by
  rcases Nat.eq_zero_or_pos k with e|e
  ·rw [e,Nat.zero_mul] at hk;omega
  ·exact e
 have hdiv:i*r / p=b:=by
  have:i*(r:Int)=(p:Int)*b:=by
   rw [hb,hk,Int.natCast_mul,Int.mul_assoc,Int.mul_assoc,Int.mul_comm b]
  rw [this];exact Int.mul_ediv_cancel_left _ (by omega)
 refine⟨⟨?_,?_⟩,fun j hj=>?_⟩
 ·rw [hlen,hk,Int.natCast_mul];exact Int.mul_emod_left _ _
 ·have:i*(r:Int)=(p:Int)*b:=by
   rw [hb,hk,Int.natCast_mul,Int.mul_assoc,Int.mul_assoc,Int.mul_comm b]
  rw [hlen,this];exact Int.mul_emod_right _ _
 ·rw [hlen] at hj;have hrp:r<=p:=by rw [hk];exact Nat.le_mul_of_pos_left _ hk1
  unfold jJ;rw [hlen,dT _ _ _ _ hj,hdiv];by_cases e:j+r<p
  ·rw [if_pos e,dT _ _ _ _ e,<- Nat.add_assoc,hR _ (by omega)]
  ·rw [if_neg e,dT _ _ _ _ (by omega),<- H _ (by omega),<- hR _ (by omega)]
   congr 1
   omega
theorem tG{h:Nat->Int}{s p:Nat}{i:Int}(hp:1<=p)(H:aY h s p i) :
 ∃(r k:Nat) (b:Int),1<=r/\p=k*r/\i=k*b/\aY h s r b/\∀(q s':Nat) (b':Int),1<=q->aY h s' q b'->r<=q:=by
 obtain⟨r,⟨hr1,s1,b,hb⟩,hmin⟩:=qS (Q:=fun r=>1<=r/\∃s' b,aY h s' r b) ⟨p,hp,s,i,H⟩;have hle:∀(q s':Nat) (b':Int),1<=q->aY h s' q b'->r<=q:=by
  intro q s' b' h1 h2;rcases Nat.lt_or_ge q r with e|e
  ·exact absurd ⟨h1,s',b',h2⟩ (hmin q e)
  ·exact e
 have hd:=Nat.div_add_mod p r;have hm:=Nat.mod_lt p (show 0<r by omega);have hz:p % r=0:=by
  rcases Nat.eq_zero_or_pos (p % r) with e|e
  ·exact e
  ·exfalso
   have hper:aY h (max s s1) (p % r) (i-(p / r:Nat)*b):=by
    intro t ht;have h1:=hb.mul (p / r) (t+p % r) (by omega);have h2:=H t (by omega);have e3:t+p % r+p / r*r=t+p:=by rw [Nat.mul_comm (p / r) r];omega
    rw [e3,h2] at h1;omega
   have:=hle _ _ _ e hper
   omega
 have hpk:p=(p / r)*r:=by rw [Nat.mul_comm];omega
 have hik:i=(p / r:Nat)*b:=by
  have h1:=hb.mul (p / r) (max s s1) (by omega);have h2:=H (max s s1) (by omega);rw [<- hpk,h2] at h1;omega
 refine⟨r,p / r,b,hr1,hpk,hik,fun t ht=>?_,hle⟩
 have h1:=H.mul s1 t ht;have h2:=H.mul s1 (t+r) (by omega);have h3:s1<=t+s1*p:=by
  have:s1*1<=s1*p:=Nat.mul_le_mul_left _ hp
  omega
 have h4:=hb (t+s1*p) h3;rw [show t+s1*p+r=t+r+s1*p by omega] at h4;rw [h2,h1] at h4;omega
theorem Z7{h:Nat->Int}{s p q:Nat}{i:Int}(hp:1<=p)(H:aY h s p i)(hq1:1<=q)(hqp:q<=p)(hq:q=p\/LT (aZ h s p) i q)(hno:∀r,1<=r->r<q->¬LT (aZ h s p) i r) :
 aY h s q (i*q / p)/\∀(r s':Nat) (b:Int),1<=r->aY h s' r b->q<=r:=by
 refine⟨?_,?_⟩
 ·rcases hq with e|e
  ·subst e;rw [Int.mul_ediv_cancel _ (by omega)];exact H
  ·exact e.per hp H hqp
 ·obtain⟨r,k,b,hr,hk,hb,hR,hle⟩:=tG hp H;intro r' s' b' h1 h2;have h3:=hle r' s' b' h1 h2;have h4:¬r<q:=fun e=>hno r hr e (LT.of_per hp hr H hR k hk hb)
  omega
def jK(g:Cv):Prop:=g.vals.length<=400/\(∀k,k<g.vals.length->gR (aB g.vals k)=true)/\g.per<=120/\g.inc<=1073741824
def eK(h:Nat->Int)(f:Cv)(er:Int):Prop:=∃g,NF h g/\((jK g/\f=g/\er=0)\/(¬jK g/\f=Cv.none/\er=3))
theorem eK.unique{h:Nat->Int}{f f':Cv}{e e':Int}(a:eK h f e)(b:eK h f' e'):f=f'/\e=e':=by
 obtain⟨g,hg,a⟩:=a;obtain⟨g',hg',b⟩:=b;obtain rfl:=hg.unique hg';rcases a with ⟨h1,rfl,rfl⟩|⟨h1,rfl,rfl⟩ <;> rcases b with ⟨h2,rfl,rfl⟩|⟨h2,rfl,rfl⟩
 ·exact⟨rfl,rfl⟩
 ·exact absurd h1 h2
 ·exact absurd h2 h1
 ·exact⟨rfl,rfl⟩
theorem vP{h:Nat->Int}{zs:List Int}{p i:Int}(hg:NF h ⟨zs,p,i⟩)(hp:p<=120)(hi:i<=1073741824):eK h (chk zs p i).1 (chk zs p i).2:=by
 refine⟨_,hg,?_⟩
 unfold chk;split
 ·rename_i hc;exact .inl ⟨⟨hc.1,hc.2,hp,hi⟩,rfl,rfl⟩
 ·rename_i hc;exact .inr ⟨fun hl=>hc ⟨hl.1,hl.2.1⟩,rfl,rfl⟩
theorem i9{h:Nat->Int}{s p:Nat}{i:Int}{f:Cv}{er:Int}(hp:1<=p)(hinf:∀t u,t<s+p->t<=u->h t=aG->h u=aG)
 (hper:(∀j,j<s+p->h j≠aG)->aY h s p i) (hb:eW h s p i f er):eK h f er:=by
 rcases hb with ⟨m,hm,hi,hlt,rfl,rfl⟩|⟨hfin,q,s',hq1,hqp,hq,hno,hss,hgood,hst,hres⟩
 ·refine vP (.inr ⟨rfl,rfl,by rw [cU];omega,?_,?_,?_⟩) (by omega) (by omega)
  ·intro t ht;rw [cU] at ht;rw [dT _ _ _ _ ht,Nat.zero_add]
  ·intro t ht;rw [cU] at ht;exact hlt t (by omega)
  ·intro t ht;rw [cU] at ht;exact hinf m t hm (by omega) hi
 ·have H:=hper hfin;obtain⟨hq',hmin⟩:=Z7 hp H hq1 hqp hq hno;generalize i*q / p=st at *;have hPs:aY h s' q st:=by
   intro t ht;by_cases e:t<s
   ·exact(hgood t ht e).symm
   ·exact hq' t (by omega)
  have hnf:NF h ⟨aZ h 0 (s'+q),q,st⟩:=by
   have hl:(Cv.mk (aZ h 0 (s'+q)) q st).vals.length=s'+q:=cU _ _ _;have hpn:(Cv.mk (aZ h 0 (s'+q)) q st).per.toNat=q:=Int.toNat_natCast q;refine .inl ⟨by show(1:Int)<=q;omega,by rw [hl];show(q:Int)<=_;omega,?_,?_,?_,?_,fun t ht=>hfin t (by rw [hl] at ht;omega)⟩
   ·intro t ht;rw [hl] at ht;show aB (aZ h 0 (s'+q)) t=_
    rw [dT _ _ _ _ ht,Nat.zero_add]
   ·rw [hl,hpn,Nat.add_sub_cancel];exact hPs
   ·rw [hpn];exact fun r s'' b h1 h2=>hmin r s'' b h1 h2
   ·rw [hl,hpn,Nat.add_sub_cancel];rcases hst with e|e
    ·left;omega
    ·by_cases e0:s'=0
     ·left;omega
     ·right
      show h (s'-1)+st≠h (s'+q-1)
      rw [show s'+q-1=s'-1+q by omega];exact e
  rcases hres with ⟨h1,h2,rfl,rfl⟩|⟨h1,rfl,rfl⟩
  ·exact vP hnf (by omega) h2
  ·refine⟨_,hnf,.inr ⟨fun hl=>h1 ⟨?_,hl.2.2.2⟩,rfl,rfl⟩⟩
   have:(q:Int)<=120:=hl.2.2.1
   omega
theorem Cv.Ok.inf_from{f:Cv}(h:f.Ok){t u:Nat}(ht:t<f.vals.length)(htu:t<=u)(hi:f.at t=aG):f.at u=aG:=by
 have hl:aB f.vals (f.vals.length-1)=aG:=by
  rw [Cv.at_lt ht] at hi;have h1:=h.le t (f.vals.length-1) (by omega) (by omega);have h2:=(h.nn (f.vals.length-1)).2;rw [hi] at h1;unfold aG at *;omega
 by_cases e:f.vals.length<=u+1
 ·exact h.at_inf hl e
 ·have h1:=h.le t u htu (by omega);have h2:=(h.nn u).2;rw [Cv.at_lt (by omega)];rw [Cv.at_lt ht] at hi;rw [hi] at h1;unfold aG at *;omega
theorem Cv.Ok.per_at{f:Cv}(h:f.Ok)(hne:∀j,j<f.vals.length-f.per.toNat+f.per.toNat->f.at j≠aG):aY f.at (f.vals.length-f.per.toNat) f.per.toNat f.inc:=by
 have hp1:=h.p1;have hpn:=h.pn;have hF:f.Fin:=⟨h,fun e=>hne (f.vals.length-1) (by omega) (by rw [Cv.at_lt (by omega)];exact e)⟩
 exact hF.toL.step
theorem a0u{f g:Cv}{er:Int}(ok:f.Ok)(h:mQ f g er):eK f.at g er:=by
 have hp1:=ok.p1;have hpn:=ok.pn;rcases h with ⟨_,hb⟩|⟨h1,_⟩
 ·exact i9 (by omega) (fun t u ht htu hi=>ok.inf_from (by omega) htu hi) (fun hne=>ok.per_at hne) hb
 ·rw [Cv.okB_true ok] at h1;cases h1
theorem lO{f g:Cv}(ok:f.Ok)(h:NF f.at g):g.Ok/\g.vals.length<=f.vals.length/\g.per<=f.per/\g.inc<=f.inc/\(aB g.vals (g.vals.length-1)=aG↔aB f.vals (f.vals.length-1)=aG):=by
 have hp1:=ok.p1;have hpn:=ok.pn;have hn1:=ok.n1;have hi1:=ok.i1;have hv:∀k,k<g.vals.length->aB g.vals k=f.at k:=by
  rcases h with h|h
  ·exact h.vals
  ·exact h.vals
 have hmono:∀k,k+1<g.vals.length->aB g.vals k<=aB g.vals (k+1):=fun k hk=>by rw [hv k (by omega),hv _ hk];exact ok.at_mono k
 have hz:∀k,0<=f.at k:=fun k=>Int.le_trans (by rw [Cv.at_lt (by omega)];exact ok.z) (ok.at_le (Nat.zero_le k))
 rcases h with h|h
 ·have hlf:aB f.vals (f.vals.length-1)≠aG:=by
   intro e;have hh:rT f.at ⟨aZ f.at 0 0,1,0⟩->False:=fun b=>h.not_inf b
   have h1:=h.per.mul f.vals.length (g.vals.length-1) (by have:=h.p1;omega);have h2:=h.per.mul (f.vals.length+1) (g.vals.length-1) (by have:=h.p1;omega);have hgp:=h.p1;have hgn:=h.pn;have hle:f.vals.length<=f.vals.length*g.per.toNat:=Nat.le_mul_of_pos_right _ (by omega);rw [ok.at_inf e (by omega)] at h1;rw [ok.at_inf e (by rw [Nat.add_mul];omega),Int.natCast_add,Int.add_mul] at h2;apply h.fin (g.vals.length-1) (by omega)
   have hi:g.inc=0:=by omega
   rw [hi] at h1;omega
  have hF:f.Fin:=⟨ok,hlf⟩
  have hstep:=hF.toL.step;have hgp:=h.p1;have hgn:=h.pn;have hple:g.per<=f.per:=by
   have:=h.least _ _ _ (by omega) hstep
   omega
  have hinc:g.inc*f.per=f.inc*g.per:=by
   have h1:=h.per.mul f.per.toNat (f.vals.length+g.vals.length) (by omega);have h2:=hstep.mul g.per.toNat (f.vals.length+g.vals.length) (by omega);rw [Nat.mul_comm] at h1;rw [h1] at h2;have e1:(f.per.toNat:Int)=f.per:=by omega
   have e2:(g.per.toNat:Int)=g.per:=by omega
   rw [e1,e2] at h2;rw [Int.mul_comm g.inc,Int.mul_comm f.inc];omega
  have hg0:0<=g.inc:=by
   have h1:=h.per (g.vals.length) (by omega);have h2:=ok.at_le (t:=g.vals.length) (u:=g.vals.length+g.per.toNat) (by omega);omega
  have hgi:g.inc<=f.inc:=by
   rcases Int.lt_or_le f.inc g.inc with e|e
   ·exfalso
    have h3:f.inc*g.per<=f.inc*f.per:=Int.mul_le_mul_of_nonneg_left hple hi1;have h4:f.inc*f.per<g.inc*f.per:=Int.mul_lt_mul_of_pos_right e (by omega);omega
   ·exact e
  have hlen:g.vals.length<=f.vals.length:=by
   rcases Nat.lt_or_ge f.vals.length g.vals.length with e|e
   ·exfalso
    rcases h.start with hs|hs
    ·omega
    ·apply hs
     have hfrom:aY f.at (f.vals.length-f.per.toNat) g.per.toNat g.inc:=by
      intro t ht;have h1:=hstep.mul g.vals.length t ht;have h2:=hstep.mul g.vals.length (t+g.per.toNat) (by omega);have hle:g.vals.length<=g.vals.length*f.per.toNat:=Nat.le_mul_of_pos_right _ (by omega);have h3:=h.per (t+g.vals.length*f.per.toNat) (by omega);rw [show t+g.vals.length*f.per.toNat+g.per.toNat=t+g.per.toNat+g.vals.length*f.per.toNat by omega] at h3;rw [h2,h1] at h3;omega
     have:=hfrom (g.vals.length-g.per.toNat-1) (by omega)
     rw [<- this]
     congr 1
     omega
   ·exact e
  have hsm:∀k,k<g.vals.length->aB g.vals k<=1073741824:=fun k hk=>by
   rw [hv k hk,Cv.at_lt (by omega)];exact(hF.ne k (by omega)).2
  have hne:∀k,k<g.vals.length->aB g.vals k≠aG:=fun k hk=>by rw [hv k hk];exact h.fin k hk
  refine⟨⟨by omega,by have:=ok.n2;omega,hgp,by have:=ok.p2;omega,hgn,hg0,by have:=ok.i2;omega,fun k hk=>(iU _).2 (.inr (hsm k hk)),?_,hmono,fun e=>absurd e (hne _ (by omega)),fun _=>?_⟩,hlen,hple,hgi,?_⟩
  ·rw [hv 0 (by omega)];exact hz 0
  ·rw [hv _ (by omega),hv _ (by omega),<- h.per _ (Nat.le_refl _),show g.vals.length-g.per.toNat+g.per.toNat=g.vals.length by omega];exact ok.at_le (by omega)
  ·exact⟨fun e=>absurd e (hne _ (by omega)),fun e=>absurd e hlf⟩
 ·have hn:=h.n1;have hlf:aB f.vals (f.vals.length-1)=aG:=by
   rcases Classical.em (aB f.vals (f.vals.length-1)=aG) with e|e
   ·exact e
   ·exfalso
    have hF:f.Fin:=⟨ok,e⟩
    have h1:=hF.toL.step.mul g.vals.length (f.vals.length-1) (by omega);have h2:=hF.toL.step.mul (g.vals.length+1) (f.vals.length-1) (by omega);have hle:g.vals.length<=g.vals.length*f.per.toNat:=Nat.le_mul_of_pos_right _ (by omega);rw [h.from_ _ (by omega)] at h1;rw [h.from_ _ (by rw [Nat.add_mul];omega),Int.natCast_add,Int.add_mul] at h2;have hi:f.inc=0:=by omega
    rw [hi] at h1;apply e
    rw [Cv.at_lt (by omega)] at h1;omega
  have hlen:g.vals.length<=f.vals.length:=by
   rcases Nat.lt_or_ge f.vals.length g.vals.length with e|e
   ·exact absurd (ok.at_inf hlf (t:=f.vals.length-1) (by omega)) (h.before _ (by omega))
   ·exact e
  refine⟨⟨hn,by have:=ok.n2;omega,by rw [h.p1];omega,by rw [h.p1];omega,by rw [h.p1];omega,by rw [h.i0];omega,by rw [h.i0];omega,?_,?_,hmono,fun _=>⟨h.p1,h.i0⟩,fun e=>?_⟩,hlen,by rw [h.p1];exact hp1,by rw [h.i0];exact hi1,?_⟩
  ·intro k hk;rw [hv k hk,Cv.at_lt (by omega)];exact ok.v k (by omega)
  ·rw [hv 0 (by omega)];exact hz 0
  ·exact absurd (by rw [hv _ (by omega)];exact h.from_ _ (by omega)) e
  ·exact⟨fun _=>hlf,fun _=>by rw [hv _ (by omega)];exact h.from_ _ (by omega)⟩
theorem xO{f g:Cv}{er:Int}(ok:f.Ok)(h:mQ f g er):er=0/\NF f.at g/\g.Ok/\g.vals.length<=f.vals.length/\g.per<=f.per:=by
 obtain⟨g',hg,h⟩:=a0u ok h;obtain⟨ok',h1,h2,h3,_⟩:=lO ok hg;rcases h with ⟨_,rfl,rfl⟩|⟨hl,_⟩
 ·exact⟨rfl,hg,ok',h1,h2⟩
 ·exact absurd ⟨ok'.n2,ok'.v,ok'.p2,ok'.i2⟩ hl
def Cv.infAt(f:Cv)(n:Nat):Prop:=aB f.vals (f.vals.length-1)=aG/\f.at n=aG
def mM(U:Nat->Prop)(t:Int)(ok:Bool):Prop:=(ok=true/\∃n:Nat,t=n/\U n/\∀m,m<n->¬U m)\/(ok=false/\t=0/\∀n,¬U n)
theorem Cv.Fin.not_infAt{f:Cv}(h:f.Fin)(n:Nat):¬f.infAt n:=fun h'=>h.2 h'.1
theorem Cv.Ok.fin_or{f:Cv}(h:f.Ok):f.Fin\/aB f.vals (f.vals.length-1)=aG:=by
 by_cases e:aB f.vals (f.vals.length-1)=aG
 ·exact .inr e
 ·exact .inl ⟨h,e⟩
theorem Cv.Ok.at_bd{f:Cv}(h:f.Ok){n:Nat}(hn:n<=4000000000):0<=f.at n/\f.at n<=aG/\(f.at n=aG->f.infAt n):=by
 rcases h.fin_or with hf|hf
 ·have:=hf.at_bd n
  unfold aG;refine⟨this.1,by omega,fun e=>by omega⟩
 ·by_cases hlt:n<f.vals.length
  ·rw [Cv.at_lt hlt];have h1:=h.nn n;unfold aG;refine⟨h1.1,h1.2,fun e=>⟨hf,by rw [Cv.at_lt hlt];exact e⟩⟩
  ·have:=h.at_inf hf (t:=n) (by omega)
   rw [this];unfold aG;exact⟨by omega,by omega,fun _=>⟨hf,this⟩⟩
theorem Cv.infAt.later{f:Cv}(h:f.Ok){n m:Nat}(hi:f.infAt n)(hnm:n<=m):f.infAt m:=by
 by_cases hlt:n<f.vals.length
 ·exact⟨hi.1,h.inf_from hlt hnm hi.2⟩
 ·exact⟨hi.1,h.at_inf hi.1 (by omega)⟩
theorem Cv.Ok.infAt_start{f:Cv}(h:f.Ok)(hi:aB f.vals (f.vals.length-1)=aG){n:Nat}(hn:f.vals.length-f.per.toNat<=n):f.infAt n:=by
 have hp:=(h.last hi).1;refine⟨hi,h.at_inf hi ?_⟩
 rw [hp] at hn;have:(1:Int).toNat=1:=rfl
 omega
def dif(f g:Cv)(n:Nat):Int:=f.at n-g.at n
theorem aY.dif{f g:Cv}{s s' p q c a b:Nat}{x y:Int}(hf:aY f.at s p x)(hg:aY g.at s' q y)(ha:c=a*p)(hb:c=b*q)(F:Nat)(h1:s<=F)(h2:s'<=F):aY (dif f g) F c (a*x-b*y):=by
 intro t ht;have e1:=(hf.mono h1).mul a t ht;have e2:=(hg.mono h2).mul b t ht;rw [<- ha] at e1;rw [<- hb] at e2;show f.at (t+c)-g.at (t+c)=f.at t-g.at t+_
 rw [e1,e2];omega
theorem a2c{s c n:Nat}(hc:1<=c)(hn:s<=n):∃r m,r<c/\n=s+r+m*c:=
 ⟨(n-s) % c,(n-s) / c,Nat.mod_lt _ (by omega),by have:=Nat.mod_add_div (n-s) c;rw [Nat.mul_comm];omega⟩
def a9(p q:Nat):Nat:=p / Nat.gcd p q*q
theorem jP{p q:Nat}(hp:1<=p)(hq:1<=q):a9 p q=a9 p q / p*p/\a9 p q=a9 p q / q*q/\1<=a9 p q/\a9 p q<=p*q/\a9 p q / p<=q/\a9 p q / q<=p:=by
 obtain⟨a,ha⟩:=Nat.gcd_dvd_left p q;obtain⟨b,hb⟩:=Nat.gcd_dvd_right p q;have hg:0<Nat.gcd p q:=Nat.gcd_pos_of_pos_left _ hp;have e1:p / Nat.gcd p q=a:=by
  rw (config:={ occs:=.pos [1] }) [ha];exact Nat.mul_div_cancel_left _ hg
 have hc:a9 p q=a*q:=by unfold a9;rw [e1]
 have hc2:a9 p q=b*p:=by
  have h1:a*q=a*(Nat.gcd p q*b):=congrArg (a * ·) hb;have h2:b*p=b*(Nat.gcd p q*a):=congrArg (b * ·) ha;rw [hc,h1,h2]
  ac_rfl
 have d1:a9 p q / p=b:=by rw [hc2];exact Nat.mul_div_cancel _ hp
 have d2:a9 p q / q=a:=by rw [hc];exact Nat.mul_div_cancel _ hq
 have hap:a<=p:=by rw [<- e1];exact Nat.div_le_self _ _
 have hbq:b<=q:=by
  have:q / Nat.gcd p q=b:=by
   rw (config:={ occs:=.pos [1] }) [hb];exact Nat.mul_div_cancel_left _ hg
  rw [<- this];exact Nat.div_le_self _ _
 have ha1:1<=a:=by
  rcases Nat.eq_zero_or_pos a with e|e
  ·rw [e] at ha;omega
  ·exact e
 refine⟨by rw [d1];exact hc2,by rw [d2];exact hc,by rw [hc];exact Nat.mul_pos ha1 hq,by rw [hc];exact Nat.mul_le_mul_right q hap,by rw [d1];exact hbq,by rw [d2];exact hap⟩
def aL(f g:Cv):Nat:=max (f.vals.length-f.per.toNat) (g.vals.length-g.per.toNat)
def aI(f g:Cv):Nat:=a9 f.per.toNat g.per.toNat
def dG(f g:Cv):Int:=(aI f g / f.per.toNat:Nat)*f.inc-(aI f g / g.per.toNat:Nat)*g.inc
structure C2(f g:Cv):Prop where
 f0:aL f g<=400
 fs:f.vals.length-f.per.toNat<=aL f g
 gs:g.vals.length-g.per.toNat<=aL f g
 c1:1<=aI f g
 c2:aI f g<=14400
 d1:dG f g<=128849018880
 d2 : -128849018880<=dG f g
 a1:0<=((aI f g / f.per.toNat:Nat):Int)*f.inc/\((aI f g / f.per.toNat:Nat):Int)*f.inc<=128849018880
 a2:0<=((aI f g / g.per.toNat:Nat):Int)*g.inc/\((aI f g / g.per.toNat:Nat):Int)*g.inc<=128849018880
 b1:aI f g / f.per.toNat<=120
 b2:aI f g / g.per.toNat<=120
theorem iG{f g:Cv}(hf:f.Ok)(hg:g.Ok):C2 f g:=by
 have hn:=hf.n2;have hm:=hg.n2;have hp1:=hf.p1;have hp2:=hf.p2;have hi1:=hf.i1;have hi2:=hf.i2;have hq1:=hg.p1;have hq2:=hg.p2;have hj1:=hg.i1;have hj2:=hg.i2;obtain⟨e1,e2,e3,e4,e5,e6⟩:=jP (p:=f.per.toNat) (q:=g.per.toNat) (by omega) (by omega);have hpq:f.per.toNat*g.per.toNat<=120*120:=Nat.mul_le_mul (by omega) (by omega);have a1:((aI f g / f.per.toNat:Nat):Int)*f.inc<=120*1073741824:=Int.mul_le_mul (by show((a9 _ _ / _:Nat):Int)<=_;omega) hi2 hi1 (by omega);have a2:((aI f g / g.per.toNat:Nat):Int)*g.inc<=120*1073741824:=Int.mul_le_mul (by show((a9 _ _ / _:Nat):Int)<=_;omega) hj2 hj1 (by omega);have a3:0<=((aI f g / f.per.toNat:Nat):Int)*f.inc:=Int.mul_nonneg (Int.natCast_nonneg _) hi1;have a4:0<=((aI f g / g.per.toNat:Nat):Int)*g.inc:=Int.mul_nonneg (Int.natCast_nonneg _) hj1;refine⟨by unfold aL;omega,by unfold aL;omega,by unfold aL;omega,e3,by unfold aI;omega,by unfold dG;omega,by unfold dG;omega,⟨a3,by omega⟩,⟨a4,by omega⟩,by show a9 _ _ / _<=_;omega,by show a9 _ _ / _<=_;omega⟩
theorem a05{f g:Cv}(hf:f.Fin)(hg:g.Fin):aY (dif f g) (aL f g) (aI f g) (dG f g):=by
 have B:=iG hf.1 hg.1;obtain⟨e1,e2,e3,e4,e5,e6⟩:=jP (p:=f.per.toNat) (q:=g.per.toNat) (by have:=hf.1.p1;omega) (by have:=hg.1.p1;omega);exact aY.dif hf.toL.step hg.toL.step e1 e2 _ B.fs B.gs
def i4(f g:Cv)(er:Int):Prop:=(f.Ok/\NF f.at g/\g.Ok/\er=0)\/(¬f.Ok/\g=Cv.none/\er=1)
theorem i4.of{f g:Cv}{er:Int}(h:mQ f g er):i4 f g er:=by
 by_cases hf:f.Ok
 ·obtain⟨h1,h2,h3,_⟩:=xO hf h;exact .inl ⟨hf,h2,h3,h1⟩
 ·rcases h with ⟨h,_⟩|⟨_,h1,h2⟩
  ·exact absurd (Cv.okB_iff.1 h) hf
  ·exact .inr ⟨hf,h1,h2⟩
section
theorem eK.congr{h h':Nat->Int}{f:Cv}{er:Int}(m:eK h f er)(e:∀t,h t=h' t):eK h' f er:=by
 obtain rfl:h=h':=funext e;exact m
structure eZ(h:Nat->Int):Prop where
 z:0<=h 0
 m:∀t,h t<=h (t+1)
theorem eZ.le{h:Nat->Int}(H:eZ h){a b:Nat}(hab:a<=b):h a<=h b:=by
 induction b with
 | zero=>rw [show a=0 by omega];exact Int.le_refl _
 | succ b ih=>
   by_cases e:a=b+1
   ·rw [e];exact Int.le_refl _
   ·exact Int.le_trans (ih (by omega)) (H.m b)
theorem eZ.nn{h:Nat->Int}(H:eZ h)(t:Nat):0<=h t:=Int.le_trans H.z (H.le (Nat.zero_le t))
theorem Cv.Ok.up0{f:Cv}(h:f.Ok):eZ f.at:=⟨by rw [Cv.at_lt (by have:=h.n1;omega)];exact h.z,h.at_mono⟩
theorem oX{h:Nat->Int}{g:Cv}(hg:NF h g)(H:eZ h)(hl:jK g):g.Ok:=by
 have hv:∀k,k<g.vals.length->aB g.vals k=h k:=by
  rcases hg with hg|hg
  ·exact hg.vals
  ·exact hg.vals
 have hmono:∀k,k+1<g.vals.length->aB g.vals k<=aB g.vals (k+1):=fun k hk=>by rw [hv k (by omega),hv _ hk];exact H.m k
 rcases hg with hg|hg
 ·have hp1:=hg.p1;have hpn:=hg.pn;have hi:0<=g.inc:=by
   have h1:=hg.per (g.vals.length-g.per.toNat) (Nat.le_refl _);have h2:=H.le (show g.vals.length-g.per.toNat<=g.vals.length-g.per.toNat+g.per.toNat by omega);omega
  refine⟨by omega,hl.1,hp1,hl.2.2.1,hpn,hi,hl.2.2.2,hl.2.1,by rw [hv 0 (by omega)];exact H.z,hmono,fun e=>?_,fun _=>?_⟩
  ·exact absurd (by rw [<- hv _ (by omega)];exact e) (hg.fin (g.vals.length-1) (by omega))
  ·rw [hv _ (by omega),hv _ (by omega),<- hg.per _ (Nat.le_refl _)];exact H.le (by omega)
 ·have hn1:=hg.n1;have hp1:=hg.p1;have hi0:=hg.i0;refine⟨hn1,hl.1,by omega,hl.2.2.1,by omega,by omega,hl.2.2.2,hl.2.1,by rw [hv 0 (by omega)];exact H.z,hmono,fun _=>⟨hp1,hi0⟩,fun e=>?_⟩
  exact absurd (by rw [hv _ (by omega)];exact hg.from_ _ (by omega)) e
theorem Cv.Ok.lim{g:Cv}(h:g.Ok):jK g:=⟨h.n2,h.v,h.p2,h.i2⟩
theorem eK.get{h:Nat->Int}{f:Cv}{er:Int}(m:eK h f er)(H:eZ h):(er=0/\f.Ok/\NF h f)\/(er=3/\f=Cv.none):=by
 obtain⟨g,hg,⟨hl,rfl,rfl⟩|⟨_,rfl,rfl⟩⟩:=m
 ·exact .inl ⟨rfl,oX hg H hl,hg⟩
 ·exact .inr ⟨rfl,rfl⟩
theorem sZ{h:Nat->Int}{s p:Nat}{i:Int}(hp:1<=p)(H:aY h s p i)(hne:∀t,t<s+p->h t≠aG):∃g,kK h g/\g.vals.length<=s+p/\g.per<=p:=by
 obtain⟨r,k,b,hr,hk,hb,hR,hle⟩:=tG hp H;obtain⟨s',⟨hs1,hs2⟩,hs3⟩:=qS (Q:=fun s'=>s'<=s/\aY h s' r b) ⟨s,Nat.le_refl _,hR⟩;have hrp:r<=p:=by
  rw [hk];refine Nat.le_mul_of_pos_left _ ?_;rcases Nat.eq_zero_or_pos k with e|e
  ·rw [e,Nat.zero_mul] at hk;omega
  ·exact e
 have hl:(Cv.mk (aZ h 0 (s'+r)) r b).vals.length=s'+r:=cU _ _ _;have hpn:(Cv.mk (aZ h 0 (s'+r)) r b).per.toNat=r:=Int.toNat_natCast r;refine⟨⟨aZ h 0 (s'+r),r,b⟩,⟨by show(1:Int)<=r;omega,by rw [hl];show(r:Int)<=_;omega,?_,?_,?_,?_,fun t ht=>hne t (by rw [hl] at ht;omega)⟩,by rw [hl];omega,by show(r:Int)<=p;omega⟩
 ·intro t ht;rw [hl] at ht;show aB (aZ h 0 (s'+r)) t=_
  rw [dT _ _ _ _ ht,Nat.zero_add]
 ·rw [hl,hpn,Nat.add_sub_cancel];exact hs2
 ·rw [hpn];exact fun q s'' b h1 h2=>hle q s'' b h1 h2
 ·rw [hl,hpn,Nat.add_sub_cancel];by_cases e0:s'=0
  ·left;omega
  ·right
   intro e;apply hs3 (s'-1) (by omega)
   refine⟨by omega,fun t ht=>?_⟩
   by_cases et:t=s'-1
   ·rw [et];show h (s'-1+r)=h (s'-1)+b
    have e':h (s'-1)+b=h (s'+r-1):=e;rw [e',show s'-1+r=s'+r-1 by omega]
   ·exact hs2 t (by omega)
open Classical in
noncomputable def dW(a b:Cv)(t:Nat):Int:=if a.infAt t\/b.infAt t then aG else a.at t+b.at t
def pl(a b:Int):Int:=if a=aG\/b=aG then aG else a+b
theorem zN{a b:Cv}(ha:a.Ok)(hb:b.Ok){t:Nat}(ht:t<=4000000000):dW a b t=pl (a.at t) (b.at t):=by
 unfold dW pl;have h1:=ha.at_bd ht;have h2:=hb.at_bd ht;have e1:a.infAt t↔a.at t=aG:=⟨fun h=>h.2,h1.2.2⟩
 have e2:b.infAt t↔b.at t=aG:=⟨fun h=>h.2,h2.2.2⟩
 simp only [e1,e2]
def lA(S:Cv->Cv->Cv->Int->Prop)(f g r:Cv)(er:Int):Prop:=
 (¬(f.Ok/\g.Ok)/\r=Cv.none/\er=1)\/
 (f.Ok/\g.Ok/\∃a b,NF f.at a/\NF g.at b/\((120<a9 a.per.toNat b.per.toNat/\r=Cv.none/\er=3)\/(a9 a.per.toNat b.per.toNat<=120/\S a b r er)))
theorem lA.unique{S:Cv->Cv->Cv->Int->Prop}(hS:∀{a b r r':Cv} {e e':Int},S a b r e->S a b r' e'->r=r'/\e=e'){f g r r':Cv}{e e':Int}(h:lA S f g r e)(k:lA S f g r' e'):r=r'/\e=e':=by
 rcases h with ⟨h0,rfl,rfl⟩|⟨hf,hg,a,b,ha,hb,h⟩ <;> rcases k with ⟨k0,rfl,rfl⟩|⟨kf,kg,a',b',ka,kb,k⟩
 ·exact⟨rfl,rfl⟩
 ·exact absurd ⟨kf,kg⟩ h0
 ·exact absurd ⟨hf,hg⟩ k0
 ·obtain rfl:=ha.unique ka;obtain rfl:=hb.unique kb;rcases h with ⟨h1,rfl,rfl⟩|⟨h1,h⟩ <;> rcases k with ⟨k1,rfl,rfl⟩|⟨k1,k⟩
  ·exact⟨rfl,rfl⟩
  ·omega
  ·omega
  ·exact hS h k
def mU:Cv->Cv->Cv->Int->Prop:=lA fun a b r er=>eK (dW a b) r er
theorem NF.inf_iff{f a:Cv}(hf:f.Ok)(h:NF f.at a)(t:Nat):a.infAt t↔f.infAt t:=by
 have h1:=lO hf h;unfold Cv.infAt;rw [h.at t,h1.2.2.2.2]
theorem oS{p q:Prop}(ip:Decidable p)(iq:Decidable q)(h:p↔q){x y:Int}:(if p then x else y)=if q then x else y:=by
 by_cases hq:q
 ·rw [if_pos hq,if_pos (h.2 hq)]
 ·rw [if_neg hq,if_neg (fun k=>hq (h.1 k))]
theorem a4m{f g a b:Cv}(hf:f.Ok)(hg:g.Ok)(ha:NF f.at a)(hb:NF g.at b):dW a b=dW f g:=by
 funext t
 unfold dW;rw [ha.at,hb.at];exact oS _ _ (or_congr (ha.inf_iff hf t) (hb.inf_iff hg t))
theorem Cv.Ok.last_fin{a:Cv}(ha:a.Ok){t:Nat}(h0:¬a.infAt t)(h1:a.infAt (t+1)):t<400:=by
 have hn:=ha.n2;rcases Nat.lt_or_ge t 400 with h|h
 ·exact h
 ·exact absurd ⟨h1.1,ha.at_inf h1.1 (by omega)⟩ h0
theorem Cv.Ok.fin_bd{a:Cv}(ha:a.Ok){t:Nat}(h0:¬a.infAt t)(ht:t<400):0<=a.at t/\a.at t<=430570471424:=by
 refine⟨ha.up0.nn t,?_⟩
 rcases ha.fin_or with h|h
 ·have:=(h.at_bd t).2
  have h2:(t:Int)*1073741824<=400*1073741824:=Int.mul_le_mul_of_nonneg_right (by omega) (by omega);omega
 ·have hlt:t<a.vals.length:=by
   rcases Nat.lt_or_ge t a.vals.length with h'|h'
   ·exact h'
   ·exact absurd ⟨h,ha.at_inf h (by omega)⟩ h0
  have h2:=(iU _).1 (ha.v t hlt);rw [Cv.at_lt hlt];rcases h2 with h2|h2
  ·exact absurd ⟨h,by rw [Cv.at_lt hlt];exact h2⟩ h0
  ·omega
theorem a4n{a b:Cv}(ha:a.Ok)(hb:b.Ok):eZ (dW a b):=by
 refine⟨?_,fun t=>?_⟩
 ·unfold dW;split
  ·unfold aG;omega
  ·have h1:=ha.up0.z;have h2:=hb.up0.z;omega
 ·unfold dW;by_cases h2:a.infAt (t+1)\/b.infAt (t+1)
  ·rw [if_pos h2];split
   ·exact Int.le_refl _
   ·rename_i h1
    have h0:¬a.infAt t/\¬b.infAt t:=not_or.1 h1;have ht:t<400:=by
     rcases h2 with h2|h2
     ·exact ha.last_fin h0.1 h2
     ·exact hb.last_fin h0.2 h2
    have:=ha.fin_bd h0.1 ht;have:=hb.fin_bd h0.2 ht
    unfold aG;omega
  ·have h1:¬(a.infAt t\/b.infAt t):=fun h=>h2 (h.imp (fun h=>h.later ha (by omega)) (fun h=>h.later hb (by omega)))
   rw [if_neg h1,if_neg h2];have:=ha.at_mono t;have:=hb.at_mono t
   omega
theorem Cv.Fin.add_ne{a b:Cv}(ha:a.Fin)(hb:b.Fin){t:Nat}(ht:t<=1000000):a.at t+b.at t≠aG:=by
 have h1:=ha.at_bd t;have h2:=hb.at_bd t;have h3:(t:Int)*1073741824<=1000000*1073741824:=Int.mul_le_mul_of_nonneg_right (by omega) (by omega);unfold aG;omega
theorem zM{a b:Cv}(ha:a.Fin)(hb:b.Fin)(t:Nat):dW a b t=a.at t+b.at t:=by
 unfold dW;rw [if_neg (by rintro (h|h);exact ha.not_infAt t h;exact hb.not_infAt t h)]
theorem uB{a b:Cv}{t:Nat}(h:a.infAt t\/b.infAt t):dW a b t=aG:=by unfold dW;rw [if_pos h]
theorem zO{a b:Cv}(ha:a.Ok)(hb:b.Ok){t:Nat}(ht:t<=1000000):0<=dW a b t/\dW a b t<=4611686018427387904:=by
 by_cases h:a.infAt t\/b.infAt t
 ·rw [uB h];unfold aG;omega
 ·rw [not_or] at h;unfold dW;rw [if_neg (by rintro (h'|h');exact h.1 h';exact h.2 h')];have key:∀{c:Cv},c.Ok->¬c.infAt t->0<=c.at t/\c.at t<=1073741824+1000000*1073741824:=by
   intro c hc h0;rcases hc.fin_or with h'|h'
   ·have h1:=h'.at_bd t;have h2:(t:Int)*1073741824<=1000000*1073741824:=Int.mul_le_mul_of_nonneg_right (by omega) (by omega);omega
   ·have hlt:t<400:=by
     rcases Nat.lt_or_ge t 400 with hh|hh
     ·exact hh
     ·exact absurd ⟨h',hc.at_inf h' (by have:=hc.n2;omega)⟩ h0
    have:=hc.fin_bd h0 hlt
    omega
  have h1:=key ha h.1;have h2:=key hb h.2;omega
theorem a4l{a b:Cv}(ha:a.Ok)(hb:b.Ok){m t:Nat}(hm:m<=1000000)(h:dW a b m=aG)(hmt:m<=t):(a.infAt t\/b.infAt t):=by
 have h0:a.infAt m\/b.infAt m:=by
  by_cases hx:a.infAt m\/b.infAt m
  ·exact hx
  ·exfalso
   have h1:=zO ha hb hm;rw [not_or] at hx;rw [zN ha hb (by omega)] at h;unfold pl at h;have e1:a.at m≠aG:=fun e=>hx.1 ((ha.at_bd (by omega)).2.2 e)
   have e2:b.at m≠aG:=fun e=>hx.2 ((hb.at_bd (by omega)).2.2 e)
   rw [if_neg (by rintro (e|e);exact e1 e;exact e2 e)] at h;have key:∀{c:Cv},c.Ok->¬c.infAt m->0<=c.at m/\c.at m<=1073741824+1000000*1073741824:=by
    intro c hc h0;rcases hc.fin_or with h'|h'
    ·have h1:=h'.at_bd m;have h2:(m:Int)*1073741824<=1000000*1073741824:=Int.mul_le_mul_of_nonneg_right (by omega) (by omega);omega
    ·have hlt:m<400:=by
      rcases Nat.lt_or_ge m 400 with hh|hh
      ·exact hh
      ·exact absurd ⟨h',hc.at_inf h' (by have:=hc.n2;omega)⟩ h0
     have:=hc.fin_bd h0 hlt
     omega
   have h3:=key ha hx.1;have h4:=key hb hx.2;unfold aG at h;omega
 exact h0.imp (fun h=>h.later ha hmt) (fun h=>h.later hb hmt)
theorem a4p{a b:Cv}(ha:a.Ok)(hb:b.Ok){s c:Nat}(h1:a.vals.length-a.per.toNat<=s)(h2:b.vals.length-b.per.toNat<=s)(hc:c=a9 a.per.toNat b.per.toNat)(hne:∀j,j<s+c->dW a b j≠aG) :
 a.Fin/\b.Fin/\aY (dW a b) s c ((c / a.per.toNat:Nat)*a.inc+(c / b.per.toNat:Nat)*b.inc):=by
 have hp:=ha.p1;have hq:=hb.p1;have hk:=jP (p:=a.per.toNat) (q:=b.per.toNat) (by omega) (by omega);rw [<- hc] at hk;have key:∀{d:Cv},d.Ok->d.vals.length-d.per.toNat<=s->¬d.infAt s->d.Fin:=by
  intro d hd h h0;rcases hd.fin_or with h'|h'
  ·exact h'
  ·exact absurd (hd.infAt_start h' h) h0
 have hs:¬(a.infAt s\/b.infAt s):=fun h=>hne s (by omega) (uB h)
 rw [not_or] at hs;have fa:=key ha h1 hs.1;have fb:=key hb h2 hs.2;refine⟨fa,fb,fun t ht=>?_⟩
 rw [zM fa fb,zM fa fb];have e1:=fa.toL.step.mul (c / a.per.toNat) t (by omega);have e2:=fb.toL.step.mul (c / b.per.toNat) t (by omega);rw [<- hk.1] at e1;rw [<- hk.2.1] at e2;omega
def bJ(f:Cv):Nat:=f.vals.length-f.per.toNat
def kS(h:Cv)(l:Nat):Int:=((l / h.per.toNat:Nat):Int)*h.inc
section
variable{a:Cv}
theorem eO(ha:a.Ok):bJ a<=400:=by have:=ha.n2;unfold bJ;omega
theorem mB(ha:a.Ok)(h:¬a.Fin):aB a.vals (a.vals.length-1)=aG:=ha.fin_or.resolve_left h
theorem oY(ha:a.Ok){t:Nat}(ht:t<=4000000000):a.at t=aG↔a.infAt t:=⟨(ha.at_bd ht).2.2,fun h=>h.2⟩
theorem kR(fa:a.Fin){t:Nat}(ht:t<=4000000000):a.at t≠aG:=fun e=>fa.not_infAt t ((oY fa.1 ht).1 e)
end
end
def fO(f:Cv)(v:Int)(n:Nat):Prop:=f.infAt n\/(v≠aG/\v<=f.at n)
def fP(f:Cv)(v:Int)(k:Nat):Prop:=∀n,n<k->¬fO f v n
theorem fP.zero(f:Cv)(v:Int):fP f v 0:=fun n h=>by omega
theorem fP.succ{f:Cv}{v:Int}{k:Nat}(h:fP f v k)(h1:¬fO f v k):fP f v (k+1):=fun n hn=>by
 by_cases e:n=k
 ·rw [e];exact h1
 ·exact h n (by omega)
theorem wT{f:Cv}(hf:f.Ok){v:Int}(hv:v<=4611686018427387904){k:Nat}(hk:k<f.vals.length):fO f v k↔v<=aB f.vals k:=by
 have h0:=(iU _).1 (hf.v k hk);have h1:=hf.at_bd (n:=k) (by have:=hf.n2;omega);rw [Cv.at_lt hk] at h1;unfold fO;rw [Cv.at_lt hk];constructor
 ·rintro (h|h)
  ·have:=h.2;rw [Cv.at_lt hk] at this;rw [this];exact hv
  ·exact h.2
 ·intro h;by_cases e:aB f.vals k=aG
  ·exact .inl (h1.2.2 e)
  ·rcases h0 with h0|h0
   ·exact absurd h0 e
   ·exact .inr ⟨by unfold aG;omega,h⟩
theorem qW{f:Cv}(hf:f.Ok){v:Int}(h:fP f v f.vals.length):f.Fin:=by
 refine⟨hf,fun e=>h (f.vals.length-1) (by have:=hf.n1;omega) (.inl ⟨e,hf.at_inf e (by omega)⟩)⟩
theorem a18{f:Cv}(hf:f.Ok)(h:fP f aG f.vals.length):mM (fO f aG) 0 false:=by
 have hF:=qW hf h;exact .inr ⟨rfl,rfl,fun n hn=>by
  rcases hn with hn|hn
  ·exact hF.not_infAt n hn
  ·exact hn.1 rfl⟩
theorem a17{f:Cv}(hf:f.Ok){v:Int}(h:fP f v f.vals.length)(hi:f.inc=0):mM (fO f v) 0 false:=by
 have hF:=qW hf h;have hp1:=hf.p1;have hpn:=hf.pn;refine .inr ⟨rfl,rfl,fun n=>?_⟩
 induction n using Nat.strongRecOn with
 | _ n ih=>
   by_cases hn:n<f.vals.length
   ·exact h n hn
   ·obtain⟨u,rfl⟩:∃u,n=u+f.per.toNat:=⟨n-f.per.toNat,by omega⟩
    have h1:=ih u (by omega);rintro (h2 | ⟨h2,h3⟩)
    ·exact hF.not_infAt _ h2
    ·rw [hF.toL.step u (by omega),hi] at h3;exact h1 (.inr ⟨h2,by omega⟩)
theorem yH{f:Cv}{v:Int}{k:Nat}(h:fP f v k)(h1:fO f v k):mM (fO f v) k true:=.inl ⟨rfl,k,rfl,h1,h⟩
theorem a16{f:Cv}(hf:f.Ok){v:Int}(h:fP f v f.vals.length){k:Nat}(hk:((k:Int)-1)*f.inc<v-aB f.vals (f.vals.length-1))(hk1:1<=k):fP f v (f.vals.length+(k-1)*f.per.toNat):=by
 have hF:=qW hf h;have hp1:=hf.p1;have hpn:=hf.pn;intro n hn;rintro (h2 | ⟨h2,h3⟩)
 ·exact hF.not_infAt _ h2
 ·have e1:=hF.toL.step.mul (k-1) (f.vals.length-1) (by omega);have h4:=hf.at_le (show n<=f.vals.length-1+(k-1)*f.per.toNat by omega);rw [e1,Cv.at_lt (t:=f.vals.length-1) (by omega)] at h4;have e2:((k-1:Nat):Int)=(k:Int)-1:=by omega
  rw [e2] at h4;omega
theorem a15{f:Cv}(hF:f.Fin){v:Int}(hv:v≠aG){k:Nat}(hk:v-aB f.vals (f.vals.length-1)<=(k:Int)*f.inc):fO f v (f.vals.length-1+k*f.per.toNat):=by
 have hp1:=hF.1.p1;have hpn:=hF.1.pn;have e1:=hF.toL.step.mul k (f.vals.length-1) (by omega);rw [Cv.at_lt (t:=f.vals.length-1) (by omega)] at e1;exact .inr ⟨hv,by rw [e1];omega⟩
def dX(f g:Cv)(t u:Nat):Prop:=g.infAt u\/(¬f.infAt t/\f.at t<=g.at u)
theorem dX.mono{f g:Cv}(hg:g.Ok){t u u':Nat}(h:dX f g t u)(hu:u<=u'):dX f g t u':=by
 rcases h with h | ⟨h1,h2⟩
 ·exact .inl (h.later hg hu)
 ·exact .inr ⟨h1,Int.le_trans h2 (hg.at_le hu)⟩
theorem sQ{f g:Cv}(hf:f.Ok){t:Nat}(ht:t<=4000000000)(n:Nat):fO g (f.at t) n↔dX f g t n:=by
 have h1:=hf.at_bd ht;unfold fO dX;have e:f.infAt t↔f.at t=aG:=⟨fun h=>h.2,h1.2.2⟩
 rw [e]
def DB(f g:Cv)(M:Nat):Prop:=∀t,dX f g t (t+M)
def dB(f g:Cv)(i:Bool)(v A:Nat):Prop:=
 (i=true/\v=0/\A=0/\∀M,¬DB f g M)\/(i=false/\DB f g v/\(v=0->A=0)/\∀u,v=u+1->¬dX f g A (A+u)/\∀t,t<A->dX f g t (t+u))
theorem dB.unique{f g:Cv}(hg:g.Ok){i j:Bool}{v A w B:Nat}(h:dB f g i v A)(k:dB f g j w B):i=j/\v=w/\A=B:=by
 rcases h with ⟨rfl,rfl,rfl,h⟩|⟨rfl,h1,h2,h3⟩ <;> rcases k with ⟨rfl,rfl,rfl,k⟩|⟨rfl,k1,k2,k3⟩
 ·exact⟨rfl,rfl,rfl⟩
 ·exact absurd k1 (h _)
 ·exact absurd h1 (k _)
 ·have hvw:v=w:=by
   rcases Nat.lt_trichotomy v w with e|e|e
   ·exfalso
    obtain⟨u,rfl⟩:∃u,w=u+1:=⟨w-1,by omega⟩
    exact(k3 u rfl).1 ((h1 B).mono hg (by omega))
   ·exact e
   ·exfalso
    obtain⟨u,rfl⟩:∃u,v=u+1:=⟨v-1,by omega⟩
    exact(h3 u rfl).1 ((k1 A).mono hg (by omega))
  subst hvw;refine⟨rfl,rfl,?_⟩
  rcases Nat.eq_zero_or_pos v with e|e
  ·rw [h2 e,k2 e]
  ·obtain⟨u,rfl⟩:∃u,v=u+1:=⟨v-1,by omega⟩
   have h4:=h3 u rfl;have k4:=k3 u rfl;rcases Nat.lt_trichotomy A B with e|e|e
   ·exact absurd (k4.2 A e) h4.1
   ·exact e
   ·exact absurd (h4.2 B e) k4.1
structure i3(f g:Cv)(k v A:Nat):Prop where
 le:∀t,t<k->dX f g t (t+v)
 z:v=0->A=0
 s:∀u,v=u+1->A<k/\¬dX f g A (A+u)/\∀t,t<A->dX f g t (t+u)
theorem i3.zero(f g:Cv):i3 f g 0 0 0:=⟨fun t h=>by omega,fun _=>rfl,fun u h=>by omega⟩
theorem i3.less{f g:Cv}(hg:g.Ok){k v A r:Nat}(h:i3 f g k v A)(h1:dX f g k r)(h2:r<=k+v):i3 f g (k+1) v A:=
 ⟨fun t ht=>by
  by_cases e:t=k
  ·rw [e];exact h1.mono hg h2
  ·exact h.le t (by omega),h.z,fun u hu=>⟨by have:=(h.s u hu).1;omega,(h.s u hu).2⟩⟩
theorem i3.more{f g:Cv}(hg:g.Ok){k v A r:Nat}(h:i3 f g k v A)(h1:dX f g k r)(h0:∀m,m<r->¬dX f g k m)(h2:k+v<r):i3 f g (k+1) (r-k) k:=
 ⟨fun t ht=>by
  by_cases e:t=k
  ·rw [e];exact h1.mono hg (by omega)
  ·exact(h.le t (by omega)).mono hg (by omega),fun e=>by omega,fun u hu=>⟨by omega,h0 _ (by omega),fun t ht=>(h.le t ht).mono hg (by omega)⟩⟩
def l3(a b:Cv):Prop:=b.Fin/\(¬a.Fin\/dG a b>0)
theorem dX.step{a b:Cv}(ha:a.Ok)(hb:b.Ok)(hl:¬l3 a b){t u:Nat}(ht:aL a b<=t)(hu:aL a b<=u)(h:dX a b t u):dX a b (t+aI a b) (u+aI a b):=by
 rcases hb.fin_or with fb|ib
 ·have fa:a.Fin:=Classical.byContradiction fun h'=>hl ⟨fb,.inl h'⟩
  have hd:dG a b<=0:=by
   by_cases h':dG a b<=0
   ·exact h'
   ·exact absurd ⟨fb,.inr (by omega)⟩ hl
  rcases h with h | ⟨_,h⟩
  ·exact absurd h (fb.not_infAt u)
  ·refine .inr ⟨fa.not_infAt _,?_⟩;have hp:=ha.p1;have hq:=hb.p1;have hk:=jP (p:=a.per.toNat) (q:=b.per.toNat) (by omega) (by omega);have e1:=fa.toL.step.mul (aI a b / a.per.toNat) t (by unfold aL at ht;omega);have e2:=fb.toL.step.mul (aI a b / b.per.toNat) u (by unfold aL at hu;omega);unfold dG at hd;have k1:aI a b / a.per.toNat*a.per.toNat=aI a b:=hk.1.symm;have k2:aI a b / b.per.toNat*b.per.toNat=aI a b:=hk.2.1.symm;rw [k1] at e1;rw [k2] at e2;rw [e1,e2];omega
 ·exact .inl (hb.infAt_start ib (by unfold aL at hu;omega))
theorem i3.done{a b:Cv}(ha:a.Ok)(hb:b.Ok)(hl:¬l3 a b){v A T:Nat}(hT:aL a b+aI a b<=T)(h:i3 a b T v A):dB a b false v A:=by
 have hp:=ha.p1;have hq:=hb.p1;have hk:=jP (p:=a.per.toNat) (q:=b.per.toNat) (by omega) (by omega);have hc1:1<=aI a b:=hk.2.2.1;refine .inr ⟨rfl,fun t=>?_,h.z,fun u hu=>(h.s u hu).2⟩
 induction t using Nat.strongRecOn with
 | _ t ih=>
   by_cases ht:t<T
   ·exact h.le t ht
   ·obtain⟨r,rfl⟩:∃r,t=r+aI a b:=⟨t-aI a b,by omega⟩
    have:=(ih r (by omega)).step ha hb hl (by omega) (by omega)
    rw [show r+v+aI a b=r+aI a b+v by omega] at this;exact this
theorem tA{a b:Cv}{t:Nat}(h:∀n,¬dX a b t n):dB a b true 0 0:=.inl ⟨rfl,rfl,rfl,fun M hM=>h _ (hM t)⟩
theorem U8{a b:Cv}(fa:a.Fin)(fb:b.Fin)(hd:0<dG a b)(x:Nat)(M:Int):∃k:Nat,b.at (x+aL a b+k*aI a b)+M<a.at (aL a b+k*aI a b):=by
 have hp:=fa.1.p1;have hq:=fb.1.p1;have hk:=jP (p:=a.per.toNat) (q:=b.per.toNat) (by omega) (by omega);have k1:aI a b / a.per.toNat*a.per.toNat=aI a b:=hk.1.symm;have k2:aI a b / b.per.toNat*b.per.toNat=aI a b:=hk.2.1.symm;have P1:=fa.toL.step.mul (aI a b / a.per.toNat);have P2:=fb.toL.step.mul (aI a b / b.per.toNat);rw [k1] at P1;rw [k2] at P2;obtain⟨D,hD⟩:∃D,D=b.at (x+aL a b)+M-a.at (aL a b):=⟨_,rfl⟩
 refine⟨D.toNat+1,?_⟩
 have e1:=P1.mul (D.toNat+1) (aL a b) (by unfold aL;omega);have e2:=P2.mul (D.toNat+1) (x+aL a b) (by unfold aL;omega);rw [e1,e2];have h1:((D.toNat+1:Nat):Int)*1<=((D.toNat+1:Nat):Int)*dG a b:=Int.mul_le_mul_of_nonneg_left (by omega) (by omega);unfold dG at h1;rw [Int.mul_sub] at h1;omega
theorem xF{a b:Cv}(ha:a.Ok)(h:l3 a b):dB a b true 0 0:=by
 obtain⟨fb,h|h⟩:=h
 ·have ia:aB a.vals (a.vals.length-1)=aG:=by
   rcases ha.fin_or with h'|h'
   ·exact absurd h' h
   ·exact h'
  refine tA (t:=aL a b) (fun n=>?_);rintro (h'|h')
  ·exact fb.not_infAt n h'
  ·exact h'.1 (ha.infAt_start ia (by unfold aL;omega))
 ·by_cases fa:a.Fin
  ·refine .inl ⟨rfl,rfl,rfl,fun M hM=>?_⟩;obtain⟨k,hk⟩:=U8 fa fb h M 0;rcases hM (aL a b+k*aI a b) with h'|h'
   ·exact fb.not_infAt _ h'
   ·have:=h'.2
    rw [show aL a b+k*aI a b+M=M+aL a b+k*aI a b by omega] at this;omega
  ·have ia:aB a.vals (a.vals.length-1)=aG:=by
    rcases ha.fin_or with h'|h'
    ·exact absurd h' fa
    ·exact h'
   refine tA (t:=aL a b) (fun n=>?_);rintro (h'|h')
   ·exact fb.not_infAt n h'
   ·exact h'.1 (ha.infAt_start ia (by unfold aL;omega))
def AB(f g:Cv)(k M:Nat):Prop:=∀t,g.infAt t\/(¬f.infAt (t+k)/\f.at (t+k)<=g.at t+M)
def z8(f g:Cv)(k:Nat)(i:Bool)(v A:Nat):Prop:=
 (i=true/\v=0/\A=0/\∀M,¬AB f g k M)\/(i=false/\AB f g k v/\(v=0->A=0)/\(0<v->(¬g.infAt A/\f.at (A+k)=g.at A+v)/\∀t,t<A->g.infAt t\/f.at (t+k)<g.at t+v))
theorem Z3{f g a b:Cv}(hf:f.Ok)(hg:g.Ok)(ha:NF f.at a)(hb:NF g.at b)(t u:Nat):dX a b t u↔dX f g t u:=by
 unfold dX;rw [ha.at,hb.at,ha.inf_iff hf,hb.inf_iff hg]
theorem dB.nf{f g a b:Cv}(hf:f.Ok)(hg:g.Ok)(ha:NF f.at a)(hb:NF g.at b){i:Bool}{v A:Nat}(h:dB a b i v A):dB f g i v A:=by
 have e:dX a b=dX f g:=by funext t u;exact propext (Z3 hf hg ha hb t u)
 unfold dB DB at *;rw [e] at h;exact h
theorem kK.per_dvd{h:Nat->Int}{g:Cv}(hg:kK h g){s p:Nat}{b:Int}(hp:1<=p)(H:aY h s p b):g.per.toNat∣p:=by
 obtain⟨r,k,b',hr,hk,_,hR,hle⟩:=tG hp H;have h1:=hg.least _ _ _ hr hR;have h2:=hle _ _ _ (by have:=hg.p1;omega) hg.per;have e:g.per.toNat=r:=by omega
 rw [e,hk];exact Nat.dvd_mul_left r k
theorem NF.per_dvd{h:Nat->Int}{g:Cv}(hg:NF h g){s p:Nat}{b:Int}(hp:1<=p)(H:aY h s p b):g.per.toNat∣p:=by
 rcases hg with hg|hg
 ·exact hg.per_dvd hp H
 ·rw [hg.p1];exact Nat.one_dvd p
def rQ(n d:Int):Prop:=1<=d/\d<=1073741824/\-1073741824<=n/\n<=1073741824/\Nat.gcd n.natAbs d.natAbs=1
instance (n d:Int):Decidable (rQ n d):=by unfold rQ;infer_instance
def uN(n d:Int):Prop:=rQ n d/\0<=n
instance (n d:Int):Decidable (uN n d):=by unfold uN;infer_instance
def bU(z:List Int):Nat->Int
 | 0=>0
 | k+1=>bU z k+aB z k
def pP(lo hi:Int)(S:Cv->Cv->Int->Prop)(f:Cv)(n:Int)(r:Cv)(er:Int):Prop:=
 (¬f.Ok/\r=Cv.none/\er=1)\/(f.Ok/\(n<lo\/hi<n)/\r=Cv.none/\er=2)\/(f.Ok/\lo<=n/\n<=hi/\∃a,NF f.at a/\S a r er)
theorem xA:(0:Int)≠aG:=by unfold aG;omega
theorem pH:NF (fun _=>0) ⟨[0],1,0⟩:=by
 refine .inl ⟨by show(1:Int)<=1;omega,by show(1:Int)<=1;omega,fun t ht=>?_,fun t ht=>by show(0:Int)=0+0;omega,fun q s b h1 h2=>h1,.inl rfl,fun t ht=>xA⟩;have:t=0:=by have:t<1:=ht;omega
 rw [this];rfl
theorem a0s{f a:Cv}(ha:NF f.at a)(h:∀t,a.at t=0):a=⟨[0],1,0⟩:=by
 have e:f.at=fun _=>0:=funext fun t=>by rw [<- ha.at];exact h t
 rw [e] at ha;exact ha.unique pH
section
def dZ(h:Nat->Int)(f:Cv)(er:Int):Prop:=(NF h f/\jK f/\er=0)\/((∀g,NF h g->¬jK g)/\f=Cv.none/\er=3)
theorem eK.toL{h:Nat->Int}{f:Cv}{er:Int}(m:eK h f er):dZ h f er:=by
 obtain⟨g,hg,⟨hl,rfl,rfl⟩|⟨hl,rfl,rfl⟩⟩:=m
 ·exact .inl ⟨hg,hl,rfl⟩
 ·exact .inr ⟨fun g' hg'=>by rw [hg'.unique hg];exact hl,rfl,rfl⟩
theorem dZ.unique{h:Nat->Int}{f f':Cv}{e e':Int}(a:dZ h f e)(b:dZ h f' e'):f=f'/\e=e':=by
 rcases a with ⟨h1,h2,rfl⟩|⟨h1,rfl,rfl⟩ <;> rcases b with ⟨k1,k2,rfl⟩|⟨k1,rfl,rfl⟩
 ·exact⟨h1.unique k1,rfl⟩
 ·exact absurd h2 (k1 _ h1)
 ·exact absurd k2 (h1 _ k1)
 ·exact⟨rfl,rfl⟩
theorem dZ.get{h:Nat->Int}{f:Cv}{er:Int}(m:dZ h f er)(H:eZ h):(er=0/\f.Ok/\NF h f)\/(er=3/\f=Cv.none):=by
 rcases m with ⟨h1,h2,rfl⟩|⟨_,rfl,rfl⟩
 ·exact .inl ⟨rfl,oX h1 H h2,h1⟩
 ·exact .inr ⟨rfl,rfl⟩
theorem dZ.none_{h:Nat->Int}(k:∀g,NF h g->¬jK g):dZ h Cv.none 3:=.inr ⟨k,rfl,rfl⟩
theorem a0a{h:Nat->Int}{g:Cv}(hg:NF h g)(hl:jK g)(hne:h 400≠aG):∃(q:Nat) (b:Int),1<=q/\aY h 400 q b:=by
 have h1:=hl.1;rcases hg with hg|hg
 ·have hp1:=hg.p1;exact⟨g.per.toNat,g.inc,by omega,hg.per.mono (by omega)⟩
 ·exact absurd (hg.from_ 400 (by omega)) hne
section
variable{l:Bool}{a b:Cv}
end
def bR(a b:Cv):Int:=(aI a b / a.per.toNat:Nat)*a.inc
def cH(a b:Cv):Int:=(aI a b / b.per.toNat:Nat)*b.inc
theorem l9{a b:Cv}(ha:a.Fin)(hb:b.Ok){s:Nat}(hs:a.vals.length-a.per.toNat<=s):aY a.at s (aI a b) (bR a b):=by
 have hp:=ha.1.p1;have hq:=hb.p1;have hk:=jP (p:=a.per.toNat) (q:=b.per.toNat) (by omega) (by omega);have:=(ha.toL.step.mono hs).mul (aI a b / a.per.toNat)
 rwa [show aI a b / a.per.toNat*a.per.toNat=aI a b from hk.1.symm] at this
theorem nA{a b:Cv}(ha:a.Ok)(hb:b.Fin){s:Nat}(hs:b.vals.length-b.per.toNat<=s):aY b.at s (aI a b) (cH a b):=by
 have hp:=ha.p1;have hq:=hb.1.p1;have hk:=jP (p:=a.per.toNat) (q:=b.per.toNat) (by omega) (by omega);have:=(hb.toL.step.mono hs).mul (aI a b / b.per.toNat)
 rwa [show aI a b / b.per.toNat*b.per.toNat=aI a b from hk.2.1.symm] at this
section
variable{l:Bool}{a b:Cv}
end
noncomputable def F3(a:Cv)(d t:Nat):Int:=if t=0 then 0 else a.at (t+d)
section
variable{a:Cv}{d:Nat}
theorem a5p{t:Nat}(h:0<t):F3 a d t=a.at (t+d):=if_neg (by omega)
end
open Classical in
noncomputable def dQ(a:Cv)(c:Int)(t:Nat):Int:=if t=0 then 0 else if a.infAt t then aG else a.at t+c
section
variable{a:Cv}{c:Int}
theorem lS:dQ a c 0=0:=if_pos rfl
theorem jT{t:Nat}(h:0<t)(hf:¬a.infAt t):dQ a c t=a.at t+c:=by unfold dQ;rw [if_neg (by omega),if_neg hf]
theorem mD{t:Nat}(h:0<t)(hf:a.infAt t):dQ a c t=aG:=by unfold dQ;rw [if_neg (by omega),if_pos hf]
theorem a1y{f:Cv}(hf:f.Ok)(ha:NF f.at a):dQ a c=dQ f c:=by
 funext t;unfold dQ
 rw [ha.at];by_cases h:t=0
 ·rw [if_pos h,if_pos h]
 ·rw [if_neg h,if_neg h];exact oS _ _ (ha.inf_iff hf t)
theorem a10(ha:a.Ok)(hc:c<=1073741824){t:Nat}(h:0<t)(ht:t<=4000000000):dQ a c t=pl (a.at t) c:=by
 unfold dQ pl;rw [if_neg (by omega)];have h1:=ha.at_bd ht;refine oS _ _ ⟨fun h=>.inl h.2,fun h=>?_⟩;rcases h with h|h
 ·exact h1.2.2 h
 ·unfold aG at h;omega
theorem yE(ha:a.Ok)(hc0:0<=c)(hc:c<=1073741824):eZ (dQ a c):=by
 refine⟨by rw [lS];omega,fun t=>?_⟩
 rcases Nat.eq_zero_or_pos t with e|e
 ·subst e;rw [lS];by_cases h:a.infAt (0+1)
  ·rw [mD (by omega) h];unfold aG;omega
  ·rw [jT (by omega) h];have:=ha.up0.nn (0+1);omega
 ·have h3:=ha.at_mono t;by_cases h1:a.infAt t
  ·rw [mD e h1,mD (by omega) (h1.later ha (by omega))];exact Int.le_refl _
  ·by_cases h2:a.infAt (t+1)
   ·rw [jT e h1,mD (by omega) h2];have:=(ha.fin_bd h1 (ha.last_fin h1 h2)).2
    unfold aG;omega
   ·rw [jT e h1,jT (by omega) h2];omega
theorem a11(ha:a.Ok)(hc0:0<=c)(hc:c<=1073741824){t:Nat}(ht:t<=1000000):0<=dQ a c t/\dQ a c t<=4611686018427387904:=by
 refine⟨(yE ha hc0 hc).nn t,?_⟩
 rcases Nat.eq_zero_or_pos t with e|e
 ·subst e;rw [lS];omega
 ·by_cases h1:a.infAt t
  ·rw [mD e h1];unfold aG;omega
  ·rw [jT e h1];rcases ha.fin_or with h|h
   ·have h2:=(h.at_bd t).2;have h4:(t:Int)*1073741824<=1000000*1073741824:=Int.mul_le_mul_of_nonneg_right (by omega) (by omega);omega
   ·have hlt:t<400:=by
     rcases Nat.lt_or_ge t 400 with hh|hh
     ·exact hh
     ·exact absurd ⟨h,ha.at_inf h (by have:=ha.n2;omega)⟩ h1
    have:=(ha.fin_bd h1 hlt).2
    omega
theorem a1w(ha:a.Ok)(hc0:0<=c)(hc:c<=1073741824){m t:Nat}(hm:m<=1000000)(h:dQ a c m=aG)(hmt:m<=t):a.infAt m/\dQ a c t=aG:=by
 rcases Nat.eq_zero_or_pos m with e|e
 ·subst e;rw [lS] at h;exact absurd h xA
 ·have h1:a.infAt m:=by
   by_cases h1:a.infAt m
   ·exact h1
   ·exfalso
    rw [jT e h1] at h;unfold aG at h;rcases ha.fin_or with h'|h'
    ·have h2:=(h'.at_bd m).2;have h4:(m:Int)*1073741824<=1000000*1073741824:=Int.mul_le_mul_of_nonneg_right (by omega) (by omega);omega
    ·have hlt:m<400:=by
      rcases Nat.lt_or_ge m 400 with hh|hh
      ·exact hh
      ·exact absurd ⟨h',ha.at_inf h' (by have:=ha.n2;omega)⟩ h1
     have:=(ha.fin_bd h1 hlt).2
     omega
  exact⟨h1,mD (by omega) (h1.later ha hmt)⟩
theorem a1z(ha:a.Fin){s:Nat}(h1:1<=s)(h2:a.vals.length-a.per.toNat<=s):aY (dQ a c) s a.per.toNat a.inc:=fun t ht=>by
 rw [jT (by omega) (ha.not_infAt _),jT (by omega) (ha.not_infAt _),ha.toL.step t (by omega)];omega
theorem a1v(ha:a.Ok){s:Nat}(h1:1<=s)(h2:a.vals.length-a.per.toNat<=s)(hne:∀j,j<s+a.per.toNat->dQ a c j≠aG):a.Fin:=by
 have hp:=ha.p1;rcases ha.fin_or with h|h
 ·exact h
 ·exact absurd (mD (by omega) (ha.infAt_start h h2)) (hne s (by omega))
theorem a1u(ha:a.Ok)(hc0:0<=c)(hc:c<=1073741824){s:Nat}{f:Cv}{er:Int}(h1:1<=s)(h2:a.vals.length-a.per.toNat<=s)(h3:s+a.per.toNat<=1000000)(h:eW (dQ a c) s a.per.toNat a.inc f er):dZ (dQ a c) f er:=
 (i9 (by have:=ha.p1;omega) (fun t u ht htu hi=>(a1w ha hc0 hc (by omega) hi htu).2) (fun hne=>a1z (a1v ha h1 h2 hne) h1 h2) h).toL
end
def jZ(f:Cv)(c:Int):Cv->Int->Prop:=pP 0 1073741824 (fun a r er=>dZ (dQ a c) r er) f c
open Classical in
noncomputable def gG(a:Cv)(c:Int)(t:Nat):Int:=if a.infAt t then aG else max 0 (a.at t-c)
section
variable{a:Cv}{c:Int}
theorem nI{t:Nat}(h:a.infAt t):gG a c t=aG:=if_pos h
theorem kT{t:Nat}(h:¬a.infAt t):gG a c t=max 0 (a.at t-c):=if_neg h
theorem a0i{f:Cv}(hf:f.Ok)(ha:NF f.at a):gG a c=gG f c:=by
 funext t;unfold gG
 rw [ha.at];exact oS _ _ (ha.inf_iff hf t)
theorem sY(ha:a.Ok){t:Nat}(ht:t<=4000000000):gG a c t=if a.at t=aG then aG else max 0 (a.at t-c):=by
 have h1:=ha.at_bd ht;exact oS _ _ ⟨fun h=>h.2,h1.2.2⟩
theorem xG(ha:a.Ok)(hc0:0<=c):eZ (gG a c):=by
 refine⟨?_,fun t=>?_⟩
 ·by_cases h:a.infAt 0
  ·rw [nI h];unfold aG;omega
  ·rw [kT h];omega
 ·have h3:=ha.at_mono t;by_cases h1:a.infAt t
  ·rw [nI h1,nI (h1.later ha (by omega))];exact Int.le_refl _
  ·by_cases h2:a.infAt (t+1)
   ·rw [kT h1,nI h2];have:=(ha.fin_bd h1 (ha.last_fin h1 h2)).2
    unfold aG;omega
   ·rw [kT h1,kT h2];omega
theorem a0j(ha:a.Ok)(hc0:0<=c){t:Nat}(ht:t<=4000000000):0<=gG a c t/\gG a c t<=4611686018427387904:=by
 refine⟨(xG ha hc0).nn t,?_⟩
 rw [sY ha ht];have h1:=(ha.at_bd ht).2.1;unfold aG at h1 ⊢;split
 ·omega
 ·omega
theorem a0h(ha:a.Ok)(hc0:0<=c){m t:Nat}(hm:m<=4000000000)(h:gG a c m=aG)(hmt:m<=t):a.infAt m/\gG a c t=aG:=by
 have h1:a.infAt m:=by
  have h2:=ha.at_bd hm;rw [sY ha hm] at h;refine h2.2.2 ?_;by_cases e:a.at m=aG
  ·exact e
  ·rw [if_neg e] at h;unfold aG at *;omega
 exact⟨h1,nI (h1.later ha hmt)⟩
theorem a0g(ha:a.Fin)(hi:a.inc=0){s:Nat}(h2:a.vals.length-a.per.toNat<=s):aY (gG a c) s a.per.toNat a.inc:=fun t ht=>by
 rw [kT (ha.not_infAt _),kT (ha.not_infAt _),ha.toL.step t (by omega),hi];omega
theorem a0f(ha:a.Ok){s:Nat}(h2:a.vals.length-a.per.toNat<=s)(hne:∀j,j<s+a.per.toNat->gG a c j≠aG):a.Fin:=by
 have hp:=ha.p1;rcases ha.fin_or with h|h
 ·exact h
 ·exact absurd (nI (ha.infAt_start h h2)) (hne s (by omega))
end
end
theorem Cv.Ok.nf{f:Cv}(hf:f.Ok):∃a,NF f.at a:=by
 have hp1:=hf.p1;have hpn:=hf.pn;have hn1:=hf.n1;rcases hf.fin_or with hF|hi
 ·obtain⟨g,hg,_⟩:=sZ (h:=f.at) (s:=f.vals.length-f.per.toNat) (p:=f.per.toNat) (by omega) hF.toL.step (fun t ht=>by rw [Cv.at_lt (by omega)];exact(hF.ne t (by omega)).1);exact⟨g,.inl hg⟩
 ·obtain⟨m,hm1,hm2⟩:=qS (Q:=fun m=>f.at m=aG) ⟨f.vals.length-1,hf.at_inf hi (by omega)⟩;have hml:m<=f.vals.length-1:=by
   rcases Nat.lt_or_ge (f.vals.length-1) m with h|h
   ·exact absurd (hf.at_inf hi (by omega)) (hm2 _ h)
   ·exact h
  have hl:(Cv.mk (aZ f.at 0 (m+1)) 1 0).vals.length=m+1:=cU _ _ _;refine⟨⟨aZ f.at 0 (m+1),1,0⟩,.inr ⟨rfl,rfl,by rw [hl];omega,fun t ht=>?_,fun t ht=>?_,fun t ht=>?_⟩⟩
  ·rw [hl] at ht;show aB (aZ f.at 0 (m+1)) t=_;rw [dT _ _ _ _ ht,Nat.zero_add]
  ·rw [hl] at ht;exact hm2 t (by omega)
  ·rw [hl] at ht;exact hf.inf_from (t:=m) (by omega) (by omega) hm1
theorem pP.made{lo hi:Int}{S:Cv->Cv->Int->Prop}{f r:Cv}{n er:Int}(hf:f.Ok)(h1:lo<=n)(h2:n<=hi)(h:pP lo hi S f n r er):∃a,NF f.at a/\S a r er:=by
 rcases h with ⟨h,_⟩|⟨_,h,_⟩|⟨_,_,_,a,ha,h⟩
 ·exact absurd hf h
 ·omega
 ·exact⟨a,ha,h⟩
theorem jZ.made{f r:Cv}{n er:Int}(hf:f.Ok)(h1:0<=n)(h2:n<=1073741824)(h:jZ f n r er):dZ (dQ f n) r er:=by
 obtain⟨a,ha,h⟩:=pP.made (S:=fun a r er=>dZ (dQ a n) r er) hf h1 h2 h;have h':dZ (dQ a n) r er:=h
 rwa [a1y hf ha] at h'
theorem dZ.is{h:Nat->Int}{f g:Cv}{er:Int}(m:dZ h f er)(hg:NF h g)(hl:jK g):f=g/\er=0:=m.unique (.inl ⟨hg,hl,rfl⟩)
end Go.Proofs.YtaejfleahamapaaGreat
