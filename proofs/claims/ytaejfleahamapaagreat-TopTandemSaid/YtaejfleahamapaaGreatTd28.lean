/- . -/
import Derived.Test.YtaejfleahamapaaGreatTd18
import Derived.Test.YtaejfleahamapaaGreatTd21
import Derived.Test.YtaejfleahamapaaGreatTd27
namespace Go.Proofs.YtaejfleahamapaaGreat
set_option linter.unusedVariables false
set_option linter.unusedSimpArgs false
theorem iH(x:PK):x.own 0=true↔x.fl=0:=by
 unfold PK.own;simp
def pK(c:Int)(ps:List PK):Nat->Int
 | 0=>0
 | k+1=>pK c ps k+(match ps[k]? with
   | some x=>if x.fl=c then x.sz else 0
   | none=>0)
theorem xX(c:Int):∀k,pK c [] k=0
 | 0=>rfl
 | k+1=>by unfold pK;rw [xX c k];rfl
theorem o8(c:Int)(x:PK)(ps:List PK):∀k,pK c (x :: ps) (k+1)=(if x.fl=c then x.sz else 0)+pK c ps k
 | 0=>by show 0+(if x.fl=c then x.sz else 0)=_+0;omega
 | k+1=>by
   have ih:=o8 c x ps k;rw [pK,ih,List.getElem?_cons_succ];show _=_+(pK c ps k+_)
   rw [Int.add_assoc]
theorem lR(c:Int):∀(ps:List PK) (i:Nat),bE c ps i=pK c ps (i+1)
 | [],i=>by rw [xX];rfl
 | x :: ps,0=>by rw [o8];show _=_+0;rw [bE];omega
 | x :: ps,i+1=>by rw [o8,bE,lR c ps i]
def dK(ps:List PK)(done:List Int)(s:Int):Nat->Int
 | 0=>0
 | k+1=>dK ps done s k+(match ps[k]? with
   | some x=>if x.fl=0/\aB done k≠-1/\aB done k+1<s then x.sz else 0
   | none=>0)
section
variable{ps:List PK}{done:List Int}{s:Int}
theorem sH(hz:∀x∈ps,0<=x.sz):∀k,(∀(j:Nat) (x:PK),j<k->ps[j]?=some x->x.fl=0->aB done j≠-1/\aB done j+1<s)->pK 0 ps k<=dK ps done s k
 | 0,_=>Int.le_refl _
 | k+1,h=>by
   have ih:=sH hz k (fun j x hj=>h j x (by omega));unfold pK dK;split
   ·rename_i x hx
    by_cases e:x.fl=0
    ·rw [if_pos e,if_pos ⟨e,h k x (by omega) hx e⟩];omega
    ·rw [if_neg e,if_neg (fun h=>e h.1)];omega
   ·omega
theorem qC(hz:∀x∈ps,0<=x.sz)(k:Nat):∀n,dK ps done s k<=dK ps done s (k+n)
 | 0=>Int.le_refl _
 | n+1=>by
   have ih:=qC hz k n;rw [<- Nat.add_assoc,dK];split
   ·rename_i x hx
    have:=hz x (List.mem_of_getElem? hx)
    split <;> omega
   ·omega
theorem O5(hz:∀x∈ps,0<=x.sz)(n:Nat):0<=dK ps done s n:=by
 have:=qC (done:=done) (s:=s) hz 0 n
 rw [Nat.zero_add] at this;exact this
theorem uZ:∀k,aV 0 ((cY ps done k).map AR.p) s=dK ps done s k
 | 0=>by simp [cY,aV,aX,eY,dK]
 | k+1=>by
   have ih:=uZ k;unfold cY dK;rw [List.map_append,<- ih];cases hx:ps[k]? with
   | none=>simp
   | some x=>
     simp only
     by_cases e:aB done k = -1
     ·rw [if_pos e,if_neg (fun h=>h.2.1 e)];simp
     ·rw [if_neg e];show aV 0 (_ ++ [(⟨x.fl,aB done k+1,x.sz⟩:PK)]) s=_
      rw [vB (by omega)];show _+(if x.fl=0/\aB done k+1<s then x.sz else 0)=_
      by_cases h1:x.fl=0
      ·by_cases h2:aB done k+1<s
       ·rw [if_pos ⟨h1,h2⟩,if_pos ⟨h1,e,h2⟩]
       ·rw [if_neg (fun h=>h2 h.2),if_neg (fun h=>h2 h.2.2)]
      ·rw [if_neg (fun h=>h1 h.1),if_neg (fun h=>h1 h.1)]
def bO(ps:List PK)(done:List Int)(k:Nat):List AR:=(cY ps done k).filter (fun a=>a.p.own 0)
theorem wS(k:Nat):∀n,∃R,cY ps done (k+n)=cY ps done k ++ R/\∀b∈R,(k:Int)<=b.ix
 | 0=>⟨[],by simp,fun b hb=>by cases hb⟩
 | n+1=>by
   obtain⟨R,h1,h2⟩:=wS k n;refine⟨R ++ (match ps[k+n]? with
    | some x=>if aB done (k+n) = -1 then [] else [⟨⟨x.fl,aB done (k+n)+1,x.sz⟩,((k+n:Nat):Int)⟩]
    | none=>[]),by rw [<- Nat.add_assoc,cY,h1,List.append_assoc];rfl,fun b hb=>?_⟩
   rcases List.mem_append.1 hb with h|h
   ·exact h2 b h
   ·split at h
    ·split at h
     ·cases h
     ·rw [List.mem_singleton] at h;subst h;show(k:Int)<=((k+n:Nat):Int);omega
    ·cases h
theorem m9{k:Nat}{a:AR}(h:a∈bO ps done k):∃(i:Nat) (x:PK),i<k/\ps[i]?=some x/\x.fl=0/\aB done i≠-1/\a=⟨⟨x.fl,aB done i+1,x.sz⟩,i⟩:=by
 obtain⟨h1,h2⟩:=List.mem_filter.1 h;obtain⟨i,x,h3,h4,h5,rfl⟩:=sP h1;exact⟨i,x,h3,h4,(iH _).1 h2,h5,rfl⟩
theorem U7{N n i:Nat}{a:AR}(ha:(bO ps done N)[n]?=some a)(hi:a.ix=i):i<N/\(bO ps done N).take (n+1)=bO ps done (i+1):=by
 obtain⟨i',x,h1,h2,h3,h4,rfl⟩:=m9 (List.mem_of_getElem? ha);obtain rfl:i'=i:=by have h:(i':Int)=i:=hi;omega
 refine⟨h1,?_⟩
 obtain⟨R,hR,hRi⟩:=wS (ps:=ps) (done:=done) (i'+1) (N-(i'+1));rw [show i'+1+(N-(i'+1))=N by omega] at hR;have e1:bO ps done N=bO ps done (i'+1) ++ R.filter (fun a=>a.p.own 0):=by unfold bO;rw [hR,List.filter_append]
 have e2:bO ps done (i'+1)=bO ps done i' ++ [⟨⟨x.fl,aB done i'+1,x.sz⟩,i'⟩]:=by
  unfold bO;rw [cY,List.filter_append,h2];simp only
  rw [if_neg h4,List.filter_cons_of_pos (by exact(iH _).2 h3),List.filter_nil]
 have hn:n=(bO ps done i').length:=by
  rcases Nat.lt_trichotomy n (bO ps done i').length with h|h|h
  ·exfalso
   rw [e1,e2,List.append_assoc,List.getElem?_append_left h] at ha;obtain⟨j,y,k1,_,_,_,k2⟩:=m9 (List.mem_of_getElem? ha);have:=congrArg AR.ix k2
   have:(i':Int)=j:=this
   omega
  ·exact h
  ·exfalso
   rw [e1,List.getElem?_append_right (by rw [e2,List.length_append,List.length_singleton];omega)] at ha;have:=hRi _ (List.mem_filter.1 (List.mem_of_getElem? ha)).1
   have:((i'+1:Nat):Int)<=(i':Int):=this
   omega
 rw [e1,List.take_append_of_le_length (by rw [e2,List.length_append,List.length_singleton];omega)];rw [List.take_of_length_le (by rw [e2,List.length_append,List.length_singleton];omega)]
def jF(l:List PK):Int:=(l.map PK.sz).sum
theorem a1p(a b:List PK):jF (a ++ b)=jF a+jF b:=by unfold jF;rw [List.map_append,List.sum_append]
theorem yD:∀k,(∀(j:Nat) (x:PK),j<k->ps[j]?=some x->x.fl=0->aB done j≠-1)->jF ((bO ps done k).map AR.p)=pK 0 ps k
 | 0,_=>rfl
 | k+1,h=>by
   have ih:=yD k (fun j x hj=>h j x (by omega));unfold bO at ih ⊢;rw [cY,List.filter_append,List.map_append,a1p,ih,pK];cases hx:ps[k]? with
   | none=>simp [jF]
   | some x=>
     simp only
     by_cases e:x.fl=0
     ·rw [if_pos e,if_neg (h k x (by omega) hx e),List.filter_cons_of_pos (by exact(iH _).2 e),List.filter_nil];simp [jF]
     ·rw [if_neg e];by_cases e2:aB done k = -1
      ·rw [if_pos e2];simp [jF]
      ·rw [if_neg e2,List.filter_cons_of_neg (by exact fun h=>e ((iH _).1 h)),List.filter_nil];simp [jF]
end
theorem tO:∀(q:List PK) (m:Nat) (x:PK),q[m]?=some x->x.fl=0->(aX 0 q)[(aX 0 (q.take m)).length]?=some x/\bE 0 q m=jF ((aX 0 q).take ((aX 0 (q.take m)).length+1))
 | [],m,x,h,_=>by simp at h
 | y :: q,0,x,h,hx=>by
   simp at h;subst h;have e:aX 0 (y :: q)=y :: aX 0 q:=by unfold aX;rw [List.filter_cons_of_pos ((iH _).2 hx)]
   rw [e];refine⟨rfl,?_⟩
   rw [bE,if_pos hx];simp [aX,jF]
 | y :: q,m+1,x,h,hx=>by
   simp at h;obtain⟨h1,h2⟩:=tO q m x h hx;rw [List.take_succ_cons];by_cases e:y.fl=0
   ·have e1:∀l:List PK,aX 0 (y :: l)=y :: aX 0 l:=fun l=>by unfold aX;rw [List.filter_cons_of_pos ((iH _).2 e)]
    rw [e1,e1,List.length_cons,List.getElem?_cons_succ,bE,if_pos e,h2,List.take_succ_cons];refine⟨h1,?_⟩
    simp [jF]
   ·have e1:∀l:List PK,aX 0 (y :: l)=aX 0 l:=fun l=>by unfold aX;rw [List.filter_cons_of_neg (fun h=>e ((iH _).1 h))]
    rw [e1,e1,bE,if_neg e,h2];exact⟨h1,by omega⟩
theorem tE{c:Int}{ps:List PK}(hz:∀x∈ps,0<=x.sz)(k:Nat):∀n,pK c ps k<=pK c ps (k+n)
 | 0=>Int.le_refl _
 | n+1=>by
   have ih:=tE (c:=c) hz k n;rw [<- Nat.add_assoc,pK];split
   ·rename_i x hx
    have:=hz x (List.mem_of_getElem? hx)
    split <;> omega
   ·omega
theorem pV{c:Int}(h0:0<=c)(u:Int):∀(ps:List PK),(∀(k j:Nat) (x y:PK),k<=j->ps[k]?=some x->ps[j]?=some y->x.tm<=y.tm)->∃k,k<=ps.length/\aV c ps u=pK c ps k
 | [],_=>⟨0,Nat.le_refl _,rfl⟩
 | x :: ps,hs=>by
   by_cases h:x.tm<u
   ·obtain⟨k,h1,h2⟩:=pV h0 u ps (fun k j a b hkj ha hb=>hs (k+1) (j+1) a b (by omega) (by simpa using ha) (by simpa using hb));refine⟨k+1,by rw [List.length_cons];omega,?_⟩
    rw [o8,<- h2,jN h0];by_cases e:x.fl=c
    ·rw [if_pos ⟨e,h⟩,if_pos e]
    ·rw [if_neg (fun h=>e h.1),if_neg e]
   ·refine⟨0,Nat.zero_le _,?_⟩
    show aV c (x :: ps) u=0
    unfold aV eY;have:∀y∈aX c (x :: ps),¬y.tm<u:=fun y hy=>by
     have hm:=(List.mem_filter.1 hy).1;obtain⟨j,hj⟩:=List.getElem?_of_mem hm;have:=hs 0 j x y (Nat.zero_le _) rfl hj
     omega
    generalize aX c (x :: ps)=l at this
    induction l with
    | nil=>rfl
    | cons z l ih=>
      rw [List.map_cons,List.sum_cons,if_neg (this z (List.mem_cons_self ..)),ih (fun y hy=>this y (List.mem_cons_of_mem _ hy))]
      rfl
section
variable{σ:Type}{ps:List PK}{s1:RS σ}{c:Int}
theorem oM(hv:aM ps)(h:dM 2 ps s1){i j:Nat}{x y:PK}(hi:ps[i]?=some x)(hj:ps[j]?=some y)(hx0:x.fl=0)(hy0:y.fl=0)(hij:i<=j)(hd:aB s1.done j≠-1):aB s1.done i≠-1/\0<=aB s1.done i/\aB s1.done i<=aB s1.done j:=by
 have hdj:0<=aB s1.done j/\aB s1.done j<s1.cur:=by
  rcases h.dn j y hj with ⟨e,_⟩|⟨a,b,_⟩
  ·exact absurd e hd
  ·exact⟨a,b⟩
 have f:=h.fw j y 0 hj hy0 hdj.1;have hs:bE (0:Nat) ps i<=bE (0:Nat) ps j:=by
  rcases Nat.lt_or_ge i j with g|g
  ·exact Int.le_of_lt (lQ (fun x hx=>by obtain⟨k,hk⟩:=List.getElem?_of_mem hx;exact(dF hv hk).1) g hj hy0)
  ·obtain rfl:i=j:=by omega
   exact Int.le_refl _
 have b:=h.bw i x 0 ((aB s1.done j).toNat+1) hi hx0 (by omega) (Int.le_trans hs f);omega
theorem A8(hv:aM ps)(h:dM 2 ps s1){s i:Nat}{x:PK}(hi:ps[i]?=some x)(hx0:x.fl=0)(h1:1<=s)(hs:s-1<=s1.cur)(hle:bE 0 ps i<=s1.row 0 (s-1)):bE 0 ps i<=dK ps s1.done s ps.length:=by
 have hz:=gP hv;have hil:=(List.getElem?_eq_some_iff.1 hi).1;rw [lR];have a:=sH (done:=s1.done) (s:=(s:Int)) hz (i+1) (fun j y hj hy hy0=>by
  have hm:bE 0 ps j<=bE 0 ps i:=by
   rcases Nat.lt_or_ge j i with g|g
   ·exact Int.le_of_lt (lQ (fun x hx=>by obtain⟨k,hk⟩:=List.getElem?_of_mem hx;exact(dF hv hk).1) g hi hx0)
   ·obtain rfl:j=i:=by omega
    exact Int.le_refl _
  have:=h.bw j y 0 (s-1) hy hy0 hs (Int.le_trans hm hle)
  omega)
 have b:=qC (done:=s1.done) (s:=(s:Int)) hz (i+1) (ps.length-(i+1));rw [show i+1+(ps.length-(i+1))=ps.length by omega] at b;omega
theorem pI(hv:aM ps)(h:dM 2 ps s1){s:Nat}(h1:1<=s)(hs:s-1<=s1.cur):∀k,k<=ps.length->pK 0 ps k<=s1.row 0 (s-1)->pK 0 ps k<=dK ps s1.done s ps.length
 | 0,_,_=>O5 (gP hv) _
 | k+1,hk,hle=>by
   obtain⟨x,hx⟩:∃x,ps[k]?=some x:=⟨_,List.getElem?_eq_getElem (by omega)⟩
   by_cases e:x.fl=0
   ·have:=A8 hv h hx e h1 hs (by rw [lR];exact hle)
    rwa [lR] at this
   ·have e2:pK 0 ps (k+1)=pK 0 ps k:=by
     rw [pK,hx];show pK 0 ps k+(if x.fl=0 then x.sz else 0)=_
     rw [if_neg e];omega
    rw [e2] at hle ⊢;exact pI hv h h1 hs k (by omega) hle
theorem A4(hv:aM ps)(h:dM 2 ps s1){s u:Nat}(h1:1<=s)(hs:s-1<=s1.cur)(hle:aV 0 ps u<=s1.row 0 (s-1)):aV 0 ps u<=dK ps s1.done s ps.length:=by
 obtain⟨k,hk,e⟩:=pV (Int.le_refl 0) (u:Int) ps hv.sorted;rw [e] at hle ⊢;exact pI hv h h1 hs k hk hle
theorem A9(hv:aM ps)(h:dM 2 ps s1)(hc0:0<=c)(hc:∀x∈ps,x.fl=0->x.sz<=c+1){s:Nat}(h1:1<=s)(hs:s-1<=s1.cur)(hrn:0<=s1.row 0 (s-1))(hra:s1.row 0 (s-1)<=aV 0 ps ((s-1:Nat):Int)):s1.row 0 (s-1)-c<=dK ps s1.done s ps.length:=by
 have key:∀k,k<=ps.length->s1.row 0 (s-1)-c<=dK ps s1.done s ps.length\/pK 0 ps k<=s1.row 0 (s-1):=fun k=>by
  induction k with
  | zero=>intro _;exact .inr hrn
  | succ k ih=>
    intro hk;rcases ih (by omega) with g|g
    ·exact .inl g
    ·have hd:=pI hv h h1 hs k (by omega) g;obtain⟨x,hx⟩:∃x,ps[k]?=some x:=⟨_,List.getElem?_eq_getElem (by omega)⟩
     have e:pK 0 ps (k+1)=pK 0 ps k+(if x.fl=0 then x.sz else 0):=by rw [pK,hx]
     rw [e];by_cases e0:x.fl=0
     ·rw [if_pos e0];have:=hc x (List.mem_of_getElem? hx) e0
      omega
     ·rw [if_neg e0];exact .inr (by omega)
 rcases key ps.length (Nat.le_refl _) with g|g
 ·exact g
 ·have hd:=pI hv h h1 hs ps.length (Nat.le_refl _) g;obtain⟨k,hk,e⟩:=pV (Int.le_refl 0) ((s-1:Nat):Int) ps hv.sorted;have:=tE (c:=0) (gP hv) k (ps.length-k)
  rw [show k+(ps.length-k)=ps.length by omega] at this;omega
end
section
variable{σ τ:Type}{cap1 cap2:Int}{ps q:List PK}{T1 T2:Nat}{Ch1:RS σ->Int->σ->Prop}{Ch2:RS τ->Int->τ->Prop}{sg1:σ}{sg2:τ}{s1:RS σ}{s2:RS τ}{f g hop both al:Cv}{c:Int}
theorem a43(hv1:aM ps)(hfl1:∀x∈ps,x.fl<2)(hc1:1<=cap1)(hg1:dY ps Ch1)(m1:aQ cap1 2 ps T1 Ch1 sg1 s1)(off1:s1.on=false)(t1:s1.t=T1)
 (hv2:aM q) (hfl2:∀x∈q,x.fl<2) (hc2:1<=cap2) (hg2:dY q Ch2) (m2:aQ cap2 2 q T2 Ch2 sg2 s2) (off2:s2.on=false) (t2:s2.t=T2) (hT2:T2<=2000)
 (hsel:aX 0 q=(bO ps s1.done ps.length).map AR.p) (pE:i8 f.at (0:Nat) ps (s1.row 0) T1) (pF:i8 g.at (0:Nat) q (s2.row 0) T2)
 (hfo:f.Ok) (hgo:g.Ok) (hc0:0<=c) (hcs:∀x∈ps,x.fl=0->x.sz<=c+1) (hho:hop.Ok) (hhv:∀t,hop.at t=dP f c t) (hbo:both.Ok) (hcv:bZ hop g both.at)
 (ha:eE al (0:Nat) ps) {V:Nat} (hD:DB al both V) {m n:Nat} {x:PK} {a:AR} {i:Nat} {y:PK} (hx:q[m]?=some x) (hx0:x.fl=0) (hn:n=(aX 0 (q.take m)).length) (han:(bO ps s1.done ps.length)[n]?=some a) (hai:a.ix=i) (hy:ps[i]?=some y) (hk:y.tm+V<T2) :
 0<=aB s2.done m/\aB s2.done m-y.tm<=V:=by
 have i1:=m1.inv (cls:=2) hv1 hfl1 hc1 hg1;have i2:=m2.inv (cls:=2) hv2 hfl2 hc2 hg2;have cur1:s1.cur=T1:=by rw [RS.cur_off off1];exact t1
 have cur2:s2.cur=T2:=by rw [RS.cur_off off2];exact t2
 have hz1:=gP hv1;have hz2:=gP hv2;have hgy:=hv1.good y (List.mem_of_getElem? hy);unfold PK.Good at hgy;obtain⟨A,hA⟩:=Int.eq_ofNat_of_zero_le hgy.2.2.1;obtain⟨hiN,htk⟩:=U7 han hai;obtain⟨i',y',_,hy',hy0,hdi,ea⟩:=m9 (List.mem_of_getElem? han);obtain rfl:i'=i:=by rw [ea] at hai;have h:(i':Int)=i:=hai;omega
 rw [hy] at hy';cases hy';obtain⟨_,hps⟩:=tO q m x hx hx0;rw [<- hn,hsel,<- List.map_take,htk,yD (i'+1) (fun j z hj hz hz0=>(oM hv1 i1 hz hy hz0 hy0 (by omega) hdi).1),<- lR] at hps
 suffices hgoal:bE 0 q m<=s2.row 0 (A+V+1) by
  have:=i2.bw m x 0 (A+V+1) hx hx0 (by omega) hgoal
  omega
 rw [hps];have hpa:bE 0 ps i'<=aV 0 ps ((A+1:Nat):Int):=qZ (Int.le_refl 0) hz1 (fun j z hj hz=>by have:=hv1.sorted j i' z y hj hz hy;omega);obtain⟨s,hs,h2⟩:=pF (A+V+1) (by omega);have h2:aV 0 q s+g.at (A+V+1-s)<=s2.row 0 (A+V+1):=h2;have hgn:=hgo.up0.nn (A+V+1-s);have eD:aV 0 q s=dK ps s1.done s ps.length:=by
  rw [<- uZ];unfold aV;rw [hsel];unfold bO aX;rw [List.filter_map]
  rfl
 have rle:s2.row 0 (A+V+1)<=aV 0 q ((A+V+1:Nat):Int):=m2.row_leK (cls:=2) hv2 hfl2 hc2 hg2 (c:=0) (by omega) _ (by omega);have rbd:=lG (fl:=0) (t:=((A+V+1:Nat):Int)) hv2;have hinf:aG=4611686018427387904:=rfl;have fin:∀u w:Nat,u+w=s->aV 0 ps u+hop.at w<=aV 0 q s->hop.at w≠aG->bE 0 ps i'<=s2.row 0 (A+V+1):=fun u w huw hle hwi=>by
  have hhn:=hho.up0.nn w;have hun:=l5 (Int.le_refl 0) (u:Int) hz1;rcases Nat.lt_or_ge A u with gu|gu
  ·have:=oG (c:=0) (t:=((A+1:Nat):Int)) (u:=(u:Int)) (Int.le_refl 0) (by omega) hz1
   omega
  ·have hbt:both.at (A+V+1-u)<=hop.at w+g.at (A+V+1-s):=by
    have hi1:¬hop.infAt w:=fun h=>hwi h.2
    have hi2:¬g.infAt (A+V+1-s):=fun h=>by have:=h.2;omega
    rcases (hcv (A+V+1-u)).cases with ⟨h1,_⟩|⟨_,h1⟩
    ·refine absurd ?_ (h1 w);refine⟨by omega,hi1,?_⟩
     rw [show A+V+1-u-w=A+V+1-s by omega];exact hi2
    ·have:=h1 w ⟨by omega,hi1,by rw [show A+V+1-u-w=A+V+1-s by omega];exact hi2⟩
     rwa [show A+V+1-u-w=A+V+1-s by omega] at this
   have hl:=hD (A+1-u);rw [show A+1-u+V=A+V+1-u by omega] at hl;have h3:=ha u (A+1) (by omega);rcases hl with h | ⟨_,h⟩
   ·have:=h.2;omega
   ·have h3:aV 0 ps ((A+1:Nat):Int)-aV 0 ps u<=al.at (A+1-u):=h3;omega
 rcases Nat.lt_or_ge ((aB s1.done i').toNat+1) s with gs|gs
 ·
  have hd0:0<=aB s1.done i':=(oM hv1 i1 hy hy hy0 hy0 (Nat.le_refl _) hdi).2.1;have h3:=sH (done:=s1.done) (s:=(s:Int)) hz1 (i'+1) (fun j z hj hz hz0=>by
   have:=oM hv1 i1 hz hy hz0 hy0 (by omega) hdi
   omega)
  have h4:=qC (done:=s1.done) (s:=(s:Int)) hz1 (i'+1) (ps.length-(i'+1));rw [show i'+1+(ps.length-(i'+1))=ps.length by omega] at h4;rw [lR];omega
 ·rcases Nat.eq_zero_or_pos s with e|hp
  ·subst e;have h0:aV 0 q ((0:Nat):Int)<=0:=oH (Int.le_refl 0) hv2;have h0n:=l5 (Int.le_refl 0) ((0:Nat):Int) hz2;have h1:aV 0 ps ((0:Nat):Int)<=0:=oH (Int.le_refl 0) hv1;have hh0:hop.at 0=0:=by rw [hhv,nB]
   exact fin 0 0 rfl (by omega) (by omega)
  ·have hdT:aB s1.done i'<s1.cur:=by
    rcases i1.dn i' y hy with ⟨e,_⟩|⟨_,b,_⟩
    ·exact absurd e hdi
    ·exact b
   have hd0:0<=aB s1.done i':=(oM hv1 i1 hy hy hy0 hy0 (Nat.le_refl _) hdi).2.1;obtain⟨u,hu,h3⟩:=pE (s-1) (by omega);have h3:aV 0 ps u+f.at (s-1-u)<=s1.row 0 (s-1):=h3;have r1:s1.row 0 (s-1)<=aV 0 ps ((s-1:Nat):Int):=m1.row_leK (cls:=2) hv1 hfl1 hc1 hg1 (c:=0) (by omega) _ (by omega);have r1b:=lG (fl:=0) (t:=((s-1:Nat):Int)) hv1;have hfn:=hfo.up0.nn (s-1-u);have hun:=l5 (Int.le_refl 0) (u:Int) hz1;have hfi:¬f.infAt (s-1-u):=fun h=>by have:=h.2;omega
   have hw:hop.at (s-u)=max 0 (f.at (s-1-u)-c):=by
    rw [hhv,show s-u=(s-1-u)+1 by omega,jQ,kT hfi]
   have d1:=A4 hv1 i1 (u:=u) hp (by omega) (by omega);have d2:=A9 hv1 i1 hc0 hcs hp (by omega) (by omega) r1;refine fin u (s-u) (by omega) ?_ ?_
   ·rw [hw,eD];omega
   ·rw [hw];omega
end
end Go.Proofs.YtaejfleahamapaaGreat
