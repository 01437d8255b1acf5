/- . -/
import Derived.Test.YtaejfleahamapaaGreatTd22
import Derived.Test.YtaejfleahamapaaGreatTd19
import Derived.Test.YtaejfleahamapaaGreatTd16
namespace Go.Proofs.YtaejfleahamapaaGreat
set_option linter.unusedVariables false
set_option linter.unusedSimpArgs false
set_option maxHeartbeats 4000000
set_option maxRecDepth 100000
open Go.RowKit
structure DP(w:World)(P:Nat)(A:Option Addr)(n c:Nat)(a:Cv)(B:Option Addr)(m d:Nat)(b:Cv)(T:Int)(l:Bool):Prop where
 blk:aC w P 102 #[.slice A n c,.int .i64 a.per,.int .i64 a.inc,.slice B m d,.int .i64 b.per,.int .i64 b.inc,.int .i64 T,.bool l]
 ia:aE w w.heap.size A n a.vals
 ib:aE w w.heap.size B m b.vals
section
variable{w w':World}{P n c m d:Nat}{A B:Option Addr}{a b:Cv}{T:Int}{l:Bool}
theorem DP.below(h:DP w P A n c a B m d b T l)(hb:Below w.heap.size w w'):DP w' P A n c a B m d b T l:=⟨h.blk.below hb h.blk.lt,h.ia.ext hb,h.ib.ext hb⟩
theorem DP.drew(h:DP w P A n c a B m d b T l):DP w.drew P A n c a B m d b T l:=⟨h.blk,h.ia,h.ib⟩
theorem DP.cells(h:DP w P A n c a B m d b T l):w.cell? ⟨P,0,none⟩=some (.slice A n c)/\w.cell? ⟨P,1,none⟩=some (.int .i64 a.per)/\w.cell? ⟨P,2,none⟩=some (.int .i64 a.inc)/\
 w.cell? ⟨P,3,none⟩=some (.slice B m d)/\w.cell? ⟨P,4,none⟩=some (.int .i64 b.per)/\w.cell? ⟨P,5,none⟩=some (.int .i64 b.inc)/\P<w.heap.size:=by
 have q0:=h.blk.cell 0;have q1:=h.blk.cell 1;have q2:=h.blk.cell 2;have q3:=h.blk.cell 3;have q4:=h.blk.cell 4;have q5:=h.blk.cell 5;simp at q0 q1 q2 q3 q4 q5;exact⟨q0,q1,q2,q3,q4,q5,h.blk.lt⟩
theorem DP.cells2(h:DP w P A n c a B m d b T l):w.cell? ⟨P,6,none⟩=some (.int .i64 T)/\w.cell? ⟨P,7,none⟩=some (.bool l):=by
 have q0:=h.blk.cell 6;have q1:=h.blk.cell 7;simp at q0 q1;exact⟨q0,q1⟩
end
def nU(a b:Cv)(t:Nat)(d:Int)(ok:Bool):Prop:=∃r:Int,mM (fO b (a.at t)) r ok/\d=r-t
theorem G2{a:Cv}(ha:a.Ok){t:Nat}(ht:t<=1000):0<=a.at t/\(a.at t=aG\/a.at t<=1125899906842624):=by
 refine⟨ha.up0.nn t,?_⟩
 rcases ha.fin_or with h|h
 ·right
  have h1:=h.at_bd t;have h2:(t:Int)*1073741824<=1000*1073741824:=Int.mul_le_mul_of_nonneg_right (by omega) (by omega);omega
 ·by_cases hi:a.at t=aG
  ·exact .inl hi
  ·right
   have hlt:t<a.vals.length:=by
    rcases Nat.lt_or_ge t a.vals.length with h'|h'
    ·exact h'
    ·exact absurd (ha.at_inf h (by omega)) hi
   rw [Cv.at_lt hlt] at hi ⊢;have:=((iU _).1 (ha.v t hlt)).resolve_left hi
   omega
theorem P8(P:Nat)(A:Option Addr)(n c:Nat)(a:Cv)(B:Option Addr)(m d:Nat)(b:Cv)(T:Int)(l:Bool)(t:Nat)(w:World)(hE:DP w P A n c a B m d b T l)(ha:a.Ok)(hb:b.Ok)(ht:t<=1000) :
 Calls Tryz.prog 50 #[.int .i64 t,.pointer (some ⟨P,0,none⟩)] w (uP (nU a b t) w):=by
 have E:=aA hE;have hl1:a.vals.length=n:=hE.ia.1;have ha2:=ha.n2;have hap:=ha.p1;have hai:=ha.i1;have hai2:=ha.i2;have hapn:=ha.pn;rw [hl1] at ha2 hapn;have HA:=aA ha;have HB:=aA hb;have HS:=aA (G2 ha ht);obtain⟨x,hx⟩:∃x,x=a.at t:=⟨_,rfl⟩
 have HX:=aA hx;have BW:=aA (Below.refl w.heap.size w);clear hE hl1 ha hb hx;go_enter Tryz.func50,Tryz.ntmps50
 obtain⟨q0,q1,q2,q3,q4,q5,hlq⟩:=E.out.cells;go_wp2_with fail
 go_region_held3 (fun w'=>w'.cell? ⟨P,0,none⟩=some (.slice A n c)/\w'.cell? ⟨P,1,none⟩=some (.int .i64 a.per)/\w'.cell? ⟨P,2,none⟩=some (.int .i64 a.inc)/\w'.cell? ⟨P,3,none⟩=some (.slice B m d)/\w'.cell? ⟨P,4,none⟩=some (.int .i64 b.per)/\w'.cell? ⟨P,5,none⟩=some (.int .i64 b.inc)) (first|go_keep)
  (first
   | (go_at_call 43
      refine(gA A n c a.per a.inc t a.vals _ (by exact E.out.drew.ia) (by omega) hap hapn hai (by omega) HA.out.nn (by omega) (by omega)).mono ?_;rw [Int.toNat_natCast,show Cv.at ⟨a.vals,a.per,a.inc⟩ t=x from HX.out.symm];rintro e w1 ⟨rfl,hbq⟩;have E:=aA (E.out.drew.below hbq);have BW:=aA (aD (Below.drew BW.out) hbq);clear hbq;clear q0 q1 q2 q3 q4 q5 hlq;obtain⟨q0,q1,q2,q3,q4,q5,hlq⟩:=E.out.cells;dsimp only)
   | (go_at_call 51
      refine(a14 B m d b.per b.inc x b.vals _ (by exact E.out.ib) HB.out (by rw [HX.out];exact HS.out.1) (by rw [HX.out];exact HS.out.2)).mono ?_;rintro e w2 ⟨r,ok,hR,hr0,hr1,rfl,hbq⟩;have HR:=aA hR;have E:=aA (E.out.below hbq);have BW:=aA (aD BW.out hbq);clear hbq hR;clear q0 q1 q2 q3 q4 q5 hlq;obtain⟨q0,q1,q2,q3,q4,q5,hlq⟩:=E.out.cells;dsimp only))
 all_goals
  have bw:=BW.out;have F:=aA (show nU a b t (r-t) ok from⟨r,by rw [<- HX.out];exact HR.out,rfl⟩);go_wp2_with fail
  go_ret2
  exact⟨_,_,F.out,rfl,bw⟩
def jW(S:Bool->Nat->Nat->Prop)(f g:Cv)(i:Bool)(v A er:Int):Prop:=
 (lX f g er/\i=false/\v=0/\A=0)\/(f.Ok/\g.Ok/\(∃a b,NF f.at a/\NF g.at b/\a9 a.per.toNat b.per.toNat<=120)/\er=0/\∃v' A':Nat,v=v'/\A=A'/\S i v' A')
theorem lX.not{f g:Cv}{e:Int}(h:lX f g e)(hf:f.Ok)(hg:g.Ok):¬∃a b,NF f.at a/\NF g.at b/\a9 a.per.toNat b.per.toNat<=120:=by
 rintro⟨a,b,ha,hb,hc⟩;rcases h with ⟨h0,_⟩|⟨_,_,_,a',b',ha',hb',hc'⟩
 ·exact h0 ⟨hf,hg⟩
 ·rw [ha.unique ha',hb.unique hb'] at hc;omega
def C8(S:Bool->Nat->Nat->Prop)(f g:Cv)(w:World)(e:Ending)(w':World):Prop:=
 ∃i v A er,jW S f g i v A er/\e = .returned (.tuple #[.agg #[.bool i,.int .i64 v,.int .i64 A],.int .i64 er])/\Below w.heap.size w w'
def pJ(a b:Cv)(k:Nat)(v A:Int):Prop:=∃v' A':Nat,v=v'/\A=A'/\i3 a b k v' A'
theorem P6{a b:Cv}(ha:a.Ok)(hb:b.Ok){k:Nat}(hk:k<=1000){v A d:Int}(h:pJ a b k v A)(hR:nU a b k d true):(v<d->pJ a b (k+1) d k)/\(¬v<d->pJ a b (k+1) v A):=by
 obtain⟨v',A',rfl,rfl,h⟩:=h;obtain⟨r,hx,rfl⟩:=hR;rcases hx with ⟨_,n,rfl,h1,h2⟩|⟨hx,_⟩
 ·have h3:=(sQ (g:=b) ha (t:=k) (by omega) n).1 h1;have h4:∀m,m<n->¬dX a b k m:=fun m hm h5=>h2 m hm ((sQ ha (by omega) m).2 h5)
  refine⟨fun hv=>⟨n-k,k,by omega,rfl,?_⟩,fun hv=>⟨v',A',rfl,rfl,?_⟩⟩
  ·exact h.more hb h3 h4 (by omega)
  ·exact h.less hb h3 (by omega)
 ·cases hx
theorem P4{a b:Cv}(ha:a.Ok){k:Nat}(hk:k<=1000){d:Int}(hR:nU a b k d false):dB a b true 0 0:=by
 obtain⟨r,hx,_⟩:=hR;rcases hx with ⟨hx,_⟩|⟨_,_,hx⟩
 ·cases hx
 ·exact tA (t:=k) (fun n h=>hx n ((sQ ha (by omega) n).2 h))
theorem qD(A B:Option Addr)(n m c d:Nat)(p i q j:Int)(xs ys:List Int)(w:World)(hA:aE w w.heap.size A n xs)(hB:aE w w.heap.size B m ys)(hn:(n:Int)<=1000000)(hm:(m:Int)<=1000000) :
 Calls Tryz.prog 11 #[.agg #[.slice A n c,.int .i64 p,.int .i64 i],.agg #[.slice B m d,.int .i64 q,.int .i64 j]] w (C8 (dB ⟨xs,p,i⟩ ⟨ys,q,j⟩) ⟨xs,p,i⟩ ⟨ys,q,j⟩ w):=by
 have P:=aA ((PS.new (c:=c) (p:=p) (i:=i) (d:=d) (q:=q) (j:=j) hA hB).alloc (.cells #[.bool false,.int .i64 0,.int .i64 0] 35));have rb:=aC.new ((w.alloc (.cells #[.slice A n c,.int .i64 p,.int .i64 i] 26)).alloc (.cells #[.slice B m d,.int .i64 q,.int .i64 j] 26)) 35 #[.bool false,.int .i64 0,.int .i64 0];rw [World.size_alloc,World.size_alloc] at rb;have RB:=aA rb;clear hA hB rb;go_enter Tryz.func11,Tryz.ntmps11
 go_wp2_with fail
 refine(O9 A B n m c d p i q j xs ys _ P.out.ia P.out.ib hn hm).mono ?_;rintro e w1 hret;have hs0:=RB.out.lt;rcases hret with ⟨er,hbad,rfl,hb⟩|⟨hf,hg,a,b,A1,n1,c1,A2,n2,c2,l,hna,hnb,hao,hbo,hc,hl,rfl,hI1,hI2,hA1,hA2,hb⟩
 ·have P:=aA (P.out.below hb);have RB:=aA (RB.out.below hb RB.out.lt);clear hb;obtain⟨r0,r1,r2⟩:_/\_/\_:=⟨RB.out.cell 0,RB.out.cell 1,RB.out.cell 2⟩
  simp at r0 r1 r2;have y0:=RB.out.frozen 0;have y1:=RB.out.frozen 1;have y2:=RB.out.frozen 2;have hlr:=RB.out.lt;have F:=aA (show jW (dB ⟨xs,p,i⟩ ⟨ys,q,j⟩) ⟨xs,p,i⟩ ⟨ys,q,j⟩ false 0 0 er from .inl ⟨hbad,rfl,rfl,rfl⟩);have hne:(er != 0)=true:=by rcases hbad with ⟨_,rfl⟩|⟨_,_,rfl,_⟩ <;> rfl
  clear hbad;unfold jU;go_wp2_with fail
  have rb:=(RB.out.store3 (.bool false) (.int .i64 0) (.int .i64 0)).alloc (.cells #[.slice none 0 0,.int .i64 0,.int .i64 0,.slice none 0 0,.int .i64 0,.int .i64 0,.int .i64 0,.bool false] 102);have bw:=P.out.bw;exact bodyPost_ret (v:=.tuple #[.agg #[.bool false,.int .i64 0,.int .i64 0],.int .i64 er]) (by simp [results,Tryz.results11,go_sem,rb.cell]) rfl ⟨_,_,_,_,F.out,rfl,aD (mV bw (by omega)) (aF _ _)⟩
 ·unfold lJ;have ob:=iG hao hbo;have hT:aL a b+aI a b<=1000:=by
   have h1:=hao.n2;have h2:=hbo.n2;unfold aL;have h3:aI a b<=120:=hc;omega
  obtain⟨T,hTe⟩:∃T,T=aL a b+aI a b:=⟨_,rfl⟩
  rw [<- hTe] at hT;rw [<- hTe];have EX:=aA (show ∃a b,NF (Cv.at ⟨xs,p,i⟩) a/\NF (Cv.at ⟨ys,q,j⟩) b/\a9 a.per.toNat b.per.toNat<=120 from⟨a,b,hna,hnb,hc⟩);have E:=aA (show DP (w1.alloc (.cells #[.slice A1 n1 c1,.int .i64 a.per,.int .i64 a.inc,.slice A2 n2 c2,.int .i64 b.per,.int .i64 b.inc,.int .i64 T,.bool l] 102)) w1.heap.size A1 n1 c1 a A2 n2 c2 b T l from⟨aC.new _ _ _,hI1.alloc' _,hI2.alloc' _⟩);have RB:=aA ((RB.out.below hb RB.out.lt).alloc (.cells #[.slice A1 n1 c1,.int .i64 a.per,.int .i64 a.inc,.slice A2 n2 c2,.int .i64 b.per,.int .i64 b.inc,.int .i64 T,.bool l] 102));have BW:=aA (aD (aD P.out.bw hb) (aF _ (.cells #[.slice A1 n1 c1,.int .i64 a.per,.int .i64 a.inc,.slice A2 n2 c2,.int .i64 b.per,.int .i64 b.inc,.int .i64 T,.bool l] 102)));have HF:=aA hf;have HG:=aA hg;have HNA:=aA hna;have HNB:=aA hnb;have HAO:=aA hao;have HBO:=aA hbo;have HL:=aA hl;have HTE:=aA hTe;clear P hb hf hg hna hnb hao hbo hl hTe hI1 hI2 hA1 hA2 hc ob;cases l
  case true=>
   have F:=aA (show jW (dB ⟨xs,p,i⟩ ⟨ys,q,j⟩) ⟨xs,p,i⟩ ⟨ys,q,j⟩ true 0 0 0 from .inr ⟨HF.out,HG.out,EX.out,rfl,0,0,rfl,rfl,(xF HAO.out (HL.out.1 rfl)).nf HF.out HG.out HNA.out HNB.out⟩);obtain⟨r0,r1,r2⟩:_/\_/\_:=⟨RB.out.cell 0,RB.out.cell 1,RB.out.cell 2⟩
   simp at r0 r1 r2;have y0:=RB.out.frozen 0;have y1:=RB.out.frozen 1;have y2:=RB.out.frozen 2;have hlr:=RB.out.lt;go_wp2_with fail
   have rb:=RB.out.store3 (.bool true) (.int .i64 0) (.int .i64 0);exact bodyPost_ret (v:=.tuple #[.agg #[.bool true,.int .i64 0,.int .i64 0],.int .i64 0]) (by simp [results,Tryz.results11,go_sem,rb.cell]) rfl ⟨_,_,_,_,F.out,rfl,mV BW.out (by omega)⟩
  case false=>
   have HNL:=aA (show ¬l3 a b from fun h=>by have:=HL.out.2 h;cases this);obtain⟨q6,q7⟩:=E.out.cells2;have hle:=E.out.blk.lt;go_wp2_with fail
   refine(V1 50 #[.pointer (some ⟨w1.heap.size,0,none⟩)] T (nU a b) (pJ a b) (dB a b true 0 0) _ hT ⟨0,0,rfl,rfl,i3.zero a b⟩
    (fun k v A d hk hI hR=>P6 HAO.out HBO.out (by omega) hI hR) (fun k d hk hR=>P4 HAO.out (by omega) hR)
    (fun t w2 ht hb=>P8 w1.heap.size A1 n1 c1 a A2 n2 c2 b T false t w2 (E.out.below hb) HAO.out HBO.out (by omega)) (fun x w=>by kernel_rfl)).mono ?_
   rintro e w2 hret;rcases hret with ⟨hQ,rfl,hb⟩|⟨v,A',hI,rfl,hb⟩
   ·have F:=aA (show jW (dB ⟨xs,p,i⟩ ⟨ys,q,j⟩) ⟨xs,p,i⟩ ⟨ys,q,j⟩ true 0 0 0 from .inr ⟨HF.out,HG.out,EX.out,rfl,0,0,rfl,rfl,hQ.nf HF.out HG.out HNA.out HNB.out⟩);have RB:=aA (RB.out.below hb RB.out.lt);have BW:=aA (aD BW.out hb);clear hb hQ;obtain⟨r0,r1,r2⟩:_/\_/\_:=⟨RB.out.cell 0,RB.out.cell 1,RB.out.cell 2⟩
    simp at r0 r1 r2;have y0:=RB.out.frozen 0;have y1:=RB.out.frozen 1;have y2:=RB.out.frozen 2;have hlr:=RB.out.lt;go_wp2_with fail
    have rb:=RB.out.store3 (.bool true) (.int .i64 0) (.int .i64 0);exact bodyPost_ret (v:=.tuple #[.agg #[.bool true,.int .i64 0,.int .i64 0],.int .i64 0]) (by simp [results,Tryz.results11,go_sem,rb.cell]) rfl ⟨_,_,_,_,F.out,rfl,mV BW.out (by omega)⟩
   ·have F:=aA (show jW (dB ⟨xs,p,i⟩ ⟨ys,q,j⟩) ⟨xs,p,i⟩ ⟨ys,q,j⟩ false v A' 0 from .inr ⟨HF.out,HG.out,EX.out,rfl,by
     obtain⟨v',A'',rfl,rfl,h⟩:=hI;exact⟨v',A'',rfl,rfl,(h.done HAO.out HBO.out HNL.out (by rw [HTE.out];exact Nat.le_refl _)).nf HF.out HG.out HNA.out HNB.out⟩⟩)
    have RB:=aA (RB.out.below hb RB.out.lt);have BW:=aA (aD BW.out hb);clear hb hI;obtain⟨r0,r1,r2⟩:_/\_/\_:=⟨RB.out.cell 0,RB.out.cell 1,RB.out.cell 2⟩
    simp at r0 r1 r2;have y0:=RB.out.frozen 0;have y1:=RB.out.frozen 1;have y2:=RB.out.frozen 2;have hlr:=RB.out.lt;go_wp2_with fail
    have rb:=RB.out.store3 (.bool false) (.int .i64 v) (.int .i64 A');exact bodyPost_ret (v:=.tuple #[.agg #[.bool false,.int .i64 v,.int .i64 A'],.int .i64 0]) (by simp [results,Tryz.results11,go_sem,rb.cell]) rfl ⟨_,_,_,_,F.out,rfl,mV BW.out (by omega)⟩
theorem xY(A:Option Addr)(n c:Nat)(p i t:Int)(w:World)(hp:1<=p)(hi:0<=i)(hi2:i<=1073741824)(ht:0<=t)(ht2:t<=1000000) :
 Calls Tryz.prog 142 #[.agg #[.slice A n c,.int .i64 p,.int .i64 i],.int .i64 t] w fun e w'=>e = .returned (.int .i64 ((t.toNat / p.toNat:Nat)*i))/\Below w.heap.size w w':=by
 obtain⟨p,rfl⟩:=Int.eq_ofNat_of_zero_le (show 0<=p by omega);obtain⟨t,rfl⟩:=Int.eq_ofNat_of_zero_le ht;simp only [Int.toNat_natCast];obtain⟨u,hu⟩:∃u,u=t / p:=⟨_,rfl⟩
 have hut:u<=t:=by rw [hu];exact Nat.div_le_self _ _
 have e1:((t:Int).tdiv (p:Int))=(u:Int):=by rw [hu];rfl
 have e1':((t:Int) / (p:Int))=(u:Int):=by rw [hu];rfl
 have hui:(u:Int)*i<=1000000*1073741824:=Int.mul_le_mul (by omega) hi2 hi (by omega);have hui0:0<=(u:Int)*i:=Int.mul_nonneg (by omega) hi;have e2:IntKind.i64.wrap ((u:Int)*i)=(u:Int)*i:=IntWalk.i64_in _ (by omega);have hpn:(p:Int)≠0:=by omega
 have hpn2:p≠0:=by omega
 have q1:=(aC.new w 26 #[.slice A n c,.int .i64 p,.int .i64 i]).cell 1;have q2:=(aC.new w 26 #[.slice A n c,.int .i64 p,.int .i64 i]).cell 2;simp at q1 q2;rw [<- hu];have HU:=aA hu;clear hu;go_enter Tryz.func142,Tryz.ntmps142
 go_wp2_with fail
 go_quiet (fail)
 go_wp2_with fail
 go_ret
 exact⟨rfl,cC (aF w _)⟩
def D6(f g:Cv)(w:World)(e:Ending)(w':World):Prop:=
 (∃er,k9 f g er/\e = .returned (.tuple #[zc,zc,.int .i64 0,.int .i64 er])/\Below w.heap.size w w')\/
 (f.Ok/\g.Ok/\∃(a b:Cv) (A:Option Addr) (n c:Nat) (B:Option Addr) (m d:Nat),NF f.at a/\NF g.at b/\a.Ok/\b.Ok/\aI a b<=120/\
  e = .returned (.tuple #[.agg #[.slice A n c,.int .i64 a.per,.int .i64 a.inc],.agg #[.slice B m d,.int .i64 b.per,.int .i64 b.inc],.int .i64 (aI a b:Nat),.int .i64 0])/\
  aE w' w'.heap.size A n a.vals/\aE w' w'.heap.size B m b.vals/\(∀b off s,A=some ⟨b,off,s⟩->w.heap.size<=b)/\(∀b off s,B=some ⟨b,off,s⟩->w.heap.size<=b)/\Below w.heap.size w w')
theorem a1d(A B:Option Addr)(n m c d:Nat)(p i q j:Int)(xs ys:List Int)(w:World)(hA:aE w w.heap.size A n xs)(hB:aE w w.heap.size B m ys)(hn:(n:Int)<=1000000)(hm:(m:Int)<=1000000) :
 Calls Tryz.prog 140 #[.agg #[.slice A n c,.int .i64 p,.int .i64 i],.agg #[.slice B m d,.int .i64 q,.int .i64 j]] w (D6 ⟨xs,p,i⟩ ⟨ys,q,j⟩ w):=by
 have P:=aA (((PT.new (c:=c) (p:=p) (i:=i) (d:=d) (q:=q) (j:=j) hA hB).alloc (.cells #[.slice none 0 0,.int .i64 0,.int .i64 0] 26)).alloc (.cells #[.slice none 0 0,.int .i64 0,.int .i64 0] 26));have ra:=(aC.new ((w.alloc (.cells #[.slice A n c,.int .i64 p,.int .i64 i] 26)).alloc (.cells #[.slice B m d,.int .i64 q,.int .i64 j] 26)) 26 #[.slice none 0 0,.int .i64 0,.int .i64 0]).alloc (.cells #[.slice none 0 0,.int .i64 0,.int .i64 0] 26);have rb:=aC.new (((w.alloc (.cells #[.slice A n c,.int .i64 p,.int .i64 i] 26)).alloc (.cells #[.slice B m d,.int .i64 q,.int .i64 j] 26)).alloc (.cells #[.slice none 0 0,.int .i64 0,.int .i64 0] 26)) 26 #[.slice none 0 0,.int .i64 0,.int .i64 0];rw [World.size_alloc,World.size_alloc] at ra;rw [World.size_alloc,World.size_alloc,World.size_alloc] at rb;have RA:=aA ra;have RB:=aA rb;clear hA hB ra rb;go_enter Tryz.func140,Tryz.ntmps140
 go_wp2_with fail
 refine(jR A n c p i xs _ P.out.ia hn).mono ?_;rintro e w1 ⟨a,er,hN,A1,n1,c1,rfl,hI1,hA1,hb1⟩;simp only [World.size_alloc] at hA1;have HN:=aA (i4.of hN);have P:=aA (P.out.below hb1);have RA:=aA (RA.out.below hb1 RA.out.lt);have RB:=aA (RB.out.below hb1 RB.out.lt);have HI1:=aA hI1;have HA1:=aA hA1;clear hN hI1 hb1 hA1;obtain⟨⟨r0,r1,r2⟩,⟨y0,y1,y2⟩,hlr⟩:=RA.out.c3;obtain⟨⟨s0,s1,s2⟩,⟨z0,z1,z2⟩,hls⟩:=RB.out.c3;obtain⟨f0,f1,f2,g0,g1,g2,hlf,hlg⟩:=P.out.cells;go_upto_region 2 with fail
 clear r0 r1 r2 y0 y1 y2 hlr s0 s1 s2 z0 z1 z2 hls;clear f0 f1 f2 g0 g1 g2 hlf hlg;have FA:=aA (Bz.put (c:=c1) RA.out HI1.out HA1.out (by omega));have st:=aR.three (w.heap.size+1+1) w1 (.slice A1 n1 c1) (.int .i64 a.per) (.int .i64 a.inc);have P:=aA (P.out.sto st (by omega));have RB:=aA (RB.out.sto st (by omega));clear st HI1 HA1 RA;generalize hwe:((w1.setCell ⟨w.heap.size+1+1,0,none⟩ (.slice A1 n1 c1)).setCell ⟨w.heap.size+1+1,1,none⟩ (.int .i64 a.per)).setCell ⟨w.heap.size+1+1,2,none⟩ (.int .i64 a.inc)=we at *;clear hwe;rcases HN.out with ⟨hfo,hnf,hao,rfl⟩|⟨hno,rfl,rfl⟩
 ·have hap:=hao.p1;have hap2:=hao.p2;have hai:=hao.i1;have hai2:=hao.i2;have HNF:=aA hnf;have HFO:=aA hfo;have HAO:=aA hao;clear hnf hfo hao HN;obtain⟨f0,f1,f2,g0,g1,g2,hlf,hlg⟩:=P.out.cells;go_wp2_with fail
  refine(jR B m d q j ys _ P.out.ib hm).mono ?_;rintro e w2 ⟨b,er,hN,A2,n2,c2,rfl,hI2,hA2,hb2⟩;have hA2':∀b off s,A2=some ⟨b,off,s⟩->w.heap.size+1+1+1+1<=b:=fun b off s e=>by have:=hA2 b off s e;have:=RB.out.lt;omega
  have HN:=aA (i4.of hN);have RB:=aA (RB.out.below hb2 RB.out.lt);have FA:=aA (FA.out.below hb2);have BW:=aA (aD P.out.bw hb2);have HI2:=aA hI2;have HA2:=aA hA2';clear hN hI2 hb2 hA2 hA2' P f0 f1 f2 g0 g1 g2 hlf hlg;obtain⟨⟨s0,s1,s2⟩,⟨z0,z1,z2⟩,hls⟩:=RB.out.c3;go_upto_region 5 with fail
  clear s0 s1 s2 z0 z1 z2 hls;have FB:=aA (Bz.put (c:=c2) RB.out HI2.out HA2.out (by omega));have FA:=aA (FA.out.sto (aR.three (w.heap.size+1+1+1) w2 (.slice A2 n2 c2) (.int .i64 b.per) (.int .i64 b.inc)) (by omega) (by omega));have BW:=aA (cO (g:=w.heap.size+1+1+1) BW.out (by omega) (.slice A2 n2 c2) (.int .i64 b.per) (.int .i64 b.inc));clear HI2 HA2 RB;generalize hwe:((w2.setCell ⟨w.heap.size+1+1+1,0,none⟩ (.slice A2 n2 c2)).setCell ⟨w.heap.size+1+1+1,1,none⟩ (.int .i64 b.per)).setCell ⟨w.heap.size+1+1+1,2,none⟩ (.int .i64 b.inc)=wf at *;clear hwe;rcases HN.out with ⟨hgo,hnf,hbo,rfl⟩|⟨hno,rfl,rfl⟩
  ·have hbp:=hbo.p1;have hbp2:=hbo.p2;have hbi:=hbo.i1;have hbi2:=hbo.i2;have HNG:=aA hnf;have HGO:=aA hgo;have HBO:=aA hbo;clear hnf hgo hbo HN;obtain⟨a0,a1,a2,hla⟩:=FA.out.cells;obtain⟨b0,b1,b2,hlb⟩:=FB.out.cells;go_wp2_with fail
   refine(lI a.per b.per _ (by omega) (by omega) (by omega) (by omega)).mono ?_;obtain⟨C,hC⟩:∃C,C=a9 a.per.toNat b.per.toNat:=⟨_,rfl⟩
   rw [<- hC];rintro e w3 ⟨rfl,hbq⟩;have HC:=aA hC;have FA:=aA (FA.out.below hbq);have FB:=aA (FB.out.below hbq);have BW:=aA (aD BW.out hbq);clear hbq hC a0 a1 a2 hla b0 b1 b2 hlb;by_cases hcc:120<C
   ·have F:=aA (show k9 ⟨xs,p,i⟩ ⟨ys,q,j⟩ 3 from .inr ⟨HFO.out,HGO.out,rfl,a,b,HNF.out,HNG.out,by rw [<- HC.out];exact hcc⟩);have hci:(120:Int)<(C:Int):=by omega
    have RA:=aA FA.out.blk;have RB:=aA FB.out.blk;clear hcc FA FB;obtain⟨⟨r0,r1,r2⟩,⟨y0,y1,y2⟩,hlr⟩:=RA.out.c3;obtain⟨⟨s0,s1,s2⟩,⟨z0,z1,z2⟩,hls⟩:=RB.out.c3;go_wp2_with fail
    have ra:=(RA.out.store3 (.slice none 0 0) (.int .i64 0) (.int .i64 0)).sto (aR.three (w.heap.size+1+1+1) _ (.slice none 0 0) (.int .i64 0) (.int .i64 0)) (by omega);have rb:=(RB.out.sto (aR.three (w.heap.size+1+1) _ (.slice none 0 0) (.int .i64 0) (.int .i64 0)) (by omega)).store3 (.slice none 0 0) (.int .i64 0) (.int .i64 0);exact bodyPost_ret (v:=.tuple #[zc,zc,.int .i64 0,.int .i64 3]) (by simp [results,Tryz.results140,go_sem,ra.cell,rb.cell,zc]) rfl (.inl ⟨_,F.out,rfl,cO (cO BW.out (by omega) _ _ _) (by omega) _ _ _⟩)
   ·have hci:¬(120:Int)<(C:Int):=by omega
    have RA:=aA FA.out.blk;have RB:=aA FB.out.blk;have sa:=(RA.out.store3 (.slice A1 n1 c1) (.int .i64 a.per) (.int .i64 a.inc)).c3.1;have stA:=aR.three (w.heap.size+1+1) w3 (.slice A1 n1 c1) (.int .i64 a.per) (.int .i64 a.inc);have rb:=RB.out.sto stA (by omega);have sb:=(rb.store3 (.slice A2 n2 c2) (.int .i64 b.per) (.int .i64 b.inc)).c3.1;have hne1:w.heap.size+1+1≠w.heap.size+1+1+1:=by omega
    have hne2:w.heap.size+1+1+1≠w.heap.size+1+1:=by omega
    have fa:=(FA.out.own (by omega)).sto (aR.three (w.heap.size+1+1+1) _ (.slice A2 n2 c2) (.int .i64 b.per) (.int .i64 b.inc)) (by omega) (by omega);have fb:=(FB.out.sto stA (by omega) (by omega)).own (by omega);have bw:=cO (cO (g:=w.heap.size+1+1) BW.out (by omega) (.slice A1 n1 c1) (.int .i64 a.per) (.int .i64 a.inc)) (g:=w.heap.size+1+1+1) (by omega) (.slice A2 n2 c2) (.int .i64 b.per) (.int .i64 b.inc);have SA:=aA sa;have SB:=aA sb;have FA:=aA fa;have FB:=aA fb;have BW:=aA bw;have F:=aA (show aI a b<=120/\C=aI a b from⟨by show a9 _ _<=120;rw [<- HC.out];omega,HC.out⟩);clear hcc sa sb fa fb bw stA rb;obtain⟨⟨r0,r1,r2⟩,⟨y0,y1,y2⟩,hlr⟩:=RA.out.c3;obtain⟨⟨s0,s1,s2⟩,⟨z0,z1,z2⟩,hls⟩:=RB.out.c3;go_upto_region 10 with fail
    go_region
    all_goals
     go_wp2_with fail
     exact bodyPost_ret (v:=.tuple #[.agg #[.slice A1 n1 c1,.int .i64 a.per,.int .i64 a.inc],.agg #[.slice A2 n2 c2,.int .i64 b.per,.int .i64 b.inc],.int .i64 (C:Nat),.int .i64 0]) (by simp [results,Tryz.results140,go_sem,FA.out.blk.drew.cell,FB.out.blk.drew.cell]) rfl
      (.inr ⟨HFO.out,HGO.out,a,b,A1,n1,c1,A2,n2,c2,HNF.out,HNG.out,HAO.out,HBO.out,F.out.1,by rw [F.out.2],FA.out.drew.ints,FB.out.drew.ints,fun b' off s e=>by have:=FA.out.lo b' off s e;omega,fun b' off s e=>by have:=FB.out.lo b' off s e;omega,Below.drew BW.out⟩)
  ·have F:=aA (show k9 ⟨xs,p,i⟩ ⟨ys,q,j⟩ 1 from .inl ⟨fun h=>hno h.2,rfl⟩);have RA:=aA FA.out.blk;have RB:=aA FB.out.blk;clear hno HN FA FB;obtain⟨⟨r0,r1,r2⟩,⟨y0,y1,y2⟩,hlr⟩:=RA.out.c3;obtain⟨⟨s0,s1,s2⟩,⟨z0,z1,z2⟩,hls⟩:=RB.out.c3;go_wp2_with fail
   have ra:=(RA.out.store3 (.slice none 0 0) (.int .i64 0) (.int .i64 0)).sto (aR.three (w.heap.size+1+1+1) _ (.slice none 0 0) (.int .i64 0) (.int .i64 0)) (by omega);have rb:=(RB.out.sto (aR.three (w.heap.size+1+1) _ (.slice none 0 0) (.int .i64 0) (.int .i64 0)) (by omega)).store3 (.slice none 0 0) (.int .i64 0) (.int .i64 0);exact bodyPost_ret (v:=.tuple #[zc,zc,.int .i64 0,.int .i64 1]) (by simp [results,Tryz.results140,go_sem,ra.cell,rb.cell,zc]) rfl (.inl ⟨_,F.out,rfl,cO (cO BW.out (by omega) _ _ _) (by omega) _ _ _⟩)
 ·have F:=aA (show k9 ⟨xs,p,i⟩ ⟨ys,q,j⟩ 1 from .inl ⟨fun h=>hno h.1,rfl⟩);have BW:=aA P.out.bw;have RA:=aA FA.out.blk;clear hno HN FA P;obtain⟨⟨r0,r1,r2⟩,⟨y0,y1,y2⟩,hlr⟩:=RA.out.c3;obtain⟨⟨s0,s1,s2⟩,⟨z0,z1,z2⟩,hls⟩:=RB.out.c3;go_wp2_with fail
  have ra:=(RA.out.store3 (.slice none 0 0) (.int .i64 0) (.int .i64 0)).sto (aR.three (w.heap.size+1+1+1) _ (.slice none 0 0) (.int .i64 0) (.int .i64 0)) (by omega);have rb:=(RB.out.sto (aR.three (w.heap.size+1+1) _ (.slice none 0 0) (.int .i64 0) (.int .i64 0)) (by omega)).store3 (.slice none 0 0) (.int .i64 0) (.int .i64 0);exact bodyPost_ret (v:=.tuple #[zc,zc,.int .i64 0,.int .i64 1]) (by simp [results,Tryz.results140,go_sem,ra.cell,rb.cell,zc]) rfl (.inl ⟨_,F.out,rfl,cO (cO BW.out (by omega) _ _ _) (by omega) _ _ _⟩)
def pO(lo hi:Int)(f:Cv)(n:Int)(a:Cv)(er:Int):Prop:=
 (¬f.Ok/\a=Cv.none/\er=1)\/(f.Ok/\(n<lo\/hi<n)/\a=Cv.none/\er=2)\/(f.Ok/\lo<=n/\n<=hi/\NF f.at a/\a.Ok/\er=0)
theorem a02(A:Option Addr)(n c:Nat)(p i t lo hi:Int)(zs:List Int)(w:World)(hA:aE w w.heap.size A n zs)(hn:(n:Int)<=1000000) :
 Calls Tryz.prog 184 #[.agg #[.slice A n c,.int .i64 p,.int .i64 i],.int .i64 t,.int .i64 lo,.int .i64 hi] w (dI (pO lo hi ⟨zs,p,i⟩ t) w):=by
 have E:=aA ((L1.new (c:=c) (p:=p) (i:=i) hA).alloc (.cells #[.slice none 0 0,.int .i64 0,.int .i64 0] 26));have rb:=aC.new (w.alloc (.cells #[.slice A n c,.int .i64 p,.int .i64 i] 26)) 26 #[.slice none 0 0,.int .i64 0,.int .i64 0];rw [World.size_alloc] at rb;have RB:=aA rb;clear hA rb;go_enter Tryz.func184,Tryz.ntmps184
 go_wp2_with fail
 refine(jR A n c p i zs _ E.out.ints hn).mono ?_;rintro e w1 ⟨a,er,hN,A1,n1,c1,rfl,hI1,hA1,hb⟩;simp only [World.size_alloc] at hA1;have HN:=aA (i4.of hN);have RB:=aA (RB.out.below hb RB.out.lt);have BW:=aA (aD E.out.bw hb);have FA:=aA (Bz.mk (L:=w.heap.size+1+1) (aC.new w1 26 #[.slice A1 n1 c1,.int .i64 a.per,.int .i64 a.inc]) (hI1.alloc' _) hA1);have hs1:w.heap.size+1<w1.heap.size:=RB.out.lt;have RB:=aA (RB.out.alloc (.cells #[.slice A1 n1 c1,.int .i64 a.per,.int .i64 a.inc] 26));have BW:=aA (aD BW.out (aF _ (.cells #[.slice A1 n1 c1,.int .i64 a.per,.int .i64 a.inc] 26)));clear hN hI1 hA1 hb E;go_upto_region 2 with fail
 generalize hwz:w1.alloc (.cells #[.slice A1 n1 c1,.int .i64 a.per,.int .i64 a.inc] 26)=wz at *;clear hwz;generalize hW1:w1.heap.size=F1 at *;clear hW1;obtain⟨⟨r0,r1,r2⟩,⟨y0,y1,y2⟩,hlr⟩:=RB.out.c3;obtain⟨a0,a1,a2,hla⟩:=FA.out.cells;rcases HN.out with ⟨hfo,hnf,hao,rfl⟩|⟨hno,rfl,rfl⟩
 ·by_cases hr:t<lo\/hi<t
  ·have F:=aA (show pO lo hi ⟨zs,p,i⟩ t Cv.none 2 from .inr (.inl ⟨hfo,hr,rfl,rfl⟩));clear HN hfo hnf hao;have hr2:t<lo\/(¬t<lo/\hi<t):=by omega
   clear hr;rcases hr2 with hr | ⟨hr0,hr⟩
   all_goals
    go_wp2_with fail
    have rb:=RB.out.store3 (.slice none 0 0) (.int .i64 0) (.int .i64 0);refine bodyPost_ret (v:=.tuple #[.agg #[(.slice none 0 0),.int .i64 0,.int .i64 0],.int .i64 2]) (by simp [results,Tryz.results184,go_sem,rb.cell]) rfl ?_;exact⟨_,_,F.out,none,0,0,rfl,aE.none_,(fun b off s h=>by cases h),cO BW.out (by omega) _ _ _⟩
  ·have F:=aA (show pO lo hi ⟨zs,p,i⟩ t a 0 from .inr (.inr ⟨hfo,by omega,by omega,hnf,hao,rfl⟩));have g1:¬t<lo:=by omega
   have g2:¬hi<t:=by omega
   clear HN hfo hnf hao hr;go_wp2_with fail
   have rb:=RB.out.store3 (.slice A1 n1 c1) (.int .i64 a.per) (.int .i64 a.inc);refine bodyPost_ret (v:=.tuple #[.agg #[(.slice A1 n1 c1),.int .i64 a.per,.int .i64 a.inc],.int .i64 0]) (by simp [results,Tryz.results184,go_sem,rb.cell]) rfl ?_;exact⟨_,_,F.out,A1,n1,c1,rfl,FA.out.ints.sto (aR.three (w.heap.size+1) wz _ _ _) (fun b off o e=>by have:=FA.out.lo b off o e;omega),fun b off o e=>by have:=FA.out.lo b off o e;omega,cO BW.out (by omega) _ _ _⟩
 ·have F:=aA (show pO lo hi ⟨zs,p,i⟩ t Cv.none 1 from .inl ⟨hno,rfl,rfl⟩);clear HN hno;go_wp2_with fail
  have rb:=RB.out.store3 (.slice none 0 0) (.int .i64 0) (.int .i64 0);refine bodyPost_ret (v:=.tuple #[.agg #[(.slice none 0 0),.int .i64 0,.int .i64 0],.int .i64 1]) (by simp [results,Tryz.results184,go_sem,rb.cell]) rfl ?_;exact⟨_,_,F.out,none,0,0,rfl,aE.none_,(fun b off s h=>by cases h),cO BW.out (by omega) _ _ _⟩
theorem a1n(L F G:Nat)(A:Option Addr)(n c:Nat)(a:Cv)(B:Option Addr)(m d:Nat)(b:Cv)(t:Nat)(w:World)(hF:Bz L w F A n c a)(hG:Bz L w G B m d b)(ha:a.Ok)(hb:b.Ok)(ht:t<=1000000) :
 Calls Tryz.prog 141 (#[.int .i64 t] ++ #[.pointer (some ⟨F,0,none⟩),.pointer (some ⟨G,0,none⟩)]) w fun e w'=>e = .returned (.int .i64 (dW a b t))/\Below w.heap.size w w':=by
 have FA:=aA hF;have FB:=aA hG;have hl1:a.vals.length=n:=hF.ints.1;have hl2:b.vals.length=m:=hG.ints.1;have ha1:=ha.n1;have ha2:=ha.n2;have hap:=ha.p1;have hap2:=ha.p2;have hai:=ha.i1;have hai2:=ha.i2;have hapn:=ha.pn;rw [hl1] at ha1 ha2 hapn;have hb1:=hb.n1;have hb2:=hb.n2;have hbp:=hb.p1;have hbp2:=hb.p2;have hbi:=hb.i1;have hbi2:=hb.i2;have hbpn:=hb.pn;rw [hl2] at hb1 hb2 hbpn;have HA:=aA ha;have HB:=aA hb;have hx:=j4 ha (t:=t) (by omega);have hy:=j4 hb (t:=t) (by omega);have HPL:=aA (zN ha hb (t:=t) (by omega));obtain⟨x,hx'⟩:∃x,x=a.at t:=⟨_,rfl⟩
 obtain⟨y,hy'⟩:∃y,y=b.at t:=⟨_,rfl⟩
 have HX:=aA hx';have HY:=aA hy';rw [<- hx'] at hx;rw [<- hy'] at hy;have HXB:=aA hx;have HYB:=aA hy;have BW:=aA (Below.refl w.heap.size w);clear hF hG hl1 hl2 ha hb hx hy hx' hy';rw [HPL.out,<- HX.out,<- HY.out];clear HPL;show Calls _ _ #[.int .i64 t,.pointer (some ⟨F,0,none⟩),.pointer (some ⟨G,0,none⟩)] _ _
 go_enter Tryz.func141,Tryz.ntmps141
 obtain⟨a0,a1,a2,hla⟩:=FA.out.cells;obtain⟨b0,b1,b2,hlb⟩:=FB.out.cells;go_upto_region 1 with fail
 go_region_held3 (fun w'=>w'.cell? ⟨F,0,none⟩=some (.slice A n c)/\w'.cell? ⟨F,1,none⟩=some (.int .i64 a.per)/\w'.cell? ⟨F,2,none⟩=some (.int .i64 a.inc)/\w'.cell? ⟨G,0,none⟩=some (.slice B m d)/\w'.cell? ⟨G,1,none⟩=some (.int .i64 b.per)/\w'.cell? ⟨G,2,none⟩=some (.int .i64 b.inc)) (first|go_keep)
  (first
   | (go_at_call_of 43 (Value.agg #[.slice A n c,.int .i64 a.per,.int .i64 a.inc])
      refine(gA A n c a.per a.inc t a.vals _ (by exact FA.out.drew.ints) (by omega) hap hapn hai (by omega) HA.out.nn (by omega) (by omega)).mono ?_;rw [Int.toNat_natCast,show Cv.at ⟨a.vals,a.per,a.inc⟩ t=x from HX.out.symm];rintro e w1 ⟨rfl,hbq⟩;have hbq:=lH hbq;have FA:=aA (FA.out.below hbq);have FB:=aA (FB.out.below hbq);have BW:=aA (aD BW.out hbq);clear hbq;clear a0 a1 a2 hla b0 b1 b2 hlb;obtain⟨a0,a1,a2,hla⟩:=FA.out.cells;obtain⟨b0,b1,b2,hlb⟩:=FB.out.cells
      skip)
   | (go_at_call_of 43 (Value.agg #[.slice B m d,.int .i64 b.per,.int .i64 b.inc])
      refine(gA B m d b.per b.inc t b.vals _ (by exact FB.out.drew.ints) (by omega) hbp hbpn hbi (by omega) HB.out.nn (by omega) (by omega)).mono ?_;rw [Int.toNat_natCast,show Cv.at ⟨b.vals,b.per,b.inc⟩ t=y from HY.out.symm];rintro e w1 ⟨rfl,hbq⟩;have FA:=aA (FA.out.below hbq);have FB:=aA (FB.out.below hbq);have BW:=aA (aD BW.out hbq);clear hbq;clear a0 a1 a2 hla b0 b1 b2 hlb;obtain⟨a0,a1,a2,hla⟩:=FA.out.cells;obtain⟨b0,b1,b2,hlb⟩:=FB.out.cells
      skip)
   | (go_at_call 44
      refine(pB x y _ HXB.out.1 HXB.out.2 HYB.out.1 HYB.out.2).mono ?_;rintro e w1 ⟨rfl,rfl⟩
      skip))
 all_goals
  have bw:=BW.out;go_wp2_with fail
  go_ret
  exact⟨rfl,bw⟩
theorem a1o(A0 B0:Option Addr)(n0 m0 c0 d0:Nat)(p i q j:Int)(xs ys:List Int)(w:World)(hA:aE w w.heap.size A0 n0 xs)(hB:aE w w.heap.size B0 m0 ys)(hn:(n0:Int)<=1000000)(hm:(m0:Int)<=1000000) :
 Calls Tryz.prog 129 #[.agg #[.slice A0 n0 c0,.int .i64 p,.int .i64 i],.agg #[.slice B0 m0 d0,.int .i64 q,.int .i64 j]] w (dI (mU ⟨xs,p,i⟩ ⟨ys,q,j⟩) w):=by
 have P:=aA ((PT.new (c:=c0) (p:=p) (i:=i) (d:=d0) (q:=q) (j:=j) hA hB).alloc (.cells #[.slice none 0 0,.int .i64 0,.int .i64 0] 26));have rb:=aC.new ((w.alloc (.cells #[.slice A0 n0 c0,.int .i64 p,.int .i64 i] 26)).alloc (.cells #[.slice B0 m0 d0,.int .i64 q,.int .i64 j] 26)) 26 #[.slice none 0 0,.int .i64 0,.int .i64 0];rw [World.size_alloc,World.size_alloc] at rb;have RB:=aA rb;clear hA hB rb;go_enter Tryz.func129,Tryz.ntmps129
 go_wp2_with fail
 refine(a1d A0 B0 n0 m0 c0 d0 p i q j xs ys _ P.out.ia P.out.ib hn hm).mono ?_;rintro e w1 hret;have hs0:=RB.out.lt;rcases hret with ⟨er,hbad,rfl,hb⟩|⟨hf,hg,a,b,A,n,c,B,m,d,hna,hnb,hao,hbo,hc,rfl,hI1,hI2,hA1,hA2,hb⟩
 ·have hne:=hbad.ne;have F:=aA (show mU ⟨xs,p,i⟩ ⟨ys,q,j⟩ Cv.none er from hbad.to);have RB:=aA (((RB.out.below hb RB.out.lt).alloc (.cells #[.slice none 0 0,.int .i64 0,.int .i64 0] 26)).alloc (.cells #[.slice none 0 0,.int .i64 0,.int .i64 0] 26));have bw:=aD (aD (aD P.out.bw hb) (aF _ (.cells #[.slice none 0 0,.int .i64 0,.int .i64 0] 26))) (aF _ (.cells #[.slice none 0 0,.int .i64 0,.int .i64 0] 26));clear hbad hb P;unfold zc;go_upto_region 2 with fail
  obtain⟨⟨r0,r1,r2⟩,⟨y0,y1,y2⟩,hlr⟩:=RB.out.c3;go_wp2_with fail
  have rb:=RB.out.store3 (.slice none 0 0) (.int .i64 0) (.int .i64 0);refine bodyPost_ret (v:=.tuple #[.agg #[(.slice none 0 0),.int .i64 0,.int .i64 0],.int .i64 er]) (by simp [results,Tryz.results129,go_sem,rb.cell]) rfl ?_;exact kB F.out (cO bw (by omega) _ _ _)
 ·have F1:=aA (Bz.mk (L:=w.heap.size+1+1+1) (c:=c) (f:=a) (aC.new w1 26 #[.slice A n c,.int .i64 a.per,.int .i64 a.inc]) (hI1.alloc' _) (fun b off s e=>by have:=hA1 b off s e;simp at this;omega));have F2:=aA (Bz.mk (L:=w.heap.size+1+1+1) (c:=d) (f:=b) (aC.new (w1.alloc (.cells #[.slice A n c,.int .i64 a.per,.int .i64 a.inc] 26)) 26 #[.slice B m d,.int .i64 b.per,.int .i64 b.inc]) ((hI2.alloc' _).alloc' _) (fun b off s e=>by have:=hA2 b off s e;simp at this;omega));have RB:=aA (((RB.out.below hb RB.out.lt).alloc (.cells #[.slice A n c,.int .i64 a.per,.int .i64 a.inc] 26)).alloc (.cells #[.slice B m d,.int .i64 b.per,.int .i64 b.inc] 26));have BW:=aA (aD (aD (aD P.out.bw hb) (aF _ (.cells #[.slice A n c,.int .i64 a.per,.int .i64 a.inc] 26))) (aF _ (.cells #[.slice B m d,.int .i64 b.per,.int .i64 b.inc] 26)));have hl1:a.vals.length=n:=hI1.1;have hl2:b.vals.length=m:=hI2.1;have ob:=iG hao hbo;have hbq:=hb.size;simp only [World.size_alloc] at hbq;have FB:=aA F2.out;have FA:=aA (F1.out.alloc (.cells #[.slice B m d,.int .i64 b.per,.int .i64 b.inc] 26));rw [World.size_alloc] at FB;clear F1 F2 hb P hI1 hI2 hA1 hA2;go_upto_region 4 with fail
  generalize hwz:(w1.alloc (.cells #[.slice A n c,.int .i64 a.per,.int .i64 a.inc] 26)).alloc (.cells #[.slice B m d,.int .i64 b.per,.int .i64 b.inc] 26)=wz at *;clear hwz;obtain⟨F,hFe⟩:∃F,F=w1.heap.size:=⟨_,rfl⟩
  obtain⟨G,hGe⟩:∃G,G=F+1:=⟨_,rfl⟩
  rw [<- hFe,<- hGe] at FB;rw [<- hFe] at FA;rw [<- hFe,<- hGe];have hne1:w.heap.size+1+1≠F:=by omega
  have hne2:w.heap.size+1+1≠G:=by omega
  clear hFe hGe hbq hs0;have ha1:=hao.n1;have ha2:=hao.n2;have hap:=hao.p1;have hap2:=hao.p2;have hai:=hao.i1;have hai2:=hao.i2;have hapn:=hao.pn;rw [hl1] at ha1 ha2 hapn;have hb1:=hbo.n1;have hb2:=hbo.n2;have hbp:=hbo.p1;have hbp2:=hbo.p2;have hbi:=hbo.i1;have hbi2:=hbo.i2;have hbpn:=hbo.pn;rw [hl2] at hb1 hb2 hbpn;obtain⟨C,hC⟩:∃C,C=aI a b:=⟨_,rfl⟩
  obtain⟨S,hS⟩:∃S,S=aL a b:=⟨_,rfl⟩
  obtain⟨GA,hGA⟩:∃GA:Int,GA=bR a b:=⟨_,rfl⟩
  obtain⟨GB,hGB⟩:∃GB:Int,GB=cH a b:=⟨_,rfl⟩
  obtain⟨I,hI⟩:∃I:Int,I=GA+GB:=⟨_,rfl⟩
  have hmx:(if(n:Int)-a.per<(m:Int)-b.per then (m:Int)-b.per else (n:Int)-a.per)=(S:Int):=by
   rw [hS];unfold aL;rw [hl1,hl2];split <;> omega
  have hSb:(S:Int)<=400:=by rw [hS];unfold aL;rw [hl1,hl2];omega
  have hCb:(C:Int)<=120:=by rw [hC];omega
  have hC1:1<=C:=by rw [hC];exact ob.c1
  have hga:=ob.a1;have hgb:=ob.a2;have eGA:((((C:Nat):Int).toNat / a.per.toNat:Nat):Int)*a.inc=GA:=by rw [hGA,hC,Int.toNat_natCast];rfl
  have eGB:((((C:Nat):Int).toNat / b.per.toNat:Nat):Int)*b.inc=GB:=by rw [hGB,hC,Int.toNat_natCast];rfl
  have hI0:0<=I/\I<=257698037760:=by
   rw [hI,hGA,hGB];unfold bR cH;omega
  have e1:IntKind.i64.wrap (GA+GB)=I:=by rw [<- hI];exact IntWalk.i64_in _ (by omega)
  obtain⟨hI0,hI1⟩:=hI0;rw [<- hC];have FIN:=aA (show ∀r er,eW (dW a b) S C I r er->mU ⟨xs,p,i⟩ ⟨ys,q,j⟩ r er from fun r er h=>.inr ⟨hf,hg,a,b,hna,hnb,.inr ⟨hc,i9 hC1 (fun t u ht htu hi=>uB (a4l hao hbo (by omega) hi htu)) (fun hne=>by
   have h1:=(a4p hao hbo (s:=S) (c:=C) (by rw [hS];exact ob.fs) (by rw [hS];exact ob.gs) hC hne).2.2;have h2:I=(C / a.per.toNat:Nat)*a.inc+(C / b.per.toNat:Nat)*b.inc:=by rw [hI,hGA,hGB,hC];rfl
   rw [h2];exact h1) h⟩⟩)
  have HVAL:=aA (show ∀k:Nat,(k:Int)<(S:Int)+(C:Int)->0<=dW a b k/\dW a b k<=4611686018427387904 from fun k hk=>zO hao hbo (by omega));have HA:=aA hao;have HB:=aA hbo;clear hf hg hna hnb hao hbo hc hl1 hl2 ob hC hS hGA hGB hI hga hgb;obtain⟨⟨r0,r1,r2⟩,⟨y0,y1,y2⟩,hlr⟩:=RB.out.c3;obtain⟨a0,a1,a2,hla⟩:=FA.out.cells;obtain⟨b0,b1,b2,hlb⟩:=FB.out.cells;go_upto_region 5 with fail
  go_region_held3 (fun w'=>w'.cell? ⟨F,0,none⟩=some (.slice A n c)/\w'.cell? ⟨F,1,none⟩=some (.int .i64 a.per)/\w'.cell? ⟨F,2,none⟩=some (.int .i64 a.inc)/\w'.cell? ⟨G,0,none⟩=some (.slice B m d)/\w'.cell? ⟨G,1,none⟩=some (.int .i64 b.per)/\w'.cell? ⟨G,2,none⟩=some (.int .i64 b.inc)) (first|go_keep|exact⟨(j5 hne1).trans a0,(j5 hne1).trans a1,(j5 hne1).trans a2,(j5 hne2).trans b0,(j5 hne2).trans b1,(j5 hne2).trans b2⟩)
   (first
    | (go_at_call_of 92 (Value.agg #[.slice A n c,.int .i64 a.per,.int .i64 a.inc])
       refine(dR A n c a.per a.inc _ (by omega) (by omega) (by omega)).mono ?_;rintro e w4 ⟨rfl,hbq⟩;have FA:=aA FA.out.drew;have FB:=aA FB.out.drew;have BW:=aA (Below.drew BW.out);have RB:=aA (aC.drew RB.out);have FA:=aA (FA.out.below hbq);have FB:=aA (FB.out.below hbq);have BW:=aA (aD BW.out hbq);have RB:=aA (RB.out.below hbq RB.out.lt);clear hbq;clear a0 a1 a2 hla b0 b1 b2 hlb;obtain⟨a0,a1,a2,hla⟩:=FA.out.cells;obtain⟨b0,b1,b2,hlb⟩:=FB.out.cells
       skip)
    | (go_at_call_of 92 (Value.agg #[.slice B m d,.int .i64 b.per,.int .i64 b.inc])
       refine(dR B m d b.per b.inc _ (by omega) (by omega) (by omega)).mono ?_;rintro e w4 ⟨rfl,hbq⟩;have FA:=aA (FA.out.below hbq);have FB:=aA (FB.out.below hbq);have BW:=aA (aD BW.out hbq);have RB:=aA (RB.out.below hbq RB.out.lt);clear hbq;clear a0 a1 a2 hla b0 b1 b2 hlb;obtain⟨a0,a1,a2,hla⟩:=FA.out.cells;obtain⟨b0,b1,b2,hlb⟩:=FB.out.cells
       skip)
    | (go_at_call_of 142 (Value.agg #[.slice A n c,.int .i64 a.per,.int .i64 a.inc])
       refine(xY A n c a.per a.inc (C:Int) _ (by omega) (by omega) (by omega) (by omega) (by omega)).mono ?_;rw [eGA];rintro e w4 ⟨rfl,hbq⟩;have FA:=aA (FA.out.below hbq);have FB:=aA (FB.out.below hbq);have BW:=aA (aD BW.out hbq);have RB:=aA (RB.out.below hbq RB.out.lt);clear hbq;clear a0 a1 a2 hla b0 b1 b2 hlb;obtain⟨a0,a1,a2,hla⟩:=FA.out.cells;obtain⟨b0,b1,b2,hlb⟩:=FB.out.cells
       skip)
    | (go_at_call_of 142 (Value.agg #[.slice B m d,.int .i64 b.per,.int .i64 b.inc])
       refine(xY B m d b.per b.inc (C:Int) _ (by omega) (by omega) (by omega) (by omega) (by omega)).mono ?_;rw [eGB];rintro e w4 ⟨rfl,hbq⟩;have FA:=aA (FA.out.below hbq);have FB:=aA (FB.out.below hbq);have BW:=aA (aD BW.out hbq);have RB:=aA (RB.out.below hbq RB.out.lt);clear hbq;clear a0 a1 a2 hla b0 b1 b2 hlb;obtain⟨a0,a1,a2,hla⟩:=FA.out.cells;obtain⟨b0,b1,b2,hlb⟩:=FB.out.cells
       skip)
    | (go_at_call 64
       refine(kN 141 #[.pointer (some ⟨F,0,none⟩),.pointer (some ⟨G,0,none⟩)] S C I (dW a b) _ (by omega) (by omega) (by omega) (by omega) (by omega) (by omega) HVAL.out (by exact fun t w1 ht hb=>a1n _ F G A n c a B m d b t w1 (FA.out.below hb) (FB.out.below hb) HA.out HB.out (by omega)) (fun x w=>by kernel_rfl)).mono ?_;rintro e w5 ⟨r,er,hS,A5,n5,c5,rfl,hI5,hA5,hbq⟩;rw [Int.toNat_natCast,Int.toNat_natCast] at hS;have FN:=aA (FIN.out _ _ hS);have hs0:=RB.out.lt;have HI5:=aA hI5;have HA5:=aA hA5;clear hS hI5 hA5;clear r0 r1 r2 y0 y1 y2 hlr;have FA:=aA (FA.out.below hbq);have FB:=aA (FB.out.below hbq);have BW:=aA (aD BW.out hbq);have RB:=aA (RB.out.below hbq RB.out.lt);clear hbq;clear a0 a1 a2 hla b0 b1 b2 hlb;obtain⟨a0,a1,a2,hla⟩:=FA.out.cells;obtain⟨b0,b1,b2,hlb⟩:=FB.out.cells;obtain⟨⟨r0,r1,r2⟩,⟨y0,y1,y2⟩,hlr⟩:=RB.out.c3
       skip))
  all_goals
   go_wp2_with fail
   have rb:=RB.out.store3 (.slice A5 n5 c5) (.int .i64 r.per) (.int .i64 r.inc);refine bodyPost_ret (v:=.tuple #[.agg #[(.slice A5 n5 c5),.int .i64 r.per,.int .i64 r.inc],.int .i64 er]) (by simp [results,Tryz.results129,go_sem,rb.cell]) rfl ?_;exact fX FN.out HA5.out (by omega) hs0 HI5.out BW.out
def iX:Array Value:=#[.slice none 0 0,.int .i64 0,.int .i64 0,.slice none 0 0,.int .i64 0,.int .i64 0,.int .i64 0,.int .i64 0,.int .i64 0]
def mA(A:Option Addr)(n c:Nat)(a:Cv)(B:Option Addr)(m d:Nat)(b:Cv)(from_ common drift:Int):Array Value:=#[.slice A n c,.int .i64 a.per,.int .i64 a.inc,.slice B m d,.int .i64 b.per,.int .i64 b.inc,.int .i64 from_,.int .i64 common,.int .i64 drift]
def pL(f g:Cv)(er:Int):Prop:=(¬(f.Ok/\g.Ok)/\er=1)\/(f.Ok/\g.Ok/\er=3/\∃a b,NF f.at a/\NF g.at b/\a.Ok/\b.Ok/\120<a9 a.per.toNat b.per.toNat)
def D0(f g:Cv)(w:World)(e:Ending)(w':World):Prop:=
 (∃er,pL f g er/\e = .returned (.tuple #[.agg iX,.int .i64 er])/\Below w.heap.size w w')\/
 (f.Ok/\g.Ok/\∃(a b:Cv) (A:Option Addr) (n c:Nat) (B:Option Addr) (m d:Nat),NF f.at a/\NF g.at b/\a.Ok/\b.Ok/\a9 a.per.toNat b.per.toNat<=120/\
  e = .returned (.tuple #[.agg (mA A n c a B m d b (aL a b:Nat) (aI a b:Nat) (dG a b)),.int .i64 0])/\aE w' w'.heap.size A n a.vals/\aE w' w'.heap.size B m b.vals/\(∀b off s,A=some ⟨b,off,s⟩->w.heap.size<=b)/\(∀b off s,B=some ⟨b,off,s⟩->w.heap.size<=b)/\Below w.heap.size w w')
theorem I9{p q:Nat}(hp:p<=120)(hq:q<=120):a9 p q<=14400:=by
 unfold a9;exact Nat.le_trans (Nat.mul_le_mul (Nat.le_trans (Nat.div_le_self _ _) hp) hq) (by omega)
theorem J0{p q:Nat}(hp:1<=p)(hq:1<=q):1<=a9 p q:=by
 unfold a9;have h1:1<=p / Nat.gcd p q:=Nat.div_pos (Nat.le_of_dvd hp (Nat.gcd_dvd_left p q)) (Nat.gcd_pos_of_pos_left _ hp);exact Nat.mul_pos h1 hq
theorem a2k(A B:Option Addr)(n m c d:Nat)(p i q j:Int)(xs ys:List Int)(w:World)(hA:aE w w.heap.size A n xs)(hB:aE w w.heap.size B m ys)(hn:(n:Int)<=1000000)(hm:(m:Int)<=1000000) :
 Calls Tryz.prog 186 #[.agg #[.slice A n c,.int .i64 p,.int .i64 i],.agg #[.slice B m d,.int .i64 q,.int .i64 j]] w (D0 ⟨xs,p,i⟩ ⟨ys,q,j⟩ w):=by
 have P:=aA ((PS.new (c:=c) (p:=p) (i:=i) (d:=d) (q:=q) (j:=j) hA hB).alloc (.cells iX 234));have rb:=aC.new ((w.alloc (.cells #[.slice A n c,.int .i64 p,.int .i64 i] 26)).alloc (.cells #[.slice B m d,.int .i64 q,.int .i64 j] 26)) 234 iX;rw [World.size_alloc,World.size_alloc] at rb;have RB:=aA rb;clear hA hB rb;unfold iX at P RB;go_enter Tryz.func186,Tryz.ntmps186
 go_wp2_with fail
 refine(jR A n c p i xs _ P.out.ia hn).mono ?_;rintro e w1 ⟨a,er,hN,A1,n1,c1,rfl,hI1,hA1,hb1⟩;simp only [World.size_alloc] at hA1;have HN:=aA (i4.of hN);have P:=aA (P.out.below hb1);have RB:=aA (RB.out.below hb1 RB.out.lt);have HI1:=aA hI1;have hs1:=RB.out.lt;clear hN hI1 hb1;rcases HN.out with ⟨hfo,hnf,hao,rfl⟩|⟨hno,rfl,rfl⟩
 ·have ha1:=hao.n1;have ha2:=hao.n2;have hap:=hao.p1;have hap2:=hao.p2;have hai:=hao.i1;have hai2:=hao.i2;have hapn:=hao.pn;have hl1:a.vals.length=n1:=HI1.out.1;rw [hl1] at ha1 ha2 hapn;have FA:=aA (Bx.new (c:=c1) (f:=a) HI1.out hA1 (Nat.le_refl _) (by omega) (by omega));have P:=aA (P.out.alloc (.cells #[.slice A1 n1 c1,.int .i64 a.per,.int .i64 a.inc] 26));have RB:=aA (RB.out.alloc (.cells #[.slice A1 n1 c1,.int .i64 a.per,.int .i64 a.inc] 26));have HNF:=aA hnf;have HFO:=aA hfo;have HAO:=aA hao;have HL1:=aA hl1;clear hnf hfo hao HI1 hA1 HN hl1;obtain⟨f0,f1,f2,g0,g1,g2,hlf,hlg⟩:=P.out.cells;go_wp2_with fail
  refine(jR B m d q j ys _ P.out.ib hm).mono ?_;rintro e w2 ⟨b,er,hN,A2,n2,c2,rfl,hI2,hA2,hb2⟩;simp only [World.size_alloc] at hA2;have HN:=aA (i4.of hN);have RB:=aA (RB.out.below hb2 RB.out.lt);have FA:=aA (FA.out.below hb2);have BW:=aA (aD P.out.bw hb2);have HI2:=aA hI2;have hs2:=RB.out.lt;have hs3:=FA.out.lt;clear hN hI2 hb2 P f0 f1 f2 g0 g1 g2 hlf hlg;rcases HN.out with ⟨hgo,hnf,hbo,rfl⟩|⟨hno,rfl,rfl⟩
  ·have hb1:=hbo.n1;have hb2:=hbo.n2;have hbp:=hbo.p1;have hbp2:=hbo.p2;have hbi:=hbo.i1;have hbi2:=hbo.i2;have hbpn:=hbo.pn;have hl2:b.vals.length=n2:=HI2.out.1;rw [hl2] at hb1 hb2 hbpn;have FB:=aA (Bx.new (L:=w.heap.size+1+1+1) (c:=c2) (f:=b) HI2.out hA2 (by omega) (by omega) (by omega));have FA:=aA (FA.out.alloc (.cells #[.slice A2 n2 c2,.int .i64 b.per,.int .i64 b.inc] 26));have RB:=aA (RB.out.alloc (.cells #[.slice A2 n2 c2,.int .i64 b.per,.int .i64 b.inc] 26));have BW:=aA (aD BW.out (aF _ (.cells #[.slice A2 n2 c2,.int .i64 b.per,.int .i64 b.inc] 26)));have HNG:=aA hnf;have HGO:=aA hgo;have HBO:=aA hbo;have HL2:=aA hl2;clear hnf hgo hbo HI2 hA2 HN hl2;obtain⟨C,hC⟩:∃C,C=a9 a.per.toNat b.per.toNat:=⟨_,rfl⟩
   obtain⟨S,hS⟩:∃S,S=aL a b:=⟨_,rfl⟩
   have hmx:(if(n1:Int)-a.per<(n2:Int)-b.per then (n2:Int)-b.per else (n1:Int)-a.per)=(S:Int):=by
    rw [hS];unfold aL;rw [HL1.out,HL2.out];split <;> omega
   have hSb:(S:Int)<=400:=by rw [hS];unfold aL;rw [HL1.out,HL2.out];omega
   have hCb:C<=14400:=by
    rw [hC];exact I9 (by omega) (by omega)
   have hC1:1<=C:=by rw [hC];exact J0 (by omega) (by omega)
   have HS:=aA hS;have HC:=aA hC;clear hS hC;go_upto_region 7 with fail
   generalize hwe:w2.alloc (.cells #[.slice A2 n2 c2,.int .i64 b.per,.int .i64 b.inc] 26)=w3 at *;clear hwe
   go_cut [9] (fun s9 wx=>∃P:Nat,s9 = .pointer (some ⟨P,0,none⟩)/\w2.heap.size<P/\aC wx P 234 #[.slice A1 n1 c1,.int .i64 a.per,.int .i64 a.inc,.slice A2 n2 c2,.int .i64 b.per,.int .i64 b.inc,.int .i64 S,.int .i64 C,.int .i64 0]/\
    Bx (w.heap.size+1+1+1) wx w1.heap.size A1 n1 c1 a/\Bx (w.heap.size+1+1+1) wx w2.heap.size A2 n2 c2 b/\aC wx (w.heap.size+1+1) 234 #[.slice none 0 0,.int .i64 0,.int .i64 0,.slice none 0 0,.int .i64 0,.int .i64 0,.int .i64 0,.int .i64 0,.int .i64 0]/\Below w.heap.size w wx)
   case first=>
    have FA:=aA FA.out.drew;have FB:=aA FB.out.drew;have RB:=aA (aC.drew RB.out);have BW:=aA (Below.drew BW.out);obtain⟨a0,a1,a2,hla⟩:=FA.out.cells;obtain⟨b0,b1,b2,hlb⟩:=FB.out.cells;refine wp_region_held_drew (S:=fun w'=>w'.cell? ⟨w1.heap.size,0,none⟩=some (.slice A1 n1 c1)/\w'.cell? ⟨w1.heap.size,1,none⟩=some (.int .i64 a.per)/\w'.cell? ⟨w1.heap.size,2,none⟩=some (.int .i64 a.inc)/\w'.cell? ⟨w2.heap.size,0,none⟩=some (.slice A2 n2 c2)/\w'.cell? ⟨w2.heap.size,1,none⟩=some (.int .i64 b.per)/\w'.cell? ⟨w2.heap.size,2,none⟩=some (.int .i64 b.inc)) (by kernel_rfl) ⟨a0,a1,a2,b0,b1,b2⟩ (fun hH=>?_);generalize hwd:w3.drew=wd at *;clear hwd;refine aO [0,1,2,4,7,8,9,10] ?_;(iterate 8 refine aK ?_);refine aP ?_;refine eS 3 13 (fun K hK=>?_) (fun K hK=>?_)
    ·rw [if_pos (by rfl)];go_simp
     refine(dR A1 n1 c1 a.per a.inc _ (by omega) (by omega) (by omega)).mono ?_;rintro e wa ⟨rfl,hbq⟩;have FA:=aA (FA.out.below hbq);have FB:=aA (FB.out.below hbq);have RB:=aA (RB.out.below hbq RB.out.lt);have BW:=aA (aD BW.out hbq)
     try (have ZB:=aA (ZB.out.below hbq ZB.out.lt))
     clear hbq hH;clear a0 a1 a2 hla b0 b1 b2 hlb;obtain⟨a0,a1,a2,hla⟩:=FA.out.cells;obtain⟨b0,b1,b2,hlb⟩:=FB.out.cells;refine aH hK (by exact⟨a0,a1,a2,b0,b1,b2⟩) (fun hH=>?_);refine eS 5 13 (fun K hK=>?_) (fun K hK=>?_)
     ·rw [if_pos (by rfl)];go_simp
      refine(dR A2 n2 c2 b.per b.inc _ (by omega) (by omega) (by omega)).mono ?_;rintro e wb ⟨rfl,hbq⟩;have FA:=aA (FA.out.below hbq);have FB:=aA (FB.out.below hbq);have RB:=aA (RB.out.below hbq RB.out.lt);have BW:=aA (aD BW.out hbq)
      try (have ZB:=aA (ZB.out.below hbq ZB.out.lt))
      clear hbq hH;clear a0 a1 a2 hla b0 b1 b2 hlb;obtain⟨a0,a1,a2,hla⟩:=FA.out.cells;obtain⟨b0,b1,b2,hlb⟩:=FB.out.cells;refine aH hK (by exact⟨a0,a1,a2,b0,b1,b2⟩) (fun hH=>?_);refine bD 6 ?_;refine eS 11 13 (fun K hK=>?_) (fun K hK=>?_)
      ·rw [if_pos (by rfl)];go_simp
       refine(lI a.per b.per _ (by omega) (by omega) (by omega) (by omega)).mono ?_;rintro e wc ⟨rfl,hbq⟩;rw [<- HC.out];have FA:=aA (FA.out.below hbq);have FB:=aA (FB.out.below hbq);have RB:=aA (RB.out.below hbq RB.out.lt);have BW:=aA (aD BW.out hbq)
       try (have ZB:=aA (ZB.out.below hbq ZB.out.lt))
       clear hbq hH;clear a0 a1 a2 hla b0 b1 b2 hlb;obtain⟨a0,a1,a2,hla⟩:=FA.out.cells;obtain⟨b0,b1,b2,hlb⟩:=FB.out.cells;refine aH hK (by exact⟨a0,a1,a2,b0,b1,b2⟩) (fun hH=>?_);refine bD 12 ?_;refine aJ 13 (fun K hK=>?_);go_simp
       have hbq:=aF wc (.cells #[.slice none 0 0,.int .i64 0,.int .i64 0,.slice none 0 0,.int .i64 0,.int .i64 0,.int .i64 0,.int .i64 0,.int .i64 0] 234);have zb:=aC.new wc 234 #[.slice none 0 0,.int .i64 0,.int .i64 0,.slice none 0 0,.int .i64 0,.int .i64 0,.int .i64 0,.int .i64 0,.int .i64 0];have hP:=FB.out.lt;have ZB:=aA zb;clear zb;generalize hwa:wc.alloc (.cells #[.slice none 0 0,.int .i64 0,.int .i64 0,.slice none 0 0,.int .i64 0,.int .i64 0,.int .i64 0,.int .i64 0,.int .i64 0] 234)=wz at *;clear hwa;have FA:=aA (FA.out.below hbq);have FB:=aA (FB.out.below hbq);have RB:=aA (RB.out.below hbq RB.out.lt);have BW:=aA (aD BW.out hbq);clear hbq hH;clear a0 a1 a2 hla b0 b1 b2 hlb;obtain⟨a0,a1,a2,hla⟩:=FA.out.cells;obtain⟨b0,b1,b2,hlb⟩:=FB.out.cells;refine aH hK (by exact⟨a0,a1,a2,b0,b1,b2⟩) (fun hH=>?_);refine dA 14 (fun K hK=>?_);refine gH rfl 234 _ _ rfl rfl ZB.out rfl rfl (by kernel_rfl) (by simp [Value.oneCell']) ?_;intro wz hsto rz;have FA:=aA (FA.out.sto hsto (.inl (by omega)));have FB:=aA (FB.out.sto hsto (.inl (by omega)));have RB:=aA (RB.out.sto hsto (by omega));have BW:=aA (cE BW.out hsto (by omega));clear a0 a1 a2 hla b0 b1 b2 hlb;obtain⟨a0,a1,a2,hla⟩:=FA.out.cells;obtain⟨b0,b1,b2,hlb⟩:=FB.out.cells;refine aH hK (by exact⟨a0,a1,a2,b0,b1,b2⟩) (fun hH=>?_);refine aT ?_;go_wp2_with fail
       go_meet
       exact⟨_,rfl,hP,rz,FA.out,FB.out,RB.out,BW.out⟩
      ·rw [if_pos (by rfl)];go_simp
       have hbq:=aF wb (.cells #[.slice none 0 0,.int .i64 0,.int .i64 0,.slice none 0 0,.int .i64 0,.int .i64 0,.int .i64 0,.int .i64 0,.int .i64 0] 234);have zb:=aC.new wb 234 #[.slice none 0 0,.int .i64 0,.int .i64 0,.slice none 0 0,.int .i64 0,.int .i64 0,.int .i64 0,.int .i64 0,.int .i64 0];have hP:=FB.out.lt;have ZB:=aA zb;clear zb;generalize hwa:wb.alloc (.cells #[.slice none 0 0,.int .i64 0,.int .i64 0,.slice none 0 0,.int .i64 0,.int .i64 0,.int .i64 0,.int .i64 0,.int .i64 0] 234)=wz at *;clear hwa;have FA:=aA (FA.out.below hbq);have FB:=aA (FB.out.below hbq);have RB:=aA (RB.out.below hbq RB.out.lt);have BW:=aA (aD BW.out hbq);clear hbq hH;clear a0 a1 a2 hla b0 b1 b2 hlb;obtain⟨a0,a1,a2,hla⟩:=FA.out.cells;obtain⟨b0,b1,b2,hlb⟩:=FB.out.cells;refine aH hK (by exact⟨a0,a1,a2,b0,b1,b2⟩) (fun hH=>?_);refine aJ 11 (fun K hK=>?_);go_simp
       refine(lI a.per b.per _ (by omega) (by omega) (by omega) (by omega)).mono ?_;rintro e wc ⟨rfl,hbq⟩;rw [<- HC.out];have FA:=aA (FA.out.below hbq);have FB:=aA (FB.out.below hbq);have RB:=aA (RB.out.below hbq RB.out.lt);have BW:=aA (aD BW.out hbq)
       try (have ZB:=aA (ZB.out.below hbq ZB.out.lt))
       clear hbq hH;clear a0 a1 a2 hla b0 b1 b2 hlb;obtain⟨a0,a1,a2,hla⟩:=FA.out.cells;obtain⟨b0,b1,b2,hlb⟩:=FB.out.cells;refine aH hK (by exact⟨a0,a1,a2,b0,b1,b2⟩) (fun hH=>?_);refine bD 12 ?_;refine dA 14 (fun K hK=>?_);refine gH rfl 234 _ _ rfl rfl ZB.out rfl rfl (by kernel_rfl) (by simp [Value.oneCell']) ?_;intro wz hsto rz;have FA:=aA (FA.out.sto hsto (.inl (by omega)));have FB:=aA (FB.out.sto hsto (.inl (by omega)));have RB:=aA (RB.out.sto hsto (by omega));have BW:=aA (cE BW.out hsto (by omega));clear a0 a1 a2 hla b0 b1 b2 hlb;obtain⟨a0,a1,a2,hla⟩:=FA.out.cells;obtain⟨b0,b1,b2,hlb⟩:=FB.out.cells;refine aH hK (by exact⟨a0,a1,a2,b0,b1,b2⟩) (fun hH=>?_);refine aT ?_;go_wp2_with fail
       go_meet
       exact⟨_,rfl,hP,rz,FA.out,FB.out,RB.out,BW.out⟩
     ·rw [if_pos (by rfl)];go_simp
      have hbq:=aF wa (.cells #[.slice none 0 0,.int .i64 0,.int .i64 0,.slice none 0 0,.int .i64 0,.int .i64 0,.int .i64 0,.int .i64 0,.int .i64 0] 234);have zb:=aC.new wa 234 #[.slice none 0 0,.int .i64 0,.int .i64 0,.slice none 0 0,.int .i64 0,.int .i64 0,.int .i64 0,.int .i64 0,.int .i64 0];have hP:=FB.out.lt;have ZB:=aA zb;clear zb;generalize hwa:wa.alloc (.cells #[.slice none 0 0,.int .i64 0,.int .i64 0,.slice none 0 0,.int .i64 0,.int .i64 0,.int .i64 0,.int .i64 0,.int .i64 0] 234)=wb at *;clear hwa;have FA:=aA (FA.out.below hbq);have FB:=aA (FB.out.below hbq);have RB:=aA (RB.out.below hbq RB.out.lt);have BW:=aA (aD BW.out hbq);clear hbq hH;clear a0 a1 a2 hla b0 b1 b2 hlb;obtain⟨a0,a1,a2,hla⟩:=FA.out.cells;obtain⟨b0,b1,b2,hlb⟩:=FB.out.cells;refine aH hK (by exact⟨a0,a1,a2,b0,b1,b2⟩) (fun hH=>?_);refine aJ 5 (fun K hK=>?_);go_simp
      refine(dR A2 n2 c2 b.per b.inc _ (by omega) (by omega) (by omega)).mono ?_;rintro e wc ⟨rfl,hbq⟩;have FA:=aA (FA.out.below hbq);have FB:=aA (FB.out.below hbq);have RB:=aA (RB.out.below hbq RB.out.lt);have BW:=aA (aD BW.out hbq)
      try (have ZB:=aA (ZB.out.below hbq ZB.out.lt))
      clear hbq hH;clear a0 a1 a2 hla b0 b1 b2 hlb;obtain⟨a0,a1,a2,hla⟩:=FA.out.cells;obtain⟨b0,b1,b2,hlb⟩:=FB.out.cells;refine aH hK (by exact⟨a0,a1,a2,b0,b1,b2⟩) (fun hH=>?_);refine bD 6 ?_;refine aJ 11 (fun K hK=>?_);go_simp
      refine(lI a.per b.per _ (by omega) (by omega) (by omega) (by omega)).mono ?_;rintro e wz ⟨rfl,hbq⟩;rw [<- HC.out];have FA:=aA (FA.out.below hbq);have FB:=aA (FB.out.below hbq);have RB:=aA (RB.out.below hbq RB.out.lt);have BW:=aA (aD BW.out hbq)
      try (have ZB:=aA (ZB.out.below hbq ZB.out.lt))
      clear hbq hH;clear a0 a1 a2 hla b0 b1 b2 hlb;obtain⟨a0,a1,a2,hla⟩:=FA.out.cells;obtain⟨b0,b1,b2,hlb⟩:=FB.out.cells;refine aH hK (by exact⟨a0,a1,a2,b0,b1,b2⟩) (fun hH=>?_);refine bD 12 ?_;refine dA 14 (fun K hK=>?_);refine gH rfl 234 _ _ rfl rfl ZB.out rfl rfl (by kernel_rfl) (by simp [Value.oneCell']) ?_;intro wz hsto rz;have FA:=aA (FA.out.sto hsto (.inl (by omega)));have FB:=aA (FB.out.sto hsto (.inl (by omega)));have RB:=aA (RB.out.sto hsto (by omega));have BW:=aA (cE BW.out hsto (by omega));clear a0 a1 a2 hla b0 b1 b2 hlb;obtain⟨a0,a1,a2,hla⟩:=FA.out.cells;obtain⟨b0,b1,b2,hlb⟩:=FB.out.cells;refine aH hK (by exact⟨a0,a1,a2,b0,b1,b2⟩) (fun hH=>?_);refine aT ?_;go_wp2_with fail
      go_meet
      exact⟨_,rfl,hP,rz,FA.out,FB.out,RB.out,BW.out⟩
    ·rw [if_pos (by rfl)];go_simp
     have hbq:=aF wd (.cells #[.slice none 0 0,.int .i64 0,.int .i64 0,.slice none 0 0,.int .i64 0,.int .i64 0,.int .i64 0,.int .i64 0,.int .i64 0] 234);have zb:=aC.new wd 234 #[.slice none 0 0,.int .i64 0,.int .i64 0,.slice none 0 0,.int .i64 0,.int .i64 0,.int .i64 0,.int .i64 0,.int .i64 0];have hP:=FB.out.lt;have ZB:=aA zb;clear zb;generalize hwa:wd.alloc (.cells #[.slice none 0 0,.int .i64 0,.int .i64 0,.slice none 0 0,.int .i64 0,.int .i64 0,.int .i64 0,.int .i64 0,.int .i64 0] 234)=wa at *;clear hwa;have FA:=aA (FA.out.below hbq);have FB:=aA (FB.out.below hbq);have RB:=aA (RB.out.below hbq RB.out.lt);have BW:=aA (aD BW.out hbq);clear hbq hH;clear a0 a1 a2 hla b0 b1 b2 hlb;obtain⟨a0,a1,a2,hla⟩:=FA.out.cells;obtain⟨b0,b1,b2,hlb⟩:=FB.out.cells;refine aH hK (by exact⟨a0,a1,a2,b0,b1,b2⟩) (fun hH=>?_);refine aJ 3 (fun K hK=>?_);go_simp
     refine(dR A1 n1 c1 a.per a.inc _ (by omega) (by omega) (by omega)).mono ?_;rintro e wb ⟨rfl,hbq⟩;have FA:=aA (FA.out.below hbq);have FB:=aA (FB.out.below hbq);have RB:=aA (RB.out.below hbq RB.out.lt);have BW:=aA (aD BW.out hbq)
     try (have ZB:=aA (ZB.out.below hbq ZB.out.lt))
     clear hbq hH;clear a0 a1 a2 hla b0 b1 b2 hlb;obtain⟨a0,a1,a2,hla⟩:=FA.out.cells;obtain⟨b0,b1,b2,hlb⟩:=FB.out.cells;refine aH hK (by exact⟨a0,a1,a2,b0,b1,b2⟩) (fun hH=>?_);refine aJ 5 (fun K hK=>?_);go_simp
     refine(dR A2 n2 c2 b.per b.inc _ (by omega) (by omega) (by omega)).mono ?_;rintro e wc ⟨rfl,hbq⟩;have FA:=aA (FA.out.below hbq);have FB:=aA (FB.out.below hbq);have RB:=aA (RB.out.below hbq RB.out.lt);have BW:=aA (aD BW.out hbq)
     try (have ZB:=aA (ZB.out.below hbq ZB.out.lt))
     clear hbq hH;clear a0 a1 a2 hla b0 b1 b2 hlb;obtain⟨a0,a1,a2,hla⟩:=FA.out.cells;obtain⟨b0,b1,b2,hlb⟩:=FB.out.cells;refine aH hK (by exact⟨a0,a1,a2,b0,b1,b2⟩) (fun hH=>?_);refine bD 6 ?_;refine aJ 11 (fun K hK=>?_);go_simp
     refine(lI a.per b.per _ (by omega) (by omega) (by omega) (by omega)).mono ?_;rintro e wz ⟨rfl,hbq⟩;rw [<- HC.out];have FA:=aA (FA.out.below hbq);have FB:=aA (FB.out.below hbq);have RB:=aA (RB.out.below hbq RB.out.lt);have BW:=aA (aD BW.out hbq)
     try (have ZB:=aA (ZB.out.below hbq ZB.out.lt))
     clear hbq hH;clear a0 a1 a2 hla b0 b1 b2 hlb;obtain⟨a0,a1,a2,hla⟩:=FA.out.cells;obtain⟨b0,b1,b2,hlb⟩:=FB.out.cells;refine aH hK (by exact⟨a0,a1,a2,b0,b1,b2⟩) (fun hH=>?_);refine bD 12 ?_;refine dA 14 (fun K hK=>?_);refine gH rfl 234 _ _ rfl rfl ZB.out rfl rfl (by kernel_rfl) (by simp [Value.oneCell']) ?_;intro wz hsto rz;have FA:=aA (FA.out.sto hsto (.inl (by omega)));have FB:=aA (FB.out.sto hsto (.inl (by omega)));have RB:=aA (RB.out.sto hsto (by omega));have BW:=aA (cE BW.out hsto (by omega));clear a0 a1 a2 hla b0 b1 b2 hlb;obtain⟨a0,a1,a2,hla⟩:=FA.out.cells;obtain⟨b0,b1,b2,hlb⟩:=FB.out.cells;refine aH hK (by exact⟨a0,a1,a2,b0,b1,b2⟩) (fun hH=>?_);refine aT ?_;go_wp2_with fail
     go_meet
     exact⟨_,rfl,hP,rz,FA.out,FB.out,RB.out,BW.out⟩
   case rest=>
    as_aux_lemma=>
    clear FA FB RB BW;obtain⟨P,rfl,hP,pb,fa,fb,rb,bw⟩:=hcut;have PB:=aA pb;have FA:=aA fa;have FB:=aA fb;have RB:=aA rb;have BW:=aA bw;clear pb fa fb rb bw hmx;obtain⟨p7,hlp⟩:_/\_:=⟨PB.out.cell 7,PB.out.lt⟩
    simp at p7;by_cases hcc:120<C
    ·have F:=aA (show pL ⟨xs,p,i⟩ ⟨ys,q,j⟩ 3 from .inr ⟨HFO.out,HGO.out,rfl,a,b,HNF.out,HNG.out,HAO.out,HBO.out,by rw [<- HC.out];exact hcc⟩);have hci:(120:Int)<(C:Int):=by omega
     clear hcc;go_wp2_with (refine iK rfl 234 _ _ rfl rfl RB.out rfl rfl (by kernel_rfl) (by simp [Value.oneCell']) ?_;intro wz hsto rz)
     exact bodyPost_ret (v:=.tuple #[.agg iX,.int .i64 3]) (by simp [results,Tryz.results186,go_sem,rz.cell,iX]) rfl (.inl ⟨_,F.out,rfl,cE BW.out hsto (by omega)⟩)
    ·have hci:¬(120:Int)<(C:Int):=by omega
     have hc120:(C:Int)<=120:=by omega
     obtain⟨u,hu⟩:∃u:Int,u=(C:Int) / a.per:=⟨_,rfl⟩
     obtain⟨v,hv⟩:∃v:Int,v=(C:Int) / b.per:=⟨_,rfl⟩
     have hu0:0<=u:=by rw [hu];exact Int.ediv_nonneg (by omega) (by omega)
     have hu1:u<=C:=by rw [hu];exact Int.ediv_le_self _ (by omega)
     have hv0:0<=v:=by rw [hv];exact Int.ediv_nonneg (by omega) (by omega)
     have hv1:v<=C:=by rw [hv];exact Int.ediv_le_self _ (by omega)
     have e1:(C:Int).tdiv a.per=u:=by rw [Int.tdiv_eq_ediv_of_nonneg (by omega)];exact hu.symm
     have e2:(C:Int).tdiv b.per=v:=by rw [Int.tdiv_eq_ediv_of_nonneg (by omega)];exact hv.symm
     have e1':IntKind.i64.wrap u=u:=IntWalk.i64_in _ (by omega);have e2':IntKind.i64.wrap v=v:=IntWalk.i64_in _ (by omega);obtain⟨x,hx⟩:∃x,x=u*a.inc:=⟨_,rfl⟩
     obtain⟨y,hy⟩:∃y,y=v*b.inc:=⟨_,rfl⟩
     have hx0:0<=x:=by rw [hx];exact Int.mul_nonneg hu0 hai
     have hx1:x<=120*1073741824:=by rw [hx];exact Int.mul_le_mul (by omega) hai2 hai (by omega)
     have hy0:0<=y:=by rw [hy];exact Int.mul_nonneg hv0 hbi
     have hy1:y<=120*1073741824:=by rw [hy];exact Int.mul_le_mul (by omega) hbi2 hbi (by omega)
     have e3:IntKind.i64.wrap (u*a.inc)=x:=by rw [<- hx];exact IntWalk.i64_in _ (by omega)
     have e4:IntKind.i64.wrap (v*b.inc)=y:=by rw [<- hy];exact IntWalk.i64_in _ (by omega)
     obtain⟨D,hD⟩:∃D,D=x-y:=⟨_,rfl⟩
     have e5:IntKind.i64.wrap (x-y)=D:=by rw [<- hD];exact IntWalk.i64_in _ (by omega)
     have HD:=aA (show dG a b=D from by
      unfold dG;have h1:((aI a b / a.per.toNat:Nat):Int)=u:=by
       rw [hu,show aI a b=C from HC.out.symm,Int.natCast_ediv,Int.toNat_of_nonneg (by omega)]
      have h2:((aI a b / b.per.toNat:Nat):Int)=v:=by
       rw [hv,show aI a b=C from HC.out.symm,Int.natCast_ediv,Int.toNat_of_nonneg (by omega)]
      rw [h1,h2,<- hx,<- hy,hD])
     have hpn:a.per≠0:=by omega
     have hqn:b.per≠0:=by omega
     clear hcc hu hv hx hy hD;go_upto_region 10 with fail
     go_cut [] (fun wx=>aC wx P 234 #[.slice A1 n1 c1,.int .i64 a.per,.int .i64 a.inc,.slice A2 n2 c2,.int .i64 b.per,.int .i64 b.inc,.int .i64 S,.int .i64 C,.int .i64 D]/\
      Bx (w.heap.size+1+1+1) wx w1.heap.size A1 n1 c1 a/\Bx (w.heap.size+1+1+1) wx w2.heap.size A2 n2 c2 b/\aC wx (w.heap.size+1+1) 234 #[.slice none 0 0,.int .i64 0,.int .i64 0,.slice none 0 0,.int .i64 0,.int .i64 0,.int .i64 0,.int .i64 0,.int .i64 0]/\Below w.heap.size w wx)
     case first=>
      have PB:=aA (aC.drew PB.out);have FA:=aA FA.out.drew;have FB:=aA FB.out.drew;have RB:=aA (aC.drew RB.out);have BW:=aA (Below.drew BW.out);have y8:=PB.out.frozen 8;have p8:=PB.out.cell 8;simp at p8;obtain⟨a0,a1,a2,hla⟩:=FA.out.cells;obtain⟨b0,b1,b2,hlb⟩:=FB.out.cells;have hPr:=RB.out.lt;have hPs:w1.heap.size<P:=by have:=hs3;omega
      go_region
      all_goals
       go_wp2_with fail
       go_meet
       exact⟨PB.out.set_ 8 (.int .i64 D),FA.out.set1 (g:=P) (.inl (by omega)) 8 (.int .i64 D),FB.out.set1 (g:=P) (.inl (by omega)) 8 (.int .i64 D),RB.out.far (p:=⟨P,8,none⟩) (by simp;omega) (.int .i64 D),BW.out.setCell (p:=⟨P,8,none⟩) (by simp;omega) (.int .i64 D)⟩
     case rest=>
      clear PB FA FB RB BW;clear p7 hlp;obtain⟨pb,fa,fb,rb,bw⟩:=hcut;have PB:=aA pb;have FA:=aA fa;have FB:=aA fb;have RB:=aA rb;have BW:=aA bw;clear pb fa fb rb bw;go_upto_region 11 with fail
      refine wp_region_lit ?_;refine wpList_load_row rfl 234 _ rfl P rfl 234 #[.slice A1 n1 c1,.int .i64 a.per,.int .i64 a.inc,.slice A2 n2 c2,.int .i64 b.per,.int .i64 b.inc,.int .i64 S,.int .i64 C,.int .i64 D] (0,0) _ PB.out Tryz.underlying234 rfl (by kernel_rfl) ?_;refine iK rfl 234 _ _ rfl rfl RB.out rfl rfl (by kernel_rfl) (by simp [Value.oneCell']) ?_;intro wz hsto rz;have FA:=aA (FA.out.sto hsto (.inr (by omega)));have FB:=aA (FB.out.sto hsto (.inr (by omega)));have bw:=cE BW.out hsto (by omega)
      (try simp only [Act.put]);try simp only [dC,dD,dE]
      go_wp2_with fail
      exact bodyPost_ret (v:=.tuple #[.agg (mA A1 n1 c1 a A2 n2 c2 b S C D),.int .i64 0]) (by simp [results,Tryz.results186,go_sem,rz.cell,mA]) rfl
       (.inr ⟨HFO.out,HGO.out,a,b,A1,n1,c1,A2,n2,c2,HNF.out,HNG.out,HAO.out,HBO.out,by rw [<- HC.out];omega,by rw [HD.out,<- HS.out,show aI a b=C from HC.out.symm],FA.out.ints,FB.out.ints,fun b' off s e=>by have:=(FA.out.ap b' off s e).1;omega,fun b' off s e=>by have:=(FB.out.ap b' off s e).1;omega,bw⟩)
  ·have F:=aA (show pL ⟨xs,p,i⟩ ⟨ys,q,j⟩ 1 from .inl ⟨fun h=>hno h.2,rfl⟩);have RB:=aA (RB.out.alloc (.cells #[.slice A2 n2 c2,.int .i64 Cv.none.per,.int .i64 Cv.none.inc] 26));have BW:=aA (aD BW.out (aF _ (.cells #[.slice A2 n2 c2,.int .i64 Cv.none.per,.int .i64 Cv.none.inc] 26)));clear hno HN;go_wp2_with (refine iK rfl 234 _ _ rfl rfl RB.out rfl rfl (by kernel_rfl) (by simp [Value.oneCell']) ?_;intro wz hsto rz)
   exact bodyPost_ret (v:=.tuple #[.agg iX,.int .i64 1]) (by simp [results,Tryz.results186,go_sem,rz.cell,iX]) rfl (.inl ⟨_,F.out,rfl,cE BW.out hsto (by omega)⟩)
 ·have F:=aA (show pL ⟨xs,p,i⟩ ⟨ys,q,j⟩ 1 from .inl ⟨fun h=>hno h.1,rfl⟩);have RB:=aA (RB.out.alloc (.cells #[.slice A1 n1 c1,.int .i64 Cv.none.per,.int .i64 Cv.none.inc] 26));have BW:=aA (aD P.out.bw (aF _ (.cells #[.slice A1 n1 c1,.int .i64 Cv.none.per,.int .i64 Cv.none.inc] 26)));clear hno HN;go_wp2_with (refine iK rfl 234 _ _ rfl rfl RB.out rfl rfl (by kernel_rfl) (by simp [Value.oneCell']) ?_;intro wz hsto rz)
  exact bodyPost_ret (v:=.tuple #[.agg iX,.int .i64 1]) (by simp [results,Tryz.results186,go_sem,rz.cell,iX]) rfl (.inl ⟨_,F.out,rfl,cE BW.out hsto (by omega)⟩)
end Go.Proofs.YtaejfleahamapaaGreat
