/- . -/
import Derived.Test.YtaejfleahamapaaGreatTd15
import Derived.Test.YtaejfleahamapaaGreatTd16
import Derived.Test.YtaejfleahamapaaGreatTd5
namespace Go.Proofs.YtaejfleahamapaaGreat
set_option linter.unusedVariables false
set_option linter.unusedSimpArgs false
set_option maxHeartbeats 4000000
open Go.RowKit
section
variable{f:Cv}{l:List (Int × Int)}{sum time t:Int}
end
section
variable{f:Cv}{ts:List Int}
def bk(ts:List Int):List (Int × Int):=ts.reverse.map (fun t=>(t,1))
end
section
variable{w w':World}{b0 p:Nat}{f:Cv}{A:Option Addr}{n c:Nat}{fst:Int}{tv zv:Value}{ts zs:List Int}
end
theorem gC{w0 wr w':World}{X:Nat->Prop}(h:Below w0.heap.size w0 wr)(k:KX X wr w')(hx:∀g,X g->w0.heap.size<=g):Below w0.heap.size w0 w':=
 ⟨k.os.trans h.os,k.tape.trans h.tape,k.output.trans h.output,Nat.le_trans h.size k.size,fun g hg=>(k.block g (Nat.lt_of_lt_of_le hg h.size) (fun hX=>by have:=hx g hX;omega)).trans (h.block g hg)⟩
section
variable{w wr w':World}{p:Nat}{f:Cv}{A:Option Addr}{n c:Nat}{tv zv:Value}
end
section
attribute [local go_sem ↓] pZ
theorem fQ.get3{w:World}{b o:Nat}{ps:List PK}(h:fQ w b o ps){j:Nat}{u:Value}(hu:(ps.flatMap PK.cells)[j]?=some u):w.cell? ⟨b,o+j,none⟩=some u:=by
 have hl:=(List.getElem?_eq_some_iff.1 hu).1;rw [qJ] at hl;obtain⟨x,hx⟩:∃x,ps[j / 3]?=some x:=⟨_,List.getElem?_eq_getElem (by omega)⟩
 have h1:=sM ps (j / 3) (j % 3) x hx (Nat.mod_lt _ (by omega));have h2:=h.cell (j / 3) (j % 3) x hx (Nat.mod_lt _ (by omega));have e:j / 3*3+j % 3=j:=by omega
 rw [e,hu] at h1;rw [Nat.add_assoc,e] at h2;rw [h2,h1]
theorem a03(ps:List PK):∀u∈ps.flatMap PK.cells,u.oneCell'=true:=by
 intro u hu;obtain⟨x,_,hx⟩:=List.mem_flatMap.1 hu;simp only [PK.cells,List.mem_cons,List.not_mem_nil,or_false] at hx;rcases hx with rfl|rfl|rfl <;> rfl
theorem yP{w:World}{base n m c g o:Nat}{v:Value}{xs zs:List PK}(h:a8 w base v n xs)(hz:zs.length=m)(hr:0<m->fQ w g o zs)(hbase:base<=w.heap.size)(hn:n+m<=10000) :
 ∃v' w',Sem.run Tryz.prog (pY #[v,.slice (some ⟨g,o,none⟩) m c]) w = .ok v' w'/\a8 w' base v' (n+m) (xs ++ zs)/\KX (fun k=>some k=v.ownBlock) w w'/\(v'.ownBlock=v.ownBlock\/v'.ownBlock=some w.heap.size):=by
 obtain⟨i0,hi0,hz0,hz1,hz2⟩:=info_parts nC;obtain⟨v',w',hrun,h2,h3,_,h5⟩:=run_append_own_at (P:=Tryz.prog) (w:=w) base 46 46 71 i0 (.agg #[.int .i64 0,.int .i64 0,.int .i64 0]) 3 24 Tryz.underlying46 hi0 hz0 hz1 hz2 rfl (by omega) v n _ h ⟨g,o,none⟩ m c (zs.flatMap PK.cells) (by rw [qJ,hz]) (by
  intro j u hu;have hl:=(List.getElem?_eq_some_iff.1 hu).1;rw [qJ] at hl;have e:(Addr.add ⟨g,o,none⟩ j)=⟨g,o+j,none⟩:=by
   unfold Addr.add;split
   ·rename_i h0;subst h0;rfl
   ·rfl
  rw [e];exact(hr (by omega)).get3 hu) (a03 zs) (by unfold maxLen;omega) (by omega) hbase
 refine⟨v',w',hrun,?_,KX.grown h3,h5⟩
 unfold a8;rw [List.flatMap_append];exact h2
theorem a8.empty_(w:World){base:Nat}(hb:base<=w.heap.size):a8 (w.alloc (.cells #[] 71)) base (.slice (some ⟨w.heap.size,0,none⟩) 0 0) 0 []:=
 ⟨by simp,.inr ⟨w.heap.size,0,#[],rfl,hb,heap_alloc_new w _,Nat.le_refl _,by unfold maxLen;omega,rfl,rfl⟩⟩
theorem I5(A:Option Addr)(n c:Nat)(ps:List PK)(w:World)(h:bN w A n c ps)(hn:n<=1000)(hA:A=none\/∃g o,A=some ⟨g,o,none⟩)(hA0:A=none->n=0) :
 Calls Tryz.prog 69 #[.slice A n c] w fun e w'=>∃v,e = .returned v/\a8 w' w.heap.size v n ps/\Below w.heap.size w w':=by
 have qT:∀(w:World) (a:Option Addr) (n c n' c':Nat),(binOp .eql 46 (.slice a n c) (.slice none n' c')).run Tryz.prog w = .ok (.bool a.isNone) w:=fun w a n c n' c'=>Lib.run_eql_slice_nil w _ _ a n c n' c' Tryz.underlying46
 rcases hA with rfl | ⟨g,o,rfl⟩
 ·have hn0:=hA0 rfl;subst hn0;have hp:ps = []:=List.eq_nil_of_length_eq_zero h.1;have F:=aA (show a8 w w.heap.size (.slice none 0 0) 0 ps by rw [hp];exact a8.nil_ _ _);clear hp h;go_enter Tryz.func69,Tryz.ntmps69
  go_wp2_with fail
  go_ret
  exact⟨_,rfl,F.out,Below.refl _ _⟩
 ·have hb0:=aF w (.cells #[] 71);have h1:=h.below hb0;obtain⟨v',w2,hrun,hko,hkx,hvb⟩:=yP (g:=g) (o:=o) (c:=c) (a8.empty_ w (Nat.le_refl _)) h1.1 (fun h0=>by
   obtain⟨g',o',e,hr⟩:=h1.2.2 h0;cases e
   exact hr) hb0.size (by omega)
  rw [Nat.zero_add,List.nil_append] at hko;have bw:=hb0.trans ⟨hkx.os,hkx.tape,hkx.output,hkx.size,fun k hk=>hkx.block k (by have:=hb0.size;omega) (fun e=>by simp [Value.ownBlock] at e;omega)⟩;have F:=aA hko;have BW:=aA bw;clear hko hkx hvb h h1 hb0 bw;go_enter Tryz.func69,Tryz.ntmps69
  go_wp2_with fail
  go_ret
  exact⟨_,rfl,F.out,BW.out⟩
end
theorem o7{σ:Type}{c:Nat}{ps:List PK}{s:RS σ}(h:Wt c ps s)(k:cA ps s.begun s.t c (-1)):False:=by
 obtain⟨i,x,h1,h2,h3,h4⟩:=h;rcases k with ⟨j,_,h,_⟩|⟨_,h⟩
 ·omega
 ·exact h i x h1 h4 h3 h2
theorem nK{σ:Type}{c:Int}{ps:List PK}{s:RS σ}{r:Int}{i:Nat}{x:PK}(h:cA ps s.begun s.t c r)(hr:r=i)(hx:ps[i]?=some x):x.fl=c:=by
 rcases h with ⟨j,y,h1,h2,_,_,h3,_⟩|⟨h,_⟩
 ·obtain rfl:j=i:=by omega
  rw [hx] at h2;cases h2
  exact h3
 ·omega
section
variable{cap:Int}{ps:List PK}{ticks:Nat}{ws:List Int}{c d:Nat}{sg0:Nat × Int}{s:RS (Nat × Int)}{L M:Int}
def uW(ws:List Int)(c d:Nat)(M a b:Int)(g:Nat × Int):Prop:=g.1<2/\0<=g.2/\g.2<=aB ws g.1/\(0<a->g.1=c/\b=0)/\(0<b->g.1=d/\g.2+1<=aB ws d/\b<=M/\a=0)/\0<=a/\0<=b
theorem a2x{nx:Nat->Int->Prop}{cl cl':Nat}{l r l':Int}{ws:List Int}(hl:ws.length=2)(h0:0<=aB ws 0)(h1:0<=aB ws 1)(h:iP nx ws cl l r cl' l'):(cl<2/\0<=l/\l<=aB ws cl)->cl'<2/\0<=l'/\l'+1<=aB ws cl'/\nx cl' r:=by
 induction h with
 | take c l r h1 h2 h3=>intro h;exact⟨h.1,by omega,by omega,h1⟩
 | skip c l r c' l' h3 h4 ih=>
   intro h;refine ih ⟨by rw [hl];omega,?_,Int.le_refl _⟩;rcases (show(c+1) % ws.length=0\/(c+1) % ws.length=1 by rw [hl];omega) with e|e <;> rw [e] <;> assumption
theorem a2v(hv:aM ps)(hfl:∀x∈ps,x.fl<2)(hc:1<=cap)(hc2:c<2)(hd2:d<2)(hcd:c≠d)(hl:ws.length=2)(h0:1<=aB ws 0)(h1:1<=aB ws 1)(hM:∀x∈ps,x.fl=d->x.sz<=M)
 (h:aQ cap 2 ps ticks (kL ws ps) (0,aB ws 0) s):uW ws c d M (s.opn ps c) (s.opn ps d) s.sg:=by
 refine aQ.glob2 hv hfl hc (mE hv) hc2 hd2 hcd (uW ws c d M) ⟨by simp,by simp only;omega,Int.le_refl _,by omega,by omega,by omega,by omega⟩ ?_ ?_ ?_ ?_ h
 ·intro s sg _ hch h;rcases hch with ⟨_,rfl,_⟩|hch
  ·exact h
  ·exact absurd hch.nx.2 (by omega)
 ·intro s sg i x _ hch hx h;obtain⟨g1,g2,g3,_⟩:=h;have gx:=(dF hv hx)
  rcases hch with ⟨h,_⟩|hch
  ·omega
  ·obtain⟨k1,k2,k3,k4⟩:=a2x hl (by omega) (by omega) hch ⟨g1,g2,g3⟩;have e:=nK k4 rfl hx;have hMx:=hM x (List.mem_of_getElem? hx);rcases (show sg.1=c\/sg.1=d by omega) with e2|e2
   ·exact .inl ⟨by omega,k1,k2,by omega,fun _=>⟨e2,rfl⟩,by omega,by omega,by omega⟩
   ·refine .inr ⟨by omega,k1,k2,by omega,by omega,fun _=>⟨e2,by rw [<- e2];exact k3,hMx (by omega),rfl⟩,by omega,by omega⟩
 ·intro a b n g hn hna ⟨g1,g2,g3,g4,g5,g6,g7⟩;exact⟨g1,g2,g3,fun h=>g4 (by omega),fun h=>by have:=g5 h;omega,by omega,by omega⟩
 ·intro a b n g hn hna ⟨g1,g2,g3,g4,g5,g6,g7⟩;exact⟨g1,g2,g3,fun h=>by have:=g4 h;omega,fun h=>by have:=g5 (by omega);exact⟨this.1,this.2.1,by omega,this.2.2.2⟩,by omega,by omega⟩
def pR(ws:List Int)(c d:Nat)(L M Y O a b:Int)(g:Nat × Int):Prop:=
 g.1<2/\0<=g.2/\0<=a/\0<=b/\∃m:Int,aB ws c*L*(m-1)<=Y/\(g.1=c->b=0/\g.2<=aB ws c/\O<=aB ws d*M*m/\aB ws c*L*(m-1)+(aB ws c-g.2)*L<=Y+a)/\
  (g.1=d->a=0/\g.2<=aB ws d/\O+b+g.2*M<=aB ws d*M*m)
theorem a2u{nx:Nat->Int->Prop}{cl cl':Nat}{l r l' Y O z:Int}(hc2:c<2)(hd2:d<2)(hcd:c≠d)(hl:ws.length=2)(h0:1<=aB ws 0)(h1:1<=aB ws 1)(hL:1<=L)(hM0:0<=M)(hz:0<=z)(hw:nx c (-1)->False)
 (h:iP nx ws cl l r cl' l') (hzL:cl'=c->L<=z) (hzM:cl'=d->z<=M):pR ws c d L M Y O 0 0 (cl,l)->cl'=c/\pR ws c d L M Y O z 0 (cl',l')\/cl'=d/\pR ws c d L M Y O 0 z (cl',l'):=by
 induction h with
 | take k l r h1 h2 h3=>
   rintro⟨g1,g2,_,_,m,g3,g4,g5⟩;have g1:k<2:=g1;rcases (show k=c\/k=d by omega) with rfl|rfl
   ·refine .inl ⟨rfl,g1,by show 0<=l-1;omega,hz,Int.le_refl _,m,g3,fun _=>?_,fun h=>absurd h hcd⟩;obtain⟨_,a1,a2,a3⟩:=g4 rfl;have a1:l<=aB ws k:=a1;have a3:aB ws k*L*(m-1)+(aB ws k-l)*L<=Y+0:=a3;have:=hzL rfl
    refine⟨rfl,by show l-1<=_;omega,a2,?_⟩
    show aB ws k*L*(m-1)+(aB ws k-(l-1))*L<=Y+z
    rw [show(aB ws k-(l-1))*L=(aB ws k-l)*L+L by rw [show aB ws k-(l-1)=(aB ws k-l)+1 by omega,Int.add_mul,Int.one_mul]];omega
   ·refine .inr ⟨rfl,g1,by show 0<=l-1;omega,Int.le_refl _,hz,m,g3,fun h=>absurd h (fun e=>hcd e.symm),fun _=>?_⟩;obtain⟨_,a1,a2⟩:=g5 rfl;have a1:l<=aB ws k:=a1;have a2:O+0+l*M<=aB ws k*M*m:=a2;have:=hzM rfl
    refine⟨rfl,by show l-1<=_;omega,?_⟩
    show O+z+(l-1)*M<=aB ws k*M*m
    rw [Int.sub_mul,Int.one_mul];omega
 | skip k l r k' l' h3 h4 ih=>
   rintro⟨g1,g2,_,_,m,g3,g4,g5⟩;have g1:k<2:=g1;have g2:0<=l:=g2;refine ih hzL hzM ?_;rcases (show k=c\/k=d by omega) with rfl|rfl
   ·have e:(k+1) % ws.length=d:=by rw [hl];omega
    have hl0:l=0:=by
     rcases h3 with h3|h3
     ·exact(hw h3).elim
     ·omega
    subst hl0;obtain⟨_,_,a2,a3⟩:=g4 rfl;have a3:aB ws k*L*(m-1)+(aB ws k-0)*L<=Y+0:=a3;rw [Int.sub_zero] at a3;have a4:aB ws k*L*(m-1)=aB ws k*L*m-aB ws k*L:=by rw [Int.mul_sub,Int.mul_one]
    rw [e];have hwd:0<=aB ws d:=by rcases (show d=0\/d=1 by omega) with rfl|rfl <;> omega
    refine⟨hd2,hwd,Int.le_refl _,Int.le_refl _,m+1,by rw [Int.add_sub_cancel];omega,fun h=>absurd h.symm hcd,fun _=>⟨rfl,Int.le_refl _,?_⟩⟩
    show O+0+aB ws d*M<=aB ws d*M*(m+1)
    rw [Int.mul_add,Int.mul_one];omega
   ·have e:(k+1) % ws.length=c:=by rw [hl];omega
    obtain⟨_,_,a2⟩:=g5 rfl;have a2:O+0+l*M<=aB ws k*M*m:=a2;have:0<=l*M:=Int.mul_nonneg g2 hM0
    rw [e];have hwd:0<=aB ws c:=by rcases (show c=0\/c=1 by omega) with rfl|rfl <;> omega
    refine⟨hc2,hwd,Int.le_refl _,Int.le_refl _,m,g3,fun _=>⟨rfl,Int.le_refl _,by omega,?_⟩,fun h=>absurd h hcd⟩
    show aB ws c*L*(m-1)+(aB ws c-aB ws c)*L<=Y+0
    rw [Int.sub_self,Int.zero_mul];omega
theorem a2w(hv:aM ps)(hfl:∀x∈ps,x.fl<2)(hc:1<=cap)(hc2:c<2)(hd2:d<2)(hcd:c≠d)(hl:ws.length=2)(h0:1<=aB ws 0)(h1:1<=aB ws 1)(hL:1<=L)(hM0:0<=M)(hLs:∀x∈ps,x.fl=c->L<=x.sz)(hM:∀x∈ps,x.fl=d->x.sz<=M)
 {β:Nat->Int} (hβ:∀(n:Nat) (y:Int),0<=y->cap*n<=y+aB ws d*M*(y / (aB ws c*L)+1)->β n<=y)
 (h:aQ cap 2 ps ticks (kL ws ps) (0,aB ws 0) s):i8 β c ps (s.row c) s.t:=by
 have hwc:1<=aB ws c:=by rcases (show c=0\/c=1 by omega) with rfl|rfl <;> omega
 have hwd:1<=aB ws d:=by rcases (show d=0\/d=1 by omega) with rfl|rfl <;> omega
 have hr0:0<aB ws c*L:=Int.mul_pos (by omega) (by omega);have hq0:0<=aB ws d*M:=Int.mul_nonneg (by omega) hM0;refine rE hv hfl hc (mE hv) hc2 (hβ 0 0 (Int.le_refl _) (by simp;exact hq0)) h ?_;intro s0 t0 k m0 on0 e0 htk e ha hb hr hk;have hq:=aQ.busy2 hv hfl hc (mE hv) hc2 hd2 hcd (yN hv c) t0 (pR ws c d L M) ?_ ?_ ?_ ?_ m0 (by omega) ha hb
 ·obtain⟨g1,g2,g3,g4,m,g5,g6,g7⟩:=hq;have hf:=rO hv hfl hc (mE hv) hc2 (yN hv c) h t0 (k-t0) (by omega) (fun j a b=>by rw [hr c hc2 j (by omega)];exact hb j a (by omega));rw [lV hc2 hd2 hcd,lV hc2 hd2 hcd,show t0+(k-t0)=k by omega] at hf;rw [e,<- hr c hc2 k (Nat.le_refl _),<- hr c hc2 t0 (by omega),<- hr d hd2 k (Nat.le_refl _),<- hr d hd2 t0 (by omega)] at *;have hmono:s.row c t0<=s.row c k:=by
   have hi:=h.inv hv hfl hc (mE hv);have hstep:∀n,t0+n<=s.t->s.row c t0<=s.row c (t0+n):=fun n=>by
    induction n with
    | zero=>intro _;exact Int.le_refl _
    | succ n ih=>intro hn;exact Int.le_trans (ih (by omega)) (hi.mono c (t0+n) hc2 (by unfold RS.cur;omega))
   have:=hstep (k-t0) (by omega)
   rwa [show t0+(k-t0)=k by omega] at this
  have hO:s.row d k-s.row d t0<=aB ws d*M*m:=by
   rcases (show s0.sg.1=c\/s0.sg.1=d by omega) with e2|e2
   ·exact(g6 e2).2.2.1
   ·have:=(g7 e2).2.2
    have:=Int.mul_nonneg g2 hM0
    omega
  have hm:m-1<=(s.row c k-s.row c t0) / (aB ws c*L):=(Int.le_ediv_iff_mul_le hr0).2 (by rw [Int.mul_comm];exact g5);have hm2:aB ws d*M*m<=aB ws d*M*((s.row c k-s.row c t0) / (aB ws c*L)+1):=Int.mul_le_mul_of_nonneg_left (by omega) hq0;exact hβ (k-t0) _ (by omega) (by omega)
 ·intro s m hon h4;obtain⟨g1,g2,g3,g4,g5,g6,g7⟩:=a2v hv hfl hc hc2 hd2 hcd hl h0 h1 hM m;rcases (show s.sg.1=c\/s.sg.1=d by omega) with e2|e2
  ·have hb0:s.opn ps d=0:=by
    rcases Int.lt_or_le 0 (s.opn ps d) with g|g
    ·have:=(g5 g).1;omega
    ·omega
   refine⟨g1,g2,Int.le_refl _,by omega,0,by omega,fun _=>⟨hb0,by rw [e2] at g3;exact g3,by simp,?_⟩,fun h=>by omega⟩
   rw [e2] at g3;have:0<=s.sg.2*L:=Int.mul_nonneg g2 (by omega)
   rw [Int.sub_mul,show(0:Int)-1 = -1 from rfl,Int.mul_neg,Int.mul_one];omega
  ·refine⟨g1,g2,Int.le_refl _,by omega,1,by simp,fun h=>by omega,fun _=>⟨rfl,by rw [e2] at g3;exact g3,?_⟩⟩
   rw [Int.mul_one,Int.zero_add];rw [e2] at g3;rcases Int.lt_or_le 0 (s.opn ps d) with g|g
   ·obtain⟨_,k1,k2,_⟩:=g5 g;have:(s.sg.2+1)*M<=aB ws d*M:=Int.mul_le_mul_of_nonneg_right k1 hM0
    rw [Int.add_mul,Int.one_mul] at this;omega
   ·have:s.sg.2*M<=aB ws d*M:=Int.mul_le_mul_of_nonneg_right g3 hM0
    omega
 ·intro s sg i x Y O m hch hx hwt hq;have gx:=dF hv hx;have mx:=List.mem_of_getElem? hx;rcases hch with ⟨h,_⟩|hch
  ·omega
  ·have e:=nK hch.nx.1 rfl hx;rcases a2u (z:=x.sz) (Y:=Y) (O:=O) hc2 hd2 hcd hl h0 h1 hL hM0 (by omega) (o7 hwt) hch (fun e2=>hLs x mx (by omega)) (fun e2=>hM x mx (by omega)) hq with ⟨e2,k⟩|⟨e2,k⟩
   ·exact .inl ⟨by omega,k⟩
   ·exact .inr ⟨by omega,k⟩
 ·intro Y O a b n g hn hna ⟨g1,g2,g3,g4,m,g5,g6,g7⟩;exact⟨g1,g2,by omega,g4,m,by omega,fun e=>by obtain⟨k1,k2,k3,k4⟩:=g6 e;exact⟨k1,k2,k3,by omega⟩,fun e=>by obtain⟨k1,k2,k3⟩:=g7 e;exact⟨by omega,k2,k3⟩⟩
 ·intro Y O a b n g hn hna ⟨g1,g2,g3,g4,m,g5,g6,g7⟩;exact⟨g1,g2,g3,by omega,m,g5,fun e=>by obtain⟨k1,k2,k3,k4⟩:=g6 e;exact⟨by omega,k2,by omega,k4⟩,fun e=>by obtain⟨k1,k2,k3⟩:=g7 e;exact⟨k1,k2,by omega⟩⟩
end
def iA(qs ds:List Int)(v:Nat)(b:Bool):List Int:=if b then ds else ds.set v (aB ds v+aB qs v)
inductive fA (nx:Nat->Int->Prop) (sz:Int->Int) (qs:List Int):List Int->Nat->Bool->Int->List Int->Nat->Bool->Prop
 | take (ds:List Int) (v:Nat) (b:Bool) (r:Int):nx v r->0<=r->sz r<=aB (iA qs ds v b) v->fA nx sz qs ds v b r ((iA qs ds v b).set v (aB (iA qs ds v b) v-sz r)) v true
 | skip (ds:List Int) (v:Nat) (b:Bool) (k r:Int) (ds':List Int) (v':Nat) (b':Bool):nx v k->0<=k->aB (iA qs ds v b) v<sz k->fA nx sz qs (iA qs ds v b) ((v+1) % qs.length) false r ds' v' b'->fA nx sz qs ds v b r ds' v' b'
 | none (ds:List Int) (v:Nat) (b:Bool) (r:Int) (ds':List Int) (v':Nat) (b':Bool):nx v (-1)->fA nx sz qs (ds.set v 0) ((v+1) % qs.length) false r ds' v' b'->fA nx sz qs ds v b r ds' v' b'
def eL(ps:List PK)(r:Int):Int:=match ps[r.toNat]? with
 | some x=>x.sz
 | none=>0
theorem kU{ps:List PK}{i:Nat}{x:PK}(h:ps[i]?=some x):eL ps i=x.sz:=by
 unfold eL;rw [Int.toNat_natCast,h]
def kJ(qs:List Int)(ps:List PK):RS (List Int × Nat × Bool)->Int->List Int × Nat × Bool->Prop:=fun s r g=>
 (r = -1/\g=s.sg/\cX ps s.begun s.t = -1)\/fA (fun c r=>cA ps s.begun s.t c r) (eL ps) qs s.sg.1 s.sg.2.1 s.sg.2.2 r g.1 g.2.1 g.2.2
theorem fA.nx{nx:Nat->Int->Prop}{sz:Int->Int}{qs ds ds':List Int}{v v':Nat}{b b':Bool}{r:Int}(h:fA nx sz qs ds v b r ds' v' b'):nx v' r/\0<=r:=by
 induction h with
 | take ds v b r h1 h2 h3=>exact⟨h1,h2⟩
 | skip _ _ _ _ _ _ _ _ _ _ _ _ ih=>exact ih
 | none _ _ _ _ _ _ _ _ _ ih=>exact ih
theorem kQ{qs:List Int}{ps:List PK}(hv:aM ps):dY ps (kJ qs ps):=by
 intro s r sg hl h;rcases h with ⟨h,_⟩|h
 ·exact .inl h
 ·obtain⟨i,x,h1,h2,h3,h4,h5,h6⟩:=qX hv hl h.nx.1 h.nx.2;exact .inr ⟨i,x,h1,h2,h4,h5,h6⟩
theorem qF{qs:List Int}{ps:List PK}(hv:aM ps)(c:Int):jI c ps (kJ qs ps):=by
 intro s sg hl h i x hx _ ht;rcases h with ⟨_,_,h⟩|h
 ·exact wM hv hl h i x hx ht
 ·exact absurd h.nx.2 (by omega)
theorem kP{qs ds:List Int}{v:Nat}{b:Bool}:(iA qs ds v b).length=ds.length:=by
 unfold iA;split
 ·rfl
 ·rw [List.length_set]
theorem oL{qs ds:List Int}{v:Nat}{b:Bool}(hl:v<ds.length)(e:Nat):aB (iA qs ds v b) e=aB ds e+if e=v/\b=false then aB qs v else 0:=by
 unfold iA;cases b with
 | true=>simp
 | false=>
   simp only [Bool.false_eq_true,if_false,and_true];rw [eQ _ _ _ _ hl];by_cases h:e=v
   ·subst h;rw [if_pos rfl,if_pos rfl]
   ·rw [if_neg h,if_neg h];omega
section
variable{cap:Int}{ps:List PK}{ticks:Nat}{qs:List Int}{c d:Nat}{s:RS (List Int × Nat × Bool)}{L M:Int}
def mK(qs:List Int)(c d:Nat)(L M a b:Int)(g:List Int × Nat × Bool):Prop:=
 g.1.length=2/\g.2.1<2/\0<=a/\0<=b/\0<=aB g.1 c/\0<=aB g.1 d/\
  a+aB g.1 c<=L-1+(if g.2.1=c/\g.2.2=true then aB qs c else 0)/\b+aB g.1 d<=M-1+(if g.2.1=d/\g.2.2=true then aB qs d else 0)/\
  (0<a->g.2.1=c/\g.2.2=true/\b=0)/\(0<b->g.2.1=d/\g.2.2=true/\a=0)
theorem Q8{nx:Nat->Int->Prop}{sz:Int->Int}{ds ds':List Int}{v v':Nat}{b b':Bool}{r:Int}(hc2:c<2)(hd2:d<2)(hcd:c≠d)(hl:qs.length=2)(h0:1<=aB qs 0)(h1:1<=aB qs 1)
 (hzL:∀k,0<=k->nx c k->1<=sz k/\sz k<=L) (hzM:∀k,0<=k->nx d k->1<=sz k/\sz k<=M) (hL:1<=L) (hM:1<=M)
 (h:fA nx sz qs ds v b r ds' v' b'):mK qs c d L M 0 0 (ds,v,b)->(v'=c/\mK qs c d L M (sz r) 0 (ds',v',b'))\/(v'=d/\mK qs c d L M 0 (sz r) (ds',v',b')):=by
 have hq:1<=aB qs c/\1<=aB qs d:=by
  rcases (show(c=0/\d=1)\/(c=1/\d=0) by omega) with ⟨rfl,rfl⟩|⟨rfl,rfl⟩ <;> exact⟨by assumption,by assumption⟩
 unfold mK
 induction h with
 | take ds v b r k1 k2 k3=>
   rintro⟨g1,g2,_,_,g3,g4,g5,g6,_⟩;simp only at g1 g2 g3 g4 g5 g6
   have e:=fun e=>oL (qs:=qs) (ds:=ds) (v:=v) (b:=b) (by omega) e
   have e2:=fun j x=>eQ (iA qs ds v b) v j x (by rw [kP];omega)
   rcases (show(v=c/\v≠d)\/(v=d/\v≠c) by omega) with ⟨rfl,e3⟩|⟨rfl,e3⟩
   ·have:=hzL r k2 k1
    refine .inl ⟨rfl,by simp only [List.length_set,kP];exact g1,g2,?_⟩;cases b <;> simp only [e2,e,e3,Ne.symm e3,if_true,if_false,true_and,and_true,false_and,and_false,Bool.false_eq_true,Bool.true_eq_false,true_implies,false_implies,implies_true,Int.lt_irrefl] at g5 g6 k3 ⊢ <;> omega
   ·have:=hzM r k2 k1
    refine .inr ⟨rfl,by simp only [List.length_set,kP];exact g1,g2,?_⟩;cases b <;> simp only [e2,e,e3,Ne.symm e3,if_true,if_false,true_and,and_true,false_and,and_false,Bool.false_eq_true,Bool.true_eq_false,true_implies,false_implies,implies_true,Int.lt_irrefl] at g5 g6 k3 ⊢ <;> omega
 | skip ds v b k r ds' v' b' k1 k2 k3 k4 ih'=>
   have IH:=aA ih';clear ih';rintro⟨g1,g2,_,_,g3,g4,g5,g6,_⟩;simp only at g1 g2 g3 g4 g5 g6
   have e:=fun e=>oL (qs:=qs) (ds:=ds) (v:=v) (b:=b) (by omega) e
   refine IH.out ⟨by simp only [kP];exact g1,by show(v+1) % qs.length<2;rw [hl];omega,?_⟩;rcases (show(v=c/\v≠d)\/(v=d/\v≠c) by omega) with ⟨rfl,e3⟩|⟨rfl,e3⟩
   ·have:=hzL k k2 k1
    cases b <;> simp only [e,e3,Ne.symm e3,if_true,if_false,true_and,and_true,false_and,and_false,Bool.false_eq_true,Bool.true_eq_false,true_implies,false_implies,implies_true,Int.lt_irrefl] at g5 g6 k3 ⊢ <;> omega
   ·have:=hzM k k2 k1
    cases b <;> simp only [e,e3,Ne.symm e3,if_true,if_false,true_and,and_true,false_and,and_false,Bool.false_eq_true,Bool.true_eq_false,true_implies,false_implies,implies_true,Int.lt_irrefl] at g5 g6 k3 ⊢ <;> omega
 | none ds v b r ds' v' b' k1 k4 ih'=>
   have IH:=aA ih';clear ih';rintro⟨g1,g2,_,_,g3,g4,g5,g6,_⟩;simp only at g1 g2 g3 g4 g5 g6
   have e2:=fun j=>eQ ds v j 0 (by omega)
   refine IH.out ⟨by simp only [List.length_set];exact g1,by show(v+1) % qs.length<2;rw [hl];omega,?_⟩;rcases (show(v=c/\v≠d)\/(v=d/\v≠c) by omega) with ⟨rfl,e3⟩|⟨rfl,e3⟩
   ·simp only [e2,e3,Ne.symm e3,if_true,if_false,true_and,and_true,false_and,and_false,Bool.false_eq_true,Bool.true_eq_false,true_implies,false_implies,implies_true,Int.lt_irrefl] at g5 g6 ⊢;omega
   ·simp only [e2,e3,Ne.symm e3,if_true,if_false,true_and,and_true,false_and,and_false,Bool.false_eq_true,Bool.true_eq_false,true_implies,false_implies,implies_true,Int.lt_irrefl] at g5 g6 ⊢;omega
theorem o4{σ:Type}{ps:List PK}(hv:aM ps){s:RS σ}{e:Nat}{Z:Int}(hZ:∀x∈ps,x.fl=e->x.sz<=Z):∀k,0<=k->cA ps s.begun s.t e k->1<=eL ps k/\eL ps k<=Z:=by
 intro k hk h;rcases h with ⟨i,x,rfl,h1,_,_,h2,_⟩|⟨rfl,_⟩
 ·rw [kU h1];exact⟨(dF hv h1).1,hZ x (List.mem_of_getElem? h1) h2⟩
 ·omega
theorem Q6(hv:aM ps)(hfl:∀x∈ps,x.fl<2)(hc:1<=cap)(hc2:c<2)(hd2:d<2)(hcd:c≠d)(hl:qs.length=2)(h0:1<=aB qs 0)(h1:1<=aB qs 1)(hL:1<=L)(hM:1<=M)(hLs:∀x∈ps,x.fl=c->x.sz<=L)(hMs:∀x∈ps,x.fl=d->x.sz<=M)
 (h:aQ cap 2 ps ticks (kJ qs ps) ([0,0],0,false) s):mK qs c d L M (s.opn ps c) (s.opn ps d) s.sg:=by
 have hnn:∀e,e<2->aB ([0,0]:List Int) e=0:=fun e he=>by rcases (show e=0\/e=1 by omega) with rfl|rfl <;> rfl
 refine aQ.glob2 hv hfl hc (kQ hv) hc2 hd2 hcd (mK qs c d L M) ⟨rfl,by simp,Int.le_refl _,Int.le_refl _,?_⟩ ?_ ?_ ?_ ?_ h
 ·simp only [hnn c hc2,hnn d hd2,Bool.false_eq_true,and_false,if_false];omega
 ·intro s sg _ hch h;rcases hch with ⟨_,rfl,_⟩|hch
  ·exact h
  ·exact absurd hch.nx.2 (by omega)
 ·intro s sg i x _ hch hx h;rcases hch with ⟨h,_⟩|hch
  ·omega
  ·have e:=nK hch.nx.1 rfl hx;rcases Q8 hc2 hd2 hcd hl h0 h1 (o4 hv hLs) (o4 hv hMs) hL hM hch h with ⟨e2,k⟩|⟨e2,k⟩
   ·rw [kU hx] at k;exact .inl ⟨by omega,k⟩
   ·rw [kU hx] at k;exact .inr ⟨by omega,k⟩
 ·intro a b n g hn hna ⟨g1,g2,g3,g4,g5,g6,g7,g8,g9,g10⟩;exact⟨g1,g2,by omega,g4,g5,g6,by omega,g8,fun h=>g9 (by omega),fun h=>⟨(g10 h).1,(g10 h).2.1,by have:=(g10 h).2.2;omega⟩⟩
 ·intro a b n g hn hna ⟨g1,g2,g3,g4,g5,g6,g7,g8,g9,g10⟩;exact⟨g1,g2,g3,by omega,g5,g6,g7,by omega,fun h=>⟨(g9 h).1,(g9 h).2.1,by have:=(g9 h).2.2;omega⟩,fun h=>g10 (by omega)⟩
def nY(qs:List Int)(c d:Nat)(L M Y O a b:Int)(g:List Int × Nat × Bool):Prop:=
 g.1.length=2/\g.2.1<2/\0<=b/\0<=aB g.1 d/\∃m:Int,aB qs c*(m-1)-(L-1)<=Y/\O+b+aB g.1 d<=aB qs d*m+(M-1)/\
  (g.2.1=c->b=0/\aB g.1 d<=M-1/\aB qs c*(m-1)+(if g.2.2=true then aB qs c else 0)<=Y+a+aB g.1 c)/\
  (g.2.1=d->a=0/\aB g.1 c<=L-1/\aB qs c*(m-1)<=Y+aB g.1 c/\(g.2.2=false->O+b+aB g.1 d<=aB qs d*(m-1)+(M-1)))
theorem Q5{nx:Nat->Int->Prop}{sz:Int->Int}{ds ds':List Int}{v v':Nat}{b b':Bool}{r Y O:Int}(hc2:c<2)(hd2:d<2)(hcd:c≠d)(hl:qs.length=2)(h0:1<=aB qs 0)(h1:1<=aB qs 1)
 (hzL:∀k,0<=k->nx c k->1<=sz k/\sz k<=L) (hzM:∀k,0<=k->nx d k->1<=sz k/\sz k<=M) (hL:1<=L) (hM:1<=M) (hw:nx c (-1)->False)
 (h:fA nx sz qs ds v b r ds' v' b'):nY qs c d L M Y O 0 0 (ds,v,b)->(v'=c/\nY qs c d L M Y O (sz r) 0 (ds',v',b'))\/(v'=d/\nY qs c d L M Y O 0 (sz r) (ds',v',b')):=by
 have hq:1<=aB qs c/\1<=aB qs d:=by
  rcases (show(c=0/\d=1)\/(c=1/\d=0) by omega) with ⟨rfl,rfl⟩|⟨rfl,rfl⟩ <;> exact⟨by assumption,by assumption⟩
 have em:∀(q m:Int),q*(m-1)=q*m-q:=fun q m=>by rw [Int.mul_sub,Int.mul_one]
 have em2:∀(q m:Int),q*(m+1)=q*m+q:=fun q m=>by rw [Int.mul_add,Int.mul_one]
 unfold nY
 induction h with
 | take ds v b r k1 k2 k3=>
   rintro⟨g1,g2,_,g4,m,g5,g6,g7,g8⟩;simp only at g1 g2 g4 g5 g6 g7 g8
   have e:=fun e=>oL (qs:=qs) (ds:=ds) (v:=v) (b:=b) (by omega) e
   have e2:=fun j x=>eQ (iA qs ds v b) v j x (by rw [kP];omega)
   rcases (show(v=c/\v≠d)\/(v=d/\v≠c) by omega) with ⟨rfl,e3⟩|⟨rfl,e3⟩
   ·have:=hzL r k2 k1
    refine .inl ⟨rfl,by simp only [List.length_set,kP];exact g1,g2,Int.le_refl _,?_⟩;obtain⟨_,a1,a2⟩:=g7 rfl;cases b <;> simp only [e2,e,e3,Ne.symm e3,if_true,if_false,true_and,and_true,false_and,and_false,Bool.false_eq_true,Bool.true_eq_false,true_implies,false_implies,implies_true,Int.lt_irrefl] at a2 k3 ⊢ <;> exact⟨by omega,m,by omega⟩
   ·have:=hzM r k2 k1
    refine .inr ⟨rfl,by simp only [List.length_set,kP];exact g1,g2,by omega,?_⟩;obtain⟨_,a1,a2,a3⟩:=g8 rfl;cases b <;> simp only [e2,e,e3,Ne.symm e3,if_true,if_false,true_and,and_true,false_and,and_false,Bool.false_eq_true,Bool.true_eq_false,true_implies,false_implies,implies_true,Int.lt_irrefl,em] at a2 a3 g5 g6 k3 ⊢ <;> exact⟨by omega,m,by omega⟩
 | skip ds v b k r ds' v' b' k1 k2 k3 k4 ih'=>
   have IH:=aA ih';clear ih';rintro⟨g1,g2,_,g4,m,g5,g6,g7,g8⟩;simp only at g1 g2 g4 g5 g6 g7 g8
   have e:=fun e=>oL (qs:=qs) (ds:=ds) (v:=v) (b:=b) (by omega) e
   rcases (show(v=c/\v≠d)\/(v=d/\v≠c) by omega) with ⟨rfl,e3⟩|⟨rfl,e3⟩
   ·have:=hzL k k2 k1
    obtain⟨_,a1,a2⟩:=g7 rfl;have e4:(v+1) % qs.length=d:=by rw [hl];omega
    rw [e4] at IH;refine IH.out ⟨by simp only [kP];exact g1,hd2,Int.le_refl _,?_⟩;cases b <;> simp only [e,e3,Ne.symm e3,if_true,if_false,true_and,and_true,false_and,and_false,Bool.false_eq_true,Bool.true_eq_false,true_implies,false_implies,implies_true,Int.lt_irrefl,em] at a2 g5 g6 k3 ⊢ <;> exact⟨by omega,m+1,by rw [em2,em2];omega⟩
   ·have:=hzM k k2 k1
    obtain⟨_,a1,a2,a3⟩:=g8 rfl;have e4:(v+1) % qs.length=c:=by rw [hl];omega
    rw [e4] at IH;refine IH.out ⟨by simp only [kP];exact g1,hc2,Int.le_refl _,?_⟩;cases b <;> simp only [e,e3,Ne.symm e3,if_true,if_false,true_and,and_true,false_and,and_false,Bool.false_eq_true,Bool.true_eq_false,true_implies,false_implies,implies_true,Int.lt_irrefl,em] at a2 a3 g5 g6 k3 ⊢ <;> exact⟨by omega,m,by omega⟩
 | none ds v b r ds' v' b' k1 k4 ih'=>
   have IH:=aA ih';clear ih';rintro⟨g1,g2,_,g4,m,g5,g6,g7,g8⟩;simp only at g1 g2 g4 g5 g6 g7 g8
   have e2:=fun j=>eQ ds v j 0 (by omega)
   rcases (show(v=c/\v≠d)\/(v=d/\v≠c) by omega) with ⟨rfl,e3⟩|⟨rfl,e3⟩
   ·exact(hw k1).elim
   ·obtain⟨_,a1,a2,a3⟩:=g8 rfl;have e4:(v+1) % qs.length=c:=by rw [hl];omega
    rw [e4] at IH;refine IH.out ⟨by simp only [List.length_set];exact g1,hc2,Int.le_refl _,?_⟩;simp only [e2,e3,Ne.symm e3,if_true,if_false,true_and,and_true,false_and,and_false,Bool.false_eq_true,Bool.true_eq_false,true_implies,false_implies,implies_true,Int.lt_irrefl];exact⟨by omega,m,by simp only [em] at *;omega⟩
theorem nN(hv:aM ps)(hfl:∀x∈ps,x.fl<2)(hc:1<=cap){σ:Type}{Ch:RS σ->Int->σ->Prop}{sg0:σ}{s:RS σ}(hg:dY ps Ch)(hc2:c<2)(h:aQ cap 2 ps ticks Ch sg0 s){t0 k:Nat}(h1:t0<=k)(h2:k<=s.t):s.row c t0<=s.row c k:=by
 have hi:=h.inv hv hfl hc hg;have hstep:∀n,t0+n<=s.t->s.row c t0<=s.row c (t0+n):=fun n=>by
  induction n with
  | zero=>intro _;exact Int.le_refl _
  | succ n ih=>intro hn;exact Int.le_trans (ih (by omega)) (hi.mono c (t0+n) hc2 (by unfold RS.cur;omega))
 have:=hstep (k-t0) (by omega)
 rwa [show t0+(k-t0)=k by omega] at this
theorem Q7(hv:aM ps)(hfl:∀x∈ps,x.fl<2)(hc:1<=cap)(hc2:c<2)(hd2:d<2)(hcd:c≠d)(hl:qs.length=2)(h0:1<=aB qs 0)(h1:1<=aB qs 1)(hL:1<=L)(hM:1<=M)(hLs:∀x∈ps,x.fl=c->x.sz<=L)(hMs:∀x∈ps,x.fl=d->x.sz<=M)
 {β:Nat->Int} (hβ:∀(n:Nat) (y:Int),0<=y->cap*n<=y+aB qs d*((y+L-1) / aB qs c+1)+(M-1)->β n<=y)
 (h:aQ cap 2 ps ticks (kJ qs ps) ([0,0],0,false) s):i8 β c ps (s.row c) s.t:=by
 have hq:1<=aB qs c/\1<=aB qs d:=by
  rcases (show(c=0/\d=1)\/(c=1/\d=0) by omega) with ⟨rfl,rfl⟩|⟨rfl,rfl⟩ <;> exact⟨by assumption,by assumption⟩
 have hz:β 0<=0:=hβ 0 0 (Int.le_refl _) (by
  have:=Int.ediv_nonneg (show 0<=0+L-1 by omega) (show 0<=aB qs c by omega)
  have:=Int.mul_nonneg (show 0<=aB qs d by omega) (show 0<=(0+L-1) / aB qs c+1 by omega)
  simp only [Int.natCast_zero,Int.mul_zero];omega)
 refine rE hv hfl hc (kQ hv) hc2 hz h ?_;intro s0 t0 k m0 on0 e0 htk e ha hb hr hk;have hqq:=aQ.busy2 hv hfl hc (kQ hv) hc2 hd2 hcd (qF hv c) t0 (nY qs c d L M) ?_ ?_ ?_ ?_ m0 (by omega) ha hb
 ·obtain⟨g1,g2,g3,g4,m,g5,g6,_⟩:=hqq;have hf:=rO hv hfl hc (kQ hv) hc2 (qF hv c) h t0 (k-t0) (by omega) (fun j a b=>by rw [hr c hc2 j (by omega)];exact hb j a (by omega));rw [lV hc2 hd2 hcd,lV hc2 hd2 hcd,show t0+(k-t0)=k by omega] at hf;rw [e,<- hr c hc2 k (Nat.le_refl _),<- hr c hc2 t0 (by omega)] at g5;rw [e,<- hr d hd2 k (Nat.le_refl _),<- hr d hd2 t0 (by omega)] at g6;have hmono:=nN hv hfl hc (kQ hv) hc2 h (show t0<=k by omega) hk;have hm:m-1<=(s.row c k-s.row c t0+L-1) / aB qs c:=(Int.le_ediv_iff_mul_le (by omega)).2 (by rw [Int.mul_comm];omega);have hm2:aB qs d*m<=aB qs d*((s.row c k-s.row c t0+L-1) / aB qs c+1):=Int.mul_le_mul_of_nonneg_left (by omega) (by omega);exact hβ (k-t0) _ (by omega) (by omega)
 ·intro s m hon h4;obtain⟨g1,g2,g3,g4,g5,g6,g7,g8,g9,g10⟩:=Q6 hv hfl hc hc2 hd2 hcd hl h0 h1 hL hM hLs hMs m;rw [h4] at g7;rcases (show(s.sg.2.1=c/\s.sg.2.1≠d)\/(s.sg.2.1=d/\s.sg.2.1≠c) by omega) with ⟨e2,e3⟩|⟨e2,e3⟩
  ·have hb0:s.opn ps d=0:=by
    rcases Int.lt_or_le 0 (s.opn ps d) with g|g
    ·exact absurd (g10 g).1 e3
    ·omega
   rw [hb0] at g8 ⊢;rw [if_neg (fun h=>e3 h.1)] at g8;refine⟨g1,g2,Int.le_refl _,g6,0,by omega,by omega,fun _=>⟨rfl,by omega,?_⟩,fun h=>absurd h e3⟩
   split <;> omega
  ·rw [if_neg (fun h=>e3 h.1)] at g7;refine⟨g1,g2,g4,g6,1,by simp;omega,?_,fun h=>absurd h e3,fun _=>⟨rfl,by omega,by simp;omega,fun h=>?_⟩⟩
   ·split at g8 <;> omega
   ·rw [if_neg (fun g=>by rw [h] at g;cases g.2)] at g8;simp;omega
 ·intro s sg i x Y O m hch hx hwt hq;rcases hch with ⟨h,_⟩|hch
  ·omega
  ·have e:=nK hch.nx.1 rfl hx;rcases Q5 hc2 hd2 hcd hl h0 h1 (o4 hv hLs) (o4 hv hMs) hL hM (o7 hwt) hch hq with ⟨e2,k⟩|⟨e2,k⟩
   ·rw [kU hx] at k;exact .inl ⟨by omega,k⟩
   ·rw [kU hx] at k;exact .inr ⟨by omega,k⟩
 ·intro Y O a b n g hn hna ⟨g1,g2,g3,g4,m,g5,g6,g7,g8⟩;exact⟨g1,g2,g3,g4,m,by omega,g6,fun e=>by obtain⟨k1,k2,k3⟩:=g7 e;exact⟨k1,k2,by omega⟩,fun e=>by obtain⟨k1,k2,k3,k4⟩:=g8 e;exact⟨by omega,k2,by omega,k4⟩⟩
 ·intro Y O a b n g hn hna ⟨g1,g2,g3,g4,m,g5,g6,g7,g8⟩;exact⟨g1,g2,by omega,g4,m,g5,by omega,fun e=>by obtain⟨k1,k2,k3⟩:=g7 e;exact⟨by omega,k2,k3⟩,fun e=>by obtain⟨k1,k2,k3,k4⟩:=g8 e;exact⟨k1,k2,k3,fun h=>by have:=k4 h;omega⟩⟩
end
theorem eI.ne{w:World}{g b:Nat}{bs:List Bool}{t:TypeId}{cs:Array Value}(h:eI w g bs)(k:aC w b t cs)(ht:t≠4):g≠b:=by
 rintro rfl;unfold eI at h;unfold aC at k;rw [h] at k
 injection k with k
 injection k with _ k
 exact ht k.symm
theorem SE.bgne{w:World}{gs n c bef b:Nat}{t left:Int}{A Bg:Option Addr}{ps:List PK}{bs:List Bool}{ty:TypeId}{cs:Array Value}(h:SE w gs t left A n c ps Bg bs bef)(k:aC w b ty cs)(ht:ty≠4):∀g,0<n->Bg=some ⟨g,0,none⟩->¬g=b:=by
 intro g h0 e;obtain⟨gb,e2,hB,_⟩:=h.bg h0;rw [e] at e2;cases e2
 exact hB.ne k ht
structure i7(w:World)(bC bL bW gW cl:Nat)(l:Int)(ws:List Int):Prop where
 bc:aC w bC 3 #[.int .i64 cl]
 bl:aC w bL 3 #[.int .i64 l]
 bw:aC w bW 22 #[.slice (some ⟨gW,0,none⟩) 2 2]
 bg:aN w gW ws
 ln:ws.length=2
 w1:∀k,k<2->1<=aB ws k/\aB ws k<=20
 cl2:cl<2
 l0:0<=l/\l<=20
 ne:bC≠bL/\bC≠bW/\bC≠gW/\bL≠bW/\bL≠gW
section
variable{w w':World}{bC bL bW gW cl:Nat}{l:Int}{ws:List Int}{X:Nat->Prop}
theorem i7.kx(h:i7 w bC bL bW gW cl l ws)(k:KX X w w')(h1:¬X bC)(h2:¬X bL)(h3:¬X bW)(h4:¬X gW):i7 w' bC bL bW gW cl l ws:=
 ⟨h.bc.kx k h1,h.bl.kx k h2,h.bw.kx k h3,h.bg.kx k h4,h.ln,h.w1,h.cl2,h.l0,h.ne⟩
theorem i7.setC(h:i7 w bC bL bW gW cl l ws)(d:Nat)(hd:d<2):i7 (w.setCell ⟨bC,0,none⟩ (.int .i64 d)) bC bL bW gW d l ws:=
 ⟨by simpa using h.bc.set_ 0 (.int .i64 d),h.bl.far (p:=⟨bC,0,none⟩) (fun e=>h.ne.1 e.symm) _,h.bw.far (p:=⟨bC,0,none⟩) (fun e=>h.ne.2.1 e.symm) _,h.bg.far (p:=⟨bC,0,none⟩) (fun e=>h.ne.2.2.1 e.symm) _,h.ln,h.w1,hd,h.l0,h.ne⟩
theorem i7.setL(h:i7 w bC bL bW gW cl l ws)(m:Int)(h0:0<=m)(h1:m<=20):i7 (w.setCell ⟨bL,0,none⟩ (.int .i64 m)) bC bL bW gW cl m ws:=
 ⟨h.bc.far (p:=⟨bL,0,none⟩) h.ne.1 _,by simpa using h.bl.set_ 0 (.int .i64 m),h.bw.far (p:=⟨bL,0,none⟩) (fun e=>h.ne.2.2.2.1 e.symm) _,h.bg.far (p:=⟨bL,0,none⟩) (fun e=>h.ne.2.2.2.2 e.symm) _,h.ln,h.w1,h.cl2,⟨h0,h1⟩,h.ne⟩
end
theorem wN{ps:List PK}{bs:List Bool}{t:Int}(hl:bs.length=ps.length)(h:¬cX ps bs t = -1):0<=cX ps bs t/\∃(i:Nat) (x:PK),ps[i]?=some x/\bs[i]?=some false/\x.tm<=t:=by
 unfold cX at h ⊢;cases hx:ps[dJ bs]? with
 | none=>rw [hx] at h;exact absurd rfl h
 | some x=>
   rw [hx] at h;simp only at h ⊢
   by_cases ht:x.tm<=t
   ·rw [if_pos ht];have:=(List.getElem?_eq_some_iff.1 hx).1
    exact⟨by omega,_,x,hx,qH _ (by omega),ht⟩
   ·rw [if_neg ht] at h;exact absurd rfl h
theorem a2z(gs n c bef bC bL bW gW cl:Nat)(t left l:Int)(A Bg:Option Addr)(ps:List PK)(bs:List Bool)(ws:List Int)(w:World)(h:SE w gs t left A n c ps Bg bs bef)(hv:aM ps)(hfl:∀x∈ps,x.fl<2)(hm:i7 w bC bL bW gW cl l ws)(hne:gs≠bC/\gs≠bL/\gs≠bW/\gs≠gW)(hA:∀g o,0<n->A=some ⟨g,o,none⟩->g≠bC/\g≠bL) :
 Calls Tryz.prog 204 (#[.pointer (some ⟨gs,0,none⟩)] ++ #[.pointer (some ⟨bC,0,none⟩),.pointer (some ⟨bL,0,none⟩),.pointer (some ⟨bW,0,none⟩)]) w fun e w'=>∃(r:Int) (cl':Nat) (l':Int),((r = -1/\cl'=cl/\l'=l/\cX ps bs t = -1)\/iP (fun c r=>cA ps bs t c r) ws cl l r cl' l')/\e = .returned (.int .i64 r)/\(∃b2,SE w' gs t left A n c ps Bg bs b2)/\i7 w' bC bL bW gW cl' l' ws/\KX (fun k=>k=gs\/k=bC\/k=bL) w w':=by
 show Calls _ _ #[.pointer (some ⟨gs,0,none⟩),.pointer (some ⟨bC,0,none⟩),.pointer (some ⟨bL,0,none⟩),.pointer (some ⟨bW,0,none⟩)] _ _
 obtain⟨n1,n2,n3,n4⟩:=hne;have HN:n<=60:=by have:=hv.len;have:=h.tr.1;omega
 have E:=aA h;have HV:=aA hv;have HF:=aA hfl;have RM:=aA hm;have HA0:=aA hA;have HC:=aA (qI gs n c bef t left A Bg ps bs w h hv);clear h hv hfl hm hA;go_enter Tryz.func204,Tryz.ntmps204
 go_wp2_with fail
 refine HC.out.mono ?_;rintro e w1 ⟨rfl,he,hk⟩;clear HC E;have E0:=aA (show ∃b2,SE w1 gs t left A n c ps Bg bs b2 from⟨_,he⟩);have R0:=aA (RM.out.kx hk (fun e=>n1 e.symm) (fun e=>n2 e.symm) (fun e=>n3 e.symm) (fun e=>n4 e.symm));have K0:=aA (show KX (fun k=>k=gs\/k=bC\/k=bL) w w1 from hk.mono (fun _ _ h=>.inl h));clear RM hk;by_cases hf:cX ps bs t = -1
 case pos=>
  have HF1:=aA hf;rw [hf];clear hf he;go_wp2_with fail
  go_ret
  exact⟨-1,cl,l,.inl ⟨rfl,rfl,rfl,HF1.out⟩,rfl,E0.out,R0.out,K0.out⟩
 case neg=>
 obtain⟨hf0,i,x,h1,h2,h3⟩:=wN (by rw [he.bl,he.tr.1]) hf;have hF:x.fl.toNat<2:=by have:=HF.out x (List.mem_of_getElem? h1);omega
 obtain⟨F,hFe⟩:∃F,F=x.fl.toNat:=⟨_,rfl⟩
 rw [<- hFe] at hF;have HW:=aA (show ∀r,cA ps bs t F r->r≠-1 from fun r hr e=>by
  have gx:=(dF HV.out h1).2;rcases hr with ⟨j,_,e2,_⟩|⟨_,hr⟩
  ·omega
  ·exact hr i x h1 h2 h3 (by omega))
 clear h1 h2 h3 hFe he hf;generalize cX ps bs t=f0 at *;go_wp2_with fail
 go_loopg [] 2 (fun gg wr=>∃(k:Nat) (m:Int),(if k=F then (if 0<m then 0 else 2) else 1)<=gg/\Hid (∃b2,SE wr gs t left A n c ps Bg bs b2)/\Hid (i7 wr bC bL bW gW k m ws)/\Hid (KX (fun k=>k=gs\/k=bC\/k=bL) w wr)/\Hid (∀r c' l',iP (fun c r=>cA ps bs t c r) ws k m r c' l'->iP (fun c r=>cA ps bs t c r) ws cl l r c' l'))
 case atStart=>exact⟨cl,l,by split <;> (try split) <;> omega,E0,R0,K0,aA (fun r c' l' h=>h)⟩
 case round=>
  clear E0 R0 K0;obtain⟨k,m,hg,E,RM,K,HS⟩:=hrel;obtain⟨b2,he⟩:=E.out;have HC:=aA (qU gs n c b2 t left k A Bg ps bs wr he HV.out);clear he E;obtain⟨⟨c0,hlc⟩,⟨l0,hll⟩,⟨q0,hlq⟩⟩:(_/\_)/\(_/\_)/\(_/\_):=⟨⟨RM.out.bc.cell 0,RM.out.bc.lt⟩,⟨RM.out.bl.cell 0,RM.out.bl.lt⟩,⟨RM.out.bw.cell 0,RM.out.bw.lt⟩⟩
  simp at c0 l0 q0;have zc:=RM.out.bc.frozen 0;have zl:=RM.out.bl.frozen 0;go_wp2_with fail
  refine HC.out.mono ?_;rintro e w3 ⟨r,hr,rfl,he,hk3⟩;have E:=aA (show ∃b2,SE w3 gs t left A n c ps Bg bs b2 from⟨_,he⟩);replace RM:=aA (RM.out.kx hk3 (fun e=>n1 e.symm) (fun e=>n2 e.symm) (fun e=>n3 e.symm) (fun e=>n4 e.symm));replace K:=aA (K.out.trans (show KX (fun k=>k=gs\/k=bC\/k=bL) wr w3 from hk3.mono (fun _ _ h=>.inl h)));have HR:=aA hr;clear HC hk3 he;clear c0 hlc l0 hll q0 hlq zc zl;obtain⟨⟨c0,hlc⟩,⟨l0,hll⟩,⟨q0,hlq⟩⟩:(_/\_)/\(_/\_)/\(_/\_):=⟨⟨RM.out.bc.cell 0,RM.out.bc.lt⟩,⟨RM.out.bl.cell 0,RM.out.bl.lt⟩,⟨RM.out.bw.cell 0,RM.out.bw.lt⟩⟩
  simp at c0 l0 q0;have zc:=RM.out.bc.frozen 0;have zl:=RM.out.bl.frozen 0;by_cases hgo:0<=r/\0<m
  case pos=>
   obtain⟨hr0,hm0⟩:=hgo;have hm1:=RM.out.l0;have HA:=aA (HS.out r k (m-1) (.take k m r HR.out hr0 hm0));have RM2:=aA (RM.out.setL (m-1) (by omega) (by omega));have K2:=aA (K.out.set_ (p:=⟨bL,0,none⟩) (.inr (.inr rfl)) (.int .i64 (m-1)));have E2:=aA (show ∃b2,SE (w3.setCell ⟨bL,0,none⟩ (.int .i64 (m-1))) gs t left A n c ps Bg bs b2 from by
    obtain⟨b3,h⟩:=E.out;exact⟨b3,h.kx ((KX.refl (fun k=>k=bL) w3).set_ (p:=⟨bL,0,none⟩) rfl _) n2 (fun g o h0 e=>(HA0.out g o h0 e).2) (h.bgne RM.out.bl (by decide))⟩)
   clear RM K E HR hr;have em:IntKind.i64.wrap (m-1)=m-1:=IntWalk.i64_in _ (by omega);go_wp2_with fail
   go_ret
   exact⟨r,k,m-1,.inr HA.out,rfl,E2.out,RM2.out,K2.out⟩
  case neg=>
   have hd:(r = -1\/m<=0)/\-1<=r:=by
    rcases HR.out with ⟨j,_,rfl,_⟩|⟨rfl,_⟩ <;> omega
   obtain⟨k2,hk2⟩:∃k2:Nat,k2=(k+1) % 2:=⟨_,rfl⟩
   have hkl:=RM.out.cl2;have hk22:k2<2:=by omega
   have hw2:=RM.out.w1 k2 hk22;obtain⟨v,hv⟩:∃v,v=aB ws k2:=⟨_,rfl⟩
   have HV2:=aA hv;rw [<- hv] at hw2;have HS2:=aA (show ∀r c' l',iP (fun c r=>cA ps bs t c r) ws k2 v r c' l'->iP (fun c r=>cA ps bs t c r) ws cl l r c' l' from fun r' c' l' h=>HS.out r' c' l' (.skip k m r' c' l' (hd.1.imp (fun e=>by rw [<- e];exact HR.out) id) (by rw [RM.out.ln,<- hk2,<- HV2.out];exact h)));have HG:=aA (show(if k2=F then (if 0<v then 0 else 2) else 1)<gk by
    have:=HW.out r
    by_cases e:k=F
    ·rw [if_pos e] at hg;rw [if_neg (by omega)];subst e;have:=this HR.out
     rw [if_neg (by omega)] at hg;omega
    ·rw [if_neg e] at hg;rw [if_pos (by omega),if_pos (by omega)];omega)
   have RM2:=aA (RM.out.setC k2 hk22);have K2:=aA (K.out.set_ (p:=⟨bC,0,none⟩) (.inr (.inl rfl)) (.int .i64 k2));have E2:=aA (show ∃b2,SE (w3.setCell ⟨bC,0,none⟩ (.int .i64 k2)) gs t left A n c ps Bg bs b2 from by
    obtain⟨b3,h⟩:=E.out;exact⟨b3,h.kx ((KX.refl (fun k=>k=bC) w3).set_ (p:=⟨bC,0,none⟩) rfl _) n1 (fun g o h0 e=>(HA0.out g o h0 e).1) (h.bgne RM.out.bc (by decide))⟩)
   have ek:((k:Int)+1).tmod 2=(k2:Int):=by rw [Int.tmod_eq_emod_of_nonneg (by omega)];omega
   obtain⟨hne1,hne2,hne3,hne4,hne5⟩:=RM.out.ne;have hlg:=RM.out.bg.lt;clear RM K E HR hr HS hk2 hv hg;have hv2:=(RM2.out.bg.cell k2 (by rw [RM2.out.ln];exact hk22))
   rw [<- HV2.out,fD hne3] at hv2;have hk2i:(k2:Int)<2:=by omega
   have RM3:=aA (RM2.out.setL v (by omega) (by omega));have K3:=aA (K2.out.set_ (p:=⟨bL,0,none⟩) (.inr (.inr rfl)) (.int .i64 v));have E3:=aA (show ∃b2,SE ((w3.setCell ⟨bC,0,none⟩ (.int .i64 (k2:Int))).setCell ⟨bL,0,none⟩ (.int .i64 v)) gs t left A n c ps Bg bs b2 from by
    obtain⟨b3,h⟩:=E2.out;exact⟨b3,h.kx ((KX.refl (fun k=>k=bL) _).set_ (p:=⟨bL,0,none⟩) rfl _) n2 (fun g o h0 e=>(HA0.out g o h0 e).2) (h.bgne RM2.out.bl (by decide))⟩)
   clear RM2 K2 E2 HV2;go_wp2_with fail
   all_goals
    go_roundg (if k2=F then (if 0<v then 0 else 2) else 1)
    case measure=>exact HG.out
    case rel=>exact⟨k2,v,Nat.le_refl _,E3,RM3,K3,HS2⟩
theorem yO(A:Option Addr)(n c:Nat)(ws:List Int)(w:World)(h:aE w w.heap.size A n ws)(hn:n<=6)(hw:∀k,k<n->1<=aB ws k/\aB ws k<=20) :
 Calls Tryz.prog 203 #[.slice A n c] w fun e w'=>e = .returned (.bool true)/\Below w.heap.size w w':=by
 have HI:=aA h;have HW:=aA hw;clear h hw;go_enter Tryz.func203,Tryz.ntmps203
 go_wp2_with fail
 go_loopg [7] n (fun gg s7 wr=>∃k:Nat,k+gg=n/\s7 = .int .i64 k/\Hid (Below w.heap.size w wr))
 case atStart=>exact⟨0,by omega,rfl,aA (Below.refl _ _)⟩
 case round=>
  obtain⟨k,hkg,rfl,BW⟩:=hrel;by_cases hk:k<n
  case pos=>
   have hki:(k:Int)<n:=by omega
   obtain⟨b,o,hA,hb,hc⟩:=HI.out.2 (by omega);subst hA;have hb2:b<wr.heap.size:=by have:=BW.out.size;omega
   have hcc:=(BW.out.cell (p:=⟨b,o+k,none⟩) hb).trans (hc k hk);obtain⟨h1,h2⟩:=HW.out k hk;generalize aB ws k=v at *;have d1:decide (v<1)=false:=decide_eq_false (by omega);have d2:decide (20<v)=false:=decide_eq_false (by omega);clear hc;go_wp2_with fail
   go_roundg (gk-1)
   case measure=>omega
   case rel=>exact⟨k+1,by omega,by go_num,BW⟩
  case neg=>
   have hki:¬(k:Int)<n:=by omega
   go_wp2_with fail
   go_ret
   exact⟨rfl,BW.out⟩
theorem jH(w:World)(x y:Value):aC ((w.alloc (.cells #[x] 3)).alloc (.cells #[y] 3)).drew w.heap.size 3 #[x]/\aC ((w.alloc (.cells #[x] 3)).alloc (.cells #[y] 3)).drew (w.heap.size+1) 3 #[y]/\Below w.heap.size w ((w.alloc (.cells #[x] 3)).alloc (.cells #[y] 3)).drew:=by
 refine⟨aC.drew ((aC.new w 3 #[x]).alloc _),aC.drew ?_,Below.drew (aD (aF w _) (aF _ _))⟩
 have:=aC.new (w.alloc (.cells #[x] 3)) 3 #[y]
 rwa [World.size_alloc] at this
theorem a21(cap:Int)(gW:Nat)(ws:List Int)(A:Option Addr)(n c:Nat)(ps:List PK)(ticks:Nat)(w:World)(hT:bN w A n c ps)(hv:aM ps)(hfl:∀x∈ps,x.fl<(2:Nat))(hc1:1<=cap)(hc2:cap<=4000)(ht:ticks<=2000)(hG:aN w gW ws)(hlw:ws.length=2)(hw:∀k,k<2->1<=aB ws k/\aB ws k<=20)(hA:∀g o,0<n->A=some ⟨g,o,none⟩->g<w.heap.size) :
 Calls Tryz.prog 194 #[.int .i64 cap,.slice (some ⟨gW,0,none⟩) 2 2,.slice A n c,.int .i64 ticks] w (dU n 2 ticks (dN cap 2 ps ticks (kL ws ps) (0,aB ws 0)) w):=by
 have hn:n<=60:=by have:=hv.len;have:=hT.1;omega
 have CB:=aA ((aC.new w 22 #[.slice (some ⟨gW,0,none⟩) 2 2]).alloc (.cells #[.slice none 0 0,.slice none 0 0] 62));have rb:=aC.new (w.alloc (.cells #[.slice (some ⟨gW,0,none⟩) 2 2] 22)) 62 #[.slice none 0 0,.slice none 0 0];simp only [World.size_alloc] at rb;have RB:=aA rb;have BW:=aA (aD (aF w (.cells #[.slice (some ⟨gW,0,none⟩) 2 2] 22)) (aF _ (.cells #[.slice none 0 0,.slice none 0 0] 62)));have HS:=aA (show w.heap.size+2=((w.alloc (.cells #[.slice (some ⟨gW,0,none⟩) 2 2] 22)).alloc (.cells #[.slice none 0 0,.slice none 0 0] 62)).heap.size by simp [World.size_alloc]);have HT:=aA (hT.below BW.out);have HV:=aA hv;have HF:=aA hfl;have HG:=aA (hG.below BW.out hG.lt);have HLW:=aA hlw;have HW:=aA hw;have HA:=aA hA;have hgw:=hG.lt;clear hT hv hfl rb hG hlw hw hA;go_enter Tryz.func194,Tryz.ntmps194
 go_upto_region 1 with fail
 generalize hwe:(w.alloc (.cells #[.slice (some ⟨gW,0,none⟩) 2 2] 22)).alloc (.cells #[.slice none 0 0,.slice none 0 0] 62)=w1 at *;clear hwe;go_wp2_with fail
 refine(kV A n c ps w1 HT.out HV.out).mono ?_;rintro e w2 ⟨rfl,hb⟩;replace HT:=aA (HT.out.below hb);replace CB:=aA (CB.out.below hb CB.out.lt);replace RB:=aA (RB.out.below hb RB.out.lt);replace HG:=aA (HG.out.below hb HG.out.lt);replace BW:=aA (aD BW.out hb);replace HS:=aA (show w.heap.size+2<=w2.heap.size by have:=hb.size;have:=HS.out;omega);clear hb;have cc:=CB.out.cell 0;simp at cc;have hlc:=CB.out.lt;go_wp2_with fail
 refine(oU A n c cap 2 ticks ps w2 HT.out hc1 hc2 (by omega) (by omega) (by omega) (by omega) HF.out hn).mono ?_;rintro e w3 ⟨rfl,hb⟩;replace HT:=aA (HT.out.below hb);replace CB:=aA (CB.out.below hb CB.out.lt);replace RB:=aA (RB.out.below hb RB.out.lt);replace HG:=aA (HG.out.below hb HG.out.lt);replace BW:=aA (aD BW.out hb);replace HS:=aA (show w.heap.size+2<=w3.heap.size by have:=hb.size;have:=HS.out;omega);clear hb cc hlc;have cc:=CB.out.cell 0;simp at cc;have hlc:=CB.out.lt;go_wp2_with fail
 refine(yO (some ⟨gW,0,none⟩) 2 2 ws w3 (by have:=HG.out.ints;rwa [HLW.out] at this) (by omega) HW.out).mono ?_;rintro e w4 ⟨rfl,hb⟩;replace HT:=aA (HT.out.below hb);replace CB:=aA (CB.out.below hb CB.out.lt);replace RB:=aA (RB.out.below hb RB.out.lt);replace HG:=aA (HG.out.below hb HG.out.lt);replace BW:=aA (aD BW.out hb);replace HS:=aA (show w.heap.size+2<=w4.heap.size by have:=hb.size;have:=HS.out;omega);clear hb cc hlc;have cc:=CB.out.cell 0;simp at cc;have hlc:=CB.out.lt;go_upto_region 9 with fail
 have hq:=HG.out.cell 0 (by rw [HLW.out];omega);have hlg:=HG.out.lt;have h12:=HW.out 0 (by omega);obtain⟨l,hl⟩:∃l,l=aB ws 0:=⟨_,rfl⟩
 rw [<- hl] at hq h12;have HL:=aA hl;clear hl;go_cut [12,13] (fun s12 s13 wx=>∃bC bL:Nat,s12 = .pointer (some ⟨bC,0,none⟩)/\s13 = .pointer (some ⟨bL,0,none⟩)/\Hid (aC wx bC 3 #[.int .i64 (0:Nat)])/\Hid (aC wx bL 3 #[.int .i64 l])/\bC≠bL/\w4.heap.size<=bC/\w4.heap.size<=bL/\Hid (Below w4.heap.size w4 wx))
 case first=>
  go_region
  ·go_wp2_with fail
   go_meet
   exact⟨_,_,rfl,rfl,aA (jH w4 _ _).1,aA (jH w4 _ _).2.1,by omega,by omega,by omega,aA (jH w4 _ _).2.2⟩
  ·go_wp2_with fail
   go_meet
   exact⟨_,_,rfl,rfl,aA (jH w4 _ _).2.1,aA (jH w4 _ _).1,by omega,by omega,by omega,aA (jH w4 _ _).2.2⟩
 case rest=>
  obtain⟨bC,bL,rfl,rfl,KC,KL,hne,hbc,hbl,KB⟩:=hcut;clear hq hlg cc hlc;have hs4:=HS.out;replace HT:=aA (HT.out.below KB.out);replace CB:=aA (CB.out.below KB.out CB.out.lt);replace RB:=aA (RB.out.below KB.out RB.out.lt);replace HG:=aA (HG.out.below KB.out HG.out.lt);replace BW:=aA (aD BW.out KB.out);have cc:=CB.out.cell 0;simp at cc;have hlc:=CB.out.lt;have HS4:=aA (show w.heap.size+2<=wc.heap.size by have:=KB.out.size;omega);have hlC:=KC.out.lt;have hlL:=KL.out.lt;clear KB;go_wp2_with fail
  refine(oV cap 2 A n c ps ticks 204 #[] #[.pointer (some ⟨bC,0,none⟩),.pointer (some ⟨bL,0,none⟩),.pointer (some ⟨w.heap.size,0,none⟩)] (kL ws ps) (0,aB ws 0) (fun g w'=>aC w' bC 3 #[.int .i64 g.1]/\aC w' bL 3 #[.int .i64 g.2]/\g.1<2/\0<=g.2/\g.2<=20) (fun k=>k=bC\/k=bL) wc HT.out HV.out HF.out hc1 hc2 (by omega) (by omega) ht
   (aA (fun _ w w' X h k hx=>⟨h.1.kx k (hx _ (.inl rfl)),h.2.1.kx k (hx _ (.inr rfl)),h.2.2⟩)) (aA (fun k hk=>by rcases hk with rfl|rfl <;> assumption)) (aA (fun g o h0 e h=>by have:=HA.out g o h0 e;omega)) (aA ⟨KC.out,by rw [<- HL.out];exact KL.out,by show 0<2;omega,by show 0<=aB ws 0;rw [<- HL.out];omega,by show aB ws 0<=20;rw [<- HL.out];omega⟩)
   (aA (fun gs bef Bg s w1 hm hon hnw hlf hse hhr hkx hgs=>(a2z gs n c bef bC bL w.heap.size gW s.sg.1 s.t s.left s.sg.2 A Bg ps s.begun ws w1 hse HV.out HF.out ⟨hhr.1,hhr.2.1,CB.out.kx hkx (by omega),HG.out.kx hkx (by omega),HLW.out,HW.out,hhr.2.2.1,hhr.2.2.2,⟨hne,by omega,by omega,by omega,by omega⟩⟩ (by omega) (fun g o h0 e=>by have:=HA.out g o h0 e;omega)).mono (fun e w2 h=>by
    obtain⟨r,cl',l',hr,rfl,hse2,hrm,hk⟩:=h;refine⟨r,(cl',l'),hr.imp (fun h=>⟨h.1,by rw [h.2.1,h.2.2.1],h.2.2.2⟩) id,?_,rfl,hse2,⟨hrm.bc,hrm.bl,hrm.cl2,hrm.l0⟩,hk.mono (fun _ _ h=>h)⟩
    rcases hr with ⟨h,_⟩|h
    ·exact .inl h
    ·rcases h.nx.1.cases with h | ⟨i,h,hi⟩
     ·exact .inl h
     ·exact .inr ⟨i,h,by have:=HT.out.1;omega⟩))) (fun x w=>by kernel_rfl)).mono ?_
  rintro e w4 ⟨s,gD,gS,gcs,hm,hon,htt,rfl,hd,hsn,h1,h2,h3,hhr,hkx⟩;replace RB:=aA (RB.out.kx hkx (by omega));replace BW:=aA (mW BW.out hkx (fun k hk=>by omega) (by have:=HS4.out;omega));have F:=aA (show dN _ _ _ _ _ _ s.done s.sent from⟨s,hm,hon,htt,rfl,rfl⟩);have D:=aA hd;have SS:=aA hsn;have HH:=aA (show(w.heap.size+1)<gD/\(w.heap.size+1)<gS/\∀(c g:Nat),gcs[c]?=some g->(w.heap.size+1)<g from⟨by have:=HS4.out;omega,by have:=HS4.out;omega,fun c g hg=>by have:=h3 c g hg;have:=HS4.out;omega⟩);clear hm hd hsn h1 h2 h3 hhr hkx hon htt;obtain⟨⟨c0,c1⟩,⟨z0,z1⟩,hl0⟩:(_/\_)/\(_/\_)/\_:=⟨⟨RB.out.cell 0,RB.out.cell 1⟩,⟨RB.out.frozen 0,RB.out.frozen 1⟩,RB.out.lt⟩
  simp at c0 c1;go_wp2_with fail
  have rb:=(RB.out.set_ 0 (.slice (some ⟨gD,0,none⟩) n n)).set_ 1 (.slice (some ⟨gS,0,none⟩) 2 2);simp only [List.setIfInBounds_toArray,List.set_cons_zero,List.set_cons_succ] at rb;exact bodyPost_ret (v:=.tuple #[.agg #[.slice (some ⟨gD,0,none⟩) n n,.slice (some ⟨gS,0,none⟩) 2 2],.int .i64 0]) (by simp [results,Tryz.results194,go_sem,rb.cell]) rfl (dU.lay (cls:=2) F.out D.out SS.out (X:=(w.heap.size+1)) (by omega) HH.out BW.out)
def eB:List PK:=[⟨0,0,15⟩,⟨0,0,15⟩]
theorem tI{ps:List PK}{t:Int}{bs:List Bool}{r:Int}(h:jL 1 ps t bs r):cA ps bs t 0 r:=by
 rcases h with ⟨k,hk,_,h,_⟩|⟨rfl,h⟩
 ·obtain rfl:k=0:=by omega
  exact h
 ·exact h 0 (by omega)
theorem yB{r:Int}(h:jL 1 eB 0 [false,false] r):r=0:=by
 refine(tI h).unique (.inl ⟨0,⟨0,0,15⟩,rfl,rfl,rfl,by decide,rfl,fun j y hj=>by omega⟩)
theorem yC{r:Int}(h:jL 1 eB 1 [true,false] r):r=1:=by
 refine(tI h).unique (.inl ⟨1,⟨0,0,15⟩,rfl,rfl,rfl,by decide,rfl,fun j y hj hy hb=>?_⟩);obtain rfl:j=0:=by omega
 cases hb
theorem a1j{t r:Int}(h:jL 1 eB t [true,true] r):r = -1:=by
 refine(tI h).unique (.inr ⟨rfl,fun j y hy hb=>?_⟩);rcases j with _|_|j <;> cases hb
def vw(s:RS Unit):Nat × Bool × Option Nat × Int × Int × List Bool × List Int:=(s.t,s.on,s.now,s.rest,s.left,s.begun,s.done)
def lF(v:Nat × Bool × Option Nat × Int × Int × List Bool × List Int):Prop:=
 v=(0,false,none,0,0,[false,false],[-1,-1])\/v=(0,true,none,0,10,[false,false],[-1,-1])\/v=(0,true,some 0,15,10,[true,false],[-1,-1])\/v=(0,true,some 0,5,0,[true,false],[-1,-1])\/
 v=(1,false,some 0,5,0,[true,false],[-1,-1])\/v=(1,true,some 0,5,10,[true,false],[-1,-1])\/v=(1,true,none,0,5,[true,false],[1,-1])\/v=(1,true,some 1,15,5,[true,true],[1,-1])\/v=(1,true,some 1,10,0,[true,true],[1,-1])\/
 v=(2,false,some 1,10,0,[true,true],[1,-1])\/v=(2,true,some 1,10,10,[true,true],[1,-1])\/v=(2,true,none,0,0,[true,true],[1,2])\/
 v=(3,false,none,0,0,[true,true],[1,2])\/v=(3,true,none,0,10,[true,true],[1,2])\/v=(4,false,none,0,10,[true,true],[1,2])\/v=(4,true,none,0,10,[true,true],[1,2])\/v=(5,false,none,0,10,[true,true],[1,2])
theorem a23{s:RS Unit}(h:aQ 10 1 eB 5 (gL 1 eB) () s):lF (vw s):=by
 induction h with
 | start=>exact .inl rfl
 | tick s _ hon ht ih=>
   obtain⟨t,on,now,rest,left,begun,done,sent,sg⟩:=s;simp only [lF,vw,Prod.mk.injEq] at ih hon ht ⊢;subst hon;rcases ih with h|h|h|h|h|h|h|h|h|h|h|h|h|h|h|h|h <;> obtain⟨rfl,h2,rfl,rfl,rfl,rfl,rfl⟩:=h <;> simp_all
 | close s _ hon hl ih=>
   obtain⟨t,on,now,rest,left,begun,done,sent,sg⟩:=s;simp only [lF,vw,Prod.mk.injEq] at ih hon hl ⊢;subst hon;rcases ih with h|h|h|h|h|h|h|h|h|h|h|h|h|h|h|h|h <;> obtain⟨rfl,h2,rfl,rfl,rfl,rfl,rfl⟩:=h <;> simp_all
 | idle s sg _ hon hl hn hch ih=>
   obtain⟨t,on,now,rest,left,begun,done,sent,sg⟩:=s;simp only [lF,vw,Prod.mk.injEq,gL] at ih hon hl hn hch ⊢;subst hon hn;rcases ih with h|h|h|h|h|h|h|h|h|h|h|h|h|h|h|h|h <;> obtain⟨rfl,h2,h3,rfl,rfl,rfl,rfl⟩:=h <;> first|(cases h2;done)|(cases h3;done)|(exfalso;omega)|(have:=yB hch;omega)|(have:=yC hch;omega)|simp_all
 | begin_ s sg i x _ hon hl hn hch hx ih=>
   obtain⟨t,on,now,rest,left,begun,done,sent,sg⟩:=s;simp only [lF,vw,Prod.mk.injEq,gL] at ih hon hl hn hch ⊢;subst hon hn;rcases ih with h|h|h|h|h|h|h|h|h|h|h|h|h|h|h|h|h <;> obtain⟨rfl,h2,h3,rfl,rfl,rfl,rfl⟩:=h <;> first|(cases h2;done)|(cases h3;done)|(exfalso;omega)|(have:=a1j hch;omega)|skip
   ·have:=yB hch
    obtain rfl:i=0:=by omega
    cases hx
    simp
   ·have:=yC hch
    obtain rfl:i=1:=by omega
    cases hx
    simp
 | send s i x _ hon hl hn hx hlt ih=>
   obtain⟨t,on,now,rest,left,begun,done,sent,sg⟩:=s;simp only [lF,vw,Prod.mk.injEq] at ih hon hl hn hlt ⊢;subst hon hn;rcases ih with h|h|h|h|h|h|h|h|h|h|h|h|h|h|h|h|h <;> obtain⟨rfl,h2,h3,rfl,rfl,rfl,rfl⟩:=h <;> first|(cases h2;done)|(cases h3;done)|(exfalso;omega)|(cases h3;simp)
 | fin s i x _ hon hl hn hx hlt ih=>
   obtain⟨t,on,now,rest,left,begun,done,sent,sg⟩:=s;simp only [lF,vw,Prod.mk.injEq] at ih hon hl hn hlt ⊢;subst hon hn;rcases ih with h|h|h|h|h|h|h|h|h|h|h|h|h|h|h|h|h <;> obtain⟨rfl,h2,h3,rfl,rfl,rfl,rfl⟩:=h <;> first|(cases h2;done)|(cases h3;done)|(exfalso;omega)|(cases h3;simp)
theorem Q0{done:List Int}{sent:List (List Int)}(h:dN 10 1 eB 5 (gL 1 eB) () done sent):done = [1,2]:=by
 obtain⟨s,hm,hon,ht,rfl,rfl⟩:=h;have:=a23 hm
 simp only [lF,vw,Prod.mk.injEq,hon,ht] at this;simp at this;exact this.2.2.2.2
end Go.Proofs.YtaejfleahamapaaGreat
