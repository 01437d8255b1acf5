/- The statement TopPoliced: the walk. -/
import Derived.Test.YtaejfleahamapaaGreatPp38
import Derived.Test.YtaejfleahamapaaGreatPp26
import Derived.Test.YtaejfleahamapaaGreatPp17
import Derived.Test.YtaejfleahamapaaGreatPp18
import Derived.Test.YtaejfleahamapaaGreatPp16
import Derived.Test.YtaejfleahamapaaGreatPp44
import Derived.Test.YtaejfleahamapaaGreatPp22
import Derived.Test.YtaejfleahamapaaGreatPp1
namespace Go.Proofs.YtaejfleahamapaaGreat
set_option linter.unusedVariables false
set_option linter.unusedSimpArgs false
section
open Go.RowKit
theorem Kept.toKX{p:Nat}{w w':World}(h:Kept w.heap.size p w w'):KX (fun k=>k=p) w w':=⟨h.os,h.tape,h.output,h.size,h.block⟩
theorem COwn.kx{X:Nat→Prop}{w w':World}{base n:Nat}{v:Value}{xs:List CR}(h:COwn w base v n xs)(k:KX X w w')(hx:∀g,v.ownBlock=some g→¬X g):COwn w' base v n xs:=by
 have hb:=fun g hg=>(h.blk g hg).2
 obtain⟨h1,h2⟩:=h;refine⟨h1,?_⟩
 rcases h2 with h2 | ⟨g,cap,cur,rfl,hg,hh,r⟩
 ·exact .inl h2
 ·exact .inr ⟨g,cap,cur,rfl,hg,by rw [k.block g (hb g rfl) (hx g rfl)];exact hh,r⟩
theorem KOwn.lst2{w:World}{base n:Nat}{v:Value}{xs:List PK}(h:KOwn w base v n xs):∃A c,v = .slice A n c∧LsT w A n c xs∧(A=none∨∃g o,A=some ⟨g,o,none⟩)∧(A=none→n=0):=by
 obtain⟨A,c,rfl,hl,_⟩:=h.lst;refine⟨A,c,rfl,hl,?_⟩
 rcases h.2 with ⟨e,h0⟩|⟨g,_,_,e,_⟩
 ·cases e;exact⟨.inl rfl,fun _=>h0⟩
 ·cases e;exact⟨.inr ⟨g,0,rfl⟩,fun h=>by cases h⟩
structure PlE(w wr:World)(p L:Nat)(k cap:Int)(AW AS:Option Addr)(nW cW nS cS:Nat)(ws tb:List Int)(vp:Value)(ps:List PK)(va:Value)(xs:List CR):Prop where
 s:SrcAt wr p
 kp:Kept w.heap.size p w wr
 hp:p=w.heap.size
 lb:Blk wr L 44 #[.int .i64 k,.int .i64 cap,.int .i64 (2:Nat),.slice AW nW cW,.slice AS nS cS]
 hl:p<L
 ln:LnO wr (p+1) k cap AW AS nW cW nS cS ws tb
 po:KOwn wr (p+1) vp ps.length ps
 co:COwn wr (p+1) va xs.length xs
 ci:∀x∈xs,0<x.n∧x.In p wr
 lw:(∀g,(k=3∨k=4)→AW=some ⟨g,0,none⟩→g<L)∧∀g,k=5→AS=some ⟨g,0,none⟩→g<L
 dj:∀g,va.ownBlock=some g→L<g∧vp.ownBlock≠some g∧∀x∈xs,∀b o s,x.A=some ⟨b,o,s⟩→b≠g
section
variable{w wr wx:World}{p L:Nat}{k cap:Int}{AW AS:Option Addr}{nW cW nS cS:Nat}{ws tb:List Int}{vp va:Value}{ps:List PK}{xs:List CR}
theorem PlE.kept(h:PlE w wr p L k cap AW AS nW cW nS cS ws tb vp ps va xs)(hs:SrcAt wx p)(hk:Kept wr.heap.size p wr wx):PlE w wx p L k cap AW AS nW cW nS cS ws tb vp ps va xs:=
 ⟨hs,kthen h.kp hk,h.hp,h.lb.kept (by have:=h.hl;omega) hk,h.hl,h.ln.kx hk.toKX (fun j hj e=>by omega),h.po.kx hk.toKX (fun g hg e=>by have:=(h.po.blk g hg).1;omega),h.co.kx hk.toKX (fun g hg e=>by have:=(h.co.blk g hg).1;omega),fun x hx=>⟨(h.ci x hx).1,(h.ci x hx).2.kept hk⟩,h.lw,h.dj⟩
theorem PlE.below(h:PlE w wr p L k cap AW AS nW cW nS cS ws tb vp ps va xs)(hb:Below wr.heap.size wr wx):PlE w wx p L k cap AW AS nW cW nS cS ws tb vp ps va xs:=h.kept (h.s.ext hb) (Kept.of hb)
theorem PlE.alloc(h:PlE w wr p L k cap AW AS nW cW nS cS ws tb vp ps va xs)(o:Obj):PlE w (wr.alloc o) p L k cap AW AS nW cW nS cS ws tb vp ps va xs:=h.below (balloc wr o)
theorem PlE.fin(h:PlE w wr p L k cap AW AS nW cW nS cS ws tb vp ps va xs):Below w.heap.size w wr:=h.kp.below (by rw [h.hp];exact Nat.le_refl _)
theorem PlE.put(h:PlE w wr p L k cap AW AS nW cW nS cS ws tb vp ps va xs){v:Value}{ks:List PK}(hk:KOwn wr (p+1) v ks.length ks)(hd:∀g,va.ownBlock=some g→v.ownBlock≠some g):PlE w wr p L k cap AW AS nW cW nS cS ws tb v ks va xs:=
 ⟨h.s,h.kp,h.hp,h.lb,h.hl,h.ln,hk,h.co,h.ci,h.lw,fun g hg=>⟨(h.dj g hg).1,hd g hg,(h.dj g hg).2.2⟩⟩
end
theorem Ints.kx{X:Nat→Prop}{w w':World}{n:Nat}{A:Option Addr}{zs:List Int}(h:Ints w w.heap.size A n zs)(k:KX X w w')(ha:0<n→∀b off s,A=some ⟨b,off,s⟩→¬X b):Ints w' w'.heap.size A n zs:=
 ⟨h.1,fun hn=>by
  obtain⟨b,off,e,hb,hc⟩:=h.2 hn;exact⟨b,off,e,Nat.lt_of_lt_of_le hb k.size,fun j hj=>(World.cell?_of_block (a:=⟨b,off+j,none⟩) (k.block b hb (ha hn _ _ _ e))).trans (hc j hj)⟩⟩
theorem LnO.kxa{X:Nat→Prop}{w w':World}{B:Nat}{k cap:Int}{AW AS:Option Addr}{nW cW nS cS:Nat}{ws tb:List Int}(h:LnO w B k cap AW AS nW cW nS cS ws tb)(x:KX X w w')(h1:∀g,(k=3∨k=4)→AW=some ⟨g,0,none⟩→¬X g)(h2:∀g,k=5→AS=some ⟨g,0,none⟩→¬X g):LnO w' B k cap AW AS nW cW nS cS ws tb:=by
 refine⟨h.k1,h.c1,h.h12,fun e=>?_,fun e=>?_,fun e=>?_⟩
 ·obtain⟨a,b,c,d,g,e1,e2,e3⟩:=h.h3 e;exact⟨a,b,c,d,g,e1,e2,e3.kx x (h1 g (.inl e) e1)⟩
 ·obtain⟨a,b,c,d,g,e1,e2,e3⟩:=h.h4 e;exact⟨a,b,c,d,g,e1,e2,e3.kx x (h1 g (.inr e) e1)⟩
 ·obtain⟨a,b,c,d,g,e1,e2,e3⟩:=h.h5 e;exact⟨a,b,c,d,g,e1,e2,e3.kx x (h2 g e e1)⟩
theorem LnO.lw{w:World}{B M:Nat}{k cap:Int}{AW AS:Option Addr}{nW cW nS cS:Nat}{ws tb:List Int}(h:LnO w B k cap AW AS nW cW nS cS ws tb)(hM:w.heap.size≤M):(∀g,(k=3∨k=4)→AW=some ⟨g,0,none⟩→g<M)∧∀g,k=5→AS=some ⟨g,0,none⟩→g<M:=by
 refine⟨fun g e he=>?_,fun g e he=>?_⟩
 ·rcases e with e|e
  ·obtain⟨a,b,c,d,g',e1,e2,e3⟩:=h.h3 e;rw [he] at e1;cases e1;have:=e3.lt;omega
  ·obtain⟨a,b,c,d,g',e1,e2,e3⟩:=h.h4 e;rw [he] at e1;cases e1;have:=e3.lt;omega
 ·obtain⟨a,b,c,d,g',e1,e2,e3⟩:=h.h5 e;rw [he] at e1;cases e1;have:=e3.lt;omega
theorem run_appSemC2{w:World}{base n:Nat}{v:Value}{xs:List CR}(h:COwn w base v n xs)(x:CR)(hbase:base≤w.heap.size)(hn:n≤10000) :
 ∃v' w',Sem.run Tryz.prog (appSemC #[v,.slice (some ⟨w.heap.size,0,none⟩) 1 1]) (w.alloc (.cells #[.slice x.A x.n x.c,.int .i64 x.f.per,.int .i64 x.f.inc] 26)) = .ok v' w'∧COwn w' base v' (n+1) (xs ++ [x])∧KX (fun k=>some k=v.ownBlock) w w'∧(v'.ownBlock=v.ownBlock∨∃b,v'.ownBlock=some b∧w.heap.size≤b):=by
 obtain⟨i0,hi0,hz0,hz1,hz2⟩:=info_parts info_curve;obtain⟨v',w',hrun,h2,h3,_,h5⟩:=run_append_own_at (P:=Tryz.prog) (w:=w.alloc (.cells #[.slice x.A x.n x.c,.int .i64 x.f.per,.int .i64 x.f.inc] 26)) base 48 48 26 i0 (.agg #[.slice none 0 0,.int .i64 0,.int .i64 0]) 3 40 Tryz.underlying48 hi0 hz0 hz1 hz2 rfl (by omega) v n _ (h.alloc _) ⟨w.heap.size,0,none⟩ 1 1 x.cells rfl (by
  intro j u hu;have hj:j<3:=by
   rcases Nat.lt_or_ge j 3 with h'|h'
   ·exact h'
   ·rw [List.getElem?_eq_none (by exact h')] at hu;cases hu
  have hb:=(Blk.new w 26 #[.slice x.A x.n x.c,.int .i64 x.f.per,.int .i64 x.f.inc]).cell j;have e:(Addr.add ⟨w.heap.size,0,none⟩ j)=⟨w.heap.size,j,none⟩:=by
   unfold Addr.add;split
   ·rename_i h0;subst h0;rfl
   ·simp
  rw [e,hb,← hu];have:j=0∨j=1∨j=2:=by omega
  rcases this with rfl|rfl|rfl <;> rfl) (by
  intro u hu;simp only [CR.cells,List.mem_cons,List.not_mem_nil,or_false] at hu;rcases hu with rfl|rfl|rfl <;> rfl) (by unfold maxLen;omega) (by omega) (by simp;omega)
 refine⟨v',w',hrun,?_,(KX.of (balloc w _)).trans (KX.grown h3),?_⟩
 ·unfold COwn;rw [List.flatMap_append,List.flatMap_cons,List.flatMap_nil,List.append_nil];exact h2
 ·rcases h5 with h5|h5
  ·exact .inl h5
  ·exact .inr ⟨_,h5,by simp⟩
theorem PlE.push{w wr wx:World}{p L:Nat}{k cap:Int}{AW AS:Option Addr}{nW cW nS cS:Nat}{ws tb:List Int}{vp va v':Value}{ps:List PK}{xs:List CR}{X:CR}(h:PlE w wr p L k cap AW AS nW cW nS cS ws tb vp ps va xs)
 (hc:COwn wx (p+1) v' (xs.length+1) (xs ++ [X])) (hk:KX (fun k=>some k=va.ownBlock) wr wx) (hv:v'.ownBlock=va.ownBlock∨∃b,v'.ownBlock=some b∧wr.heap.size≤b)
 (hi:Ints wr wr.heap.size X.A X.n X.f.vals) (hn:0<X.n) (hx:∀b o s,X.A=some ⟨b,o,s⟩→p<b∧∀g,va.ownBlock=some g→b≠g):PlE w wx p L k cap AW AS nW cW nS cS ws tb vp ps v' (xs ++ [X]):=by
 have hlb:=h.lb.lt;have hl:=h.hl;have hw:w.heap.size≤p:=by rw [h.hp];exact Nat.le_refl _
 have hX:∀Y∈xs ++ [X],0<Y.n→∀b o s,Y.A=some ⟨b,o,s⟩→b<wr.heap.size∧∀g,va.ownBlock=some g→b≠g:=fun Y hY hn b o s e=>by
  rcases List.mem_append.1 hY with g|g
  ·obtain⟨b',o',e',h1,_⟩:=(h.ci Y g).2.ints.2 hn;rw [e] at e';cases e';exact⟨h1,fun q hq=>(h.dj q hq).2.2 Y g _ _ _ e⟩
  ·rw [List.mem_singleton] at g;subst g;obtain⟨b',o',e',h1,_⟩:=hi.2 hn;rw [e] at e';cases e';exact⟨h1,(hx _ _ _ e).2⟩
 refine⟨h.s.kx hk (fun j hj e=>by have:=(h.co.blk j e.symm).1;omega),h.kp.kx hk (Nat.le_refl _) (fun j hj e=>by have:=(h.co.blk j e.symm).1;omega),h.hp,h.lb.kx hk (fun e=>by have:=(h.dj L e.symm).1;omega),hl,h.ln.kxa hk (fun g e1 e2 e=>by have:=(h.dj g e.symm).1;have:=h.lw.1 g e1 e2;omega) (fun g e1 e2 e=>by have:=(h.dj g e.symm).1;have:=h.lw.2 g e1 e2;omega),h.po.kx hk (fun g hg e=>(h.dj g e.symm).2.1 hg),by rw [List.length_append];exact hc,fun Y hY=>?_,h.lw,fun g hg=>?_⟩
 ·rcases List.mem_append.1 hY with g|g
  ·exact⟨(h.ci Y g).1,(h.ci Y g).2.ints.kx hk (fun hn b o s e e2=>(hX Y hY hn b o s e).2 b e2.symm rfl),(h.ci Y g).2.ap⟩
  ·rw [List.mem_singleton] at g;subst g;exact⟨hn,hi.kx hk (fun hn b o s e e2=>(hX Y hY hn b o s e).2 b e2.symm rfl),fun _ b o s e=>by have:=(hx b o s e).1;omega⟩
 ·have h0:∀Y∈xs ++ [X],0<Y.n:=fun Y hY=>by
   rcases List.mem_append.1 hY with g|g
   ·exact(h.ci Y g).1
   ·rw [List.mem_singleton] at g;subst g;exact hn
  rcases hv with e | ⟨b,e,hb⟩
  ·rw [e] at hg;exact⟨(h.dj g hg).1,(h.dj g hg).2.1,fun Y hY b o s e=>(hX Y hY (h0 Y hY) b o s e).2 g hg⟩
  ·rw [e] at hg;cases hg;exact⟨by omega,fun e=>by have:=(h.po.blk g e).2;omega,fun Y hY b' o s e=>by have:=(hX Y hY (h0 Y hY) b' o s e).1;omega⟩
theorem KOwn.base{w:World}{a b n:Nat}{v:Value}{xs:List PK}(h:KOwn w b v n xs)(hab:a≤b):KOwn w a v n xs:=
 ⟨h.1,h.2.imp id (fun⟨g,cap,cur,e,hg,r⟩=>⟨g,cap,cur,e,Nat.le_trans hab hg,r⟩)⟩
theorem LnO.base{w:World}{a b:Nat}{k cap:Int}{AW AS:Option Addr}{nW cW nS cS:Nat}{ws tb:List Int}(h:LnO w b k cap AW AS nW cW nS cS ws tb)(hab:a≤b):LnO w a k cap AW AS nW cW nS cS ws tb:=by
 refine⟨h.k1,h.c1,h.h12,fun e=>?_,fun e=>?_,fun e=>?_⟩
 ·obtain⟨a,b,c,d,g,e1,e2,e3⟩:=h.h3 e;exact⟨a,b,c,d,g,e1,by omega,e3⟩
 ·obtain⟨a,b,c,d,g,e1,e2,e3⟩:=h.h4 e;exact⟨a,b,c,d,g,e1,by omega,e3⟩
 ·obtain⟨a,b,c,d,g,e1,e2,e3⟩:=h.h5 e;exact⟨a,b,c,d,g,e1,by omega,e3⟩
theorem RunOf.lens{σ:Type}{cap:Int}{ps:List PK}{T:Nat}{Ch:RS σ→Int→σ→Prop}{sg0:σ}{done:List Int}{sent:List (List Int)}(hv:Valid ps)(hc:1≤cap)(h:RunOf cap 2 ps T Ch sg0 done sent):done.length=ps.length∧sent.length=2∧∀l∈sent,l.length=T+1:=by
 obtain⟨s,hm,hoff,ht,rfl,rfl⟩:=h;have ok:=hm.ok hv hc;refine⟨ok.ld,ok.ls,fun l hl=>?_⟩
 obtain⟨c,hc⟩:=List.getElem?_of_mem hl;have:=ok.lr c l hc
 rw [hoff,ht] at this
 simpa using this
theorem RunK.lens{k cap:Int}{ws tb:List Int}{ps:List PK}{T:Nat}{done:List Int}{sent:List (List Int)}(hv:Valid ps)(hc:1≤cap)(h:RunK k cap ws tb ps T done sent):done.length=ps.length∧sent.length=2∧∀l∈sent,l.length=T+1:=by
 rcases h with ⟨_,h⟩|⟨_,h⟩|⟨_,h⟩|⟨_,h⟩|⟨_,h⟩ <;> exact h.lens hv hc
structure PlF(c:Nat)(xs:List CR)(ps:List PK):Prop where
 v:Valid ps
 g:∀x∈ps,0≤x.fl∧x.fl<2∧5≤x.sz∧x.sz≤20∧x.tm≤98
 n:ps.length≤14
 l:xs.length=c
 x:∀(j:Nat) (X:CR),xs[j]?=some X→X.f.Fin∧X.n≤400∧AvS X.f j ps
theorem Pk5.f0{ps:List PK}(h:Pk5 14 ps):PlF 0 [] ps:=by
 refine⟨⟨by have:=h.len;omega,fun x hx=>?_,h.so⟩,fun x hx=>?_,h.len,rfl,fun j X h=>by simp at h⟩
 ·have:=h.g x hx
  unfold PK.Good;omega
 ·have:=h.g x hx
  omega
theorem PlF.next{c:Nat}{xs:List CR}{ps ks:List PK}{X:CR}(h:PlF c xs ps)(hf:X.f.Fin)(hn:X.n≤400)(hm:∀a b,a≤b→X.f.at a≤X.f.at b)(hz:0≤X.f.at 0)(hp:PoS X.f c ps ps.length ks):PlF (c+1) (xs ++ [X]) ks:=by
 have hl:=hp.len;have hn2:=h.n;refine⟨hp.valid h.v (Nat.le_refl _),fun x hx=>h.g x (hp.mem x hx),by omega,by rw [List.length_append,h.l];rfl,fun j Y hY=>?_⟩
 have hjl:=(List.getElem?_eq_some_iff.1 hY).1;rw [List.length_append,List.length_singleton,h.l] at hjl;rcases Nat.lt_or_ge j c with g|g
 ·rw [List.getElem?_append_left (by rw [h.l];exact g)] at hY;obtain⟨a,b,d⟩:=h.x j Y hY;refine⟨a,b,fun s t hst=>?_⟩
  rw [hp.others (by omega) (by omega) t,hp.others (by omega) (by omega) s,List.take_length];exact d s t hst
 ·obtain rfl:j=c:=by omega
  rw [← h.l,List.getElem?_concat_length] at hY;cases hY
  exact⟨hf,hn,hp.keeps h.v (by omega) hf.not_infAt hm hz⟩
theorem two_of{α:Type}{xs:List α}(h:xs.length=2):∃a b,xs = [a,b]:=by
 match xs,h with
 | [a,b],_=>exact⟨a,b,rfl⟩
theorem COwn.row2{w:World}{base n:Nat}{v:Value}{xs:List CR}(h:COwn w base v n xs)(hn:0<n)(hx:∀x∈xs,Ints w w.heap.size x.A x.n x.f.vals):∃g c,v = .slice (some ⟨g,0,none⟩) n c∧n≤c∧RowO w g 0 xs:=by
 obtain⟨g,c,e,_,hr⟩:=h.row hn hx;rcases h.2 with ⟨_,h2⟩|⟨g',cap,cur,e',hb,hh,hnc,_⟩
 ·omega
 ·rw [e'] at e;cases e;exact⟨_,_,e',hnc,hr.toO⟩
structure PlR(w wr:World)(L:Nat)(k cap:Int)(AW AS:Option Addr)(nW cW nS cS:Nat)(ws tb:List Int)(vp:Value)(ps:List PK)(va:Value)(xs:List CR)(R gD gS q:Nat)(done:List Int):Prop where
 e:PlE w wr w.heap.size L k cap AW AS nW cW nS cS ws tb vp ps va xs
 r:Blk wr R 62 #[.slice (some ⟨gD,0,none⟩) ps.length ps.length,.slice (some ⟨gS,0,none⟩) 2 2]
 d:IBlk wr gD done
 z:RowZ wr q 0 zs2
theorem PlR.below{w wr wx:World}{L:Nat}{k cap:Int}{AW AS:Option Addr}{nW cW nS cS:Nat}{ws tb:List Int}{vp va:Value}{ps:List PK}{xs:List CR}{R gD gS q:Nat}{done:List Int}(h:PlR w wr L k cap AW AS nW cW nS cS ws tb vp ps va xs R gD gS q done)(hb:Below wr.heap.size wr wx):PlR w wx L k cap AW AS nW cW nS cS ws tb vp ps va xs R gD gS q done:=
 ⟨h.e.below hb,h.r.below hb h.r.lt,h.d.below hb h.d.lt,h.z.below hb⟩
theorem RowZ.zs2(w:World):RowZ (w.alloc (.cells #[.int .i64 5,.int .i64 20,.int .i64 5,.int .i64 20] 67)) w.heap.size 0 zs2:=by
 have hb:=Blk.new w 67 #[.int .i64 5,.int .i64 20,.int .i64 5,.int .i64 20];refine⟨hb.lt,fun k j x hx hj=>?_⟩
 have hk:=(List.getElem?_eq_some_iff.1 hx).1;have hk:k<2:=hk;rw [hb.cell];rcases (show k=0∨k=1 by omega) with rfl|rfl <;> cases hx <;> rcases (show j=0∨j=1 by omega) with rfl|rfl <;> rfl
attribute [local go_sem ↓] app_foldC
set_option maxHeartbeats 4000000 in
set_option maxRecDepth 100000 in
theorem plc_any(A0:Option Addr)(n0 c0:Nat)(L0:List Int)(w:World)(hL:Ints w w.heap.size A0 n0 L0)(hc0:n0≤c0)(hn0:(n0:Int)≤9223372036854775807) :
 Calls Tryz.prog 4 #[.slice A0 n0 c0] w fun e w'=>e = .returned (.bool true)∧Below w.heap.size w w':=by
 go_enter Tryz.func4,Tryz.ntmps4
 go_wp2_with fail
 refine(new_any A0 n0 c0 L0 w hL hc0 hn0).mono ?_;rintro e w1 ⟨rfl,hS1,hb1⟩;have hp1:=hS1.lt;clear hL;go_wp2_with fail
 refine(anyLine_any w.heap.size w1 hS1).mono ?_;rintro e w2 ⟨k,cap,AW,AS,nW,cW,nS,cS,ws,tb,hln,rfl,hS2,hk2⟩;go_wp2_with fail
 refine(traffic_any w.heap.size 14 w2 hS2 (by omega)).mono ?_;rintro e w3 ⟨vp,m,ps,hP5,rfl,hko,hS3,hk3⟩;obtain rfl:=hko.len;have F:=hi_ hP5.f0;have hz2:=hk2.size;have hz3:=hk3.size;obtain⟨L,hLe⟩:∃L,L=w3.heap.size:=⟨_,rfl⟩
 have E:=hi_ (show PlE w (w3.alloc (.cells #[.int .i64 k,.int .i64 cap,.int .i64 2,.slice AW nW cW,.slice AS nS cS] 44)) w.heap.size L k cap AW AS nW cW nS cS ws tb vp ps (.slice none 0 0) [] from by
  have hb:=balloc w3 (.cells #[.int .i64 k,.int .i64 cap,.int .i64 2,.slice AW nW cW,.slice AS nS cS] 44);exact⟨hS3.ext hb,kbelow (kthen (kthen (Kept.of hb1) hk2) hk3) hb,rfl,by rw [hLe];exact Blk.new _ _ _,by omega,((hln.base (by omega)).kx hk3.toKX (fun j hj e=>by omega)).below hb,(hko.base (by omega)).kx (KX.of hb) (fun _ _ h=>h),COwn.nil_ _ _,fun x hx=>(by cases hx),hln.lw (by omega),fun g hg=>(by cases hg)⟩)
 clear hln hS1 hb1 hS2 hk2 hS3 hk3 hko hP5 hz2 hz3 hp1;go_upto_region 3 with fail
 rw [← hLe];generalize hwe:w3.alloc _=w4 at *;clear hwe hLe;go_wp2_with fail
 go_loopg [5,6,7] 2 (fun gg s5 s6 s7 wr=>∃(c:Nat) (ps:List PK) (xs:List CR),c+gg=2∧s7 = .int .i64 c∧Hid (PlF c xs ps)∧Hid (PlE w wr w.heap.size L k cap AW AS nW cW nS cS ws tb s5 ps s6 xs))
 case atStart=>exact⟨0,ps,[],by omega,rfl,F,E⟩
 case round=>
  clear F E;obtain⟨c,ps,xs,hcg,rfl,F,E⟩:=hrel;by_cases hc2:c<2
  case pos=>
   have hci:(c:Int)<2:=by omega
   go_wp2_with fail
   refine(n_any w.heap.size 6 wr (by exact E.out.s) (by omega) (by omega)).mono ?_;rintro e w5 ⟨z,hz0,hz1,rfl,hS,hk⟩;replace E:=hi_ (E.out.kept hS hk);clear hS hk;have em:IntKind.i64.wrap (5*z)=5*z:=IntWalk.i64_in _ (by omega);have ea:IntKind.i64.wrap (10+5*z)=10+5*z:=IntWalk.i64_in _ (by omega);go_wp2_with fail
   refine(srcFr_any w.heap.size 9 2 w5 (by exact E.out.s) (by omega) (by omega) (by omega) (by omega)).mono ?_;rintro e w6 ⟨R,r,hFr,rfl,hS,hk⟩;replace E:=hi_ (E.out.kept hS hk);clear hS hk;go_wp2_with fail
   refine(tokenK_any (10+5*z) 1 R r w6).mono ?_;rintro e w7 ⟨f,er,hT,A,n,d,hnd,rfl,hI,hA,hb⟩;obtain⟨rfl,hf,hl4,hmono,hfz⟩:=ptok_ok (B:=10+5*z) (by omega) (by omega) hFr hT;have hb2:=bthen hb (balloc w7 (.cells #[.slice A n d,.int .i64 f.per,.int .i64 f.inc] 26));have HI:=hi_ (hI.alloc' (.cells #[.slice A n d,.int .i64 f.per,.int .i64 f.inc] 26));have FB:=hi_ (Blk.new w7 26 #[.slice A n d,.int .i64 f.per,.int .i64 f.inc]);have hn0:0<n:=by have h1:=hf.1.n1;have h2:f.vals.length=n:=hI.1;omega
   have hn4:n≤400:=by have h2:f.vals.length=n:=hI.1;omega
   have HA:=hi_ (show ∀b o s,A=some ⟨b,o,s⟩→w.heap.size<b∧∀g,u6.ownBlock=some g→b≠g from fun b o s e=>by
    have h1:=hA b o s e;have h2:=E.out.s.lt;exact⟨by omega,fun g hg=>by have:=(E.out.co.blk g hg).2;omega⟩)
   replace E:=hi_ (E.out.below hb2);have HF:=hi_ hf;have HM:=hi_ hmono;have HZ:=hi_ hfz;clear hI hA hb hb2 hf hmono hfz hT hFr hl4;go_upto_region 8 with fail
   generalize hwe:w7.alloc _=w8 at *;clear hwe;generalize w7.heap.size=G at *;obtain⟨Ap,cp,rfl,hls,hB,hB0⟩:=E.out.po.lst2;obtain⟨⟨x0,x1,x2⟩,_,hlx⟩:=FB.out.c3;go_wp2_with fail
   refine(police_any Ap ps.length cp c ps A n d f w8 hls F.out.v (by omega) HI.out (by omega) HF.out hB hB0).mono ?_;rintro e w9 ⟨ks,v,gv,hPo,rfl,hko,hb⟩;have F2:=hi_ (F.out.next (X:=⟨A,n,d,f⟩) HF.out hn4 HM.out HZ.out hPo);have HK:=hi_ (show AvS f c ks from hPo.keeps F.out.v (by omega) HF.out.not_infAt HM.out HZ.out);have hsz:=E.out.s.lt;have E2:=hi_ ((E.out.below hb).put (hko.base (by omega)) (fun g hg e=>by have:=(E.out.co.blk g hg).2;have:=(hko.blk g e).1;omega));replace HI:=hi_ (HI.out.ext hb);replace FB:=hi_ (FB.out.below hb FB.out.lt);clear hPo hko hb E hls hB hB0 x0 x1 x2 hlx hsz;obtain⟨Ak,ck,rfl,hlk,-,-⟩:=E2.out.po.lst2;obtain⟨⟨x0,x1,x2⟩,_,hlx⟩:=FB.out.c3;go_wp2_with fail
   refine(keeps_any Ak ks.length ck c ks A n d f w9 hlk F2.out.v (by omega) HI.out (by omega) HF.out.1 HK.out.kp).mono ?_;rintro e w10 ⟨rfl,hb⟩;have E:=hi_ (E2.out.below hb);replace HI:=hi_ (HI.out.ext hb);replace FB:=hi_ (FB.out.below hb FB.out.lt);clear hb hlk E2 x0 x1 x2 hlx;go_upto_region 13 with fail
   have hxl:xs.length=c:=F.out.l;obtain⟨v',w11,hrun,hco,hkx,hvb⟩:=run_appSemC2 E.out.co ⟨A,n,d,f⟩ (by have:=E.out.s.lt;omega) (by omega);have E3:=hi_ (E.out.push (X:=⟨A,n,d,f⟩) hco hkx hvb HI.out hn0 HA.out);obtain⟨⟨x0,x1,x2⟩,_,hlx⟩:=FB.out.c3;clear hco hkx hvb E HI;go_wp2_with fail
   go_roundg (gk-1)
   case measure=>omega
   case rel=>exact⟨c+1,ks,xs ++ [⟨A,n,d,f⟩],by omega,by go_num,F2,E3⟩
  case neg=>
   have hci:¬(c:Int)<2:=by omega
   obtain rfl:c=2:=by omega
   have HN:=hi_ hcg;clear hcg;obtain⟨Ap,cp,rfl,hls,-,-⟩:=E.out.po.lst2;obtain⟨X0,X1,rfl⟩:=two_of F.out.l;obtain⟨l0,l1,l2,l3,l4⟩:_∧_∧_∧_∧_:=⟨E.out.lb.cell 0,E.out.lb.cell 1,E.out.lb.cell 2,E.out.lb.cell 3,E.out.lb.cell 4⟩
   simp at l0 l1 l2 l3 l4;have hll:=E.out.lb.lt;go_wp2_with fail
   refine(lrun_any (ticks:=200) E.out.ln hls F.out.v (fun x hx=>by have:=F.out.g x hx;omega) (by omega)).mono ?_;rintro e wa ⟨done,sent,gD,gS,gcs,hR,rfl,hd,hs,hh,hb⟩;have HR:=hi_ hR;obtain⟨ln1,ln2,ln3⟩:=hR.lens F.out.v (by have:=E.out.ln.c1;omega);have hb2:=bthen hb (balloc wa (.cells #[.slice (some ⟨gD,0,none⟩) ps.length ps.length,.slice (some ⟨gS,0,none⟩) 2 2] 62));have RB:=hi_ (Blk.new wa 62 #[.slice (some ⟨gD,0,none⟩) ps.length ps.length,.slice (some ⟨gS,0,none⟩) 2 2]);have HD:=hi_ (hd.alloc (.cells #[.slice (some ⟨gD,0,none⟩) ps.length ps.length,.slice (some ⟨gS,0,none⟩) 2 2] 62));have HS:=hi_ (hs.kx (X:=fun _=>False) (KX.of (balloc wa (.cells #[.slice (some ⟨gD,0,none⟩) ps.length ps.length,.slice (some ⟨gS,0,none⟩) 2 2] 62))) (fun h=>h) (fun _ _ _ h=>h));replace E:=hi_ (E.out.below hb2);have HL:=hi_ (And.intro ln1 (And.intro ln2 ln3));clear hR hd hs hh hb hb2 ln1 ln2 ln3 hls l0 l1 l2 l3 l4 hll;go_upto_region 15 with fail
   generalize hwe:wa.alloc _=wb at *;clear hwe;generalize wa.heap.size=RR at *;obtain⟨q0,q1⟩:_∧_:=⟨RB.out.cell 0,RB.out.cell 1⟩
   simp at q0 q1;have hlr:=RB.out.lt;go_wp2_with fail
   refine(snd16_any Ap ps.length cp gD gS 2 200 gcs done sent wb HS.out HL.out.2.1 HL.out.2.2 (by omega) (by omega)).mono ?_;rintro e wc ⟨rfl,hb⟩;replace E:=hi_ (E.out.below hb);replace RB:=hi_ (RB.out.below hb RB.out.lt);replace HD:=hi_ (HD.out.below hb HD.out.lt);clear hb HS q0 q1 hlr;go_upto_region 17 with fail
   have P:=hi_ (show PlR w (wc.alloc (.cells #[.int .i64 5,.int .i64 20,.int .i64 5,.int .i64 20] 67)) L k cap AW AS nW cW nS cS ws tb (.slice Ap ps.length cp) ps u6 [X0,X1] RR gD gS wc.heap.size done from
    ⟨E.out.alloc _,RB.out.alloc _,HD.out.alloc _,RowZ.zs2 wc⟩)
   clear E RB HD;go_wp2_with fail
   generalize hwe:wc.alloc _=wd at *;clear hwe;generalize wc.heap.size=Q at *;go_loopg [16] 2 (fun gg s16 wr=>∃c:Nat,c+gg=2∧s16 = .int .i64 c∧Hid (PlR w wr L k cap AW AS nW cW nS cS ws tb (.slice Ap ps.length cp) ps u6 [X0,X1] RR gD gS Q done))
   case atStart=>exact⟨0,by omega,rfl,P⟩
   case round=>
    clear P;obtain⟨c,hcg,rfl,P⟩:=hrel;obtain⟨go,hgo⟩:∃go:Nat,go=gk:=⟨_,rfl⟩
    rw [← hgo] at hcg;by_cases hc2:c<2
    case pos=>
     have hci:(c:Int)<2:=by omega
     obtain⟨G,cG,rfl,hcG,hrow⟩:=P.out.e.co.row2 (by show 0<2;omega) (fun x hx=>(P.out.e.ci x hx).2.ints);obtain⟨al,hal⟩:∃al,[X0,X1][c]?=some al:=⟨_,List.getElem?_eq_getElem (by exact hc2)⟩
     obtain⟨l0,l1,l2,l3,l4⟩:_∧_∧_∧_∧_:=⟨P.out.e.lb.cell 0,P.out.e.lb.cell 1,P.out.e.lb.cell 2,P.out.e.lb.cell 3,P.out.e.lb.cell 4⟩
     simp at l0 l1 l2 l3 l4;have hll:=P.out.e.lb.lt;have fx0:=F.out.x 0 X0 rfl;have fx1:=F.out.x 1 X1 rfl;have fxc:=F.out.x c al hal;go_wp2_with fail
     refine(ldelay_any (cl:=c) (al:=al) (s:=0) (d:=2) P.out.e.ln hc2 hcG (by omega) rfl hrow (fun x hx=>?_) (fun x hx=>?_) z2_zs2 P.out.z hal).mono ?_
     ·rcases List.mem_cons.1 hx with rfl|hx
      ·exact fx0.1
      ·rw [List.mem_singleton] at hx;subst hx;exact fx1.1
     ·rcases List.mem_cons.1 hx with rfl|hx
      ·exact Nat.le_trans fx0.2.1 (by omega)
      ·rw [List.mem_singleton] at hx;subst hx;exact Nat.le_trans fx1.2.1 (by omega)
     rintro e we ⟨i,v,A,er,hD,rfl,hb⟩;have DG:=hi_ (dlK P.out.e.ln F.out.v (fun x hx=>(F.out.g x hx).2.1) (fun x hx=>⟨(F.out.g x hx).2.2.1,(F.out.g x hx).2.2.2.1⟩) fx0.1 fx1.1 fx0.2.2 fx1.2.2 hc2 fxc.1 fxc.2.2 HR.out hD);have hb2:=bthen hb (balloc we (.cells #[.bool i,.int .i64 v,.int .i64 A] 35));have DB:=hi_ (Blk.new we 35 #[.bool i,.int .i64 v,.int .i64 A]);have P2:=hi_ (P.out.below hb2);clear P hD hb hb2 l0 l1 l2 l3 l4 hll fx0 fx1 fxc hrow hal hcG;go_upto_region 22 with fail
     generalize hwe:we.alloc _=wf at *;clear hwe;generalize we.heap.size=D at *;go_wp2_with fail
     go_loopg [97] ps.length (fun gg s97 wr=>∃j q:Nat,j+gg=ps.length∧s97 = .int .i64 j∧wr=wf.drewN q)
     case atStart=>exact⟨0,0,by omega,rfl,rfl⟩
     case round=>
      obtain⟨j,q,hjg,rfl,rfl⟩:=hrel;by_cases hj:j<ps.length
      case pos=>
       have hji:(j:Int)<ps.length:=by omega
       obtain⟨x,hx⟩:∃x,ps[j]?=some x:=⟨_,List.getElem?_eq_getElem hj⟩
       obtain⟨Ap',cp',e,hls,-⟩:=P2.out.e.po.lst;cases e
       obtain⟨g,o,rfl,hr⟩:=hls.2.2 (by omega);have y0:=hr.cell j 0 x hx (by omega);have y1:=hr.cell j 1 x hx (by omega);replace y0:wf.cell? ⟨g,o+j*3,none⟩=some (.int .i64 x.fl):=y0;replace y1:wf.cell? ⟨g,o+j*3+1,none⟩=some (.int .i64 x.tm):=y1;obtain⟨d0,d1,d2⟩:_∧_∧_:=⟨DB.out.cell 0,DB.out.cell 1,DB.out.cell 2⟩
       simp at d0 d1 d2;replace d0:wf.cell? ⟨D,0,none⟩=some (.bool i):=d0;replace d1:wf.cell? ⟨D,1,none⟩=some (.int .i64 v):=d1;have q0:=P2.out.r.cell 0;simp at q0;replace q0:wf.cell? ⟨RR,0,none⟩=some (.slice (some ⟨gD,0,none⟩) ps.length ps.length):=q0;have q1:=P2.out.d.cell j (by rw [HL.out.1];exact hj);replace q1:wf.cell? ⟨gD,j,none⟩=some (.int .i64 (nth done j)):=q1;have hla:g<wf.heap.size:=hr.lt;have hlb:D<wf.heap.size:=DB.out.lt;have hlc:RR<wf.heap.size:=P2.out.r.lt;have hld:gD<wf.heap.size:=P2.out.d.lt;have hn14:=F.out.n;have hxg:=F.out.g x (List.mem_of_getElem? hx);have hxv:=F.out.v.good x (List.mem_of_getElem? hx);have HX:=hi_ hx;have DGj:=hi_ (fun a b=>(DG.out a b).2 j x hx);have HX1:=hi_ (show 0≤x.tm∧x.tm≤98 from by unfold PK.Good at hxv;omega);clear hx hr hls hxg hxv;generalize nth done j=dn at *;generalize x.fl=fl at *;generalize x.tm=tm at *;by_cases he:er=0
       case neg=>
        have z0:(er == 0)=false:=by simpa using he
        clear he;go_upto_region 25 with fail
        go_quiet (fail)
        go_wp2_with fail
        go_roundg (gk-1)
        case measure=>omega
        case rel=>exact⟨j+1,_,by omega,by go_num,rfl⟩
       case pos=>
       subst he;by_cases hf:fl=c
       case neg=>
        have z1:(fl == (c:Int))=false:=by simpa using hf
        clear hf;go_upto_region 25 with fail
        go_quiet (fail)
        go_wp2_with fail
        go_roundg (gk-1)
        case measure=>omega
        case rel=>exact⟨j+1,_,by omega,by go_num,rfl⟩
       case pos=>
       have z1:(fl == (c:Int))=true:=by simpa using hf
       cases i with
       | true=>
         go_upto_region 25 with fail
         go_quiet (fail)
         go_wp2_with fail
         go_roundg (gk-1)
         case measure=>omega
         case rel=>exact⟨j+1,_,by omega,by go_num,rfl⟩
       | false=>
         have hvb:=(DG.out rfl rfl).1;have hkd:=DGj.out rfl rfl hf;have htm:=HX1.out;have ew:IntKind.i64.wrap (tm+v)=tm+v:=IntWalk.i64_in _ (by omega);clear hf;by_cases hlt:tm+v<200
         case neg=>
          have z2:decide (tm+v<200)=false:=decide_eq_false hlt;clear hkd;go_upto_region 25 with fail
          go_quiet (fail)
          go_wp2_with fail
          go_roundg (gk-1)
          case measure=>omega
          case rel=>exact⟨j+1,_,by omega,by go_num,rfl⟩
         case pos=>
          have z2:decide (tm+v<200)=true:=decide_eq_true hlt;have hkd:=hkd hlt;have z3:decide (dn<0)=false:=decide_eq_false (by omega);have ew2:IntKind.i64.wrap (dn-tm)=dn-tm:=IntWalk.i64_in _ (by omega);have z4:decide (v<dn-tm)=false:=decide_eq_false (by omega);clear hkd hvb htm;go_upto_region 25 with fail
          go_quiet (fail)
          go_wp2_with fail
          go_roundg (gk-1)
          case measure=>omega
          case rel=>exact⟨j+1,_,by omega,by go_num,rfl⟩
      case neg=>
       have hji:¬(j:Int)<ps.length:=by omega
       have P3:=hi_ (P2.out.below (bdrewN (k:=q) (Below.refl wf.heap.size wf)));go_wp2_with fail
       go_roundg (go-1)
       case measure=>omega
       case rel=>exact⟨c+1,by omega,by go_num,P3⟩
    case neg=>
     have hci:¬(c:Int)<2:=by omega
     have E:=hi_ P.out.e;go_wp2_with fail
     refine(sound_any _).mono ?_;rintro e wq ⟨rfl,hb⟩;have bw:=(E.out.below hb).fin;go_wp2_with fail
     go_ret
     exact⟨rfl,bw⟩
end
end Go.Proofs.YtaejfleahamapaaGreat
