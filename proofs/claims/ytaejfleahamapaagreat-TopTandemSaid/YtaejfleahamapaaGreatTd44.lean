/- . -/
import Derived.Test.YtaejfleahamapaaGreatTd42
import Derived.Test.YtaejfleahamapaaGreatTd43
namespace Go.Proofs.YtaejfleahamapaaGreat
set_option linter.unusedVariables false
set_option linter.unusedSimpArgs false
set_option maxHeartbeats 8000000
set_option maxRecDepth 100000
open Go.RowKit
section
structure LD where
 k:Int
 cap:Int
 AW:Option Addr
 AS:Option Addr
 nW:Nat
 cW:Nat
 nS:Nat
 cS:Nat
 ws:List Int
 tb:List Int
def LD.O(l:LD)(w:World)(B:Nat):Prop:=cJ w B l.k l.cap l.AW l.AS l.nW l.cW l.nS l.cS l.ws l.tb
def LD.Lt(l:LD)(T:Nat):Prop:=(∀g,(l.k=3\/l.k=4)->l.AW=some ⟨g,0,none⟩->g<T)/\∀g,l.k=5->l.AS=some ⟨g,0,none⟩->g<T
theorem aE.kx{X:Nat->Prop}{w w':World}{n:Nat}{A:Option Addr}{zs:List Int}(h:aE w w.heap.size A n zs)(k:KX X w w')(ha:0<n->∀b off s,A=some ⟨b,off,s⟩->¬X b):aE w' w'.heap.size A n zs:=
 ⟨h.1,fun hn=>by
  obtain⟨b,off,e,hb,hc⟩:=h.2 hn;exact⟨b,off,e,Nat.lt_of_lt_of_le hb k.size,fun j hj=>(World.cell?_of_block (a:=⟨b,off+j,none⟩) (k.block b hb (ha hn _ _ _ e))).trans (hc j hj)⟩⟩
theorem cJ.base{w:World}{a b:Nat}{k cap:Int}{AW AS:Option Addr}{nW cW nS cS:Nat}{ws tb:List Int}(h:cJ w b k cap AW AS nW cW nS cS ws tb)(hab:a<=b):cJ w a k cap AW AS nW cW nS cS ws tb:=by
 refine⟨h.k1,h.c1,h.h12,fun e=>?_,fun e=>?_,fun e=>?_⟩
 ·obtain⟨a,b,c,d,g,e1,e2,e3⟩:=h.h3 e;exact⟨a,b,c,d,g,e1,by omega,e3⟩
 ·obtain⟨a,b,c,d,g,e1,e2,e3⟩:=h.h4 e;exact⟨a,b,c,d,g,e1,by omega,e3⟩
 ·obtain⟨a,b,c,d,g,e1,e2,e3⟩:=h.h5 e;exact⟨a,b,c,d,g,e1,by omega,e3⟩
theorem LD.O.kxa{l:LD}{X:Nat->Prop}{w w':World}{B T:Nat}(h:l.O w B)(x:KX X w w')(hl:l.Lt T)(hx:∀g,X g->T<=g):l.O w' B:=by
 have hX:∀g,g<T->¬X g:=fun g hg e=>by have:=hx g e;omega
 refine⟨h.k1,h.c1,h.h12,fun e=>?_,fun e=>?_,fun e=>?_⟩
 ·obtain⟨a,b,c,d,g,e1,e2,e3⟩:=h.h3 e;exact⟨a,b,c,d,g,e1,e2,e3.kx x (hX g (hl.1 g (.inl e) e1))⟩
 ·obtain⟨a,b,c,d,g,e1,e2,e3⟩:=h.h4 e;exact⟨a,b,c,d,g,e1,e2,e3.kx x (hX g (hl.1 g (.inr e) e1))⟩
 ·obtain⟨a,b,c,d,g,e1,e2,e3⟩:=h.h5 e;exact⟨a,b,c,d,g,e1,e2,e3.kx x (hX g (hl.2 g e e1))⟩
theorem LD.O.lw{l:LD}{w:World}{B M:Nat}(h:l.O w B)(hM:w.heap.size<=M):l.Lt M:=by
 refine⟨fun g e he=>?_,fun g e he=>?_⟩
 ·rcases e with e|e
  ·obtain⟨a,b,c,d,g',e1,e2,e3⟩:=h.h3 e;rw [he] at e1;cases e1;have:=e3.lt;omega
  ·obtain⟨a,b,c,d,g',e1,e2,e3⟩:=h.h4 e;rw [he] at e1;cases e1;have:=e3.lt;omega
 ·obtain⟨a,b,c,d,g',e1,e2,e3⟩:=h.h5 e;rw [he] at e1;cases e1;have:=e3.lt;omega
theorem a8.base{w:World}{a b n:Nat}{v:Value}{xs:List PK}(h:a8 w b v n xs)(hab:a<=b):a8 w a v n xs:=
 ⟨h.1,h.2.imp id (fun⟨g,cap,cur,e,hg,r⟩=>⟨g,cap,cur,e,Nat.le_trans hab hg,r⟩)⟩
theorem dN.lens{σ:Type}{cap:Int}{ps:List PK}{T:Nat}{Ch:RS σ->Int->σ->Prop}{sg0:σ}{done:List Int}{sent:List (List Int)}(hv:aM ps)(hc:1<=cap)(h:dN cap 2 ps T Ch sg0 done sent):done.length=ps.length/\sent.length=2/\∀l∈sent,l.length=T+1:=by
 obtain⟨s,hm,hoff,ht,rfl,rfl⟩:=h;have ok:=hm.ok hv hc;refine⟨ok.ld,ok.ls,fun l hl=>?_⟩
 obtain⟨c,hc⟩:=List.getElem?_of_mem hl;have:=ok.lr c l hc
 rw [hoff,ht] at this
 simpa using this
theorem j0.lens{k cap:Int}{ws tb:List Int}{ps:List PK}{T:Nat}{done:List Int}{sent:List (List Int)}(hv:aM ps)(hc:1<=cap)(h:j0 k cap ws tb ps T done sent):done.length=ps.length/\sent.length=2/\∀l∈sent,l.length=T+1:=by
 rcases h with ⟨_,h⟩|⟨_,h⟩|⟨_,h⟩|⟨_,h⟩|⟨_,h⟩ <;> exact h.lens hv hc
theorem vE(p:Nat)(w:World)(hS:bQ w p) :
 Calls Tryz.prog 15 #[.pointer (some ⟨p,0,none⟩)] w fun e w'=>∃l:LD,l.O w' w.heap.size/\e = .returned (.agg #[.int .i64 l.k,.int .i64 l.cap,.int .i64 2,.slice l.AW l.nW l.cW,.slice l.AS l.nS l.cS])/\bQ w' p/\bI w.heap.size p w w':=
 (F4 p w hS).mono (fun e w' ⟨k,cap,AW,AS,nW,cW,nS,cS,ws,tb,h1,h2,h3,h4⟩=>⟨⟨k,cap,AW,AS,nW,cW,nS,cS,ws,tb⟩,h1,h2,h3,h4⟩)
abbrev TC(l1 l2:LD)(vp vq d1 s1 d2 s2 vf:Value)(ok:Bool):Array Value:=
 #[.int .i64 l1.k,.int .i64 l1.cap,.int .i64 2,.slice l1.AW l1.nW l1.cW,.slice l1.AS l1.nS l1.cS,.int .i64 l2.k,.int .i64 l2.cap,.int .i64 2,.slice l2.AW l2.nW l2.cW,.slice l2.AS l2.nS l2.cS,vp,vq,d1,s1,d2,s2,vf,.bool ok]
abbrev bK:Value:=.slice none 0 0
structure i6(w wr:World)(p R T:Nat)(l1 l2:LD)(vp:Value)(ps:List PK):Prop where
 s:bQ wr p
 kp:bI w.heap.size p w wr
 hp:p<w.heap.size
 hR:R=w.heap.size
 rb:aC wr R 80 #[.int .i64 0,.int .i64 0,.int .i64 0,.slice none 0 0,.slice none 0 0,.int .i64 0,.int .i64 0,.int .i64 0,.slice none 0 0,.slice none 0 0,.slice none 0 0,.slice none 0 0,.slice none 0 0,.slice none 0 0,.slice none 0 0,.slice none 0 0,.slice none 0 0,.bool false]
 hT:R<T
 o1:l1.O wr (R+1)
 t1:l1.Lt T
 o2:l2.O wr (R+1)
 t2:l2.Lt T
 po:a8 wr (R+1) vp ps.length ps
 pl:∀g,vp.ownBlock=some g->g<T
section
variable{w wr wx:World}{p R T:Nat}{l1 l2:LD}{vp:Value}{ps:List PK}
theorem i6.kx{X:Nat->Prop}(h:i6 w wr p R T l1 l2 vp ps)(k:KX X wr wx)(hX:∀j,X j->T<=j):i6 w wx p R T l1 l2 vp ps:=by
 have hT:=h.hT;have hp:=h.hp;have hR:=h.hR;exact⟨h.s.kx k (fun j hj e=>by have:=hX j e;omega),h.kp.kx k (Nat.le_refl _) (fun j hj e=>by have:=hX j e;omega),hp,hR,h.rb.kx k (fun e=>by have:=hX _ e;omega),hT,h.o1.kxa k h.t1 hX,h.t1,h.o2.kxa k h.t2 hX,h.t2,h.po.kx k (fun g hg e=>by have:=hX g e;have:=h.pl g hg;omega),h.pl⟩
theorem i6.below(h:i6 w wr p R T l1 l2 vp ps)(hb:Below wr.heap.size wr wx):i6 w wx p R T l1 l2 vp ps:=h.kx (X:=fun _=>False) (KX.of hb) (fun _ h=>h.elim)
theorem i6.kept(h:i6 w wr p R T l1 l2 vp ps)(hs:bQ wx p)(hk:bI wr.heap.size p wr wx):i6 w wx p R T l1 l2 vp ps:=by
 have hT:=h.hT;have hp:=h.hp;have hR:=h.hR;have k:=KX.ofKept hk;exact⟨hs,lL h.kp hk,hp,hR,h.rb.kx k (fun e=>by omega),hT,cJ.kx h.o1 k (fun j hj e=>by omega),h.t1,cJ.kx h.o2 k (fun j hj e=>by omega),h.t2,h.po.kx k (fun g hg e=>by have:=(h.po.blk g hg).1;omega),h.pl⟩
end
theorem a8.lst2{w:World}{base n:Nat}{v:Value}{xs:List PK}(h:a8 w base v n xs):∃A c,v = .slice A n c/\bN w A n c xs/\(A=none\/∃g o,A=some ⟨g,o,none⟩)/\(A=none->n=0/\c=0):=h.form2
structure mS(w wr:World)(l1 l2:LD)(A1 A2:Option Addr)(c1 c2 gD1 gD2:Nat)(vf:Value)(ps q:List PK)(done1 done2:List Int):Prop where
 o1:l1.O wr w.heap.size
 o2:l2.O wr w.heap.size
 tp:bN wr A1 ps.length c1 ps
 tq:bN wr A2 q.length c2 q
 d1:aN wr gD1 done1
 d2:aN wr gD2 done2
 f:Own wr w.heap.size vf (bO ps done1 ps.length).length ((bO ps done1 ps.length).map AR.ix)
 p5:gY 9 ps
 sq:Sm q
 lq:q.length<=15
 sel:aX 0 q=(bO ps done1 ps.length).map AR.p
 r1:∃sent,j0 l1.k l1.cap l1.ws l1.tb ps 150 done1 sent
 r2:∃sent,j0 l2.k l2.cap l2.ws l2.tb q 300 done2 sent
def D7(p:Nat)(w:World)(e:Ending)(w':World):Prop:=
 ∃(l1 l2:LD) (A1 A2:Option Addr) (c1 c2 gD1 gS1 gD2 gS2:Nat) (vf:Value) (ps q:List PK) (done1 done2:List Int),mS w w' l1 l2 A1 A2 c1 c2 gD1 gD2 vf ps q done1 done2/\
  e = .returned (.agg (TC l1 l2 (.slice A1 ps.length c1) (.slice A2 q.length c2) (.slice (some ⟨gD1,0,none⟩) ps.length ps.length) (.slice (some ⟨gS1,0,none⟩) 2 2) (.slice (some ⟨gD2,0,none⟩) q.length q.length) (.slice (some ⟨gS2,0,none⟩) 2 2) vf true))/\bQ w' p/\bI w.heap.size p w w'
theorem a26{w:World}{base n:Nat}{v:Value}{xs:List PK}(h:a8 w base v n xs)(x:PK)(g:Nat)(hg:aC w g 71 #[.int .i64 x.fl,.int .i64 x.tm,.int .i64 x.sz])(hbase:base<=w.heap.size)(hn:n<=10000) :
 ∃v' w',(Builtin.append_ #[46,46] 46 #[v,.slice (some ⟨g,0,none⟩) 1 1]).run Tryz.prog w = .ok v' w'/\a8 w' base v' (n+1) (xs ++ [x])/\KX (fun k=>some k=v.ownBlock) w w'/\(v'.ownBlock=v.ownBlock\/v'.ownBlock=some w.heap.size):=by
 obtain⟨i0,hi0,hz0,hz1,hz2⟩:=info_parts nC;obtain⟨v',w',hrun,h2,h3,_,h5⟩:=run_append_own_at (P:=Tryz.prog) (w:=w) base 46 46 71 i0 (.agg #[.int .i64 0,.int .i64 0,.int .i64 0]) 3 24 Tryz.underlying46 hi0 hz0 hz1 hz2 rfl (by omega) v n _ h ⟨g,0,none⟩ 1 1 x.cells rfl (by
  intro j u hu;have hj:j<3:=by
   rcases Nat.lt_or_ge j 3 with h'|h'
   ·exact h'
   ·rw [List.getElem?_eq_none (by exact h')] at hu;cases hu
  have hb:=hg.cell j;have e:(Addr.add ⟨g,0,none⟩ j)=⟨g,j,none⟩:=by
   unfold Addr.add;split
   ·rename_i h0;subst h0;rfl
   ·simp
  rw [e,hb,<- hu];have:j=0\/j=1\/j=2:=by omega
  rcases this with rfl|rfl|rfl <;> rfl) (by
  intro u hu;simp only [PK.cells,List.mem_cons,List.not_mem_nil,or_false] at hu;rcases hu with rfl|rfl|rfl <;> rfl) (by unfold maxLen;omega) (by omega) hbase
 refine⟨v',w',hrun,?_,KX.grown h3,h5⟩
 unfold a8;rw [List.flatMap_append,List.flatMap_cons,List.flatMap_nil,List.append_nil];exact h2
theorem t9{w:World}{ops:Array Oper}{o:Oper}{a:Act}{K:Act->World->Prop}{Q:Exit->Act->World->Prop}{E:Prop}(hgd:o.guard=none)(s x:Operand)
 (ho:o.op = .call { callee:=.builtin .append,args:=#[s,x],argTypes:=#[46,46] }) (hty:o.type=46)
 (base:Nat) (v:Value) (n:Nat) (xs:List PK) (hs:a.eval s=v) (hown:a8 w base v n xs) (y:PK) (g:Nat) (hx:a.eval x = .slice (some ⟨g,0,none⟩) 1 1) (hg:aC w g 71 #[.int .i64 y.fl,.int .i64 y.tm,.int .i64 y.sz])
 (hn:n<=10000) (hbase:base<=w.heap.size)
 (h:∀v' w',a8 w' base v' (n+1) (xs ++ [y])->KX (fun k=>some k=v.ownBlock) w w'->(v'.ownBlock=v.ownBlock\/v'.ownBlock=some w.heap.size)->K (a.put o.dst v') w') :
 if Region.wanted o (yielded ops a.tmps)=true then Oper.wp Tryz.prog o a w K Q else E:=by
 have hw:Region.wanted o (yielded ops a.tmps)=true:=by simp [Region.wanted,hgd]
 rw [if_pos hw];obtain⟨v',w',hrun,h2,h3,h4⟩:=a26 hown y g hg hbase hn;unfold Oper.wp execOp;simp only [ho,hty,resolve,invoke,builtin,Sem.run_bind,Sem.run_pure,Result.andThen_ok,List.map_toArray,List.map_cons,List.map_nil,hs,hx,hrun];exact h v' w' h2 h3 h4
structure Rg(w0 wq:World)(T:Nat)(C:Array Value)(vo vf:Value)(ks:List PK)(fs:List Int):Prop where
 tb:aC wq T 80 C
 ko:a8 wq w0.heap.size vo ks.length ks
 fo:Own wq w0.heap.size vf fs.length fs
 kx:KX (fun k=>k=T) w0 wq
 ne:∀g,vo.ownBlock=some g->vf.ownBlock≠some g
 hT:T<w0.heap.size
section
variable{w0 wq wx:World}{T:Nat}{C:Array Value}{vo vf v':Value}{ks:List PK}{fs:List Int}
theorem Rg.ext(h:Rg w0 wq T C vo vf ks fs)(k:KX (fun _=>False) wq wx):Rg w0 wx T C vo vf ks fs:=
 ⟨h.tb.kx k (fun h=>h),h.ko.kx k (fun _ _ h=>h),h.fo.kx k (fun _ _ h=>h),h.kx.trans (k.mono (fun _ _ h=>h.elim)),h.ne,h.hT⟩
theorem Rg.alloc(h:Rg w0 wq T C vo vf ks fs)(o:Obj):Rg w0 (wq.alloc o) T C vo vf ks fs:=h.ext (KX.of (aF wq o))
theorem Rg.drew(h:Rg w0 wq T C vo vf ks fs):Rg w0 wq.drew T C vo vf ks fs:=h.ext ((KX.refl _ wq).drewN 1)
theorem Rg.sz(h:Rg w0 wq T C vo vf ks fs):w0.heap.size<=wq.heap.size:=h.kx.size
theorem Rg.cell(h:Rg w0 wq T C vo vf ks fs){a:Addr}{u:Value}(hc:w0.cell? a=some u)(h1:a.block<w0.heap.size)(h2:a.block≠T):wq.cell? a=some u:=
 (World.cell?_of_block (h.kx.block a.block h1 h2)).trans hc
theorem Rg.putK(h:Rg w0 wq T C vo vf ks fs){y:PK}(hk:a8 wx w0.heap.size v' (ks.length+1) (ks ++ [y]))(k:KX (fun k=>some k=vo.ownBlock) wq wx)(hv:v'.ownBlock=vo.ownBlock\/v'.ownBlock=some wq.heap.size):Rg w0 wx T C v' vf (ks ++ [y]) fs:=by
 have hT:=h.hT;have hlo:∀g,some g=vo.ownBlock->w0.heap.size<=g:=fun g hg=>(h.ko.blk g hg.symm).1
 refine⟨h.tb.kx k (fun e=>by have:=hlo _ e;omega),by rw [List.length_append];exact hk,h.fo.kx k (fun g hg e=>h.ne g e.symm hg),?_,fun g hg=>?_,hT⟩
 ·exact⟨k.os.trans h.kx.os,k.tape.trans h.kx.tape,k.output.trans h.kx.output,Nat.le_trans h.kx.size k.size,fun j hj hx=>(k.block j (Nat.lt_of_lt_of_le hj h.kx.size) (fun e=>by have:=hlo j e;omega)).trans (h.kx.block j hj hx)⟩
 ·rcases hv with e|e
  ·rw [e] at hg;exact h.ne g hg
  ·rw [e] at hg;cases hg;intro e2;have:=(h.fo.blk_lt _ e2).2
   omega
theorem Rg.putF(h:Rg w0 wq T C vo vf ks fs){y:Int}(hk:Own wx w0.heap.size v' (fs.length+1) (fs ++ [y]))(k:KX (fun k=>some k=vf.ownBlock) wq wx)(hv:v'.ownBlock=vf.ownBlock\/v'.ownBlock=some wq.heap.size):Rg w0 wx T C vo v' ks (fs ++ [y]):=by
 have hT:=h.hT;have hlo:∀g,some g=vf.ownBlock->w0.heap.size<=g:=fun g hg=>(h.fo.blk_lt g hg.symm).1
 refine⟨h.tb.kx k (fun e=>by have:=hlo _ e;omega),h.ko.kx k (fun g hg e=>h.ne g hg e.symm),by rw [List.length_append];exact hk,?_,fun g hg=>?_,hT⟩
 ·exact⟨k.os.trans h.kx.os,k.tape.trans h.kx.tape,k.output.trans h.kx.output,Nat.le_trans h.kx.size k.size,fun j hj hx=>(k.block j (Nat.lt_of_lt_of_le hj h.kx.size) (fun e=>by have:=hlo j e;omega)).trans (h.kx.block j hj hx)⟩
 ·rcases hv with e|e
  ·rw [e];exact h.ne g hg
  ·rw [e];intro e2;cases e2
   have:=(h.ko.blk _ hg).2
   omega
theorem Rg.set16{l1 l2:LD}{vp vq d1 s1 d2 s2:Value}{ok:Bool}(h:Rg w0 wq T (TC l1 l2 vp vq d1 s1 d2 s2 v' ok) vo vf ks fs):Rg w0 (wq.setCell ⟨T,16,none⟩ vf) T (TC l1 l2 vp vq d1 s1 d2 s2 vf ok) vo vf ks fs:=by
 have hT:=h.hT;have k:=bG wq T 16 vf;refine⟨h.tb.set_ 16 vf,h.ko.kx k (fun g hg e=>by have:=(h.ko.blk g hg).1;omega),h.fo.kx k (fun g hg e=>by have:=(h.fo.blk_lt g hg).1;omega),h.kx.trans k,h.ne,hT⟩
end
structure C1(w0:World)(T gO gI:Nat)(as':List AR):Prop where
 o:fQ w0 gO 0 (as'.map AR.p)
 i:aN w0 gI (as'.map AR.ix)
 ho:gO≠T
 hi:gI≠T
section
variable{w wr wx:World}{p R T:Nat}{l1 l2:LD}{vp:Value}{ps:List PK}
theorem i6.fin(h:i6 w wr p R T l1 l2 vp ps)(k:KX (fun j=>j=R) wr wx):bQ wx p/\bI w.heap.size p w wx/\l1.O wx w.heap.size/\l2.O wx w.heap.size/\a8 wx w.heap.size vp ps.length ps:=by
 have hT:=h.hT;have hp:=h.hp;have hR:=h.hR;exact⟨h.s.kx k (fun j hj e=>by omega),h.kp.kx k (Nat.le_refl _) (fun j hj e=>by omega),cJ.base (cJ.kx h.o1 k (fun j hj e=>by omega)) (by omega),cJ.base (cJ.kx h.o2 k (fun j hj e=>by omega)) (by omega),(h.po.kx k (fun g hg e=>by have:=(h.po.blk g hg).1;omega)).base (by omega)⟩
end
theorem Own.base{w:World}{a b n:Nat}{v:Value}{xs:List Int}(h:Own w b v n xs)(hab:a<=b):Own w a v n xs:=
 ⟨h.1,h.2.imp id (fun⟨g,cap,cur,e,hg,r⟩=>⟨g,cap,cur,e,Nat.le_trans hab hg,r⟩)⟩
theorem a2p{w:World}{g:Nat}{t:TypeId}{old cs:Array Value}(h:aC w g t old):aC (w.setRow g cs) g t cs:=setRow_heap w g old cs t (0,0) h
theorem a2q(w:World)(g:Nat)(cs:Array Value):KX (fun k=>k=g) w (w.setRow g cs):=⟨rfl,rfl,rfl,by simp [World.setRow],fun k _ hk=>setRow_other w g k cs hk⟩
attribute [local go_sem ↓] pZ in
theorem a1c(p:Nat)(w:World)(hS:bQ w p) :
 Calls Tryz.prog 31 #[.pointer (some ⟨p,0,none⟩)] w (D7 p w):=by
 have hpl:=hS.lt;have S1:=aA (hS.alloc (.cells #[.int .i64 0,.int .i64 0,.int .i64 0,.slice none 0 0,.slice none 0 0,.int .i64 0,.int .i64 0,.int .i64 0,.slice none 0 0,.slice none 0 0,.slice none 0 0,.slice none 0 0,.slice none 0 0,.slice none 0 0,.slice none 0 0,.slice none 0 0,.slice none 0 0,.bool false] 80));have B1:=aA (aF w (.cells #[.int .i64 0,.int .i64 0,.int .i64 0,.slice none 0 0,.slice none 0 0,.int .i64 0,.int .i64 0,.int .i64 0,.slice none 0 0,.slice none 0 0,.slice none 0 0,.slice none 0 0,.slice none 0 0,.slice none 0 0,.slice none 0 0,.slice none 0 0,.slice none 0 0,.bool false] 80));have RB:=aA (aC.new w 80 #[.int .i64 0,.int .i64 0,.int .i64 0,.slice none 0 0,.slice none 0 0,.int .i64 0,.int .i64 0,.int .i64 0,.slice none 0 0,.slice none 0 0,.slice none 0 0,.slice none 0 0,.slice none 0 0,.slice none 0 0,.slice none 0 0,.slice none 0 0,.slice none 0 0,.bool false]);have hz1:(w.alloc (.cells #[.int .i64 0,.int .i64 0,.int .i64 0,.slice none 0 0,.slice none 0 0,.int .i64 0,.int .i64 0,.int .i64 0,.slice none 0 0,.slice none 0 0,.slice none 0 0,.slice none 0 0,.slice none 0 0,.slice none 0 0,.slice none 0 0,.slice none 0 0,.slice none 0 0,.bool false] 80)).heap.size=w.heap.size+1:=World.size_alloc w _;clear hS;go_enter Tryz.func31,Tryz.ntmps31
 go_upto_region 1 with fail
 generalize hwe:w.alloc _=w1 at *;clear hwe;go_wp2_with fail
 refine(vE p w1 S1.out).mono ?_;rintro e w2 ⟨l1,hl1,rfl,hS2,hk2⟩;go_wp2_with fail
 refine(vE p w2 hS2).mono ?_;rintro e w3 ⟨l2,hl2,rfl,hS3,hk3⟩;go_wp2_with fail
 refine(zS p 9 w3 hS3 (by omega)).mono ?_;rintro e w4 ⟨vp,m,ps,hP5,rfl,hko,hS4,hk4⟩;obtain rfl:=hko.len;obtain⟨Ap,cp,rfl,-,hfp⟩:=hko.form2;have P5:=aA hP5;have PV:=aA (hP5.sm (by omega));have hz2:=hk2.size;have hz3:=hk3.size;have hz4:=hk4.size;obtain⟨T,hTe⟩:∃T,T=w4.heap.size:=⟨_,rfl⟩
 have D:=aA (show i6 w (w4.alloc (.cells (TC l1 l2 (.slice Ap ps.length cp) bK bK bK bK bK bK false) 80)) p w.heap.size T l1 l2 (.slice Ap ps.length cp) ps from by
  have hb:=aF w4 (.cells (TC l1 l2 (.slice Ap ps.length cp) bK bK bK bK bK bK false) 80);have k4:=KX.ofKept hk4;have k3:=KX.ofKept hk3;have k2:=KX.ofKept hk2;have kb:=KX.of (X:=fun k=>k=p) hb;exact⟨hS4.ext hb,Y4 (lL (lL (lL (bI.of B1.out) hk2) hk3) hk4) hb,hpl,rfl,(((RB.out.kx k2 (by omega)).kx k3 (by omega)).kx k4 (by omega)).kx kb (by omega),by omega,
   cJ.kx (cJ.kx (cJ.kx (cJ.base hl1 (by omega)) k3 (fun j hj e=>by omega)) k4 (fun j hj e=>by omega)) kb (fun j hj e=>by omega),hl1.lw (by omega),
   cJ.kx (cJ.kx (cJ.base hl2 (by omega)) k4 (fun j hj e=>by omega)) kb (fun j hj e=>by omega),hl2.lw (by omega),(hko.base (by omega)).kx kb (fun g hg e=>by have:=(hko.blk g hg).1;omega),fun g hg=>by have:=(hko.blk g hg).2;omega⟩)
 have TB:=aA (show aC (w4.alloc (.cells (TC l1 l2 (.slice Ap ps.length cp) bK bK bK bK bK bK false) 80)) T 80 (TC l1 l2 (.slice Ap ps.length cp) bK bK bK bK bK bK false) from by rw [hTe];exact aC.new _ _ _);clear hl1 hl2 hS2 hS3 hS4 hk2 hk3 hk4 hko hP5 hz1 hz2 hz3 hz4 B1 S1 RB;go_upto_region 3 with fail
 rw [<- hTe];generalize hwe:w4.alloc _=w5 at *;clear hwe hTe;obtain⟨Ap',cp',e,hls,-,-⟩:=D.out.po.lst2;cases e
 obtain⟨c0,c1,c2,c3,c4,c10⟩:_/\_/\_/\_/\_/\_:=⟨TB.out.cell 0,TB.out.cell 1,TB.out.cell 2,TB.out.cell 3,TB.out.cell 4,TB.out.cell 10⟩
 simp at c0 c1 c2 c3 c4 c10;have hlt:=TB.out.lt;go_wp2_with fail
 refine(xH (ticks:=150) D.out.o1 hls PV.out.v PV.out.fl (by omega)).mono ?_;rintro e w6 ⟨done,sent,gD,gS,gcs,hR,rfl,hd,hs,hh,hb⟩;have HR:=aA hR;have DN:=aA (hR.dn PV.out.v PV.out.fl (by have:=D.out.o1.c1;omega) (by omega));have HL:=aA (hR.lens PV.out.v (by have:=D.out.o1.c1;omega));replace D:=aA (D.out.below hb);have hTD:T<gD/\T<gS:=by omega
 have hTG:∀(c g:Nat),gcs[c]?=some g->T<g:=fun c g hg=>by have:=hh.2.2 c g hg;omega
 have TB6:=TB.out.below hb TB.out.lt;clear c0 c1 c2 c3 c4 c10 hlt hR hls hh hb TB;have c12:=TB6.cell 12;have c13:=TB6.cell 13;have z12:=TB6.frozen 12;have z13:=TB6.frozen 13;simp at c12 c13;have hlt:=TB6.lt;go_upto_region 4 with fail
 have K7:=(bG w6 T 12 (.slice (some ⟨gD,0,none⟩) ps.length ps.length)).trans (bG _ T 13 (.slice (some ⟨gS,0,none⟩) 2 2));have TB:=aA (show aC ((w6.setCell ⟨T,12,none⟩ (.slice (some ⟨gD,0,none⟩) ps.length ps.length)).setCell ⟨T,13,none⟩ (.slice (some ⟨gS,0,none⟩) 2 2)) T 80 (TC l1 l2 (.slice Ap ps.length cp) bK (.slice (some ⟨gD,0,none⟩) ps.length ps.length) (.slice (some ⟨gS,0,none⟩) 2 2) bK bK bK false) from(TB6.set_ 12 (.slice (some ⟨gD,0,none⟩) ps.length ps.length)).set_ 13 (.slice (some ⟨gS,0,none⟩) 2 2));replace D:=aA (D.out.kx K7 (fun j e=>by omega));have HD:=aA (hd.kx K7 (by omega));have HS:=aA (hs.kx K7 (by omega) (fun c g hg e=>by have:=hTG c g hg;omega));have HTD:=aA (show T<gD from by omega);clear K7 TB6 hd hs hTD hTG c12 c13 z12 z13 hlt;generalize hwe:(w6.setCell ⟨T,12,none⟩ _).setCell ⟨T,13,none⟩ _=w7 at *;clear hwe;obtain⟨Ap',cp',e,hls,-,-⟩:=D.out.po.lst2;cases e
 obtain⟨c10,c12,c13⟩:_/\_/\_:=⟨TB.out.cell 10,TB.out.cell 12,TB.out.cell 13⟩
 simp at c10 c12 c13;have hlt:=TB.out.lt;go_wp2_with fail
 refine(zB Ap ps.length cp gD gS 2 150 gcs done sent w7 HS.out HL.out.2.1 HL.out.2.2 (by omega) (by omega)).mono ?_;rintro e w8 ⟨rfl,hb⟩;replace D:=aA (D.out.below hb);replace TB:=aA (TB.out.below hb TB.out.lt);replace HD:=aA (HD.out.below hb HD.out.lt);clear hb HS hls c10 c12 c13 hlt;go_upto_region 6 with fail
 obtain⟨Ap',cp',e,hls,-,-⟩:=D.out.po.lst2;cases e
 obtain⟨c10,c12,c13⟩:_/\_/\_:=⟨TB.out.cell 10,TB.out.cell 12,TB.out.cell 13⟩
 simp at c10 c12 c13;have hlt:=TB.out.lt;go_wp2_with fail
 refine(U4 Ap ps.length cp gD ps done w8 hls PV.out.v HD.out DN.out.d (by have:=P5.out.len;omega)).mono ?_;rintro e w9 ⟨as',gO,gI,hS,rfl,hO,hI,h1,h2,hb⟩;have NX:=aA (DN.out.next (fun x hx=>by have:=P5.out.g x hx;omega) hS);have hTl:=TB.out.lt;replace D:=aA (D.out.below hb);replace TB:=aA (TB.out.below hb TB.out.lt);replace HD:=aA (HD.out.below hb HD.out.lt);have NB:=aA (show C1 w9 T gO gI as' from⟨hO,hI,by omega,by omega⟩);have hle:=NX.out.len;have hl9:=P5.out.len;clear hb hS hO hI h1 h2 hls c10 c12 c13 hlt hTl;have RG:=aA (show Rg w9 w9 T (TC l1 l2 (.slice Ap ps.length cp) bK (.slice (some ⟨gD,0,none⟩) ps.length ps.length) (.slice (some ⟨gS,0,none⟩) 2 2) bK bK bK false) bK bK ((a0 (as'.take 0)).map AR.p) ((a0 (as'.take 0)).map AR.ix) from
  ⟨TB.out,a8.nil_ _ _,Own.nil_ _ _,KX.refl _ _,(fun g hg=>by cases hg),TB.out.lt⟩)
 have d0:((as'.length:Int) != (as'.length:Int))=false:=by simp
 go_wp2_with fail
 go_loopg [10,64] as'.length (fun gg s10 s64 wr=>∃(i:Nat) (vf:Value),i+gg=as'.length/\s64 = .int .i64 i/\Hid (Rg w9 wr T (TC l1 l2 (.slice Ap ps.length cp) bK (.slice (some ⟨gD,0,none⟩) ps.length ps.length) (.slice (some ⟨gS,0,none⟩) 2 2) bK bK vf false) s10 vf ((a0 (as'.take i)).map AR.p) ((a0 (as'.take i)).map AR.ix)))
 case atStart=>exact⟨0,bK,by omega,rfl,RG⟩
 case round=>
  clear RG d0;obtain⟨i,vf,hig,rfl,RG⟩:=hrel;by_cases hi:i<as'.length
  case pos=>
   have hii:(i:Int)<as'.length:=by omega
   obtain⟨a,ha⟩:∃a,as'[i]?=some a:=⟨_,List.getElem?_eq_getElem hi⟩
   have hpa:(as'.map AR.p)[i]?=some a.p:=by rw [List.getElem?_map,ha];rfl
   have n0:=NB.out.o.cell i 0 a.p hpa (by omega);have n1:=NB.out.o.cell i 1 a.p hpa (by omega);have n2:=NB.out.o.cell i 2 a.p hpa (by omega);have n3:=NB.out.i.cell i (by rw [List.length_map];exact hi);have e3:aB (as'.map AR.ix) i=a.ix:=by simp [aB,ha]
   rw [e3] at n3;replace n0:w9.cell? ⟨gO,0+i*3,none⟩=some (.int .i64 a.p.fl):=n0;replace n1:w9.cell? ⟨gO,0+i*3+1,none⟩=some (.int .i64 a.p.tm):=n1;replace n2:w9.cell? ⟨gO,0+i*3+2,none⟩=some (.int .i64 a.p.sz):=n2;rw [Nat.zero_add] at n0 n1 n2;have N0:=aA n0;have N1:=aA n1;have N2:=aA n2;have N3:=aA n3;have HA:=aA ha;have m0:=RG.out.cell n0 NB.out.o.lt NB.out.ho;have hlo:gO<wr.heap.size:=Nat.lt_of_lt_of_le NB.out.o.lt RG.out.sz;clear n0 n1 n2 n3 e3 hpa;by_cases hz:a.p.fl=0
   case neg=>
    have e0:decide (a.p.fl=0)=false:=decide_eq_false hz;have RG2:=aA (show Rg w9 wr T (TC l1 l2 (.slice Ap ps.length cp) bK (.slice (some ⟨gD,0,none⟩) ps.length ps.length) (.slice (some ⟨gS,0,none⟩) 2 2) bK bK vf false) u10 vf ((a0 (as'.take (i+1))).map AR.p) ((a0 (as'.take (i+1))).map AR.ix) from by
     rw [pS ha,if_neg hz,List.append_nil];exact RG.out)
    clear RG;go_wp2_with fail
    go_roundg (gk-1)
    case measure=>omega
    case rel=>exact⟨i+1,vf,by omega,by go_num,RG2⟩
   case pos=>
    have e0:decide (a.p.fl=0)=true:=decide_eq_true hz;obtain⟨ks,hks⟩:∃ks,ks=(a0 (as'.take i)).map AR.p:=⟨_,rfl⟩
    obtain⟨fs,hfs⟩:∃fs,fs=(a0 (as'.take i)).map AR.ix:=⟨_,rfl⟩
    have hR:=RG.out;rw [<- hks,<- hfs] at hR;replace RG:=aA hR;have HKS:=aA hks;have HFS:=aA hfs;clear hR hks hfs;have HKN:=aA (show ks.length<=10000 from by
     rw [HKS.out,List.length_map];have h1:(a0 (as'.take i)).length<=(as'.take i).length:=List.length_filter_le _ _;rw [List.length_take] at h1;omega)
    have HFN:=aA (show fs.length+1<=100000000 from by
     have:=HKN.out
     rw [HKS.out,List.length_map] at this;rw [HFS.out,List.length_map];omega)
    have HTL:=aA (show ∀g,u10.ownBlock=some g->g<wr.heap.size from fun g hg=>(RG.out.ko.blk g hg).2);obtain⟨vA,vc,hvf,-,-,-⟩:=RG.out.fo.ints;have HVF:=aA hvf;clear hvf;go_upto_region 14 with fail
    have hF:wr.cell? ⟨gO,i*3,none⟩=some (.int .i64 a.p.fl)/\wr.cell? ⟨gO,i*3+1,none⟩=some (.int .i64 a.p.tm)/\wr.cell? ⟨gO,i*3+2,none⟩=some (.int .i64 a.p.sz)/\wr.cell? ⟨gI,i,none⟩=some (.int .i64 a.ix):=⟨RG.out.cell N0.out NB.out.o.lt NB.out.ho,RG.out.cell N1.out NB.out.o.lt NB.out.ho,RG.out.cell N2.out NB.out.o.lt NB.out.ho,RG.out.cell N3.out NB.out.i.lt NB.out.hi⟩
    have hG:wr.cell? ⟨T,16,none⟩=some vf:=by simpa using RG.out.tb.cell 16
    refine a5o (fun w'=>w'.cell? ⟨gO,i*3,none⟩=some (.int .i64 a.p.fl)/\w'.cell? ⟨gO,i*3+1,none⟩=some (.int .i64 a.p.tm)/\w'.cell? ⟨gO,i*3+2,none⟩=some (.int .i64 a.p.sz)/\w'.cell? ⟨gI,i,none⟩=some (.int .i64 a.ix)) (fun w'=>w'.cell? ⟨T,16,none⟩=some vf) 17 (by kernel_rfl) (by exact hF) (by exact hG) (fun _=>?_);replace RG:=aA RG.out.drew;have HSW:=aA (show wr.heap.size<=wr.drew.heap.size from Nat.le_refl _);have HZ:=aA hz;clear m0 hlo hF hG e0 hz;have hF:wr.drew.cell? ⟨gO,i*3,none⟩=some (.int .i64 a.p.fl)/\wr.drew.cell? ⟨gO,i*3+1,none⟩=some (.int .i64 a.p.tm)/\wr.drew.cell? ⟨gO,i*3+2,none⟩=some (.int .i64 a.p.sz)/\wr.drew.cell? ⟨gI,i,none⟩=some (.int .i64 a.ix):=⟨RG.out.cell N0.out NB.out.o.lt NB.out.ho,RG.out.cell N1.out NB.out.o.lt NB.out.ho,RG.out.cell N2.out NB.out.o.lt NB.out.ho,RG.out.cell N3.out NB.out.i.lt NB.out.hi⟩
    have hG:wr.drew.cell? ⟨T,16,none⟩=some vf:=by simpa using RG.out.tb.cell 16
    generalize hwd:wr.drew=wd at *;clear hwd;refine gK 0 ?_;refine gK 1 ?_;refine gK 2 ?_;refine gK 3 ?_;refine gK 4 ?_;refine gK 7 ?_;refine ttG 8 ?_;refine gK 9 ?_;refine gK 10 ?_;refine gK 11 ?_;refine gK 12 ?_;refine uH (rs:=[5,13]) (by kernel_rfl) (by simp) ?_;refine(gV.cons (by simp only [fT,fU,fV];rfl) (fun K hK=>?_) (gV.cons (by simp only [fT,fU,fV];rfl) (fun K hK=>?_) gV.nil))
    ·
     rw [if_pos (by rfl)];go_simp
     have ba:=aF wd (.cells #[.int .i64 a.p.fl,.int .i64 a.p.tm,.int .i64 a.p.sz] 71);have LK:=aC.new wd 71 #[.int .i64 a.p.fl,.int .i64 a.p.tm,.int .i64 a.p.sz]
     try (replace LF:=aA (LF.out.kx (X:=fun _=>False) (KX.of ba) (fun h=>h)))
     replace RG:=aA (RG.out.alloc (.cells #[.int .i64 a.p.fl,.int .i64 a.p.tm,.int .i64 a.p.sz] 71));replace HSW:=aA (Nat.le_trans HSW.out ba.size);clear ba hF hG;obtain⟨zK,hzK⟩:∃g,g=wd.heap.size:=⟨_,rfl⟩
     rw [<- hzK] at LK;simp only [<- hzK];replace LK:=aA LK;clear hzK;generalize hwx:wd.alloc (.cells #[.int .i64 a.p.fl,.int .i64 a.p.tm,.int .i64 a.p.sz] 71)=wa at *;clear hwx;have hF:wa.cell? ⟨gO,i*3,none⟩=some (.int .i64 a.p.fl)/\wa.cell? ⟨gO,i*3+1,none⟩=some (.int .i64 a.p.tm)/\wa.cell? ⟨gO,i*3+2,none⟩=some (.int .i64 a.p.sz)/\wa.cell? ⟨gI,i,none⟩=some (.int .i64 a.ix):=⟨RG.out.cell N0.out NB.out.o.lt NB.out.ho,RG.out.cell N1.out NB.out.o.lt NB.out.ho,RG.out.cell N2.out NB.out.o.lt NB.out.ho,RG.out.cell N3.out NB.out.i.lt NB.out.hi⟩
     have hG:wa.cell? ⟨T,16,none⟩=some vf:=by simpa using RG.out.tb.cell 16
     refine hK.out _ _ ⟨(by exact hF),fun _=>(by exact hG)⟩ (fun _=>?_);clear hK K
     (try simp only [Act.put]);try simp only [dC,dD,dE]
     refine uH (rs:=[6,13]) (by kernel_rfl) (by simp) ?_;refine(gV.cons (by simp only [fT,fU,fV];rfl) (fun K hK=>?_) (gV.cons (by simp only [fT,fU,fV];rfl) (fun K hK=>?_) gV.nil))
     ·
      refine t9 (by rfl) _ _ (by rfl) (by rfl) w9.heap.size u10 ks.length ks (by rfl) RG.out.ko a.p zK (by rfl) LK.out HKN.out RG.out.sz ?_;intro vo2 wb ko2 kx2 at2
      try (replace LF:=aA (LF.out.kx kx2 (fun e=>by have h1:=HTL.out zF e.symm;have h2:=ZF.out;omega)))
      replace RG:=aA (RG.out.putK ko2 kx2 at2);replace HSW:=aA (Nat.le_trans HSW.out kx2.size);clear ko2 kx2 at2 hF hG LK;have hF:wb.cell? ⟨gO,i*3,none⟩=some (.int .i64 a.p.fl)/\wb.cell? ⟨gO,i*3+1,none⟩=some (.int .i64 a.p.tm)/\wb.cell? ⟨gO,i*3+2,none⟩=some (.int .i64 a.p.sz)/\wb.cell? ⟨gI,i,none⟩=some (.int .i64 a.ix):=⟨RG.out.cell N0.out NB.out.o.lt NB.out.ho,RG.out.cell N1.out NB.out.o.lt NB.out.ho,RG.out.cell N2.out NB.out.o.lt NB.out.ho,RG.out.cell N3.out NB.out.i.lt NB.out.hi⟩
      have hG:wb.cell? ⟨T,16,none⟩=some vf:=by simpa using RG.out.tb.cell 16
      refine hK.out _ _ ⟨(by exact hF),fun _=>(by exact hG)⟩ (fun _=>?_);clear hK K
      (try simp only [Act.put]);try simp only [dC,dD,dE]
      refine kA 13 (fun K hK=>?_);rw [if_pos (by rfl)];go_simp
      have ba:=aF wb (.cells #[.int .i64 a.ix] 3);have LF:aN (wb.alloc (.cells #[.int .i64 a.ix] 3)) wb.heap.size [a.ix]:=aC.new wb 3 #[.int .i64 a.ix];have ZF:=HSW
      try (replace LK:=aA (LK.out.kx (X:=fun _=>False) (KX.of ba) (fun h=>h)))
      replace RG:=aA (RG.out.alloc (.cells #[.int .i64 a.ix] 3));replace HSW:=aA (Nat.le_trans HSW.out ba.size);clear ba hF hG;obtain⟨zF,hzF⟩:∃g,g=wb.heap.size:=⟨_,rfl⟩
      rw [<- hzF] at LF ZF;simp only [<- hzF];replace LF:=aA LF;clear hzF;generalize hwx:wb.alloc (.cells #[.int .i64 a.ix] 3)=wc at *;clear hwx;have hF:wc.cell? ⟨gO,i*3,none⟩=some (.int .i64 a.p.fl)/\wc.cell? ⟨gO,i*3+1,none⟩=some (.int .i64 a.p.tm)/\wc.cell? ⟨gO,i*3+2,none⟩=some (.int .i64 a.p.sz)/\wc.cell? ⟨gI,i,none⟩=some (.int .i64 a.ix):=⟨RG.out.cell N0.out NB.out.o.lt NB.out.ho,RG.out.cell N1.out NB.out.o.lt NB.out.ho,RG.out.cell N2.out NB.out.o.lt NB.out.ho,RG.out.cell N3.out NB.out.i.lt NB.out.hi⟩
      have hG:wc.cell? ⟨T,16,none⟩=some vf:=by simpa using RG.out.tb.cell 16
      refine hK.out _ _ ⟨(by exact hF),fun _=>(by exact hG)⟩ (fun _=>?_);clear hK K
      (try simp only [Act.put]);try simp only [dC,dD,dE]
      refine kA 14 (fun K hK=>?_);refine t8 (by rfl) _ _ 22 (by rfl) Tryz.underlying22 w9.heap.size vf fs.length fs (by rfl) RG.out.fo wc.heap.size (some ⟨zF,0,none⟩) 1 1 [a.ix] (by rfl) (aN.ints LF.out) HFN.out RG.out.sz ?_;intro vf2 wq own2 iD at2;obtain⟨zA,zc,rfl,-,-,-⟩:=own2.ints;replace RG:=aA (RG.out.putF own2 (KX.grown iD) at2);clear own2 iD at2 hF hG LF;have hF:wq.cell? ⟨gO,i*3,none⟩=some (.int .i64 a.p.fl)/\wq.cell? ⟨gO,i*3+1,none⟩=some (.int .i64 a.p.tm)/\wq.cell? ⟨gO,i*3+2,none⟩=some (.int .i64 a.p.sz)/\wq.cell? ⟨gI,i,none⟩=some (.int .i64 a.ix):=⟨RG.out.cell N0.out NB.out.o.lt NB.out.ho,RG.out.cell N1.out NB.out.o.lt NB.out.ho,RG.out.cell N2.out NB.out.o.lt NB.out.ho,RG.out.cell N3.out NB.out.i.lt NB.out.hi⟩
      have hG:wq.cell? ⟨T,16,none⟩=some vf:=by simpa using RG.out.tb.cell 16
      refine hK.out _ _ ⟨(by exact hF),fun _=>(by exact hG)⟩ (fun _=>?_);clear hK K
      (try simp only [Act.put]);try simp only [dC,dD,dE]
      refine gK 15 ?_;refine gK 16 ?_;refine kA 17 (fun K hK=>?_);obtain⟨q16,z16,hlp⟩:_/\_/\_:=⟨RG.out.tb.cell 16,RG.out.tb.frozen 16,RG.out.tb.lt⟩
      simp at q16;rw [if_pos (by rfl)];go_simp
      clear hF;replace RG:=aA (RG.out.set16);clear q16 z16 hlp hG;generalize hws:wq.setCell ⟨T,16,none⟩ _=ws at *;clear hws;have hF:ws.cell? ⟨gO,i*3,none⟩=some (.int .i64 a.p.fl)/\ws.cell? ⟨gO,i*3+1,none⟩=some (.int .i64 a.p.tm)/\ws.cell? ⟨gO,i*3+2,none⟩=some (.int .i64 a.p.sz)/\ws.cell? ⟨gI,i,none⟩=some (.int .i64 a.ix):=⟨RG.out.cell N0.out NB.out.o.lt NB.out.ho,RG.out.cell N1.out NB.out.o.lt NB.out.ho,RG.out.cell N2.out NB.out.o.lt NB.out.ho,RG.out.cell N3.out NB.out.i.lt NB.out.hi⟩
      refine hK.out _ _ ⟨(by exact hF),fun h=>Bool.noConfusion (show true=false from h)⟩ (fun _=>?_);clear hK K
      (try simp only [Act.put]);try simp only [dC,dD,dE]
      refine uG (by kernel_rfl) ?_ _;have RG2:=aA (show Rg w9 ws T (TC l1 l2 (.slice Ap ps.length cp) bK (.slice (some ⟨gD,0,none⟩) ps.length ps.length) (.slice (some ⟨gS,0,none⟩) 2 2) bK bK (.slice zA (fs.length+1) zc) false) vo2 (.slice zA (fs.length+1) zc) ((a0 (as'.take (i+1))).map AR.p) ((a0 (as'.take (i+1))).map AR.ix) from by
       rw [pS HA.out,if_pos HZ.out,List.map_append,List.map_append,<- HKS.out,<- HFS.out];exact RG.out)
      clear RG hF;go_wp2_with fail
      go_roundg (gk-1)
      case measure=>omega
      case rel=>exact⟨i+1,_,by omega,by go_num,RG2⟩
     ·
      rw [if_pos (by rfl)];go_simp
      have ba:=aF wa (.cells #[.int .i64 a.ix] 3);have LF:aN (wa.alloc (.cells #[.int .i64 a.ix] 3)) wa.heap.size [a.ix]:=aC.new wa 3 #[.int .i64 a.ix];have ZF:=HSW
      try (replace LK:=aA (LK.out.kx (X:=fun _=>False) (KX.of ba) (fun h=>h)))
      replace RG:=aA (RG.out.alloc (.cells #[.int .i64 a.ix] 3));replace HSW:=aA (Nat.le_trans HSW.out ba.size);clear ba hF hG;obtain⟨zF,hzF⟩:∃g,g=wa.heap.size:=⟨_,rfl⟩
      rw [<- hzF] at LF ZF;simp only [<- hzF];replace LF:=aA LF;clear hzF;generalize hwx:wa.alloc (.cells #[.int .i64 a.ix] 3)=wb at *;clear hwx;have hF:wb.cell? ⟨gO,i*3,none⟩=some (.int .i64 a.p.fl)/\wb.cell? ⟨gO,i*3+1,none⟩=some (.int .i64 a.p.tm)/\wb.cell? ⟨gO,i*3+2,none⟩=some (.int .i64 a.p.sz)/\wb.cell? ⟨gI,i,none⟩=some (.int .i64 a.ix):=⟨RG.out.cell N0.out NB.out.o.lt NB.out.ho,RG.out.cell N1.out NB.out.o.lt NB.out.ho,RG.out.cell N2.out NB.out.o.lt NB.out.ho,RG.out.cell N3.out NB.out.i.lt NB.out.hi⟩
      have hG:wb.cell? ⟨T,16,none⟩=some vf:=by simpa using RG.out.tb.cell 16
      refine hK.out _ _ ⟨(by exact hF),fun _=>(by exact hG)⟩ (fun _=>?_);clear hK K
      (try simp only [Act.put]);try simp only [dC,dD,dE]
      refine kA 6 (fun K hK=>?_);refine t9 (by rfl) _ _ (by rfl) (by rfl) w9.heap.size u10 ks.length ks (by rfl) RG.out.ko a.p zK (by rfl) LK.out HKN.out RG.out.sz ?_;intro vo2 wc ko2 kx2 at2
      try (replace LF:=aA (LF.out.kx kx2 (fun e=>by have h1:=HTL.out zF e.symm;have h2:=ZF.out;omega)))
      replace RG:=aA (RG.out.putK ko2 kx2 at2);replace HSW:=aA (Nat.le_trans HSW.out kx2.size);clear ko2 kx2 at2 hF hG LK;have hF:wc.cell? ⟨gO,i*3,none⟩=some (.int .i64 a.p.fl)/\wc.cell? ⟨gO,i*3+1,none⟩=some (.int .i64 a.p.tm)/\wc.cell? ⟨gO,i*3+2,none⟩=some (.int .i64 a.p.sz)/\wc.cell? ⟨gI,i,none⟩=some (.int .i64 a.ix):=⟨RG.out.cell N0.out NB.out.o.lt NB.out.ho,RG.out.cell N1.out NB.out.o.lt NB.out.ho,RG.out.cell N2.out NB.out.o.lt NB.out.ho,RG.out.cell N3.out NB.out.i.lt NB.out.hi⟩
      have hG:wc.cell? ⟨T,16,none⟩=some vf:=by simpa using RG.out.tb.cell 16
      refine hK.out _ _ ⟨(by exact hF),fun _=>(by exact hG)⟩ (fun _=>?_);clear hK K
      (try simp only [Act.put]);try simp only [dC,dD,dE]
      refine kA 14 (fun K hK=>?_);refine t8 (by rfl) _ _ 22 (by rfl) Tryz.underlying22 w9.heap.size vf fs.length fs (by rfl) RG.out.fo wc.heap.size (some ⟨zF,0,none⟩) 1 1 [a.ix] (by rfl) (aN.ints LF.out) HFN.out RG.out.sz ?_;intro vf2 wq own2 iD at2;obtain⟨zA,zc,rfl,-,-,-⟩:=own2.ints;replace RG:=aA (RG.out.putF own2 (KX.grown iD) at2);clear own2 iD at2 hF hG LF;have hF:wq.cell? ⟨gO,i*3,none⟩=some (.int .i64 a.p.fl)/\wq.cell? ⟨gO,i*3+1,none⟩=some (.int .i64 a.p.tm)/\wq.cell? ⟨gO,i*3+2,none⟩=some (.int .i64 a.p.sz)/\wq.cell? ⟨gI,i,none⟩=some (.int .i64 a.ix):=⟨RG.out.cell N0.out NB.out.o.lt NB.out.ho,RG.out.cell N1.out NB.out.o.lt NB.out.ho,RG.out.cell N2.out NB.out.o.lt NB.out.ho,RG.out.cell N3.out NB.out.i.lt NB.out.hi⟩
      have hG:wq.cell? ⟨T,16,none⟩=some vf:=by simpa using RG.out.tb.cell 16
      refine hK.out _ _ ⟨(by exact hF),fun _=>(by exact hG)⟩ (fun _=>?_);clear hK K
      (try simp only [Act.put]);try simp only [dC,dD,dE]
      refine gK 15 ?_;refine gK 16 ?_;refine kA 17 (fun K hK=>?_);obtain⟨q16,z16,hlp⟩:_/\_/\_:=⟨RG.out.tb.cell 16,RG.out.tb.frozen 16,RG.out.tb.lt⟩
      simp at q16;rw [if_pos (by rfl)];go_simp
      clear hF;replace RG:=aA (RG.out.set16);clear q16 z16 hlp hG;generalize hws:wq.setCell ⟨T,16,none⟩ _=ws at *;clear hws;have hF:ws.cell? ⟨gO,i*3,none⟩=some (.int .i64 a.p.fl)/\ws.cell? ⟨gO,i*3+1,none⟩=some (.int .i64 a.p.tm)/\ws.cell? ⟨gO,i*3+2,none⟩=some (.int .i64 a.p.sz)/\ws.cell? ⟨gI,i,none⟩=some (.int .i64 a.ix):=⟨RG.out.cell N0.out NB.out.o.lt NB.out.ho,RG.out.cell N1.out NB.out.o.lt NB.out.ho,RG.out.cell N2.out NB.out.o.lt NB.out.ho,RG.out.cell N3.out NB.out.i.lt NB.out.hi⟩
      refine hK.out _ _ ⟨(by exact hF),fun h=>Bool.noConfusion (show true=false from h)⟩ (fun _=>?_);clear hK K
      (try simp only [Act.put]);try simp only [dC,dD,dE]
      refine uG (by kernel_rfl) ?_ _;have RG2:=aA (show Rg w9 ws T (TC l1 l2 (.slice Ap ps.length cp) bK (.slice (some ⟨gD,0,none⟩) ps.length ps.length) (.slice (some ⟨gS,0,none⟩) 2 2) bK bK (.slice zA (fs.length+1) zc) false) vo2 (.slice zA (fs.length+1) zc) ((a0 (as'.take (i+1))).map AR.p) ((a0 (as'.take (i+1))).map AR.ix) from by
       rw [pS HA.out,if_pos HZ.out,List.map_append,List.map_append,<- HKS.out,<- HFS.out];exact RG.out)
      clear RG hF;go_wp2_with fail
      go_roundg (gk-1)
      case measure=>omega
      case rel=>exact⟨i+1,_,by omega,by go_num,RG2⟩
    ·
     rw [if_pos (by rfl)];go_simp
     have ba:=aF wd (.cells #[.int .i64 a.ix] 3);have LF:aN (wd.alloc (.cells #[.int .i64 a.ix] 3)) wd.heap.size [a.ix]:=aC.new wd 3 #[.int .i64 a.ix];have ZF:=HSW
     try (replace LK:=aA (LK.out.kx (X:=fun _=>False) (KX.of ba) (fun h=>h)))
     replace RG:=aA (RG.out.alloc (.cells #[.int .i64 a.ix] 3));replace HSW:=aA (Nat.le_trans HSW.out ba.size);clear ba hF hG;obtain⟨zF,hzF⟩:∃g,g=wd.heap.size:=⟨_,rfl⟩
     rw [<- hzF] at LF ZF;simp only [<- hzF];replace LF:=aA LF;clear hzF;generalize hwx:wd.alloc (.cells #[.int .i64 a.ix] 3)=wa at *;clear hwx;have hF:wa.cell? ⟨gO,i*3,none⟩=some (.int .i64 a.p.fl)/\wa.cell? ⟨gO,i*3+1,none⟩=some (.int .i64 a.p.tm)/\wa.cell? ⟨gO,i*3+2,none⟩=some (.int .i64 a.p.sz)/\wa.cell? ⟨gI,i,none⟩=some (.int .i64 a.ix):=⟨RG.out.cell N0.out NB.out.o.lt NB.out.ho,RG.out.cell N1.out NB.out.o.lt NB.out.ho,RG.out.cell N2.out NB.out.o.lt NB.out.ho,RG.out.cell N3.out NB.out.i.lt NB.out.hi⟩
     have hG:wa.cell? ⟨T,16,none⟩=some vf:=by simpa using RG.out.tb.cell 16
     refine hK.out _ _ ⟨(by exact hF),fun _=>(by exact hG)⟩ (fun _=>?_);clear hK K
     (try simp only [Act.put]);try simp only [dC,dD,dE]
     refine kA 5 (fun K hK=>?_);rw [if_pos (by rfl)];go_simp
     have ba:=aF wa (.cells #[.int .i64 a.p.fl,.int .i64 a.p.tm,.int .i64 a.p.sz] 71);have LK:=aC.new wa 71 #[.int .i64 a.p.fl,.int .i64 a.p.tm,.int .i64 a.p.sz]
     try (replace LF:=aA (LF.out.kx (X:=fun _=>False) (KX.of ba) (fun h=>h)))
     replace RG:=aA (RG.out.alloc (.cells #[.int .i64 a.p.fl,.int .i64 a.p.tm,.int .i64 a.p.sz] 71));replace HSW:=aA (Nat.le_trans HSW.out ba.size);clear ba hF hG;obtain⟨zK,hzK⟩:∃g,g=wa.heap.size:=⟨_,rfl⟩
     rw [<- hzK] at LK;simp only [<- hzK];replace LK:=aA LK;clear hzK;generalize hwx:wa.alloc (.cells #[.int .i64 a.p.fl,.int .i64 a.p.tm,.int .i64 a.p.sz] 71)=wb at *;clear hwx;have hF:wb.cell? ⟨gO,i*3,none⟩=some (.int .i64 a.p.fl)/\wb.cell? ⟨gO,i*3+1,none⟩=some (.int .i64 a.p.tm)/\wb.cell? ⟨gO,i*3+2,none⟩=some (.int .i64 a.p.sz)/\wb.cell? ⟨gI,i,none⟩=some (.int .i64 a.ix):=⟨RG.out.cell N0.out NB.out.o.lt NB.out.ho,RG.out.cell N1.out NB.out.o.lt NB.out.ho,RG.out.cell N2.out NB.out.o.lt NB.out.ho,RG.out.cell N3.out NB.out.i.lt NB.out.hi⟩
     have hG:wb.cell? ⟨T,16,none⟩=some vf:=by simpa using RG.out.tb.cell 16
     refine hK.out _ _ ⟨(by exact hF),fun _=>(by exact hG)⟩ (fun _=>?_);clear hK K
     (try simp only [Act.put]);try simp only [dC,dD,dE]
     refine kA 6 (fun K hK=>?_);refine t9 (by rfl) _ _ (by rfl) (by rfl) w9.heap.size u10 ks.length ks (by rfl) RG.out.ko a.p zK (by rfl) LK.out HKN.out RG.out.sz ?_;intro vo2 wc ko2 kx2 at2
     try (replace LF:=aA (LF.out.kx kx2 (fun e=>by have h1:=HTL.out zF e.symm;have h2:=ZF.out;omega)))
     replace RG:=aA (RG.out.putK ko2 kx2 at2);replace HSW:=aA (Nat.le_trans HSW.out kx2.size);clear ko2 kx2 at2 hF hG LK;have hF:wc.cell? ⟨gO,i*3,none⟩=some (.int .i64 a.p.fl)/\wc.cell? ⟨gO,i*3+1,none⟩=some (.int .i64 a.p.tm)/\wc.cell? ⟨gO,i*3+2,none⟩=some (.int .i64 a.p.sz)/\wc.cell? ⟨gI,i,none⟩=some (.int .i64 a.ix):=⟨RG.out.cell N0.out NB.out.o.lt NB.out.ho,RG.out.cell N1.out NB.out.o.lt NB.out.ho,RG.out.cell N2.out NB.out.o.lt NB.out.ho,RG.out.cell N3.out NB.out.i.lt NB.out.hi⟩
     have hG:wc.cell? ⟨T,16,none⟩=some vf:=by simpa using RG.out.tb.cell 16
     refine hK.out _ _ ⟨(by exact hF),fun _=>(by exact hG)⟩ (fun _=>?_);clear hK K
     (try simp only [Act.put]);try simp only [dC,dD,dE]
     refine kA 14 (fun K hK=>?_);refine t8 (by rfl) _ _ 22 (by rfl) Tryz.underlying22 w9.heap.size vf fs.length fs (by rfl) RG.out.fo wc.heap.size (some ⟨zF,0,none⟩) 1 1 [a.ix] (by rfl) (aN.ints LF.out) HFN.out RG.out.sz ?_;intro vf2 wq own2 iD at2;obtain⟨zA,zc,rfl,-,-,-⟩:=own2.ints;replace RG:=aA (RG.out.putF own2 (KX.grown iD) at2);clear own2 iD at2 hF hG LF;have hF:wq.cell? ⟨gO,i*3,none⟩=some (.int .i64 a.p.fl)/\wq.cell? ⟨gO,i*3+1,none⟩=some (.int .i64 a.p.tm)/\wq.cell? ⟨gO,i*3+2,none⟩=some (.int .i64 a.p.sz)/\wq.cell? ⟨gI,i,none⟩=some (.int .i64 a.ix):=⟨RG.out.cell N0.out NB.out.o.lt NB.out.ho,RG.out.cell N1.out NB.out.o.lt NB.out.ho,RG.out.cell N2.out NB.out.o.lt NB.out.ho,RG.out.cell N3.out NB.out.i.lt NB.out.hi⟩
     have hG:wq.cell? ⟨T,16,none⟩=some vf:=by simpa using RG.out.tb.cell 16
     refine hK.out _ _ ⟨(by exact hF),fun _=>(by exact hG)⟩ (fun _=>?_);clear hK K
     (try simp only [Act.put]);try simp only [dC,dD,dE]
     refine gK 15 ?_;refine gK 16 ?_;refine kA 17 (fun K hK=>?_);obtain⟨q16,z16,hlp⟩:_/\_/\_:=⟨RG.out.tb.cell 16,RG.out.tb.frozen 16,RG.out.tb.lt⟩
     simp at q16;rw [if_pos (by rfl)];go_simp
     clear hF;replace RG:=aA (RG.out.set16);clear q16 z16 hlp hG;generalize hws:wq.setCell ⟨T,16,none⟩ _=ws at *;clear hws;have hF:ws.cell? ⟨gO,i*3,none⟩=some (.int .i64 a.p.fl)/\ws.cell? ⟨gO,i*3+1,none⟩=some (.int .i64 a.p.tm)/\ws.cell? ⟨gO,i*3+2,none⟩=some (.int .i64 a.p.sz)/\ws.cell? ⟨gI,i,none⟩=some (.int .i64 a.ix):=⟨RG.out.cell N0.out NB.out.o.lt NB.out.ho,RG.out.cell N1.out NB.out.o.lt NB.out.ho,RG.out.cell N2.out NB.out.o.lt NB.out.ho,RG.out.cell N3.out NB.out.i.lt NB.out.hi⟩
     refine hK.out _ _ ⟨(by exact hF),fun h=>Bool.noConfusion (show true=false from h)⟩ (fun _=>?_);clear hK K
     (try simp only [Act.put]);try simp only [dC,dD,dE]
     refine uG (by kernel_rfl) ?_ _;have RG2:=aA (show Rg w9 ws T (TC l1 l2 (.slice Ap ps.length cp) bK (.slice (some ⟨gD,0,none⟩) ps.length ps.length) (.slice (some ⟨gS,0,none⟩) 2 2) bK bK (.slice zA (fs.length+1) zc) false) vo2 (.slice zA (fs.length+1) zc) ((a0 (as'.take (i+1))).map AR.p) ((a0 (as'.take (i+1))).map AR.ix) from by
      rw [pS HA.out,if_pos HZ.out,List.map_append,List.map_append,<- HKS.out,<- HFS.out];exact RG.out)
     clear RG hF;go_wp2_with fail
     go_roundg (gk-1)
     case measure=>omega
     case rel=>exact⟨i+1,_,by omega,by go_num,RG2⟩
  case neg=>
   obtain rfl:i=as'.length:=by omega
   have hRG:=RG.out;rw [List.take_length] at hRG;have HTM:=aA hRG.hT;replace D:=aA (D.out.kx hRG.kx (fun j e=>by omega));replace HD:=aA (HD.out.kx hRG.kx (by have:=HTD.out;omega));obtain⟨ks,hks⟩:∃ks,ks=(a0 as').map AR.p:=⟨_,rfl⟩
   obtain⟨fs,hfs⟩:∃fs,fs=(a0 as').map AR.ix:=⟨_,rfl⟩
   rw [<- hks,<- hfs] at hRG;have TB2:=aA hRG.tb;have KO:=aA hRG.ko;have FO:=aA hRG.fo;have HKS:=aA hks;have HFS:=aA hfs;obtain⟨M,hM⟩:∃M,M=w9.heap.size:=⟨_,rfl⟩
   rw [<- hM] at HTM KO FO;have HMR:=aA (show M<=wr.heap.size by rw [hM];exact hRG.sz);clear hRG RG hks hfs TB NB hM hig;have hii:¬(as'.length:Int)<as'.length:=by omega
   have hpl2:=D.out.hp;go_wp2_with fail
   refine(zS p 6 wr D.out.s (by omega)).mono ?_;rintro e wa ⟨v6,m6,xs,hx6,rfl,hko6,hS6,hk6⟩;obtain rfl:=hko6.len;obtain⟨A6,c6,rfl,hl6,-,-⟩:=hko6.form2;have hpT:p<T:=by have:=D.out.hT;have:=D.out.hR;omega
   have X6:=aA hx6;have L6:=aA hl6;replace TB2:=aA (TB2.out.kept (by omega) hk6);replace KO:=aA (KO.out.kx (KX.ofKept hk6) (fun g hg e=>by have:=(KO.out.blk g hg).1;have:=HTM.out;omega));replace FO:=aA (FO.out.kx (KX.ofKept hk6) (fun g hg e=>by have:=(FO.out.blk_lt g hg).1;have:=HTM.out;omega));replace HD:=aA (HD.out.kx (KX.ofKept hk6) (by have:=HTD.out;omega));replace D:=aA (D.out.kept hS6 hk6);replace HMR:=aA (Nat.le_trans HMR.out hk6.size);clear hx6 hko6 hS6 hk6 hl6;have h6:=X6.out.len;have O6:=aA (show a8 wa wa.heap.size bK 0 ((xs.take 0).map f1) from a8.nil_ _ _);have W6:=aA (Below.refl wa.heap.size wa);go_wp2_with fail
   go_loopg [11,93] xs.length (fun gg s11 s93 wq=>∃j:Nat,j+gg=xs.length/\s93 = .int .i64 j/\Hid (a8 wq wa.heap.size s11 j ((xs.take j).map f1))/\Hid (Below wa.heap.size wa wq))
   case atStart=>exact⟨0,by omega,rfl,O6,W6⟩
   case round=>
    clear O6 W6;obtain⟨j,hjg,rfl,O6,W6⟩:=hrel;by_cases hj:j<xs.length
    case pos=>
     have hji:(j:Int)<xs.length:=by omega
     obtain⟨x,hx⟩:∃x,xs[j]?=some x:=⟨_,List.getElem?_eq_getElem hj⟩
     obtain⟨g,o,rfl,hr⟩:=(L6.out.below W6.out).2.2 (by omega);have y0:=hr.cell j 0 x hx (by omega);have y1:=hr.cell j 1 x hx (by omega);have y2:=hr.cell j 2 x hx (by omega);replace y0:wr.cell? ⟨g,o+j*3,none⟩=some (.int .i64 x.fl):=y0;replace y1:wr.cell? ⟨g,o+j*3+1,none⟩=some (.int .i64 x.tm):=y1;replace y2:wr.cell? ⟨g,o+j*3+2,none⟩=some (.int .i64 x.sz):=y2;have hgl:=hr.lt;have e1:(xs.take (j+1)).map f1=(xs.take j).map f1 ++ [⟨1,x.tm,x.sz⟩]:=by
      rw [List.take_add_one,hx,List.map_append];rfl
     have E1:=aA e1;have b0:=aF wr (.cells #[.int .i64 1,.int .i64 x.tm,.int .i64 x.sz] 71);have XB:=aA (aC.new wr 71 #[.int .i64 1,.int .i64 x.tm,.int .i64 x.sz]);have O7:=aA (O6.out.kx (X:=fun _=>False) (KX.of b0) (fun _ _ h=>h));have W7:=aA (aD W6.out b0);clear O6 W6 b0 hr hx e1;go_upto_region 20 with fail
     generalize hwe:wr.alloc (.cells #[.int .i64 1,.int .i64 x.tm,.int .i64 x.sz] 71)=w2 at *;clear hwe;generalize wr.heap.size=Q at *;obtain⟨v',w3,hrun,hko,hkx,hvb⟩:=yR O7.out ⟨1,x.tm,x.sz⟩ W7.out.size (by omega);have O8:=aA (show a8 w3 wa.heap.size v' (j+1) ((xs.take (j+1)).map f1) by rw [E1.out];exact hko);have W8:=aA (show Below wa.heap.size wa w3 from gC W7.out hkx (fun k hk=>(O7.out.blk k hk.symm).1));have z0:=XB.out.cell 0;have z1:=XB.out.cell 1;have z2:=XB.out.cell 2;simp at z0 z1 z2;have hlx:=XB.out.lt;clear hko hkx hvb O7;go_wp2_with fail
     go_roundg (gk-1)
     case measure=>omega
     case rel=>exact⟨j+1,by omega,by go_num,O8,W8⟩
    case neg=>
     obtain rfl:j=xs.length:=by omega
     have hO:=O6.out;rw [List.take_length] at hO;have hii:¬(xs.length:Int)<xs.length:=by omega
     have hbw:=W6.out;replace D:=aA (D.out.below hbw);replace TB2:=aA (TB2.out.below hbw TB2.out.lt);replace HD:=aA (HD.out.below hbw HD.out.lt);have kb:KX (fun _=>False) wa wr:=KX.of hbw;replace KO:=aA (KO.out.kx kb (fun _ _ h=>h));replace FO:=aA (FO.out.kx kb (fun _ _ h=>h));replace HMR:=aA (Nat.le_trans HMR.out hbw.size);clear kb hbw L6 W6 O6 hjg;obtain⟨Ao,co,rfl,hl1,ho1,ho2⟩:=KO.out.form2;obtain⟨Ax,cx,rfl,hl2,hx1,hx2⟩:=hO.form2;obtain⟨o1,o2,o3⟩:=NX.out.own (by omega);rw [<- HKS.out] at o1 o2 o3;go_wp2_with fail
     refine(a0n Ao Ax ks.length co xs.length cx ks (xs.map f1) wr hl1 hl2 o1.v X6.out.oth.1.v (by omega) ho1 ho2 hx1 hx2).mono ?_;rintro e wb ⟨q,A2,c2,rfl,hS,hl3,hf,hb⟩;have QS:=aA (a0p NX.out (by omega) X6.out (by rw [<- HKS.out];exact hS));have eq:q.length=ks.length+xs.length:=hl3.1;rw [<- eq] at hl3;rw [<- eq];replace D:=aA (D.out.below hb);replace TB2:=aA (TB2.out.below hb TB2.out.lt);replace HD:=aA (HD.out.below hb HD.out.lt);replace FO:=aA (FO.out.kx (X:=fun _=>False) (KX.of hb) (fun _ _ h=>h));have HQ:=aA (show ∀g o,A2=some ⟨g,o,none⟩->T<g from fun g o e=>by have:=hf.2.2 g o none e;have:=HMR.out;have:=HTM.out;omega);replace HMR:=aA (Nat.le_trans HMR.out hb.size);have LQ:=aA hl3;clear KO hO hS hf hb hl1 hl2 hl3 ho1 ho2 hx1 hx2 o1 o2 o3 eq;have c11:=TB2.out.cell 11;have z11:=TB2.out.frozen 11;have hlt:=TB2.out.lt;simp at c11;go_upto_region 23 with fail
     have k:=bG wb T 11 (.slice A2 q.length c2);have TB3:=aA (show aC (wb.setCell ⟨T,11,none⟩ (.slice A2 q.length c2)) T 80 (TC l1 l2 (.slice Ap ps.length cp) (.slice A2 q.length c2) (.slice (some ⟨gD,0,none⟩) ps.length ps.length) (.slice (some ⟨gS,0,none⟩) 2 2) bK bK vf false) from TB2.out.set_ 11 _);replace D:=aA (D.out.kx k (fun j e=>by omega));replace HD:=aA (HD.out.kx k (by have:=HTD.out;omega));replace FO:=aA (FO.out.kx k (fun g hg e=>by have:=(FO.out.blk_lt g hg).1;have:=HTM.out;omega));replace LQ:=aA (LQ.out.kx k (fun g o _ e1 e2=>by have:=HQ.out g o e1;omega));replace HMR:=aA (show M<=(wb.setCell ⟨T,11,none⟩ (.slice A2 q.length c2)).heap.size from Nat.le_trans HMR.out k.size);clear k TB2 c11 z11 hlt;generalize hwe:wb.setCell ⟨T,11,none⟩ _=wc at *;clear hwe;obtain⟨c5,c6,c7,c8,c9,c11⟩:_/\_/\_/\_/\_/\_:=⟨TB3.out.cell 5,TB3.out.cell 6,TB3.out.cell 7,TB3.out.cell 8,TB3.out.cell 9,TB3.out.cell 11⟩
     simp at c5 c6 c7 c8 c9 c11;have hlt:=TB3.out.lt;go_wp2_with fail
     refine(xH (ticks:=300) D.out.o2 LQ.out QS.out.1.v QS.out.1.fl (by omega)).mono ?_;rintro e wd ⟨done2,sent2,gD2,gS2,gcs2,hR2,rfl,hd,hs,hh,hb⟩;have HR2:=aA hR2;have HL2:=aA (hR2.lens QS.out.1.v (by have:=D.out.o2.c1;omega));have hT2:T<gD2/\T<gS2:=by omega
     have hTG:∀(c g:Nat),gcs2[c]?=some g->T<g:=fun c g hg=>by have:=hh.2.2 c g hg;omega
     replace D:=aA (D.out.below hb);replace TB3:=aA (TB3.out.below hb TB3.out.lt);replace HD:=aA (HD.out.below hb HD.out.lt);replace FO:=aA (FO.out.kx (X:=fun _=>False) (KX.of hb) (fun _ _ h=>h));replace LQ:=aA (LQ.out.below hb);clear c5 c6 c7 c8 c9 c11 hlt hR2 hh hb;have c14:=TB3.out.cell 14;have c15:=TB3.out.cell 15;have z14:=TB3.out.frozen 14;have z15:=TB3.out.frozen 15;have hlt:=TB3.out.lt;simp at c14 c15;go_upto_region 24 with fail
     have k:=(bG wd T 14 (.slice (some ⟨gD2,0,none⟩) q.length q.length)).trans (bG _ T 15 (.slice (some ⟨gS2,0,none⟩) 2 2));have TB4:=aA (show aC ((wd.setCell ⟨T,14,none⟩ (.slice (some ⟨gD2,0,none⟩) q.length q.length)).setCell ⟨T,15,none⟩ (.slice (some ⟨gS2,0,none⟩) 2 2)) T 80 (TC l1 l2 (.slice Ap ps.length cp) (.slice A2 q.length c2) (.slice (some ⟨gD,0,none⟩) ps.length ps.length) (.slice (some ⟨gS,0,none⟩) 2 2) (.slice (some ⟨gD2,0,none⟩) q.length q.length) (.slice (some ⟨gS2,0,none⟩) 2 2) vf false) from(TB3.out.set_ 14 _).set_ 15 _);replace D:=aA (D.out.kx k (fun j e=>by omega));replace HD:=aA (HD.out.kx k (by have:=HTD.out;omega));replace FO:=aA (FO.out.kx k (fun g hg e=>by have:=(FO.out.blk_lt g hg).1;have:=HTM.out;omega));replace LQ:=aA (LQ.out.kx k (fun g o _ e1 e2=>by have:=HQ.out g o e1;omega));have HD2:=aA (hd.kx k (by omega));have HS2:=aA (hs.kx k (by omega) (fun c g hg e=>by have:=hTG c g hg;omega));have HT2:=aA hT2.1;clear k TB3 c14 c15 z14 z15 hlt hd hs hT2 hTG;generalize hwe:(wd.setCell ⟨T,14,none⟩ _).setCell ⟨T,15,none⟩ _=we at *;clear hwe;obtain⟨c11,c14,c15⟩:_/\_/\_:=⟨TB4.out.cell 11,TB4.out.cell 14,TB4.out.cell 15⟩
     simp at c11 c14 c15;have hlt:=TB4.out.lt;go_wp2_with fail
     refine(zB A2 q.length c2 gD2 gS2 2 300 gcs2 done2 sent2 we HS2.out HL2.out.2.1 HL2.out.2.2 (by omega) (by omega)).mono ?_;rintro e wf ⟨rfl,hb⟩;replace D:=aA (D.out.below hb);replace TB4:=aA (TB4.out.below hb TB4.out.lt);replace HD:=aA (HD.out.below hb HD.out.lt);replace HD2:=aA (HD2.out.below hb HD2.out.lt);replace FO:=aA (FO.out.kx (X:=fun _=>False) (KX.of hb) (fun _ _ h=>h));replace LQ:=aA (LQ.out.below hb);clear c11 c14 c15 hlt hb HS2;have c17:=TB4.out.cell 17;have z17:=TB4.out.frozen 17;have hlt:=TB4.out.lt;simp at c17;go_upto_region 25 with fail
     have k:=bG wf T 17 (.bool true);have TB5:=aA (show aC (wf.setCell ⟨T,17,none⟩ (.bool true)) T 80 (TC l1 l2 (.slice Ap ps.length cp) (.slice A2 q.length c2) (.slice (some ⟨gD,0,none⟩) ps.length ps.length) (.slice (some ⟨gS,0,none⟩) 2 2) (.slice (some ⟨gD2,0,none⟩) q.length q.length) (.slice (some ⟨gS2,0,none⟩) 2 2) vf true) from TB4.out.set_ 17 _);replace D:=aA (D.out.kx k (fun j e=>by omega));replace HD:=aA (HD.out.kx k (by have:=HTD.out;omega));replace HD2:=aA (HD2.out.kx k (by have:=HT2.out;omega));replace FO:=aA (FO.out.kx k (fun g hg e=>by have:=(FO.out.blk_lt g hg).1;have:=HTM.out;omega));replace LQ:=aA (LQ.out.kx k (fun g o _ e1 e2=>by have:=HQ.out g o e1;omega));clear k TB4 c17 z17 hlt;generalize hwe:wf.setCell ⟨T,17,none⟩ _=wg at *;clear hwe;obtain⟨vA,vc,hvf,-,-,-⟩:=FO.out.ints;obtain⟨fl,hfl⟩:∃fl,fl=fs.length:=⟨_,rfl⟩
     rw [<- hfl] at hvf FO;have HFL:=aA hfl;clear hfl;subst hvf;refine wp_region_lit ?_;refine wpList_load_row rfl 80 _ rfl T rfl 80 (TC l1 l2 (.slice Ap ps.length cp) (.slice A2 q.length c2) (.slice (some ⟨gD,0,none⟩) ps.length ps.length) (.slice (some ⟨gS,0,none⟩) 2 2) (.slice (some ⟨gD2,0,none⟩) q.length q.length) (.slice (some ⟨gS2,0,none⟩) 2 2) (.slice vA fl vc) true) (0,0) _ TB5.out Tryz.underlying80 rfl rfl ?_;refine wpList_store_row rfl 80 _ _ rfl w.heap.size (TC l1 l2 (.slice Ap ps.length cp) (.slice A2 q.length c2) (.slice (some ⟨gD,0,none⟩) ps.length ps.length) (.slice (some ⟨gS,0,none⟩) 2 2) (.slice (some ⟨gD2,0,none⟩) q.length q.length) (.slice (some ⟨gS2,0,none⟩) 2 2) (.slice vA fl vc) true) rfl rfl 80 #[.int .i64 0,.int .i64 0,.int .i64 0,.slice none 0 0,.slice none 0 0,.int .i64 0,.int .i64 0,.int .i64 0,.slice none 0 0,.slice none 0 0,.slice none 0 0,.slice none 0 0,.slice none 0 0,.slice none 0 0,.slice none 0 0,.slice none 0 0,.slice none 0 0,.bool false] D.out.rb rfl rfl (by first|rfl|kernel_rfl|simp [Value.oneCell']|(simp [Array.all,Value.oneCell'];done)) ?_;have rb:=a2p (cs:=TC l1 l2 (.slice Ap ps.length cp) (.slice A2 q.length c2) (.slice (some ⟨gD,0,none⟩) ps.length ps.length) (.slice (some ⟨gS,0,none⟩) 2 2) (.slice (some ⟨gD2,0,none⟩) q.length q.length) (.slice (some ⟨gS2,0,none⟩) 2 2) (.slice vA fl vc) true) D.out.rb;have hk:=a2q wg w.heap.size (TC l1 l2 (.slice Ap ps.length cp) (.slice A2 q.length c2) (.slice (some ⟨gD,0,none⟩) ps.length ps.length) (.slice (some ⟨gS,0,none⟩) 2 2) (.slice (some ⟨gD2,0,none⟩) q.length q.length) (.slice (some ⟨gS2,0,none⟩) 2 2) (.slice vA fl vc) true);generalize hwz:wg.setRow w.heap.size _=wz at *;clear hwz;obtain⟨f1,f2,f3,f4,f5⟩:=D.out.fin hk;obtain⟨Az,cz,e,hlz,-,-⟩:=f5.form2;cases e
     have hRT:=D.out.hT;have hTM:=HTM.out;have hFl:fl=(bO ps done ps.length).length:=by rw [HFL.out,HFS.out,List.length_map,NX.out.e]
     have hFs:fs=(bO ps done ps.length).map AR.ix:=by rw [HFS.out,NX.out.e]
     have hfo:=(FO.out.kx hk (fun g hg e=>by have:=(FO.out.blk_lt g hg).1;omega)).base (show w.heap.size<=M by omega);have hlq:=LQ.out.kx hk (fun g o _ e1 e2=>by have:=HQ.out g o e1;omega);have hd1:=HD.out.kx hk (by have:=HTD.out;omega);have hd2:=HD2.out.kx hk (by have:=HT2.out;omega);have F:=aA (show mS w wz l1 l2 Ap A2 cp c2 gD gD2 (.slice vA fl vc) ps q done done2 from⟨f3,f4,hlz,hlq,hd1,hd2,by rw [<- hFl,<- hFs];exact hfo,P5.out,QS.out.1,QS.out.2.1,QS.out.2.2,⟨sent,HR.out⟩,⟨sent2,HR2.out⟩⟩);go_wp2_with fail
     exact bodyPost_ret (v:=.agg (TC l1 l2 (.slice Ap ps.length cp) (.slice A2 q.length c2) (.slice (some ⟨gD,0,none⟩) ps.length ps.length) (.slice (some ⟨gS,0,none⟩) 2 2) (.slice (some ⟨gD2,0,none⟩) q.length q.length) (.slice (some ⟨gS2,0,none⟩) 2 2) (.slice vA fl vc) true)) (results_cell_row Tryz.results31 _ _ w.heap.size 80 _ (0,0) _ rfl rb Tryz.underlying80 rfl rfl) rfl ⟨l1,l2,Ap,A2,cp,c2,gD,gS,gD2,gS2,_,ps,q,done,done2,F.out,rfl,f1,f2⟩
end
end Go.Proofs.YtaejfleahamapaaGreat
