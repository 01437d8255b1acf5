/- conform.Police. -/
import Derived.Deep.RegionLaw
import Derived.Deep.RegionWith
import Derived.BigRegion
import Derived.Test.YtaejfleahamapaaGreatPp15
import Derived.Test.YtaejfleahamapaaGreatPp16
import Derived.Test.YtaejfleahamapaaGreatPp3
import Derived.Test.YtaejfleahamapaaGreatPp1
namespace Go.Proofs.YtaejfleahamapaaGreat
set_option linter.unusedVariables false
set_option linter.unusedSimpArgs false
section
open Go.RowKit
def zk3:List Value:=[.int .i64 0,.int .i64 0,.int .i64 0]
theorem setCells_mid(b:Nat)(t:TypeId):∀(vs pre mid post:List Value) (w:World),Blk w b t (pre ++ mid ++ post).toArray→mid.length=vs.length→Blk (w.setCells b pre.length vs) b t (pre ++ vs ++ post).toArray
 | [],pre,mid,post,w,h,hl=>by
   have:mid = []:=List.eq_nil_of_length_eq_zero hl
   subst this;exact h
 | v :: r,pre,[],post,w,h,hl=>by cases hl
 | v :: r,pre,p0 :: mid,post,w,h,hl=>by
   have h1:=h.set_ pre.length v;have e:(pre ++ (p0 :: mid) ++ post).toArray.setIfInBounds pre.length v=((pre ++ [v]) ++ mid ++ post).toArray:=by simp
   rw [e] at h1;have h2:=setCells_mid b t r (pre ++ [v]) mid post _ h1 (by simpa using hl);simp only [List.length_append,List.length_cons,List.length_nil,Nat.zero_add,List.append_assoc,List.singleton_append] at h2;show Blk ((w.setCell ⟨b,pre.length,none⟩ v).setCells b (pre.length+1) r) b t _
   simpa using h2
structure DelB(w:World)(g n k c:Nat)(pre x3 rest spare:List Value):Prop where
 b:Blk w g 71 (pre ++ (x3 ++ rest) ++ spare).toArray
 l1:pre.length=k*3
 l2:x3.length=3
 l3:rest.length=(n-(k+1))*3
 l4:spare.length=(c-n)*3
 o:∀u∈rest,u.oneCell'=true
section
variable{w:World}{g n k c:Nat}{pre x3 rest spare:List Value}
theorem DelB.drew(h:DelB w g n k c pre x3 rest spare):DelB w.drew g n k c pre x3 rest spare:=⟨h.b,h.l1,h.l2,h.l3,h.l4,h.o⟩
theorem DelB.there(h:DelB w g n k c pre x3 rest spare)(hk:k<n)(j:Nat)(hj:j<n*3):(w.cell? ⟨g,j,none⟩).isSome=true∧w.frozen? ⟨g,j,none⟩=false:=by
 refine⟨?_,h.b.frozen j⟩
 rw [h.b.cell j];have h1:=h.l1;have h2:=h.l2;have h3:=h.l3;rw [List.getElem?_toArray,List.getElem?_eq_getElem (by simp;omega)]
 rfl
theorem DelB.src(h:DelB w g n k c pre x3 rest spare)(hk:k<n)(j:Nat)(u:Value)(hu:rest[j]?=some u):w.cell? ⟨g,(k+1)*3+j,none⟩=some u:=by
 have h1:=h.l1;have h2:=h.l2;have hj:=(List.getElem?_eq_some_iff.1 hu).1;rw [h.b.cell,List.getElem?_toArray,List.append_assoc,List.getElem?_append_right (by omega),List.append_assoc,List.getElem?_append_right (by omega),List.getElem?_append_left (by omega),show(k+1)*3+j-pre.length-x3.length=j by omega];exact hu
theorem DelB.move(h:DelB w g n k c pre x3 rest spare)(hk:k<n):∃t3:List Value,t3.length=3∧Blk (w.setCells g (k*3) rest) g 71 (pre ++ rest ++ (t3 ++ spare)).toArray:=by
 refine⟨(x3 ++ rest).drop rest.length,by simp [h.l2],?_⟩
 have e:(x3 ++ rest)=(x3 ++ rest).take rest.length ++ (x3 ++ rest).drop rest.length:=(List.take_append_drop _ _).symm;have h0:=h.b;rw [e,← List.append_assoc,List.append_assoc] at h0;have:=setCells_mid g 71 rest pre _ _ w h0 (by simp)
 rwa [h.l1] at this
theorem clear_cells{w:World}{g o:Nat}{pre t3 post:List Value}(h:Blk w g 71 (pre ++ (t3 ++ post)).toArray)(hl:pre.length=o)(h3:t3.length=3):Blk (w.setCells g o zk3) g 71 (pre ++ zk3 ++ post).toArray:=by
 have:=setCells_mid g 71 zk3 pre t3 post w (by rwa [List.append_assoc]) (by rw [h3];rfl)
 rwa [hl] at this
end
theorem run_clear_pk(w:World)(ty:TypeId)(b o c:Nat)(hv:∀w,(zeroValue 71).run Tryz.prog w = .ok (.agg #[.int .i64 0,.int .i64 0,.int .i64 0]) w)(hc:∀j,j<3→(w.cell? ⟨b,o+j,none⟩).isSome=true)(hf:∀j,j<3→w.frozen? ⟨b,o+j,none⟩=false) :
 (Builtin.clear_ #[46] ty #[.slice (some ⟨b,o,none⟩) 1 c]).run Tryz.prog w = .ok (.tuple #[]) (w.setCells b o zk3):=by
 have hz:(Builtin.zeroCells (Value.agg #[.int .i64 0,.int .i64 0,.int .i64 0]).cells 1).toList=zk3:=by simp [Builtin.zeroCells,Value.cells,zk3,List.range,List.range.loop]
 have hst:=run_storeCells_cells (P:=Tryz.prog) b o zk3 0 w (by simpa [zk3] using hc) (by simpa [zk3] using hf) (by
  intro v hv';simp only [zk3,List.mem_cons,List.not_mem_nil,or_false] at hv';rcases hv' with rfl|rfl|rfl <;> rfl)
 simp only [Nat.add_zero] at hst;simp [Builtin.clear_,run_underlying Tryz.underlying46,hv,hz,hst]
theorem erase_flat(xs:List PK)(k:Nat):(xs.eraseIdx k).flatMap PK.cells=(xs.take k).flatMap PK.cells ++ (xs.drop (k+1)).flatMap PK.cells:=by
 rw [List.eraseIdx_eq_take_drop_succ,List.flatMap_append]
theorem KOwn.parts{w:World}{base g n c k:Nat}{xs:List PK}(h:KOwn w base (.slice (some ⟨g,0,none⟩) n c) n xs)(hk:k<n):∃x3 spare,DelB w g n k c ((xs.take k).flatMap PK.cells) x3 ((xs.drop (k+1)).flatMap PK.cells) spare∧base≤g∧n≤c∧c≤maxLen:=by
 have hl:=h.len;rcases h.2 with ⟨e,h0⟩|⟨g',cap,cur,e,hb,hh,hnc,hcm,hcs,hcur⟩
 ·omega
 ·cases e
  obtain⟨x,hx⟩:∃x,xs[k]?=some x:=⟨_,List.getElem?_eq_getElem (by omega)⟩
  have hxs:xs=xs.take k ++ x :: xs.drop (k+1):=by
   have h1:=(List.getElem?_eq_some_iff.1 hx)
   obtain⟨h2,h3⟩:=h1;rw [← h3,← List.drop_eq_getElem_cons h2,List.take_append_drop]
  refine⟨x.cells,cur.toList.drop (n*3),⟨?_,by rw [flatk_len,List.length_take];omega,rfl,by rw [flatk_len,List.length_drop];omega,by simp [hcs];omega,one_packets _⟩,hb,hnc,hcm⟩
  have e1:(xs.take k).flatMap PK.cells ++ (x.cells ++ (xs.drop (k+1)).flatMap PK.cells)=cur.toList.take (n*3):=by
   have h1:=congrArg (fun l=>l.flatMap PK.cells) hxs;simp only [List.flatMap_append,List.flatMap_cons] at h1;exact h1.symm.trans hcur.symm
  rw [e1,List.take_append_drop];exact hh
theorem kown_of{w:World}{base g n c k:Nat}{xs:List PK}{post:List Value}(h:Blk w g 71 ((xs.take k).flatMap PK.cells ++ (xs.drop (k+1)).flatMap PK.cells ++ post).toArray)(hk:k<n)(hl:xs.length=n)(hp:post.length=(c-(n-1))*3)(hb:base≤g)(hnc:n≤c)(hcm:c≤maxLen) :
 KOwn w base (.slice (some ⟨g,0,none⟩) (n-1) c) (n-1) (xs.eraseIdx k):=by
 have hle:((xs.eraseIdx k).flatMap PK.cells).length=(n-1)*3:=by rw [flatk_len,List.length_eraseIdx,if_pos (by omega),hl]
 refine⟨hle,.inr ⟨g,c,_,rfl,hb,h,by omega,hcm,?_,?_⟩⟩
 ·rw [← erase_flat,List.size_toArray,List.length_append,hle,hp];omega
 ·rw [← erase_flat];simp only [List.take_append_of_le_length (Nat.le_of_eq hle.symm)];exact List.take_of_length_le (Nat.le_of_eq hle)
set_option maxHeartbeats 4000000 in
set_option maxRecDepth 100000 in
theorem kdel_any(base n c k:Nat)(A:Option Addr)(xs:List PK)(w:World)(h:KOwn w base (.slice A n c) n xs)(hk:k<n)(hn:n≤1000) :
 Calls Tryz.prog 72 #[.slice A n c,.int .i64 k,.int .i64 ((k:Int)+1)] w fun e w'=>e = .returned (.slice A (n-1) c)∧KOwn w' base (.slice A (n-1) c) (n-1) (xs.eraseIdx k)∧KX (fun j=>some j=(Value.slice A n c).ownBlock) w w':=by
 obtain⟨N,rfl⟩:∃N,n=N+1:=⟨n-1,by omega⟩
 rw [Nat.add_sub_cancel];obtain⟨g,rfl,hgb,hgl⟩:=h.form (by omega);obtain⟨i0,hi0,hz0,hz1,hz2⟩:=info_parts info_packet;have hl:=h.len;obtain⟨x3,spare,hD,-,hnc,hcm⟩:=h.parts hk;obtain⟨pre,hpre⟩:∃pre,pre=(xs.take k).flatMap PK.cells:=⟨_,rfl⟩
 obtain⟨rest,hrest⟩:∃rest,rest=(xs.drop (k+1)).flatMap PK.cells:=⟨_,rfl⟩
 rw [← hpre,← hrest] at hD;have HPR:=hi_ hpre;have HRS:=hi_ hrest;have D:=hi_ hD.drew;obtain⟨AD,hAD,hsrc⟩:∃AD:Addr,(if c=k+1 then some (⟨g,0,none⟩:Addr) else some ⟨g,(k+1)*3,none⟩)=some AD∧Hid (∀t u,rest[t]?=some u→w.drew.cell? (AD.add t)=some u):=by
  by_cases e:c=k+1
  ·refine⟨⟨g,0,none⟩,by simp [e],hi_ (fun t u hu=>?_)⟩
   have h0:rest.length=0:=by rw [D.out.l3];omega
   rw [List.length_eq_zero_iff.1 h0] at hu;simp at hu
  ·refine⟨⟨g,(k+1)*3,none⟩,by simp [e],hi_ (fun t u hu=>?_)⟩
   rw [Addr.add_lit];exact D.out.src hk t u hu
 have s1:Hid (rest.length=(N+1-(k+1))*3):=hi_ D.out.l3;have s2:=hi_ D.out.o;have s3:Hid (∀t,t<rest.length→(w.drew.cell? ⟨g,0+k*3+t,none⟩).isSome=true∧w.drew.frozen? ⟨g,0+k*3+t,none⟩=false):=hi_ (fun t ht=>by
  rw [s1.out] at ht;rw [Nat.zero_add];exact D.out.there hk _ (by omega))
 obtain⟨W1,hW1⟩:∃W1,W1=w.drew.setCells g (0+k*3) rest:=⟨_,rfl⟩
 have HW1:=hi_ hW1;obtain⟨t3,ht3,hB1⟩:=D.out.move hk;rw [Nat.zero_add] at hW1;rw [← hW1] at hB1;have hpl:pre.length=k*3:=D.out.l1;have hrl:rest.length=(N+1-(k+1))*3:=s1.out;have hkm:k+(N+1-(k+1))=N:=by omega
 have hprl:(pre ++ rest).length=N*3:=by rw [List.length_append,hpl,hrl];omega
 have hcl:∀ty,(Builtin.clear_ #[46] ty #[.slice (some ⟨g,N*3,none⟩) 1 (c-N)]).run Tryz.prog W1 = .ok (.tuple #[]) (W1.setCells g (N*3) zk3):=fun ty=>run_clear_pk W1 ty g _ _ (fun w=>by kernel_rfl) (fun j hj=>by
  rw [hB1.cell,List.getElem?_toArray,List.getElem?_eq_getElem (by simp only [List.length_append] at hprl ⊢;omega)]
  rfl) (fun j hj=>hB1.frozen _)
 have hkc:k≤c:=by omega
 have hkc2:k+1≤c:=by omega
 have hki:(k:Int)<(N:Int)+1:=by omega
 have hkk1:0≤(k:Int)+1:=by omega
 have hkk2:(k:Int)+1≤(N:Int)+1:=by omega
 have hne:((k:Int) == (k:Int)+1)=false:=by simp;omega
 have e1:IntKind.i64.wrap ((k:Int)+1)=((k+1:Nat):Int):=by rw [IntWalk.i64_in _ (by unfold maxLen at hcm;omega)];omega
 have hc1:c≠N:=by omega
 have hcN:N≤c:=by omega
 have hcN1:N+1≤c:=by omega
 have hcn:c-(k+1)+(k+1)=c:=by omega
 have hkm2:k+(N-k)=N:=by omega
 have hkm3:(k:Int)+((N-k:Nat):Int)=N:=by omega
 have e4:N+1-N=1:=by omega
 have F:=hi_ (show KOwn (W1.setCells g (N*3) zk3) base (.slice (some ⟨g,0,none⟩) N c) N (xs.eraseIdx k) by
  have hz:=clear_cells hB1 hprl ht3;rw [hpre,hrest,List.append_assoc _ zk3] at hz;exact kown_of (n:=N+1) hz hk hl (by rw [List.length_append,D.out.l4];show 3+_=_;omega) hgb hnc hcm)
 have KW:=hi_ (show KX (fun j=>some j=(Value.slice (some ⟨g,0,none⟩) (N+1) c).ownBlock) w (W1.setCells g (N*3) zk3) by
  have s1:Sto g w.drew (W1.setCells g (N*3) zk3):=by rw [hW1];exact Sto.cells _ _ _ (Sto.cells _ _ _ (Sto.refl g w.drew))
  exact(((KX.refl (fun _=>False) w).drewN 1).mono (fun _ _ h=>h.elim)).trans ((KX.sto s1).mono (fun j _ e=>by subst e;rfl)))
 clear hB1 D hD HPR HRS h hW1 hpre hrest hrl hpl hprl;go_enter Tryz.func72,Tryz.ntmps72
 go_upto_region 5 with fail
 refine wp_region_held_drew (S:=fun _=>True) (by kernel_rfl) trivial (fun hHeld=>?_);refine tkO [0,1,2,3,4,5] ?_;(iterate 6 refine tkI ?_);refine tkX ?_;refine rdy1 6 (fun K hK=>?_);refine step_append_room rfl (.tmp 22) (.tmp 25) 46 rfl 71 i0 3 Tryz.underlying46 hi0 hz1 g 0 k c (by simp [Act.eval,Act.put]) AD (N+1-(k+1)) (c-(k+1)) rest (by simp [Act.eval,Act.put]) s1.out hsrc.out s2.out (by omega) s3.out ?_;rw [← HW1.out];refine hK.out _ _ trivial (fun hHeld2=>?_);clear hK K
 (try simp only [Act.put]);try simp only [g8b,g8c,g8d]
 refine tk1 7 ?_;refine dnH ?_;go_wp2_with fail
 go_ret
 exact⟨rfl,F.out,KW.out⟩
end
section
open Go.RowKit
attribute [local go_sem ↓] app_fold
def rsOf(fl:Int)(ks:List PK):List PK:=ks.filter (fun x=>x.fl == fl)
inductive PoS (f:Cv) (fl:Int) (ps:List PK):Nat→List PK→Prop
 | nil:PoS f fl ps 0 []
 | other {i:Nat} {ks:List PK} {x:PK}:PoS f fl ps i ks→ps[i]?=some x→x.fl≠fl→PoS f fl ps (i+1) (ks ++ [x])
 | drop {i:Nat} {ks:List PK} {x:PK} {t:Int} {ok:Bool}:PoS f fl ps i ks→ps[i]?=some x→x.fl=fl→EaS f (f.at 1) (((rsOf fl ks).map PK.tm).zip ((rsOf fl ks).map PK.sz)).reverse x.tm x.sz t ok→(ok=false∨x.tm<t)→PoS f fl ps (i+1) ks
 | keep {i:Nat} {ks:List PK} {x:PK} {t:Int}:PoS f fl ps i ks→ps[i]?=some x→x.fl=fl→EaS f (f.at 1) (((rsOf fl ks).map PK.tm).zip ((rsOf fl ks).map PK.sz)).reverse x.tm x.sz t true→t≤x.tm→PoS f fl ps (i+1) (ks ++ [x])
section
variable{f:Cv}{fl:Int}{ps ks:List PK}{i:Nat}
theorem PoS.len(h:PoS f fl ps i ks):ks.length≤i:=by
 induction h with
 | nil=>simp
 | other h hx hf ih=>rw [List.length_append,List.length_singleton];omega
 | drop h hx hf he ho ih=>omega
 | keep h hx hf he ho ih=>rw [List.length_append,List.length_singleton];omega
theorem PoS.mem(h:PoS f fl ps i ks):∀x∈ks,x∈ps:=by
 induction h with
 | nil=>intro x h;cases h
 | other h hx hf ih=>
   intro y hy;rcases List.mem_append.1 hy with h|h
   ·exact ih y h
   ·rw [List.mem_singleton] at h;subst h;exact List.mem_of_getElem? hx
 | drop h hx hf he ho ih=>exact ih
 | keep h hx hf he ho ih=>
   intro y hy;rcases List.mem_append.1 hy with h|h
   ·exact ih y h
   ·rw [List.mem_singleton] at h;subst h;exact List.mem_of_getElem? hx
theorem rsOf_snoc_same(x:PK)(h:x.fl=fl):rsOf fl (ks ++ [x])=rsOf fl ks ++ [x]:=by unfold rsOf;rw [List.filter_append];simp [h]
theorem rsOf_snoc_other(x:PK)(h:x.fl≠fl):rsOf fl (ks ++ [x])=rsOf fl ks:=by unfold rsOf;rw [List.filter_append];simp [h]
theorem rsOf_len:(rsOf fl ks).length≤ks.length:=List.length_filter_le _ _
end
structure PoE(w0 wr:World)(p:Nat)(f:Cv)(A:Option Addr)(n c:Nat)(tv zv ov gv:Value)(fl:Int)(ks rest:List PK)(gs:List Int):Prop where
 rc:RC wr w0.heap.size p f A n c (f.at 1) tv zv ((rsOf fl ks).map PK.tm) ((rsOf fl ks).map PK.sz)
 ko:KOwn wr w0.heap.size ov (ks.length+rest.length) (ks ++ rest)
 go:Own wr w0.heap.size gv gs.length gs
 dp:ov.ownBlock≠some p
 dt:∀g,ov.ownBlock=some g→tv.ownBlock≠some g
 dz:∀g,ov.ownBlock=some g→zv.ownBlock≠some g
 gp:gv.ownBlock≠some p
 gt:∀g,gv.ownBlock=some g→tv.ownBlock≠some g
 gz:∀g,gv.ownBlock=some g→zv.ownBlock≠some g
 gd:∀g,gv.ownBlock=some g→ov.ownBlock≠some g
 bw:Below w0.heap.size w0 wr
section
variable{w0 wr w':World}{p:Nat}{f:Cv}{A:Option Addr}{n c:Nat}{tv zv ov gv:Value}{fl:Int}{ks rest:List PK}{gs:List Int}
theorem PoE.below(h:PoE w0 wr p f A n c tv zv ov gv fl ks rest gs)(hb:Below wr.heap.size wr w'):PoE w0 w' p f A n c tv zv ov gv fl ks rest gs:=
 ⟨h.rc.below hb,h.ko.kx (X:=fun _=>False) (KX.of hb) (fun _ _ h=>h),h.go.kx (X:=fun _=>False) (KX.of hb) (fun _ _ h=>h),h.dp,h.dt,h.dz,h.gp,h.gt,h.gz,h.gd,bthen h.bw hb⟩
theorem ob_eq(A:Option Addr)(n c n' c':Nat):(Value.slice A n c).ownBlock=(Value.slice A n' c').ownBlock:=by cases A <;> rfl
theorem PoE.gone(h:PoE w0 wr p f A n c tv zv ov gv fl ks rest gs)(i:Int)(hl:gs.length≤1000) :
 ∃gv' w',Sem.run Tryz.prog (appSem #[gv,.slice (some ⟨wr.heap.size,0,none⟩) 1 1]) (wr.alloc (.cells #[.int .i64 i] 3)) = .ok gv' w'∧PoE w0 w' p f A n c tv zv ov gv' fl ks rest (gs ++ [i]):=by
 have h1:=h.below (balloc wr (.cells #[.int .i64 i] 3));have il:=ints_lit wr [i];obtain⟨gv',w',hrun,hgo,hgr,hgb⟩:=run_appSem (m:=1) h1.go 1 (by exact il) (by omega) h1.bw.size;have kx:=KX.grown hgr;have hlb:∀g,gv'.ownBlock=some g→gv.ownBlock=some g∨wr.heap.size<g+1∧(wr.alloc (.cells #[.int .i64 i] 3)).heap.size≤g:=fun g hg=>by
  rcases hgb with e|e
  ·rw [e] at hg;exact .inl hg
  ·rw [e] at hg;cases hg;have:=(balloc wr (.cells #[.int .i64 i] 3)).size
   exact .inr ⟨by omega,Nat.le_refl _⟩
 have hb:=h.rc.blk.lt;refine⟨gv',w',hrun,h1.rc.kx kx (fun e=>h.gp e.symm) (fun g hg e=>h.gt g e.symm hg) (fun g hg e=>h.gz g e.symm hg) (fun g e=>(h.go.blk_lt g e.symm).1),h1.ko.kx kx (fun g hg e=>h.gd g e.symm hg),by rw [List.length_append,List.length_singleton];exact hgo,h.dp,h.dt,h.dz,fun e=>?_,fun g hg e=>?_,fun g hg e=>?_,fun g hg e=>?_,below_kx0 h1.bw kx (fun g e=>(h.go.blk_lt g e.symm).1)⟩
 ·rcases hlb p e with g|g
  ·exact h.gp g
  ·omega
 ·rcases hlb g hg with k|k
  ·exact h.gt g k e
  ·have:=(h.rc.tO.blk_lt g e).2;omega
 ·rcases hlb g hg with k|k
  ·exact h.gz g k e
  ·have:=(h.rc.zO.blk_lt g e).2;omega
 ·rcases hlb g hg with k|k
  ·exact h.gd g k e
  ·have:=(h.ko.blk g e).2;omega
theorem PoE.del{A':Option Addr}{N c':Nat}{x:PK}(h:PoE w0 wr p f A n c tv zv (.slice A' N c') gv fl ks (x :: rest) gs)(hN:N=ks.length+(x :: rest).length)(hko:KOwn w' w0.heap.size (.slice A' (N-1) c') (N-1) ((ks ++ x :: rest).eraseIdx ks.length))(hkx:KX (fun j=>some j=(Value.slice A' N c').ownBlock) wr w') :
 PoE w0 w' p f A n c tv zv (.slice A' (N-1) c') gv fl ks rest gs:=by
 have e:=ob_eq A' N c' (N-1) c';rw [List.length_cons] at hN;refine⟨h.rc.kx hkx (fun e=>h.dp e.symm) (fun g hg e=>h.dt g e.symm hg) (fun g hg e=>h.dz g e.symm hg) (fun g e=>(h.ko.blk g e.symm).1),?_,h.go.kx hkx (fun g hg e=>h.gd g hg e.symm),by rw [← e];exact h.dp,by rw [← e];exact h.dt,by rw [← e];exact h.dz,h.gp,h.gt,h.gz,by rw [← e];exact h.gd,below_kx0 h.bw hkx (fun g e=>(h.ko.blk g e.symm).1)⟩
 rw [List.eraseIdx_append_of_length_le (Nat.le_refl _),Nat.sub_self,List.eraseIdx_cons_zero] at hko;rw [show ks.length+rest.length=N-1 by omega];exact hko
theorem PoE.add{x:PK}{tv' zv':Value}(h:PoE w0 wr p f A n c tv zv ov gv fl ks (x :: rest) gs)(hx:x.fl=fl)(hrc:RC w' w0.heap.size p f A n c (f.at 1) tv' zv' ((rsOf fl ks).map PK.tm ++ [x.tm]) ((rsOf fl ks).map PK.sz ++ [x.sz]))(hkx:KX (fun k=>k=p∨some k=tv.ownBlock∨some k=zv.ownBlock) wr w')
 (htv:∀g,tv'.ownBlock=some g→tv.ownBlock=some g∨wr.heap.size≤g) (hzv:∀g,zv'.ownBlock=some g→zv.ownBlock=some g∨wr.heap.size≤g):PoE w0 w' p f A n c tv' zv' ov gv fl (ks ++ [x]) rest gs:=by
 have hlow:∀g,(g=p∨some g=tv.ownBlock∨some g=zv.ownBlock)→w0.heap.size≤g:=fun g e=>by
  rcases e with e|e|e
  ·rw [e];exact h.rc.pb
  ·exact(h.rc.tO.blk_lt g e.symm).1
  ·exact(h.rc.zO.blk_lt g e.symm).1
 refine⟨by rw [rsOf_snoc_same x hx,List.map_append,List.map_append];exact hrc,?_,h.go.kx hkx (fun g hg e=>?_),h.dp,fun g hg e=>?_,fun g hg e=>?_,h.gp,fun g hg e=>?_,fun g hg e=>?_,h.gd,below_kx0 h.bw hkx hlow⟩
 ·have h1:=h.ko.kx hkx (fun g hg e=>by
   rcases e with e|e|e
   ·rw [e] at hg;exact h.dp hg
   ·exact h.dt g hg e.symm
   ·exact h.dz g hg e.symm)
  rw [List.length_cons] at h1;rw [List.append_assoc,List.length_append,List.length_singleton,show ks.length+1+rest.length=ks.length+(rest.length+1) by omega];exact h1
 ·rcases e with e|e|e
  ·rw [e] at hg;exact h.gp hg
  ·exact h.gt g hg e.symm
  ·exact h.gz g hg e.symm
 ·rcases htv g e with k|k
  ·exact h.dt g hg k
  ·have:=(h.ko.blk g hg).2;omega
 ·rcases hzv g e with k|k
  ·exact h.dz g hg k
  ·have:=(h.ko.blk g hg).2;omega
 ·rcases htv g e with k|k
  ·exact h.gt g hg k
  ·have:=(h.go.blk_lt g hg).2;omega
 ·rcases hzv g e with k|k
  ·exact h.gz g hg k
  ·have:=(h.go.blk_lt g hg).2;omega
end
def RetPol(f:Cv)(fl:Int)(ps:List PK)(w:World)(e:Ending)(w':World):Prop:=
 ∃ks v gv,PoS f fl ps ps.length ks∧e = .returned (.tuple #[v,gv,.int .i64 0])∧KOwn w' w.heap.size v ks.length ks∧Below w.heap.size w w'
set_option maxHeartbeats 8000000 in
set_option maxRecDepth 100000 in
theorem police_any(B:Option Addr)(m d:Nat)(fl:Int)(ps:List PK)(A:Option Addr)(n c:Nat)(f:Cv)(w:World)(h:LsT w B m d ps)(hv:Valid ps)(hfl:0≤fl)(hA:Ints w w.heap.size A n f.vals)(hn:n≤1000)(ok:f.Fin)(hB:B=none∨∃g o,B=some ⟨g,o,none⟩)(hB0:B=none→m=0) :
 Calls Tryz.prog 20 #[.slice B m d,.int .i64 fl,.agg #[.slice A n c,.int .i64 f.per,.int .i64 f.inc]] w (RetPol f fl ps w):=by
 have BX:=hi_ (Blk.new w 26 #[.slice A n c,.int .i64 f.per,.int .i64 f.inc]);have BW:=hi_ (balloc w (.cells #[.slice A n c,.int .i64 f.per,.int .i64 f.inc] 26));have HI:=hi_ (hA.alloc' (.cells #[.slice A n c,.int .i64 f.per,.int .i64 f.inc] 26));have HT:=hi_ (h.below BW.out);have HV:=hi_ hv;have OK:=hi_ ok;have HM:=hi_ (show ps.length=m from h.1);have hm:m≤60:=by have:=hv.len;have:=h.1;omega
 have HBB:=hi_ hB;have HB0:=hi_ hB0;clear h hv hA ok hB hB0;go_enter Tryz.func20,Tryz.ntmps20
 go_upto_region 1 with fail
 generalize hwe:w.alloc (.cells #[.slice A n c,.int .i64 f.per,.int .i64 f.inc] 26)=w1 at *;clear hwe;obtain⟨⟨x0,x1,x2⟩,_,hlx⟩:=BX.out.c3;go_wp2_with fail
 refine(ccheck_any B m d fl ps A n c f w1 HT.out HV.out (by omega) (by exact HI.out) hn OK.out.1).mono ?_;rintro e w2 ⟨rfl,hb⟩;replace BX:=hi_ (BX.out.below hb BX.out.lt);replace BW:=hi_ (bthen BW.out hb);replace HI:=hi_ (HI.out.ext hb);replace HT:=hi_ (HT.out.below hb);clear hb x0 x1 x2 hlx;obtain⟨⟨x0,x1,x2⟩,_,hlx⟩:=BX.out.c3;go_wp2_with fail
 refine(begin_any A n c f w2 (by exact HI.out) OK.out.1).mono ?_;rintro e w3 ⟨p,rfl,hrc,hb⟩;have RR:=hi_ hrc;have HT3:=hi_ (HT.out.below hb);have hsz:=hb.size;have B3:=hi_ hb;clear hb hrc x0 x1 x2 hlx;go_wp2_with fail
 refine(clonek_any B m d ps w3 HT3.out (by omega) HBB.out HB0.out).mono ?_;rintro e w4 ⟨v,rfl,hko,hb⟩;have hpl:=RR.out.blk.lt;have E:=hi_ (show PoE w2 w4 p f A n c (.slice none 0 0) (.slice none 0 0) v (.slice none 0 0) fl [] ps [] from
  ⟨RR.out.below hb,by
   have hl:=HM.out;show KOwn w4 w2.heap.size v (0+ps.length) ps
   rw [Nat.zero_add,hl];exact⟨hko.1,hko.2.imp id (fun⟨g,cap,cur,e,hg,r⟩=>⟨g,cap,cur,e,Nat.le_trans hsz hg,r⟩)⟩,Own.nil_ _ _,(fun e=>by have:=(hko.blk p e).1;omega),(fun g hg e=>by cases e),(fun g hg e=>by cases e),(fun e=>by cases e),(fun g hg=>by cases hg),(fun g hg=>by cases hg),(fun g hg=>by cases hg),bthen B3.out hb⟩)
 clear hko hb hpl hsz RR B3 HT3 HI BX;have PS:=hi_ (PoS.nil (f:=f) (fl:=fl) (ps:=ps));go_wp2_with fail
 go_loopg [11,12,13,14,15,16,30] m (fun gg s11 s12 _ _ _ _ s30 wr=>∃(i:Nat) (ks:List PK) (tv zv ov gv:Value) (gs:List Int),i+gg=m∧s30 = .int .i64 i∧ov=s11∧gv=s12∧gs.length+ks.length=i∧Hid (PoS f fl ps i ks)∧Hid (PoE w2 wr p f A n c tv zv ov gv fl ks (ps.drop i) gs))
 case atStart=>exact⟨0,[],_,_,_,_,[],by omega,rfl,rfl,rfl,rfl,PS,E⟩
 case round=>
  clear E PS;obtain⟨i,ks,tv,zv,ov,gv,gs,hig,rfl,rfl,rfl,hgk,PS,E⟩:=hrel;by_cases hi:i<m
  case pos=>
   have hii:(i:Int)<m:=by omega
   obtain⟨g,o,rfl,hr⟩:=(HT.out.below E.out.bw).2.2 (by omega);obtain⟨x,hx,y0,y1,y2⟩:=hr.get (k:=i) (by rw [HM.out];exact hi);have hgl:=hr.lt;have hdr:ps.drop i=x :: ps.drop (i+1):=by
    obtain⟨h1,h2⟩:=List.getElem?_eq_some_iff.1 hx;rw [List.drop_eq_getElem_cons h1,h2]
   have HDR:=hi_ hdr;have HX:=hi_ hx;have hgd:=HV.out.good x (List.mem_of_getElem? hx);unfold PK.Good at hgd;have BP:=hi_ (Blk.new wr 71 #[.int .i64 x.fl,.int .i64 x.tm,.int .i64 x.sz]);replace E:=hi_ (E.out.below (balloc wr (.cells #[.int .i64 x.fl,.int .i64 x.tm,.int .i64 x.sz] 71)));clear hr hx hdr;go_upto_region 10 with fail
   generalize hwe:wr.alloc (.cells #[.int .i64 x.fl,.int .i64 x.tm,.int .i64 x.sz] 71)=w5 at *;clear hwe y0 y1 y2 hgl;generalize wr.heap.size=q at *;obtain⟨⟨y0,y1,y2⟩,_,hlq⟩:=BP.out.c3;go_wp2_with fail
   refine(mine_any x fl w5 hfl).mono ?_;rintro e w6 ⟨rfl,hb⟩;replace E:=hi_ (E.out.below hb);replace BP:=hi_ (BP.out.below hb BP.out.lt);clear hb y0 y1 y2 hlq;by_cases hxf:x.fl=fl
   case neg=>
    have hbf:(x.fl == fl)=false:=by simp [hxf]
    have PS2:=hi_ (PoS.other PS.out HX.out hxf);have E2:=hi_ (show PoE w2 w6 p f A n c tv zv ov gv fl (ks ++ [x]) (ps.drop (i+1)) gs by
     have E1:=E.out;rw [HDR.out] at E1;refine⟨by rw [rsOf_snoc_other x hxf];exact E1.rc,?_,E1.go,E1.dp,E1.dt,E1.dz,E1.gp,E1.gt,E1.gz,E1.gd,E1.bw⟩
     have h1:=E1.ko;rw [List.length_cons] at h1;rw [List.append_assoc,List.length_append,List.length_singleton,show ks.length+1+(ps.drop (i+1)).length=ks.length+((ps.drop (i+1)).length+1) by omega];exact h1)
    clear E PS hxf;go_wp2_with fail
    go_roundg (gk-1)
    case measure=>omega
    case rel=>exact⟨i+1,ks ++ [x],tv,zv,_,_,gs,by omega,by go_num,rfl,rfl,by rw [List.length_append,List.length_singleton];omega,PS2,E2⟩
   case pos=>
    have hbf:(x.fl == fl)=true:=by simp [hxf]
    have HXF:=hi_ hxf;clear hxf;have hkl:=PS.out.len;have hrl:(rsOf fl ks).length≤60:=Nat.le_trans rsOf_len (by omega);have hgk2:∀y∈rsOf fl ks,0≤y.tm∧y.tm≤2000∧1≤y.sz∧y.sz≤1500:=fun y hy=>by
     have h1:=PS.out.mem y (List.mem_filter.1 hy).1;have h2:=HV.out.good y h1;unfold PK.Good at h2;omega
    obtain⟨⟨y0,y1,y2⟩,_,hlq⟩:=BP.out.c3;go_wp2_with fail
    refine(earliest_any w2.heap.size p f A n c (f.at 1) x.tm x.sz tv zv ((rsOf fl ks).map PK.tm) ((rsOf fl ks).map PK.sz) w6 E.out.rc OK.out (by rw [List.length_map];exact hrl) (fun j hj=>?_) (fun j hj=>?_) (by omega) (by omega) (by omega) (by omega)).mono ?_
    ·rw [List.length_map] at hj;have h3:(rsOf fl ks)[j]?=some (rsOf fl ks)[j]:=List.getElem?_eq_getElem hj;have h4:=hgk2 _ (List.mem_of_getElem? h3);have:nth ((rsOf fl ks).map PK.tm) j=((rsOf fl ks)[j]).tm:=by simp [nth,h3]
     omega
    ·rw [List.length_map] at hj;have h3:(rsOf fl ks)[j]?=some (rsOf fl ks)[j]:=List.getElem?_eq_getElem hj;have h4:=hgk2 _ (List.mem_of_getElem? h3);have:nth ((rsOf fl ks).map PK.sz) j=((rsOf fl ks)[j]).sz:=by simp [nth,h3]
     omega
    rintro e w7 ⟨t,ok,hE,rfl,hb⟩;have HE:=hi_ hE;replace E:=hi_ (E.out.below hb);replace BP:=hi_ (BP.out.below hb BP.out.lt);clear hb y0 y1 y2 hlq hE hgk2;obtain⟨⟨y0,y1,y2⟩,_,hlq⟩:=BP.out.c3;obtain⟨N,hN⟩:∃N,N=ks.length+(ps.drop i).length:=⟨_,rfl⟩
    obtain⟨K,hK0⟩:∃K,K=ks.length:=⟨_,rfl⟩
    obtain⟨G,hG⟩:∃G,G=gs.length:=⟨_,rfl⟩
    have hkoN:=E.out.ko;have hgoN:=E.out.go;rw [← hN] at hkoN;rw [← hG] at hgoN;obtain⟨A2,c2,hgv,hgc,-,-⟩:=hgoN.ints;obtain⟨A',c',hov,hol,-⟩:=hkoN.lst;have hdl:(ps.drop i).length=m-i:=by rw [List.length_drop,HM.out]
    have hNN:N≤1000∧K<N∧G+K=i∧N+i=K+m:=by omega
    have eI:(i:Int)-(G:Int)=(K:Int):=by omega
    have HNE:=hi_ hN;have HKE:=hi_ hK0;have HGE:=hi_ hG;clear hN hK0 hG hkoN hgoN hgk hkl hrl hdl;cases ok with
    | false=>
      have PS2:=hi_ (PoS.drop PS.out HX.out HXF.out HE.out (.inl rfl));clear HE PS;subst hgv;subst hov;have hkoN:=E.out.ko;rw [← HNE.out] at hkoN;have hdel:=kdel_any w2.heap.size N c' K A' (ks ++ ps.drop i) w7 hkoN hNN.2.1 hNN.1;clear hkoN;have HD:=hi_ hdel;clear hdel;go_wp2_with fail
      refine HD.out.mono ?_;rintro e w8 ⟨rfl,hko,hkx⟩;have E1:=E.out;rw [HDR.out] at E1;have E2:=hi_ (E1.del (by rw [← HDR.out];exact HNE.out) (by rw [← HKE.out,← HDR.out];exact hko) hkx);clear hko hkx E1 E HD;obtain⟨gv',w9,hrun,hE3⟩:=E2.out.gone i (by rw [← HGE.out];omega);have E:=hi_ hE3;clear hE3 E2;go_wp2_with fail
      go_roundg (gk-1)
      case measure=>omega
      case rel=>exact⟨i+1,ks,tv,zv,_,_,gs ++ [(i:Int)],by omega,by go_num,rfl,rfl,by rw [List.length_append,List.length_singleton,← HGE.out,← HKE.out];omega,PS2,E⟩
    | true=>
      by_cases htt:x.tm<t
      case pos=>
       have PS2:=hi_ (PoS.drop PS.out HX.out HXF.out HE.out (.inr htt));clear HE PS;subst hgv;subst hov;have hkoN:=E.out.ko;rw [← HNE.out] at hkoN;have hdel:=kdel_any w2.heap.size N c' K A' (ks ++ ps.drop i) w7 hkoN hNN.2.1 hNN.1;clear hkoN;have HD:=hi_ hdel;clear hdel;go_wp2_with fail
       refine HD.out.mono ?_;rintro e w8 ⟨rfl,hko,hkx⟩;have E1:=E.out;rw [HDR.out] at E1;have E2:=hi_ (E1.del (by rw [← HDR.out];exact HNE.out) (by rw [← HKE.out,← HDR.out];exact hko) hkx);clear hko hkx E1 E HD;obtain⟨gv',w9,hrun,hE3⟩:=E2.out.gone i (by rw [← HGE.out];omega);have E:=hi_ hE3;clear hE3 E2;go_wp2_with fail
       go_roundg (gk-1)
       case measure=>omega
       case rel=>exact⟨i+1,ks,tv,zv,_,_,gs ++ [(i:Int)],by omega,by go_num,rfl,rfl,by rw [List.length_append,List.length_singleton,← HGE.out,← HKE.out];omega,PS2,E⟩
      case neg=>
       have PS2:=hi_ (PoS.keep PS.out HX.out HXF.out HE.out (by omega));have hrl:(rsOf fl ks).length≤60:=Nat.le_trans rsOf_len (by rw [← HKE.out];omega);clear HE PS;subst hgv;subst hov;go_wp2_with fail
       refine(add_any w2.heap.size p f A n c (f.at 1) x.tm x.sz tv zv ((rsOf fl ks).map PK.tm) ((rsOf fl ks).map PK.sz) w7 E.out.rc (by rw [List.length_map];omega)).mono ?_;rintro e w8 ⟨tv',zv',rfl,hrc,hkx,htv,hzv⟩;have E1:=E.out;rw [HDR.out] at E1;have E2:=hi_ (E1.add HXF.out hrc hkx htv hzv);clear hrc hkx htv hzv E E1 y0 y1 y2 hlq;go_wp2_with fail
       go_roundg (gk-1)
       case measure=>omega
       case rel=>exact⟨i+1,ks ++ [x],tv',zv',_,_,gs,by omega,by go_num,rfl,rfl,by rw [List.length_append,List.length_singleton,← HGE.out,← HKE.out];omega,PS2,E2⟩
  case neg=>
   have hii:¬(i:Int)<m:=by omega
   obtain rfl:m=i:=by omega
   have h1:=E.out.ko;have hd:ps.drop m = []:=List.drop_eq_nil_of_le (by rw [HM.out];exact Nat.le_refl _);rw [hd,List.append_nil,List.length_nil,Nat.add_zero] at h1;have HK:=hi_ h1;obtain⟨A',c',rfl,-,-⟩:=h1.lst;clear h1 hd;obtain⟨A2,c2,rfl,-,-,-⟩:=E.out.go.ints;have F:=hi_ (show KOwn wr w.heap.size (.slice A' ks.length c') ks.length ks by
    have h1:=HK.out;exact⟨h1.1,h1.2.imp id (fun⟨g,cap,cur,e,hg,r⟩=>⟨g,cap,cur,e,Nat.le_trans BW.out.size hg,r⟩)⟩)
   have PS2:=hi_ (show PoS f fl ps ps.length ks by rw [HM.out];exact PS.out);have bw:=bthen BW.out E.out.bw;clear E PS HK;go_wp2_with fail
   exact bodyPost_ret (v:=.tuple #[.slice A' ks.length c',.slice A2 gs.length c2,.int .i64 0]) (by simp [results,Tryz.results20,go_sem]) rfl ⟨ks,_,_,PS2.out,rfl,F.out,bw⟩
end
end Go.Proofs.YtaejfleahamapaaGreat
