/- . -/
import Derived.Laws.OwnMore
import Derived.Test.YtaejfleahamapaaGreatTd10
import Derived.Test.YtaejfleahamapaaGreatTd13
import Derived.Test.YtaejfleahamapaaGreatTd3
namespace Go.Proofs.YtaejfleahamapaaGreat
set_option linter.unusedVariables false
set_option linter.unusedSimpArgs false
set_option maxHeartbeats 4000000
set_option maxRecDepth 100000
open Go.RowKit
section
attribute [local go_sem ↓] pZ
structure j2(xs:List PK)(T:Int)(m:Int):Prop where
 g:∀x∈xs,0<=x.fl/\x.fl<2/\0<=x.tm/\x.tm<=T/\1<=x.sz/\x.sz<=m
 so:∀(k j:Nat) (x y:PK),k<=j->xs[k]?=some x->xs[j]?=some y->x.tm<=y.tm
 t0:0<=T
 t1:T<=7*xs.length
theorem j2.nil_(m:Int):j2 [] 0 m:=⟨(fun x h=>by cases h),(fun k j x y _ h=>by simp at h),Int.le_refl _,by simp⟩
theorem j2.snoc{xs:List PK}{T m:Int}(h:j2 xs T m)(x:PK)(d:Int)(h1:0<=x.fl/\x.fl<2/\1<=x.sz/\x.sz<=m)(ht:x.tm=T)(hd:0<=d/\d<=7):j2 (xs ++ [x]) (T+d) m:=by
 have h0:=h.t0;have h2:=h.t1;refine⟨fun y hy=>?_,fun k j a b hkj ha hb=>?_,by omega,by rw [List.length_append,List.length_singleton];omega⟩
 ·rcases List.mem_append.1 hy with hy|hy
  ·have:=h.g y hy;omega
  ·rw [List.mem_singleton] at hy;subst hy;omega
 ·rw [List.getElem?_append] at ha hb;by_cases hj:j<xs.length
  ·rw [if_pos (by omega)] at ha;rw [if_pos hj] at hb;exact h.so k j a b hkj ha hb
  ·rw [if_neg hj] at hb;have hjx:j-xs.length=0:=by
    have:=(List.getElem?_eq_some_iff.1 hb).1
    simp at this;omega
   rw [hjx] at hb;simp at hb;subst hb;by_cases hk:k<xs.length
   ·rw [if_pos hk] at ha;have:=h.g a (List.mem_of_getElem? ha);omega
   ·rw [if_neg hk] at ha;have hkx:k-xs.length=0:=by
     have:=(List.getElem?_eq_some_iff.1 ha).1
     simp at this;omega
    rw [hkx] at ha;simp at ha;subst ha;exact Int.le_refl _
theorem KX.ofKept{p:Nat}{w w':World}(h:bI w.heap.size p w w'):KX (fun k=>k=p) w w':=⟨h.os,h.tape,h.output,h.size,fun k hk hx=>h.block k hk hx⟩
theorem bI.kx{B p:Nat}{X:Nat->Prop}{w0 w w':World}(h:bI B p w0 w)(k:KX X w w')(hB:B<=w0.heap.size)(hx:∀j,j<B->X j->j=p):bI B p w0 w':=
 h.trans ⟨k.os,k.tape,k.output,k.size,fun j hj hp=>k.block j (by have:=h.size;omega) (fun e=>hp (hx j hj e))⟩
theorem bQ.kx{p:Nat}{X:Nat->Prop}{w w':World}(h:bQ w p)(k:KX X w w')(hx:∀j,j<=p->¬X j):bQ w' p:=
 h.below (B:=p+1) ⟨k.os,k.tape,k.output,k.size,fun j hj=>k.block j (by have:=h.lt;omega) (hx j (by omega))⟩ (by omega)
theorem KX.sto{g:Nat}{w w':World}(h:aR g w w'):KX (fun k=>k=g) w w':=⟨h.os,h.tape,h.output,by rw [h.size];exact Nat.le_refl _,fun k _ hk=>h.block k hk⟩
def uT(S:List PK->Prop)(p:Nat)(w:World)(e:Ending)(w':World):Prop:=
 ∃v m xs,S xs/\e = .returned v/\a8 w' w.heap.size v m xs/\bQ w' p/\bI w.heap.size p w w'
theorem xZ(p n:Nat)(zs:List Int)(w:World)(hS:bQ w p)(h1:1<=n)(h2:n<=100)(hl:zs.length=n) :
 Calls Tryz.prog 59 #[.pointer (some ⟨p,0,none⟩),.slice (some ⟨w.heap.size,0,none⟩) n n] (w.alloc (.cells (zs.map (Value.int .i64)).toArray 3)) fun e w'=>∃x,x∈zs/\e = .returned (.int .i64 x)/\bQ w' p/\bI w.heap.size p w w':=by
 have il:=X7 w zs;rw [hl] at il;have hp:=hS.lt;refine(a1f p (some ⟨w.heap.size,0,none⟩) n n zs _ (hS.alloc _) il (fun b off s e=>by cases e;omega) h1 (by omega)).mono ?_;rintro e w' ⟨⟨j,hj,rfl⟩,hs,hk⟩;refine⟨aB zs j,?_,rfl,hs,(bI.of (aF w _)).trans (hk.mono (by simp))⟩
 have h3:zs[j]?=some zs[j]:=List.getElem?_eq_getElem (by omega);have:aB zs j=zs[j]:=by simp [aB,h3]
 rw [this];exact List.getElem_mem _
structure kM(w wr:World)(p:Nat)(v:Value)(m:Nat)(xs:List PK):Prop where
 s:bQ wr p
 k:bI w.heap.size p w wr
 o:a8 wr w.heap.size v m xs
 hp:p<w.heap.size
section
variable{w wr wx:World}{p m:Nat}{v:Value}{xs:List PK}
theorem kM.next(h:kM w wr p v m xs)(hs:bQ wx p)(hk:bI wr.heap.size p wr wx):kM w wx p v m xs:=
 ⟨hs,lL h.k hk,h.o.kx (KX.ofKept hk) (fun g hg e=>by have:=(h.o.blk g hg).1;have:=h.hp;omega),h.hp⟩
end
theorem a4j(p n:Nat)(w:World)(hS:bQ w p)(hn:n<=40) :
 Calls Tryz.prog 60 #[.pointer (some ⟨p,0,none⟩),.int .i64 n,.int .i64 2,.int .i64 4] w (uT (fun xs=>xs.length<=n/\∃T,j2 xs T 4) p w):=by
 have E:=aA (show kM w w p (.slice none 0 0) 0 [] from⟨hS,bI.refl _ _ _,a8.nil_ _ _,hS.lt⟩);clear hS;go_enter Tryz.func60,Tryz.ntmps60
 go_wp2_with fail
 refine(j7 p (n+1) w E.out.s (by omega) (by omega)).mono ?_;rintro e w1 ⟨c,hc0,hc1,rfl,hS1,hk1⟩;replace E:=aA (E.out.next hS1 hk1);clear hS1 hk1;obtain⟨c,rfl⟩:=Int.eq_ofNat_of_zero_le hc0;have hcn:c<=n:=by omega
 clear hc0 hc1;go_wp2_with fail
 go_loopg [9,10,11] c (fun gg s9 s10 s11 wr=>∃(xs:List PK) (T:Int) (v:Value),gg+xs.length<=n/\v=s9/\s10 = .int .i64 T/\s11 = .int .i64 gg/\Hid (kM w wr p v xs.length xs)/\Hid (j2 xs T 4)/\0<=T/\T<=400)
 case atStart=>exact⟨[],0,_,by simpa using hcn,rfl,rfl,rfl,E,aA (j2.nil_ 4),by omega,by omega⟩
 case round=>
  clear E hcn;obtain⟨xs,T,v,hgn,rfl,rfl,rfl,E,HT,hT0,hT1⟩:=hrel;obtain⟨N,hN⟩:∃N,N=xs.length:=⟨_,rfl⟩
  have HN:=aA hN;rw [<- hN] at hgn E;clear hN;by_cases hk:0<gk
  case pos=>
   have hki:(0:Int)<gk:=by omega
   go_wp2_with fail
   refine(j7 p 2 wr E.out.s (by omega) (by omega)).mono ?_;rintro e w2 ⟨a,ha0,ha1,rfl,hS1,hk1⟩;replace E:=aA (E.out.next hS1 hk1);clear hS1 hk1;go_wp2_with fail
   refine(j7 p 4 w2 E.out.s (by omega) (by omega)).mono ?_;rintro e w3 ⟨b,hb0,hb1,rfl,hS1,hk1⟩;replace E:=aA (E.out.next hS1 hk1);clear hS1 hk1;obtain⟨v',w4,hrun,hko,hkx,hvb⟩:=yR E.out.o ⟨a,T,1+b⟩ E.out.k.size (by omega);have hov:∀g,v.ownBlock=some g->w.heap.size<=g/\g<w3.heap.size:=fun g hg=>E.out.o.blk g hg
   have E2:=aA (show kM w w4 p v' (N+1) (xs ++ [⟨a,T,1+b⟩]) from⟨E.out.s.kx hkx (fun j hj e=>by have:=(hov j e.symm).1;have:=E.out.hp;omega),E.out.k.kx hkx (Nat.le_refl _) (fun j hj e=>by have:=(hov j e.symm).1;omega),hko,E.out.hp⟩);clear hko hkx hvb hov E;go_upto_region 7 with fail
   go_wp2_with fail
   refine(xZ p 7 [0,0,0,1,1,2,7] w4 E2.out.s (by omega) (by omega) rfl).mono ?_;rintro e w5 ⟨d,hd,rfl,hS1,hk1⟩;have hd2:0<=d/\d<=7:=by
    simp only [List.mem_cons,List.not_mem_nil,or_false] at hd;omega
   have E:=aA (E2.out.next hS1 hk1);have hTd:=HT.out.snoc ⟨a,T,1+b⟩ d ⟨ha0,ha1,by show 1<=1+b;omega,by show 1+b<=4;omega⟩ rfl hd2;have ht1:=hTd.t1;have HT2:=aA hTd;rw [List.length_append,List.length_singleton,<- HN.out] at ht1;clear hS1 hk1 E2 hd hTd hrun HT;go_wp2_with fail
   go_roundg (gk-1)
   case measure=>omega
   case rel=>exact⟨xs ++ [⟨a,T,1+b⟩],T+d,v',by rw [List.length_append,List.length_singleton,<- HN.out];omega,rfl,rfl,by go_num,by rw [List.length_append,List.length_singleton,<- HN.out];exact E,HT2,by omega,by omega⟩
  case neg=>
   have hki:¬(0:Int)<gk:=by omega
   go_wp2_with fail
   go_ret
   exact⟨_,_,xs,⟨by rw [<- HN.out];omega,T,HT.out⟩,rfl,E.out.o,E.out.s,E.out.k⟩
end
def f5(x:PK):PK:=⟨x.fl,x.tm,x.sz*5⟩
def iT(xs:List PK)(k:Nat):List PK:=xs.mapIdx (fun j x=>if j<k then f5 x else x)
theorem oO(xs:List PK)(k j:Nat):(iT xs k)[j]?=xs[j]?.map (fun x=>if j<k then f5 x else x):=by unfold iT;rw [List.getElem?_mapIdx]
theorem T9(xs:List PK):iT xs 0=xs:=by
 refine List.ext_getElem? fun j=>?_
 rw [oO];cases xs[j]? <;> simp
theorem wO(xs:List PK)(k:Nat):(iT xs k).length=xs.length:=by unfold iT;simp
theorem T8{xs:List PK}{k:Nat}{x:PK}(h:xs[k]?=some x):(iT xs k).set k (f5 x)=iT xs (k+1):=by
 have hk:=(List.getElem?_eq_some_iff.1 h).1;refine List.ext_getElem? fun j=>?_
 rw [List.getElem?_set,oO,oO,wO];by_cases e:k=j
 ·subst e;rw [if_pos rfl,if_pos hk,h];simp
 ·rw [if_neg e];cases xs[j]? with
  | none=>rfl
  | some y=>
    simp only [Option.map_some]
    congr 1
    by_cases hj:j<k
    ·rw [if_pos hj,if_pos (by omega)]
    ·rw [if_neg hj,if_neg (by omega)]
theorem wQ:∀(xs:List PK) (k:Nat) (x:PK) (y:Int),xs[k]?=some x->(xs.set k ⟨x.fl,x.tm,y⟩).flatMap PK.cells=(xs.flatMap PK.cells).set (k*3+2) (.int .i64 y)
 | [],k,x,y,h=>by simp at h
 | z :: xs,0,x,y,h=>by
   simp at h;subst h
   rfl
 | z :: xs,k+1,x,y,h=>by
   simp at h;have e:z.cells.length=3:=rfl;rw [List.set_cons_succ,List.flatMap_cons,List.flatMap_cons,wQ xs k x y h,List.set_append_right _ _ (by rw [e];omega),e]
   congr 2
   omega
theorem a8.sz{w:World}{base g c n k:Nat}{xs:List PK}{x:PK}(h:a8 w base (.slice (some ⟨g,0,none⟩) n c) n xs)(hx:xs[k]?=some x)(y:Int) :
 a8 (w.setCell ⟨g,k*3+2,none⟩ (.int .i64 y)) base (.slice (some ⟨g,0,none⟩) n c) n (xs.set k ⟨x.fl,x.tm,y⟩):=by
 unfold a8;rw [wQ xs k x y hx];exact(World.ownsRow.stored h (k*3+2) (.int .i64 y)).1
theorem a8.form{w:World}{base c n:Nat}{A:Option Addr}{xs:List PK}(h:a8 w base (.slice A n c) n xs)(hn:0<n):∃g,A=some ⟨g,0,none⟩/\base<=g/\g<w.heap.size:=by
 rcases h.2 with ⟨e,h0⟩|⟨g,cap,cur,e,hb,hh,_⟩
 ·omega
 ·cases e
  exact⟨g,rfl,(h.blk g rfl)⟩
structure gY(n:Nat)(xs:List PK):Prop where
 len:xs.length<=n
 g:∀x∈xs,0<=x.fl/\x.fl<2/\0<=x.tm/\x.tm<=7*n/\5<=x.sz/\x.sz<=20
 so:∀(k j:Nat) (x y:PK),k<=j->xs[k]?=some x->xs[j]?=some y->x.tm<=y.tm
theorem j2.five{xs:List PK}{T:Int}{n:Nat}(h:j2 xs T 4)(hn:xs.length<=n):gY n (iT xs xs.length):=by
 have hg:∀(k:Nat) (y:PK),(iT xs xs.length)[k]?=some y->∃x,xs[k]?=some x/\y=f5 x:=fun k y hy=>by
  rw [oO] at hy;rcases hx:xs[k]? with _|x
  ·rw [hx] at hy;cases hy
  ·rw [hx,Option.map_some,if_pos (List.getElem?_eq_some_iff.1 hx).1] at hy;exact⟨x,rfl,(Option.some.inj hy).symm⟩
 refine⟨by rw [wO];exact hn,fun y hy=>?_,fun k j a b hkj ha hb=>?_⟩
 ·obtain⟨k,hk⟩:=List.getElem?_of_mem hy;obtain⟨x,hx,rfl⟩:=hg k y hk;have h1:=h.g x (List.mem_of_getElem? hx);have h2:=h.t1;show 0<=x.fl/\x.fl<2/\0<=x.tm/\x.tm<=7*n/\5<=x.sz*5/\x.sz*5<=20
  omega
 ·obtain⟨x,hx,rfl⟩:=hg k a ha;obtain⟨y,hy,rfl⟩:=hg j b hb;exact h.so k j x y hkj hx hy
theorem zS(p n:Nat)(w:World)(hS:bQ w p)(hn:n<=40) :
 Calls Tryz.prog 16 #[.pointer (some ⟨p,0,none⟩),.int .i64 n] w (uT (gY n) p w):=by
 have hp:=hS.lt;go_enter Tryz.func16,Tryz.ntmps16
 go_wp2_with fail
 refine(a4j p n w hS hn).mono ?_;rintro e w1 ⟨v,m,xs,⟨hl,T,hT⟩,rfl,hko,hS1,hk1⟩;obtain⟨A,c,rfl,hls,hA⟩:=hko.lst;have hm:xs.length=m:=hls.1;have E:=aA (show kM w w1 p (.slice A m c) m (iT xs 0) from⟨hS1,hk1,by rw [T9];exact hko,hp⟩);have HM:=aA hm;have HT:=aA hT;have hmn:m<=n:=by omega
 have HA:=aA hA;clear hS hS1 hk1 hko hls hm hT hl hA;go_wp2_with fail
 go_loopg [6,12] m (fun gg _ s12 wr=>∃k:Nat,k+gg=m/\s12 = .int .i64 k/\Hid (kM w wr p (.slice A m c) m (iT xs k)))
 case atStart=>exact⟨0,by omega,rfl,E⟩
 case round=>
  clear E;obtain⟨k,hkg,rfl,E⟩:=hrel;by_cases hk:k<m
  case pos=>
   have hki:(k:Int)<m:=by omega
   obtain⟨x,hx⟩:∃x,xs[k]?=some x:=⟨_,List.getElem?_eq_getElem (by rw [HM.out];exact hk)⟩
   have hx2:(iT xs k)[k]?=some x:=by rw [oO,hx];simp
   obtain⟨g,rfl,hgb,hgl⟩:=E.out.o.form (by omega);obtain⟨A',c',e,hls,-⟩:=E.out.o.lst;cases e
   obtain⟨g',o',e,hr⟩:=hls.2.2 (by omega);cases e
   have y2:=hr.cell k 2 x hx2 (by omega);rw [Nat.zero_add] at y2;replace y2:wr.cell? ⟨g,k*3+2,none⟩=some (.int .i64 x.sz):=y2;have f2:wr.frozen? ⟨g,k*3+2,none⟩=false:=World.ownsRow.frozenAt E.out.o (k*3+2);have hsz:=HT.out.g x (List.mem_of_getElem? hx);have hs1:1<=x.sz/\x.sz<=4:=by omega
   have E2:=aA (show kM w (wr.setCell ⟨g,k*3+2,none⟩ (.int .i64 (x.sz*5))) p (.slice (some ⟨g,0,none⟩) m c) m (iT xs (k+1)) from
    ⟨E.out.s.far (by show p<g;omega) _,E.out.k.setCell (.inr hgb) _,by rw [<- T8 hx];exact E.out.o.sz hx2 (x.sz*5),hp⟩)
   generalize x.sz=z at *;clear E hr hls hx hx2 hsz;go_wp2_with fail
   go_roundg (gk-1)
   case measure=>omega
   case rel=>exact⟨k+1,by omega,by go_num,E2⟩
  case neg=>
   have hki:¬(k:Int)<m:=by omega
   obtain rfl:m=k:=by omega
   go_wp2_with fail
   go_ret
   refine⟨_,_,_,?_,rfl,E.out.o,E.out.s,E.out.k⟩
   have:=HT.out.five (n:=n) (by rw [HM.out];exact hmn)
   rwa [HM.out] at this
theorem mC{w:World}{g n:Nat}(h:w.ownsRow g 3 1 (.slice (some ⟨g,0,none⟩) n n) n (madeCells (Value.int .i64 0).cells (n*1)).toList):aU w g (List.replicate n 0):=by
 have e:(madeCells (Value.int .i64 0).cells (n*1)).toList=(List.replicate n 0).map (Value.int .i64):=by simp [madeCells,Value.cells,Nat.mod_one,List.eq_replicate_iff]
 rw [e] at h;exact Own.row0 (xs:=List.replicate n 0) h
def F0(h:Nat->Int)(N:Nat)(w:World)(e:Ending)(w':World):Prop:=
 ∃g,e = .returned (.slice (some ⟨g,0,none⟩) N N)/\aU w' g (aZ h 0 N)/\w.heap.size<=g/\Below w.heap.size w w'
def j3(h:Nat->Int)(zs:List Int)(N i:Nat):Prop:=zs.length=N/\∀x,x<i->aB zs x=h x
theorem j3.step{h:Nat->Int}{zs:List Int}{N i:Nat}(H:j3 h zs N i)(hi:i<N):j3 h (zs.set i (h i)) N (i+1):=
 ⟨by rw [List.length_set];exact H.1,fun x hx=>by
  rw [eQ _ _ _ _ (by rw [H.1];exact hi)];split
  ·rename_i e;rw [e]
  ·exact H.2 x (by omega)⟩
theorem j3.done{h:Nat->Int}{zs:List Int}{N:Nat}(H:j3 h zs N N):zs=aZ h 0 N:=m4 H.1 (fun j hj=>by rw [Nat.zero_add];exact H.2 j hj)
theorem mH(A:Option Addr)(n c:Nat)(p i:Int)(N:Nat)(zs:List Int)(w:World)(hA:aE w w.heap.size A n zs)(hf:Cv.Ok ⟨zs,p,i⟩)(hN:N<=3000) :
 Calls Tryz.prog 42 #[.agg #[.slice A n c,.int .i64 p,.int .i64 i],.int .i64 N] w (F0 (Cv.at ⟨zs,p,i⟩) N w):=by
 have f1':=hf.n1;have f2':=hf.n2;have f3:=hf.p1;have f4:=hf.p2;have f5:=hf.pn;have f6:=hf.i1;have f7:=hf.i2;have hlm:zs.length=n:=hA.1;simp only at f1' f2' f3 f4 f5 f6 f7
 rw [hlm] at f1' f2' f5;obtain⟨i0,hi0,hz0,hy1,hy2⟩:=info_parts iE;have E:=aA (L1.new (c:=c) (p:=p) (i:=i) hA);have HF:=aA hf;clear hA hf;go_enter Tryz.func42,Tryz.ntmps42
 go_upto_region 1 with fail
 generalize hwe:w.alloc (.cells #[.slice A n c,.int .i64 p,.int .i64 i] 26)=we at *;clear hwe;go_wp2_with (at_make;refine wpList_make_full _ rfl _ _ 22 rfl we.heap.size 3 i0 _ 1 Tryz.underlying22 hi0 hz0 hy1 .i64 .i64 _ _ N rfl rfl rfl rfl (by rw [hy2];omega) (by unfold maxLen;omega) (by simp) ?_;intro w3 own1 grow1)
 have hb3:Below we.heap.size we w3:=(Below.refl _ _).grown grow1 (by simp) (by simp);have SM:=aA (mC own1);have hsz:=E.out.bw.size;have hfs:=E.out.fb.lt;have E:=aA (E.out.below hb3);clear hi0 hz0 hy1 hy2 own1 grow1 hb3;generalize we.heap.size=g at *;go_loopg [6,11] N (fun gg s6 s11 wx=>∃(k:Nat) (vs:List Int),k+gg=N/\s11 = .int .i64 k/\j3 (Cv.at ⟨zs,p,i⟩) vs N k/\aU wx g vs/\L1 w wx A n c p i zs)
 case atStart=>exact⟨0,List.replicate N 0,by omega,rfl,⟨by simp,fun x hx=>by omega⟩,SM.out,E.out⟩
 case round=>
  clear SM E;obtain⟨k,vs,hkg,rfl,hu,hR,hE⟩:=hrel;have SM:=aA hR;have E:=aA hE;have HU:=aA hu;clear hR hE hu;by_cases hk:k<N
  ·have hki:(k:Int)<N:=by omega
   obtain⟨f0,f1,f2,hlf⟩:=E.out.cells;go_wp2_with fail
   refine(gA A n c p i (k:Int) zs _ (by exact E.out.ints) (by omega) (by omega) (by omega) (by omega) (by omega) HF.out.nn (by omega) (by omega)).mono ?_;rw [Int.toNat_natCast];obtain⟨v,hv⟩:∃v,v=Cv.at ⟨zs,p,i⟩ k:=⟨_,rfl⟩
   rw [<- hv];have F:=aA (HU.out.step hk);rw [<- hv] at F;rintro e wq ⟨rfl,hb⟩;have hgl:=SM.out.lt;have E:=aA (E.out.below hb);have SM:=aA (SM.out.below hb hgl);clear hb f0 f1 f2 hlf hv;have q0:=SM.out.cell k (by rw [HU.out.1];exact hk);have z0:=SM.out.frozen k;have hlt:=SM.out.lt;go_wp2_with fail
   go_roundg (gk-1)
   case measure=>omega
   case rel=>exact⟨k+1,_,by omega,by go_num,F.out,SM.out.set_ k (by rw [HU.out.1];exact hk) v,
    ⟨E.out.fb.far (by show w.heap.size≠g;omega) _,E.out.ib.keep (fun q hq=>World.cell?_setCell_other _ _ _ _ (fun e=>by subst e;simp at hq;omega)),E.out.bw.setCell (by show w.heap.size<=g;omega) _⟩⟩
  ·have hkN:k=N:=by omega
   subst hkN;have F:=HU.out.done;have hr:=SM.out;rw [F] at hr;have bw:=E.out.bw;go_wp2_with fail
   go_ret
   exact⟨g,rfl,hr,by omega,bw⟩
theorem J3(a b:Nat)(w:World)(ha:(a:Int)<=1000)(hb:(b:Int)<=1000)(ha1:1<=a) :
 Calls Tryz.prog 94 #[.int .i64 a,.int .i64 b] w fun e w'=>e = .returned (.int .i64 (a9 a b:Nat))/\Below w.heap.size w w':=by
 go_enter Tryz.func94,Tryz.ntmps94
 go_wp2
 go_loopg [5,6] b (fun g s0 s1 wx=>∃x y:Nat,s0 = .int .i64 x/\s1 = .int .i64 y/\y=g/\(x:Int)<=1000/\(y:Int)<=1000/\Hid (Nat.gcd x y=Nat.gcd a b)/\Below w.heap.size w wx)
 case atStart=>exact⟨a,b,rfl,rfl,rfl,ha,hb,rfl,Below.refl _ _⟩
 case round=>
  obtain⟨x,y,rfl,rfl,hyg,hx,hy,hgcd,bw⟩:=hrel;have HY:=aA hyg;clear hyg;have HG:=aA hgcd;clear hgcd;by_cases hy0:y=0
  ·have hb1:((y:Int) != 0)=false:=by simpa using hy0
   have hxg:x=Nat.gcd a b:=by rw [<- HG.out.out,hy0,Nat.gcd_zero_right]
   have hx0:0<x:=by rw [hxg];exact Nat.gcd_pos_of_pos_left _ (by omega)
   obtain⟨k,hk⟩:∃k,k=a / x:=⟨_,rfl⟩
   have hka:k<=a:=by rw [hk];exact Nat.div_le_self _ _
   have ed:((a:Int).tdiv (x:Int))=(k:Int):=by rw [hk];rfl
   have hxn:(x:Int)≠0:=by omega
   have hkb:(k:Int)*b<=1000*1000:=Int.mul_le_mul (by omega) hb (by omega) (by omega);have hkb0:0<=(k:Int)*b:=Int.mul_nonneg (by omega) (by omega);have F:=aA (show(k:Int)*b=(a9 a b:Nat) by unfold a9;rw [<- hxg,<- hk];simp);clear HG hy0 hxg hk
   go_wp2
   go_ret
   exact⟨iV F.out,bw⟩
  ·have hb1:((y:Int) != 0)=true:=by simpa using hy0
   have F:=aA (show Nat.gcd y (x % y)=Nat.gcd a b by rw [Nat.gcd_comm,<- Nat.gcd_rec,Nat.gcd_comm];exact HG.out.out);clear HG;have hy0':(y:Int)≠0:=by omega
   go_wp2_with fail
   go_quiet (fail)
   go_wp2
   go_roundg (x % y)
   case measure=>rw [<- HY.out];exact Nat.mod_lt _ (by omega)
   case rel=>exact⟨y,x % y,by go_num,by go_num,rfl,hy,by have:=Nat.mod_lt x (show y>0 by omega);omega,F.out,cC bw⟩
structure Bx(L:Nat)(w:World)(F:Nat)(A:Option Addr)(n c:Nat)(f:Cv):Prop where
 blk:aC w F 26 #[.slice A n c,.int .i64 f.per,.int .i64 f.inc]
 ints:aE w w.heap.size A n f.vals
 ap:∀b off s,A=some ⟨b,off,s⟩->L<=b/\b<F
 lf:L<=F
section
variable{L F n c:Nat}{w w':World}{A:Option Addr}{f:Cv}
theorem Bx.lt(h:Bx L w F A n c f):F<w.heap.size:=h.blk.lt
theorem Bx.new{B:Nat}(hI:aE w w.heap.size A n f.vals)(hA:∀b off s,A=some ⟨b,off,s⟩->B<=b)(hL:L<=B)(hn:0<n)(hw:L<=w.heap.size):Bx L (w.alloc (.cells #[.slice A n c,.int .i64 f.per,.int .i64 f.inc] 26)) w.heap.size A n c f:=
 ⟨aC.new _ _ _,hI.alloc' _,fun b off s e=>by
  have h1:=hA b off s e;obtain⟨b',off',e',hb,_⟩:=hI.2 hn;rw [e] at e';cases e';omega,hw⟩
theorem Bx.below(h:Bx L w F A n c f)(hb:Below w.heap.size w w'):Bx L w' F A n c f:=⟨h.blk.below hb h.lt,h.ints.ext hb,h.ap,h.lf⟩
theorem Bx.alloc(h:Bx L w F A n c f)(o:Obj):Bx L (w.alloc o) F A n c f:=h.below (aF w o)
theorem Bx.drew(h:Bx L w F A n c f):Bx L w.drew F A n c f:=⟨h.blk,h.ints,h.ap,h.lf⟩
theorem Bx.sto{g:Nat}(h:Bx L w F A n c f)(s:aR g w w')(hg:F<g\/g<L):Bx L w' F A n c f:=
 ⟨h.blk.sto s (by have:=h.lf;omega),h.ints.sto s (fun b off o e=>by have:=h.ap b off o e;omega),h.ap,h.lf⟩
theorem Bx.cells(h:Bx L w F A n c f):w.cell? ⟨F,0,none⟩=some (.slice A n c)/\w.cell? ⟨F,1,none⟩=some (.int .i64 f.per)/\w.cell? ⟨F,2,none⟩=some (.int .i64 f.inc)/\F<w.heap.size:=by
 have q0:=h.blk.cell 0;have q1:=h.blk.cell 1;have q2:=h.blk.cell 2;simp at q0 q1 q2;exact⟨q0,q1,q2,h.lt⟩
theorem Bx.set1(h:Bx L w F A n c f){g:Nat}(hg:F<g\/g<L)(i:Nat)(u:Value):Bx L (w.setCell ⟨g,i,none⟩ u) F A n c f:=h.sto ((aR.refl g w).set i u) hg
end
theorem lI(p q:Int)(w:World)(hp1:1<=p)(hp:p<=1000)(hq1:1<=q)(hq:q<=1000) :
 Calls Tryz.prog 94 #[.int .i64 p,.int .i64 q] w fun e w'=>e = .returned (.int .i64 (a9 p.toNat q.toNat:Nat))/\Below w.heap.size w w':=by
 obtain⟨p,rfl⟩:=Int.eq_ofNat_of_zero_le (show 0<=p by omega);obtain⟨q,rfl⟩:=Int.eq_ofNat_of_zero_le (show 0<=q by omega);simp only [Int.toNat_natCast];exact J3 p q w hp hq (by omega)
section
variable{L F n c:Nat}{w w':World}{A:Option Addr}{f:Cv}
end
structure PS(w wx:World)(A:Option Addr)(n c:Nat)(p i:Int)(xs:List Int)(B:Option Addr)(m d:Nat)(q j:Int)(ys:List Int):Prop where
 fb:aC wx w.heap.size 26 #[.slice A n c,.int .i64 p,.int .i64 i]
 gb:aC wx (w.heap.size+1) 26 #[.slice B m d,.int .i64 q,.int .i64 j]
 ia:aE wx wx.heap.size A n xs
 ib:aE wx wx.heap.size B m ys
 bw:Below w.heap.size w wx
section
variable{w wx wy:World}{A B:Option Addr}{n c m d:Nat}{p i q j:Int}{xs ys:List Int}
theorem PS.new(hA:aE w w.heap.size A n xs)(hB:aE w w.heap.size B m ys):PS w ((w.alloc (.cells #[.slice A n c,.int .i64 p,.int .i64 i] 26)).alloc (.cells #[.slice B m d,.int .i64 q,.int .i64 j] 26)) A n c p i xs B m d q j ys:=
 ⟨(aC.new w 26 #[.slice A n c,.int .i64 p,.int .i64 i]).alloc _,by
   have:=aC.new (w.alloc (.cells #[.slice A n c,.int .i64 p,.int .i64 i] 26)) 26 #[.slice B m d,.int .i64 q,.int .i64 j]
   rwa [World.size_alloc] at this,(hA.alloc' _).alloc' _,(hB.alloc' _).alloc' _,aD (aF w _) (aF _ _)⟩
theorem PS.below(h:PS w wx A n c p i xs B m d q j ys)(hb:Below wx.heap.size wx wy):PS w wy A n c p i xs B m d q j ys:=
 ⟨h.fb.below hb h.fb.lt,h.gb.below hb h.gb.lt,h.ia.ext hb,h.ib.ext hb,aD h.bw hb⟩
theorem PS.alloc(h:PS w wx A n c p i xs B m d q j ys)(o:Obj):PS w (wx.alloc o) A n c p i xs B m d q j ys:=h.below (aF wx o)
theorem PS.cells(h:PS w wx A n c p i xs B m d q j ys):wx.cell? ⟨w.heap.size,0,none⟩=some (.slice A n c)/\wx.cell? ⟨w.heap.size,1,none⟩=some (.int .i64 p)/\wx.cell? ⟨w.heap.size,2,none⟩=some (.int .i64 i)/\
 wx.cell? ⟨w.heap.size+1,0,none⟩=some (.slice B m d)/\wx.cell? ⟨w.heap.size+1,1,none⟩=some (.int .i64 q)/\wx.cell? ⟨w.heap.size+1,2,none⟩=some (.int .i64 j)/\w.heap.size<wx.heap.size/\w.heap.size+1<wx.heap.size:=by
 have f0:=h.fb.cell 0;have f1:=h.fb.cell 1;have f2:=h.fb.cell 2;have g0:=h.gb.cell 0;have g1:=h.gb.cell 1;have g2:=h.gb.cell 2;simp at f0 f1 f2 g0 g1 g2;exact⟨f0,f1,f2,g0,g1,g2,h.fb.lt,h.gb.lt⟩
end
def jU:Array Value:=#[.slice none 0 0,.int .i64 0,.int .i64 0,.slice none 0 0,.int .i64 0,.int .i64 0,.int .i64 0,.bool false]
def lJ(A:Option Addr)(n c:Nat)(f:Cv)(B:Option Addr)(m d:Nat)(g:Cv)(T:Int)(l:Bool):Array Value:=
 #[.slice A n c,.int .i64 f.per,.int .i64 f.inc,.slice B m d,.int .i64 g.per,.int .i64 g.inc,.int .i64 T,.bool l]
def lX(f g:Cv)(er:Int):Prop:=(¬(f.Ok/\g.Ok)/\er=1)\/(f.Ok/\g.Ok/\er=3/\∃a b,NF f.at a/\NF g.at b/\120<a9 a.per.toNat b.per.toNat)
def n9(l:Bool)(a b:Cv):Prop:=l=true↔l3 a b
def C6(f g:Cv)(w:World)(e:Ending)(w':World):Prop:=
 (∃er,lX f g er/\e = .returned (.tuple #[.agg jU,.int .i64 er])/\Below w.heap.size w w')\/
 (f.Ok/\g.Ok/\∃(a b:Cv) (A:Option Addr) (n c:Nat) (B:Option Addr) (m d:Nat) (l:Bool),NF f.at a/\NF g.at b/\a.Ok/\b.Ok/\a9 a.per.toNat b.per.toNat<=120/\n9 l a b/\
  e = .returned (.tuple #[.agg (lJ A n c a B m d b (aL a b+aI a b:Nat) l),.int .i64 0])/\aE w' w'.heap.size A n a.vals/\aE w' w'.heap.size B m b.vals/\(∀b off s,A=some ⟨b,off,s⟩->w.heap.size<=b)/\(∀b off s,B=some ⟨b,off,s⟩->w.heap.size<=b)/\Below w.heap.size w w')
theorem fI(A:Option Addr)(n c:Nat)(p i t:Int)(w:World)(hp:1<=p)(hi:0<=i)(hi2:i<=1073741824)(ht:0<=t)(ht2:t<=1000000) :
 Calls Tryz.prog 96 #[.agg #[.slice A n c,.int .i64 p,.int .i64 i],.int .i64 t] w fun e w'=>e = .returned (.int .i64 ((t.toNat / p.toNat:Nat)*i))/\Below w.heap.size w w':=by
 obtain⟨p,rfl⟩:=Int.eq_ofNat_of_zero_le (show 0<=p by omega);obtain⟨t,rfl⟩:=Int.eq_ofNat_of_zero_le ht;simp only [Int.toNat_natCast];obtain⟨u,hu⟩:∃u,u=t / p:=⟨_,rfl⟩
 have hut:u<=t:=by rw [hu];exact Nat.div_le_self _ _
 have e1:((t:Int).tdiv (p:Int))=(u:Int):=by rw [hu];rfl
 have e1':((t:Int) / (p:Int))=(u:Int):=by rw [hu];rfl
 have hui:(u:Int)*i<=1000000*1073741824:=Int.mul_le_mul (by omega) hi2 hi (by omega);have hui0:0<=(u:Int)*i:=Int.mul_nonneg (by omega) hi;have e2:IntKind.i64.wrap ((u:Int)*i)=(u:Int)*i:=IntWalk.i64_in _ (by omega);have hpn:(p:Int)≠0:=by omega
 have hpn2:p≠0:=by omega
 have q1:=(aC.new w 26 #[.slice A n c,.int .i64 p,.int .i64 i]).cell 1;have q2:=(aC.new w 26 #[.slice A n c,.int .i64 p,.int .i64 i]).cell 2;simp at q1 q2;rw [<- hu];have HU:=aA hu;clear hu;go_enter Tryz.func96,Tryz.ntmps96
 go_wp2_with fail
 go_quiet (fail)
 go_wp2_with fail
 go_ret
 exact⟨rfl,cC (aF w _)⟩
theorem O9(A B:Option Addr)(n m c d:Nat)(p i q j:Int)(xs ys:List Int)(w:World)(hA:aE w w.heap.size A n xs)(hB:aE w w.heap.size B m ys)(hn:(n:Int)<=1000000)(hm:(m:Int)<=1000000) :
 Calls Tryz.prog 48 #[.agg #[.slice A n c,.int .i64 p,.int .i64 i],.agg #[.slice B m d,.int .i64 q,.int .i64 j]] w (C6 ⟨xs,p,i⟩ ⟨ys,q,j⟩ w):=by
 have P:=aA ((PS.new (c:=c) (p:=p) (i:=i) (d:=d) (q:=q) (j:=j) hA hB).alloc (.cells jU 102));have rb:=aC.new ((w.alloc (.cells #[.slice A n c,.int .i64 p,.int .i64 i] 26)).alloc (.cells #[.slice B m d,.int .i64 q,.int .i64 j] 26)) 102 jU;rw [World.size_alloc,World.size_alloc] at rb;have RB:=aA rb;clear hA hB rb;unfold jU at P RB;go_enter Tryz.func48,Tryz.ntmps48
 go_wp2_with fail
 refine(jR A n c p i xs _ P.out.ia hn).mono ?_;rintro e w1 ⟨a,er,hN,A1,n1,c1,rfl,hI1,hA1,hb1⟩;simp only [World.size_alloc] at hA1;have HN:=aA (i4.of hN);have P:=aA (P.out.below hb1);have RB:=aA (RB.out.below hb1 RB.out.lt);have HI1:=aA hI1;have hs1:=RB.out.lt;clear hN hI1 hb1;rcases HN.out with ⟨hfo,hnf,hao,rfl⟩|⟨hno,rfl,rfl⟩
 ·have ha1:=hao.n1;have ha2:=hao.n2;have hap:=hao.p1;have hap2:=hao.p2;have hai:=hao.i1;have hai2:=hao.i2;have hapn:=hao.pn;have hl1:a.vals.length=n1:=HI1.out.1;rw [hl1] at ha1 ha2 hapn;have FA:=aA (Bx.new (c:=c1) (f:=a) HI1.out hA1 (Nat.le_refl _) (by omega) (by omega));have P:=aA (P.out.alloc (.cells #[.slice A1 n1 c1,.int .i64 a.per,.int .i64 a.inc] 26));have RB:=aA (RB.out.alloc (.cells #[.slice A1 n1 c1,.int .i64 a.per,.int .i64 a.inc] 26));have HNF:=aA hnf;have HFO:=aA hfo;have HAO:=aA hao;have HL1:=aA hl1;clear hnf hfo hao HI1 hA1 HN hl1;obtain⟨f0,f1,f2,g0,g1,g2,hlf,hlg⟩:=P.out.cells;go_wp2_with fail
  refine(jR B m d q j ys _ P.out.ib hm).mono ?_;rintro e w2 ⟨b,er,hN,A2,n2,c2,rfl,hI2,hA2,hb2⟩;simp only [World.size_alloc] at hA2;have HN:=aA (i4.of hN);have RB:=aA (RB.out.below hb2 RB.out.lt);have FA:=aA (FA.out.below hb2);have BW:=aA (aD P.out.bw hb2);have HI2:=aA hI2;have hs2:=RB.out.lt;have hs3:=FA.out.lt;clear hN hI2 hb2 P f0 f1 f2 g0 g1 g2 hlf hlg;rcases HN.out with ⟨hgo,hnf,hbo,rfl⟩|⟨hno,rfl,rfl⟩
  ·have hb1:=hbo.n1;have hb2:=hbo.n2;have hbp:=hbo.p1;have hbp2:=hbo.p2;have hbi:=hbo.i1;have hbi2:=hbo.i2;have hbpn:=hbo.pn;have hl2:b.vals.length=n2:=HI2.out.1;rw [hl2] at hb1 hb2 hbpn;have FB:=aA (Bx.new (L:=w.heap.size+1+1+1) (c:=c2) (f:=b) HI2.out hA2 (by omega) (by omega) (by omega));have FA:=aA (FA.out.alloc (.cells #[.slice A2 n2 c2,.int .i64 b.per,.int .i64 b.inc] 26));have RB:=aA (RB.out.alloc (.cells #[.slice A2 n2 c2,.int .i64 b.per,.int .i64 b.inc] 26));have BW:=aA (aD BW.out (aF _ (.cells #[.slice A2 n2 c2,.int .i64 b.per,.int .i64 b.inc] 26)));have HNG:=aA hnf;have HGO:=aA hgo;have HBO:=aA hbo;have HL2:=aA hl2;clear hnf hgo hbo HI2 hA2 HN hl2;obtain⟨a0,a1,a2,hla⟩:=FA.out.cells;obtain⟨b0,b1,b2,hlb⟩:=FB.out.cells;go_wp2_with fail
   refine(lI a.per b.per _ (by omega) (by omega) (by omega) (by omega)).mono ?_;rintro e w3 ⟨rfl,hb3⟩;obtain⟨C,hC⟩:∃C,C=a9 a.per.toNat b.per.toNat:=⟨_,rfl⟩
   rw [<- hC];have RB:=aA (RB.out.below hb3 RB.out.lt);have FA:=aA (FA.out.below hb3);have FB:=aA (FB.out.below hb3);have BW:=aA (aD BW.out hb3);have HC:=aA hC;have hs4:=FB.out.lt;clear hb3 hC;clear a0 a1 a2 hla b0 b1 b2 hlb;obtain⟨a0,a1,a2,hla⟩:=FA.out.cells;obtain⟨b0,b1,b2,hlb⟩:=FB.out.cells;by_cases hcc:120<C
   ·have F:=aA (show lX ⟨xs,p,i⟩ ⟨ys,q,j⟩ 3 from .inr ⟨HFO.out,HGO.out,rfl,a,b,HNF.out,HNG.out,by rw [<- HC.out];exact hcc⟩);have hci:(120:Int)<(C:Int):=by omega
    clear hcc;go_wp2_with (refine iK rfl 102 _ _ rfl rfl RB.out rfl rfl (by kernel_rfl) (by simp [Value.oneCell']) ?_;intro wz hsto rz)
    exact bodyPost_ret (v:=.tuple #[.agg jU,.int .i64 3]) (by simp [results,Tryz.results48,go_sem,rz.cell,jU]) rfl (.inl ⟨_,F.out,rfl,cE BW.out hsto (by omega)⟩)
   ·have hci:¬(120:Int)<(C:Int):=by omega
    have hc120:(C:Int)<=120:=by omega
    clear hcc;go_upto_region 10 with fail
    obtain⟨S,hS⟩:∃S,S=aL a b:=⟨_,rfl⟩
    have hmx:(if(n1:Int)-a.per<(n2:Int)-b.per then (n2:Int)-b.per else (n1:Int)-a.per)=(S:Int):=by
     rw [hS];unfold aL;rw [HL1.out,HL2.out];split <;> omega
    have hSb:(S:Int)<=400:=by rw [hS];unfold aL;rw [HL1.out,HL2.out];omega
    have e1:IntKind.i64.wrap ((S:Int)+(C:Int))=(S:Int)+(C:Int):=IntWalk.i64_in _ (by omega);have HS:=aA hS;clear hS
    go_cut [10] (fun s10 wx=>∃P:Nat,s10 = .pointer (some ⟨P,0,none⟩)/\w2.heap.size<P/\aC wx P 102 #[.slice A1 n1 c1,.int .i64 a.per,.int .i64 a.inc,.slice A2 n2 c2,.int .i64 b.per,.int .i64 b.inc,.int .i64 ((S:Int)+(C:Int)),.bool false]/\
     Bx (w.heap.size+1+1+1) wx w1.heap.size A1 n1 c1 a/\Bx (w.heap.size+1+1+1) wx w2.heap.size A2 n2 c2 b/\aC wx (w.heap.size+1+1) 102 #[.slice none 0 0,.int .i64 0,.int .i64 0,.slice none 0 0,.int .i64 0,.int .i64 0,.int .i64 0,.bool false]/\Below w.heap.size w wx)
    case first=>
     have FA:=aA FA.out.drew;have FB:=aA FB.out.drew;have RB:=aA (aC.drew RB.out);have BW:=aA (Below.drew BW.out);clear a0 a1 a2 hla b0 b1 b2 hlb;obtain⟨a0,a1,a2,hla⟩:=FA.out.cells;obtain⟨b0,b1,b2,hlb⟩:=FB.out.cells;refine wp_region_held_drew (S:=fun w'=>w'.cell? ⟨w1.heap.size,0,none⟩=some (.slice A1 n1 c1)/\w'.cell? ⟨w1.heap.size,1,none⟩=some (.int .i64 a.per)/\w'.cell? ⟨w1.heap.size,2,none⟩=some (.int .i64 a.inc)/\w'.cell? ⟨w2.heap.size,0,none⟩=some (.slice A2 n2 c2)/\w'.cell? ⟨w2.heap.size,1,none⟩=some (.int .i64 b.per)/\w'.cell? ⟨w2.heap.size,2,none⟩=some (.int .i64 b.inc)) (by kernel_rfl) ⟨a0,a1,a2,b0,b1,b2⟩ (fun hH=>?_);generalize hwd:w3.drew=wd at *;clear hwd;refine aO [0,1,2,4,7] ?_;(iterate 5 refine aK ?_);refine aP ?_;refine eS 3 10 (fun K hK=>?_) (fun K hK=>?_)
     ·rw [if_pos (by rfl)];go_simp
      refine(dR A1 n1 c1 a.per a.inc _ (by omega) (by omega) (by omega)).mono ?_;rintro e wa ⟨rfl,hbq⟩;have FA:=aA (FA.out.below hbq);have FB:=aA (FB.out.below hbq);have RB:=aA (RB.out.below hbq RB.out.lt);have BW:=aA (aD BW.out hbq)
      try (have ZB:=aA (ZB.out.below hbq ZB.out.lt))
      clear hbq hH;clear a0 a1 a2 hla b0 b1 b2 hlb;obtain⟨a0,a1,a2,hla⟩:=FA.out.cells;obtain⟨b0,b1,b2,hlb⟩:=FB.out.cells;refine aH hK (by exact⟨a0,a1,a2,b0,b1,b2⟩) (fun hH=>?_);refine eS 5 10 (fun K hK=>?_) (fun K hK=>?_)
      ·rw [if_pos (by rfl)];go_simp
       refine(dR A2 n2 c2 b.per b.inc _ (by omega) (by omega) (by omega)).mono ?_;rintro e wb ⟨rfl,hbq⟩;have FA:=aA (FA.out.below hbq);have FB:=aA (FB.out.below hbq);have RB:=aA (RB.out.below hbq RB.out.lt);have BW:=aA (aD BW.out hbq)
       try (have ZB:=aA (ZB.out.below hbq ZB.out.lt))
       clear hbq hH;clear a0 a1 a2 hla b0 b1 b2 hlb;obtain⟨a0,a1,a2,hla⟩:=FA.out.cells;obtain⟨b0,b1,b2,hlb⟩:=FB.out.cells;refine aH hK (by exact⟨a0,a1,a2,b0,b1,b2⟩) (fun hH=>?_);refine eS 6 10 (fun K hK=>?_) (fun K hK=>?_)
       ·rw [if_pos (by rfl)];go_simp
        refine aH hK (by exact⟨a0,a1,a2,b0,b1,b2⟩) (fun hH=>?_);refine aO [8,9] ?_;(iterate 2 refine aK ?_);refine aP ?_;refine aJ 10 (fun K hK=>?_);go_simp
        have hbq:=aF wb (.cells #[.slice none 0 0,.int .i64 0,.int .i64 0,.slice none 0 0,.int .i64 0,.int .i64 0,.int .i64 0,.bool false] 102);have zb:=aC.new wb 102 #[.slice none 0 0,.int .i64 0,.int .i64 0,.slice none 0 0,.int .i64 0,.int .i64 0,.int .i64 0,.bool false];have hP:=FB.out.lt;have ZB:=aA zb;clear zb;generalize hwa:wb.alloc (.cells #[.slice none 0 0,.int .i64 0,.int .i64 0,.slice none 0 0,.int .i64 0,.int .i64 0,.int .i64 0,.bool false] 102)=wc at *;clear hwa;have FA:=aA (FA.out.below hbq);have FB:=aA (FB.out.below hbq);have RB:=aA (RB.out.below hbq RB.out.lt);have BW:=aA (aD BW.out hbq);clear hbq hH;clear a0 a1 a2 hla b0 b1 b2 hlb;obtain⟨a0,a1,a2,hla⟩:=FA.out.cells;obtain⟨b0,b1,b2,hlb⟩:=FB.out.cells;refine aH hK (by exact⟨a0,a1,a2,b0,b1,b2⟩) (fun hH=>?_);refine dA 11 (fun K hK=>?_);refine gH rfl 102 _ _ rfl rfl ZB.out rfl rfl (by kernel_rfl) (by simp [Value.oneCell']) ?_;intro wz hsto rz;have FA:=aA (FA.out.sto hsto (.inl (by omega)));have FB:=aA (FB.out.sto hsto (.inl (by omega)));have RB:=aA (RB.out.sto hsto (by omega));have BW:=aA (cE BW.out hsto (by omega));clear a0 a1 a2 hla b0 b1 b2 hlb;obtain⟨a0,a1,a2,hla⟩:=FA.out.cells;obtain⟨b0,b1,b2,hlb⟩:=FB.out.cells;refine aH hK (by exact⟨a0,a1,a2,b0,b1,b2⟩) (fun hH=>?_);refine aT ?_;go_wp2_with fail
        go_meet
        exact⟨_,rfl,hP,rz,FA.out,FB.out,RB.out,BW.out⟩
       ·rw [if_pos (by rfl)];go_simp
        have hbq:=aF wb (.cells #[.slice none 0 0,.int .i64 0,.int .i64 0,.slice none 0 0,.int .i64 0,.int .i64 0,.int .i64 0,.bool false] 102);have zb:=aC.new wb 102 #[.slice none 0 0,.int .i64 0,.int .i64 0,.slice none 0 0,.int .i64 0,.int .i64 0,.int .i64 0,.bool false];have hP:=FB.out.lt;have ZB:=aA zb;clear zb;generalize hwa:wb.alloc (.cells #[.slice none 0 0,.int .i64 0,.int .i64 0,.slice none 0 0,.int .i64 0,.int .i64 0,.int .i64 0,.bool false] 102)=wc at *;clear hwa;have FA:=aA (FA.out.below hbq);have FB:=aA (FB.out.below hbq);have RB:=aA (RB.out.below hbq RB.out.lt);have BW:=aA (aD BW.out hbq);clear hbq hH;clear a0 a1 a2 hla b0 b1 b2 hlb;obtain⟨a0,a1,a2,hla⟩:=FA.out.cells;obtain⟨b0,b1,b2,hlb⟩:=FB.out.cells;refine aH hK (by exact⟨a0,a1,a2,b0,b1,b2⟩) (fun hH=>?_);refine aJ 6 (fun K hK=>?_);go_simp
        refine aH hK (by exact⟨a0,a1,a2,b0,b1,b2⟩) (fun hH=>?_);refine aO [8,9] ?_;(iterate 2 refine aK ?_);refine aP ?_;refine dA 11 (fun K hK=>?_);refine gH rfl 102 _ _ rfl rfl ZB.out rfl rfl (by kernel_rfl) (by simp [Value.oneCell']) ?_;intro wz hsto rz;have FA:=aA (FA.out.sto hsto (.inl (by omega)));have FB:=aA (FB.out.sto hsto (.inl (by omega)));have RB:=aA (RB.out.sto hsto (by omega));have BW:=aA (cE BW.out hsto (by omega));clear a0 a1 a2 hla b0 b1 b2 hlb;obtain⟨a0,a1,a2,hla⟩:=FA.out.cells;obtain⟨b0,b1,b2,hlb⟩:=FB.out.cells;refine aH hK (by exact⟨a0,a1,a2,b0,b1,b2⟩) (fun hH=>?_);refine aT ?_;go_wp2_with fail
        go_meet
        exact⟨_,rfl,hP,rz,FA.out,FB.out,RB.out,BW.out⟩
      ·rw [if_pos (by rfl)];go_simp
       have hbq:=aF wa (.cells #[.slice none 0 0,.int .i64 0,.int .i64 0,.slice none 0 0,.int .i64 0,.int .i64 0,.int .i64 0,.bool false] 102);have zb:=aC.new wa 102 #[.slice none 0 0,.int .i64 0,.int .i64 0,.slice none 0 0,.int .i64 0,.int .i64 0,.int .i64 0,.bool false];have hP:=FB.out.lt;have ZB:=aA zb;clear zb;generalize hwa:wa.alloc (.cells #[.slice none 0 0,.int .i64 0,.int .i64 0,.slice none 0 0,.int .i64 0,.int .i64 0,.int .i64 0,.bool false] 102)=wb at *;clear hwa;have FA:=aA (FA.out.below hbq);have FB:=aA (FB.out.below hbq);have RB:=aA (RB.out.below hbq RB.out.lt);have BW:=aA (aD BW.out hbq);clear hbq hH;clear a0 a1 a2 hla b0 b1 b2 hlb;obtain⟨a0,a1,a2,hla⟩:=FA.out.cells;obtain⟨b0,b1,b2,hlb⟩:=FB.out.cells;refine aH hK (by exact⟨a0,a1,a2,b0,b1,b2⟩) (fun hH=>?_);refine aJ 5 (fun K hK=>?_);go_simp
       refine(dR A2 n2 c2 b.per b.inc _ (by omega) (by omega) (by omega)).mono ?_;rintro e wc ⟨rfl,hbq⟩;have FA:=aA (FA.out.below hbq);have FB:=aA (FB.out.below hbq);have RB:=aA (RB.out.below hbq RB.out.lt);have BW:=aA (aD BW.out hbq)
       try (have ZB:=aA (ZB.out.below hbq ZB.out.lt))
       clear hbq hH;clear a0 a1 a2 hla b0 b1 b2 hlb;obtain⟨a0,a1,a2,hla⟩:=FA.out.cells;obtain⟨b0,b1,b2,hlb⟩:=FB.out.cells;refine aH hK (by exact⟨a0,a1,a2,b0,b1,b2⟩) (fun hH=>?_);refine aJ 6 (fun K hK=>?_);go_simp
       refine aH hK (by exact⟨a0,a1,a2,b0,b1,b2⟩) (fun hH=>?_);refine aO [8,9] ?_;(iterate 2 refine aK ?_);refine aP ?_;refine dA 11 (fun K hK=>?_);refine gH rfl 102 _ _ rfl rfl ZB.out rfl rfl (by kernel_rfl) (by simp [Value.oneCell']) ?_;intro wz hsto rz;have FA:=aA (FA.out.sto hsto (.inl (by omega)));have FB:=aA (FB.out.sto hsto (.inl (by omega)));have RB:=aA (RB.out.sto hsto (by omega));have BW:=aA (cE BW.out hsto (by omega));clear a0 a1 a2 hla b0 b1 b2 hlb;obtain⟨a0,a1,a2,hla⟩:=FA.out.cells;obtain⟨b0,b1,b2,hlb⟩:=FB.out.cells;refine aH hK (by exact⟨a0,a1,a2,b0,b1,b2⟩) (fun hH=>?_);refine aT ?_;go_wp2_with fail
       go_meet
       exact⟨_,rfl,hP,rz,FA.out,FB.out,RB.out,BW.out⟩
     ·rw [if_pos (by rfl)];go_simp
      have hbq:=aF wd (.cells #[.slice none 0 0,.int .i64 0,.int .i64 0,.slice none 0 0,.int .i64 0,.int .i64 0,.int .i64 0,.bool false] 102);have zb:=aC.new wd 102 #[.slice none 0 0,.int .i64 0,.int .i64 0,.slice none 0 0,.int .i64 0,.int .i64 0,.int .i64 0,.bool false];have hP:=FB.out.lt;have ZB:=aA zb;clear zb;generalize hwa:wd.alloc (.cells #[.slice none 0 0,.int .i64 0,.int .i64 0,.slice none 0 0,.int .i64 0,.int .i64 0,.int .i64 0,.bool false] 102)=wa at *;clear hwa;have FA:=aA (FA.out.below hbq);have FB:=aA (FB.out.below hbq);have RB:=aA (RB.out.below hbq RB.out.lt);have BW:=aA (aD BW.out hbq);clear hbq hH;clear a0 a1 a2 hla b0 b1 b2 hlb;obtain⟨a0,a1,a2,hla⟩:=FA.out.cells;obtain⟨b0,b1,b2,hlb⟩:=FB.out.cells;refine aH hK (by exact⟨a0,a1,a2,b0,b1,b2⟩) (fun hH=>?_);refine aJ 3 (fun K hK=>?_);go_simp
      refine(dR A1 n1 c1 a.per a.inc _ (by omega) (by omega) (by omega)).mono ?_;rintro e wb ⟨rfl,hbq⟩;have FA:=aA (FA.out.below hbq);have FB:=aA (FB.out.below hbq);have RB:=aA (RB.out.below hbq RB.out.lt);have BW:=aA (aD BW.out hbq)
      try (have ZB:=aA (ZB.out.below hbq ZB.out.lt))
      clear hbq hH;clear a0 a1 a2 hla b0 b1 b2 hlb;obtain⟨a0,a1,a2,hla⟩:=FA.out.cells;obtain⟨b0,b1,b2,hlb⟩:=FB.out.cells;refine aH hK (by exact⟨a0,a1,a2,b0,b1,b2⟩) (fun hH=>?_);refine aJ 5 (fun K hK=>?_);go_simp
      refine(dR A2 n2 c2 b.per b.inc _ (by omega) (by omega) (by omega)).mono ?_;rintro e wc ⟨rfl,hbq⟩;have FA:=aA (FA.out.below hbq);have FB:=aA (FB.out.below hbq);have RB:=aA (RB.out.below hbq RB.out.lt);have BW:=aA (aD BW.out hbq)
      try (have ZB:=aA (ZB.out.below hbq ZB.out.lt))
      clear hbq hH;clear a0 a1 a2 hla b0 b1 b2 hlb;obtain⟨a0,a1,a2,hla⟩:=FA.out.cells;obtain⟨b0,b1,b2,hlb⟩:=FB.out.cells;refine aH hK (by exact⟨a0,a1,a2,b0,b1,b2⟩) (fun hH=>?_);refine aJ 6 (fun K hK=>?_);go_simp
      refine aH hK (by exact⟨a0,a1,a2,b0,b1,b2⟩) (fun hH=>?_);refine aO [8,9] ?_;(iterate 2 refine aK ?_);refine aP ?_;refine dA 11 (fun K hK=>?_);refine gH rfl 102 _ _ rfl rfl ZB.out rfl rfl (by kernel_rfl) (by simp [Value.oneCell']) ?_;intro wz hsto rz;have FA:=aA (FA.out.sto hsto (.inl (by omega)));have FB:=aA (FB.out.sto hsto (.inl (by omega)));have RB:=aA (RB.out.sto hsto (by omega));have BW:=aA (cE BW.out hsto (by omega));clear a0 a1 a2 hla b0 b1 b2 hlb;obtain⟨a0,a1,a2,hla⟩:=FA.out.cells;obtain⟨b0,b1,b2,hlb⟩:=FB.out.cells;refine aH hK (by exact⟨a0,a1,a2,b0,b1,b2⟩) (fun hH=>?_);refine aT ?_;go_wp2_with fail
      go_meet
      exact⟨_,rfl,hP,rz,FA.out,FB.out,RB.out,BW.out⟩
    case rest=>
     as_aux_lemma=>
     clear FA FB RB BW;clear a0 a1 a2 hla b0 b1 b2 hlb;obtain⟨P,rfl,hP,pb,fa,fb,rb,bw⟩:=hcut;have PB:=aA pb;have FA:=aA fa;have FB:=aA fb;have RB:=aA rb;have BW:=aA bw;clear pb fa fb rb bw hmx e1;have LO1:=aA (show ∀z:Bool,z=(aB b.vals (n2-1) != aG)->(z=true↔b.Fin) from fun z hz=>by
      rw [hz,bne_iff_ne,<- HL2.out];exact⟨fun h=>⟨HBO.out,h⟩,fun h=>h.2⟩)
     have LO2:=aA (show ∀z:Bool,z=(aB a.vals (n1-1) != aG)->(z=true↔a.Fin) from fun z hz=>by
      rw [hz,bne_iff_ne,<- HL1.out];exact⟨fun h=>⟨HAO.out,h⟩,fun h=>h.2⟩)
     obtain⟨fb,hfb⟩:∃z,z=(aB b.vals (n2-1) != aG):=⟨_,rfl⟩
     obtain⟨fa,hfa⟩:∃z,z=(aB a.vals (n1-1) != aG):=⟨_,rfl⟩
     obtain⟨x,hx⟩:∃x,x=(C / a.per.toNat:Nat)*a.inc:=⟨_,rfl⟩
     obtain⟨y,hy⟩:∃y,y=(C / b.per.toNat:Nat)*b.inc:=⟨_,rfl⟩
     have HFB:=aA hfb;have HFA:=aA hfa;have HX:=aA hx;have HY:=aA hy;have LO3:=aA (show dG a b=x-y from by unfold dG;rw [hx,hy,HC.out];rfl);clear hfb hfa hx hy;have PB:=aA (aC.drew PB.out);have FA:=aA FA.out.drew;have FB:=aA FB.out.drew;have RB:=aA (aC.drew RB.out);have BW:=aA (Below.drew BW.out);obtain⟨a0,a1,a2,hla⟩:=FA.out.cells;obtain⟨b0,b1,b2,hlb⟩:=FB.out.cells;obtain⟨p7,hlp⟩:_/\_:=⟨PB.out.cell 7,PB.out.lt⟩
     have v7:=PB.out.frozen 7;simp at p7;have hPr:=RB.out.lt;have hPs:w1.heap.size<P:=by have:=hs3;omega
     go_wp2_with fail
     refine wp_region_held_drew (S:=fun w'=>w'.cell? ⟨w1.heap.size,0,none⟩=some (.slice A1 n1 c1)/\w'.cell? ⟨w1.heap.size,1,none⟩=some (.int .i64 a.per)/\w'.cell? ⟨w1.heap.size,2,none⟩=some (.int .i64 a.inc)/\w'.cell? ⟨w2.heap.size,0,none⟩=some (.slice A2 n2 c2)/\w'.cell? ⟨w2.heap.size,1,none⟩=some (.int .i64 b.per)/\w'.cell? ⟨w2.heap.size,2,none⟩=some (.int .i64 b.inc)) (by kernel_rfl) ⟨a0,a1,a2,b0,b1,b2⟩ (fun hH=>?_);generalize hwd:wc.drew=wd at *;clear hwd;refine bD 0 ?_;refine aJ 1 (fun K hK=>?_);go_simp
     refine(gN A2 n2 c2 b.per b.inc b.vals _ (by exact FB.out.ints) (by omega) (by omega)).mono ?_;rw [<- HFB.out];rintro e wf ⟨rfl,hbq⟩;have PB:=aA (PB.out.below hbq PB.out.lt);have FA:=aA (FA.out.below hbq);have FB:=aA (FB.out.below hbq);have RB:=aA (RB.out.below hbq RB.out.lt);have BW:=aA (aD BW.out hbq);clear hbq hH;clear a0 a1 a2 hla b0 b1 b2 hlb;obtain⟨a0,a1,a2,hla⟩:=FA.out.cells;obtain⟨b0,b1,b2,hlb⟩:=FB.out.cells;clear p7 hlp v7;obtain⟨p7,hlp⟩:_/\_:=⟨PB.out.cell 7,PB.out.lt⟩
     have v7:=PB.out.frozen 7;simp at p7;refine aH hK (by exact⟨a0,a1,a2,b0,b1,b2⟩) (fun hH=>?_);cases fb
     case false=>
      refine aO [2,3,4,5,6,7,8,9,10,11,12,13,14,15] ?_;refine aK ?_;(iterate 12 refine gU ?_);refine aK ?_;refine aP ?_;have HLO:=aA (show n9 false a b from by
       have h1:=LO1.out _ HFB.out;exact⟨(fun h=>by cases h),(fun h=>by have:=h1.2 h.1;cases this)⟩)
      refine bD 16 ?_;refine aJ 17 (fun K hK=>?_);go_simp
      refine aH hK (by exact⟨(fD (by omega)).trans a0,(fD (by omega)).trans a1,(fD (by omega)).trans a2,(fD (by omega)).trans b0,(fD (by omega)).trans b1,(fD (by omega)).trans b2⟩) (fun hH=>?_);refine aT ?_;have PB:=aA (PB.out.set_ 7 (.bool false));have FA:=aA (FA.out.set1 (g:=P) (.inl (by omega)) 7 (.bool false));have FB:=aA (FB.out.set1 (g:=P) (.inl (by omega)) 7 (.bool false));have RB:=aA (RB.out.far (p:=⟨P,7,none⟩) (by simp;omega) (.bool false));have BW:=aA (BW.out.setCell (p:=⟨P,7,none⟩) (by simp;omega) (.bool false));clear a0 a1 a2 hla b0 b1 b2 hlb;clear p7 hlp v7
      try clear hH
      generalize hwe:wf.setCell ⟨P,7,none⟩ (.bool false)=we at *;clear hwe;simp only [List.setIfInBounds_toArray,List.set_cons_succ,List.set_cons_zero] at PB;go_upto_region 12 with fail
      refine wp_region_lit ?_;refine wpList_load_row rfl 102 _ rfl P rfl 102 #[.slice A1 n1 c1,.int .i64 a.per,.int .i64 a.inc,.slice A2 n2 c2,.int .i64 b.per,.int .i64 b.inc,.int .i64 ((S:Int)+(C:Int)),.bool false] (0,0) _ PB.out Tryz.underlying102 rfl (by kernel_rfl) ?_;refine iK rfl 102 _ _ rfl rfl RB.out rfl rfl (by kernel_rfl) (by simp [Value.oneCell']) ?_;intro wz hsto rz;have FA:=aA (FA.out.sto hsto (.inr (by omega)));have FB:=aA (FB.out.sto hsto (.inr (by omega)));have bw:=cE BW.out hsto (by omega)
      (try simp only [Act.put]);try simp only [dC,dD,dE]
      go_wp2_with fail
      exact bodyPost_ret (v:=.tuple #[.agg (lJ A1 n1 c1 a A2 n2 c2 b ((S:Int)+(C:Int)) false),.int .i64 0]) (by simp [results,Tryz.results48,go_sem,rz.cell,lJ]) rfl
       (.inr ⟨HFO.out,HGO.out,a,b,A1,n1,c1,A2,n2,c2,false,HNF.out,HNG.out,HAO.out,HBO.out,by rw [<- HC.out];omega,HLO.out,by rw [show((aL a b+aI a b:Nat):Int)=(S:Int)+(C:Int) from by rw [HS.out,HC.out];exact Int.natCast_add _ _],FA.out.ints,FB.out.ints,fun b' off s e=>by have:=(FA.out.ap b' off s e).1;omega,fun b' off s e=>by have:=(FB.out.ap b' off s e).1;omega,bw⟩)
     case true=>
      refine aO [2,3] ?_;(iterate 2 refine aK ?_);refine aP ?_;refine aJ 4 (fun K hK=>?_);go_simp
      refine(gN A1 n1 c1 a.per a.inc a.vals _ (by exact FA.out.ints) (by omega) (by omega)).mono ?_;rw [<- HFA.out];rintro e wg ⟨rfl,hbq⟩;have PB:=aA (PB.out.below hbq PB.out.lt);have FA:=aA (FA.out.below hbq);have FB:=aA (FB.out.below hbq);have RB:=aA (RB.out.below hbq RB.out.lt);have BW:=aA (aD BW.out hbq);clear hbq hH;clear a0 a1 a2 hla b0 b1 b2 hlb;obtain⟨a0,a1,a2,hla⟩:=FA.out.cells;obtain⟨b0,b1,b2,hlb⟩:=FB.out.cells;clear p7 hlp v7;obtain⟨p7,hlp⟩:_/\_:=⟨PB.out.cell 7,PB.out.lt⟩
      have v7:=PB.out.frozen 7;simp at p7;refine aH hK (by exact⟨a0,a1,a2,b0,b1,b2⟩) (fun hH=>?_);cases fa
      case false=>
       refine aO [5,6,7,8,9,10,11,12,13,14,15] ?_;(iterate 2 refine aK ?_);(iterate 7 refine gU ?_);(iterate 2 refine aK ?_);refine aP ?_;have HLO:=aA (show n9 true a b from by
        have h1:=LO1.out _ HFB.out;have h2:=LO2.out _ HFA.out;exact⟨fun _=>⟨h1.1 rfl,.inl (fun h=>by have:=h2.2 h;cases this)⟩,fun _=>rfl⟩)
       refine bD 16 ?_;refine aJ 17 (fun K hK=>?_);go_simp
       refine aH hK (by exact⟨(fD (by omega)).trans a0,(fD (by omega)).trans a1,(fD (by omega)).trans a2,(fD (by omega)).trans b0,(fD (by omega)).trans b1,(fD (by omega)).trans b2⟩) (fun hH=>?_);refine aT ?_;have PB:=aA (PB.out.set_ 7 (.bool true));have FA:=aA (FA.out.set1 (g:=P) (.inl (by omega)) 7 (.bool true));have FB:=aA (FB.out.set1 (g:=P) (.inl (by omega)) 7 (.bool true));have RB:=aA (RB.out.far (p:=⟨P,7,none⟩) (by simp;omega) (.bool true));have BW:=aA (BW.out.setCell (p:=⟨P,7,none⟩) (by simp;omega) (.bool true));clear a0 a1 a2 hla b0 b1 b2 hlb;clear p7 hlp v7
       try clear hH
       generalize hwe:wg.setCell ⟨P,7,none⟩ (.bool true)=we at *;clear hwe;simp only [List.setIfInBounds_toArray,List.set_cons_succ,List.set_cons_zero] at PB;go_upto_region 12 with fail
       refine wp_region_lit ?_;refine wpList_load_row rfl 102 _ rfl P rfl 102 #[.slice A1 n1 c1,.int .i64 a.per,.int .i64 a.inc,.slice A2 n2 c2,.int .i64 b.per,.int .i64 b.inc,.int .i64 ((S:Int)+(C:Int)),.bool true] (0,0) _ PB.out Tryz.underlying102 rfl (by kernel_rfl) ?_;refine iK rfl 102 _ _ rfl rfl RB.out rfl rfl (by kernel_rfl) (by simp [Value.oneCell']) ?_;intro wz hsto rz;have FA:=aA (FA.out.sto hsto (.inr (by omega)));have FB:=aA (FB.out.sto hsto (.inr (by omega)));have bw:=cE BW.out hsto (by omega)
       (try simp only [Act.put]);try simp only [dC,dD,dE]
       go_wp2_with fail
       exact bodyPost_ret (v:=.tuple #[.agg (lJ A1 n1 c1 a A2 n2 c2 b ((S:Int)+(C:Int)) true),.int .i64 0]) (by simp [results,Tryz.results48,go_sem,rz.cell,lJ]) rfl
        (.inr ⟨HFO.out,HGO.out,a,b,A1,n1,c1,A2,n2,c2,true,HNF.out,HNG.out,HAO.out,HBO.out,by rw [<- HC.out];omega,HLO.out,by rw [show((aL a b+aI a b:Nat):Int)=(S:Int)+(C:Int) from by rw [HS.out,HC.out];exact Int.natCast_add _ _],FA.out.ints,FB.out.ints,fun b' off s e=>by have:=(FA.out.ap b' off s e).1;omega,fun b' off s e=>by have:=(FB.out.ap b' off s e).1;omega,bw⟩)
      case true=>
       refine aO [5,6,7,8,10,11] ?_;(iterate 6 refine aK ?_);refine aP ?_;refine aJ 9 (fun K hK=>?_);go_simp
       refine(fI A1 n1 c1 a.per a.inc C _ (by omega) (by omega) (by omega) (by omega) (by omega)).mono ?_;rw [Int.toNat_natCast,<- HX.out];rintro e wh ⟨rfl,hbq⟩;have PB:=aA (PB.out.below hbq PB.out.lt);have FA:=aA (FA.out.below hbq);have FB:=aA (FB.out.below hbq);have RB:=aA (RB.out.below hbq RB.out.lt);have BW:=aA (aD BW.out hbq);clear hbq hH;clear a0 a1 a2 hla b0 b1 b2 hlb;obtain⟨a0,a1,a2,hla⟩:=FA.out.cells;obtain⟨b0,b1,b2,hlb⟩:=FB.out.cells;clear p7 hlp v7;obtain⟨p7,hlp⟩:_/\_:=⟨PB.out.cell 7,PB.out.lt⟩
       have v7:=PB.out.frozen 7;simp at p7;refine aH hK (by exact⟨a0,a1,a2,b0,b1,b2⟩) (fun hH=>?_);refine aJ 12 (fun K hK=>?_);go_simp
       refine(fI A2 n2 c2 b.per b.inc C _ (by omega) (by omega) (by omega) (by omega) (by omega)).mono ?_;rw [Int.toNat_natCast,<- HY.out];rintro e wi ⟨rfl,hbq⟩;have PB:=aA (PB.out.below hbq PB.out.lt);have FA:=aA (FA.out.below hbq);have FB:=aA (FB.out.below hbq);have RB:=aA (RB.out.below hbq RB.out.lt);have BW:=aA (aD BW.out hbq);clear hbq hH;clear a0 a1 a2 hla b0 b1 b2 hlb;obtain⟨a0,a1,a2,hla⟩:=FA.out.cells;obtain⟨b0,b1,b2,hlb⟩:=FB.out.cells;clear p7 hlp v7;obtain⟨p7,hlp⟩:_/\_:=⟨PB.out.cell 7,PB.out.lt⟩
       have v7:=PB.out.frozen 7;simp at p7;refine aH hK (by exact⟨a0,a1,a2,b0,b1,b2⟩) (fun hH=>?_);refine aO [13,14,15] ?_;(iterate 3 refine aK ?_);refine aP ?_;have HLO:=aA (show n9 (decide (y<x)) a b from by
        have h1:=LO1.out _ HFB.out;have h2:=LO2.out _ HFA.out;unfold n9;rw [decide_eq_true_iff];unfold l3;rw [LO3.out];exact⟨fun h=>⟨h1.1 rfl,.inr (by omega)⟩,fun h=>by
         rcases h.2 with h3|h3
         ·exact absurd (h2.1 rfl) h3
         ·omega⟩)
       refine bD 16 ?_;refine aJ 17 (fun K hK=>?_);go_simp
       refine aH hK (by exact⟨(fD (by omega)).trans a0,(fD (by omega)).trans a1,(fD (by omega)).trans a2,(fD (by omega)).trans b0,(fD (by omega)).trans b1,(fD (by omega)).trans b2⟩) (fun hH=>?_);refine aT ?_;have PB:=aA (PB.out.set_ 7 (.bool (decide (y<x))));have FA:=aA (FA.out.set1 (g:=P) (.inl (by omega)) 7 (.bool (decide (y<x))));have FB:=aA (FB.out.set1 (g:=P) (.inl (by omega)) 7 (.bool (decide (y<x))));have RB:=aA (RB.out.far (p:=⟨P,7,none⟩) (by simp;omega) (.bool (decide (y<x))));have BW:=aA (BW.out.setCell (p:=⟨P,7,none⟩) (by simp;omega) (.bool (decide (y<x))));clear a0 a1 a2 hla b0 b1 b2 hlb;clear p7 hlp v7
       try clear hH
       generalize hwe:wi.setCell ⟨P,7,none⟩ (.bool (decide (y<x)))=we at *;clear hwe;simp only [List.setIfInBounds_toArray,List.set_cons_succ,List.set_cons_zero] at PB;go_upto_region 12 with fail
       refine wp_region_lit ?_;refine wpList_load_row rfl 102 _ rfl P rfl 102 #[.slice A1 n1 c1,.int .i64 a.per,.int .i64 a.inc,.slice A2 n2 c2,.int .i64 b.per,.int .i64 b.inc,.int .i64 ((S:Int)+(C:Int)),.bool (decide (y<x))] (0,0) _ PB.out Tryz.underlying102 rfl (by kernel_rfl) ?_;refine iK rfl 102 _ _ rfl rfl RB.out rfl rfl (by kernel_rfl) (by simp [Value.oneCell']) ?_;intro wz hsto rz;have FA:=aA (FA.out.sto hsto (.inr (by omega)));have FB:=aA (FB.out.sto hsto (.inr (by omega)));have bw:=cE BW.out hsto (by omega)
       (try simp only [Act.put]);try simp only [dC,dD,dE]
       go_wp2_with fail
       exact bodyPost_ret (v:=.tuple #[.agg (lJ A1 n1 c1 a A2 n2 c2 b ((S:Int)+(C:Int)) (decide (y<x))),.int .i64 0]) (by simp [results,Tryz.results48,go_sem,rz.cell,lJ]) rfl
        (.inr ⟨HFO.out,HGO.out,a,b,A1,n1,c1,A2,n2,c2,(decide (y<x)),HNF.out,HNG.out,HAO.out,HBO.out,by rw [<- HC.out];omega,HLO.out,by rw [show((aL a b+aI a b:Nat):Int)=(S:Int)+(C:Int) from by rw [HS.out,HC.out];exact Int.natCast_add _ _],FA.out.ints,FB.out.ints,fun b' off s e=>by have:=(FA.out.ap b' off s e).1;omega,fun b' off s e=>by have:=(FB.out.ap b' off s e).1;omega,bw⟩)
  ·have F:=aA (show lX ⟨xs,p,i⟩ ⟨ys,q,j⟩ 1 from .inl ⟨fun h=>hno h.2,rfl⟩);have RB:=aA (RB.out.alloc (.cells #[.slice A2 n2 c2,.int .i64 Cv.none.per,.int .i64 Cv.none.inc] 26));have BW:=aA (aD BW.out (aF _ (.cells #[.slice A2 n2 c2,.int .i64 Cv.none.per,.int .i64 Cv.none.inc] 26)));clear hno HN;go_wp2_with (refine iK rfl 102 _ _ rfl rfl RB.out rfl rfl (by kernel_rfl) (by simp [Value.oneCell']) ?_;intro wz hsto rz)
   exact bodyPost_ret (v:=.tuple #[.agg jU,.int .i64 1]) (by simp [results,Tryz.results48,go_sem,rz.cell,jU]) rfl (.inl ⟨_,F.out,rfl,cE BW.out hsto (by omega)⟩)
 ·have F:=aA (show lX ⟨xs,p,i⟩ ⟨ys,q,j⟩ 1 from .inl ⟨fun h=>hno h.1,rfl⟩);have RB:=aA (RB.out.alloc (.cells #[.slice A1 n1 c1,.int .i64 Cv.none.per,.int .i64 Cv.none.inc] 26));have BW:=aA (aD P.out.bw (aF _ (.cells #[.slice A1 n1 c1,.int .i64 Cv.none.per,.int .i64 Cv.none.inc] 26)));clear hno HN;go_wp2_with (refine iK rfl 102 _ _ rfl rfl RB.out rfl rfl (by kernel_rfl) (by simp [Value.oneCell']) ?_;intro wz hsto rz)
  exact bodyPost_ret (v:=.tuple #[.agg jU,.int .i64 1]) (by simp [results,Tryz.results48,go_sem,rz.cell,jU]) rfl (.inl ⟨_,F.out,rfl,cE BW.out hsto (by omega)⟩)
theorem aE.stoB{w w':World}{g B n:Nat}{A:Option Addr}{zs:List Int}(H:aE w B A n zs)(s:aR g w w')(hg:B<=g):aE w' B A n zs:=
 H.keep fun p hp=>World.cell?_of_block (s.block p.block (by omega))
structure PT(w wx:World)(A:Option Addr)(n c:Nat)(p i:Int)(xs:List Int)(B:Option Addr)(m d:Nat)(q j:Int)(ys:List Int):Prop where
 fb:aC wx w.heap.size 26 #[.slice A n c,.int .i64 p,.int .i64 i]
 gb:aC wx (w.heap.size+1) 26 #[.slice B m d,.int .i64 q,.int .i64 j]
 ja:aE wx w.heap.size A n xs
 jb:aE wx w.heap.size B m ys
 bw:Below w.heap.size w wx
section
variable{w wx wy:World}{A B:Option Addr}{n c m d g:Nat}{p i q j:Int}{xs ys:List Int}
theorem PT.new(hA:aE w w.heap.size A n xs)(hB:aE w w.heap.size B m ys):PT w ((w.alloc (.cells #[.slice A n c,.int .i64 p,.int .i64 i] 26)).alloc (.cells #[.slice B m d,.int .i64 q,.int .i64 j] 26)) A n c p i xs B m d q j ys:=
 have h:=PS.new (c:=c) (p:=p) (i:=i) (d:=d) (q:=q) (j:=j) hA hB
 ⟨h.fb,h.gb,(hA.alloc (Nat.le_refl _) _).alloc (by simp) _,(hB.alloc (Nat.le_refl _) _).alloc (by simp) _,h.bw⟩
theorem PT.ia(h:PT w wx A n c p i xs B m d q j ys):aE wx wx.heap.size A n xs:=h.ja.more h.bw.size
theorem PT.ib(h:PT w wx A n c p i xs B m d q j ys):aE wx wx.heap.size B m ys:=h.jb.more h.bw.size
theorem PT.below(h:PT w wx A n c p i xs B m d q j ys)(hb:Below wx.heap.size wx wy):PT w wy A n c p i xs B m d q j ys:=
 ⟨h.fb.below hb h.fb.lt,h.gb.below hb h.gb.lt,h.ja.below (hb.mono h.bw.size),h.jb.below (hb.mono h.bw.size),aD h.bw hb⟩
theorem PT.alloc(h:PT w wx A n c p i xs B m d q j ys)(o:Obj):PT w (wx.alloc o) A n c p i xs B m d q j ys:=h.below (aF wx o)
theorem PT.sto(h:PT w wx A n c p i xs B m d q j ys)(s:aR g wx wy)(hg:w.heap.size+1<g):PT w wy A n c p i xs B m d q j ys:=
 ⟨h.fb.sto s (by omega),h.gb.sto s (by omega),h.ja.stoB s (by omega),h.jb.stoB s (by omega),cE h.bw s (by omega)⟩
theorem PT.cells(h:PT w wx A n c p i xs B m d q j ys):wx.cell? ⟨w.heap.size,0,none⟩=some (.slice A n c)/\wx.cell? ⟨w.heap.size,1,none⟩=some (.int .i64 p)/\wx.cell? ⟨w.heap.size,2,none⟩=some (.int .i64 i)/\
 wx.cell? ⟨w.heap.size+1,0,none⟩=some (.slice B m d)/\wx.cell? ⟨w.heap.size+1,1,none⟩=some (.int .i64 q)/\wx.cell? ⟨w.heap.size+1,2,none⟩=some (.int .i64 j)/\w.heap.size<wx.heap.size/\w.heap.size+1<wx.heap.size:=by
 have f0:=h.fb.cell 0;have f1:=h.fb.cell 1;have f2:=h.fb.cell 2;have g0:=h.gb.cell 0;have g1:=h.gb.cell 1;have g2:=h.gb.cell 2;simp at f0 f1 f2 g0 g1 g2;exact⟨f0,f1,f2,g0,g1,g2,h.fb.lt,h.gb.lt⟩
end
structure Bz(L:Nat)(w:World)(F:Nat)(A:Option Addr)(n c:Nat)(f:Cv):Prop where
 blk:aC w F 26 #[.slice A n c,.int .i64 f.per,.int .i64 f.inc]
 ints:aE w w.heap.size A n f.vals
 lo:∀b off s,A=some ⟨b,off,s⟩->L<=b
section
variable{L F n c g:Nat}{w w':World}{A:Option Addr}{f:Cv}
theorem Bz.lt(h:Bz L w F A n c f):F<w.heap.size:=h.blk.lt
theorem Bz.below(h:Bz L w F A n c f)(hb:Below w.heap.size w w'):Bz L w' F A n c f:=⟨h.blk.below hb h.lt,h.ints.ext hb,h.lo⟩
theorem Bz.alloc(h:Bz L w F A n c f)(o:Obj):Bz L (w.alloc o) F A n c f:=h.below (aF w o)
theorem Bz.drew(h:Bz L w F A n c f):Bz L w.drew F A n c f:=⟨h.blk,h.ints,h.lo⟩
theorem Bz.sto(h:Bz L w F A n c f)(s:aR g w w')(hg:F≠g)(hL:g<L):Bz L w' F A n c f:=⟨h.blk.sto s hg,h.ints.sto s (fun b off o e=>by have:=h.lo b off o e;omega),h.lo⟩
theorem Bz.own(h:Bz L w F A n c f)(hL:F<L):Bz L (((w.setCell ⟨F,0,none⟩ (.slice A n c)).setCell ⟨F,1,none⟩ (.int .i64 f.per)).setCell ⟨F,2,none⟩ (.int .i64 f.inc)) F A n c f:=
 ⟨h.blk.store3 _ _ _,h.ints.sto (aR.three F w _ _ _) (fun b off o e=>by have:=h.lo b off o e;omega),h.lo⟩
theorem Bz.put{x y z:Value}(hB:aC w F 26 #[x,y,z])(hI:aE w w.heap.size A n f.vals)(hA:∀b off s,A=some ⟨b,off,s⟩->L<=b)(hL:F<L) :
 Bz L (((w.setCell ⟨F,0,none⟩ (.slice A n c)).setCell ⟨F,1,none⟩ (.int .i64 f.per)).setCell ⟨F,2,none⟩ (.int .i64 f.inc)) F A n c f:=
 ⟨hB.store3 _ _ _,hI.sto (aR.three F w _ _ _) (fun b off o e=>by have:=hA b off o e;omega),hA⟩
theorem Bz.cells(h:Bz L w F A n c f):w.cell? ⟨F,0,none⟩=some (.slice A n c)/\w.cell? ⟨F,1,none⟩=some (.int .i64 f.per)/\w.cell? ⟨F,2,none⟩=some (.int .i64 f.inc)/\F<w.heap.size:=by
 have q:=h.blk.c3;exact⟨q.1.1,q.1.2.1,q.1.2.2,q.2.2⟩
end
theorem j4{a:Cv}(ha:a.Ok){t:Nat}(ht:t<=1000000000):0<=a.at t/\(a.at t=aG\/a.at t<=1152921504606846976):=by
 refine⟨ha.up0.nn t,?_⟩
 rcases ha.fin_or with h|h
 ·right
  have h1:=h.at_bd t;have h2:(t:Int)*1073741824<=1000000000*1073741824:=Int.mul_le_mul_of_nonneg_right (by omega) (by omega);omega
 ·by_cases hi:a.at t=aG
  ·exact .inl hi
  ·right
   have hlt:t<a.vals.length:=by
    rcases Nat.lt_or_ge t a.vals.length with h'|h'
    ·exact h'
    ·exact absurd (ha.at_inf h (by omega)) hi
   rw [Cv.at_lt hlt] at hi ⊢;have:=((iU _).1 (ha.v t hlt)).resolve_left hi
   omega
def zc:Value:=.agg #[.slice none 0 0,.int .i64 0,.int .i64 0]
def k9(f g:Cv)(er:Int):Prop:=(¬(f.Ok/\g.Ok)/\er=1)\/(f.Ok/\g.Ok/\er=3/\∃a b,NF f.at a/\NF g.at b/\120<a9 a.per.toNat b.per.toNat)
theorem k9.ne{f g:Cv}{er:Int}(h:k9 f g er):(er != 0)=true:=by rcases h with ⟨_,rfl⟩|⟨_,_,rfl,_⟩ <;> rfl
theorem k9.to{S:Cv->Cv->Cv->Int->Prop}{f g:Cv}{er:Int}(h:k9 f g er):lA S f g Cv.none er:=by
 rcases h with ⟨h,rfl⟩|⟨hf,hg,rfl,a,b,ha,hb,hc⟩
 ·exact .inl ⟨h,rfl,rfl⟩
 ·exact .inr ⟨hf,hg,a,b,ha,hb,.inl ⟨hc,rfl,rfl⟩⟩
theorem kB{S:Cv->Int->Prop}{w w1:World}{er:Int}(hS:S Cv.none er)(bw:Below w.heap.size w w1):dI S w (.returned (.tuple #[zc,.int .i64 er])) w1:=
 ⟨Cv.none,er,hS,none,0,0,rfl,aE.none_,(fun b off s h=>by cases h),bw⟩
theorem fX{S:Cv->Int->Prop}{f:Cv}{er:Int}{w w1:World}{B g0:Nat}{A:Option Addr}{n c:Nat}{x y z:Value}(hS:S f er)(hf:∀b off s,A=some ⟨b,off,s⟩->B<=b)(h0:w.heap.size<=g0)(hB:g0<B)(hI:aE w1 w1.heap.size A n f.vals)(bw:Below w.heap.size w w1) :
 dI S w (.returned (.tuple #[.agg #[.slice A n c,.int .i64 f.per,.int .i64 f.inc],.int .i64 er])) (((w1.setCell ⟨g0,0,none⟩ x).setCell ⟨g0,1,none⟩ y).setCell ⟨g0,2,none⟩ z):=
 ⟨f,er,hS,tK hf h0 hB hI bw⟩
def dO:Cv:=⟨[0],1,0⟩
theorem v5:jK dO:=by
 refine⟨by decide,fun k hk=>?_,by decide,by decide⟩
 have hk':k<1:=hk;rw [show k=0 by omega];decide
theorem U2(D:Nat)(t:Nat)(w:World)(hD:aC w D 3 #[.int .i64 0])(ht:t<=1000) :
 Calls Tryz.prog 139 (#[.int .i64 t] ++ #[.pointer (some ⟨D,0,none⟩)]) w fun e w'=>e = .returned (.int .i64 0)/\Below w.heap.size w w':=by
 have q0:=hD.cell 0;simp at q0;show Calls _ _ #[.int .i64 t,.pointer (some ⟨D,0,none⟩)] _ _
 go_enter Tryz.func139,Tryz.ntmps139
 go_wp2_with fail
 all_goals
  go_ret
  first
   | exact⟨rfl,Below.refl _ _⟩
   | exact⟨iV (by simp [IntKind.wrap]),Below.refl _ _⟩
theorem U0(w:World):Calls Tryz.prog 128 #[.int .i64 0] w (lD dO 0 w):=by
 have DB:=aA ((aC.new w 3 #[.int .i64 0]).alloc (.cells #[.slice none 0 0,.int .i64 0,.int .i64 0] 26));have rb:=aC.new (w.alloc (.cells #[.int .i64 0] 3)) 26 #[.slice none 0 0,.int .i64 0,.int .i64 0];rw [World.size_alloc] at rb;have RB:=aA rb;have BW:=aA (aD (aF w (.cells #[.int .i64 0] 3)) (aF _ (.cells #[.slice none 0 0,.int .i64 0,.int .i64 0] 26)));clear rb;go_enter Tryz.func128,Tryz.ntmps128
 go_wp2_with fail
 refine(p9 139 #[.pointer (some ⟨w.heap.size,0,none⟩)] 1 1 0 (fun _=>0) _ (by omega) (by omega) (by omega) (by omega) (by omega) (by omega) (fun k hk=>by omega) (by exact fun t w1 ht hb=>U2 w.heap.size t w1 (DB.out.below hb DB.out.lt) (by omega)) (fun x w=>by kernel_rfl)).mono ?_;rintro e w5 ⟨r,er,hS,A5,n5,c5,hc5,rfl,hI5,hA5,hbq⟩;have hm:=(i9 (h:=fun _=>0) (s:=1) (p:=1) (i:=0) (by omega) (fun t u _ _ h=>h) (fun _ t ht=>by show(0:Int)=0+0;omega) hS)
 obtain⟨rfl,rfl⟩:=eK.unique hm ⟨_,pH,.inl ⟨v5,rfl,rfl⟩⟩;have hs0:=RB.out.lt;replace RB:=aA (RB.out.below hbq RB.out.lt);replace BW:=aA (aD BW.out hbq);have HI5:=aA hI5;have HA5:=aA hA5;clear hS hI5 hA5 hbq hm;obtain⟨⟨r0,r1,r2⟩,⟨y0,y1,y2⟩,hlr⟩:=RB.out.c3;go_wp2_with fail
 have rb:=RB.out.store3 (.slice A5 n5 c5) (.int .i64 1) (.int .i64 0);refine bodyPost_ret (v:=.tuple #[.agg #[.slice A5 n5 c5,.int .i64 1,.int .i64 0],.int .i64 0]) (by simp [results,Tryz.results128,go_sem,rb.cell]) rfl ?_;exact tL (f:=dO) hc5 HA5.out (by omega) hs0 HI5.out BW.out
theorem U1(w:World):Calls Tryz.prog 128 #[.int .i64 0] w (lC dO 0 w):=(U0 w).mono fun _ _ h=>h.to
structure SZ where
 lo:Int
 hi:Int
def SZ.cells(x:SZ):List Value:=[.int .i64 x.lo,.int .i64 x.hi]
def SZ.Good(x:SZ):Prop:=0<=x.lo/\x.lo<=x.hi/\x.hi<=1500
structure eM(w:World)(b o:Nat)(zs:List SZ):Prop where
 lt:b<w.heap.size
 cell:∀(k j:Nat) (x:SZ),zs[k]?=some x->j<2->w.cell? ⟨b,o+k*2+j,none⟩=x.cells[j]?
section
variable{b o:Nat}{w w':World}{zs:List SZ}
theorem eM.below(h:eM w b o zs)(hb:Below w.heap.size w w'):eM w' b o zs:=
 ⟨Nat.lt_of_lt_of_le h.lt hb.size,fun k j x hx hj=>((l6 hb).1 b _ h.lt).trans (h.cell k j x hx hj)⟩
theorem eM.get(h:eM w b o zs){k:Nat}(hk:k<zs.length):∃x,zs[k]?=some x/\w.cell? ⟨b,o+k*2,none⟩=some (.int .i64 x.lo)/\w.cell? ⟨b,o+k*2+1,none⟩=some (.int .i64 x.hi):=by
 have hx:zs[k]?=some zs[k]:=List.getElem?_eq_getElem hk;exact⟨zs[k],hx,h.cell k 0 _ hx (by omega),h.cell k 1 _ hx (by omega)⟩
theorem eM.drop(h:eM w b o zs)(m:Nat):eM w b (o+m*2) (zs.drop m):=
 ⟨h.lt,fun k j x hx hj=>by
  rw [List.getElem?_drop] at hx;have:=h.cell (m+k) j x hx hj
  rwa [show o+(m+k)*2+j=o+m*2+k*2+j by omega] at this⟩
end
def jY(w:World)(A:Option Addr)(n c:Nat)(zs:List SZ):Prop:=zs.length=n/\n<=c/\n<=100/\(0<n->∃g o,A=some ⟨g,o,none⟩/\eM w g o zs)
theorem jY.below{w w':World}{A:Option Addr}{n c:Nat}{zs:List SZ}(h:jY w A n c zs)(hb:Below w.heap.size w w'):jY w' A n c zs:=
 ⟨h.1,h.2.1,h.2.2.1,fun h0=>by
  obtain⟨g,o,e,hr⟩:=h.2.2.2 h0;exact⟨g,o,e,hr.below hb⟩⟩
theorem a4e(A:Option Addr)(n c:Nat)(zs:List SZ)(w:World)(h:jY w A n c zs)(hg:∀x∈zs,x.Good) :
 Calls Tryz.prog 127 #[.slice A n c] w fun e w'=>e = .returned (.bool true)/\Below w.heap.size w w':=by
 have HZ:=aA h;have HG:=aA hg;have hn:=h.2.2.1;clear h hg;go_enter Tryz.func127,Tryz.ntmps127
 go_wp2_with fail
 go_loopg [7] n (fun gg s7 wx=>∃k:Nat,k+gg=n/\s7 = .int .i64 k/\Below w.heap.size w wx)
 case atStart=>exact⟨0,by omega,rfl,Below.refl _ _⟩
 case round=>
  obtain⟨k,hkg,rfl,hB⟩:=hrel;have BW:=aA hB;clear hB;by_cases hk:k<n
  case pos=>
   have hki:(k:Int)<n:=by omega
   obtain⟨g,o,hA,hr⟩:=HZ.out.2.2.2 (by omega);subst hA;have HR:=hr.below BW.out;obtain⟨x,hx,x0,x1⟩:=HR.get (k:=k) (by rw [HZ.out.1];exact hk);have hgl:=HR.lt;obtain⟨g1,g2,g3⟩:=HG.out x (List.mem_of_getElem? hx);have d1:decide (x.lo<0)=false:=by simp;omega
   have d2:decide (x.hi<x.lo)=false:=by simp;omega
   have d3:decide ((1500:Int)<x.hi)=false:=by simp;omega
   clear HR hr hx;have BW2:=aA (aD BW.out (aF wr (.cells #[.int .i64 x.lo,.int .i64 x.hi] 67)));go_upto_region 4 with fail
   generalize hwe:wr.alloc (.cells #[.int .i64 x.lo,.int .i64 x.hi] 67)=we at *;have q:=(aC.new wr 67 #[.int .i64 x.lo,.int .i64 x.hi])
   rw [hwe] at q;have q0:=q.cell 0;have q1:=q.cell 1;simp at q0 q1;have hl:=q.lt;clear hwe q x0 x1 hgl;go_wp2_with fail
   go_roundg (gk-1)
   case measure=>omega
   case rel=>exact⟨k+1,by omega,by go_num,BW2.out⟩
  case neg=>
   have hki:¬(k:Int)<n:=by omega
   go_wp2_with fail
   go_ret
   exact⟨rfl,BW.out⟩
theorem pA(cap cl:Int)(A:Option Addr)(n c:Nat)(zs:List SZ)(w:World)(h:jY w A n c zs)(hg:∀x∈zs,x.Good)(h1:1<=cap)(h2:cap<=4000)(h3:1<=n)(h4:n<=6)(h5:0<=cl)(h6:cl<n) :
 Calls Tryz.prog 108 #[.int .i64 cap,.int .i64 cl,.slice A n c] w fun e w'=>e = .returned (.int .i64 0)/\Below w.heap.size w w':=by
 have HZ:=aA h;have HG:=aA hg;clear h hg;go_enter Tryz.func108,Tryz.ntmps108
 have d1:decide (cap<1)=false:=by simp;omega
 have d2:decide ((4000:Int)<cap)=false:=by simp;omega
 have d3:decide ((n:Int)<1)=false:=by simp;omega
 have d4:decide ((6:Int)<n)=false:=by simp;omega
 have d5:decide (cl<0)=false:=by simp;omega
 have d6:decide ((n:Int)<=cl)=false:=by simp;omega
 have d7:decide (6<n)=false:=by simp;omega
 have d8:decide (n<1)=false:=by simp;omega
 have d9:¬n=0:=by omega
 go_wp2_with fail
 refine(a4e A n c zs _ HZ.out HG.out).mono ?_;rintro e w1 ⟨rfl,hb⟩;go_wp2_with fail
 go_ret
 exact⟨rfl,hb⟩
end Go.Proofs.YtaejfleahamapaaGreat
