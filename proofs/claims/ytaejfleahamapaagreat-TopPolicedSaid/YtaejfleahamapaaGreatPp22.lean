/- Lists of curves that grow by append. -/
import Derived.Deep.RegionHeld3
import Derived.Deep.DeepCutAuto
import Derived.Deep.CutBlock
import Derived.BigRegion
import Derived.Deep.LoopGhost
import Derived.Maps.AppendAt
import Derived.Test.YtaejfleahamapaaGreatPp1
import Derived.Test.YtaejfleahamapaaGreatPp8
import Derived.Test.YtaejfleahamapaaGreatPp2
import Derived.Test.YtaejfleahamapaaGreatPp21
import Derived.Test.YtaejfleahamapaaGreatPp16
namespace Go.Proofs.YtaejfleahamapaaGreat
set_option linter.unusedVariables false
set_option linter.unusedSimpArgs false
section
open Go.RowKit
section
variable{p F n c:Nat}{w w':World}{A:Option Addr}{f:Cv}
end
end
section
open Go.RowKit
structure CR where
 A:Option Addr
 n:Nat
 c:Nat
 f:Cv
def CR.cells(x:CR):List Value:=[.slice x.A x.n x.c,.int .i64 x.f.per,.int .i64 x.f.inc]
structure CR.In(x:CR)(p:Nat)(w:World):Prop where
 ints:Ints w w.heap.size x.A x.n x.f.vals
 ap:0<x.n→∀b off s,x.A=some ⟨b,off,s⟩→b≠p
theorem Ints.kept0{w w':World}{p n:Nat}{A:Option Addr}{zs:List Int}(h:Ints w w.heap.size A n zs)(ha:0<n→∀b off s,A=some ⟨b,off,s⟩→b≠p)(k:Kept w.heap.size p w w'):Ints w' w'.heap.size A n zs:=
 ⟨h.1,fun hn=>by
  obtain⟨b,off,e,hb,hc⟩:=h.2 hn;exact⟨b,off,e,Nat.lt_of_lt_of_le hb k.size,fun j hj=>(World.cell?_of_block (a:=⟨b,off+j,none⟩) (k.block b hb (ha hn _ _ _ e))).trans (hc j hj)⟩⟩
section
variable{p:Nat}{w w':World}{x:CR}
theorem CR.In.kept(h:x.In p w)(hk:Kept w.heap.size p w w'):x.In p w':=⟨h.ints.kept0 h.ap hk,h.ap⟩
variable{F:Nat}
variable{b:Nat}{xs:List CR}
theorem flat_get(xs:List CR)(k j:Nat)(x:CR)(hx:xs[k]?=some x)(hj:j<3):(xs.flatMap CR.cells)[k*3+j]?=x.cells[j]?:=by
 induction xs generalizing k with
 | nil=>simp at hx
 | cons y ys ih=>
   rw [List.flatMap_cons];have hl:y.cells.length=3:=rfl;rcases k with _|k
   ·simp at hx;subst hx;rw [Nat.zero_mul,Nat.zero_add,List.getElem?_append_left (by omega)]
   ·rw [List.getElem?_append_right (by omega),hl,show(k+1)*3+j-3=k*3+j by omega];exact ih k (by simpa using hx)
end
end
section
open Go.RowKit
section
variable{p:Nat}{w0 w w':World}{vs:List (Nat × CR)}
end
end
section
open Go.RowKit
structure RowC(w:World)(b:Nat)(xs:List CR):Prop where
 lt:b<w.heap.size
 cell:∀(k j:Nat) (x:CR),xs[k]?=some x→j<3→w.cell? ⟨b,k*3+j,none⟩=x.cells[j]?
 inn:∀x∈xs,Ints w w.heap.size x.A x.n x.f.vals
section
variable{p b:Nat}{w w':World}{xs:List CR}
theorem RowC.get(h:RowC w b xs){k:Nat}(hk:k<xs.length):∃x,xs[k]?=some x∧Ints w w.heap.size x.A x.n x.f.vals∧w.cell? ⟨b,k*3,none⟩=some (.slice x.A x.n x.c)∧w.cell? ⟨b,k*3+1,none⟩=some (.int .i64 x.f.per)∧w.cell? ⟨b,k*3+2,none⟩=some (.int .i64 x.f.inc):=by
 have hx:xs[k]?=some xs[k]:=List.getElem?_eq_getElem hk;exact⟨xs[k],hx,h.inn _ (List.getElem_mem hk),h.cell k 0 _ hx (by omega),h.cell k 1 _ hx (by omega),h.cell k 2 _ hx (by omega)⟩
structure RowO(w:World)(b o:Nat)(xs:List CR):Prop where
 lt:b<w.heap.size
 cell:∀(k j:Nat) (x:CR),xs[k]?=some x→j<3→w.cell? ⟨b,o+k*3+j,none⟩=x.cells[j]?
 inn:∀x∈xs,Ints w w.heap.size x.A x.n x.f.vals
theorem RowC.toO(h:RowC w b xs):RowO w b 0 xs:=⟨h.lt,fun k j x hx hj=>by rw [Nat.zero_add];exact h.cell k j x hx hj,h.inn⟩
theorem RowO.below{o:Nat}(h:RowO w b o xs)(hb:Below w.heap.size w w'):RowO w' b o xs:=
 ⟨Nat.lt_of_lt_of_le h.lt hb.size,fun k j x hx hj=>((bcell hb).1 b _ h.lt).trans (h.cell k j x hx hj),fun x hx=>(h.inn x hx).ext hb⟩
theorem RowO.get{o:Nat}(h:RowO w b o xs){k:Nat}(hk:k<xs.length):∃x,xs[k]?=some x∧Ints w w.heap.size x.A x.n x.f.vals∧w.cell? ⟨b,o+k*3,none⟩=some (.slice x.A x.n x.c)∧w.cell? ⟨b,o+k*3+1,none⟩=some (.int .i64 x.f.per)∧w.cell? ⟨b,o+k*3+2,none⟩=some (.int .i64 x.f.inc):=by
 have hx:xs[k]?=some xs[k]:=List.getElem?_eq_getElem hk;exact⟨xs[k],hx,h.inn _ (List.getElem_mem hk),h.cell k 0 _ hx (by omega),h.cell k 1 _ hx (by omega),h.cell k 2 _ hx (by omega)⟩
end
def TotR:Cv→List Cv→Cv→Int→Prop
 | s,[],r,er=>r=s∧er=0
 | s,f :: fs,r,er=>∃t e,SumS s f t e∧((e=0∧TotR t fs r er)∨(e≠0∧r=Cv.none∧er=e))
set_option maxHeartbeats 4000000 in
set_option maxRecDepth 100000 in
theorem total_anyO(b:Option Addr)(n c:Nat)(xs:List CR)(w:World)(hl:xs.length=n)(hn:n≤1000)(hrow:0<n→∃g o,b=some ⟨g,o,none⟩∧RowO w g o xs)(hlen:∀x∈xs,x.n≤1000000) :
 Calls Tryz.prog 109 #[.slice b n c] w (RetS (TotR cvZ (xs.map CR.f)) w):=by
 have HROW:=hi_ hrow;have HLEN:=hi_ hlen;have HL:=hi_ hl;clear hrow hlen hl;have RB:=hi_ (Blk.new w 26 #[.slice none 0 0,.int .i64 0,.int .i64 0]);have BW:=hi_ (balloc w (.cells #[.slice none 0 0,.int .i64 0,.int .i64 0] 26));go_enter Tryz.func109,Tryz.ntmps109
 go_wp2_with fail
 refine(flat0_any _).mono ?_;rintro e w1 ⟨A,m,d,rfl,hI,hA,hb⟩;have hs0:=(RB.out.below hb RB.out.lt).lt;have ZB:=hi_ (Blk.new w1 26 #[.slice A m d,.int .i64 cvZ.per,.int .i64 cvZ.inc]);have IZ:=hi_ (hI.alloc' (.cells #[.slice A m d,.int .i64 cvZ.per,.int .i64 cvZ.inc] 26));have hm1:m≤1:=by have h2:cvZ.vals.length=m:=hI.1;rw [← h2];exact Nat.le_refl _
 have OZ:=hi_ (show 0<m→∀b off s,A=some ⟨b,off,s⟩→b≠w1.heap.size from fun hm b off s e=>by
  obtain⟨b',off',e',hb',_⟩:=hI.2 hm;rw [e] at e';cases e';omega)
 have LZ:=hi_ (show ∀b off s,A=some ⟨b,off,s⟩→w.heap.size+1≤b from fun b off s e=>by have:=hA b off s e;simp at this;omega);replace RB:=hi_ ((RB.out.below hb RB.out.lt).alloc (.cells #[.slice A m d,.int .i64 cvZ.per,.int .i64 cvZ.inc] 26));replace BW:=hi_ (bthen (bthen BW.out hb) (balloc _ (.cells #[.slice A m d,.int .i64 cvZ.per,.int .i64 cvZ.inc] 26)));clear hI hA hb;go_upto_region 2 with fail
 generalize hwe:w1.alloc (.cells #[.slice A m d,.int .i64 cvZ.per,.int .i64 cvZ.inc] 26)=we at *;clear hwe;generalize w1.heap.size=Z at *;go_wp2_with fail
 go_loopg [5,7,14] n (fun gg s5 s7 s14 wx=>∃(k:Nat) (s:Cv) (A:Option Addr) (m d:Nat),k+gg=n∧s14 = .int .i64 k∧s5 = .int .i64 0∧m≤1000∧Blk wx Z 26 #[.slice A m d,.int .i64 s.per,.int .i64 s.inc]∧Ints wx wx.heap.size A m s.vals∧
  (0<m→∀b off s,A=some ⟨b,off,s⟩→b≠Z)∧(∀b off s,A=some ⟨b,off,s⟩→w.heap.size+1≤b)∧(∀r er,TotR s ((xs.drop k).map CR.f) r er→TotR cvZ (xs.map CR.f) r er)∧Blk wx w.heap.size 26 #[.slice none 0 0,.int .i64 0,.int .i64 0]∧Below w.heap.size w wx)
 case atStart=>exact⟨0,cvZ,A,m,d,by omega,rfl,rfl,by omega,ZB.out,IZ.out,OZ.out,LZ.out,fun r er h=>by rw [List.drop_zero] at h;exact h,RB.out,BW.out⟩
 case round=>
  clear ZB IZ OZ LZ RB BW hm1;obtain⟨k,s,A,m,d,hkg,rfl,rfl,hm,hZB,hIZ,hOZ,hLZ,hT,hRB,hBW⟩:=hrel;have ZB:=hi_ hZB;have IZ:=hi_ hIZ;have OZ:=hi_ hOZ;have LZ:=hi_ hLZ;have HT:=hi_ hT;have RB:=hi_ hRB;have BW:=hi_ hBW;clear hZB hIZ hOZ hLZ hT hRB hBW;by_cases hk:k<n
  ·have hki:(k:Int)<n:=by omega
   obtain⟨g,o,hg,hrow⟩:=HROW.out (by omega);subst hg;obtain⟨x,hx,hix,x0,x1,x2⟩:=(hrow.below BW.out).get (k:=k) (by rw [HL.out];exact hk);have hxn:=HLEN.out x (List.mem_of_getElem? hx);have hgl:=(hrow.below BW.out).lt;have HX:=hi_ hx;have IX:=hi_ hix;clear hx hix hrow;obtain⟨⟨q0,q1,q2⟩,⟨k0,k1,k2⟩,hlq⟩:=ZB.out.c3;have XB:=hi_ (Blk.new wr 26 #[.slice x.A x.n x.c,.int .i64 x.f.per,.int .i64 x.f.inc]);go_upto_region 5 with fail
   clear q0 q1 q2 k0 k1 k2 hlq;clear x0 x1 x2 hgl;replace ZB:=hi_ (ZB.out.alloc (.cells #[.slice x.A x.n x.c,.int .i64 x.f.per,.int .i64 x.f.inc] 26));replace IZ:=hi_ (IZ.out.alloc' (.cells #[.slice x.A x.n x.c,.int .i64 x.f.per,.int .i64 x.f.inc] 26));replace IX:=hi_ (IX.out.alloc' (.cells #[.slice x.A x.n x.c,.int .i64 x.f.per,.int .i64 x.f.inc] 26));replace RB:=hi_ (RB.out.alloc (.cells #[.slice x.A x.n x.c,.int .i64 x.f.per,.int .i64 x.f.inc] 26));replace BW:=hi_ (bthen BW.out (balloc _ (.cells #[.slice x.A x.n x.c,.int .i64 x.f.per,.int .i64 x.f.inc] 26)));generalize hwe:wr.alloc (.cells #[.slice x.A x.n x.c,.int .i64 x.f.per,.int .i64 x.f.inc] 26)=wf at *;clear hwe;generalize wr.heap.size=X at *;obtain⟨⟨q0,q1,q2⟩,⟨k0,k1,k2⟩,hlq⟩:=ZB.out.c3;obtain⟨⟨x0,x1,x2⟩,_,hlx⟩:=XB.out.c3;go_wp2_with fail
   refine(psum_any A x.A m x.n d x.c s.per s.inc x.f.per x.f.inc s.vals x.f.vals _ (by exact IZ.out) (by exact IX.out) (by omega) (by omega)).mono ?_;rintro e w2 ⟨r,er,hS,A2,m2,d2,rfl,hI,hA,hb⟩;have hzl:=ZB.out.lt;have hm2:m2≤400:=by
    have h2:r.vals.length=m2:=hI.1;rcases hS with ⟨_,rfl,_⟩|⟨_,_,a',b',_,_,⟨_,rfl,_⟩|⟨_,g',hg',⟨hl',rfl,_⟩|⟨_,rfl,_⟩⟩⟩
    ·rw [← h2];decide
    ·rw [← h2];decide
    ·rw [← h2];exact hl'.1
    ·rw [← h2];decide
   have HS:=hi_ hS;have OZ2:=hi_ (show ∀b off s,A2=some ⟨b,off,s⟩→b≠Z from fun b off s e=>by have:=hA b off s e;omega);have LZ2:=hi_ (show ∀b off s,A2=some ⟨b,off,s⟩→w.heap.size+1≤b from fun b off s e=>by have:=hA b off s e;omega);replace ZB:=hi_ (ZB.out.below hb ZB.out.lt);replace RB:=hi_ (RB.out.below hb RB.out.lt);replace BW:=hi_ (bthen BW.out hb);have I2:=hi_ hI;have hxd:xs.drop k=x :: xs.drop (k+1):=by
    have h1:k<xs.length:=by rw [HL.out];exact hk
    rw [List.drop_eq_getElem_cons h1];have h2:=HX.out;rw [List.getElem?_eq_getElem h1] at h2
    injection h2 with h2
    rw [h2]
   have HT2:=hi_ (show ∀q eq,((er=0∧TotR r ((xs.drop (k+1)).map CR.f) q eq)∨(er≠0∧q=Cv.none∧eq=er))→TotR cvZ (xs.map CR.f) q eq from fun q eq h=>HT.out q eq (by
    rw [hxd,List.map_cons];exact⟨r,er,HS.out,h⟩))
   clear hS hI hA hb q0 q1 q2 k0 k1 k2 hlq x0 x1 x2 hlx XB IZ IX OZ LZ HT hxd;have hWZ:w.heap.size<Z:=by omega
   obtain⟨⟨q0,q1,q2⟩,⟨k0,k1,k2⟩,hlq⟩:=ZB.out.c3;go_upto_region 6 with fail
   clear q0 q1 q2 k0 k1 k2 hlq;have st:=Sto.three Z w2 (.slice A2 m2 d2) (.int .i64 r.per) (.int .i64 r.inc);replace I2:=hi_ (I2.out.sto st OZ2.out);replace ZB:=hi_ (ZB.out.store3 (.slice A2 m2 d2) (.int .i64 r.per) (.int .i64 r.inc));replace RB:=hi_ (RB.out.sto st (by omega));replace BW:=hi_ (bsto BW.out st (by omega));clear st;generalize hwe:((w2.setCell ⟨Z,0,none⟩ (.slice A2 m2 d2)).setCell ⟨Z,1,none⟩ (.int .i64 r.per)).setCell ⟨Z,2,none⟩ (.int .i64 r.inc)=w3 at *;clear hwe;by_cases he:er=0
   ·subst he;have HT3:=hi_ (fun q eq h=>HT2.out q eq (.inl ⟨rfl,h⟩));clear HT2;go_wp2_with fail
    go_roundg (gk-1)
    case measure=>omega
    case rel=>exact⟨k+1,r,A2,m2,d2,by omega,by go_num,rfl,by omega,ZB.out,I2.out,fun _=>OZ2.out,LZ2.out,HT3.out,RB.out,BW.out⟩
   ·have g1:(er != 0)=true:=by simpa using he
    have FN:=hi_ (HT2.out Cv.none er (.inr ⟨he,rfl,rfl⟩));clear he HT2;obtain⟨⟨r0,r1,r2⟩,⟨y0,y1,y2⟩,hlr⟩:=RB.out.c3;go_wp2_with fail
    have rb:=RB.out.store3 (.slice none 0 0) (.int .i64 0) (.int .i64 0);refine bodyPost_ret (v:=.tuple #[.agg #[(.slice none 0 0),.int .i64 0,.int .i64 0],.int .i64 er]) (by simp [results,Tryz.results109,go_sem,rb.cell]) rfl ?_;exact retS_none FN.out (bst3 BW.out (by omega) _ _ _)
  ·have hkn:k=n:=by omega
   subst hkn;have FN:=hi_ (HT.out s 0 (by rw [List.drop_eq_nil_of_le (by rw [HL.out];exact Nat.le_refl _)];exact⟨rfl,rfl⟩));clear hk hkg HT;obtain⟨⟨q0,q1,q2⟩,⟨k0,k1,k2⟩,hlq⟩:=ZB.out.c3;obtain⟨⟨r0,r1,r2⟩,⟨y0,y1,y2⟩,hlr⟩:=RB.out.c3;go_wp2_with fail
   have rb:=RB.out.store3 (.slice A m d) (.int .i64 s.per) (.int .i64 s.inc);refine bodyPost_ret (v:=.tuple #[.agg #[.slice A m d,.int .i64 s.per,.int .i64 s.inc],.int .i64 0]) (by simp [results,Tryz.results109,go_sem,rb.cell]) rfl ?_;exact retS_store FN.out LZ.out (Nat.le_refl _) (by omega) IZ.out BW.out
end
section
open Go.RowKit
theorem info_curve:(Tryz.prog.info? 26).map (fun i=>(i.zero,i.size,i.bytes))=some (some (.agg #[.slice none 0 0,.int .i64 0,.int .i64 0]),3,40):=by kernel_rfl
def COwn(w:World)(base:Nat)(v:Value)(n:Nat)(xs:List CR):Prop:=w.ownsRow base 26 3 v n (xs.flatMap CR.cells)
section
variable{w w':World}{base n:Nat}{v:Value}{xs:List CR}
theorem COwn.nil_(w:World)(base:Nat):COwn w base (.slice none 0 0) 0 []:=⟨by simp,.inl ⟨rfl,rfl⟩⟩
theorem COwn.alloc(h:COwn w base v n xs)(o:Obj):COwn (w.alloc o) base v n xs:=World.ownsRow.alloc h o
theorem flat_len(xs:List CR):(xs.flatMap CR.cells).length=xs.length*3:=by
 induction xs with
 | nil=>rfl
 | cons x xs ih=>
   rw [List.flatMap_cons,List.length_append,ih,List.length_cons];have:x.cells.length=3:=rfl
   omega
theorem COwn.len(h:COwn w base v n xs):xs.length=n:=by
 have h1:(xs.flatMap CR.cells).length=n*3:=h.1;rw [flat_len] at h1;omega
theorem COwn.row(h:COwn w base v n xs)(hn:0<n)(hx:∀x∈xs,Ints w w.heap.size x.A x.n x.f.vals):∃g c,v = .slice (some ⟨g,0,none⟩) n c∧base≤g∧RowC w g xs:=by
 have hl:=h.len;obtain⟨h1,h2⟩:=h;rcases h2 with ⟨_,h2⟩|⟨g,cap,cur,rfl,hb,hh,hnc,hcm,hcs,hcur⟩
 ·omega
 ·refine⟨g,cap,rfl,hb,⟨?_,fun k j x hk hj=>?_,hx⟩⟩
  ·rcases Nat.lt_or_ge g w.heap.size with hlt|hge
   ·exact hlt
   ·rw [Array.getElem?_eq_none hge] at hh;cases hh
  ·have hkn:k<n:=by
    rcases Nat.lt_or_ge k xs.length with h'|h'
    ·omega
    ·rw [List.getElem?_eq_none h'] at hk;cases hk
   have h3:=flat_get xs k j x hk hj;rw [← hcur,List.getElem?_take,if_pos (by omega)] at h3;simp only [World.cell?,hh,Option.isSome_none,Bool.false_eq_true,if_false];rw [← h3,Array.getElem?_toList]
theorem COwn.blk(h:COwn w base v n xs)(g:Nat)(hg:v.ownBlock=some g):base≤g∧g<w.heap.size:=by
 rcases h.2 with ⟨rfl,_⟩|⟨g',cap,cur,rfl,hb,hh,_⟩
 ·cases hg
 ·have:g'=g:=by simpa [Value.ownBlock] using hg
  subst this;refine⟨hb,?_⟩
  rcases Nat.lt_or_ge g' w.heap.size with hlt|hge
  ·exact hlt
  ·rw [Array.getElem?_eq_none hge] at hh;cases hh
def appSemC(args:Array Value):Sem Value:=Builtin.append_ #[48,48] 48 args
theorem app_foldC(args:Array Value):Builtin.append_ #[48,48] 48 args=appSemC args:=rfl
end
end
end Go.Proofs.YtaejfleahamapaaGreat
