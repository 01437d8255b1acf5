/- . -/
import Derived.Deep.CutBlock
import Derived.Test.YtaejfleahamapaaGreatTd23
namespace Go.Proofs.YtaejfleahamapaaGreat
set_option linter.unusedVariables false
set_option linter.unusedSimpArgs false
set_option maxHeartbeats 4000000
set_option maxRecDepth 100000
open Go.RowKit
section
variable{p F n c:Nat}{w w':World}{A:Option Addr}{f:Cv}
end
structure CR where
 A:Option Addr
 n:Nat
 c:Nat
 f:Cv
def CR.cells(x:CR):List Value:=[.slice x.A x.n x.c,.int .i64 x.f.per,.int .i64 x.f.inc]
section
variable{p:Nat}{w w':World}{x:CR}
variable{F:Nat}
variable{b:Nat}{xs:List CR}
end
section
variable{p:Nat}{w0 w w':World}{vs:List (Nat × CR)}
end
structure uV(w:World)(b:Nat)(xs:List CR):Prop where
 lt:b<w.heap.size
 cell:∀(k j:Nat) (x:CR),xs[k]?=some x->j<3->w.cell? ⟨b,k*3+j,none⟩=x.cells[j]?
 inn:∀x∈xs,aE w w.heap.size x.A x.n x.f.vals
section
variable{p b:Nat}{w w':World}{xs:List CR}
theorem uV.get(h:uV w b xs){k:Nat}(hk:k<xs.length):∃x,xs[k]?=some x/\aE w w.heap.size x.A x.n x.f.vals/\w.cell? ⟨b,k*3,none⟩=some (.slice x.A x.n x.c)/\w.cell? ⟨b,k*3+1,none⟩=some (.int .i64 x.f.per)/\w.cell? ⟨b,k*3+2,none⟩=some (.int .i64 x.f.inc):=by
 have hx:xs[k]?=some xs[k]:=List.getElem?_eq_getElem hk;exact⟨xs[k],hx,h.inn _ (List.getElem_mem hk),h.cell k 0 _ hx (by omega),h.cell k 1 _ hx (by omega),h.cell k 2 _ hx (by omega)⟩
structure cR(w:World)(b o:Nat)(xs:List CR):Prop where
 lt:b<w.heap.size
 cell:∀(k j:Nat) (x:CR),xs[k]?=some x->j<3->w.cell? ⟨b,o+k*3+j,none⟩=x.cells[j]?
 inn:∀x∈xs,aE w w.heap.size x.A x.n x.f.vals
theorem cR.below{o:Nat}(h:cR w b o xs)(hb:Below w.heap.size w w'):cR w' b o xs:=
 ⟨Nat.lt_of_lt_of_le h.lt hb.size,fun k j x hx hj=>((l6 hb).1 b _ h.lt).trans (h.cell k j x hx hj),fun x hx=>(h.inn x hx).ext hb⟩
theorem cR.get{o:Nat}(h:cR w b o xs){k:Nat}(hk:k<xs.length):∃x,xs[k]?=some x/\aE w w.heap.size x.A x.n x.f.vals/\w.cell? ⟨b,o+k*3,none⟩=some (.slice x.A x.n x.c)/\w.cell? ⟨b,o+k*3+1,none⟩=some (.int .i64 x.f.per)/\w.cell? ⟨b,o+k*3+2,none⟩=some (.int .i64 x.f.inc):=by
 have hx:xs[k]?=some xs[k]:=List.getElem?_eq_getElem hk;exact⟨xs[k],hx,h.inn _ (List.getElem_mem hk),h.cell k 0 _ hx (by omega),h.cell k 1 _ hx (by omega),h.cell k 2 _ hx (by omega)⟩
end
def j1:Cv->List Cv->Cv->Int->Prop
 | s,[],r,er=>r=s/\er=0
 | s,f :: fs,r,er=>∃t e,mU s f t e/\((e=0/\j1 t fs r er)\/(e≠0/\r=Cv.none/\er=e))
theorem zR(b:Option Addr)(n c:Nat)(xs:List CR)(w:World)(hl:xs.length=n)(hn:n<=1000)(hrow:0<n->∃g o,b=some ⟨g,o,none⟩/\cR w g o xs)(hlen:∀x∈xs,x.n<=1000000) :
 Calls Tryz.prog 109 #[.slice b n c] w (dI (j1 dO (xs.map CR.f)) w):=by
 have HROW:=aA hrow;have HLEN:=aA hlen;have HL:=aA hl;clear hrow hlen hl;have RB:=aA (aC.new w 26 #[.slice none 0 0,.int .i64 0,.int .i64 0]);have BW:=aA (aF w (.cells #[.slice none 0 0,.int .i64 0,.int .i64 0] 26));go_enter Tryz.func109,Tryz.ntmps109
 go_wp2_with fail
 refine(U1 _).mono ?_;rintro e w1 ⟨A,m,d,rfl,hI,hA,hb⟩;have hs0:=(RB.out.below hb RB.out.lt).lt;have ZB:=aA (aC.new w1 26 #[.slice A m d,.int .i64 dO.per,.int .i64 dO.inc]);have IZ:=aA (hI.alloc' (.cells #[.slice A m d,.int .i64 dO.per,.int .i64 dO.inc] 26));have hm1:m<=1:=by have h2:dO.vals.length=m:=hI.1;rw [<- h2];exact Nat.le_refl _
 have OZ:=aA (show 0<m->∀b off s,A=some ⟨b,off,s⟩->b≠w1.heap.size from fun hm b off s e=>by
  obtain⟨b',off',e',hb',_⟩:=hI.2 hm;rw [e] at e';cases e';omega)
 have LZ:=aA (show ∀b off s,A=some ⟨b,off,s⟩->w.heap.size+1<=b from fun b off s e=>by have:=hA b off s e;simp at this;omega);replace RB:=aA ((RB.out.below hb RB.out.lt).alloc (.cells #[.slice A m d,.int .i64 dO.per,.int .i64 dO.inc] 26));replace BW:=aA (aD (aD BW.out hb) (aF _ (.cells #[.slice A m d,.int .i64 dO.per,.int .i64 dO.inc] 26)));clear hI hA hb;go_upto_region 2 with fail
 generalize hwe:w1.alloc (.cells #[.slice A m d,.int .i64 dO.per,.int .i64 dO.inc] 26)=we at *;clear hwe;generalize w1.heap.size=Z at *;go_wp2_with fail
 go_loopg [5,7,14] n (fun gg s5 s7 s14 wx=>∃(k:Nat) (s:Cv) (A:Option Addr) (m d:Nat),k+gg=n/\s14 = .int .i64 k/\s5 = .int .i64 0/\m<=1000/\aC wx Z 26 #[.slice A m d,.int .i64 s.per,.int .i64 s.inc]/\aE wx wx.heap.size A m s.vals/\
  (0<m->∀b off s,A=some ⟨b,off,s⟩->b≠Z)/\(∀b off s,A=some ⟨b,off,s⟩->w.heap.size+1<=b)/\(∀r er,j1 s ((xs.drop k).map CR.f) r er->j1 dO (xs.map CR.f) r er)/\aC wx w.heap.size 26 #[.slice none 0 0,.int .i64 0,.int .i64 0]/\Below w.heap.size w wx)
 case atStart=>exact⟨0,dO,A,m,d,by omega,rfl,rfl,by omega,ZB.out,IZ.out,OZ.out,LZ.out,fun r er h=>by rw [List.drop_zero] at h;exact h,RB.out,BW.out⟩
 case round=>
  clear ZB IZ OZ LZ RB BW hm1;obtain⟨k,s,A,m,d,hkg,rfl,rfl,hm,hZB,hIZ,hOZ,hLZ,hT,hRB,hBW⟩:=hrel;have ZB:=aA hZB;have IZ:=aA hIZ;have OZ:=aA hOZ;have LZ:=aA hLZ;have HT:=aA hT;have RB:=aA hRB;have BW:=aA hBW;clear hZB hIZ hOZ hLZ hT hRB hBW;by_cases hk:k<n
  ·have hki:(k:Int)<n:=by omega
   obtain⟨g,o,hg,hrow⟩:=HROW.out (by omega);subst hg;obtain⟨x,hx,hix,x0,x1,x2⟩:=(hrow.below BW.out).get (k:=k) (by rw [HL.out];exact hk);have hxn:=HLEN.out x (List.mem_of_getElem? hx);have hgl:=(hrow.below BW.out).lt;have HX:=aA hx;have IX:=aA hix;clear hx hix hrow;obtain⟨⟨q0,q1,q2⟩,⟨k0,k1,k2⟩,hlq⟩:=ZB.out.c3;have XB:=aA (aC.new wr 26 #[.slice x.A x.n x.c,.int .i64 x.f.per,.int .i64 x.f.inc]);go_upto_region 5 with fail
   clear q0 q1 q2 k0 k1 k2 hlq;clear x0 x1 x2 hgl;replace ZB:=aA (ZB.out.alloc (.cells #[.slice x.A x.n x.c,.int .i64 x.f.per,.int .i64 x.f.inc] 26));replace IZ:=aA (IZ.out.alloc' (.cells #[.slice x.A x.n x.c,.int .i64 x.f.per,.int .i64 x.f.inc] 26));replace IX:=aA (IX.out.alloc' (.cells #[.slice x.A x.n x.c,.int .i64 x.f.per,.int .i64 x.f.inc] 26));replace RB:=aA (RB.out.alloc (.cells #[.slice x.A x.n x.c,.int .i64 x.f.per,.int .i64 x.f.inc] 26));replace BW:=aA (aD BW.out (aF _ (.cells #[.slice x.A x.n x.c,.int .i64 x.f.per,.int .i64 x.f.inc] 26)));generalize hwe:wr.alloc (.cells #[.slice x.A x.n x.c,.int .i64 x.f.per,.int .i64 x.f.inc] 26)=wf at *;clear hwe;generalize wr.heap.size=X at *;obtain⟨⟨q0,q1,q2⟩,⟨k0,k1,k2⟩,hlq⟩:=ZB.out.c3;obtain⟨⟨x0,x1,x2⟩,_,hlx⟩:=XB.out.c3;go_wp2_with fail
   refine(a1o A x.A m x.n d x.c s.per s.inc x.f.per x.f.inc s.vals x.f.vals _ (by exact IZ.out) (by exact IX.out) (by omega) (by omega)).mono ?_;rintro e w2 ⟨r,er,hS,A2,m2,d2,rfl,hI,hA,hb⟩;have hzl:=ZB.out.lt;have hm2:m2<=400:=by
    have h2:r.vals.length=m2:=hI.1;rcases hS with ⟨_,rfl,_⟩|⟨_,_,a',b',_,_,⟨_,rfl,_⟩|⟨_,g',hg',⟨hl',rfl,_⟩|⟨_,rfl,_⟩⟩⟩
    ·rw [<- h2];decide
    ·rw [<- h2];decide
    ·rw [<- h2];exact hl'.1
    ·rw [<- h2];decide
   have HS:=aA hS;have OZ2:=aA (show ∀b off s,A2=some ⟨b,off,s⟩->b≠Z from fun b off s e=>by have:=hA b off s e;omega);have LZ2:=aA (show ∀b off s,A2=some ⟨b,off,s⟩->w.heap.size+1<=b from fun b off s e=>by have:=hA b off s e;omega);replace ZB:=aA (ZB.out.below hb ZB.out.lt);replace RB:=aA (RB.out.below hb RB.out.lt);replace BW:=aA (aD BW.out hb);have I2:=aA hI;have hxd:xs.drop k=x :: xs.drop (k+1):=by
    have h1:k<xs.length:=by rw [HL.out];exact hk
    rw [List.drop_eq_getElem_cons h1];have h2:=HX.out;rw [List.getElem?_eq_getElem h1] at h2
    injection h2 with h2
    rw [h2]
   have HT2:=aA (show ∀q eq,((er=0/\j1 r ((xs.drop (k+1)).map CR.f) q eq)\/(er≠0/\q=Cv.none/\eq=er))->j1 dO (xs.map CR.f) q eq from fun q eq h=>HT.out q eq (by
    rw [hxd,List.map_cons];exact⟨r,er,HS.out,h⟩))
   clear hS hI hA hb q0 q1 q2 k0 k1 k2 hlq x0 x1 x2 hlx XB IZ IX OZ LZ HT hxd;have hWZ:w.heap.size<Z:=by omega
   obtain⟨⟨q0,q1,q2⟩,⟨k0,k1,k2⟩,hlq⟩:=ZB.out.c3;go_upto_region 6 with fail
   clear q0 q1 q2 k0 k1 k2 hlq;have st:=aR.three Z w2 (.slice A2 m2 d2) (.int .i64 r.per) (.int .i64 r.inc);replace I2:=aA (I2.out.sto st OZ2.out);replace ZB:=aA (ZB.out.store3 (.slice A2 m2 d2) (.int .i64 r.per) (.int .i64 r.inc));replace RB:=aA (RB.out.sto st (by omega));replace BW:=aA (cE BW.out st (by omega));clear st;generalize hwe:((w2.setCell ⟨Z,0,none⟩ (.slice A2 m2 d2)).setCell ⟨Z,1,none⟩ (.int .i64 r.per)).setCell ⟨Z,2,none⟩ (.int .i64 r.inc)=w3 at *;clear hwe;by_cases he:er=0
   ·subst he;have HT3:=aA (fun q eq h=>HT2.out q eq (.inl ⟨rfl,h⟩));clear HT2;go_wp2_with fail
    go_roundg (gk-1)
    case measure=>omega
    case rel=>exact⟨k+1,r,A2,m2,d2,by omega,by go_num,rfl,by omega,ZB.out,I2.out,fun _=>OZ2.out,LZ2.out,HT3.out,RB.out,BW.out⟩
   ·have g1:(er != 0)=true:=by simpa using he
    have FN:=aA (HT2.out Cv.none er (.inr ⟨he,rfl,rfl⟩));clear he HT2;obtain⟨⟨r0,r1,r2⟩,⟨y0,y1,y2⟩,hlr⟩:=RB.out.c3;go_wp2_with fail
    have rb:=RB.out.store3 (.slice none 0 0) (.int .i64 0) (.int .i64 0);refine bodyPost_ret (v:=.tuple #[.agg #[(.slice none 0 0),.int .i64 0,.int .i64 0],.int .i64 er]) (by simp [results,Tryz.results109,go_sem,rb.cell]) rfl ?_;exact kB FN.out (cO BW.out (by omega) _ _ _)
  ·have hkn:k=n:=by omega
   subst hkn;have FN:=aA (HT.out s 0 (by rw [List.drop_eq_nil_of_le (by rw [HL.out];exact Nat.le_refl _)];exact⟨rfl,rfl⟩));clear hk hkg HT;obtain⟨⟨q0,q1,q2⟩,⟨k0,k1,k2⟩,hlq⟩:=ZB.out.c3;obtain⟨⟨r0,r1,r2⟩,⟨y0,y1,y2⟩,hlr⟩:=RB.out.c3;go_wp2_with fail
   have rb:=RB.out.store3 (.slice A m d) (.int .i64 s.per) (.int .i64 s.inc);refine bodyPost_ret (v:=.tuple #[.agg #[.slice A m d,.int .i64 s.per,.int .i64 s.inc],.int .i64 0]) (by simp [results,Tryz.results109,go_sem,rb.cell]) rfl ?_;exact fX FN.out LZ.out (Nat.le_refl _) (by omega) IZ.out BW.out
end Go.Proofs.YtaejfleahamapaaGreat
