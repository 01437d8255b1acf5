/- . -/
import Derived.Test.YtaejfleahamapaaGreatTd11
import Derived.Test.YtaejfleahamapaaGreatTd17
namespace Go.Proofs.YtaejfleahamapaaGreat
set_option linter.unusedVariables false
set_option linter.unusedSimpArgs false
set_option maxHeartbeats 4000000
set_option maxRecDepth 100000
open Go.RowKit
section
def rP(ps:List PK)(done:List Int):Prop:=done.length=ps.length/\∀(i:Nat) (x:PK),ps[i]?=some x->aB done i = -1\/(x.tm<=aB done i/\aB done i<1990)
theorem pQ.kx{X:Nat->Prop}{b o:Nat}{w w':World}{xs:List AR}(h:pQ w b o xs)(k:KX X w w')(hx:¬X b):pQ w' b o xs:=
 ⟨Nat.lt_of_lt_of_le h.lt k.size,fun i j x hx2 hj=>(World.cell?_of_block (a:=⟨b,o+i*4+j,none⟩) (k.block b h.lt hx)).trans (h.cell i j x hx2 hj)⟩
theorem mO.kx{X:Nat->Prop}{w w':World}{A:Option Addr}{n c:Nat}{xs:List AR}(h:mO w A n c xs)(k:KX X w w')(hx:∀b,b<w.heap.size->¬X b):mO w' A n c xs:=
 ⟨h.1,h.2.1,fun h0=>by
  obtain⟨g,o,e,hr⟩:=h.2.2 h0;exact⟨g,o,e,hr.kx k (hx g hr.lt)⟩⟩
theorem a1e(A:Option Addr)(n c gD:Nat)(ps:List PK)(done:List Int)(w:World)(hT:bN w A n c ps)(hv:aM ps)(hD:aN w gD done)(hd:rP ps done) :
 Calls Tryz.prog 116 #[.slice A n c,.slice (some ⟨gD,0,none⟩) n n] w fun e w'=>e = .returned (.int .i64 0)/\Below w.heap.size w w':=by
 have HT:=aA hT;have HV:=aA hv;have HD:=aA hD;have HN:=aA hd;have hl:ps.length=n:=hT.1;have hn:n<=60:=by have:=hv.len;omega
 have hdl:done.length=n:=by have:=hd.1;omega
 clear hT hv hD hd;go_enter Tryz.func116,Tryz.ntmps116
 go_wp2_with fail
 refine(kV A n c ps w HT.out HV.out).mono ?_;rintro e w1 ⟨rfl,hb⟩;have B:=aA hb;replace HT:=aA (HT.out.below hb);replace HD:=aA (HD.out.below hb HD.out.lt);clear hb;have d0:((n:Int) != (n:Int))=false:=by simp
 go_wp2_with fail
 go_loopg [20] n (fun gg s20 wr=>∃k q:Nat,k+gg=n/\s20 = .int .i64 k/\wr=w1.drewN q)
 case atStart=>exact⟨0,0,by omega,rfl,rfl⟩
 case round=>
  obtain⟨k,q,hkg,rfl,rfl⟩:=hrel;by_cases hk:k<n
  case pos=>
   have hki:(k:Int)<n:=by omega
   obtain⟨x,hx⟩:∃x,ps[k]?=some x:=⟨_,List.getElem?_eq_getElem (by omega)⟩
   obtain⟨g,o,rfl,hr⟩:=HT.out.2.2 (by omega);have y1:=hr.cell k 1 x hx (by omega);replace y1:w1.cell? ⟨g,o+k*3+1,none⟩=some (.int .i64 x.tm):=y1;have z1:=HD.out.cell k (by omega);have hgl:g<w1.heap.size:=hr.lt;have hgd:gD<w1.heap.size:=HD.out.lt;have hq:=HN.out.2 k x hx;obtain⟨t,ht⟩:∃t,t=aB done k:=⟨_,rfl⟩
   rw [<- ht] at z1 hq;generalize x.tm=tm at *;have HX:=aA hx;have HTT:=aA ht;clear hx hr ht;by_cases h1:t = -1
   case pos=>
    subst h1;have e1:((-1:Int) != -1)=false:=by decide
    clear hq;go_wp2_with fail
    go_roundg (gk-1)
    case measure=>omega
    case rel=>exact⟨k+1,_,by omega,by go_num,rfl⟩
   case neg=>
    have e1:(t != -1)=true:=by simpa using h1
    have e2:decide (t<tm)=false:=decide_eq_false (by omega);have e3:decide (2000<=t)=false:=decide_eq_false (by omega);clear hq h1;go_wp2_with fail
    go_roundg (gk-1)
    case measure=>omega
    case rel=>exact⟨k+1,_,by omega,by go_num,rfl⟩
  case neg=>
   have hki:¬(k:Int)<n:=by omega
   have bw:Below w.heap.size w (w1.drewN q):=aD B.out (cC (k:=q) (Below.refl w1.heap.size w1));go_wp2_with fail
   go_ret
   exact⟨rfl,bw⟩
def cY(ps:List PK)(done:List Int):Nat->List AR
 | 0=>[]
 | k+1=>cY ps done k ++ (match ps[k]? with
   | some x=>if aB done k = -1 then [] else [⟨⟨x.fl,aB done k+1,x.sz⟩,k⟩]
   | none=>[])
theorem sO(ps:List PK)(done:List Int)(k:Nat):(cY ps done k).length<=k:=by
 induction k with
 | zero=>exact Nat.le_refl _
 | succ k ih=>
   unfold cY;rw [List.length_append];split
   ·split <;> simp <;> omega
   ·simp;omega
theorem sP{ps:List PK}{done:List Int}{k:Nat}{a:AR}(h:a∈cY ps done k):∃(i:Nat) (x:PK),i<k/\ps[i]?=some x/\aB done i≠-1/\a=⟨⟨x.fl,aB done i+1,x.sz⟩,i⟩:=by
 induction k with
 | zero=>cases h
 | succ k ih=>
   unfold cY at h;rcases List.mem_append.1 h with h|h
   ·obtain⟨i,x,h1,h2,h3,h4⟩:=ih h;exact⟨i,x,by omega,h2,h3,h4⟩
   ·split at h
    ·rename_i x hx
     split at h
     ·cases h
     ·rename_i hne
      rw [List.mem_singleton] at h;exact⟨k,x,by omega,hx,hne,h⟩
    ·cases h
theorem a3d(n:Nat)(hn:n<=100000)(w:World):(Instr.makeSlice 46 (.int .i64 (n:Int)) (.int .i64 (n:Int))).run Tryz.prog w = .ok (.slice (some ⟨w.heap.size,0,none⟩) n n) (w.alloc (.cells (madeCells #[.int .i64 0,.int .i64 0,.int .i64 0] (n*3)) 71)):=by
 obtain⟨i0,hi0,hz0,hz1,hz2⟩:=info_parts nC;have:=run_make (P:=Tryz.prog) w 46 71 i0 _ Tryz.underlying46 hi0 hz0 .i64 .i64 n n (by omega) (by omega) (by rw [hz2];omega) (by omega)
 rw [hz1,Int.toNat_natCast] at this;exact this
def fN(w:World)(g m:Nat)(xs:List PK)(k:Nat):Prop:=∃cur:Array Value,aC w g 71 cur/\cur.size=m*3/\∀(j:Nat) (x:PK),j<k->xs[j]?=some x->∀c,c<3->cur[j*3+c]?=x.cells[c]?
section
variable{w w':World}{g m k:Nat}{xs:List PK}
theorem fN.lt(h:fN w g m xs k):g<w.heap.size:=by obtain⟨_,h,_⟩:=h;exact h.lt
theorem fN.frozen(h:fN w g m xs k)(j:Nat):w.frozen? ⟨g,j,none⟩=false:=by obtain⟨_,h,_⟩:=h;exact h.frozen j
theorem fN.cell(h:fN w g m xs k){j:Nat}(hj:j<m*3):∃v,w.cell? ⟨g,j,none⟩=some v:=by
 obtain⟨cur,h,hs,_⟩:=h;rw [h.cell];exact⟨_,Array.getElem?_eq_getElem (by omega)⟩
theorem fN.kx{X:Nat->Prop}(h:fN w g m xs k)(x:KX X w w')(hx:¬X g):fN w' g m xs k:=by obtain⟨cur,h,r⟩:=h;exact⟨cur,h.kx x hx,r⟩
theorem fN.row(h:fN w g m xs k)(hk:xs.length<=k):fQ w g 0 xs:=by
 have hl:=h.lt;obtain⟨cur,h,hs,hc⟩:=h;refine⟨hl,fun j c x hx hc3=>?_⟩
 rw [Nat.zero_add,h.cell];exact hc j x (by have:=(List.getElem?_eq_some_iff.1 hx).1;omega) hx c hc3
theorem fN.put(h:fN w g m xs k){x:PK}(hx:xs[k]?=some x)(hk:k<m):fN (((w.setCell ⟨g,k*3,none⟩ (.int .i64 x.fl)).setCell ⟨g,k*3+1,none⟩ (.int .i64 x.tm)).setCell ⟨g,k*3+2,none⟩ (.int .i64 x.sz)) g m xs (k+1):=by
 obtain⟨cur,h,hs,hc⟩:=h;refine⟨_,((h.set_ (k*3) (.int .i64 x.fl)).set_ (k*3+1) (.int .i64 x.tm)).set_ (k*3+2) (.int .i64 x.sz),by simpa using hs,fun j y hj hy c hc3=>?_⟩
 by_cases e:j=k
 ·subst e;rw [hx] at hy;cases hy;have hlt:j*3+2<cur.size:=by omega
  rcases (show c=0\/c=1\/c=2 by omega) with rfl|rfl|rfl
  ·simp [Array.getElem?_setIfInBounds,PK.cells];omega
  ·simp [Array.getElem?_setIfInBounds,PK.cells];omega
  ·simp [Array.getElem?_setIfInBounds,PK.cells];omega
 ·have:=hc j y (by omega) hy c hc3
  rw [Array.getElem?_setIfInBounds,if_neg (by omega),Array.getElem?_setIfInBounds,if_neg (by omega),Array.getElem?_setIfInBounds,if_neg (by omega)];exact this
end
attribute [local go_sem ↓] F7
def C9(ps:List PK)(done:List Int)(w:World)(e:Ending)(w':World):Prop:=
 ∃(as':List AR) (gO gI:Nat),f9 (fun x:AR=>x.p.tm) (cY ps done ps.length) as'/\e = .returned (.tuple #[.slice (some ⟨gO,0,none⟩) as'.length as'.length,.slice (some ⟨gI,0,none⟩) as'.length as'.length,.int .i64 0])/\fQ w' gO 0 (as'.map AR.p)/\aN w' gI (as'.map AR.ix)/\w.heap.size<=gO/\w.heap.size<=gI/\Below w.heap.size w w'
theorem U4(A:Option Addr)(n c gD:Nat)(ps:List PK)(done:List Int)(w:World)(hT:bN w A n c ps)(hv:aM ps)(hD:aN w gD done)(hd:rP ps done)(hn:n<=19) :
 Calls Tryz.prog 88 #[.slice A n c,.slice (some ⟨gD,0,none⟩) n n] w (C9 ps done w):=by
 have HT:=aA hT;have HV:=aA hv;have HD:=aA hD;have HN:=aA hd;have hl:ps.length=n:=hT.1;have hdl:done.length=n:=by have:=hd.1;omega
 clear hT hv hD hd;go_enter Tryz.func88,Tryz.ntmps88
 go_wp2_with fail
 refine(a1e A n c gD ps done w HT.out HV.out HD.out HN.out).mono ?_;rintro e w1 ⟨rfl,hb⟩;have B:=aA hb;replace HT:=aA (HT.out.below hb);replace HD:=aA (HD.out.below hb HD.out.lt);clear hb;go_upto_region 4 with fail
 go_wp2_with fail
 go_loopg [8,24] n (fun gg s8 s24 wr=>∃k:Nat,k+gg=n/\s24 = .int .i64 k/\Hid (eV wr w1.heap.size s8 (cY ps done k).length (cY ps done k))/\Hid (Below w1.heap.size w1 wr))
 case atStart=>exact⟨0,by omega,rfl,aA (eV.nil_ _ _),aA (Below.refl _ _)⟩
 case round=>
  obtain⟨k,hkg,rfl,O,W⟩:=hrel;by_cases hk:k<n
  case pos=>
   have hki:(k:Int)<n:=by omega
   obtain⟨x,hx⟩:∃x,ps[k]?=some x:=⟨_,List.getElem?_eq_getElem (by omega)⟩
   have hTr:=HT.out.below W.out;obtain⟨g,o,rfl,hr⟩:=hTr.2.2 (by omega);have y0:=hr.cell k 0 x hx (by omega);have y1:=hr.cell k 1 x hx (by omega);have y2:=hr.cell k 2 x hx (by omega);replace y0:wr.cell? ⟨g,o+k*3,none⟩=some (.int .i64 x.fl):=y0;replace y1:wr.cell? ⟨g,o+k*3+1,none⟩=some (.int .i64 x.tm):=y1;replace y2:wr.cell? ⟨g,o+k*3+2,none⟩=some (.int .i64 x.sz):=y2;have hDr:=HD.out.below W.out HD.out.lt;have z1:=hDr.cell k (by omega);have hgl:g<wr.heap.size:=hr.lt;have hgd:gD<wr.heap.size:=hDr.lt;have hq:=HN.out.2 k x hx;have hgv:=HV.out.good x (List.mem_of_getElem? hx);unfold PK.Good at hgv;have hlk:=sO ps done k;obtain⟨t,ht⟩:∃t,t=aB done k:=⟨_,rfl⟩
   rw [<- ht] at z1 hq;have HX:=aA hx;have HTT:=aA ht;clear hx hr ht hTr hDr;by_cases h1:t = -1
   case pos=>
    have hf:cY ps done (k+1)=cY ps done k:=by
     show cY ps done k ++ _=_
     rw [HX.out];simp only
     rw [if_pos (by rw [<- HTT.out];exact h1),List.append_nil]
    subst h1;have O2:=aA (show eV wr w1.heap.size _ (cY ps done (k+1)).length (cY ps done (k+1)) by rw [hf];exact O.out);clear hq hf O;go_wp2_with fail
    go_roundg (gk-1)
    case measure=>omega
    case rel=>exact⟨k+1,by omega,by go_num,O2,W⟩
   case neg=>
    have e1:(t == -1)=false:=by simpa using h1
    have hf:cY ps done (k+1)=cY ps done k ++ [⟨⟨x.fl,t+1,x.sz⟩,k⟩]:=by
     show cY ps done k ++ _=_
     rw [HX.out];simp only
     rw [if_neg (by rw [<- HTT.out];exact h1),<- HTT.out]
    have ew:IntKind.i64.wrap (t+1)=t+1:=IntWalk.i64_in _ (by omega);have b0:=aF wr (.cells #[.int .i64 x.fl,.int .i64 (t+1),.int .i64 x.sz,.int .i64 k] 185);have XB:=aA (aC.new wr 185 #[.int .i64 x.fl,.int .i64 (t+1),.int .i64 x.sz,.int .i64 k]);have O1:=aA (O.out.kx (X:=fun _=>False) (KX.of b0) (fun _ _ h=>h));have W1:=aA (aD W.out b0);clear b0 O;go_upto_region 11 with fail
    generalize hwe:wr.alloc (.cells #[.int .i64 x.fl,.int .i64 (t+1),.int .i64 x.sz,.int .i64 k] 185)=w2 at *;clear hwe;generalize wr.heap.size=X at *;obtain⟨v',w3,hrun,hko,hkx,hvb⟩:=a27 O1.out ⟨⟨x.fl,t+1,x.sz⟩,k⟩ W1.out.size (by omega);have O2:=aA (show eV w3 w1.heap.size v' (cY ps done (k+1)).length (cY ps done (k+1)) by rw [hf,List.length_append];exact hko);have W2:=aA (show Below w1.heap.size w1 w3 from gC W1.out hkx (fun j hj=>(O1.out.blk j hj.symm).1));have c0:=XB.out.cell 0;have c1:=XB.out.cell 1;have c2:=XB.out.cell 2;have c3:=XB.out.cell 3;simp at c0 c1 c2 c3;have hlx:=XB.out.lt;clear hko hkx hvb O1 hf;go_wp2_with fail
    go_roundg (gk-1)
    case measure=>omega
    case rel=>exact⟨k+1,by omega,by go_num,O2,W2⟩
  case neg=>
   have hki:¬(k:Int)<n:=by omega
   obtain rfl:k=n:=by omega
   have hlk:=sO ps done k;go_wp2_with fail
   refine(a4a O.out (fun a ha=>?_) (by omega)).mono ?_
   ·obtain⟨i,x,hi,hx,hne,rfl⟩:=sP ha;have hq:=HN.out.2 i x hx;have hgv:=HV.out.good x (List.mem_of_getElem? hx);unfold PK.Good at hgv;show 0<=aB done i+1/\aB done i+1<=5000
    omega
   rintro e w4 ⟨rfl,ys,Ay,cy,rfl,hS,hLy,hkx⟩;have SB:=aA (show f9 (fun x:AR=>x.p.tm) (cY ps done ps.length) ys by rw [hl];exact hS);have W4:=aA (show Below w.heap.size w w4 from aD B.out (gC W.out hkx (fun j hj=>(O.out.blk j hj.symm).1)));have HLY:=aA hLy;obtain⟨m,hm⟩:∃m,m=(cY ps done k).length:=⟨_,rfl⟩
   have hm2:m<=19:=by omega
   have hyl:ys.length=m:=by rw [hm];exact hLy.1
   rw [<- hm] at HLY;rw [<- hm];have hmi:=rD m (by omega);have hmp:=a3d m (by omega);clear hS hLy hkx O W hm hlk;go_upto_region 14 with fail
   go_cut [12,13] (fun s12 s13 wx=>∃gO gI:Nat,s12 = .slice (some ⟨gO,0,none⟩) m m/\s13 = .slice (some ⟨gI,0,none⟩) m m/\Hid (fN wx gO m (ys.map AR.p) 0)/\Hid (∃zs:List Int,zs.length=m/\aN wx gI zs)/\w4.heap.size<=gO/\w4.heap.size<=gI/\gO≠gI/\Hid (Below w4.heap.size w4 wx))
   case first=>
    go_region
    ·go_wp2_with fail
     go_meet
     exact⟨w4.heap.size,w4.heap.size+1,rfl,rfl,aA ⟨_,(aC.new w4 71 (madeCells #[.int .i64 0,.int .i64 0,.int .i64 0] (m*3))).alloc (.cells (Array.replicate m (Value.int .i64 0)) 3),size_madeCells _ _,fun j x hj=>by omega⟩,aA ⟨List.replicate m 0,by simp,aN.zeros (by have:=aC.new (w4.alloc (.cells (madeCells #[.int .i64 0,.int .i64 0,.int .i64 0] (m*3)) 71)) 3 (Array.replicate m (Value.int .i64 0));rwa [World.size_alloc] at this)⟩,Nat.le_refl _,by omega,by omega,aA (cC (k:=1) (aD (aF w4 (.cells (madeCells #[.int .i64 0,.int .i64 0,.int .i64 0] (m*3)) 71)) (aF _ (.cells (Array.replicate m (Value.int .i64 0)) 3))))⟩
    ·go_wp2_with fail
     go_meet
     exact⟨w4.heap.size+1,w4.heap.size,rfl,rfl,aA ⟨_,(by have:=aC.new (w4.alloc (.cells (Array.replicate m (Value.int .i64 0)) 3)) 71 (madeCells #[.int .i64 0,.int .i64 0,.int .i64 0] (m*3));rwa [World.size_alloc] at this),size_madeCells _ _,fun j x hj=>by omega⟩,aA ⟨List.replicate m 0,by simp,aN.zeros ((aC.new w4 3 (Array.replicate m (Value.int .i64 0))).alloc (.cells (madeCells #[.int .i64 0,.int .i64 0,.int .i64 0] (m*3)) 71))⟩,by omega,Nat.le_refl _,by omega,aA (cC (k:=1) (aD (aF w4 (.cells (Array.replicate m (Value.int .i64 0)) 3)) (aF _ (.cells (madeCells #[.int .i64 0,.int .i64 0,.int .i64 0] (m*3)) 71))))⟩
   case rest=>
    rename World=>wx
    obtain⟨gO,gI,rfl,rfl,FO,FI,h1,h2,h3,WX⟩:=hcut;have HLX:=aA (HLY.out.kx (X:=fun _=>False) (KX.of WX.out) (fun _ _ h=>h));have HYW:=aA (fun h0:0<m=>(show ∃g o,Ay=some ⟨g,o,none⟩/\g<w4.heap.size from by
     obtain⟨g,o,e,hr⟩:=HLY.out.2.2 h0;exact⟨g,o,e,hr.lt⟩))
    clear hmi hmp HLY;go_wp2_with fail
    go_loopg [56] m (fun gg s56 wr=>∃j:Nat,j+gg=m/\s56 = .int .i64 j/\Hid (fN wr gO m (ys.map AR.p) j)/\Hid (∃zs:List Int,zs.length=m/\(∀(i:Nat) (x:AR),i<j->ys[i]?=some x->aB zs i=x.ix)/\aN wr gI zs)/\Hid (KX (fun k=>k=gO\/k=gI) wx wr))
    case atStart=>exact⟨0,by omega,rfl,FO,aA (by obtain⟨zs,a,b⟩:=FI.out;exact⟨zs,a,fun i x hi=>by omega,b⟩),aA (KX.refl _ _)⟩
    case round=>
     clear FO FI;obtain⟨j,hjg,rfl,FO,FI,KW⟩:=hrel;by_cases hj:j<m
     case pos=>
      have hji:(j:Int)<m:=by omega
      obtain⟨x,hx⟩:∃x,ys[j]?=some x:=⟨_,List.getElem?_eq_getElem (by omega)⟩
      obtain⟨g,o,rfl,hgl⟩:=HYW.out (by omega);obtain⟨g',o',e,hr⟩:=HLX.out.2.2 (by omega);cases e
      have hr:=hr.kx KW.out (by omega);have y0:=hr.cell j 0 x hx (by omega);have y1:=hr.cell j 1 x hx (by omega);have y2:=hr.cell j 2 x hx (by omega);have y3:=hr.cell j 3 x hx (by omega);replace y0:wr.cell? ⟨g,o+j*4,none⟩=some (.int .i64 x.p.fl):=y0;replace y1:wr.cell? ⟨g,o+j*4+1,none⟩=some (.int .i64 x.p.tm):=y1;replace y2:wr.cell? ⟨g,o+j*4+2,none⟩=some (.int .i64 x.p.sz):=y2;replace y3:wr.cell? ⟨g,o+j*4+3,none⟩=some (.int .i64 x.ix):=y3;have hgl2:g<wr.heap.size:=hr.lt;have HX:=aA hx;clear hx hr;have b0:=aF wr (.cells #[.int .i64 x.p.fl,.int .i64 x.p.tm,.int .i64 x.p.sz,.int .i64 x.ix] 185);have XB:=aA (aC.new wr 185 #[.int .i64 x.p.fl,.int .i64 x.p.tm,.int .i64 x.p.sz,.int .i64 x.ix]);have FO1:=aA (FO.out.kx (X:=fun _=>False) (KX.of b0) (fun h=>h));have FI1:=aA (show ∃zs:List Int,zs.length=m/\(∀(i:Nat) (x:AR),i<j->ys[i]?=some x->aB zs i=x.ix)/\aN (wr.alloc (.cells #[.int .i64 x.p.fl,.int .i64 x.p.tm,.int .i64 x.p.sz,.int .i64 x.ix] 185)) gI zs from by
       obtain⟨zs,a,b,d⟩:=FI.out;exact⟨zs,a,b,d.alloc _⟩)
      have KW1:=aA (KW.out.trans (KX.of b0));have hnx:gO<wr.heap.size/\gI<wr.heap.size:=⟨FO.out.lt,by obtain⟨zs,a,b,d⟩:=FI.out;exact d.lt⟩
      clear FO FI KW b0;go_upto_region 18 with fail
      generalize hwe:wr.alloc _=w5 at *;clear hwe;generalize wr.heap.size=X at *;have c0:=XB.out.cell 0;have c1:=XB.out.cell 1;have c2:=XB.out.cell 2;have c3:=XB.out.cell 3;simp at c0 c1 c2 c3;have hlx:=XB.out.lt;obtain⟨zs,hz1,hz2,hzb⟩:=FI1.out;obtain⟨v0,e0⟩:=FO1.out.cell (j:=j*3) (by omega);obtain⟨v1,e1⟩:=FO1.out.cell (j:=j*3+1) (by omega);obtain⟨v2,e2⟩:=FO1.out.cell (j:=j*3+2) (by omega);have f0:=FO1.out.frozen (j*3);have f1:=FO1.out.frozen (j*3+1);have f2:=FO1.out.frozen (j*3+2);have q0:=hzb.cell j (by omega);have qf:=hzb.frozen j;have hlo:=FO1.out.lt;have hli:=hzb.lt;have HZ1:=aA hz1;have HZ2:=aA hz2;have HZB:=aA hzb;have hpx:(ys.map AR.p)[j]?=some x.p:=by rw [List.getElem?_map,HX.out];rfl
      have HPX:=aA hpx;have HZ3:=aA (show ∀(i:Nat) (y:AR),i<j+1->ys[i]?=some y->aB (zs.set j x.ix) i=y.ix from fun i y hi hy=>by
       rw [eQ _ _ _ _ (by omega)];by_cases e:i=j
       ·subst e;rw [if_pos rfl];rw [HX.out] at hy;cases hy;rfl
       ·rw [if_neg e];exact hz2 i y (by omega) hy)
      clear hz1 hz2 hzb hpx FI1
      go_region
      have FO2:=aA (show fN (((((w5.setCell ⟨gO,j*3,none⟩ (.int .i64 x.p.fl)).setCell ⟨gO,j*3+1,none⟩ (.int .i64 x.p.tm)).setCell ⟨gO,j*3+2,none⟩ (.int .i64 x.p.sz)).setCell ⟨gI,j,none⟩ (.int .i64 x.ix)).drew) gO m (ys.map AR.p) (j+1) from by
       have h:=(FO1.out.put HPX.out hj).kx (X:=fun k=>k=gI) (bG _ gI j (.int .i64 x.ix)) (by show ¬gO=gI;omega);exact h)
      have FI2:=aA (show ∃zs:List Int,zs.length=m/\(∀(i:Nat) (x:AR),i<j+1->ys[i]?=some x->aB zs i=x.ix)/\aN (((((w5.setCell ⟨gO,j*3,none⟩ (.int .i64 x.p.fl)).setCell ⟨gO,j*3+1,none⟩ (.int .i64 x.p.tm)).setCell ⟨gO,j*3+2,none⟩ (.int .i64 x.p.sz)).setCell ⟨gI,j,none⟩ (.int .i64 x.ix)).drew) gI zs from
       ⟨zs.set j x.ix,by rw [List.length_set];exact HZ1.out,HZ3.out,((((HZB.out.far (p:=⟨gO,j*3,none⟩) (by show gI≠gO;omega) (.int .i64 x.p.fl)).far (p:=⟨gO,j*3+1,none⟩) (by show gI≠gO;omega) (.int .i64 x.p.tm)).far (p:=⟨gO,j*3+2,none⟩) (by show gI≠gO;omega) (.int .i64 x.p.sz)).set_ j x.ix)⟩)
      have KW2:=aA (show KX (fun k=>k=gO\/k=gI) wx (((((w5.setCell ⟨gO,j*3,none⟩ (.int .i64 x.p.fl)).setCell ⟨gO,j*3+1,none⟩ (.int .i64 x.p.tm)).setCell ⟨gO,j*3+2,none⟩ (.int .i64 x.p.sz)).setCell ⟨gI,j,none⟩ (.int .i64 x.ix)).drew) from
       ((((KW1.out.set_ (p:=⟨gO,j*3,none⟩) (.inl rfl) (.int .i64 x.p.fl)).set_ (p:=⟨gO,j*3+1,none⟩) (.inl rfl) (.int .i64 x.p.tm)).set_ (p:=⟨gO,j*3+2,none⟩) (.inl rfl) (.int .i64 x.p.sz)).set_ (p:=⟨gI,j,none⟩) (.inr rfl) (.int .i64 x.ix)).drewN 1)
      clear c0 c1 c2 c3 e0 e1 e2 f0 f1 f2 q0 qf hlx hlo hli;go_wp2_with fail
      go_roundg (gk-1)
      case measure=>omega
      case rel=>exact⟨j+1,by omega,by go_num,FO2,FI2,KW2⟩
     case neg=>
      have hji:¬(j:Int)<m:=by omega
      obtain rfl:m=j:=by omega
      have FO3:=aA (FO.out.row (by rw [List.length_map];omega));have FI3:=aA (show aN wr gI (ys.map AR.ix) from by
       obtain⟨zs,a,b,d⟩:=FI.out;have e:zs=ys.map AR.ix:=by
        refine List.ext_getElem? fun i=>?_
        rw [List.getElem?_map];rcases Nat.lt_or_ge i zs.length with hi|hi
        ·obtain⟨x,hx⟩:∃x,ys[i]?=some x:=⟨_,List.getElem?_eq_getElem (by omega)⟩
         have h1:=b i x (by omega) hx;rw [hx,Option.map_some,<- h1,List.getElem?_eq_getElem hi];simp [aB,hi]
        ·rw [List.getElem?_eq_none hi,List.getElem?_eq_none (show ys.length<=i by omega)]
         rfl
       rw [<- e];exact d)
      have BW:=aA (gC (aD W4.out WX.out) KW.out (fun g hg=>by
       have:=W4.out.size
       rcases hg with rfl|rfl <;> omega))
      have hsz:=W4.out.size;subst hyl;clear FO FI KW;go_wp2_with fail
      exact bodyPost_ret (v:=.tuple #[.slice (some ⟨gO,0,none⟩) ys.length ys.length,.slice (some ⟨gI,0,none⟩) ys.length ys.length,.int .i64 0]) (by simp [results,Tryz.results88,go_sem]) rfl ⟨ys,gO,gI,SB.out,rfl,FO3.out,FI3.out,by omega,by omega,BW.out⟩
end
end Go.Proofs.YtaejfleahamapaaGreat
