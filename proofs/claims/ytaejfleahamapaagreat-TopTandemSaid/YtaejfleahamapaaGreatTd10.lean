/- . -/
import Derived.Deep.DeepCutAuto
import Derived.BigRegion
import Derived.Test.YtaejfleahamapaaGreatTd9
namespace Go.Proofs.YtaejfleahamapaaGreat
set_option linter.unusedVariables false
set_option linter.unusedSimpArgs false
set_option maxHeartbeats 4000000
set_option maxRecDepth 100000
open Go.RowKit
structure PK where
 fl:Int
 tm:Int
 sz:Int
def PK.cells(x:PK):List Value:=[.int .i64 x.fl,.int .i64 x.tm,.int .i64 x.sz]
def PK.Good(x:PK):Prop:=0<=x.fl/\x.fl<60/\0<=x.tm/\x.tm<=2000/\1<=x.sz/\x.sz<=1500
structure aM(ps:List PK):Prop where
 len:ps.length<=60
 good:∀x∈ps,x.Good
 sorted:∀(k j:Nat) (x y:PK),k<=j->ps[k]?=some x->ps[j]?=some y->x.tm<=y.tm
structure fQ(w:World)(b o:Nat)(ps:List PK):Prop where
 lt:b<w.heap.size
 cell:∀(k j:Nat) (x:PK),ps[k]?=some x->j<3->w.cell? ⟨b,o+k*3+j,none⟩=x.cells[j]?
section
variable{b o:Nat}{w w':World}{ps:List PK}
theorem fQ.below(h:fQ w b o ps)(hb:Below w.heap.size w w'):fQ w' b o ps:=
 ⟨Nat.lt_of_lt_of_le h.lt hb.size,fun k j x hx hj=>((l6 hb).1 b _ h.lt).trans (h.cell k j x hx hj)⟩
theorem fQ.below2{B:Nat}(h:fQ w b o ps)(hb:Below B w w')(hB:b<B):fQ w' b o ps:=
 ⟨Nat.lt_of_lt_of_le h.lt hb.size,fun k j x hx hj=>(hb.cell (p:=⟨b,o+k*3+j,none⟩) hB).trans (h.cell k j x hx hj)⟩
theorem fQ.get(h:fQ w b o ps){k:Nat}(hk:k<ps.length):∃x,ps[k]?=some x/\w.cell? ⟨b,o+k*3,none⟩=some (.int .i64 x.fl)/\w.cell? ⟨b,o+k*3+1,none⟩=some (.int .i64 x.tm)/\w.cell? ⟨b,o+k*3+2,none⟩=some (.int .i64 x.sz):=by
 have hx:ps[k]?=some ps[k]:=List.getElem?_eq_getElem hk;exact⟨ps[k],hx,h.cell k 0 _ hx (by omega),h.cell k 1 _ hx (by omega),h.cell k 2 _ hx (by omega)⟩
end
def bN(w:World)(A:Option Addr)(n c:Nat)(ps:List PK):Prop:=ps.length=n/\n<=c/\(0<n->∃g o,A=some ⟨g,o,none⟩/\fQ w g o ps)
theorem bN.below{w w':World}{A:Option Addr}{n c:Nat}{ps:List PK}(h:bN w A n c ps)(hb:Below w.heap.size w w'):bN w' A n c ps:=
 ⟨h.1,h.2.1,fun h0=>by
  obtain⟨g,o,e,hr⟩:=h.2.2 h0;exact⟨g,o,e,hr.below hb⟩⟩
theorem kV(A:Option Addr)(n c:Nat)(ps:List PK)(w:World)(h:bN w A n c ps)(hv:aM ps) :
 Calls Tryz.prog 83 #[.slice A n c] w fun e w'=>e = .returned (.int .i64 0)/\Below w.heap.size w w':=by
 have HT:=aA h;have HV:=aA hv;have hn:n<=60:=by have:=hv.len;have:=h.1;omega
 clear h hv;go_enter Tryz.func83,Tryz.ntmps83
 have d60:decide ((60:Int)<(n:Int))=false:=decide_eq_false (by omega);have d60':decide (60<n)=false:=decide_eq_false (by omega);go_wp2_with fail
 go_loopg [3,11] n (fun gg s3 s11 wx=>∃(k:Nat) (t:Int),k+gg=n/\s11 = .int .i64 k/\s3 = .int .i64 t/\Below w.heap.size w wx/\Hid (∀j x,k<=j->ps[j]?=some x->t<=x.tm))
 case atStart=>exact⟨0,0,by omega,rfl,rfl,Below.refl _ _,aA (fun j x _ hx=>by have:=HV.out.good x (List.mem_of_getElem? hx);unfold PK.Good at this;omega)⟩
 case round=>
  obtain⟨k,t,hkg,rfl,rfl,hB,HL⟩:=hrel;have BW:=aA hB;clear hB;by_cases hk:k<n
  case pos=>
   have hki:(k:Int)<n:=by omega
   obtain⟨g,o,hA,hr⟩:=HT.out.2.2 (by omega);subst hA;have HR:=hr.below BW.out;obtain⟨x,hx,x0,x1,x2⟩:=HR.get (k:=k) (by rw [HT.out.1];exact hk);have hgl:=HR.lt;have hgd:=HV.out.good x (List.mem_of_getElem? hx);unfold PK.Good at hgd;obtain⟨g1,g2,g3,g4,g5,g6⟩:=hgd;have ht:=HL.out k x (Nat.le_refl _) hx;have HL2:=aA (show ∀j y,k+1<=j->ps[j]?=some y->x.tm<=y.tm from fun j y hj hy=>HV.out.sorted k j x y (by omega) hx hy);have d1:decide (x.fl<0)=false:=decide_eq_false (by omega);have d2:decide ((60:Int)<=x.fl)=false:=decide_eq_false (by omega);have d3:decide (x.tm<0)=false:=decide_eq_false (by omega);have d4:decide ((2000:Int)<x.tm)=false:=decide_eq_false (by omega);have d5:decide (x.sz<1)=false:=decide_eq_false (by omega);have d6:decide ((1500:Int)<x.sz)=false:=decide_eq_false (by omega);have d7:decide (x.tm<t)=false:=decide_eq_false (by omega);clear HR hr hx;have BW2:=aA (aD BW.out (aF wr (.cells #[.int .i64 x.fl,.int .i64 x.tm,.int .i64 x.sz] 71)));go_upto_region 7 with fail
   generalize hwe:wr.alloc (.cells #[.int .i64 x.fl,.int .i64 x.tm,.int .i64 x.sz] 71)=we at *;have q:=(aC.new wr 71 #[.int .i64 x.fl,.int .i64 x.tm,.int .i64 x.sz])
   rw [hwe] at q;have q0:=q.cell 0;have q1:=q.cell 1;have q2:=q.cell 2;simp at q0 q1 q2;have hl:=q.lt;clear hwe q x0 x1 x2 hgl;go_wp2_with fail
   go_roundg (gk-1)
   case measure=>omega
   case rel=>exact⟨k+1,x.tm,by omega,by go_num,rfl,BW2.out,HL2⟩
  case neg=>
   have hki:¬(k:Int)<n:=by omega
   go_wp2_with fail
   go_ret
   exact⟨rfl,BW.out⟩
structure KX(X:Nat->Prop)(w w':World):Prop where
 os:w'.os=w.os
 tape:w'.tape=w.tape
 output:w'.output=w.output
 size:w.heap.size<=w'.heap.size
 block:∀k,k<w.heap.size->¬X k->w'.heap[k]?=w.heap[k]?
section
variable{X:Nat->Prop}{w w' w3:World}
theorem KX.refl(X:Nat->Prop)(w:World):KX X w w:=⟨rfl,rfl,rfl,Nat.le_refl _,fun _ _ _=>rfl⟩
theorem KX.trans(h:KX X w w')(k:KX X w' w3):KX X w w3:=
 ⟨k.os.trans h.os,k.tape.trans h.tape,k.output.trans h.output,Nat.le_trans h.size k.size,fun i hi hx=>(k.block i (Nat.lt_of_lt_of_le hi h.size) hx).trans (h.block i hi hx)⟩
theorem KX.of(h:Below w.heap.size w w'):KX X w w':=⟨h.os,h.tape,h.output,h.size,fun k hk _=>h.block k hk⟩
theorem KX.drewN(h:KX X w w')(n:Nat):KX X w (w'.drewN n):=⟨h.os,h.tape,h.output,h.size,h.block⟩
theorem KX.alloc(h:KX X w w')(o:Obj):KX X w (w'.alloc o):=h.trans (KX.of (aF w' o))
theorem KX.set_(h:KX X w w'){p:Addr}(hp:X p.block)(v:Value):KX X w (w'.setCell p v):=
 h.trans ⟨rfl,rfl,rfl,by simp,fun k _ hx=>Below.heap_setCell w' p v k (fun e=>hx (e ▸ hp))⟩
theorem KX.mono{Y:Nat->Prop}(h:KX X w w')(hxy:∀k,k<w.heap.size->X k->Y k):KX Y w w':=⟨h.os,h.tape,h.output,h.size,fun k hk hy=>h.block k hk (fun hx=>hy (hxy k hk hx))⟩
theorem aC.kx{g:Nat}{t:TypeId}{cs:Array Value}(h:aC w g t cs)(k:KX X w w')(hx:¬X g):aC w' g t cs:=(k.block g h.lt hx).trans h
theorem aN.kx{g:Nat}{zs:List Int}(h:aN w g zs)(k:KX X w w')(hx:¬X g):aN w' g zs:=(k.block g h.lt hx).trans h
end
def eI(w:World)(g:Nat)(bs:List Bool):Prop:=w.heap[g]?=some (.cells (bs.map Value.bool).toArray 4 (0,0))
section
variable{w w':World}{g:Nat}{bs:List Bool}{X:Nat->Prop}
theorem eI.lt(h:eI w g bs):g<w.heap.size:=by
 rcases Nat.lt_or_ge g w.heap.size with hlt|hge
 ·exact hlt
 ·unfold eI at h;rw [Array.getElem?_eq_none hge] at h;cases h
theorem eI.cell(h:eI w g bs)(i:Nat){b:Bool}(hb:bs[i]?=some b):w.cell? ⟨g,i,none⟩=some (.bool b):=by
 unfold eI at h;simp [World.cell?,h,hb]
theorem eI.frozen(h:eI w g bs)(i:Nat):w.frozen? ⟨g,i,none⟩=false:=by
 unfold eI at h;simp [World.frozen?,h]
theorem eI.kx(h:eI w g bs)(k:KX X w w')(hx:¬X g):eI w' g bs:=(k.block g h.lt hx).trans h
end
def dJ(bs:List Bool):Nat:=(bs.takeWhile id).length
theorem S5(bs:List Bool):dJ bs<=bs.length:=by
 unfold dJ;exact(List.takeWhile_prefix id).length_le
theorem m8(bs:List Bool){j:Nat}(hj:j<dJ bs):bs[j]?=some true:=by
 unfold dJ at hj
 induction bs generalizing j with
 | nil=>simp at hj
 | cons b bs ih=>
   cases b with
   | false=>simp at hj
   | true=>
     cases j with
     | zero=>rfl
     | succ j=>
       simp at hj
       simpa using ih hj
theorem qH(bs:List Bool)(h:dJ bs<bs.length):bs[dJ bs]?=some false:=by
 unfold dJ at h ⊢
 induction bs with
 | nil=>simp at h
 | cons b bs ih=>
   cases b with
   | false=>rfl
   | true=>
     simp at h
     simpa using ih h
def cX(ps:List PK)(bs:List Bool)(t:Int):Int:=match ps[dJ bs]? with
 | some x=>if x.tm<=t then dJ bs else -1
 | none=>-1
structure SE(w:World)(gs:Nat)(t left:Int)(A:Option Addr)(n c:Nat)(ps:List PK)(Bg:Option Addr)(bs:List Bool)(bef:Nat):Prop where
 st:aC w gs 178 #[.int .i64 t,.int .i64 left,.slice A n c,.slice Bg n n,.int .i64 bef]
 tr:bN w A n c ps
 bl:bs.length=n
 bg:0<n->∃gb,Bg=some ⟨gb,0,none⟩/\eI w gb bs/\gb≠gs
 trn:∀g o,0<n->A=some ⟨g,o,none⟩->g≠gs
 bb:bef<=dJ bs
section
variable{w w':World}{gs n c bef:Nat}{t left:Int}{A Bg:Option Addr}{ps:List PK}{bs:List Bool}
theorem bN.kx{X:Nat->Prop}(h:bN w A n c ps)(k:KX X w w')(hx:∀g o,0<n->A=some ⟨g,o,none⟩->¬X g):bN w' A n c ps:=
 ⟨h.1,h.2.1,fun h0=>by
  obtain⟨g,o,e,hr⟩:=h.2.2 h0;refine⟨g,o,e,Nat.lt_of_lt_of_le hr.lt k.size,fun i j x hxx hj=>?_⟩
  rw [<- hr.cell i j x hxx hj];simp only [World.cell?,k.block g hr.lt (hx g o h0 e)]⟩
theorem SE.set(h:SE w gs t left A n c ps Bg bs bef)(b2:Nat)(hb:b2<=dJ bs)(z:Value)(hz:z = .int .i64 b2):SE (w.setCell ⟨gs,4,none⟩ z) gs t left A n c ps Bg bs b2:=by
 subst hz;have hk:KX (fun k=>k=gs) w (w.setCell ⟨gs,4,none⟩ (.int .i64 b2)):=(KX.refl (fun k=>k=gs) w).set_ (p:=⟨gs,4,none⟩) rfl _;refine⟨by simpa using h.st.set_ 4 (.int .i64 b2),h.tr.kx hk h.trn,h.bl,fun h0=>?_,h.trn,hb⟩
 obtain⟨gb,e,hB,hne⟩:=h.bg h0;exact⟨gb,e,hB.kx hk hne,hne⟩
theorem SE.drewN(h:SE w gs t left A n c ps Bg bs bef)(k:Nat):SE (w.drewN k) gs t left A n c ps Bg bs bef:=
 ⟨h.st.drewN k,h.tr.kx ((KX.refl (fun _=>False) w).drewN k) (fun _ _ _ _=>id),h.bl,fun h0=>by
  obtain⟨gb,e,hB,hne⟩:=h.bg h0;exact⟨gb,e,hB,hne⟩,h.trn,h.bb⟩
end
theorem qI(gs n c bef:Nat)(t left:Int)(A Bg:Option Addr)(ps:List PK)(bs:List Bool)(w:World)(h:SE w gs t left A n c ps Bg bs bef)(hv:aM ps) :
 Calls Tryz.prog 86 #[.pointer (some ⟨gs,0,none⟩)] w fun e w'=>e = .returned (.int .i64 (cX ps bs t))/\SE w' gs t left A n c ps Bg bs (dJ bs)/\KX (fun k=>k=gs) w w':=by
 have hn:n<=60:=by have:=hv.len;have:=h.tr.1;omega
 obtain⟨F,hF⟩:∃F,F=dJ bs:=⟨_,rfl⟩
 have hFn:F<=n:=by rw [hF];have:=S5 bs;have:=h.bl;omega
 have hbF:bef<=F:=by rw [hF];exact h.bb
 have HF:=aA hF;have E0:=aA h;have HV:=aA hv;clear hF h hv;go_enter Tryz.func86,Tryz.ntmps86
 go_wp2_with fail
 go_loopg [] (F-bef) (fun gg wr=>∃b:Nat,b+gg=F/\bef<=b/\Hid (SE wr gs t left A n c ps Bg bs b)/\Hid (KX (fun k=>k=gs) w wr))
 case atStart=>exact⟨bef,by omega,Nat.le_refl _,E0,aA (KX.refl _ _)⟩
 case round=>
  clear E0;obtain⟨b,hbg,hbb,E,K⟩:=hrel;obtain⟨s0,s1,s2,s3,s4⟩:_/\_/\_/\_/\_:=⟨E.out.st.cell 0,E.out.st.cell 1,E.out.st.cell 2,E.out.st.cell 3,E.out.st.cell 4⟩
  simp at s0 s1 s2 s3 s4;have hlg:=E.out.st.lt;by_cases hb:b<F
  case pos=>
   have hbi:(b:Int)<n:=by omega
   obtain⟨gb,hgb,hB,hne⟩:=E.out.bg (by omega);subst hgb;have q:=hB.cell b (m8 bs (by rw [<- HF.out];exact hb));have hlb:=hB.lt;have z4:=E.out.st.frozen 4;clear hB;go_wp2_with fail
   go_region
   have hes:=(E.out.drewN 1).set (b+1) (by rw [<- HF.out];omega) (.int .i64 ((b:Int)+1)) (by go_num);have hks:=(K.out.drewN 1).set_ (p:=⟨gs,4,none⟩) rfl (.int .i64 ((b:Int)+1));have E:=aA hes;have K:=aA hks;clear hes hks;go_wp2_with fail
   go_roundg (gk-1)
   case measure=>omega
   case rel=>exact⟨b+1,by omega,by omega,E,K⟩
  case neg=>
   obtain rfl:b=F:=by omega
   have HE:=aA (by have:=E.out;rw [HF.out] at this;exact this);have hlen:=E.out.tr.1;rcases Nat.lt_or_ge b n with hlt|hge
   ·have hbi:(b:Int)<n:=by omega
    obtain⟨gb,hgb,hB,hne⟩:=E.out.bg (by omega);subst hgb;have q:=hB.cell b (by rw [HF.out];exact qH bs (by rw [<- HF.out];have:=E.out.bl;omega));have hlb:=hB.lt;obtain⟨g,o,hA,hr⟩:=E.out.tr.2.2 (by omega);subst hA;obtain⟨x,hx,x0,x1,x2⟩:=hr.get (k:=b) (by omega);have hgl:=hr.lt;have HFV:cX ps bs t=if x.tm<=t then (b:Int) else -1:=by unfold cX;rw [<- HF.out,hx]
    clear hB hr hx x0 x2 hlen;have HFV:=aA HFV;go_wp2_with fail
    go_region
    clear q hlb;by_cases ht:x.tm<=t
    case pos=>
     have HFV2:=aA (HFV.out.trans (if_pos ht));have hd:decide (x.tm<=t)=true:=decide_eq_true ht;go_wp2_with fail
     go_region
     go_wp2_with fail
     go_ret
     exact⟨iV HFV2.out.symm,HE.out.drewN 2,K.out.drewN 2⟩
    case neg=>
     have HFV2:=aA (HFV.out.trans (if_neg ht));have hd:decide (x.tm<=t)=false:=decide_eq_false ht;go_wp2_with fail
     go_region
     go_wp2_with fail
     go_ret
     exact⟨iV HFV2.out.symm,HE.out.drewN 2,K.out.drewN 2⟩
   ·obtain rfl:b=n:=by omega
    have HFV:cX ps bs t = -1:=by unfold cX;rw [<- HF.out,List.getElem?_eq_none (by omega)]
    have HFV:=aA HFV;clear hlen;go_wp2_with fail
    go_region
    go_wp2_with fail
    go_region
    go_wp2_with fail
    go_ret
    exact⟨iV HFV.out.symm,HE.out.drewN 2,K.out.drewN 2⟩
def cA(ps:List PK)(bs:List Bool)(t cl:Int)(r:Int):Prop:=
 (∃(i:Nat) (x:PK),r=i/\ps[i]?=some x/\bs[i]?=some false/\x.tm<=t/\x.fl=cl/\∀(j:Nat) (y:PK),j<i->ps[j]?=some y->bs[j]?=some false->y.tm<=t->y.fl≠cl)\/
 (r = -1/\∀(j:Nat) (y:PK),ps[j]?=some y->bs[j]?=some false->y.tm<=t->y.fl≠cl)
theorem cA.unique{ps:List PK}{bs:List Bool}{t cl r r':Int}(h:cA ps bs t cl r)(k:cA ps bs t cl r'):r=r':=by
 rcases h with ⟨i,x,rfl,h1,h2,h3,h4,h5⟩|⟨rfl,h5⟩ <;> rcases k with ⟨i',x',rfl,k1,k2,k3,k4,k5⟩|⟨rfl,k5⟩
 ·rcases Nat.lt_trichotomy i i' with g|g|g
  ·exact absurd h4 (k5 i x g h1 h2 h3)
  ·rw [g]
  ·exact absurd k4 (h5 i' x' g k1 k2 k3)
 ·exact absurd h4 (k5 i x h1 h2 h3)
 ·exact absurd k4 (h5 i' x' k1 k2 k3)
 ·rfl
theorem a0r{ps:List PK}{bs:List Bool}{t cl:Int}{k:Nat}(hk:k=(max 0 (cX ps bs t)).toNat):∀(j:Nat) (y:PK),j<k->ps[j]?=some y->bs[j]?=some false->y.tm<=t->y.fl≠cl:=by
 intro j y hj hy hb
 exfalso
 have:k<=dJ bs:=by
  rw [hk];unfold cX;cases ps[dJ bs]? with
  | none=>simp only;omega
  | some x=>
    simp only
    split <;> omega
 rw [m8 bs (by omega)] at hb;cases hb
theorem T7{ps:List PK}{bs:List Bool}{t:Int} : -1<=cX ps bs t/\cX ps bs t<=ps.length:=by
 unfold cX;cases h:ps[dJ bs]? with
 | none=>simp only;omega
 | some x=>
   have:=(List.getElem?_eq_some_iff.1 h).1
   simp only
   split <;> omega
theorem qU(gs n c bef:Nat)(t left cl:Int)(A Bg:Option Addr)(ps:List PK)(bs:List Bool)(w:World)(h:SE w gs t left A n c ps Bg bs bef)(hv:aM ps) :
 Calls Tryz.prog 183 #[.pointer (some ⟨gs,0,none⟩),.int .i64 cl] w fun e w'=>∃r,cA ps bs t cl r/\e = .returned (.int .i64 r)/\SE w' gs t left A n c ps Bg bs (dJ bs)/\KX (fun k=>k=gs) w w':=by
 have hn:n<=60:=by have:=hv.len;have:=h.tr.1;omega
 have hlen:ps.length=n:=h.tr.1;have hf:=T7 (ps:=ps) (bs:=bs) (t:=t);obtain⟨f,hfe⟩:∃f,f=cX ps bs t:=⟨_,rfl⟩
 rw [<- hfe] at hf;obtain⟨k0,hk0⟩:∃k0:Nat,(k0:Int)=max 0 f:=⟨(max 0 f).toNat,by omega⟩
 have HS:=aA (a0r (ps:=ps) (bs:=bs) (t:=t) (cl:=cl) (k:=k0) (by rw [<- hfe];omega));have hk0n:k0<=n:=by omega
 have HL:=aA hlen;have HV:=aA hv;have HC:=aA (qI gs n c bef t left A Bg ps bs w h hv);rw [<- hfe] at HC;have HB:=aA h.bl;clear h hv hfe hlen;go_enter Tryz.func183,Tryz.ntmps183
 go_upto_region 1 with fail
 go_cut [5] (fun s5 wx=>s5 = .int .i64 k0/\Hid (SE wx gs t left A n c ps Bg bs (dJ bs))/\Hid (KX (fun k=>k=gs) w wx))
 case first=>
  go_wp2_with fail
  refine HC.out.mono ?_;rintro e w1 ⟨rfl,he,hk⟩;clear HC;have E0:=aA he;have K0:=aA hk;clear he hk;by_cases hf0:0<f
  ·have hfk:(k0:Int)=f:=by omega
   clear hk0;go_wp2_with fail
   go_meet
   exact⟨by rw [hfk],E0,K0⟩
  ·have hfk:k0=0:=by omega
   subst hfk;go_wp2_with fail
   go_meet
   exact⟨rfl,E0,K0⟩
 case rest=>
  clear HC;obtain⟨rfl,E0,K0⟩:=hcut;clear hk0 hf;go_wp2_with fail
  go_loopg [5] (n-k0) (fun gg s5 wr=>∃k:Nat,k+gg=n/\s5 = .int .i64 k/\Hid (∀(j:Nat) (y:PK),j<k->ps[j]?=some y->bs[j]?=some false->y.tm<=t->y.fl≠cl)/\Hid (SE wr gs t left A n c ps Bg bs (dJ bs))/\Hid (KX (fun k=>k=gs) w wr))
  case atStart=>exact⟨k0,by omega,rfl,HS,E0,K0⟩
  case round=>
   clear E0 K0 HS;obtain⟨k,hkg,rfl,HS,E,K⟩:=hrel;obtain⟨s0,s1,s2,s3,s4⟩:_/\_/\_/\_/\_:=⟨E.out.st.cell 0,E.out.st.cell 1,E.out.st.cell 2,E.out.st.cell 3,E.out.st.cell 4⟩
   simp at s0 s1 s2 s3 s4;have hlg:=E.out.st.lt;rcases Nat.lt_or_ge k n with hlt|hge
   ·have hki:(k:Int)<n:=by omega
    obtain⟨gb,hgb,hB,hne⟩:=E.out.bg (by omega);subst hgb;obtain⟨bv,hbv⟩:∃b,bs[k]?=some b:=⟨_,List.getElem?_eq_getElem (by rw [HB.out];exact hlt)⟩
    have q:=hB.cell k hbv;have hlb:=hB.lt;obtain⟨g,o,hA,hr⟩:=E.out.tr.2.2 (by omega);subst hA;obtain⟨x,hx,x0,x1,x2⟩:=hr.get (k:=k) (by rw [HL.out];exact hlt);have hgl:=hr.lt;have HX:=aA hx;have HBV:=aA hbv;clear hB hr hx hbv x2;by_cases ht:x.tm<=t
    case pos=>
     have hd:decide (x.tm<=t)=true:=decide_eq_true ht;have hnext:(bv=true\/x.fl≠cl)->∀(j:Nat) (y:PK),j<k+1->ps[j]?=some y->bs[j]?=some false->y.tm<=t->y.fl≠cl:=by
      intro hor j y hj hy hb hty;by_cases e:j=k
      ·subst e;rw [HX.out] at hy;cases hy
       rw [HBV.out] at hb;cases hb
       rcases hor with h|h
       ·cases h
       ·exact h
      ·exact HS.out j y (by omega) hy hb hty
     have HNX:=aA hnext;clear hnext;go_wp2_with fail
     go_region
     cases bv with
     | true=>
       have HN2:=aA (HNX.out (.inl rfl));go_wp2_with fail
       go_roundg (gk-1)
       case measure=>omega
       case rel=>exact⟨k+1,by omega,by go_num,HN2,aA (E.out.drewN 1),aA (K.out.drewN 1)⟩
     | false=>
       by_cases hcl:x.fl=cl
       ·have hcb:(x.fl == cl)=true:=by simp [hcl]
        have HR:=aA (show cA ps bs t cl k from .inl ⟨k,x,rfl,HX.out,HBV.out,ht,hcl,HS.out⟩);go_wp2_with fail
        go_ret
        exact⟨k,HR.out,rfl,E.out.drewN 1,K.out.drewN 1⟩
       ·have HN2:=aA (HNX.out (.inr hcl));have hcb:(x.fl == cl)=false:=by simp [hcl]
        go_wp2_with fail
        go_roundg (gk-1)
        case measure=>omega
        case rel=>exact⟨k+1,by omega,by go_num,HN2,aA (E.out.drewN 1),aA (K.out.drewN 1)⟩
    case neg=>
     have hd:decide (x.tm<=t)=false:=decide_eq_false ht;have HR:=aA (show cA ps bs t cl (-1) from .inr ⟨rfl,fun j y hy hb hty=>by
      rcases Nat.lt_or_ge j k with g|g
      ·exact HS.out j y g hy hb hty
      ·have:=HV.out.sorted k j x y g HX.out hy
       omega⟩)
     go_wp2_with fail
     go_region
     go_wp2_with fail
     go_ret
     exact⟨-1,HR.out,rfl,E.out.drewN 1,K.out.drewN 1⟩
   ·obtain rfl:k=n:=by omega
    have HR:=aA (show cA ps bs t cl (-1) from .inr ⟨rfl,fun j y hy hb hty=>by
     have:=(List.getElem?_eq_some_iff.1 hy).1
     rw [HL.out] at this;exact HS.out j y this hy hb hty⟩)
    go_wp2_with fail
    go_region
    go_wp2_with fail
    go_ret
    exact⟨-1,HR.out,rfl,E.out.drewN 1,K.out.drewN 1⟩
theorem nC:(Tryz.prog.info? 71).map (fun i=>(i.zero,i.size,i.bytes))=some (some (.agg #[.int .i64 0,.int .i64 0,.int .i64 0]),3,24):=by kernel_rfl
def a8(w:World)(base:Nat)(v:Value)(n:Nat)(xs:List PK):Prop:=w.ownsRow base 71 3 v n (xs.flatMap PK.cells)
section
variable{w w':World}{base n:Nat}{v:Value}{xs:List PK}
theorem a8.nil_(w:World)(base:Nat):a8 w base (.slice none 0 0) 0 []:=⟨by simp,.inl ⟨rfl,rfl⟩⟩
theorem qJ(xs:List PK):(xs.flatMap PK.cells).length=xs.length*3:=by
 induction xs with
 | nil=>rfl
 | cons x xs ih=>
   rw [List.flatMap_cons,List.length_append,ih,List.length_cons];have:x.cells.length=3:=rfl
   omega
theorem sM:∀(xs:List PK) (k j:Nat) (x:PK),xs[k]?=some x->j<3->(xs.flatMap PK.cells)[k*3+j]?=x.cells[j]?
 | [],k,j,x,hk,hj=>by simp at hk
 | y :: xs,0,j,x,hk,hj=>by
   simp at hk;subst hk;rw [List.flatMap_cons,Nat.zero_mul,Nat.zero_add,List.getElem?_append_left (by show j<3;exact hj)]
 | y :: xs,k+1,j,x,hk,hj=>by
   simp at hk;have e:y.cells.length=3:=rfl;rw [List.flatMap_cons,List.getElem?_append_right (by rw [e];omega),e,show(k+1)*3+j-3=k*3+j by omega];exact sM xs k j x hk hj
theorem a8.len(h:a8 w base v n xs):xs.length=n:=by
 have h1:(xs.flatMap PK.cells).length=n*3:=h.1;rw [qJ] at h1;omega
theorem a8.lst(h:a8 w base v n xs):∃A c,v = .slice A n c/\bN w A n c xs/\∀b off s,A=some ⟨b,off,s⟩->base<=b:=by
 have hl:=h.len;obtain⟨h1,h2⟩:=h;rcases h2 with ⟨rfl,h2⟩|⟨g,cap,cur,rfl,hb,hh,hnc,hcm,hcs,hcur⟩
 ·subst h2;exact⟨none,0,rfl,⟨hl,Nat.le_refl _,fun h=>by omega⟩,fun b off s h=>by cases h⟩
 ·refine⟨some ⟨g,0,none⟩,cap,rfl,⟨hl,hnc,fun h0=>⟨g,0,rfl,?_,fun k j x hk hj=>?_⟩⟩,fun b off s h=>by cases h;exact hb⟩
  ·rcases Nat.lt_or_ge g w.heap.size with hlt|hge
   ·exact hlt
   ·rw [Array.getElem?_eq_none hge] at hh;cases hh
  ·have hkn:=(List.getElem?_eq_some_iff.1 hk).1;have h3:=sM xs k j x hk hj;rw [<- hcur,List.getElem?_take,if_pos (by omega)] at h3;simp only [World.cell?,hh,Option.isSome_none,Bool.false_eq_true,if_false];rw [<- h3,Array.getElem?_toList,Nat.zero_add]
theorem a8.kx{X:Nat->Prop}(h:a8 w base v n xs)(k:KX X w w')(hx:∀g,v.ownBlock=some g->¬X g):a8 w' base v n xs:=by
 obtain⟨h1,h2⟩:=h;refine⟨h1,?_⟩
 rcases h2 with h2 | ⟨g,cap,cur,rfl,hg,hh,r⟩
 ·exact .inl h2
 ·refine .inr ⟨g,cap,cur,rfl,hg,?_,r⟩;rw [k.block g ?_ (hx g rfl)]
  ·exact hh
  ·rcases Nat.lt_or_ge g w.heap.size with hlt|hge
   ·exact hlt
   ·rw [Array.getElem?_eq_none hge] at hh;cases hh
theorem a8.blk(h:a8 w base v n xs)(g:Nat)(hg:v.ownBlock=some g):base<=g/\g<w.heap.size:=by
 rcases h.2 with ⟨rfl,_⟩|⟨g',cap,cur,rfl,hb,hh,_⟩
 ·cases hg
 ·have:g'=g:=by simpa [Value.ownBlock] using hg
  subst this;refine⟨hb,?_⟩
  rcases Nat.lt_or_ge g' w.heap.size with hlt|hge
  ·exact hlt
  ·rw [Array.getElem?_eq_none hge] at hh;cases hh
theorem KX.grown{row:Option Nat}(h:w.grownBy w' row):KX (fun k=>some k=row) w w':=⟨h.os,h.tape,h.output,h.size,fun k hk hx=>h.block k hk hx⟩
theorem Own.kx{xs:List Int}{X:Nat->Prop}(h:Own w base v n xs)(k:KX X w w')(hx:∀g,v.ownBlock=some g->¬X g):Own w' base v n xs:=by
 obtain⟨h1,h2⟩:=h;refine⟨h1,?_⟩
 rcases h2 with h2 | ⟨g,cap,cur,rfl,hg,hh,r⟩
 ·exact .inl h2
 ·refine .inr ⟨g,cap,cur,rfl,hg,?_,r⟩;rw [k.block g ?_ (hx g rfl)]
  ·exact hh
  ·rcases Nat.lt_or_ge g w.heap.size with hlt|hge
   ·exact hlt
   ·rw [Array.getElem?_eq_none hge] at hh;cases hh
def pY(args:Array Value):Sem Value:=Builtin.append_ #[46,46] 46 args
theorem pZ(args:Array Value):Builtin.append_ #[46,46] 46 args=pY args:=rfl
theorem yR(h:a8 w base v n xs)(x:PK)(hbase:base<=w.heap.size)(hn:n<=10000) :
 ∃v' w',Sem.run Tryz.prog (pY #[v,.slice (some ⟨w.heap.size,0,none⟩) 1 1]) (w.alloc (.cells #[.int .i64 x.fl,.int .i64 x.tm,.int .i64 x.sz] 71)) = .ok v' w'/\a8 w' base v' (n+1) (xs ++ [x])/\KX (fun k=>some k=v.ownBlock) w w'/\(v'.ownBlock=v.ownBlock\/∃b,v'.ownBlock=some b/\w.heap.size<=b):=by
 obtain⟨i0,hi0,hz0,hz1,hz2⟩:=info_parts nC;have hal:a8 (w.alloc (.cells #[.int .i64 x.fl,.int .i64 x.tm,.int .i64 x.sz] 71)) base v n xs:=h.kx (X:=fun _=>False) (KX.of (aF w _)) (fun _ _ h=>h);obtain⟨v',w',hrun,h2,h3,_,h5⟩:=run_append_own_at (P:=Tryz.prog) (w:=w.alloc (.cells #[.int .i64 x.fl,.int .i64 x.tm,.int .i64 x.sz] 71)) base 46 46 71 i0 (.agg #[.int .i64 0,.int .i64 0,.int .i64 0]) 3 24 Tryz.underlying46 hi0 hz0 hz1 hz2 rfl (by omega) v n _ hal ⟨w.heap.size,0,none⟩ 1 1 x.cells rfl (by
  intro j u hu;have hj:j<3:=by
   rcases Nat.lt_or_ge j 3 with h'|h'
   ·exact h'
   ·rw [List.getElem?_eq_none (by exact h')] at hu;cases hu
  have hb:=(aC.new w 71 #[.int .i64 x.fl,.int .i64 x.tm,.int .i64 x.sz]).cell j;have e:(Addr.add ⟨w.heap.size,0,none⟩ j)=⟨w.heap.size,j,none⟩:=by
   unfold Addr.add;split
   ·rename_i h0;subst h0;rfl
   ·simp
  rw [e,hb,<- hu];have:j=0\/j=1\/j=2:=by omega
  rcases this with rfl|rfl|rfl <;> rfl) (by
  intro u hu;simp only [PK.cells,List.mem_cons,List.not_mem_nil,or_false] at hu;rcases hu with rfl|rfl|rfl <;> rfl) (by unfold maxLen;omega) (by omega) (by simp;omega)
 refine⟨v',w',hrun,?_,?_,?_⟩
 ·unfold a8;rw [List.flatMap_append,List.flatMap_cons,List.flatMap_nil,List.append_nil];exact h2
 ·exact(KX.of (aF w _)).trans (KX.grown h3)
 ·rcases h5 with h5|h5
  ·exact .inl h5
  ·exact .inr ⟨_,h5,by simp⟩
end
theorem oU(A:Option Addr)(n c:Nat)(cap cls ticks:Int)(ps:List PK)(w:World)(h:bN w A n c ps)(hc:1<=cap)(hc2:cap<=4000)(hl:1<=cls)(hl2:cls<=6)(ht:0<=ticks)(ht2:ticks<=2000)(hf:∀x∈ps,x.fl<cls)(hn:n<=60) :
 Calls Tryz.prog 84 #[.int .i64 cap,.int .i64 cls,.slice A n c,.int .i64 ticks] w fun e w'=>e = .returned (.int .i64 0)/\Below w.heap.size w w':=by
 have HT:=aA h;have HF:=aA hf;have d1:decide (cap<1)=false:=decide_eq_false (by omega);have d2:decide ((4000:Int)<cap)=false:=decide_eq_false (by omega);have d3:decide (cls<1)=false:=decide_eq_false (by omega);have d4:decide ((6:Int)<cls)=false:=decide_eq_false (by omega);have d5:decide (ticks<0)=false:=decide_eq_false (by omega);have d6:decide ((2000:Int)<ticks)=false:=decide_eq_false (by omega);clear h hf hc hc2 hl hl2 ht ht2;go_enter Tryz.func84,Tryz.ntmps84
 go_wp2_with fail
 go_loopg [35] n (fun gg s35 wx=>∃k:Nat,k+gg=n/\s35 = .int .i64 k/\Below w.heap.size w wx)
 case atStart=>exact⟨0,by omega,rfl,Below.refl _ _⟩
 case round=>
  obtain⟨k,hkg,rfl,hB⟩:=hrel;have BW:=aA hB;clear hB;by_cases hk:k<n
  case pos=>
   have hki:(k:Int)<n:=by omega
   obtain⟨g,o,hA,hr⟩:=HT.out.2.2 (by omega);subst hA;have HR:=hr.below BW.out;obtain⟨x,hx,x0,x1,x2⟩:=HR.get (k:=k) (by rw [HT.out.1];exact hk);have hgl:=HR.lt;have hgd:=HF.out x (List.mem_of_getElem? hx);have d7:decide (cls<=x.fl)=false:=decide_eq_false (by omega);have d8:¬cls<=x.fl:=by omega
   clear HR hr hx hgd;have BW2:=aA (aD BW.out (aF wr (.cells #[.int .i64 x.fl,.int .i64 x.tm,.int .i64 x.sz] 71)));go_upto_region 6 with fail
   generalize hwe:wr.alloc (.cells #[.int .i64 x.fl,.int .i64 x.tm,.int .i64 x.sz] 71)=we at *;have q:=(aC.new wr 71 #[.int .i64 x.fl,.int .i64 x.tm,.int .i64 x.sz])
   rw [hwe] at q;have q0:=q.cell 0;simp at q0;have hl:=q.lt;clear hwe q x0 x1 x2 hgl;go_wp2_with fail
   go_roundg (gk-1)
   case measure=>omega
   case rel=>exact⟨k+1,by omega,by go_num,BW2.out⟩
  case neg=>
   have hki:¬(k:Int)<n:=by omega
   go_wp2_with fail
   go_ret
   exact⟨rfl,BW.out⟩
def jL(cls:Nat)(ps:List PK)(t:Int)(bs:List Bool)(r:Int):Prop:=
 (∃k:Nat,k<cls/\0<=r/\cA ps bs t k r/\∀j:Nat,j<k->cA ps bs t j (-1))\/(r = -1/\∀j:Nat,j<cls->cA ps bs t j (-1))
theorem cA.cases{ps:List PK}{bs:List Bool}{t cl r:Int}(h:cA ps bs t cl r):r = -1\/∃i:Nat,r=i/\i<ps.length:=by
 rcases h with ⟨i,x,rfl,h1,_⟩|⟨rfl,_⟩
 ·exact .inr ⟨i,rfl,(List.getElem?_eq_some_iff.1 h1).1⟩
 ·exact .inl rfl
theorem a1l(gs n c bef cls gc:Nat)(t left:Int)(A Bg:Option Addr)(ps:List PK)(bs:List Bool)(w:World)(h:SE w gs t left A n c ps Bg bs bef)(hv:aM ps)(hb:aC w gc 3 #[.int .i64 cls])(hne:gc≠gs)(hcl:cls<=6) :
 Calls Tryz.prog 182 (#[.pointer (some ⟨gs,0,none⟩)] ++ #[.pointer (some ⟨gc,0,none⟩)]) w fun e w'=>∃r,jL cls ps t bs r/\e = .returned (.int .i64 r)/\(∃b2,SE w' gs t left A n c ps Bg bs b2)/\KX (fun k=>k=gs) w w':=by
 show Calls _ _ #[.pointer (some ⟨gs,0,none⟩),.pointer (some ⟨gc,0,none⟩)] _ _
 have E0:=aA (show ∃b2,SE w gs t left A n c ps Bg bs b2 from⟨_,h⟩);have HV:=aA hv;have HB:=aA hb;have c0:=hb.cell 0;simp at c0;have hlc:=hb.lt;clear h hv hb;go_enter Tryz.func182,Tryz.ntmps182
 go_wp2_with fail
 go_loopg [7,4] cls (fun gg s7 _ wr=>∃k:Nat,k+gg=cls/\s7 = .int .i64 k/\Hid (∀j:Nat,j<k->cA ps bs t j (-1))/\Hid (∃b2,SE wr gs t left A n c ps Bg bs b2)/\Hid (KX (fun k=>k=gs) w wr))
 case atStart=>exact⟨0,by omega,rfl,aA (fun j hj=>by omega),E0,aA (KX.refl _ _)⟩
 case round=>
  clear E0;obtain⟨k,hkg,rfl,HP,E,K⟩:=hrel;obtain⟨b2,he⟩:=E.out;have E:=aA he;clear he;by_cases hk:k<cls
  case pos=>
   have hki:(k:Int)<cls:=by omega
   have HC:=aA (qU gs n c b2 t left k A Bg ps bs wr E.out HV.out);have HL:=aA E.out.tr.1;clear E;go_wp2_with fail
   refine HC.out.mono ?_;rintro e w3 ⟨r,hr,rfl,he,hk3⟩;have HR:=aA hr;have E:=aA (show ∃b2,SE w3 gs t left A n c ps Bg bs b2 from⟨_,he⟩);have K:=aA (K.out.trans hk3);clear hr he hk3 HC;rcases HR.out.cases with rfl | ⟨i,rfl,hi⟩
   ·go_wp2_with fail
    go_roundg (gk-1)
    case measure=>omega
    case rel=>exact⟨k+1,by omega,by go_num,aA (fun j hj=>by
     by_cases e:j=k
     ·rw [e];exact HR.out
     ·exact HP.out j (by omega)),E,K⟩
   ·have HA:=aA (show jL cls ps t bs i from .inl ⟨k,hk,by omega,HR.out,HP.out⟩);clear hi;go_wp2_with fail
    go_ret
    exact⟨_,HA.out,rfl,E.out,K.out⟩
  case neg=>
   obtain rfl:k=cls:=by omega
   have HA:=aA (show jL k ps t bs (-1) from .inr ⟨rfl,HP.out⟩);have E:=aA (show ∃b2,SE wr gs t left A n c ps Bg bs b2 from⟨_,E.out⟩);go_wp2_with fail
   go_ret
   exact⟨_,HA.out,rfl,E.out,K.out⟩
def mL(w:World)(G m:Nat):Prop:=G<w.heap.size/\∀j,j<m->∃A c,w.cell? ⟨G,j,none⟩=some (.slice A 0 c)
theorem lN(G m:Nat)(w:World)(hm:m<=5)(h:mL w G m) :
 Calls Tryz.prog 174 #[.bool true,.slice (some ⟨G,0,none⟩) m m] w fun e w'=>e = .returned (.int .i64 0)/\Below w.heap.size w w':=by
 have HE:=aA h;have hG:=h.1;clear h;go_enter Tryz.func174,Tryz.ntmps174
 go_wp2_with fail
 go_loopg [11] m (fun gg s11 wx=>∃k:Nat,k+gg=m/\s11 = .int .i64 k/\wx=w)
 case atStart=>exact⟨0,by omega,rfl,rfl⟩
 case round=>
  obtain⟨k,hkg,rfl,rfl⟩:=hrel;by_cases hk:k<m
  case pos=>
   have hki:(k:Int)<m:=by omega
   obtain⟨A,c,hc⟩:=HE.out.2 k hk;go_wp2_with fail
   go_roundg (gk-1)
   case measure=>omega
   case rel=>exact⟨k+1,by omega,by go_num,rfl⟩
  case neg=>
   have hki:¬(k:Int)<m:=by omega
   go_wp2_with fail
   go_ret
   exact⟨rfl,Below.refl _ _⟩
theorem wG(w:World)(t:TypeId)(A B:Option Addr)(c d:Nat):mL (w.alloc (.cells #[.slice A 0 c,.slice B 0 d] t)) w.heap.size 2:=by
 have h:=aC.new w t #[.slice A 0 c,.slice B 0 d];refine⟨h.lt,fun j hj=>?_⟩
 rcases (show j=0\/j=1 by omega) with rfl|rfl
 ·exact⟨_,_,h.cell 0⟩
 ·exact⟨_,_,h.cell 1⟩
theorem mZ(w:World)(t:TypeId)(A:Option Addr)(c:Nat):mL (w.alloc (.cells #[.slice A 0 c] t)) w.heap.size 1:=by
 have h:=aC.new w t #[.slice A 0 c];refine⟨h.lt,fun j hj=>?_⟩
 obtain rfl:j=0:=by omega
 exact⟨_,_,h.cell 0⟩
theorem wJ(k cap n:Int)(AW AS:Option Addr)(cW cS:Nat)(w:World) :
 Calls Tryz.prog 171 #[.agg #[],.agg #[.int .i64 k,.int .i64 cap,.int .i64 n,.slice AW 0 cW,.slice AS 0 cS]] w fun e w'=>e = .returned (.int .i64 0)/\Below w.heap.size w w':=by
 have B0:=aF w (.cells #[] 162);have B1:=aA (aC.new (w.alloc (.cells #[] 162)) 44 #[.int .i64 k,.int .i64 cap,.int .i64 n,.slice AW 0 cW,.slice AS 0 cS]);have BW:=aA (aD B0 (aF _ (.cells #[.int .i64 k,.int .i64 cap,.int .i64 n,.slice AW 0 cW,.slice AS 0 cS] 44)));clear B0;go_enter Tryz.func171,Tryz.ntmps171
 go_upto_region 1 with fail
 generalize hwe:(w.alloc (.cells #[] 162)).alloc (.cells #[.int .i64 k,.int .i64 cap,.int .i64 n,.slice AW 0 cW,.slice AS 0 cS] 44)=w1 at *;clear hwe;have B2:=aA (show aC w1 (w.heap.size+1) 44 #[.int .i64 k,.int .i64 cap,.int .i64 n,.slice AW 0 cW,.slice AS 0 cS] by have:=B1.out;rw [World.size_alloc] at this;exact this);have n3:=B2.out.cell 3;have n4:=B2.out.cell 4;simp at n3 n4;have hl:=B2.out.lt;go_wp2_with fail
 refine(lN _ 2 _ (by omega) (wG w1 22 AW AS cW cS)).mono ?_;rintro e w2 ⟨rfl,hb⟩;have bw:=aD (aD BW.out (aF w1 (.cells #[.slice AW 0 cW,.slice AS 0 cS] 22))) hb;go_wp2_with fail
 go_ret
 exact⟨rfl,bw⟩
theorem yF(k cap n:Int)(AW AS:Option Addr)(cW cS:Nat)(w:World) :
 Calls Tryz.prog 175 #[.agg #[],.agg #[.int .i64 k,.int .i64 cap,.int .i64 n,.slice AW 0 cW,.slice AS 0 cS]] w fun e w'=>e = .returned (.int .i64 0)/\Below w.heap.size w w':=by
 have B0:=aF w (.cells #[] 163);have B1:=aA (aC.new (w.alloc (.cells #[] 163)) 44 #[.int .i64 k,.int .i64 cap,.int .i64 n,.slice AW 0 cW,.slice AS 0 cS]);have BW:=aA (aD B0 (aF _ (.cells #[.int .i64 k,.int .i64 cap,.int .i64 n,.slice AW 0 cW,.slice AS 0 cS] 44)));clear B0;go_enter Tryz.func175,Tryz.ntmps175
 go_upto_region 1 with fail
 generalize hwe:(w.alloc (.cells #[] 163)).alloc (.cells #[.int .i64 k,.int .i64 cap,.int .i64 n,.slice AW 0 cW,.slice AS 0 cS] 44)=w1 at *;clear hwe;have B2:=aA (show aC w1 (w.heap.size+1) 44 #[.int .i64 k,.int .i64 cap,.int .i64 n,.slice AW 0 cW,.slice AS 0 cS] by have:=B1.out;rw [World.size_alloc] at this;exact this);have n3:=B2.out.cell 3;have n4:=B2.out.cell 4;simp at n3 n4;have hl:=B2.out.lt;go_wp2_with fail
 refine(lN _ 2 _ (by omega) (wG w1 22 AW AS cW cS)).mono ?_;rintro e w2 ⟨rfl,hb⟩;have bw:=aD (aD BW.out (aF w1 (.cells #[.slice AW 0 cW,.slice AS 0 cS] 22))) hb;go_wp2_with fail
 go_ret
 exact⟨rfl,bw⟩
theorem a5s(cap n:Int)(AW AS:Option Addr)(cW cS:Nat)(w:World)(hc1:1<=cap)(hc2:cap<=4000)(hn1:1<=n)(hn2:n<=6) :
 Calls Tryz.prog 75 #[.agg #[.int .i64 1,.int .i64 cap,.int .i64 n,.slice AW 0 cW,.slice AS 0 cS]] w fun e w'=>e = .returned (.int .i64 0)/\Below w.heap.size w w':=by
 have B1:=aA (aC.new w 44 #[.int .i64 1,.int .i64 cap,.int .i64 n,.slice AW 0 cW,.slice AS 0 cS]);have BW:=aA (aF w (.cells #[.int .i64 1,.int .i64 cap,.int .i64 n,.slice AW 0 cW,.slice AS 0 cS] 44));go_enter Tryz.func75,Tryz.ntmps75
 go_upto_region 1 with fail
 generalize hwe:w.alloc (.cells #[.int .i64 1,.int .i64 cap,.int .i64 n,.slice AW 0 cW,.slice AS 0 cS] 44)=w1 at *;clear hwe;have n0:=B1.out.cell 0;simp at n0;have hl:=B1.out.lt;go_wp2_with fail
 refine(oT 1 (by omega) (by omega) _).mono ?_;rintro e w2 ⟨rfl,hb⟩;simp only [eU];replace B1:=aA (B1.out.below hb B1.out.lt);replace BW:=aA (aD BW.out hb);clear n0 hl hb;have n0:=B1.out.cell 0;have n1:=B1.out.cell 1;have n2:=B1.out.cell 2;have n3:=B1.out.cell 3;have n4:=B1.out.cell 4;simp at n0 n1 n2 n3 n4;have hl:=B1.out.lt;go_wp2_with fail
 refine(wJ 1 cap n AW AS cW cS _).mono ?_;rintro e w3 ⟨rfl,hb⟩;have bw:=aD BW.out hb;go_wp2_with fail
 go_ret
 exact⟨rfl,bw⟩
theorem H7(cap n:Int)(AW AS:Option Addr)(cW cS:Nat)(w:World)(hc1:1<=cap)(hc2:cap<=4000)(hn1:1<=n)(hn2:n<=6) :
 Calls Tryz.prog 75 #[.agg #[.int .i64 2,.int .i64 cap,.int .i64 n,.slice AW 0 cW,.slice AS 0 cS]] w fun e w'=>e = .returned (.int .i64 0)/\Below w.heap.size w w':=by
 have B1:=aA (aC.new w 44 #[.int .i64 2,.int .i64 cap,.int .i64 n,.slice AW 0 cW,.slice AS 0 cS]);have BW:=aA (aF w (.cells #[.int .i64 2,.int .i64 cap,.int .i64 n,.slice AW 0 cW,.slice AS 0 cS] 44));go_enter Tryz.func75,Tryz.ntmps75
 go_upto_region 1 with fail
 generalize hwe:w.alloc (.cells #[.int .i64 2,.int .i64 cap,.int .i64 n,.slice AW 0 cW,.slice AS 0 cS] 44)=w1 at *;clear hwe;have n0:=B1.out.cell 0;simp at n0;have hl:=B1.out.lt;go_wp2_with fail
 refine(oT 2 (by omega) (by omega) _).mono ?_;rintro e w2 ⟨rfl,hb⟩;simp only [eU];replace B1:=aA (B1.out.below hb B1.out.lt);replace BW:=aA (aD BW.out hb);clear n0 hl hb;have n0:=B1.out.cell 0;have n1:=B1.out.cell 1;have n2:=B1.out.cell 2;have n3:=B1.out.cell 3;have n4:=B1.out.cell 4;simp at n0 n1 n2 n3 n4;have hl:=B1.out.lt;go_wp2_with fail
 refine(yF 2 cap n AW AS cW cS _).mono ?_;rintro e w3 ⟨rfl,hb⟩;have bw:=aD BW.out hb;go_wp2_with fail
 go_ret
 exact⟨rfl,bw⟩
end Go.Proofs.YtaejfleahamapaaGreat
