/- . -/
import Derived.Test.YtaejfleahamapaaGreatTd14
namespace Go.Proofs.YtaejfleahamapaaGreat
set_option linter.unusedVariables false
set_option linter.unusedSimpArgs false
set_option maxHeartbeats 2000000
open Go.RowKit
def dN{σ:Type}(cap:Int)(cls:Nat)(ps:List PK)(ticks:Nat)(Ch:RS σ->Int->σ->Prop)(sg0:σ)(done:List Int)(sent:List (List Int)):Prop:=
 ∃s:RS σ,aQ cap cls ps ticks Ch sg0 s/\s.on=false/\s.t=ticks/\s.done=done/\s.sent=sent
def dU(n cls ticks:Nat)(P:List Int->List (List Int)->Prop)(w:World)(e:Ending)(w':World):Prop:=
 ∃(done:List Int) (sent:List (List Int)) (gD gS:Nat) (gcs:List Nat),P done sent/\e = .returned (.tuple #[.agg #[.slice (some ⟨gD,0,none⟩) n n,.slice (some ⟨gS,0,none⟩) cls cls],.int .i64 0])/\aN w' gD done/\SN w' gS gcs (ticks+1) sent/\
  (w.heap.size<=gD/\w.heap.size<=gS/\∀(c g:Nat),gcs[c]?=some g->w.heap.size<=g)/\Below w.heap.size w w'
theorem mW{B:Nat}{w w1 w2:World}{X:Nat->Prop}(hb:Below B w w1)(hk:KX X w1 w2)(hx:∀k,X k->B<=k)(hB:B<=w1.heap.size):Below B w w2:=
 ⟨hk.os.trans hb.os,hk.tape.trans hb.tape,hk.output.trans hb.output,Nat.le_trans hb.size hk.size,fun k hk2=>(hk.block k (by omega) (fun h=>by have:=hx k h;omega)).trans (hb.block k hk2)⟩
theorem dU.lay{n cls ticks:Nat}{P:List Int->List (List Int)->Prop}{w w9:World}{done:List Int}{sent:List (List Int)}{gD gS X:Nat}{gcs:List Nat}(hP:P done sent)(hd:aN w9 gD done)(hs:SN w9 gS gcs (ticks+1) sent)(hX:w.heap.size<=X)(h1:X<gD/\X<gS/\∀(c g:Nat),gcs[c]?=some g->X<g)(hb:Below w.heap.size w w9) :
 dU n cls ticks P w (.returned (.tuple #[.agg #[.slice (some ⟨gD,0,none⟩) n n,.slice (some ⟨gS,0,none⟩) cls cls],.int .i64 0])) ((w9.setCell ⟨X,0,none⟩ (.slice (some ⟨gD,0,none⟩) n n)).setCell ⟨X,1,none⟩ (.slice (some ⟨gS,0,none⟩) cls cls)):=by
 have kk:=(bG w9 X 0 (.slice (some ⟨gD,0,none⟩) n n)).trans (bG _ X 1 (.slice (some ⟨gS,0,none⟩) cls cls));obtain⟨k1,k2,k3⟩:=h1;exact⟨done,sent,gD,gS,gcs,hP,rfl,hd.kx kk (by omega),hs.kx kk (by omega) (fun c g hg=>by have:=k3 c g hg;omega),⟨by omega,by omega,fun c g hg=>by have:=k3 c g hg;omega⟩,mW hb kk (fun k hk=>by omega) hb.size⟩
def gL(cls:Nat)(ps:List PK):RS Unit->Int->Unit->Prop:=fun s r _=>jL cls ps s.t s.begun r
def jX(ps:List PK):RS Unit->Int->Unit->Prop:=fun s r _=>r=cX ps s.begun s.t
theorem a1m(cap:Int)(cls:Nat)(A:Option Addr)(n c:Nat)(ps:List PK)(ticks:Nat)(w:World)(hT:bN w A n c ps)(hv:aM ps)(hfl:∀x∈ps,x.fl<cls)(hc1:1<=cap)(hc2:cap<=4000)(hl1:1<=cls)(hl2:cls<=6)(ht:ticks<=2000) :
 Calls Tryz.prog 179 #[.int .i64 cap,.int .i64 cls,.slice A n c,.int .i64 ticks] w (dU n cls ticks (dN cap cls ps ticks (gL cls ps) ()) w):=by
 have hn:n<=60:=by have:=hv.len;have:=hT.1;omega
 have CB:=aA ((aC.new w 3 #[.int .i64 cls]).alloc (.cells #[.slice none 0 0,.slice none 0 0] 62));have rb:=aC.new (w.alloc (.cells #[.int .i64 cls] 3)) 62 #[.slice none 0 0,.slice none 0 0];simp only [World.size_alloc] at rb;have RB:=aA rb;have BW:=aA (aD (aF w (.cells #[.int .i64 cls] 3)) (aF _ (.cells #[.slice none 0 0,.slice none 0 0] 62)));have HS:=aA (show w.heap.size+2=((w.alloc (.cells #[.int .i64 cls] 3)).alloc (.cells #[.slice none 0 0,.slice none 0 0] 62)).heap.size by simp [World.size_alloc]);have HT:=aA (hT.below BW.out);have HV:=aA hv;have HF:=aA hfl;have HLT:=aA (show ∀g o,0<n->A=some ⟨g,o,none⟩->g<w.heap.size from fun g o h0 e=>by
  obtain⟨g',o',e',hr⟩:=hT.2.2 h0;rw [e] at e';cases e';exact hr.lt)
 clear hT hv hfl rb;go_enter Tryz.func179,Tryz.ntmps179
 go_upto_region 1 with fail
 generalize hwe:(w.alloc (.cells #[.int .i64 cls] 3)).alloc (.cells #[.slice none 0 0,.slice none 0 0] 62)=w1 at *;clear hwe;go_wp2_with fail
 refine(kV A n c ps w1 HT.out HV.out).mono ?_;rintro e w2 ⟨rfl,hb⟩;replace HT:=aA (HT.out.below hb);replace CB:=aA (CB.out.below hb CB.out.lt);replace RB:=aA (RB.out.below hb RB.out.lt);replace HS:=aA (show w.heap.size+2<=w2.heap.size by have:=hb.size;have:=HS.out;omega);replace BW:=aA (aD BW.out hb);clear hb;have cc:=CB.out.cell 0;simp at cc;have hlc:=CB.out.lt;go_wp2_with fail
 refine(oU A n c cap cls ticks ps w2 HT.out hc1 hc2 (by omega) (by omega) (by omega) (by omega) HF.out hn).mono ?_;rintro e w3 ⟨rfl,hb⟩;replace HT:=aA (HT.out.below hb);replace CB:=aA (CB.out.below hb CB.out.lt);replace RB:=aA (RB.out.below hb RB.out.lt);have HS4:=aA (show w.heap.size+2<=w3.heap.size by have:=hb.size;have:=HS.out;omega);replace BW:=aA (aD BW.out hb);clear hb cc hlc HS;have cc:=CB.out.cell 0;simp at cc;have hlc:=CB.out.lt;go_wp2_with fail
 refine(oV cap cls A n c ps ticks 182 #[] #[.pointer (some ⟨w.heap.size,0,none⟩)] (gL cls ps) () (fun _ w'=>aC w' w.heap.size 3 #[.int .i64 cls]) (fun k=>k=w.heap.size) w3 HT.out HV.out HF.out hc1 hc2 hl1 hl2 ht
  (aA (fun _ w w' X h k hx=>h.kx k (hx _ rfl))) (aA (fun k hk=>by have:=HS4.out;omega)) (aA (fun g o h0 e h=>by have:=HLT.out g o h0 e;omega)) CB
  (aA (fun gs bef Bg s w1 hm hon hnw hlf hse hhr hkx hgs=>(a1l gs n c bef cls w.heap.size s.t s.left A Bg ps s.begun w1 hse HV.out hhr (by have:=HS4.out;omega) hl2).mono (fun e w2 h=>by
   obtain⟨r,hr,rfl,hse2,hk⟩:=h;refine⟨r,(),hr,?_,rfl,hse2,hhr.kx hk (by have:=HS4.out;omega),hk.mono (fun _ _ h=>.inl h)⟩
   rcases hr with ⟨k,_,_,h,_⟩|⟨rfl,_⟩
   ·rcases h.cases with h | ⟨i,h,hi⟩
    ·exact .inl h
    ·exact .inr ⟨i,h,by have:=HT.out.1;omega⟩
   ·exact .inl rfl))) (fun x w=>by kernel_rfl)).mono ?_
 rintro e w4 ⟨s,gD,gS,gcs,hm,hon,htt,rfl,hd,hsn,h1,h2,h3,hhr,hkx⟩;have RB4:=aA (RB.out.kx hkx (by omega));have BW4:=aA (mW BW.out hkx (fun k hk=>by omega) (by have:=HS4.out;omega));have HM:=aA hm;have HD:=aA hd;have HSN:=aA hsn;have HH:=aA (And.intro h1 (And.intro h2 h3));have HO:=aA (And.intro hon htt);clear hm hd hsn h1 h2 h3 hhr hkx hon htt RB BW;obtain⟨⟨c0,c1⟩,⟨z0,z1⟩,hl0⟩:(_/\_)/\(_/\_)/\_:=⟨⟨RB4.out.cell 0,RB4.out.cell 1⟩,⟨RB4.out.frozen 0,RB4.out.frozen 1⟩,RB4.out.lt⟩
 simp at c0 c1;go_wp2_with fail
 have rb:=(RB4.out.set_ 0 (.slice (some ⟨gD,0,none⟩) n n)).set_ 1 (.slice (some ⟨gS,0,none⟩) cls cls);simp only [List.setIfInBounds_toArray,List.set_cons_zero,List.set_cons_succ] at rb;obtain⟨k1,k2,k3⟩:=HH.out;have BS:=HS4.out;exact bodyPost_ret (v:=.tuple #[.agg #[.slice (some ⟨gD,0,none⟩) n n,.slice (some ⟨gS,0,none⟩) cls cls],.int .i64 0]) (by simp [results,Tryz.results179,go_sem,rb.cell]) rfl (dU.lay ⟨s,HM.out,HO.out.1,HO.out.2,rfl,rfl⟩ HD.out HSN.out (X:=(w.heap.size+1)) (by omega) ⟨by omega,by omega,fun c g hg=>by have:=k3 c g hg;omega⟩ BW4.out)
theorem a0e(cap:Int)(cls:Nat)(A:Option Addr)(n c:Nat)(ps:List PK)(ticks:Nat)(w:World)(hT:bN w A n c ps)(hv:aM ps)(hfl:∀x∈ps,x.fl<cls)(hc1:1<=cap)(hc2:cap<=4000)(hl1:1<=cls)(hl2:cls<=6)(ht:ticks<=2000) :
 Calls Tryz.prog 29 #[.int .i64 cap,.int .i64 cls,.slice A n c,.int .i64 ticks] w (dU n cls ticks (dN cap cls ps ticks (jX ps) ()) w):=by
 have hn:n<=60:=by have:=hv.len;have:=hT.1;omega
 have RB:=aA (aC.new w 62 #[.slice none 0 0,.slice none 0 0]);have BW:=aA (aF w (.cells #[.slice none 0 0,.slice none 0 0] 62));have HS:=aA (show w.heap.size+1=(w.alloc (.cells #[.slice none 0 0,.slice none 0 0] 62)).heap.size by simp [World.size_alloc]);have HT:=aA (hT.below BW.out);have HV:=aA hv;have HF:=aA hfl;clear hT hv hfl;go_enter Tryz.func29,Tryz.ntmps29
 go_upto_region 1 with fail
 generalize hwe:w.alloc (.cells #[.slice none 0 0,.slice none 0 0] 62)=w1 at *;clear hwe;go_wp2_with fail
 refine(kV A n c ps w1 HT.out HV.out).mono ?_;rintro e w2 ⟨rfl,hb⟩;replace HT:=aA (HT.out.below hb);replace RB:=aA (RB.out.below hb RB.out.lt);replace HS:=aA (show w.heap.size+1<=w2.heap.size by have:=hb.size;have:=HS.out;omega);replace BW:=aA (aD BW.out hb);clear hb;go_wp2_with fail
 refine(oU A n c cap cls ticks ps w2 HT.out hc1 hc2 (by omega) (by omega) (by omega) (by omega) HF.out hn).mono ?_;rintro e w3 ⟨rfl,hb⟩;replace HT:=aA (HT.out.below hb);replace RB:=aA (RB.out.below hb RB.out.lt);have HS4:=aA (show w.heap.size+1<=w3.heap.size by have:=hb.size;have:=HS.out;omega);replace BW:=aA (aD BW.out hb);clear hb HS;go_wp2_with fail
 refine(oV cap cls A n c ps ticks 86 #[] #[] (jX ps) () (fun _ _=>True) (fun _=>False) w3 HT.out HV.out HF.out hc1 hc2 hl1 hl2 ht
  (aA (fun _ w w' X h k hx=>trivial)) (aA (fun k hk=>hk.elim)) (aA (fun g o h0 e h=>h)) (aA trivial)
  (aA (fun gs bef Bg s w1 hm hon hnw hlf hse hhr hkx hgs=>(qI gs n c bef s.t s.left A Bg ps s.begun w1 hse HV.out).mono (fun e w2 h=>by
   obtain⟨rfl,hse2,hk⟩:=h;refine⟨_,(),rfl,?_,rfl,⟨_,hse2⟩,trivial,hk.mono (fun _ _ h=>.inl h)⟩
   unfold cX;cases h:ps[dJ s.begun]? with
   | none=>exact .inl rfl
   | some x=>
     simp only
     split
     ·exact .inr ⟨_,rfl,by have:=(List.getElem?_eq_some_iff.1 h).1;have:=HT.out.1;omega⟩
     ·exact .inl rfl))) (fun x w=>by kernel_rfl)).mono ?_
 rintro e w4 ⟨s,gD,gS,gcs,hm,hon,htt,rfl,hd,hsn,h1,h2,h3,hhr,hkx⟩;have RB4:=aA (RB.out.kx hkx (fun h=>h));have BW4:=aA (mW BW.out hkx (fun k hk=>hk.elim) (by have:=HS4.out;omega));have HM:=aA hm;have HD:=aA hd;have HSN:=aA hsn;have HH:=aA (And.intro h1 (And.intro h2 h3));have HO:=aA (And.intro hon htt);clear hm hd hsn h1 h2 h3 hhr hkx hon htt RB BW;obtain⟨⟨c0,c1⟩,⟨z0,z1⟩,hl0⟩:(_/\_)/\(_/\_)/\_:=⟨⟨RB4.out.cell 0,RB4.out.cell 1⟩,⟨RB4.out.frozen 0,RB4.out.frozen 1⟩,RB4.out.lt⟩
 simp at c0 c1;go_wp2_with fail
 have rb:=(RB4.out.set_ 0 (.slice (some ⟨gD,0,none⟩) n n)).set_ 1 (.slice (some ⟨gS,0,none⟩) cls cls);simp only [List.setIfInBounds_toArray,List.set_cons_zero,List.set_cons_succ] at rb;obtain⟨k1,k2,k3⟩:=HH.out;have BS:=HS4.out;exact bodyPost_ret (v:=.tuple #[.agg #[.slice (some ⟨gD,0,none⟩) n n,.slice (some ⟨gS,0,none⟩) cls cls],.int .i64 0]) (by simp [results,Tryz.results29,go_sem,rb.cell]) rfl (dU.lay ⟨s,HM.out,HO.out.1,HO.out.2,rfl,rfl⟩ HD.out HSN.out (X:=w.heap.size) (by omega) ⟨by omega,by omega,fun c g hg=>by have:=k3 c g hg;omega⟩ BW4.out)
def cN(c:Int):List PK->List Bool->Int
 | x :: ps,b :: bs=>(if b=true/\x.fl=c then x.sz else 0)+cN c ps bs
 | _,_=>0
def bE(c:Int):List PK->Nat->Int
 | [],_=>0
 | x :: ps,0=>if x.fl=c then x.sz else 0
 | x :: ps,i+1=>(if x.fl=c then x.sz else 0)+bE c ps i
theorem sA(c:Int):∀(ps:List PK) (n:Nat),cN c ps (List.replicate n false)=0
 | [],n=>by simp [cN]
 | x :: ps,0=>by simp [cN]
 | x :: ps,n+1=>by
   rw [List.replicate_succ,cN,sA c ps n];simp
theorem vL{c:Int}{x:PK}:∀{ps:List PK} {bs:List Bool} {i:Nat},ps[i]?=some x->bs[i]?=some false->cN c ps (bs.set i true)=cN c ps bs+if x.fl=c then x.sz else 0
 | [],_,_,h,_=>by simp at h
 | _ :: _,[],_,_,h=>by simp at h
 | y :: ps,b :: bs,0,h1,h2=>by
   simp at h1 h2;subst h1 h2;rw [List.set_cons_zero,cN,cN];simp
   omega
 | y :: ps,b :: bs,i+1,h1,h2=>by
   simp at h1 h2;rw [List.set_cons_succ,cN,cN,vL h1 h2];omega
theorem o9{c:Int}:∀{ps:List PK} {i:Nat},(∀x∈ps,0<=x.sz)->0<=bE c ps i
 | [],_,_=>by simp [bE]
 | x :: ps,0,h=>by
   have h2:=h x (List.mem_cons_self ..);unfold bE;split <;> omega
 | x :: ps,i+1,h=>by
   have h1:=o9 (c:=c) (i:=i) (fun y hy=>h y (List.mem_cons_of_mem _ hy));have h2:=h x (List.mem_cons_self ..);unfold bE;split <;> omega
def uY(c:Int)(ps:List PK)(bs:List Bool)(i:Nat):Prop:=∀(j:Nat) (y:PK),ps[j]?=some y->y.fl=c->(bs[j]?=some true↔j<=i)
theorem sB{c:Int}:∀{ps:List PK} {bs:List Bool},(∀(j:Nat) (y:PK),ps[j]?=some y->y.fl=c->bs[j]?≠some true)->cN c ps bs=0
 | [],_,_=>by simp [cN]
 | x :: ps,[],_=>by simp [cN]
 | x :: ps,b :: bs,h=>by
   rw [cN,sB (fun j y hy hc=>h (j+1) y (by simpa using hy) hc),if_neg]
   ·rfl
   ·rintro⟨rfl,h2⟩;exact h 0 x rfl h2 rfl
theorem vM{c:Int}:∀{ps:List PK} {bs:List Bool} {i:Nat},ps.length=bs.length->uY c ps bs i->cN c ps bs=bE c ps i
 | [],_,_,_,_=>by simp [cN,bE]
 | x :: ps,[],_,h,_=>by simp at h
 | x :: ps,b :: bs,0,h,k=>by
   have h0:=k 0 x rfl;rw [cN,bE,sB (fun j y hy hc e=>by have:=(k (j+1) y (by simpa using hy) hc).1 (by simpa using e);omega)];by_cases e:x.fl=c
   ·have:=(h0 e).2 (by omega)
    simp at this;rw [if_pos ⟨this,e⟩,if_pos e];omega
   ·rw [if_neg (fun h=>e h.2),if_neg e]
    rfl
 | x :: ps,b :: bs,i+1,h,k=>by
   have h0:=k 0 x rfl;rw [cN,bE,vM (i:=i) (by simpa using h) (fun j y hy hc=>by
    have:=k (j+1) y (by simpa using hy) hc
    rw [List.getElem?_cons_succ] at this;rw [this];omega)]
   by_cases e:x.fl=c
   ·have:=(h0 e).2 (by omega)
    simp at this;rw [if_pos ⟨this,e⟩,if_pos e]
   ·rw [if_neg (fun h=>e h.2),if_neg e]
theorem lQ{c:Int}:∀{ps:List PK} {i j:Nat} {y:PK},(∀x∈ps,1<=x.sz)->i<j->ps[j]?=some y->y.fl=c->bE c ps i<bE c ps j
 | [],_,_,_,_,_,h,_=>by simp at h
 | x :: ps,_,0,_,_,h,_,_=>by omega
 | x :: ps,0,j+1,y,hs,_,hy,hc=>by
   have hm:y∈ps:=List.mem_of_getElem? (by simpa using hy);have:0<bE c ps j:=by
    rcases j with _|j
    ·cases ps with
     | nil=>simp at hy
     | cons z ps=>
       simp at hy;subst hy;rw [bE,if_pos hc];have:=hs z (by simp)
       omega
    ·have h1:=lQ (c:=c) (ps:=ps) (i:=0) (j:=j+1) (y:=y) (fun x hx=>hs x (List.mem_cons_of_mem _ hx)) (by omega) (by simpa using hy) hc;have h2:=o9 (c:=c) (ps:=ps) (i:=0) (fun x hx=>by have:=hs x (List.mem_cons_of_mem _ hx);omega);omega
   rw [bE,bE];omega
 | x :: ps,i+1,j+1,y,hs,hij,hy,hc=>by
   have h1:=lQ (c:=c) (ps:=ps) (i:=i) (j:=j) (y:=y) (fun x hx=>hs x (List.mem_cons_of_mem _ hx)) (by omega) (by simpa using hy) hc;rw [bE,bE];omega
section
variable{σ:Type}
def RS.cur(s:RS σ):Nat:=s.t+(if s.on then 1 else 0)
def RS.row(s:RS σ)(c k:Nat):Int:=aB (s.sent.getD c []) k
def RS.opn(s:RS σ)(ps:List PK)(c:Nat):Int:=match s.now with
 | none=>0
 | some i=>match ps[i]? with
   | some x=>if x.fl=c then s.rest else 0
   | none=>0
def dY(ps:List PK)(Ch:RS σ->Int->σ->Prop):Prop:=∀s r sg,s.begun.length=ps.length->Ch s r sg->r = -1\/∃(i:Nat) (x:PK),r=i/\ps[i]?=some x/\s.begun[i]?=some false/\x.tm<=s.t/\∀(j:Nat) (y:PK),j<i->ps[j]?=some y->y.fl=x.fl->s.begun[j]?=some true
structure dM(cls:Nat)(ps:List PK)(s:RS σ):Prop where
 sum:∀c:Nat,c<cls->s.row c s.cur=cN c ps s.begun-s.opn ps c
 nw:∀i,s.now=some i->s.begun[i]?=some true/\∃x,ps[i]?=some x/\1<=s.rest/\s.rest<=x.sz/\∀(j:Nat) (y:PK),i<j->ps[j]?=some y->y.fl=x.fl->s.begun[j]?=some false
 ord:∀(i j:Nat) (x y:PK),i<j->ps[i]?=some x->ps[j]?=some y->x.fl=y.fl->s.begun[j]?=some true->s.begun[i]?=some true
 arr:∀(i:Nat) (x:PK),ps[i]?=some x->s.begun[i]?=some true->x.tm<=s.t
 dn:∀(i:Nat) (x:PK),ps[i]?=some x->(aB s.done i = -1/\(s.begun[i]?=some false\/s.now=some i))\/(0<=aB s.done i/\aB s.done i<s.cur/\s.begun[i]?=some true/\s.now≠some i)
 z:∀c,c<cls->s.row c 0=0
 mono:∀c k,c<cls->k<s.cur->s.row c k<=s.row c (k+1)
 fw:∀(i:Nat) (x:PK) (c:Nat),ps[i]?=some x->x.fl=c->0<=aB s.done i->bE c ps i<=s.row c ((aB s.done i).toNat+1)
 bw:∀(i:Nat) (x:PK) (c k:Nat),ps[i]?=some x->x.fl=c->k<=s.cur->bE c ps i<=s.row c k->0<=aB s.done i/\aB s.done i<k
variable{cap:Int}{cls:Nat}{ps:List PK}{ticks:Nat}{Ch:RS σ->Int->σ->Prop}{sg0:σ}{s:RS σ}
theorem qK{α:Type}{l:List α}{i:Nat}{x d:α}(h:l[i]?=some x):l.getD i d=x:=by simp [List.getD,h]
theorem a2r(ok:iO cap cls ps ticks s){c:Nat}(hc:c<cls):(s.sent.getD c []).length=s.cur+1:=by
 obtain⟨l,hl⟩:∃l,s.sent[c]?=some l:=⟨_,List.getElem?_eq_getElem (by rw [ok.ls];exact hc)⟩
 rw [qK hl,ok.lr c l hl];unfold RS.cur;omega
theorem nM(ok:iO cap cls ps ticks s)(hon:s.on=false){c:Nat}(hc:c<cls)(k:Nat):aB ((s.sent.map (fun l=>l ++ [aB l s.t])).getD c []) k=if k<=s.t then s.row c k else if k=s.t+1 then s.row c s.t else 0:=by
 obtain⟨l,hl⟩:∃l,s.sent[c]?=some l:=⟨_,List.getElem?_eq_getElem (by rw [ok.ls];exact hc)⟩
 have hll:l.length=s.t+1:=by have:=ok.lr c l hl;rw [hon] at this;simpa using this
 have e:(s.sent.map (fun l=>l ++ [aB l s.t])).getD c []=l ++ [aB l s.t]:=qK (by rw [List.getElem?_map,hl];rfl);unfold RS.row;rw [e,lP,qK hl,hll];by_cases h1:k<=s.t
 ·rw [if_pos h1,if_pos (by omega)]
 ·rw [if_neg h1,if_neg (by omega)]
theorem a2o{sent:List (List Int)}{c d k j:Nat}{n:Int}(hk:k<(sent.getD d []).length):aB ((cM sent d k n).getD c []) j=aB (sent.getD c []) j+if c=d/\j=k then n else 0:=by
 unfold cM;by_cases e:c=d
 ·subst e;by_cases hc:c<sent.length
  ·have:(sent.set c ((sent.getD c []).set k (aB (sent.getD c []) k+n))).getD c []=(sent.getD c []).set k (aB (sent.getD c []) k+n):=qK (List.getElem?_set_self hc)
   rw [this,tD];by_cases e2:j=k
   ·subst e2;rw [if_pos ⟨rfl,hk⟩,if_pos ⟨rfl,rfl⟩]
   ·rw [if_neg (fun h=>e2 h.1),if_neg (fun h=>e2 h.2),Int.add_zero]
  ·have:sent.getD c [] = []:=by simp [List.getD,List.getElem?_eq_none (show sent.length<=c by omega)]
   rw [this] at hk;simp at hk
 ·have:(sent.set d ((sent.getD d []).set k (aB (sent.getD d []) k+n))).getD c []=sent.getD c []:=by
   simp [List.getD,List.getElem?_set_ne (fun h=>e h.symm)]
  rw [this,if_neg (fun h=>e h.1),Int.add_zero]
theorem jO{bs:List Bool}{i j:Nat}:(bs.set i true)[j]?=some true↔bs[j]?=some true\/(j=i/\j<bs.length):=by
 by_cases e:i=j
 ·subst e;by_cases h:i<bs.length
  ·rw [List.getElem?_set_self h];simp [h]
  ·rw [List.set_eq_of_length_le (by omega)];simp [h]
 ·rw [List.getElem?_set_ne e];constructor
  ·exact .inl
  ·rintro (h|h)
   ·exact h
   ·exact absurd h.1.symm e
theorem vN(ok:iO cap cls ps ticks s){j:Nat}{y:PK}(hy:ps[j]?=some y):s.begun[j]?=some false\/s.begun[j]?=some true:=by
 have hj:=(List.getElem?_eq_some_iff.1 hy).1;obtain⟨b,hb⟩:∃b,s.begun[j]?=some b:=⟨_,List.getElem?_eq_getElem (by rw [ok.lb];exact hj)⟩
 cases b
 ·exact .inl hb
 ·exact .inr hb
theorem dM.start(h1:∀x∈ps,1<=x.sz):dM cls ps (⟨0,false,none,0,0,List.replicate ps.length false,List.replicate ps.length (-1),List.replicate cls [0],sg0⟩:RS σ):=by
 have hrow:∀c k,(⟨0,false,none,0,0,List.replicate ps.length false,List.replicate ps.length (-1),List.replicate cls [0],sg0⟩:RS σ).row c k=0:=fun c k=>by
  unfold RS.row;simp only [List.getD,List.getElem?_replicate];split
  ·cases k <;> simp [aB]
  ·simp [aB]
 have hb:∀(i:Nat) (x:PK),ps[i]?=some x->(List.replicate ps.length false)[i]?=some false:=fun i x hx=>by
  have:=(List.getElem?_eq_some_iff.1 hx).1
  simp [this]
 have hd:∀(i:Nat) (x:PK),ps[i]?=some x->aB (List.replicate ps.length (-1:Int)) i = -1:=fun i x hx=>by
  have:=(List.getElem?_eq_some_iff.1 hx).1
  simp [aB,List.getD,this]
 refine⟨fun c hc=>?_,fun i h=>(by cases h),fun i j x y _ _ hy _ hb2=>?_,fun i x hx hb2=>?_,fun i x hx=>?_,fun c _=>hrow c 0,fun c k _ hk=>?_,fun i x c hx hc h=>?_,fun i x c k hx hc _ h=>?_⟩
 ·rw [hrow];show(0:Int)=cN c ps (List.replicate ps.length false)-0
  rw [sA];rfl
 ·have:=hb j y hy
  simp only at hb2
  rw [this] at hb2;cases hb2
 ·have:=hb i x hx
  simp only at hb2
  rw [this] at hb2;cases hb2
 ·exact .inl ⟨hd i x hx,.inl (hb i x hx)⟩
 ·rw [hrow,hrow];omega
 ·have:=hd i x hx
  simp only at h
  omega
 ·rw [hrow] at h
  exfalso
  rcases i with _|i
  ·cases ps with
   | nil=>simp at hx
   | cons y ps=>
     simp at hx;subst hx;rw [bE,if_pos hc] at h;have:=h1 y (by simp)
     omega
  ·have h3:=lQ (c:=c) (i:=0) (j:=i+1) h1 (by omega) hx hc;have h4:=o9 (c:=c) (ps:=ps) (i:=0) (fun x hx=>by have:=h1 x hx;omega);omega
theorem dF(hv:aM ps){i:Nat}{x:PK}(hx:ps[i]?=some x):1<=x.sz/\0<=x.fl:=by
 have gx:=hv.good x (List.mem_of_getElem? hx);unfold PK.Good at gx;omega
theorem dM.tick(hv:aM ps)(ok:iO cap cls ps ticks s)(h:dM cls ps s)(hon:s.on=false):dM cls ps { s with on:=true,left:=cap,sent:=s.sent.map (fun l=>l ++ [aB l s.t]) }:=by
 have hcur:s.cur=s.t:=by unfold RS.cur;rw [hon];rfl
 have hr:∀{c:Nat},c<cls->∀k,({ s with on:=true,left:=cap,sent:=s.sent.map (fun l=>l ++ [aB l s.t]) }:RS σ).row c k=if k<=s.t then s.row c k else if k=s.t+1 then s.row c s.t else 0:=fun hc k=>nM ok hon hc k
 have hc2:({ s with on:=true,left:=cap,sent:=s.sent.map (fun l=>l ++ [aB l s.t]) }:RS σ).cur=s.t+1:=rfl;have hcl:∀{i:Nat} {x:PK} {c:Nat},x.fl=c->bE c ps i<=0->ps[i]?=some x->False:=fun {i x c} hc h0 hx=>by
  have h1:∀x∈ps,1<=x.sz:=fun x hx=>by obtain⟨j,hj⟩:=List.getElem?_of_mem hx;exact(dF hv hj).1
  rcases i with _|i
  ·cases ps with
   | nil=>simp at hx
   | cons y ps=>
     simp at hx;subst hx;rw [bE,if_pos hc] at h0;have:=h1 y (by simp)
     omega
  ·have h3:=lQ (c:=c) (i:=0) (j:=i+1) h1 (by omega) hx hc;have h4:=o9 (c:=c) (ps:=ps) (i:=0) (fun x hx=>by have:=h1 x hx;omega);omega
 have hout:∀{c:Nat},¬c<cls->∀k,({ s with on:=true,left:=cap,sent:=s.sent.map (fun l=>l ++ [aB l s.t]) }:RS σ).row c k=0:=fun {c} hc k=>by
  unfold RS.row;simp [List.getD,List.getElem?_eq_none (show s.sent.length<=c by rw [ok.ls];omega),aB]
 have hout2:∀{c:Nat},¬c<cls->∀k,s.row c k=0:=fun {c} hc k=>by
  unfold RS.row;simp [List.getD,List.getElem?_eq_none (show s.sent.length<=c by rw [ok.ls];omega),aB]
 refine⟨fun c hc=>?_,h.nw,h.ord,h.arr,fun i x hx=>?_,fun c hc=>?_,fun c k hc hk=>?_,fun i x c hx hc hd=>?_,fun i x c k hx hc hk hp=>?_⟩
 ·rw [hc2,hr hc,if_neg (by omega),if_pos rfl,<- hcur,h.sum c hc]
  rfl
 ·rcases h.dn i x hx with h1 | ⟨h1,h2,h3⟩
  ·exact .inl h1
  ·refine .inr ⟨h1,?_,h3⟩;rw [hc2];rw [hcur] at h2;show aB s.done i<_
   omega
 ·rw [hr hc,if_pos (by omega),h.z c hc]
 ·rw [hc2] at hk;rw [hr hc,if_pos (by omega),hr hc];by_cases e:k+1<=s.t
  ·rw [if_pos e];exact h.mono c k hc (by rw [hcur];omega)
  ·obtain rfl:k=s.t:=by omega
   rw [if_neg e,if_pos rfl];exact Int.le_refl _
 ·have hd':0<=aB s.done i:=hd;have h1:=h.fw i x c hx hc hd;have h2:aB s.done i<s.cur:=by
   rcases h.dn i x hx with ⟨h1,_⟩|⟨_,h2,_⟩
   ·have:0<=aB s.done i:=hd
    omega
   ·exact h2
  rw [hcur] at h2;by_cases hcc:c<cls
  ·rw [hr hcc,if_pos (show(aB s.done i).toNat+1<=s.t by omega)];exact h1
  ·rw [hout hcc];rw [hout2 hcc] at h1;exact h1
 ·rw [hc2] at hk;by_cases hcc:c<cls
  ·rw [hr hcc] at hp;by_cases e:k<=s.t
   ·rw [if_pos e] at hp;exact h.bw i x c k hx hc (by rw [hcur];exact e) hp
   ·rw [if_neg e,if_pos (by omega)] at hp;have:=h.bw i x c s.t hx hc (by rw [hcur];omega) hp
    exact⟨this.1,by show aB s.done i<_;omega⟩
  ·rw [hout hcc] at hp;exact(hcl hc hp hx).elim
theorem dM.close(h:dM cls ps s)(hon:s.on=true)(sg:σ):dM cls ps { s with on:=false,t:=s.t+1,sg:=sg }:=by
 have hcur:s.cur=s.t+1:=by unfold RS.cur;rw [hon];rfl
 have hc2:({ s with on:=false,t:=s.t+1,sg:=sg }:RS σ).cur=s.t+1:=rfl;refine⟨fun c hc=>?_,h.nw,h.ord,fun i x hx hb=>?_,fun i x hx=>?_,h.z,fun c k hc hk=>?_,h.fw,fun i x c k hx hc hk hp=>?_⟩
 ·have:=h.sum c hc
  rw [hcur] at this;exact this
 ·have:=h.arr i x hx hb
  show x.tm<=((s.t+1:Nat):Int)
  omega
 ·rcases h.dn i x hx with h1 | ⟨h1,h2,h3⟩
  ·exact .inl h1
  ·rw [hcur] at h2;exact .inr ⟨h1,h2,h3⟩
 ·exact h.mono c k hc (by rw [hcur];exact hk)
 ·exact h.bw i x c k hx hc (by rw [hcur];exact hk) hp
theorem dM.begin_(hv:aM ps)(ok:iO cap cls ps ticks s)(h:dM cls ps s)(hnw:s.now=none){i:Nat}{x:PK}(hx:ps[i]?=some x)(hb:s.begun[i]?=some false)(ht:x.tm<=s.t)(hf:∀(j:Nat) (y:PK),j<i->ps[j]?=some y->y.fl=x.fl->s.begun[j]?=some true)(sg:σ) :
 dM cls ps { s with now:=some i,rest:=x.sz,begun:=s.begun.set i true,sg:=sg }:=by
 have hil:i<s.begun.length:=(List.getElem?_eq_some_iff.1 hb).1;have hop:∀c,s.opn ps c=0:=fun c=>by unfold RS.opn;rw [hnw]
 have hop2:∀c:Nat,({ s with now:=some i,rest:=x.sz,begun:=s.begun.set i true,sg:=sg }:RS σ).opn ps c=if x.fl=c then x.sz else 0:=fun c=>by
  unfold RS.opn;simp only [hx]
 have hlater:∀(j:Nat) (y:PK),i<j->ps[j]?=some y->y.fl=x.fl->s.begun[j]?=some false:=fun j y hj hy hfl=>by
  rcases vN ok hy with h1|h1
  ·exact h1
  ·have:=h.ord i j x y hj hx hy hfl.symm h1
   rw [hb] at this;cases this
 refine⟨fun c hc=>?_,fun j hj=>?_,fun a b y z hab hy hz hfl hbb=>?_,fun j y hy hbb=>?_,fun j y hy=>?_,h.z,h.mono,h.fw,h.bw⟩
 ·rw [hop2];show s.row c s.cur=cN c ps (s.begun.set i true)-_
  rw [h.sum c hc,hop,vL hx hb];omega
 ·cases hj
  refine⟨jO.2 (.inr ⟨rfl,hil⟩),x,hx,(dF hv hx).1,Int.le_refl _,fun j y hj hy hfl=>?_⟩
  show(s.begun.set i true)[j]?=some false
  rw [List.getElem?_set_ne (by omega)];exact hlater j y hj hy hfl
 ·rcases jO.1 hbb with h1 | ⟨rfl,_⟩
  ·exact jO.2 (.inl (h.ord a b y z hab hy hz hfl h1))
  ·rw [hx] at hz;cases hz
   exact jO.2 (.inl (hf a y hab hy hfl))
 ·rcases jO.1 hbb with h1 | ⟨rfl,_⟩
  ·exact h.arr j y hy h1
  ·rw [hx] at hy;cases hy
   exact ht
 ·rcases h.dn j y hy with ⟨h1,h2|h2⟩|⟨h1,h2,h3,h4⟩
  ·by_cases e:j=i
   ·exact .inl ⟨h1,.inr (by rw [e])⟩
   ·refine .inl ⟨h1,.inl ?_⟩;show(s.begun.set i true)[j]?=some false
    rw [List.getElem?_set_ne (fun h=>e h.symm)];exact h2
  ·rw [hnw] at h2;cases h2
  ·refine .inr ⟨h1,h2,jO.2 (.inl h3),fun e=>?_⟩;cases e
   rw [hb] at h3;cases h3
theorem kD(ok:iO cap cls ps ticks s)(hon:s.on=true){F:Nat}(hF:F<cls)(n:Int)(c j:Nat):aB ((cM s.sent F (s.t+1) n).getD c []) j=s.row c j+if c=F/\j=s.t+1 then n else 0:=by
 refine a2o ?_;rw [a2r ok hF];unfold RS.cur;rw [hon];simp
theorem a0w(ok:iO cap cls ps ticks s)(h:dM cls ps s){i:Nat}{x:PK}(hn:s.now=some i)(hx:ps[i]?=some x):uY x.fl ps s.begun i:=by
 intro j y hy hfl;obtain⟨h1,x',hx',_,_,h2⟩:=h.nw i hn;rw [hx] at hx';cases hx'
 constructor
 ·intro hb;rcases Nat.lt_or_ge i j with hij|hij
  ·rw [h2 j y hij hy hfl] at hb;cases hb
  ·exact hij
 ·intro hji;by_cases e:j=i
  ·rw [e];exact h1
  ·exact h.ord j i y x (by omega) hy hx hfl h1
theorem yM(ok:iO cap cls ps ticks s)(h:dM cls ps s){i:Nat}{x:PK}{F:Nat}(hn:s.now=some i)(hx:ps[i]?=some x)(hfl:x.fl=F)(hF:F<cls):s.row F s.cur=bE F ps i-s.rest:=by
 have h1:=h.sum F hF;have h2:=a0w ok h hn hx;rw [hfl] at h2;rw [vM ok.lb.symm h2] at h1;rw [h1];unfold RS.opn;rw [hn];simp only [hx,hfl,if_true]
theorem dM.send(hv:aM ps)(ok:iO cap cls ps ticks s)(h:dM cls ps s)(hon:s.on=true){i:Nat}{x:PK}{F:Nat}(hn:s.now=some i)(hx:ps[i]?=some x)(hfl:x.fl=F)(hF:F<cls){n:Int}(h0:0<=n)(hlt:n<s.rest)(lf:Int) :
 dM cls ps { s with rest:=s.rest-n,left:=lf,sent:=cM s.sent F (s.t+1) n }:=by
 have hcur:s.cur=s.t+1:=by unfold RS.cur;rw [hon];rfl
 have hr:∀c k,({ s with rest:=s.rest-n,left:=lf,sent:=cM s.sent F (s.t+1) n }:RS σ).row c k=s.row c k+if c=F/\k=s.t+1 then n else 0:=fun c k=>kD ok hon hF n c k
 have hc2:({ s with rest:=s.rest-n,left:=lf,sent:=cM s.sent F (s.t+1) n }:RS σ).cur=s.t+1:=by unfold RS.cur;rw [<- hcur];rfl
 have hrn:=yM ok h hn hx hfl hF;have hsz:∀x∈ps,1<=x.sz:=fun x hx=>by obtain⟨j,hj⟩:=List.getElem?_of_mem hx;exact(dF hv hj).1
 refine⟨fun c hc=>?_,fun j hj=>?_,h.ord,h.arr,fun j y hy=>?_,fun c hc=>?_,fun c k hc hk=>?_,fun j y c hy hc hd=>?_,fun j y c k hy hc hk hp=>?_⟩
 ·rw [hc2,hr];have h1:=h.sum c hc;rw [hcur] at h1;rw [h1];unfold RS.opn;simp only [hn,hx,hfl];by_cases e:(F:Int)=c
  ·have e2:F=c:=by omega
   rw [if_pos e,if_pos e,if_pos ⟨e2.symm,trivial⟩];show _=cN c ps s.begun-(s.rest-n)
   omega
  ·rw [if_neg e,if_neg e,if_neg (fun h=>e (by rw [h.1]))];omega
 ·have e:s.now=some j:=hj;obtain⟨h1,y,hy,h2,h3,h4⟩:=h.nw j e;exact⟨h1,y,hy,by show 1<=s.rest-n;omega,by show s.rest-n<=y.sz;omega,h4⟩
 ·rcases h.dn j y hy with h1 | ⟨h1,h2,h3⟩
  ·exact .inl h1
  ·exact .inr ⟨h1,by rw [hc2];rw [hcur] at h2;exact h2,h3⟩
 ·rw [hr,if_neg (fun h=>by omega),h.z c hc];rfl
 ·rw [hc2] at hk;rw [hr,hr,if_neg (fun h=>by omega)];have:=h.mono c k hc (by rw [hcur];exact hk)
  split <;> omega
 ·rw [hr];have:=h.fw j y c hy hc hd
  show _<=s.row c ((aB s.done j).toNat+1)+_
  split <;> omega
 ·rw [hc2] at hk;rw [hr] at hp;show 0<=aB s.done j/\aB s.done j<k
  by_cases e:c=F/\k=s.t+1
  ·rw [if_pos e] at hp;obtain⟨rfl,rfl⟩:=e;rw [<- hcur] at hp;have hji:j<i:=by
    rcases Nat.lt_trichotomy j i with g|g|g
    ·exact g
    ·subst g;omega
    ·have:=lQ (c:=c) hsz g hy hc
     omega
   have hb:=h.ord j i y x hji hy hx (by rw [hc,hfl]) (h.nw i hn).1;rcases h.dn j y hy with ⟨_,h1|h1⟩|⟨h1,h2,_⟩
   ·rw [hb] at h1;cases h1
   ·rw [hn] at h1;cases h1;omega
   ·rw [hcur] at h2;exact⟨h1,h2⟩
  ·rw [if_neg e,Int.add_zero] at hp;exact h.bw j y c k hy hc (by rw [hcur];exact hk) hp
theorem dM.fin(hv:aM ps)(ok:iO cap cls ps ticks s)(h:dM cls ps s)(hon:s.on=true){i:Nat}{x:PK}{F:Nat}(hn:s.now=some i)(hx:ps[i]?=some x)(hfl:x.fl=F)(hF:F<cls)(lf:Int) :
 dM cls ps { s with now:=none,rest:=0,left:=lf,sent:=cM s.sent F (s.t+1) s.rest,done:=s.done.set i s.t }:=by
 have hcur:s.cur=s.t+1:=by unfold RS.cur;rw [hon];rfl
 have hr:∀c k,({ s with now:=none,rest:=0,left:=lf,sent:=cM s.sent F (s.t+1) s.rest,done:=s.done.set i s.t }:RS σ).row c k=s.row c k+if c=F/\k=s.t+1 then s.rest else 0:=fun c k=>kD ok hon hF s.rest c k
 have hc2:({ s with now:=none,rest:=0,left:=lf,sent:=cM s.sent F (s.t+1) s.rest,done:=s.done.set i s.t }:RS σ).cur=s.t+1:=by unfold RS.cur;rw [<- hcur];rfl
 have hrn:=yM ok h hn hx hfl hF;have hsz:∀x∈ps,1<=x.sz:=fun x hx=>by obtain⟨j,hj⟩:=List.getElem?_of_mem hx;exact(dF hv hj).1
 have hnwr:=h.nw i hn;have hrest:1<=s.rest:=by obtain⟨_,_,_,h1,_⟩:=hnwr;exact h1
 have hil:i<s.done.length:=by rw [ok.ld];exact(List.getElem?_eq_some_iff.1 hx).1
 have hset:∀j,aB (s.done.set i (s.t:Int)) j=if j=i then (s.t:Int) else aB s.done j:=fun j=>eQ _ _ _ _ hil
 refine⟨fun c hc=>?_,fun j hj=>(by cases hj),h.ord,h.arr,fun j y hy=>?_,fun c hc=>?_,fun c k hc hk=>?_,fun j y c hy hc hd=>?_,fun j y c k hy hc hk hp=>?_⟩
 ·rw [hc2,hr];have h1:=h.sum c hc;rw [hcur] at h1;rw [h1];unfold RS.opn;simp only [hn,hx,hfl];by_cases e:(F:Int)=c
  ·have e2:F=c:=by omega
   rw [if_pos e,if_pos ⟨e2.symm,trivial⟩];omega
  ·rw [if_neg e,if_neg (fun h=>e (by rw [h.1]))];omega
 ·show(aB (s.done.set i (s.t:Int)) j = -1/\(s.begun[j]?=some false\/(none:Option Nat)=some j))\/(0<=aB (s.done.set i (s.t:Int)) j/\aB (s.done.set i (s.t:Int)) j<_/\s.begun[j]?=some true/\(none:Option Nat)≠some j)
  rw [hset,hc2];by_cases e:j=i
  ·subst e;rw [if_pos rfl];exact .inr ⟨by omega,by omega,hnwr.1,fun h=>(by cases h)⟩
  ·rw [if_neg e];rcases h.dn j y hy with ⟨h1,h2|h2⟩|⟨h1,h2,h3,_⟩
   ·exact .inl ⟨h1,.inl h2⟩
   ·rw [hn] at h2;cases h2;exact absurd rfl e
   ·rw [hcur] at h2;exact .inr ⟨h1,h2,h3,fun h=>(by cases h)⟩
 ·rw [hr,if_neg (fun h=>by omega),h.z c hc];rfl
 ·rw [hc2] at hk;rw [hr,hr,if_neg (fun h=>by omega)];have:=h.mono c k hc (by rw [hcur];exact hk)
  split <;> omega
 ·show bE c ps j<=_
  rw [hr];show _<=s.row c ((aB (s.done.set i (s.t:Int)) j).toNat+1)+if c=F/\(aB (s.done.set i (s.t:Int)) j).toNat+1=s.t+1 then s.rest else 0
  have hd':0<=aB (s.done.set i (s.t:Int)) j:=hd;rw [hset] at hd' ⊢;by_cases e:j=i
  ·subst e;rw [hx] at hy;cases hy
   have e2:c=F:=by omega
   subst e2;rw [if_pos rfl,Int.toNat_natCast,if_pos ⟨rfl,rfl⟩];rw [hcur] at hrn;omega
  ·rw [if_neg e] at hd' ⊢;have:=h.fw j y c hy hc hd'
   split <;> omega
 ·rw [hc2] at hk;rw [hr] at hp;show 0<=aB (s.done.set i (s.t:Int)) j/\aB (s.done.set i (s.t:Int)) j<k
  rw [hset];by_cases e:c=F/\k=s.t+1
  ·rw [if_pos e] at hp;obtain⟨rfl,rfl⟩:=e;rw [<- hcur] at hp;by_cases e:j=i
   ·rw [if_pos e];omega
   ·rw [if_neg e];have hji:j<i:=by
     rcases Nat.lt_trichotomy j i with g|g|g
     ·exact g
     ·exact absurd g e
     ·have:=lQ (c:=c) hsz g hy hc
      omega
    have hb:=h.ord j i y x hji hy hx (by rw [hc,hfl]) hnwr.1;rcases h.dn j y hy with ⟨_,h1|h1⟩|⟨h1,h2,_⟩
    ·rw [hb] at h1;cases h1
    ·rw [hn] at h1;cases h1;exact absurd rfl e
    ·rw [hcur] at h2;exact⟨h1,h2⟩
  ·rw [if_neg e,Int.add_zero] at hp;have h1:=h.bw j y c k hy hc (by rw [hcur];exact hk) hp;by_cases e:j=i
   ·subst e;rcases h.dn j y hy with ⟨h2,_⟩|⟨_,_,_,h2⟩
    ·omega
    ·exact absurd hn h2
   ·rw [if_neg e];exact h1
theorem aQ.inv(hv:aM ps)(hfl:∀x∈ps,x.fl<cls)(hc:1<=cap)(hg:dY ps Ch)(h:aQ cap cls ps ticks Ch sg0 s):dM cls ps s:=by
 induction h with
 | start=>exact dM.start (fun x hx=>by obtain⟨j,hj⟩:=List.getElem?_of_mem hx;exact(dF hv hj).1)
 | tick s h hon ht ih=>exact ih.tick hv (h.ok hv hc) hon
 | close s h hon hl ih=>exact ih.close hon s.sg
 | idle s sg h hon hl hn hch ih=>exact ih.close hon sg
 | begin_ s sg i x h hon hl hn hch hx ih=>
   rcases hg s i sg (h.ok hv hc).lb hch with h1 | ⟨i',x',h1,h2,h3,h4,h5⟩
   ·omega
   ·have:i'=i:=by omega
    subst this;rw [hx] at h2;cases h2
    exact ih.begin_ hv (h.ok hv hc) hn hx h3 h4 h5 sg
 | send s i x h hon hl hn hx hlt ih=>
   have gx:=(dF hv hx).2;have gf:=hfl x (List.mem_of_getElem? hx);have:=ih.send hv (h.ok hv hc) hon hn hx (F:=x.fl.toNat) (by omega) (by omega) (n:=s.left) (by omega) hlt 0
   exact this
 | fin s i x h hon hl hn hx hlt ih=>
   have gx:=(dF hv hx).2;have gf:=hfl x (List.mem_of_getElem? hx);exact ih.fin hv (h.ok hv hc) hon hn hx (F:=x.fl.toNat) (by omega) (by omega) (s.left-s.rest)
end
def gJ:Nat->(Nat->Int)->Int
 | 0,_=>0
 | n+1,f=>gJ n f+f n
theorem kE{f g:Nat->Int}:∀{n:Nat},(∀c,c<n->f c=g c)->gJ n f=gJ n g
 | 0,_=>rfl
 | n+1,h=>by rw [gJ,gJ,kE (fun c hc=>h c (by omega)),h n (by omega)]
theorem zL{f:Nat->Int}{F:Nat}{x:Int}:∀{n:Nat},F<n->gJ n (fun c=>f c+if c=F then x else 0)=gJ n f+x
 | 0,h=>by omega
 | n+1,h=>by
   rw [gJ,gJ];by_cases e:F=n
   ·subst e;rw [kE (g:=f) (fun c hc=>by rw [if_neg (by omega)];omega),if_pos rfl];omega
   ·rw [zL (by omega),if_neg (fun h=>e h.symm)];omega
section
variable{σ:Type}{cap:Int}{cls:Nat}{ps:List PK}{ticks:Nat}{Ch:RS σ->Int->σ->Prop}{sg0:σ}{s:RS σ}
def RS.tot(s:RS σ)(cls k:Nat):Int:=gJ cls (fun c=>s.row c k)
theorem rL(ok:iO cap cls ps ticks s)(hon:s.on=true){F:Nat}(hF:F<cls)(n:Int)(s':RS σ)(hs:s'.sent=cM s.sent F (s.t+1) n)(j:Nat):s'.tot cls j=s.tot cls j+if j=s.t+1 then n else 0:=by
 have hr:∀c,s'.row c j=s.row c j+if c=F/\j=s.t+1 then n else 0:=fun c=>by
  show aB (s'.sent.getD c []) j=_
  rw [hs];exact kD ok hon hF n c j
 unfold RS.tot;by_cases e:j=s.t+1
 ·rw [if_pos e,<- zL hF];refine kE fun c _=>?_
  rw [hr];by_cases e2:c=F
  ·rw [if_pos ⟨e2,e⟩,if_pos e2]
  ·rw [if_neg (fun h=>e2 h.1),if_neg e2]
 ·rw [if_neg e,Int.add_zero];refine kE fun c _=>?_
  rw [hr,if_neg (fun h=>e h.2),Int.add_zero]
theorem aQ.used(hv:aM ps)(hfl:∀x∈ps,x.fl<cls)(hc:1<=cap)(h:aQ cap cls ps ticks Ch sg0 s):s.on=true->s.tot cls (s.t+1)=s.tot cls s.t+(cap-s.left):=by
 induction h with
 | start=>intro h;cases h
 | tick s h hon ht ih=>
   intro _;have hr:∀{c:Nat},c<cls->∀k,({ s with on:=true,left:=cap,sent:=s.sent.map (fun l=>l ++ [aB l s.t]) }:RS σ).row c k=if k<=s.t then s.row c k else if k=s.t+1 then s.row c s.t else 0:=fun hc k=>nM (h.ok hv ‹1<=cap›) hon hc k
   have a1:=kE (n:=cls) (f:=fun c=>({ s with on:=true,left:=cap,sent:=s.sent.map (fun l=>l ++ [aB l s.t]) }:RS σ).row c (s.t+1)) (g:=fun c=>s.row c s.t) (fun c hc=>by rw [hr hc,if_neg (by simp),if_pos rfl]);have a2:=kE (n:=cls) (f:=fun c=>({ s with on:=true,left:=cap,sent:=s.sent.map (fun l=>l ++ [aB l s.t]) }:RS σ).row c s.t) (g:=fun c=>s.row c s.t) (fun c hc=>by rw [hr hc,if_pos (Nat.le_refl _)]);show gJ cls _=gJ cls _+(cap-cap)
   rw [a1,a2];omega
 | close s h hon hl ih=>intro h;cases h
 | idle s sg h hon hl hn hch ih=>intro h;cases h
 | begin_ s sg i x h hon hl hn hch hx ih=>exact ih
 | send s i x h hon hl hn hx hlt ih=>
   intro _;have h1:=ih hon;have gx:=(dF hv hx).2;have gf:=hfl x (List.mem_of_getElem? hx);have hF:x.fl.toNat<cls:=by omega
   have a1:=rL (h.ok hv hc) hon hF s.left { s with rest:=s.rest-s.left,left:=0,sent:=cM s.sent x.fl.toNat (s.t+1) s.left } rfl (s.t+1);have a2:=rL (h.ok hv hc) hon hF s.left { s with rest:=s.rest-s.left,left:=0,sent:=cM s.sent x.fl.toNat (s.t+1) s.left } rfl s.t;rw [a1,a2];show s.tot cls (s.t+1)+(if s.t+1=s.t+1 then s.left else 0)=s.tot cls s.t+(if s.t=s.t+1 then s.left else 0)+(cap-0)
   rw [if_pos rfl,if_neg (by omega)];omega
 | fin s i x h hon hl hn hx hlt ih=>
   intro _;have h1:=ih hon;have gx:=(dF hv hx).2;have gf:=hfl x (List.mem_of_getElem? hx);have hF:x.fl.toNat<cls:=by omega
   have a1:=rL (h.ok hv hc) hon hF s.rest { s with now:=none,rest:=0,left:=s.left-s.rest,sent:=cM s.sent x.fl.toNat (s.t+1) s.rest,done:=s.done.set i s.t } rfl (s.t+1);have a2:=rL (h.ok hv hc) hon hF s.rest { s with now:=none,rest:=0,left:=s.left-s.rest,sent:=cM s.sent x.fl.toNat (s.t+1) s.rest,done:=s.done.set i s.t } rfl s.t;rw [a1,a2];show s.tot cls (s.t+1)+(if s.t+1=s.t+1 then s.rest else 0)=s.tot cls s.t+(if s.t=s.t+1 then s.rest else 0)+(cap-(s.left-s.rest))
   rw [if_pos rfl,if_neg (by omega)];omega
theorem aQ.ends(hv:aM ps)(hfl:∀x∈ps,x.fl<cls)(hc:1<=cap)(h:aQ cap cls ps ticks Ch sg0 s)(k:Nat)(hk:k<s.t) :
 ∃s0,aQ cap cls ps ticks Ch sg0 s0/\s0.on=true/\s0.t=k/\(∀c j,c<cls->j<=k+1->s.row c j=s0.row c j)/\(s0.left<=0\/(0<s0.left/\s0.now=none/\∃sg,Ch s0 (-1) sg)):=by
 induction h with
 | start=>exact absurd hk (by simp)
 | tick s h hon ht ih=>
   obtain⟨s0,h1,h2,h3,h4,h5⟩:=ih hk;refine⟨s0,h1,h2,h3,fun c j hcc hj=>?_,h5⟩
   have:k<s.t:=hk
   have e:=nM (h.ok hv hc) hon hcc j;rw [if_pos (by omega),h4 c j hcc hj] at e;exact e
 | close s h hon hl ih=>
   by_cases e:k<s.t
   ·exact ih e
   ·have:k=s.t:=by have:k<s.t+1:=hk;omega
    exact⟨s,h,hon,this.symm,fun c j _ _=>rfl,.inl hl⟩
 | idle s sg h hon hl hn hch ih=>
   by_cases e:k<s.t
   ·exact ih e
   ·have:k=s.t:=by have:k<s.t+1:=hk;omega
    exact⟨s,h,hon,this.symm,fun c j _ _=>rfl,.inr ⟨hl,hn,sg,hch⟩⟩
 | begin_ s sg i x h hon hl hn hch hx ih=>exact ih hk
 | send s i x h hon hl hn hx hlt ih=>
   obtain⟨s0,h1,h2,h3,h4,h5⟩:=ih hk;refine⟨s0,h1,h2,h3,fun c j hcc hj=>?_,h5⟩
   have:k<s.t:=hk
   have gx:=(dF hv hx).2;have gf:=hfl x (List.mem_of_getElem? hx);have e:=kD (h.ok hv hc) hon (F:=x.fl.toNat) (by omega) s.left c j;rw [if_neg (fun h=>by omega),Int.add_zero,h4 c j hcc hj] at e;exact e
 | fin s i x h hon hl hn hx hlt ih=>
   obtain⟨s0,h1,h2,h3,h4,h5⟩:=ih hk;refine⟨s0,h1,h2,h3,fun c j hcc hj=>?_,h5⟩
   have:k<s.t:=hk
   have gx:=(dF hv hx).2;have gf:=hfl x (List.mem_of_getElem? hx);have e:=kD (h.ok hv hc) hon (F:=x.fl.toNat) (by omega) s.rest c j;rw [if_neg (fun h=>by omega),Int.add_zero,h4 c j hcc hj] at e;exact e
theorem aQ.tot_step(hv:aM ps)(hfl:∀x∈ps,x.fl<cls)(hc:1<=cap)(h:aQ cap cls ps ticks Ch sg0 s)(k:Nat)(hk:k<s.t):s.tot cls k<=s.tot cls (k+1)/\s.tot cls (k+1)<=s.tot cls k+cap:=by
 obtain⟨s0,h1,h2,h3,h4,_⟩:=h.ends hv hfl hc k hk;have e:=h1.used hv hfl hc h2;have ok:=(h1.ok hv hc).lf h2;have e1:s.tot cls k=s0.tot cls k:=kE fun c hcc=>h4 c k hcc (by omega)
 have e2:s.tot cls (k+1)=s0.tot cls (k+1):=kE fun c hcc=>h4 c (k+1) hcc (by omega)
 rw [h3] at e;omega
theorem pU{c:Int}{t:Int}(h0:0<=c):∀{ps:List PK} {bs:List Bool},ps.length=bs.length->(∀x∈ps,0<=x.sz)->(∀(i:Nat) (x:PK),ps[i]?=some x->x.fl=c->x.tm<t->bs[i]?=some true)->aV c ps t<=cN c ps bs
 | [],bs,_,_,_=>by simp [aV,aX,eY,cN]
 | x :: ps,[],h,_,_=>by simp at h
 | x :: ps,b :: bs,hl,hs,h=>by
   have ih:=pU (t:=t) h0 (ps:=ps) (bs:=bs) (by simpa using hl) (fun y hy=>hs y (List.mem_cons_of_mem _ hy)) (fun i y hy=>h (i+1) y (by simpa using hy));have hx:=hs x (List.mem_cons_self ..);have h1:=h 0 x rfl;have e:aV c (x :: ps) t=(if x.fl=c/\x.tm<t then x.sz else 0)+aV c ps t:=by
    unfold aV aX eY;rw [List.filter_cons];by_cases e1:x.fl=c
    ·have:x.own c=true:=by unfold PK.own;simp [e1];omega
     rw [if_pos this,List.map_cons,List.sum_cons];by_cases e2:x.tm<t
     ·rw [if_pos e2,if_pos ⟨e1,e2⟩]
     ·rw [if_neg e2,if_neg (fun h=>e2 h.2)]
    ·have:¬x.own c=true:=by unfold PK.own;simp [e1];omega
     rw [if_neg this,if_neg (fun h=>e1 h.1)];omega
   rw [e,cN];by_cases e1:x.fl=c/\x.tm<t
   ·have:=h1 e1.1 e1.2
    simp at this;rw [if_pos e1,if_pos ⟨this,e1.1⟩];omega
   ·rw [if_neg e1];split <;> omega
end
theorem jN{c:Int}(h0:0<=c)(x:PK)(ps:List PK)(t:Int):aV c (x :: ps) t=(if x.fl=c/\x.tm<t then x.sz else 0)+aV c ps t:=by
 unfold aV aX eY;rw [List.filter_cons];by_cases e1:x.fl=c
 ·have:x.own c=true:=by unfold PK.own;simp [e1];omega
  rw [if_pos this,List.map_cons,List.sum_cons];by_cases e2:x.tm<t
  ·rw [if_pos e2,if_pos ⟨e1,e2⟩]
  ·rw [if_neg e2,if_neg (fun h=>e2 h.2)]
 ·have:¬x.own c=true:=by unfold PK.own;simp [e1];omega
  rw [if_neg this,if_neg (fun h=>e1 h.1)];omega
theorem l5{c:Int}(h0:0<=c)(t:Int):∀{ps:List PK},(∀x∈ps,0<=x.sz)->0<=aV c ps t
 | [],_=>by simp [aV,aX,eY]
 | x :: ps,h=>by
   have ih:=l5 h0 t (ps:=ps) (fun y hy=>h y (List.mem_cons_of_mem _ hy));have hx:=h x (List.mem_cons_self ..);rw [jN h0];split <;> omega
theorem oG{c t u:Int}(h0:0<=c)(h:t<=u):∀{ps:List PK},(∀x∈ps,0<=x.sz)->aV c ps t<=aV c ps u
 | [],_=>by simp [aV,aX,eY]
 | x :: ps,hs=>by
   have ih:=oG h0 h (ps:=ps) (fun y hy=>hs y (List.mem_cons_of_mem _ hy));have hx:=hs x (List.mem_cons_self ..);rw [jN h0,jN h0];split <;> split <;> omega
theorem qZ{c:Int}{t:Int}(h0:0<=c):∀{ps:List PK} {i:Nat},(∀x∈ps,0<=x.sz)->(∀(j:Nat) (y:PK),j<=i->ps[j]?=some y->y.tm<t)->bE c ps i<=aV c ps t
 | [],_,_,_=>by simp [aV,aX,eY,bE]
 | x :: ps,0,hs,h=>by
   have h1:=h 0 x (Nat.le_refl _) rfl;have h2:=l5 h0 t (ps:=ps) (fun y hy=>hs y (List.mem_cons_of_mem _ hy));rw [jN h0,bE];by_cases e:x.fl=c
   ·rw [if_pos e,if_pos ⟨e,h1⟩];omega
   ·rw [if_neg e,if_neg (fun h=>e h.1)];omega
 | x :: ps,i+1,hs,h=>by
   have ih:=qZ h0 (ps:=ps) (i:=i) (t:=t) (fun y hy=>hs y (List.mem_cons_of_mem _ hy)) (fun j y hj hy=>h (j+1) y (by omega) (by simpa using hy));have h1:=h 0 x (by omega) rfl;rw [jN h0,bE];by_cases e:x.fl=c
   ·rw [if_pos e,if_pos ⟨e,h1⟩];omega
   ·rw [if_neg e,if_neg (fun h=>e h.1)];omega
def i8(β:Nat->Int)(c:Int)(ps:List PK)(R:Nat->Int)(N:Nat):Prop:=∀k,k<=N->∃s,s<=k/\aV c ps s+β (k-s)<=R k
section
variable{σ:Type}{cap:Int}{cls:Nat}{ps:List PK}{ticks:Nat}{Ch:RS σ->Int->σ->Prop}{sg0:σ}{s:RS σ}
theorem a3o(hv:aM ps)(h:dM cls ps s){β α:Nat->Int}{c d N:Nat}(hN:N<=s.cur)(hs:i8 β c ps (s.row c) N)
 (ha:∀a b:Nat,a<=b->aV c ps b-aV c ps a<=α (b-a)) (hd:∀u,1<=u->α u<=β (u+d)) (hb:∀n,0<=β n) {i:Nat} {x:PK} (hx:ps[i]?=some x) (hfl:x.fl=c) {a:Nat} (hxa:x.tm=a) (hk:a+d<N) :
 0<=aB s.done i/\aB s.done i<=a+d:=by
 have hz:∀x∈ps,0<=x.sz:=fun x hx=>by obtain⟨j,hj⟩:=List.getElem?_of_mem hx;have:=dF hv hj;omega
 have hp:bE c ps i<=aV c ps ((a+1:Nat):Int):=qZ (by omega) hz (fun j y hj hy=>by have:=hv.sorted j i y x hj hy hx;omega);obtain⟨t,ht,h1⟩:=hs (a+d+1) (by omega);have hr:bE c ps i<=s.row c (a+d+1):=by
  rcases Nat.lt_or_ge a t with g|g
  ·have h2:=oG (c:=c) (t:=((a+1:Nat):Int)) (u:=(t:Int)) (by omega) (by omega) hz;have h3:=hb (a+d+1-t);omega
  ·have h2:=ha t (a+1) (by omega);have h3:=hd (a+1-t) (by omega);rw [show a+1-t+d=a+d+1-t by omega] at h3;omega
 have:=h.bw i x c (a+d+1) hx hfl (by omega) hr
 omega
theorem sW{A R:Nat->Int}(h0:A 0<=R 0):∀k,∃t,t<=k/\A t<=R t/\∀j,t<j->j<=k->R j<A j
 | 0=>⟨0,Nat.le_refl _,h0,fun j h1 h2=>by omega⟩
 | k+1=>by
   rcases Int.lt_or_le (R (k+1)) (A (k+1)) with g|g
   ·obtain⟨t,h1,h2,h3⟩:=sW h0 k;refine⟨t,by omega,h2,fun j ha hb=>?_⟩
    rcases Nat.lt_or_ge k j with e|e
    ·rw [show j=k+1 by omega];exact g
    ·exact h3 j ha e
   ·exact⟨k+1,Nat.le_refl _,g,fun j h1 h2=>by omega⟩
def jI(c:Int)(ps:List PK)(Ch:RS σ->Int->σ->Prop):Prop:=∀s sg,s.begun.length=ps.length->Ch s (-1) sg->∀(i:Nat) (x:PK),ps[i]?=some x->x.fl=c->x.tm<=s.t->s.begun[i]?=some true
theorem uF(hv:aM ps)(hfl:∀x∈ps,x.fl<cls)(hc:1<=cap)(hg:dY ps Ch){c:Nat}(hcc:c<cls)(hw:jI c ps Ch)(h:aQ cap cls ps ticks Ch sg0 s)(k:Nat)(hk:k<s.t)(hb:s.row c (k+1)<aV c ps ((k+1:Nat):Int)) :
 s.tot cls (k+1)=s.tot cls k+cap:=by
 obtain⟨s0,m0,on0,t0,r0,h0⟩:=h.ends hv hfl hc k hk;have up:=(h.tot_step hv hfl hc k hk).2;rcases h0 with h0 | ⟨_,hn,sg,hch⟩
 ·have u:=m0.used hv hfl hc on0;rw [t0] at u;have e1:s.tot cls (k+1)=s0.tot cls (k+1):=kE (fun c hc=>r0 c _ hc (Nat.le_refl _));have e2:s.tot cls k=s0.tot cls k:=kE (fun c hc=>r0 c _ hc (by omega));omega
 ·exfalso
  have hi:=m0.inv hv hfl hc hg;have ok:=m0.ok hv hc;have e2:=hi.sum c hcc;have e3:s0.cur=k+1:=by unfold RS.cur;rw [on0,t0];rfl
  have e4:s0.opn ps c=0:=by unfold RS.opn;rw [hn]
  rw [e3,e4,<- r0 c (k+1) hcc (Nat.le_refl _)] at e2;have e5:=pU (c:=(c:Int)) (t:=((k+1:Nat):Int)) (by omega) ok.lb.symm (fun x hx=>by obtain⟨j,hj⟩:=List.getElem?_of_mem hx;have:=dF hv hj;omega) (fun i x hx he ht=>hw s0 sg ok.lb hch i x hx he (by rw [t0];omega));omega
theorem rO(hv:aM ps)(hfl:∀x∈ps,x.fl<cls)(hc:1<=cap)(hg:dY ps Ch){c:Nat}(hcc:c<cls)(hw:jI c ps Ch)(h:aQ cap cls ps ticks Ch sg0 s)(t:Nat):∀n:Nat,t+n<=s.t->(∀j,t<j->j<=t+n->s.row c j<aV c ps (j:Int))->
 s.tot cls (t+n)=s.tot cls t+cap*n
 | 0,_,_=>by simp
 | n+1,hn,hb=>by
   have ih:=rO hv hfl hc hg hcc hw h t n (by omega) (fun j h1 h2=>hb j h1 (by omega));have:=uF hv hfl hc hg hcc hw h (t+n) (by omega) (hb (t+n+1) (by omega) (by omega))
   rw [show cap*((n+1:Nat):Int)=cap*n+cap by rw [Int.natCast_add,Int.mul_add];simp,<- Nat.add_assoc,this,ih];omega
end
inductive iP (nx:Nat->Int->Prop) (ws:List Int):Nat->Int->Int->Nat->Int->Prop
 | take (c:Nat) (l r:Int):nx c r->0<=r->0<l->iP nx ws c l r c (l-1)
 | skip (c:Nat) (l r:Int) (c':Nat) (l':Int):(nx c (-1)\/l<=0)->iP nx ws ((c+1) % ws.length) (aB ws ((c+1) % ws.length)) r c' l'->iP nx ws c l r c' l'
theorem iP.nx{nx:Nat->Int->Prop}{ws:List Int}{c c':Nat}{l r l':Int}(h:iP nx ws c l r c' l'):nx c' r/\0<=r:=by
 induction h with
 | take c l r h1 h2 h3=>exact⟨h1,h2⟩
 | skip _ _ _ _ _ _ _ ih=>exact ih
def kL(ws:List Int)(ps:List PK):RS (Nat × Int)->Int->Nat × Int->Prop:=fun s r g=>
 (r = -1/\g=s.sg/\cX ps s.begun s.t = -1)\/iP (fun c r=>cA ps s.begun s.t c r) ws s.sg.1 s.sg.2 r g.1 g.2
theorem qX{ps:List PK}(hv:aM ps){bs:List Bool}{t c r:Int}(hl:bs.length=ps.length)(h:cA ps bs t c r)(h0:0<=r) :
 ∃(i:Nat) (x:PK),r=i/\ps[i]?=some x/\x.fl=c/\bs[i]?=some false/\x.tm<=t/\∀(j:Nat) (y:PK),j<i->ps[j]?=some y->y.fl=x.fl->bs[j]?=some true:=by
 rcases h with ⟨i,x,rfl,h1,h2,h3,h4,h5⟩|⟨rfl,_⟩
 ·refine⟨i,x,rfl,h1,h4,h2,h3,fun j y hj hy hf=>?_⟩
  have hlt:j<bs.length:=by rw [hl];exact(List.getElem?_eq_some_iff.1 hy).1
  rcases hb:bs[j]'hlt with _|_
  ·exact absurd (hf.trans h4) (h5 j y hj hy (by rw [List.getElem?_eq_getElem hlt,hb]) (by have:=hv.sorted j i y x (by omega) hy h1;omega))
  ·rw [List.getElem?_eq_getElem hlt,hb]
 ·omega
theorem mE{ws:List Int}{ps:List PK}(hv:aM ps):dY ps (kL ws ps):=by
 intro s r sg hl h;rcases h with ⟨h,_⟩|h
 ·exact .inl h
 ·obtain⟨i,x,h1,h2,h3,h4,h5,h6⟩:=qX hv hl h.nx.1 h.nx.2;exact .inr ⟨i,x,h1,h2,h4,h5,h6⟩
theorem wM{ps:List PK}(hv:aM ps){bs:List Bool}(hl:bs.length=ps.length){t:Int}(h:cX ps bs t = -1):∀(i:Nat) (x:PK),ps[i]?=some x->x.tm<=t->bs[i]?=some true:=by
 intro i x hx ht;have hi:=(List.getElem?_eq_some_iff.1 hx).1;rcases Nat.lt_or_ge i (dJ bs) with g|g
 ·exact m8 _ g
 ·exfalso
  obtain⟨y,hy⟩:∃y,ps[dJ bs]?=some y:=⟨_,List.getElem?_eq_getElem (by omega)⟩
  unfold cX at h;rw [hy] at h;simp only at h
  have:=hv.sorted _ _ y x g hy hx
  rw [if_pos (by omega)] at h;omega
theorem yN{ws:List Int}{ps:List PK}(hv:aM ps)(c:Int):jI c ps (kL ws ps):=by
 intro s sg hl h i x hx _ ht;rcases h with ⟨_,_,h⟩|h
 ·exact wM hv hl h i x hx ht
 ·exact absurd h.nx.2 (by omega)
theorem r9{c:Int}{t:Int}(h0:0<=c):∀{ps:List PK} {bs:List Bool},(∀x∈ps,0<=x.sz)->(∀(i:Nat) (x:PK),ps[i]?=some x->bs[i]?=some true->x.tm<t)->cN c ps bs<=aV c ps t
 | [],bs,_,_=>by simp [aV,aX,eY,cN]
 | x :: ps,[],hs,_=>by
   have:=l5 h0 t hs
   simpa [cN] using this
 | x :: ps,b :: bs,hs,h=>by
   have ih:=r9 (t:=t) h0 (ps:=ps) (bs:=bs) (fun y hy=>hs y (List.mem_cons_of_mem _ hy)) (fun i y hy hb=>h (i+1) y (by simpa using hy) (by simpa using hb));have hx:=hs x (List.mem_cons_self ..);rw [jN h0,cN];by_cases e:b=true/\x.fl=c
   ·have:=h 0 x rfl (by simp [e.1])
    rw [if_pos e,if_pos ⟨e.2,this⟩];omega
   ·rw [if_neg e];split <;> omega
theorem gP{ps:List PK}(hv:aM ps):∀x∈ps,0<=x.sz:=fun x hx=>by
 obtain⟨j,hj⟩:=List.getElem?_of_mem hx;have:=dF hv hj
 omega
theorem oH{c:Int}(h0:0<=c){ps:List PK}(hv:aM ps):aV c ps 0<=0:=by
 have:=pU (c:=c) (t:=0) h0 (ps:=ps) (bs:=List.replicate ps.length false) (by simp) (gP hv) (fun i x hx _ ht=>by
  have gx:=hv.good x (List.mem_of_getElem? hx);unfold PK.Good at gx;omega)
 rw [sA] at this;exact this
section
variable{σ:Type}{cap:Int}{cls:Nat}{ps:List PK}{ticks:Nat}{Ch:RS σ->Int->σ->Prop}{sg0:σ}{s:RS σ}
theorem RS.cur_on(h:s.on=true):s.cur=s.t+1:=by unfold RS.cur;rw [h];rfl
theorem RS.cur_off(h:s.on=false):s.cur=s.t:=by unfold RS.cur;rw [h];rfl
theorem aQ.arrC(hv:aM ps)(hc:1<=cap)(hg:dY ps Ch)(h:aQ cap cls ps ticks Ch sg0 s):∀(i:Nat) (x:PK),ps[i]?=some x->s.begun[i]?=some true->x.tm<s.cur:=by
 induction h with
 | start=>
   intro i x hx hb;have:=(List.getElem?_eq_some_iff.1 hx).1
   simp [this] at hb
 | tick s h hon ht ih=>
   intro i x hx hb;have:=ih i x hx hb
   rw [RS.cur_off hon] at this;rw [RS.cur_on rfl];show x.tm<((s.t+1:Nat):Int)
   omega
 | close s h hon hl ih=>
   intro i x hx hb;have:=ih i x hx hb
   rw [RS.cur_on hon] at this;exact this
 | idle s sg h hon hl hn hch ih=>
   intro i x hx hb;have:=ih i x hx hb
   rw [RS.cur_on hon] at this;exact this
 | begin_ s sg i x h hon hl hn hch hx ih=>
   intro j y hy hb;show y.tm<s.cur
   rcases jO.1 hb with h1 | ⟨rfl,_⟩
   ·exact ih j y hy h1
   ·rcases hg s j sg (h.ok hv hc).lb hch with h1 | ⟨i',x',h1,h2,_,h4,_⟩
    ·omega
    ·obtain rfl:i'=j:=by omega
     rw [hy] at h2;cases h2
     rw [RS.cur_on hon];omega
 | send s i x h hon hl hn hx hlt ih=>exact ih
 | fin s i x h hon hl hn hx hlt ih=>exact ih
theorem qY(h:dM cls ps s)(c:Nat):0<=s.opn ps c:=by
 unfold RS.opn;cases hn:s.now with
 | none=>exact Int.le_refl _
 | some i=>
   obtain⟨_,x,hx,h1,_⟩:=h.nw i hn;simp only [hx];split <;> omega
theorem iF(h:s.now=none)(c:Nat):s.opn ps c=0:=by unfold RS.opn;rw [h]
theorem fW{i:Nat}{x:PK}(h:s.now=some i)(hx:ps[i]?=some x)(c:Nat):s.opn ps c=if x.fl=c then s.rest else 0:=by
 unfold RS.opn;rw [h];simp only [hx]
theorem aQ.row_le(hv:aM ps)(hfl:∀x∈ps,x.fl<cls)(hc:1<=cap)(hg:dY ps Ch){c:Nat}(hcc:c<cls)(h:aQ cap cls ps ticks Ch sg0 s):s.row c s.cur<=aV c ps s.cur:=by
 have hi:=h.inv hv hfl hc hg;have h1:=r9 (c:=(c:Int)) (t:=(s.cur:Int)) (by omega) (gP hv) (h.arrC hv hc hg);have h2:=hi.sum c hcc;have h3:=qY hi c;omega
theorem aQ.row_leK(hv:aM ps)(hfl:∀x∈ps,x.fl<cls)(hc:1<=cap)(hg:dY ps Ch){c:Nat}(hcc:c<cls)(h:aQ cap cls ps ticks Ch sg0 s)(k:Nat)(hk:k<=s.t):s.row c k<=aV c ps k:=by
 rcases Nat.eq_zero_or_pos k with rfl|hp
 ·have h1:=(h.inv hv hfl hc hg).z c hcc;have h2:=l5 (c:=(c:Int)) (by omega) ((0:Nat):Int) (gP hv);omega
 ·obtain⟨s0,m0,on0,t0,r0,_⟩:=h.ends hv hfl hc (k-1) (by omega);have h1:=m0.row_le hv hfl hc hg hcc;have e:s0.cur=k:=by rw [RS.cur_on on0];omega
  rw [e] at h1;rw [r0 c k hcc (by omega)];exact h1
theorem aQ.off(hv:aM ps)(hfl:∀x∈ps,x.fl<cls)(hc:1<=cap)(h:aQ cap cls ps ticks Ch sg0 s)(k:Nat)(h0:0<k)(hk:k<=s.t):∃s0,aQ cap cls ps ticks Ch sg0 s0/\s0.on=false/\s0.t=k/\∀c j,c<cls->j<=k->s.row c j=s0.row c j:=by
 obtain⟨s0,m0,on0,t0,r0,h1⟩:=h.ends hv hfl hc (k-1) (by omega);rcases h1 with h1 | ⟨h1,h2,sg,h3⟩
 ·exact⟨_,.close s0 m0 on0 h1,rfl,by show s0.t+1=k;omega,fun c j hcc hj=>r0 c j hcc (by omega)⟩
 ·exact⟨_,.idle s0 sg m0 on0 h1 h2 h3,rfl,by show s0.t+1=k;omega,fun c j hcc hj=>r0 c j hcc (by omega)⟩
def Wt(c:Nat)(ps:List PK)(s:RS σ):Prop:=∃(i:Nat) (x:PK),ps[i]?=some x/\x.fl=c/\x.tm<=s.t/\s.begun[i]?=some false
theorem zW(hv:aM ps)(ok:iO cap cls ps ticks s)(hi:dM cls ps s){c:Nat}(hcc:c<cls)(hon:s.on=true)(hn:s.now=none)(hb:s.row c (s.t+1)<aV c ps ((s.t+1:Nat):Int)):Wt c ps s:=by
 by_cases e:Wt c ps s
 ·exact e
 ·exfalso
  have h1:=hi.sum c hcc;rw [RS.cur_on hon,iF hn] at h1;have h2:=pU (c:=(c:Int)) (t:=((s.t+1:Nat):Int)) (by omega) ok.lb.symm (gP hv) (fun i x hx he ht=>by
   rcases vN ok hx with h|h
   ·exact absurd ⟨i,x,hx,he,by omega,h⟩ e
   ·exact h)
  omega
def lY(c t0:Nat)(ps:List PK)(s:RS σ):Prop:=∀j,t0<j->j<=s.cur->s.row c j<aV c ps (j:Int)
theorem aQ.busy(hv:aM ps)(hfl:∀x∈ps,x.fl<cls)(hc:1<=cap)(hg:dY ps Ch){c:Nat}(hcc:c<cls)(t0:Nat)(P:RS σ->Prop)
 (base:∀s,aQ cap cls ps ticks Ch sg0 s->s.on=false->s.t=t0->aV c ps t0<=s.row c t0->P s)
 (tick:∀s,aQ cap cls ps ticks Ch sg0 s->s.on=false->t0<=s.t->P s->P { s with on:=true,left:=cap,sent:=s.sent.map (fun l=>l ++ [aB l s.t]) })
 (close:∀s sg,aQ cap cls ps ticks Ch sg0 s->s.on=true->t0<=s.t->P s->((s.left<=0/\sg=s.sg)\/(0<s.left/\s.now=none/\Ch s (-1) sg/\Wt c ps s))->P { s with on:=false,t:=s.t+1,sg:=sg })
 (beg:∀s sg i x,aQ cap cls ps ticks Ch sg0 s->s.on=true->t0<=s.t->P s->0<s.left->s.now=none->Ch s (i:Nat) sg->ps[i]?=some x->Wt c ps s->P { s with now:=some i,rest:=x.sz,begun:=s.begun.set i true,sg:=sg })
 (send:∀s i x,aQ cap cls ps ticks Ch sg0 s->s.on=true->t0<=s.t->P s->0<s.left->s.now=some i->ps[i]?=some x->s.left<s.rest->P { s with rest:=s.rest-s.left,left:=0,sent:=cM s.sent x.fl.toNat (s.t+1) s.left })
 (fin:∀s i x,aQ cap cls ps ticks Ch sg0 s->s.on=true->t0<=s.t->P s->0<s.left->s.now=some i->ps[i]?=some x->s.rest<=s.left->P { s with now:=none,rest:=0,left:=s.left-s.rest,sent:=cM s.sent x.fl.toNat (s.t+1) s.rest,done:=s.done.set i s.t })
 (h:aQ cap cls ps ticks Ch sg0 s):t0<=s.t->aV c ps t0<=s.row c t0->lY c t0 ps s->P s:=by
 have hbs:∀{s s':RS σ} {F:Nat} {n:Int},aQ cap cls ps ticks Ch sg0 s->s.on=true->F<cls->0<=n->s'.sent=cM s.sent F (s.t+1) n->s'.t=s.t->s'.on=true->t0<=s.t->(s'.row c t0=s.row c t0)/\(lY c t0 ps s'->lY c t0 ps s):=fun {s s' F n} h hon hF hn e1 e2 e3 h0=>by
  have hr:∀j,s'.row c j=s.row c j+if c=F/\j=s.t+1 then n else 0:=fun j=>by
   show aB (s'.sent.getD c []) j=_
   rw [e1];exact kD (h.ok hv hc) hon hF n c j
  refine⟨by rw [hr,if_neg (by omega)];omega,fun hb j h1 h2=>?_⟩
  have:=hb j h1 (by rw [RS.cur_on e3,e2];rw [RS.cur_on hon] at h2;exact h2)
  rw [hr] at this;split at this <;> omega
 induction h with
 | start=>exact fun h0 h1 _=>base _ .start rfl (by show 0=t0;have:t0<=0:=h0;omega) h1
 | tick s h hon ht ih=>
   intro h0 h1 hb;have hr:=fun k=>nM (h.ok hv hc) hon hcc k
   refine tick s h hon h0 (ih h0 ?_ (fun j hj1 hj2=>?_))
   ·have e:_=s.row c t0:=(hr t0).trans (if_pos h0);exact Int.le_trans h1 (Int.le_of_eq e)
   ·rw [RS.cur_off hon] at hj2;have e:_=s.row c j:=(hr j).trans (if_pos hj2);have:=hb j hj1 (by rw [RS.cur_on rfl];show j<=s.t+1;omega)
    exact Int.lt_of_le_of_lt (Int.le_of_eq e.symm) this
 | close s h hon hl ih=>
   intro h0 h1 hb;by_cases e:t0<=s.t
   ·exact close s s.sg h hon e (ih e h1 (fun j a b=>hb j a (by rw [RS.cur_on hon] at b;exact b))) (.inl ⟨hl,rfl⟩)
   ·exact base _ (.close s h hon hl) rfl (by show s.t+1=t0;have:t0<=s.t+1:=h0;omega) h1
 | idle s sg h hon hl hn hch ih=>
   intro h0 h1 hb;by_cases e:t0<=s.t
   ·have hb2:lY c t0 ps s:=fun j a b=>hb j a (by rw [RS.cur_on hon] at b;exact b)
    exact close s sg h hon e (ih e h1 hb2) (.inr ⟨hl,hn,hch,zW hv (h.ok hv hc) (h.inv hv hfl hc hg) hcc hon hn (hb2 (s.t+1) (by omega) (by rw [RS.cur_on hon];exact Nat.le_refl _))⟩)
   ·exact base _ (.idle s sg h hon hl hn hch) rfl (by show s.t+1=t0;have:t0<=s.t+1:=h0;omega) h1
 | begin_ s sg i x h hon hl hn hch hx ih=>
   intro h0 h1 hb;exact beg s sg i x h hon h0 (ih h0 h1 hb) hl hn hch hx (zW hv (h.ok hv hc) (h.inv hv hfl hc hg) hcc hon hn (hb (s.t+1) (by have:t0<=s.t:=h0;omega) (by show s.t+1<=s.cur;rw [RS.cur_on hon];exact Nat.le_refl _)))
 | send s i x h hon hl hn hx hlt ih=>
   intro h0 h1 hb;have gx:=(dF hv hx).2;have gf:=hfl x (List.mem_of_getElem? hx);obtain⟨e1,e2⟩:=hbs (s':={ s with rest:=s.rest-s.left,left:=0,sent:=cM s.sent x.fl.toNat (s.t+1) s.left }) h hon (show x.fl.toNat<cls by omega) (n:=s.left) (by omega) rfl rfl hon h0;exact send s i x h hon h0 (ih h0 (by rw [e1] at h1;exact h1) (e2 hb)) hl hn hx hlt
 | fin s i x h hon hl hn hx hlt ih=>
   intro h0 h1 hb;have gx:=(dF hv hx).2;have gf:=hfl x (List.mem_of_getElem? hx);have hr:=(h.ok hv hc).nw i hn;obtain⟨e1,e2⟩:=hbs (s':={ s with now:=none,rest:=0,left:=s.left-s.rest,sent:=cM s.sent x.fl.toNat (s.t+1) s.rest,done:=s.done.set i s.t }) h hon (show x.fl.toNat<cls by omega) (n:=s.rest) (by omega) rfl rfl hon h0;exact fin s i x h hon h0 (ih h0 (by rw [e1] at h1;exact h1) (e2 hb)) hl hn hx hlt
end
section
variable{σ:Type}{cap:Int}{ps:List PK}{ticks:Nat}{Ch:RS σ->Int->σ->Prop}{sg0:σ}{s:RS σ}{c d:Nat}
theorem pX(a b c:Int):a+b-c=a-c+b:=by omega
theorem rM(hc2:c<2)(hd2:d<2)(hcd:c≠d){x:PK}(h0:0<=x.fl)(h1:x.fl<2):x.fl=c/\x.fl≠d/\x.fl.toNat=c\/x.fl=d/\x.fl≠c/\x.fl.toNat=d:=by omega
theorem aQ.glob2(hv:aM ps)(hfl:∀x∈ps,x.fl<2)(hc:1<=cap)(hg:dY ps Ch)(hc2:c<2)(hd2:d<2)(hcd:c≠d)(Q:Int->Int->σ->Prop)
 (base:Q 0 0 sg0) (idl:∀s sg,aQ cap 2 ps ticks Ch sg0 s->Ch s (-1) sg->Q 0 0 s.sg->Q 0 0 sg)
 (beg:∀s sg i x,aQ cap 2 ps ticks Ch sg0 s->Ch s (i:Nat) sg->ps[i]?=some x->Q 0 0 s.sg->(x.fl=c/\Q x.sz 0 sg)\/(x.fl=d/\Q 0 x.sz sg))
 (own:∀a b n sg,0<=n->n<=a->Q a b sg->Q (a-n) b sg) (oth:∀a b n sg,0<=n->n<=b->Q a b sg->Q a (b-n) sg)
 (h:aQ cap 2 ps ticks Ch sg0 s):Q (s.opn ps c) (s.opn ps d) s.sg:=by
 induction h with
 | start=>exact base
 | tick s h hon ht ih=>exact ih
 | close s h hon hl ih=>exact ih
 | idle s sg h hon hl hn hch ih=>
   rw [iF hn,iF hn] at ih;rw [iF (by exact hn),iF (by exact hn)];exact idl s sg h hch ih
 | begin_ s sg i x h hon hl hn hch hx ih=>
   rw [iF hn,iF hn] at ih;have hx1:=(dF hv hx).2;have hx2:=hfl x (List.mem_of_getElem? hx);rw [fW (i:=i) rfl hx,fW (i:=i) rfl hx];rcases beg s sg i x h hch hx ih with ⟨h1,h2⟩|⟨h1,h2⟩
   ·rw [if_pos h1,if_neg (by omega)];exact h2
   ·rw [if_neg (by omega),if_pos h1];exact h2
 | send s i x h hon hl hn hx hlt ih=>
   rw [fW hn hx,fW hn hx] at ih;have hx1:=(dF hv hx).2;have hx2:=hfl x (List.mem_of_getElem? hx);rw [fW (i:=i) (by exact hn) hx,fW (i:=i) (by exact hn) hx];rcases rM hc2 hd2 hcd hx1 hx2 with ⟨h1,h2,_⟩|⟨h1,h2,_⟩
   ·rw [if_pos h1,if_neg h2] at ih ⊢;exact own _ _ _ _ (by omega) (by omega) ih
   ·rw [if_neg h2,if_pos h1] at ih ⊢;exact oth _ _ _ _ (by omega) (by omega) ih
 | fin s i x h hon hl hn hx hlt ih=>
   rw [fW hn hx,fW hn hx] at ih;have hr:=(h.ok hv hc).nw i hn;have hx1:=(dF hv hx).2;have hx2:=hfl x (List.mem_of_getElem? hx);rw [iF rfl,iF rfl];rcases rM hc2 hd2 hcd hx1 hx2 with ⟨h1,h2,_⟩|⟨h1,h2,_⟩
   ·rw [if_pos h1,if_neg h2] at ih;have:=own _ _ s.rest _ (by omega) (Int.le_refl _) ih
    rwa [Int.sub_self] at this
   ·rw [if_neg h2,if_pos h1] at ih;have:=oth _ _ s.rest _ (by omega) (Int.le_refl _) ih
    rwa [Int.sub_self] at this
theorem aQ.busy2(hv:aM ps)(hfl:∀x∈ps,x.fl<2)(hc:1<=cap)(hg:dY ps Ch)(hc2:c<2)(hd2:d<2)(hcd:c≠d)(hw:jI c ps Ch)(t0:Nat)(Q:Int->Int->Int->Int->σ->Prop)
 (base:∀s,aQ cap 2 ps ticks Ch sg0 s->s.on=false->s.opn ps c=0->Q 0 0 0 (s.opn ps d) s.sg)
 (beg:∀s sg i x Y O,aQ cap 2 ps ticks Ch sg0 s->Ch s (i:Nat) sg->ps[i]?=some x->Wt c ps s->Q Y O 0 0 s.sg->(x.fl=c/\Q Y O x.sz 0 sg)\/(x.fl=d/\Q Y O 0 x.sz sg))
 (own:∀Y O a b n sg,0<=n->n<=a->Q Y O a b sg->Q (Y+n) O (a-n) b sg) (oth:∀Y O a b n sg,0<=n->n<=b->Q Y O a b sg->Q Y (O+n) a (b-n) sg)
 (h:aQ cap 2 ps ticks Ch sg0 s) (h0:t0<=s.t) (he:aV c ps t0<=s.row c t0) (hb:lY c t0 ps s) :
 Q (s.row c s.cur-s.row c t0) (s.row d s.cur-s.row d t0) (s.opn ps c) (s.opn ps d) s.sg:=by
 refine aQ.busy hv hfl hc hg hc2 t0 (fun s=>Q (s.row c s.cur-s.row c t0) (s.row d s.cur-s.row d t0) (s.opn ps c) (s.opn ps d) s.sg) ?_ ?_ ?_ ?_ ?_ ?_ h h0 he hb
 ·intro s h hon ht ha;have e:s.cur=t0:=by rw [RS.cur_off hon];exact ht
  have hi:=h.inv hv hfl hc hg;have h1:=r9 (c:=(c:Int)) (t:=(s.cur:Int)) (by omega) (gP hv) (h.arrC hv hc hg);have h2:=hi.sum c hc2;have h3:=qY hi c;rw [e] at h1 h2;have h4:s.opn ps c=0:=by omega
  simp only [e,Int.sub_self,h4];exact base s h hon h4
 ·intro s h hon h0 hq;have hr:=fun {c:Nat} (hcc:c<2) k=>nM (h.ok hv hc) hon hcc k
  have e1:∀{c:Nat},c<2->({ s with on:=true,left:=cap,sent:=s.sent.map (fun l=>l ++ [aB l s.t]) }:RS σ).row c (s.t+1)=s.row c s.t:=fun hcc=>(hr hcc _).trans (by rw [if_neg (by omega),if_pos rfl])
  have e2:∀{c:Nat},c<2->({ s with on:=true,left:=cap,sent:=s.sent.map (fun l=>l ++ [aB l s.t]) }:RS σ).row c t0=s.row c t0:=fun hcc=>(hr hcc _).trans (if_pos h0)
  rw [RS.cur_off hon] at hq;show Q (RS.row _ c (s.t+1)-RS.row _ c t0) (RS.row _ d (s.t+1)-RS.row _ d t0) _ _ _
  rw [e1 hc2,e2 hc2,e1 hd2,e2 hd2];exact hq
 ·intro s sg h hon h0 hq hd;rw [RS.cur_on hon] at hq;rcases hd with ⟨_,rfl⟩|⟨_,hn,hch,i,x,hx,hf,ht,hbn⟩
  ·exact hq
  ·have:=hw s sg (h.ok hv hc).lb hch i x hx hf ht
   rw [hbn] at this;cases this
 ·intro s sg i x h hon h0 hq hl hn hch hx hwt;rw [RS.cur_on hon,iF hn,iF hn] at hq;have hx1:=(dF hv hx).2;have hx2:=hfl x (List.mem_of_getElem? hx);rw [fW (i:=i) rfl hx,fW (i:=i) rfl hx,RS.cur_on (by exact hon)];rcases beg s sg i x _ _ h hch hx hwt hq with ⟨h1,h2⟩|⟨h1,h2⟩
  ·rw [if_pos h1,if_neg (by omega)];exact h2
  ·rw [if_neg (by omega),if_pos h1];exact h2
 ·intro s i x h hon h0 hq hl hn hx hlt;rw [RS.cur_on hon,fW hn hx,fW hn hx] at hq;have hx1:=(dF hv hx).2;have hx2:=hfl x (List.mem_of_getElem? hx);have hr:∀c j,({ s with rest:=s.rest-s.left,left:=0,sent:=cM s.sent x.fl.toNat (s.t+1) s.left }:RS σ).row c j=s.row c j+if c=x.fl.toNat/\j=s.t+1 then s.left else 0:=fun c j=>kD (cls:=2) (h.ok hv hc) hon (F:=x.fl.toNat) (by omega) s.left c j
  rw [fW (i:=i) (by exact hn) hx,fW (i:=i) (by exact hn) hx,RS.cur_on (by exact hon),hr,hr,hr,hr];rcases rM hc2 hd2 hcd hx1 hx2 with ⟨h1,h2,h3⟩|⟨h1,h2,h3⟩
  ·rw [if_pos h1,if_neg h2] at hq ⊢;have:=own _ _ _ _ s.left _ (by omega) (by omega) hq
   rw [h3,if_pos ⟨rfl,rfl⟩,if_neg (by omega),if_neg (by omega),if_neg (by omega),Int.add_zero,Int.add_zero,Int.add_zero,pX];exact this
  ·rw [if_neg h2,if_pos h1] at hq ⊢;have:=oth _ _ _ _ s.left _ (by omega) (by omega) hq
   rw [h3,if_neg (by omega),if_neg (by omega),if_pos ⟨rfl,rfl⟩,if_neg (by omega),Int.add_zero,Int.add_zero,Int.add_zero,pX (s.row d (s.t+1))];exact this
 ·intro s i x h hon h0 hq hl hn hx hlt;rw [RS.cur_on hon,fW hn hx,fW hn hx] at hq;have hnw:=(h.ok hv hc).nw i hn;have hx1:=(dF hv hx).2;have hx2:=hfl x (List.mem_of_getElem? hx);have hr:∀c j,({ s with now:=none,rest:=0,left:=s.left-s.rest,sent:=cM s.sent x.fl.toNat (s.t+1) s.rest,done:=s.done.set i s.t }:RS σ).row c j=s.row c j+if c=x.fl.toNat/\j=s.t+1 then s.rest else 0:=fun c j=>kD (cls:=2) (h.ok hv hc) hon (F:=x.fl.toNat) (by omega) s.rest c j
  rw [iF rfl,iF rfl,RS.cur_on (by exact hon),hr,hr,hr,hr];rcases rM hc2 hd2 hcd hx1 hx2 with ⟨h1,h2,h3⟩|⟨h1,h2,h3⟩
  ·rw [if_pos h1,if_neg h2] at hq;have:=own _ _ _ _ s.rest _ (by omega) (by omega) hq
   rw [h3,if_pos ⟨rfl,rfl⟩,if_neg (by omega),if_neg (by omega),if_neg (by omega),Int.add_zero,Int.add_zero,Int.add_zero,pX];rw [Int.sub_self] at this;exact this
  ·rw [if_neg h2,if_pos h1] at hq;have:=oth _ _ _ _ s.rest _ (by omega) (by omega) hq
   rw [h3,if_neg (by omega),if_neg (by omega),if_pos ⟨rfl,rfl⟩,if_neg (by omega),Int.add_zero,Int.add_zero,Int.add_zero,pX (s.row d (s.t+1))];rw [Int.sub_self] at this;exact this
theorem lV(hc2:c<2)(hd2:d<2)(hcd:c≠d)(s:RS σ)(k:Nat):s.tot 2 k=s.row c k+s.row d k:=by
 simp only [RS.tot,gJ];rcases (show(c=0/\d=1)\/(c=1/\d=0) by omega) with ⟨rfl,rfl⟩|⟨rfl,rfl⟩ <;> omega
theorem rE(hv:aM ps)(hfl:∀x∈ps,x.fl<2)(hc:1<=cap)(hg:dY ps Ch)(hc2:c<2){β:Nat->Int}(hz:β 0<=0)
 (h:aQ cap 2 ps ticks Ch sg0 s) (key:∀(s0:RS σ) (t0 k:Nat),aQ cap 2 ps ticks Ch sg0 s0->s0.on=false->s0.t=k->t0<k->s0.cur=k->aV c ps t0<=s0.row c t0->lY c t0 ps s0->(∀e,e<2->∀j,j<=k->s.row e j=s0.row e j)->k<=s.t->β (k-t0)<=s.row c k-s.row c t0):i8 β c ps (s.row c) s.t:=by
 intro k hk;have h00:=(h.inv hv hfl hc hg).z c hc2;have hz0:=oH (c:=(c:Int)) (by omega) hv;obtain⟨t0,h1,h2,h3⟩:=sW (A:=fun j=>aV c ps (j:Nat)) (R:=s.row c) (by show aV c ps ((0:Nat):Int)<=_;rw [h00];exact hz0) k;refine⟨t0,h1,?_⟩
 rcases Nat.lt_or_ge t0 k with g|g
 ·obtain⟨s0,m0,on0,e0,r0⟩:=h.off hv hfl hc k (by omega) hk;have e:s0.cur=k:=by rw [RS.cur_off on0];omega
  have:=key s0 t0 k m0 on0 e0 g e (by rw [<- r0 c t0 hc2 (by omega)];exact h2) (fun j a b=>by rw [e] at b;rw [<- r0 c j hc2 (by omega)];exact h3 j a b) (fun f hf j hj=>r0 f j hf hj) hk
  omega
 ·obtain rfl:t0=k:=by omega
  rw [Nat.sub_self];have h2:aV c ps (t0:Int)<=s.row c t0:=h2;omega
end
end Go.Proofs.YtaejfleahamapaaGreat
