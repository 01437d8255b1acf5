/- . -/
import Derived.RangeFuncNested
import Derived.RangeFuncBound
import Derived.RangeFuncCalls
import Derived.RangeFuncLeaves
import Derived.Shelf.Abstract
import Derived.Shelf.RegionOpen
import Derived.OwnWalkIn
import Derived.TacticsInMore
import Derived.LoopNIn
import Derived.LoopIn
import Derived.Sort.CutIn
import Derived.Test.YtaejfleahamapaaGreatTd10
namespace Go.Proofs.YtaejfleahamapaaGreat
set_option linter.unusedVariables false
set_option linter.unusedSimpArgs false
set_option maxHeartbeats 4000000
set_option maxRecDepth 100000
open Go.RowKit
section
open Go.RowKit Go.Shelf
attribute [local go_sem] Oper.semAt_some
def PK.val(x:PK):Value:=.agg #[.int .i64 x.fl,.int .i64 x.tm,.int .i64 x.sz]
def PK.own(fl:Int)(x:PK):Bool:=fl == -1 || (x.fl == fl && decide (0<=fl))
def aX(fl:Int)(ps:List PK):List PK:=ps.filter (PK.own fl)
theorem tN(fl:Int)(ps:List PK)(k:Nat)(x:PK)(hx:ps[k]?=some x):aX fl (ps.take (k+1))=aX fl (ps.take k) ++ (if x.own fl then [x] else []):=by
 have hl:k<ps.length:=(List.getElem?_eq_some_iff.1 hx).1;have:ps.take (k+1)=ps.take k ++ [x]:=by
  rw [List.take_add_one,hx];rfl
 unfold aX;rw [this,List.filter_append]
 congr 1
 by_cases h:x.own fl <;> simp [h]
theorem yV(fl:Int)(ps:List PK)(k:Nat):(aX fl (ps.take k)).length<=k:=by
 unfold aX;exact Nat.le_trans (List.length_filter_le _ _) (by simp;omega)
def eX(n₀ Bs:Nat)(W W':World):Prop:=Below n₀ W W'/\∀k,Bs<=k->k<=Bs+1->W'.heap[k]?=W.heap[k]?
theorem eX.refl(n₀ Bs:Nat)(W:World):eX n₀ Bs W W:=⟨Below.refl _ _,fun _ _ _=>rfl⟩
theorem eX.trans{n₀ Bs:Nat}{W W' W3:World}(h:eX n₀ Bs W W')(k:eX n₀ Bs W' W3):eX n₀ Bs W W3:=⟨h.1.trans k.1,fun i h1 h2=>(k.2 i h1 h2).trans (h.2 i h1 h2)⟩
theorem eX.alloc{n₀ Bs:Nat}(W:World)(o:Obj)(h0:n₀<=W.heap.size)(h:Bs+2<=W.heap.size):eX n₀ Bs W (W.alloc o):=
 ⟨(Below.refl n₀ W).alloc h0 o,fun k _ h2=>Below.heap_alloc W o k (by omega)⟩
theorem eX.cell{n₀ Bs:Nat}{W W':World}(h:eX n₀ Bs W W'){k:Nat}(h1:Bs<=k)(h2:k<=Bs+1):W'.cell? ⟨k,0,none⟩=W.cell? ⟨k,0,none⟩:=by
 have:=h.2 k h1 h2
 simp only [World.cell?,this]
theorem eX.set_{n₀ Bs:Nat}(W:World)(p:Addr)(v:Value)(h0:n₀<=p.block)(h1:p.block<Bs):eX n₀ Bs W (W.setCell p v):=
 ⟨(Below.refl n₀ W).setCell h0 v,fun k h3 _=>Below.heap_setCell W p v k (by omega)⟩
theorem a0x(F:Fence)(n:Nat)(hF:F.fn 134)(hro:F.round=none)(hn:1<=n)(l Bs n₀ len cap:Nat)(A:Option Addr)(fl:Int)(ps:List PK)(hlen:ps.length=len)(h60:len<=60)(J Jx:List (Nat × PK)->World->Prop)
 (W:World) (hJA:AbidesFrom W.heap.size J)
 (hY:∀bU x W,J bU W->bU.length<len->YieldAt F (n-1) Tryz.prog l #[.int .i64 (x.1:Int),x.2.val] W fun e W'=>
  (e = .returned (.bool true)/\J (bU ++ [x]) W'/\eX n₀ Bs W W')\/(e = .returned (.bool false)/\Jx (bU ++ [x]) W'))
 (hBs:W.cell? ⟨Bs,0,none⟩=some (.slice A len cap)) (hBf:W.cell? ⟨Bs+1,0,none⟩=some (.int .i64 fl)) (hn0:n₀<=Bs) (hsW:Bs+2<=W.heap.size)
 (hc:0<len->∃g o,A=some ⟨g,o,none⟩/\g<n₀/\fQ W g o ps) (h0:J [] W) :
 CallsIn F n Tryz.prog 134 #[.func (.yield l) #[] #[],.pointer (some ⟨Bs,0,none⟩),.pointer (some ⟨Bs+1,0,none⟩)] W fun e W'=>(∃v,e = .returned v)/\
  ((∃ys:List (Nat × PK),ys.map Prod.snd=aX fl ps/\J ys W')\/(∃bU,True/\Jx bU W')):=by
 have HC:=aA hc;clear hc;refine callsIn_of_wp Tryz.func134 rfl hF ?_ hro;simp only [Tryz.ntmps134,List.size_toArray,List.length_cons,List.length_nil,Nat.reduceAdd,Nat.reduceSub,Array.replicate_succ,Array.replicate_zero,List.push_toArray,List.append_toArray,List.nil_append,List.cons_append]
 gi_wp2
 gi_loopw [8,4] (fun i _ wr=>∃(k:Nat) (bU:List (Nat × PK)),k<=len/\i = .int .i64 k/\bU.map Prod.snd=aX fl (ps.take k)/\J bU wr/\eX n₀ Bs W wr/\W.heap.size<=wr.heap.size)
  (fun i _ _=>len-(intOf i).toNat)
 case atStart=>exact⟨0,[],Nat.zero_le _,rfl,rfl,h0,eX.refl _ _ _,Nat.le_refl _⟩
 case round=>
  obtain⟨k,bU,hk,rfl,hpre,hJs,hnx,hsz⟩:=hrel;have HP:=aA hpre;have HN:=aA hnx;clear hpre hnx;by_cases hlt:k<len
  case pos=>
   obtain⟨g,o,hA,hg,hr⟩:=HC.out (by omega);subst hA;have HR:=hr.below2 HN.out.1 hg;obtain⟨x,hx,x0,x1,x2⟩:=HR.get (k:=k) (by rw [hlen];exact hlt);have hgl:=HR.lt;have HX:=aA hx;have c1:wr.cell? ⟨Bs+1,0,none⟩=some (.int .i64 fl):=(HN.out.cell (k:=Bs+1) (by omega) (by omega)).trans hBf;have hbf:Bs+1<wr.heap.size:=by omega
   clear hr HR hx
   gi_upto_region 3 with fail
   have hJ2:=hJA _ _ _ none hJs (World.grownBy_alloc wr (.cells #[.int .i64 x.fl,.int .i64 x.tm,.int .i64 x.sz] 71) none) (fun r e=>by cases e);have HN2:=aA (HN.out.trans (eX.alloc (n₀:=n₀) (Bs:=Bs) wr (.cells #[.int .i64 x.fl,.int .i64 x.tm,.int .i64 x.sz] 71) (by omega) (by omega)));have hsz2:W.heap.size<=(wr.alloc (.cells #[.int .i64 x.fl,.int .i64 x.tm,.int .i64 x.sz] 71)).heap.size:=by simp;omega
   have q:=(aC.new wr 71 #[.int .i64 x.fl,.int .i64 x.tm,.int .i64 x.sz])
   generalize hwe:wr.alloc (.cells #[.int .i64 x.fl,.int .i64 x.tm,.int .i64 x.sz] 71)=we at *;have q0:=q.cell 0;have q1:=q.cell 1;have q2:=q.cell 2;simp at q0 q1 q2;have hl:=q.lt;have c2:we.cell? ⟨Bs+1,0,none⟩=some (.int .i64 fl):=(HN2.out.cell (k:=Bs+1) (by omega) (by omega)).trans hBf;have hbf2:Bs+1<we.heap.size:=by omega
   clear hwe q x0 x1 x2 c1;have HS:=aA (tN fl ps k x HX.out);have hpl:bU.length<len:=by
    have:=congrArg List.length HP.out
    rw [List.length_map] at this;have:=yV fl ps k
    omega
   have HY:=aA (hY bU (k,x) we hJ2 hpl);have hno:x.own fl=false->aX fl (ps.take (k+1))=aX fl (ps.take k):=fun h=>by rw [HS.out,h];simp
   have hyes:x.own fl=true->aX fl (ps.take (k+1))=aX fl (ps.take k) ++ [x]:=fun h=>by rw [HS.out,h];simp
   have HNO:=aA hno;have HYES:=aA hyes;clear hno hyes HS;by_cases e1:fl = -1
   case pos=>
    have ho:=HYES.out (by simp [PK.own,e1]);have HO:=aA ho;clear ho;subst e1;obtain⟨fn,tmps,assign,body,hy,hR⟩:=HY.out;dsimp only [PK.val] at hy
    gi_wp2
    refine hR.mono ?_;rintro e W3 (⟨rfl,hJ3,hk3⟩|⟨rfl,hJx3⟩)
    ·gi_wp2
     go_roundw
     case rel=>exact⟨k+1,bU ++ [(k,x)],by omega,by simp,by rw [List.map_append,HP.out,HO.out];rfl,hJ3,HN2.out.trans hk3,Nat.le_trans hsz2 hk3.1.size⟩
     case measure=>simp [intOf];omega
    ·gi_wp2
     refine bodyPost_ret (results_none rfl _ _ _) rfl ?_;exact⟨⟨_,rfl⟩,.inr ⟨_,trivial,hJx3⟩⟩
   case neg=>
    have e1':(fl == -1)=false:=by simp [e1]
    by_cases e2:x.fl=fl
    case pos=>
     by_cases e3:0<=fl
     case pos=>
      have ho:=HYES.out (by simp [PK.own,e2,e3]);have HO:=aA ho;clear ho;have e3':decide (0<=fl)=true:=decide_eq_true e3;rw [e2] at q0;obtain⟨fn,tmps,assign,body,hy,hR⟩:=HY.out;dsimp only [PK.val] at hy
      rw [e2] at hy
      gi_wp2
      refine hR.mono ?_;rintro e W3 (⟨rfl,hJ3,hk3⟩|⟨rfl,hJx3⟩)
      ·gi_wp2
       go_roundw
       case rel=>exact⟨k+1,bU ++ [(k,x)],by omega,by simp,by rw [List.map_append,HP.out,HO.out];rfl,hJ3,HN2.out.trans hk3,Nat.le_trans hsz2 hk3.1.size⟩
       case measure=>simp [intOf];omega
      ·gi_wp2
       refine bodyPost_ret (results_none rfl _ _ _) rfl ?_;exact⟨⟨_,rfl⟩,.inr ⟨_,trivial,hJx3⟩⟩
     case neg=>
      have ho:=HNO.out (by simp [PK.own,e1',e3]);have e3':decide (0<=fl)=false:=decide_eq_false e3;rw [e2] at q0;have HO:=aA ho;clear ho HY
      gi_wp2
      refine⟨fun _ h=>(by cases h),?_⟩
      gi_wp2
      go_roundw
      case rel=>exact⟨k+1,bU,by omega,by simp,by rw [HP.out,HO.out],hJ2,HN2.out,hsz2⟩
      case measure=>simp [intOf];omega
    case neg=>
     have e2':(x.fl == fl)=false:=by simp [e2]
     have ho:=HNO.out (by simp [PK.own,e1',e2']);have HO:=aA ho;clear ho HY
     gi_wp2
     refine⟨fun _ h=>(by cases h),?_⟩
     gi_wp2
     go_roundw
     case rel=>exact⟨k+1,bU,by omega,by simp,by rw [HP.out,HO.out],hJ2,HN2.out,hsz2⟩
     case measure=>simp [intOf];omega
  case neg=>
   obtain rfl:k=len:=by omega
   gi_wp2
   go_end0
   refine⟨⟨_,rfl⟩,.inl ⟨bU,?_,hJs⟩⟩
   rw [HP.out,<- hlen,List.take_length]
theorem a0y(F:Fence)(n:Nat)(hF:F.fn 115)(hro:F.round=none)(A:Option Addr)(len cap:Nat)(fl:Int)(w:World) :
 CallsIn F n Tryz.prog 115 #[.slice A len cap,.int .i64 fl] w fun e w'=>e = .returned (.func (.func 134) #[] #[.pointer (some ⟨w.heap.size,0,none⟩),.pointer (some ⟨w.heap.size+1,0,none⟩)])
  /\w'=(w.alloc (.cells #[.slice A len cap] 46)).alloc (.cells #[.int .i64 fl] 3):=by
 refine callsIn_of_wp Tryz.func115 rfl hF ?_ hro;simp only [Tryz.ntmps115,List.size_toArray,List.length_cons,List.length_nil,Nat.reduceAdd,Nat.reduceSub,Array.replicate_succ,Array.replicate_zero,List.push_toArray,List.append_toArray,List.nil_append,List.cons_append]
 gi_wp2
 go_ret
 exact⟨rfl,rfl⟩
def wH(x:Nat × PK):Array Value:=#[.int .i64 (x.1:Int),x.2.val]
theorem a0z(F:Fence)(n:Nat)(hF:F.fn 134)(hro:F.round=none)(hn:1<=n)(Bs n₀ len cap:Nat)(A:Option Addr)(fl:Int)(ps:List PK)(hlen:ps.length=len)(h60:len<=60)
 (w:World) (hn0:n₀<=Bs) (hsW:Bs+2<=w.heap.size)
 (hBs:w.cell? ⟨Bs,0,none⟩=some (.slice A len cap)) (hBf:w.cell? ⟨Bs+1,0,none⟩=some (.int .i64 fl))
 (hc:0<len->∃g o,A=some ⟨g,o,none⟩/\g<n₀/\fQ w g o ps) :
 SeqStopsK F n Tryz.prog 134 #[.pointer (some ⟨Bs,0,none⟩),.pointer (some ⟨Bs+1,0,none⟩)] wH (eX n₀ Bs) (fun ys=>ys.map Prod.snd=aX fl ps) (fun _=>True) len w:=fun l J Jx W hW hJ _ hY h0=>by
 have hs:=hW.size;refine a0x F n hF hro hn l Bs n₀ len cap A fl ps hlen h60 J Jx W hJ hY ((hW.cell (p:=⟨Bs,0,none⟩) (by simp;omega)).trans hBs) ((hW.cell (p:=⟨Bs+1,0,none⟩) (by simp;omega)).trans hBf) hn0 (by omega) ?_ h0;intro h;obtain⟨g,o,e,hg,hr⟩:=hc h;exact⟨g,o,e,hg,hr.below2 hW (by omega)⟩
def kO(t:Int)(ps:List PK):Int:=ps.foldl (fun s x=>if x.tm<t then wrap64 (s+x.sz) else s) 0
theorem G9(t:Int)(ps:List PK)(x:PK):kO t (ps ++ [x])=if x.tm<t then wrap64 (kO t ps+x.sz) else kO t ps:=by simp [kO]
theorem G7{β:Type}(B:Nat)(t:TypeId)(cs:Array Value):_root_.Go.Own (fun (_:β) W=>aC W B t cs):=fun s X Y row hs hg hrow=>
 hs.grown hg (fun e=>by
  obtain⟨o,ho,hc⟩:=hrow B e.symm;have h2:X.heap[B]?=_:=hs;rw [h2] at ho;cases ho
  cases hc)
theorem H6(F:Fence)(n:Nat)(hB:F.fn 87)(hO:F.fn 115)(hI:F.fn 134)(hro:F.round=none)(hn:6<=n)(A:Option Addr)(len cap:Nat)(fl t:Int)(ps:List PK)(h60:len<=60)(w:World)(hps:bN w A len cap ps) :
 CallsIn F n Tryz.prog 87 #[.slice A len cap,.int .i64 fl,.int .i64 t] w fun e W'=>e = .returned (.int .i64 (kO t (aX fl ps)))/\Below w.heap.size w W':=by
 have h1:1<=n:=by omega
 have HT:=aA hps;clear hps;refine callsIn_of_wp_marks Tryz.func87 rfl hB ?_ hro;simp only [Tryz.ntmps87,List.size_toArray,List.length_cons,List.length_nil,Nat.reduceAdd,Nat.reduceSub,Array.replicate_succ,Array.replicate_zero,List.push_toArray,List.append_toArray,List.nil_append,List.cons_append]
 gi_wp2_with (gi_at_call 115;refine(a0y F (n-1) hO hro _ _ _ _ _).mono ?_;rintro e w' ⟨rfl,rfl⟩)
 have bT:=(((Boxed.new w 3 (.int .i64 t)).alloc (.cells #[.int .i64 0] 3)).alloc (.cells #[.slice A len cap] 46)).alloc (.cells #[.int .i64 fl] 3);have bS:=((Boxed.new (w.alloc (.cells #[.int .i64 t] 3)) 3 (.int .i64 0)).alloc (.cells #[.slice A len cap] 46)).alloc (.cells #[.int .i64 fl] 3);have bA:=(Boxed.new ((w.alloc (.cells #[.int .i64 t] 3)).alloc (.cells #[.int .i64 0] 3)) 46 (.slice A len cap)).alloc (.cells #[.int .i64 fl] 3);have bF:=Boxed.new (((w.alloc (.cells #[.int .i64 t] 3)).alloc (.cells #[.int .i64 0] 3)).alloc (.cells #[.slice A len cap] 46)) 3 (.int .i64 fl);simp only [World.size_alloc] at bT bS bA bF;have hB0:Below w.heap.size w ((((w.alloc (.cells #[.int .i64 t] 3)).alloc (.cells #[.int .i64 0] 3)).alloc (.cells #[.slice A len cap] 46)).alloc (.cells #[.int .i64 fl] 3)):=((((Below.refl _ w).alloc (Nat.le_refl _) _).alloc (by simp) _).alloc (by simp;omega) _).alloc (by simp;omega) _;have hsz:((((w.alloc (.cells #[.int .i64 t] 3)).alloc (.cells #[.int .i64 0] 3)).alloc (.cells #[.slice A len cap] 46)).alloc (.cells #[.int .i64 fl] 3)).heap.size=w.heap.size+4:=by simp
 obtain⟨W0,hW0⟩:∃W0,(((w.alloc (.cells #[.int .i64 t] 3)).alloc (.cells #[.int .i64 0] 3)).alloc (.cells #[.slice A len cap] 46)).alloc (.cells #[.int .i64 fl] 3)=W0:=⟨_,rfl⟩
 rw [hW0] at bT bS bA bF hB0 hsz ⊢;clear hW0;refine wpIn_rangeFunc_ownH hro h1 (gf:=134) (lb:=#[.pointer (some ⟨w.heap.size+1+1,0,none⟩),.pointer (some ⟨w.heap.size+1+1+1,0,none⟩)]) rfl hI (enters_of Tryz.func134 (by kernel_rfl) rfl)
  (a0z F (n-1) hI hro (by omega) (w.heap.size+1+1) w.heap.size len cap A fl ps HT.out.1 h60 W0 (by omega) (by omega) bA.cell bF.cell ?hc) eX.trans ?hKb (Below.refl _ _) (fun _=>rfl)
  (fun bU W=>(Boxed W (w.heap.size+1) 3 (.int .i64 (kO t (bU.map Prod.snd)))/\Boxed W w.heap.size 3 (.int .i64 t)/\Boxed W (w.heap.size+1+1+1) 3 (.int .i64 fl))/\Below w.heap.size w W)
  (fun _ _ _=>False)
  (OwnFrom.and (OwnFrom.and (Own.from (boxed_own _ _ (fun (bU:List (Nat × PK))=>Value.int .i64 (kO t (bU.map Prod.snd)))) _) (OwnFrom.and (Own.from (boxed_own _ _ (fun (bU:List (Nat × PK))=>Value.int .i64 t)) _) (Own.from (boxed_own _ _ (fun (bU:List (Nat × PK))=>Value.int .i64 fl)) _))) (ownFrom_below (Nat.le_refl _) (by omega)))
  (fun _ _ _ _ _ hs _ _=>hs)
  ⟨⟨bS,bT,bF⟩,hB0⟩
  (fun x a' W=>∃Bx,w.heap.size+3<Bx/\aC W Bx 71 #[.int .i64 x.2.fl,.int .i64 x.2.tm,.int .i64 x.2.sz]/\a'={ tmps:=#[.slice A len cap,.int .i64 fl,.int .i64 t,undef,undef,.pointer (some ⟨w.heap.size,0,none⟩),.int .i64 0,.pointer (some ⟨w.heap.size+1,0,none⟩),undef,.pointer (some ⟨Bx,0,none⟩),.slice A len cap,.int .i64 fl,.func (.func 134) #[] #[.pointer (some ⟨w.heap.size+1+1,0,none⟩),.pointer (some ⟨w.heap.size+1+1+1,0,none⟩)],.int .i64 x.1,x.2.val,undef,undef,undef,undef,undef,undef,undef,undef,undef],defers:=[] })
  (fun x a' _ X Y row hs hg hr=>by obtain⟨Bx,h1,h2,h3⟩:=hs;exact⟨Bx,h1,G7 (β:=Unit) Bx _ _ () X Y row h2 hg (fun r e=>(hr r e).2),h3⟩)
  ?assign ?body ?done ?stop
 case hc=>
  intro h;obtain⟨g,o,e,hr⟩:=HT.out.2.2 h;exact⟨g,o,e,hr.lt,hr.below hB0⟩
 case hKb=>
  intro W l o o' hl ho hc hw;refine⟨belowK_b (w:=W0) (by omega) W l o o' (by omega) ho hc hw,fun k h1 h2=>World.putObj_heap_other (by omega)⟩
 case assign=>
  rintro l bU x W K ⟨⟨bS1,bT1,bF1⟩,hB1⟩ hK;dsimp only [PK.val,wH] at *
  gi_wp2
  exact hK _ _ ((KeepsOthers.alloc _ _).from _) (eX.alloc W _ hB1.size (by have:=bF1.lt;omega)) ⟨⟨bS1.alloc _,bT1.alloc _,bF1.alloc _⟩,hB1.alloc hB1.size _⟩ ⟨W.heap.size,by have:=bF1.lt;omega,aC.new W _ _,rfl⟩
 case body=>
  rintro l bU x a' W hl ⟨r,hr⟩ ⟨⟨bS1,bT1,bF1⟩,hB1⟩ ⟨Bx,hBx,bX,rfl⟩ hlt;have cS:=bS1.cell;have fS:=bS1.frozen;have cT:=bT1.cell;have q1:=bX.cell 1;have q2:=bX.cell 2;simp at q1 q2;have HW:=aA (G9 t (bU.map Prod.snd) x.2);have hlS:=bS1.lt;have hlT:=bT1.lt;have hlX:=bX.lt;have BX:=aA bX;clear bX;by_cases hx:x.2.tm<t
  case pos=>
   have hd:decide (x.2.tm<t)=true:=decide_eq_true hx
   gi_wp2
   refine⟨(KeepsOthers.setCell _ _ _).from _,eX.set_ W ⟨w.heap.size+1,0,none⟩ _ (by simp) (by simp),⟨⟨?_,?_,?_⟩,hB1.setCell (p:=⟨w.heap.size+1,0,none⟩) (by simp) _⟩⟩
   ·rw [List.map_append,List.map_singleton,HW.out,if_pos hx];exact bS1.set _
   ·exact bT1.other (by omega) _
   ·exact bF1.other (by omega) _
  case neg=>
   have hd:decide (x.2.tm<t)=false:=decide_eq_false hx
   gi_wp2
   refine⟨KeepsFrom.refl _ _,eX.refl _ _ _,⟨⟨?_,bT1,bF1⟩,hB1⟩⟩
   rw [List.map_append,List.map_singleton,HW.out,if_neg (by omega)];exact bS1
 case done=>
  rintro D zs W hD hz ⟨⟨bS1,bT1,bF1⟩,hB1⟩ hK;rw [hz] at bS1;have cS:=bS1.cell;have hlS:=bS1.lt
  gi_wp2
  refine⟨by simp,.inl ⟨_,_,rfl,run_takeDeferred hK,?_⟩⟩
  exact⟨_,results_tmp rfl _ _ _,rfl,hB1.trans (belowK_b (w:=w) (Nat.le_refl _) W D _ _ (by omega) hK rfl rfl)⟩
 case stop=>
  rintro D c bU W _ _ h _;exact h.elim
def eY(t:Int)(ps:List PK):Int:=(ps.map (fun x=>if x.tm<t then x.sz else 0)).sum
theorem H5(t:Int)(ps:List PK)(hl:ps.length<=60)(hg:∀x∈ps,x.Good):kO t ps=eY t ps:=by
 have key:∀(l:List PK) (s:Int),(∀x∈l,x.Good)->0<=s->s+1500*(l.length:Int)<=1000000->l.foldl (fun s x=>if x.tm<t then wrap64 (s+x.sz) else s) s=s+(l.map (fun x=>if x.tm<t then x.sz else 0)).sum:=by
  intro l
  induction l with
  | nil=>intro s _ _ _;simp
  | cons x l ih=>
    intro s hg h0 hb;have gx:=hg x (by simp);unfold PK.Good at gx;simp only [List.length_cons] at hb
    push_cast at hb
    simp only [List.foldl_cons,List.map_cons,List.sum_cons];by_cases h:x.tm<t
    ·rw [if_pos h,if_pos h,show wrap64 (s+x.sz)=s+x.sz by unfold wrap64;omega,ih _ (fun y hy=>hg y (by simp [hy])) (by omega) (by omega)];omega
    ·rw [if_neg h,if_neg h,ih _ (fun y hy=>hg y (by simp [hy])) h0 (by omega)];omega
 unfold kO eY;rw [key ps 0 hg (Int.le_refl _) (by omega)];omega
theorem H1(A:Option Addr)(len cap:Nat)(fl t:Int)(ps:List PK)(w:World)(h:bN w A len cap ps)(hv:aM ps) :
 Calls Tryz.prog 87 #[.slice A len cap,.int .i64 fl,.int .i64 t] w fun e w'=>e = .returned (.int .i64 (eY t (aX fl ps)))/\Below w.heap.size w w':=by
 refine(callsIn_wide (n:=6)).1 ?_;rw [<- H5 t (aX fl ps) (by unfold aX;exact Nat.le_trans (List.length_filter_le _ _) hv.len) (fun x hx=>hv.good x (by unfold aX at hx;exact(List.mem_filter.1 hx).1))];exact H6 Fence.wide 6 trivial trivial trivial rfl (by omega) A len cap fl t ps (by rw [<- h.1];exact hv.len) w h
end
structure RS(σ:Type) where
 t:Nat
 on:Bool
 now:Option Nat
 rest:Int
 left:Int
 begun:List Bool
 done:List Int
 sent:List (List Int)
 sg:σ
def cM(sent:List (List Int))(c k:Nat)(n:Int):List (List Int):=sent.set c ((sent.getD c []).set k (aB (sent.getD c []) k+n))
inductive aQ {σ:Type} (cap:Int) (cls:Nat) (ps:List PK) (ticks:Nat) (Ch:RS σ->Int->σ->Prop) (sg0:σ):RS σ->Prop
 | start:aQ cap cls ps ticks Ch sg0 ⟨0,false,none,0,0,List.replicate ps.length false,List.replicate ps.length (-1),List.replicate cls [0],sg0⟩
 | tick (s:RS σ):aQ cap cls ps ticks Ch sg0 s->s.on=false->s.t<ticks->aQ cap cls ps ticks Ch sg0 { s with on:=true,left:=cap,sent:=s.sent.map (fun l=>l ++ [aB l s.t]) }
 | close (s:RS σ):aQ cap cls ps ticks Ch sg0 s->s.on=true->s.left<=0->aQ cap cls ps ticks Ch sg0 { s with on:=false,t:=s.t+1 }
 | idle (s:RS σ) (sg:σ):aQ cap cls ps ticks Ch sg0 s->s.on=true->0<s.left->s.now=none->Ch s (-1) sg->aQ cap cls ps ticks Ch sg0 { s with on:=false,t:=s.t+1,sg:=sg }
 | begin_ (s:RS σ) (sg:σ) (i:Nat) (x:PK):aQ cap cls ps ticks Ch sg0 s->s.on=true->0<s.left->s.now=none->Ch s i sg->ps[i]?=some x->aQ cap cls ps ticks Ch sg0 { s with now:=some i,rest:=x.sz,begun:=s.begun.set i true,sg:=sg }
 | send (s:RS σ) (i:Nat) (x:PK):aQ cap cls ps ticks Ch sg0 s->s.on=true->0<s.left->s.now=some i->ps[i]?=some x->s.left<s.rest->aQ cap cls ps ticks Ch sg0 { s with rest:=s.rest-s.left,left:=0,sent:=cM s.sent x.fl.toNat (s.t+1) s.left }
 | fin (s:RS σ) (i:Nat) (x:PK):aQ cap cls ps ticks Ch sg0 s->s.on=true->0<s.left->s.now=some i->ps[i]?=some x->s.rest<=s.left->aQ cap cls ps ticks Ch sg0 { s with now:=none,rest:=0,left:=s.left-s.rest,sent:=cM s.sent x.fl.toNat (s.t+1) s.rest,done:=s.done.set i s.t }
section
variable{σ:Type}{cap:Int}{cls:Nat}{ps:List PK}{ticks:Nat}{Ch:RS σ->Int->σ->Prop}{sg0:σ}{s:RS σ}
structure iO(cap:Int)(cls:Nat)(ps:List PK)(ticks:Nat)(s:RS σ):Prop where
 lb:s.begun.length=ps.length
 ld:s.done.length=ps.length
 ls:s.sent.length=cls
 lr:∀(c:Nat) (l:List Int),s.sent[c]?=some l->l.length=s.t+1+(if s.on then 1 else 0)
 tt:s.t<=ticks/\(s.on=true->s.t<ticks)
 nw:∀i,s.now=some i->1<=s.rest/\s.rest<=1500/\i<ps.length
 lf:s.on=true->0<=s.left/\s.left<=cap
 bd:∀(c:Nat) (l:List Int) (k:Nat),s.sent[c]?=some l->0<=aB l k/\aB l k<=cap*s.t+(if s.on then cap-s.left else 0)
theorem vC(sent:List (List Int))(c k:Nat)(n:Int):(cM sent c k n).length=sent.length:=by unfold cM;rw [List.length_set]
theorem pW{sent:List (List Int)}{c k:Nat}{n:Int}{d:Nat}{l:List Int}(h:(cM sent c k n)[d]?=some l):∃l0,sent[d]?=some l0/\(d≠c/\l=l0\/d=c/\l=l0.set k (aB l0 k+n)):=by
 unfold cM at h;by_cases e:c=d
 ·subst e;have hlt:c<sent.length:=by
   have:=(List.getElem?_eq_some_iff.1 h).1
   rwa [List.length_set] at this
  rw [List.getElem?_set_self hlt] at h;cases h
  refine⟨sent[c],List.getElem?_eq_getElem hlt,.inr ⟨rfl,?_⟩⟩
  simp [List.getD,hlt]
 ·rw [List.getElem?_set_ne e] at h;exact⟨l,h,.inl ⟨fun h=>e h.symm,rfl⟩⟩
theorem lP(l:List Int)(x:Int)(k:Nat):aB (l ++ [x]) k=if k<l.length then aB l k else if k=l.length then x else 0:=by
 unfold aB;by_cases h:k<l.length
 ·simp [h,List.getD,List.getElem?_append_left h]
 ·by_cases e:k=l.length
  ·simp [e]
  ·rw [if_neg h,if_neg e];have:l.length+1<=k:=by omega
   simp [List.getD,List.getElem?_eq_none (show(l ++ [x]).length<=k by simp;omega)]
theorem tD(l:List Int)(k j:Nat)(x:Int):aB (l.set k x) j=if j=k/\k<l.length then x else aB l j:=by
 by_cases h:k<l.length
 ·rw [eQ _ _ _ _ h];by_cases e:j=k
  ·rw [if_pos e,if_pos ⟨e,h⟩]
  ·rw [if_neg e,if_neg (fun h=>e h.1)]
 ·rw [if_neg (fun g=>h g.2),List.set_eq_of_length_le (by omega)]
theorem aQ.ok(hv:aM ps)(hc:1<=cap)(h:aQ cap cls ps ticks Ch sg0 s):iO cap cls ps ticks s:=by
 induction h with
 | start=>
   refine⟨by simp,by simp,by simp,fun c l h=>?_,⟨Nat.zero_le _,fun h=>(by cases h)⟩,fun i h=>(by cases h),fun h=>(by cases h),fun c l k h=>?_⟩
   ·have:=List.eq_of_mem_replicate (List.mem_of_getElem? h)
    rw [this];rfl
   ·have:=List.eq_of_mem_replicate (List.mem_of_getElem? h)
    rw [this];cases k with
    | zero=>simp [aB]
    | succ k=>simp [aB]
 | tick s _ hon ht ih=>
   have hlr:∀(c:Nat) (l:List Int),s.sent[c]?=some l->l.length=s.t+1:=fun c l h=>by have:=ih.lr c l h;rw [hon] at this;simpa using this
   refine⟨ih.lb,ih.ld,by simp [ih.ls],fun c l h=>?_,⟨ih.tt.1,fun _=>ht⟩,ih.nw,fun _=>⟨by simp only;omega,by simp only;omega⟩,fun c l k h=>?_⟩
   ·simp only [List.getElem?_map,Option.map_eq_some_iff] at h;obtain⟨l0,h0,rfl⟩:=h;simp [hlr c l0 h0]
   ·simp only [List.getElem?_map,Option.map_eq_some_iff] at h;obtain⟨l0,h0,rfl⟩:=h;have hb:=fun k=>ih.bd c l0 k h0
    simp only [hon] at hb;have h1:=hb k;have h2:=hb s.t;simp only [Bool.false_eq_true,if_false] at h1 h2;rw [lP];simp only [if_true];split
    ·omega
    ·split <;> omega
 | close s _ hon hl ih=>
   have hlf:=ih.lf hon;refine⟨ih.lb,ih.ld,ih.ls,fun c l h=>?_,⟨ih.tt.2 hon,fun h=>(by cases h)⟩,ih.nw,fun h=>(by cases h),fun c l k h=>?_⟩
   ·have:=ih.lr c l h
    simp only [hon,if_true] at this;simp [this]
   ·have:=ih.bd c l k h
    simp only [hon,if_true] at this;simp only [Bool.false_eq_true,if_false];have e:cap*((s.t+1:Nat):Int)=cap*s.t+cap:=by rw [Int.natCast_add,Int.mul_add];simp
    rw [e];omega
 | idle s sg _ hon hl hn hch ih=>
   have hlf:=ih.lf hon;refine⟨ih.lb,ih.ld,ih.ls,fun c l h=>?_,⟨ih.tt.2 hon,fun h=>(by cases h)⟩,ih.nw,fun h=>(by cases h),fun c l k h=>?_⟩
   ·have:=ih.lr c l h
    simp only [hon,if_true] at this;simp [this]
   ·have:=ih.bd c l k h
    simp only [hon,if_true] at this;simp only [Bool.false_eq_true,if_false];have e:cap*((s.t+1:Nat):Int)=cap*s.t+cap:=by rw [Int.natCast_add,Int.mul_add];simp
    rw [e];omega
 | begin_ s sg i x _ hon hl hn hch hx ih=>
   have gx:=hv.good x (List.mem_of_getElem? hx);unfold PK.Good at gx;refine⟨by simp [ih.lb],ih.ld,ih.ls,ih.lr,ih.tt,fun j hj=>?_,ih.lf,ih.bd⟩
   cases hj
   exact⟨gx.2.2.2.2.1,gx.2.2.2.2.2,(List.getElem?_eq_some_iff.1 hx).1⟩
 | send s i x _ hon hl hn hx hlt ih=>
   have hlf:=ih.lf hon;have hnw:=ih.nw i hn;refine⟨ih.lb,ih.ld,by simp [vC,ih.ls],fun c l h=>?_,ih.tt,fun j hj=>?_,fun _=>⟨by simp only;omega,by simp only;omega⟩,fun c l k h=>?_⟩
   ·obtain⟨l0,h0,⟨_,rfl⟩|⟨_,rfl⟩⟩:=pW h
    ·exact ih.lr c l h0
    ·rw [List.length_set];exact ih.lr c l0 h0
   ·have:j=i:=by
     have h2:s.now=some j:=hj;rw [hn] at h2;cases h2
     rfl
    subst this;exact⟨by simp only;omega,by simp only;omega,hnw.2.2⟩
   ·obtain⟨l0,h0,h1⟩:=pW h;have hb:=fun k=>ih.bd c l0 k h0
    simp only [hon,if_true] at hb ⊢;have b1:=hb k;have b2:=hb (s.t+1);rcases h1 with ⟨_,rfl⟩|⟨_,rfl⟩
    ·omega
    ·rw [tD];split <;> omega
 | fin s i x _ hon hl hn hx hlt ih=>
   have hlf:=ih.lf hon;have hnw:=ih.nw i hn;refine⟨ih.lb,by simp [ih.ld],by simp [vC,ih.ls],fun c l h=>?_,ih.tt,fun j hj=>(by cases hj),fun _=>⟨by simp only;omega,by simp only;omega⟩,fun c l k h=>?_⟩
   ·obtain⟨l0,h0,⟨_,rfl⟩|⟨_,rfl⟩⟩:=pW h
    ·exact ih.lr c l h0
    ·rw [List.length_set];exact ih.lr c l0 h0
   ·obtain⟨l0,h0,h1⟩:=pW h;have hb:=fun k=>ih.bd c l0 k h0
    simp only [hon,if_true] at hb ⊢;have b1:=hb k;have b2:=hb (s.t+1);rcases h1 with ⟨_,rfl⟩|⟨_,rfl⟩
    ·omega
    ·rw [tD];split <;> omega
end
def cV(w:World)(g C:Nat)(l:List Int):Prop:=l.length<=C/\C<=1000000/\∃cur:Array Value,w.heap[g]?=some (.cells cur 3 (0,0))/\cur.size=C/\cur.toList.take l.length=l.map (Value.int .i64)
section
variable{w w':World}{g C:Nat}{l:List Int}{X:Nat->Prop}
theorem cV.lt(h:cV w g C l):g<w.heap.size:=by
 obtain⟨_,_,cur,hh,_⟩:=h;rcases Nat.lt_or_ge g w.heap.size with hlt|hge
 ·exact hlt
 ·rw [Array.getElem?_eq_none hge] at hh;cases hh
theorem cV.own(h:cV w g C l):w.ownsRow 0 3 1 (.slice (some ⟨g,0,none⟩) l.length C) l.length (l.map (Value.int .i64)):=by
 obtain⟨h1,h2,cur,hh,hc,ht⟩:=h;exact⟨by simp,.inr ⟨g,C,cur,rfl,Nat.zero_le _,hh,h1,by unfold maxLen;omega,by omega,by rw [Nat.mul_one];exact ht⟩⟩
theorem cV.of{k:Nat}(h:w.ownsRow 0 3 1 (.slice (some ⟨g,0,none⟩) k C) k (l.map (Value.int .i64)))(hC:C<=1000000):cV w g C l:=by
 obtain⟨h1,h2 | ⟨g',cap,cur,hv,_,hh,hnc,_,hcs,hcur⟩⟩:=h
 ·cases h2.1
 ·injection hv with e1 e2 e3
  injection e1 with e1
  injection e1 with e1
  subst e1 e3;simp at h1;subst h1;exact⟨hnc,hC,cur,hh,by omega,by rw [Nat.mul_one] at hcur;exact hcur⟩
theorem cV.kx(h:cV w g C l)(k:KX X w w')(hx:¬X g):cV w' g C l:=by
 obtain⟨h1,h2,cur,hh,hr⟩:=id h;exact⟨h1,h2,cur,(k.block g h.lt hx).trans hh,hr⟩
theorem cV.cell(h:cV w g C l){k:Nat}(hk:k<l.length):w.cell? ⟨g,k,none⟩=some (.int .i64 (aB l k)):=by
 obtain⟨h1,h2,cur,hh,hc,ht⟩:=h;have e:(cur.toList.take l.length)[k]?=some (.int .i64 (aB l k)):=by
  rw [ht];simp [aB,List.getD,hk]
 rw [List.getElem?_take,if_pos hk,Array.getElem?_toList] at e;simp [World.cell?,hh,e]
theorem cV.frozen(h:cV w g C l)(k:Nat):w.frozen? ⟨g,k,none⟩=false:=by
 obtain⟨h1,h2,cur,hh,_⟩:=h;simp [World.frozen?,hh]
theorem cV.set_(h:cV w g C l){k:Nat}(hk:k<l.length)(x:Int):cV (w.setCell ⟨g,k,none⟩ (.int .i64 x)) g C (l.set k x):=by
 obtain⟨h1,h2,cur,hh,hc,ht⟩:=id h;refine⟨by rw [List.length_set];exact h1,h2,cur.setIfInBounds k (.int .i64 x),?_,by simp [hc],?_⟩
 ·have hb:aC w g 3 cur:=hh;exact hb.set_ k _
 ·rw [List.length_set,Array.toList_setIfInBounds,List.take_set,ht,List.map_set]
end
structure SN(w:World)(gS:Nat)(gcs:List Nat)(C:Nat)(sent:List (List Int)):Prop where
 ln:gcs.length=sent.length
 tb:aC w gS 22 ((gcs.zip sent).map (fun p=>Value.slice (some ⟨p.1,0,none⟩) p.2.length C)).toArray
 row:∀(c g:Nat) (l:List Int),gcs[c]?=some g->sent[c]?=some l->cV w g C l
structure B8(B g1 gD gS gs gB M:Nat)(gcs:List Nat):Prop where
 a1:B<gD/\B<gS/\B<g1
 a2:gD≠gS/\gD≠g1/\gS≠g1
 a3:gD<M/\gS<M/\g1<M
 a4:∀(c g:Nat),gcs[c]?=some g->M<=g/\g<gB
 a5:gB<gs/\M<=gB
 a6:∀(c d g:Nat),gcs[c]?=some g->gcs[d]?=some g->c=d
section
variable{w w':World}{gS C:Nat}{gcs:List Nat}{sent:List (List Int)}{X:Nat->Prop}
theorem SN.kx(h:SN w gS gcs C sent)(k:KX X w w')(hS:¬X gS)(hr:∀(c g:Nat),gcs[c]?=some g->¬X g):SN w' gS gcs C sent:=
 ⟨h.ln,h.tb.kx k hS,fun c g l hg hl=>(h.row c g l hg hl).kx k (hr c g hg)⟩
theorem SN.get(h:SN w gS gcs C sent){c:Nat}{l:List Int}(hl:sent[c]?=some l):∃g,gcs[c]?=some g/\w.cell? ⟨gS,c,none⟩=some (.slice (some ⟨g,0,none⟩) l.length C)/\cV w g C l:=by
 have hc:c<sent.length:=(List.getElem?_eq_some_iff.1 hl).1;obtain⟨g,hg⟩:∃g,gcs[c]?=some g:=⟨_,List.getElem?_eq_getElem (by rw [h.ln];exact hc)⟩
 refine⟨g,hg,?_,h.row c g l hg hl⟩
 have hz:(gcs.zip sent)[c]?=some (g,l):=List.getElem?_zip_eq_some.2 ⟨hg,hl⟩;rw [h.tb.cell c,List.getElem?_toArray,List.getElem?_map,hz]
 rfl
end
structure cK{σ:Type}(B g1 gD gS gs gB M:Nat)(gcs:List Nat)(A:Option Addr)(n c:Nat)(ps:List PK)(C cls:Nat)(HR:σ->World->Prop)(own:Nat->Prop)(w wr:World)(tt lf:Int)(s:RS σ):Prop where
 d:B8 B g1 gD gS gs gB M gcs
 lo:∀k,own k->k<B
 r10:aC wr B 62 #[.slice none 0 0,.slice none 0 0]
 r11:aC wr g1 62 #[.slice (some ⟨gD,0,none⟩) n n,.slice (some ⟨gS,0,none⟩) cls cls]
 dn:aN wr gD s.done
 sn:SN wr gS gcs C s.sent
 se:∃bef,SE wr gs tt lf A n c ps (some ⟨gB,0,none⟩) s.begun bef
 bb:eI wr gB s.begun
 hr:HR s.sg wr
 kx:KX own w wr
 ws:w.heap.size=B
 tb:∀g o,0<n->A=some ⟨g,o,none⟩->g<B/\¬own g
section
variable{σ:Type}{B g1 gD gS gs gB M:Nat}{gcs:List Nat}{A:Option Addr}{n c:Nat}{ps:List PK}{C cls:Nat}{HR:σ->World->Prop}{own:Nat->Prop}{w wr w2:World}{tt lf:Int}{s:RS σ}
theorem SE.kx{t left:Int}{Bg:Option Addr}{bs:List Bool}{bef:Nat}{X:Nat->Prop}(h:SE wr gs t left A n c ps Bg bs bef)(k:KX X wr w2)(h1:¬X gs)(h2:∀g o,0<n->A=some ⟨g,o,none⟩->¬X g)(h3:∀g,0<n->Bg=some ⟨g,0,none⟩->¬X g):SE w2 gs t left A n c ps Bg bs bef:=
 ⟨h.st.kx k h1,h.tr.kx k h2,h.bl,fun h0=>by
  obtain⟨gb,e,hB,hne⟩:=h.bg h0;exact⟨gb,e,hB.kx k (h3 gb h0 e),hne⟩,h.trn,h.bb⟩
theorem cK.keep{X:Nat->Prop}(hst:∀(sg:σ) (w w':World) (X:Nat->Prop),HR sg w->KX X w w'->(∀k,own k->¬X k)->HR sg w')(h:cK B g1 gD gS gs gB M gcs A n c ps C cls HR own w wr tt lf s)(k:KX X wr w2)(hx:∀j,X j->wr.heap.size<=j):cK B g1 gD gS gs gB M gcs A n c ps C cls HR own w w2 tt lf s:=by
 obtain⟨a1,a2,a3,a4,a5,a6⟩:=h.d;have nx:∀j,j<wr.heap.size->¬X j:=fun j hj hxj=>by have:=hx j hxj;omega
 have hB:=h.r10.lt;obtain⟨bef,he⟩:=h.se;refine⟨h.d,h.lo,h.r10.kx k (nx _ hB),h.r11.kx k (nx _ h.r11.lt),h.dn.kx k (nx _ h.dn.lt),h.sn.kx k (nx _ h.sn.tb.lt) (fun c g hg=>nx g (by have:=a4 c g hg;have:=h.bb.lt;omega)),⟨bef,he.kx k (nx _ he.st.lt) (fun g o h0 e=>nx g (by have:=(h.tb g o h0 e).1;omega)) (fun g h0 e=>nx g (by cases e;exact h.bb.lt))⟩,h.bb.kx k (nx _ h.bb.lt),hst _ _ _ _ h.hr k (fun j hj=>nx j (by have:=h.lo j hj;omega)),?_,h.ws,h.tb⟩
 exact h.kx.trans (k.mono (fun j hj hxj=>absurd hxj (nx j hj)))
theorem bG(w:World)(g i:Nat)(v:Value):KX (fun k=>k=g) w (w.setCell ⟨g,i,none⟩ v):=(KX.refl (fun k=>k=g) w).set_ (p:=⟨g,i,none⟩) rfl v
theorem nD(hk:KX own w wr){g:Nat}(hg:w.heap.size<=g)(k:KX (fun k=>k=g) wr w2):KX own w w2:=
 ⟨k.os.trans hk.os,k.tape.trans hk.tape,k.output.trans hk.output,Nat.le_trans hk.size k.size,fun j hj hx=>(k.block j (Nat.lt_of_lt_of_le hj hk.size) (by omega)).trans (hk.block j hj hx)⟩
theorem S6(bs:List Bool)(i:Nat):dJ bs<=dJ (bs.set i true):=by
 unfold dJ
 induction bs generalizing i with
 | nil=>simp
 | cons b bs ih=>
   cases i with
   | zero=>
     cases b with
     | true=>simp
     | false=>simp
   | succ i=>
     cases b with
     | true=>simpa using ih i
     | false=>simp
theorem eI.set_{g:Nat}{bs:List Bool}(h:eI w g bs)(i:Nat)(b:Bool):eI (w.setCell ⟨g,i,none⟩ (.bool b)) g (bs.set i b):=by
 have hb:aC w g 4 (bs.map Value.bool).toArray:=h;have:=hb.set_ i (.bool b)
 rw [List.setIfInBounds_toArray] at this;unfold eI;rw [List.map_set];exact this
theorem SN.row_set{gS:Nat}{sent:List (List Int)}(hs:SN wr gS gcs C sent){i g k:Nat}{l:List Int}(hg:gcs[i]?=some g)(hl:sent[i]?=some l)(hk:k<l.length)(hgS:g≠gS)(hd:∀(c d g:Nat),gcs[c]?=some g->gcs[d]?=some g->c=d)(x:Int):SN (wr.setCell ⟨g,k,none⟩ (.int .i64 x)) gS gcs C (sent.set i (l.set k x)):=by
 have kk:=bG wr g k (.int .i64 x);have hi:i<sent.length:=(List.getElem?_eq_some_iff.1 hl).1;refine⟨by rw [List.length_set];exact hs.ln,?_,fun c g' l' hg' hl'=>?_⟩
 ·have e:((gcs.zip (sent.set i (l.set k x))).map (fun p=>Value.slice (some ⟨p.1,0,none⟩) p.2.length C))=((gcs.zip sent).map (fun p=>Value.slice (some ⟨p.1,0,none⟩) p.2.length C)):=by
   apply List.ext_getElem?
   intro j;rw [List.getElem?_map,List.getElem?_map];by_cases e:i=j
   ·subst e;have e1:(gcs.zip (sent.set i (l.set k x)))[i]?=some (g,l.set k x):=List.getElem?_zip_eq_some.2 ⟨hg,List.getElem?_set_self hi⟩;have e2:(gcs.zip sent)[i]?=some (g,l):=List.getElem?_zip_eq_some.2 ⟨hg,hl⟩;rw [e1,e2];simp
   ·have e1:(gcs.zip (sent.set i (l.set k x)))[j]?=(gcs.zip sent)[j]?:=by
     simp [List.zip,List.getElem?_zipWith,List.getElem?_set_ne e]
    rw [e1]
  rw [e];exact hs.tb.kx kk (fun e=>hgS e.symm)
 ·by_cases e:i=c
  ·subst e;rw [hg] at hg';cases hg'
   rw [List.getElem?_set_self hi] at hl';cases hl'
   exact(hs.row i g l hg hl).set_ hk x
  ·rw [List.getElem?_set_ne e] at hl';refine(hs.row c g' l' hg' hl').kx kk (fun h=>?_);subst h;exact e (hd _ _ _ hg hg')
theorem SN.app{gS:Nat}{sent:List (List Int)}(hs:SN wr gS gcs C sent){i g:Nat}{l:List Int}{x:Int}(hg:gcs[i]?=some g)(hl:sent[i]?=some l)(hgS:∀(c g:Nat),gcs[c]?=some g->g≠gS)(hd:∀(c d g:Nat),gcs[c]?=some g->gcs[d]?=some g->c=d)
 (hk:KX (fun k=>k=g) wr w2) (hr:cV w2 g C (l ++ [x])):SN (w2.setCell ⟨gS,i,none⟩ (.slice (some ⟨g,0,none⟩) (l.length+1) C)) gS gcs C (sent.set i (l ++ [x])):=by
 have kk:=bG w2 gS i (.slice (some ⟨g,0,none⟩) (l.length+1) C);have hi:i<sent.length:=(List.getElem?_eq_some_iff.1 hl).1;refine⟨by rw [List.length_set];exact hs.ln,?_,fun c g' l' hg' hl'=>?_⟩
 ·have e:((gcs.zip (sent.set i (l ++ [x]))).map (fun p=>Value.slice (some ⟨p.1,0,none⟩) p.2.length C))=((gcs.zip sent).map (fun p=>Value.slice (some ⟨p.1,0,none⟩) p.2.length C)).set i (.slice (some ⟨g,0,none⟩) (l.length+1) C):=by
   apply List.ext_getElem?
   intro j;by_cases e:i=j
   ·subst e;have e1:(gcs.zip (sent.set i (l ++ [x])))[i]?=some (g,l ++ [x]):=List.getElem?_zip_eq_some.2 ⟨hg,List.getElem?_set_self hi⟩;rw [List.getElem?_map,e1,List.getElem?_set_self (by rw [List.length_map,List.length_zip,hs.ln];omega)];simp
   ·have e1:(gcs.zip (sent.set i (l ++ [x])))[j]?=(gcs.zip sent)[j]?:=by
     simp [List.zip,List.getElem?_zipWith,List.getElem?_set_ne e]
    rw [List.getElem?_set_ne e,List.getElem?_map,List.getElem?_map,e1]
  rw [e];have hb:=(hs.tb.kx hk (fun e=>hgS i g hg e.symm)).set_ i (.slice (some ⟨g,0,none⟩) (l.length+1) C);rw [List.setIfInBounds_toArray] at hb;exact hb
 ·by_cases e:i=c
  ·subst e;rw [hg] at hg';cases hg'
   rw [List.getElem?_set_self hi] at hl';cases hl'
   exact hr.kx kk (fun e=>hgS i g hg e)
  ·rw [List.getElem?_set_ne e] at hl';refine((hs.row c g' l' hg' hl').kx hk (fun h=>?_)).kx kk (fun h=>hgS c g' hg' h);subst h;exact e (hd _ _ _ hg hg')
section
variable(hst:∀(sg:σ) (w w':World) (X:Nat->Prop),HR sg w->KX X w w'->(∀k,own k->¬X k)->HR sg w')(h:cK B g1 gD gS gs gB M gcs A n c ps C cls HR own w wr tt lf s)
include hst h
theorem cK.done_(i:Nat)(v:Int):cK B g1 gD gS gs gB M gcs A n c ps C cls HR own w (wr.setCell ⟨gD,i,none⟩ (.int .i64 v)) tt lf { s with done:=s.done.set i v }:=by
 obtain⟨a1,a2,a3,a4,a5,a6⟩:=h.d;obtain⟨bef,he⟩:=h.se;have k:=bG wr gD i (.int .i64 v);have hw:=h.ws;exact⟨h.d,h.lo,h.r10.kx k (by omega),h.r11.kx k (by omega),h.dn.set_ i v,h.sn.kx k (by omega) (fun c g hg=>by have:=a4 c g hg;omega),
  ⟨bef,he.kx k (by omega) (fun g o h0 e=>by have:=(h.tb g o h0 e).1;omega) (fun g h0 e=>by cases e;omega)⟩,h.bb.kx k (by omega),hst _ _ _ _ h.hr k (fun j hj=>by have:=h.lo j hj;omega),nD h.kx (by omega) k,h.ws,h.tb⟩
theorem cK.begun_(i:Nat):cK B g1 gD gS gs gB M gcs A n c ps C cls HR own w (wr.setCell ⟨gB,i,none⟩ (.bool true)) tt lf { s with begun:=s.begun.set i true }:=by
 obtain⟨a1,a2,a3,a4,a5,a6⟩:=h.d;obtain⟨bef,he⟩:=h.se;have k:=bG wr gB i (.bool true);have hw:=h.ws;exact⟨h.d,h.lo,h.r10.kx k (by omega),h.r11.kx k (by omega),h.dn.kx k (by omega),h.sn.kx k (by omega) (fun c g hg=>by have:=a4 c g hg;omega),
  ⟨bef,he.st.kx k (by omega),he.tr.kx k (fun g o h0 e=>by have:=(h.tb g o h0 e).1;omega),by simp [he.bl],fun h0=>⟨gB,rfl,h.bb.set_ i true,by omega⟩,he.trn,Nat.le_trans he.bb (S6 _ _)⟩,h.bb.set_ i true,hst _ _ _ _ h.hr k (fun j hj=>by have:=h.lo j hj;omega),nD h.kx (by omega) k,h.ws,h.tb⟩
theorem cK.left_(x:Int):cK B g1 gD gS gs gB M gcs A n c ps C cls HR own w (wr.setCell ⟨gs,1,none⟩ (.int .i64 x)) tt x s:=by
 obtain⟨a1,a2,a3,a4,a5,a6⟩:=h.d;obtain⟨bef,he⟩:=h.se;have k:=bG wr gs 1 (.int .i64 x);have hw:=h.ws;exact⟨h.d,h.lo,h.r10.kx k (by omega),h.r11.kx k (by omega),h.dn.kx k (by omega),h.sn.kx k (by omega) (fun c g hg=>by have:=a4 c g hg;omega),
  ⟨bef,by simpa using he.st.set_ 1 (.int .i64 x),he.tr.kx k he.trn,he.bl,fun h0=>⟨gB,rfl,h.bb.kx k (by omega),by omega⟩,he.trn,he.bb⟩,h.bb.kx k (by omega),hst _ _ _ _ h.hr k (fun j hj=>by have:=h.lo j hj;omega),nD h.kx (by omega) k,h.ws,h.tb⟩
theorem cK.now_(x:Int):cK B g1 gD gS gs gB M gcs A n c ps C cls HR own w (wr.setCell ⟨gs,0,none⟩ (.int .i64 x)) x lf s:=by
 obtain⟨a1,a2,a3,a4,a5,a6⟩:=h.d;obtain⟨bef,he⟩:=h.se;have k:=bG wr gs 0 (.int .i64 x);have hw:=h.ws;exact⟨h.d,h.lo,h.r10.kx k (by omega),h.r11.kx k (by omega),h.dn.kx k (by omega),h.sn.kx k (by omega) (fun c g hg=>by have:=a4 c g hg;omega),
  ⟨bef,by simpa using he.st.set_ 0 (.int .i64 x),he.tr.kx k he.trn,he.bl,fun h0=>⟨gB,rfl,h.bb.kx k (by omega),by omega⟩,he.trn,he.bb⟩,h.bb.kx k (by omega),hst _ _ _ _ h.hr k (fun j hj=>by have:=h.lo j hj;omega),nD h.kx (by omega) k,h.ws,h.tb⟩
omit hst in
theorem cK.chosen{sg':σ}(k:KX (fun k=>k=gs\/own k) wr w2){b2:Nat}(he:SE w2 gs tt lf A n c ps (some ⟨gB,0,none⟩) s.begun b2)(hr:HR sg' w2):cK B g1 gD gS gs gB M gcs A n c ps C cls HR own w w2 tt lf { s with sg:=sg' }:=by
 obtain⟨a1,a2,a3,a4,a5,a6⟩:=h.d;have hw:=h.ws;have lo:∀j,B<=j->¬own j:=fun j hj ho=>by have:=h.lo j ho;omega
 refine⟨h.d,h.lo,h.r10.kx k ?_,h.r11.kx k ?_,h.dn.kx k ?_,h.sn.kx k ?_ (fun c g hg=>?_),⟨b2,he⟩,h.bb.kx k ?_,hr,?_,h.ws,h.tb⟩
 ·rintro (e|e)
  ·omega
  ·exact lo _ (by omega) e
 ·rintro (e|e)
  ·omega
  ·exact lo _ (by omega) e
 ·rintro (e|e)
  ·omega
  ·exact lo _ (by omega) e
 ·rintro (e|e)
  ·omega
  ·exact lo _ (by omega) e
 ·have:=a4 c g hg
  rintro (e|e)
  ·omega
  ·exact lo _ (by omega) e
 ·rintro (e|e)
  ·omega
  ·exact lo _ (by omega) e
 ·refine⟨k.os.trans h.kx.os,k.tape.trans h.kx.tape,k.output.trans h.kx.output,Nat.le_trans h.kx.size k.size,fun j hj hx=>(k.block j (Nat.lt_of_lt_of_le hj h.kx.size) ?_).trans (h.kx.block j hj hx)⟩
  rintro (e|e)
  ·omega
  ·exact hx e
theorem cK.sent_{i g k:Nat}{l:List Int}(hg:gcs[i]?=some g)(hl:s.sent[i]?=some l)(hk:k<l.length)(x:Int):cK B g1 gD gS gs gB M gcs A n c ps C cls HR own w (wr.setCell ⟨g,k,none⟩ (.int .i64 x)) tt lf { s with sent:=s.sent.set i (l.set k x) }:=by
 obtain⟨a1,a2,a3,a4,a5,a6⟩:=h.d;obtain⟨bef,he⟩:=h.se;have kk:=bG wr g k (.int .i64 x);have hw:=h.ws;have hgg:=a4 i g hg;exact⟨h.d,h.lo,h.r10.kx kk (by omega),h.r11.kx kk (by omega),h.dn.kx kk (by omega),h.sn.row_set hg hl hk (by omega) a6 x,
  ⟨bef,he.kx kk (by omega) (fun g o h0 e=>by have:=(h.tb g o h0 e).1;omega) (fun g h0 e=>by cases e;omega)⟩,h.bb.kx kk (by omega),hst _ _ _ _ h.hr kk (fun j hj=>by have:=h.lo j hj;omega),nD h.kx (by omega) kk,h.ws,h.tb⟩
theorem cK.app_{i g:Nat}{l:List Int}{x:Int}(hg:gcs[i]?=some g)(hl:s.sent[i]?=some l)(hk:KX (fun k=>k=g) wr w2)(hr:cV w2 g C (l ++ [x])) :
 cK B g1 gD gS gs gB M gcs A n c ps C cls HR own w (w2.setCell ⟨gS,i,none⟩ (.slice (some ⟨g,0,none⟩) (l.length+1) C)) tt lf { s with sent:=s.sent.set i (l ++ [x]) }:=by
 obtain⟨a1,a2,a3,a4,a5,a6⟩:=h.d;obtain⟨bef,he⟩:=h.se;have kk:=(hk.mono (Y:=fun k=>k=g\/k=gS) (fun _ _ e=>.inl e)).trans ((bG w2 gS i (.slice (some ⟨g,0,none⟩) (l.length+1) C)).mono (Y:=fun k=>k=g\/k=gS) (fun _ _ e=>.inr e));have hw:=h.ws;have hgg:=a4 i g hg;refine⟨h.d,h.lo,h.r10.kx kk (by omega),h.r11.kx kk (by omega),h.dn.kx kk (by omega),h.sn.app hg hl (fun c g hg=>by have:=a4 c g hg;omega) a6 hk hr,
  ⟨bef,he.kx kk (by omega) (fun g o h0 e=>by have:=(h.tb g o h0 e).1;omega) (fun g h0 e=>by cases e;omega)⟩,h.bb.kx kk (by omega),hst _ _ _ _ h.hr kk (fun j hj=>by have:=h.lo j hj;omega),?_,h.ws,h.tb⟩
 refine⟨kk.os.trans h.kx.os,kk.tape.trans h.kx.tape,kk.output.trans h.kx.output,Nat.le_trans h.kx.size kk.size,fun j hj hx=>(kk.block j (Nat.lt_of_lt_of_le hj h.kx.size) ?_).trans (h.kx.block j hj hx)⟩
 omega
theorem cK.alloc(o:Obj):cK B g1 gD gS gs gB M gcs A n c ps C cls HR own w (wr.alloc o) tt lf s:=
 h.keep hst (X:=fun _=>False) (KX.of (aF wr o)) (fun _ hx=>hx.elim)
theorem cK.drewN(k:Nat):cK B g1 gD gS gs gB M gcs A n c ps C cls HR own w (wr.drewN k) tt lf s:=
 h.keep hst (X:=fun _=>False) ((KX.refl _ wr).drewN k) (fun _ hx=>hx.elim)
end
end
def endN(ps:List PK):Nat:=match ps.getLast? with|none=>0|some x=>(x.tm+1).toNat
def aV(fl:Int)(ps:List PK)(t:Int):Int:=eY t (aX fl ps)
theorem sI{ps:List PK}{n:Nat}{x:PK}(hn:ps.length=n+1)(hx:ps[n]?=some x)(h0:0<=x.tm):(endN ps:Int)=x.tm+1:=by
 unfold endN;rw [List.getLast?_eq_getElem?,hn,Nat.add_sub_cancel,hx];simp only
 omega
theorem wI{ps:List PK}(hv:aM ps):endN ps<=2001:=by
 unfold endN;cases h:ps.getLast? with
 | none=>simp
 | some x=>
   have:=hv.good x (List.mem_of_getLast? h)
   unfold PK.Good at this;simp only
   omega
theorem G8{t:Int}{ps:List PK}(hg:∀x∈ps,x.Good):0<=eY t ps/\eY t ps<=1500*(ps.length:Int):=by
 unfold eY
 induction ps with
 | nil=>simp
 | cons x l ih=>
   have h1:=ih (fun y hy=>hg y (by simp [hy]));have gx:=hg x (by simp);unfold PK.Good at gx;simp only [List.map_cons,List.sum_cons,List.length_cons]
   push_cast
   by_cases h:x.tm<t
   ·rw [if_pos h];omega
   ·rw [if_neg h];omega
theorem a3k{fl:Int}{ps:List PK}(hv:aM ps):∀x∈aX fl ps,x.Good:=fun x hx=>hv.good x (by unfold aX at hx;exact(List.mem_filter.1 hx).1)
theorem a3l(fl:Int)(ps:List PK):(aX fl ps).length<=ps.length:=by unfold aX;exact List.length_filter_le _ _
theorem lG{fl t:Int}{ps:List PK}(hv:aM ps):0<=aV fl ps t/\aV fl ps t<=90000:=by
 have h1:=G8 (t:=t) (a3k (fl:=fl) hv);have h2:=a3l fl ps;have h3:=hv.len;unfold aV;omega
theorem R8(A:Option Addr)(n c:Nat)(ps:List PK)(w:World)(h:bN w A n c ps)(hv:aM ps) :
 Calls Tryz.prog 123 #[.slice A n c] w fun e w'=>e = .returned (.int .i64 (endN ps))/\Below w.heap.size w w':=by
 have hl:=h.1;have hn60:=hv.len;cases n with
 | zero=>
   have:ps = []:=List.eq_nil_of_length_eq_zero hl
   subst this;clear hl h;go_enter Tryz.func123,Tryz.ntmps123
   go_wp2_with fail
   go_ret
   exact⟨rfl,Below.refl _ _⟩
 | succ m=>
   obtain⟨g,o,rfl,hr⟩:=h.2.2 (by omega);obtain⟨x,hx,x0,x1,x2⟩:=hr.get (k:=m) (by omega);have hgl:=hr.lt;have hg:=hv.good x (List.mem_of_getElem? hx);unfold PK.Good at hg;obtain⟨g1,g2,g3,g4,g5,g6⟩:=hg;have HE:=aA (sI hl hx g3);have e1:((m:Int)+1 == 0)=false:=by simp;omega
   have hm:m<=60:=by omega
   clear h hr hx hl hn60;go_enter Tryz.func123,Tryz.ntmps123
   go_wp2_with fail
   go_ret
   exact⟨iV HE.out.symm,Below.refl _ _⟩
def iJ(fl:Int)(ps:List PK):List Int:=aZ (fun t=>aV fl ps t) 0 (endN ps+1)
def uS(fl:Int)(ps:List PK)(w:World)(e:Ending)(w':World):Prop:=
 ∃b,w.heap.size<=b/\e = .returned (.slice (some ⟨b,0,none⟩) (endN ps+1) (endN ps+1))/\aN w' b (iJ fl ps)/\Below w.heap.size w w'
theorem a4q(A:Option Addr)(n c:Nat)(fl:Int)(ps:List PK)(w:World)(h:bN w A n c ps)(hv:aM ps) :
 Calls Tryz.prog 99 #[.slice A n c,.int .i64 fl] w (uS fl ps w):=by
 obtain⟨N,hN⟩:∃N,N=endN ps:=⟨_,rfl⟩
 have hN2:N<=2001:=by rw [hN];exact wI hv
 have HN:=aA hN;have HT:=aA h;have HV:=aA hv;have HE:=aA (R8 A n c ps w h hv);rw [<- hN] at HE;clear hN h hv;obtain⟨i0,hi0,hz0,hz1,hz2⟩:=info_parts iE;go_enter Tryz.func99,Tryz.ntmps99
 go_wp2_with fail
 refine HE.out.mono ?_;rintro e w1 ⟨rfl,hb1⟩;clear HE;have BW:=aA hb1;have hs1:w.heap.size<=w1.heap.size:=BW.out.size;clear hb1;go_wp2_with (at_make;refine wpList_make_full _ rfl _ _ 22 rfl w1.heap.size 3 i0 _ 1 Tryz.underlying22 hi0 hz0 hz1 .i64 .i64 _ _ (N+1) rfl rfl rfl rfl (by rw [hz2];omega) (by unfold maxLen;omega) (by simp) ?_;intro w2 own2 iD)
 have bw2:Below w1.heap.size w1 w2:=(Below.refl _ _).grown iD (by simp) (by simp);have ib2:=aN.made own2 (by omega);have IB:=aA ib2;have BW:=aA (aD BW.out bw2);clear own2 iD hi0 hz0 hz1 hz2 bw2 ib2;generalize hbb:w1.heap.size=b at *;clear hbb;go_loopg [13,6] (N+1) (fun gg s13 s6 wr=>∃(k:Nat) (zs:List Int),k+gg=N+1/\s13 = .int .i64 k/\Hid (zs.length=N+1/\∀j,j<k->aB zs j=aV fl ps j)/\Hid (aN wr b zs)/\Hid (Below w.heap.size w wr))
 case atStart=>exact⟨0,List.replicate (N+1) 0,by omega,rfl,⟨by simp,fun j hj=>by omega⟩,IB,BW⟩
 case round=>
  clear IB BW;obtain⟨k,zs,hkg,rfl,HZ,IB,BW⟩:=hrel;by_cases hk:k<N+1
  case pos=>
   have hki:(k:Int)<(N:Int)+1:=by omega
   have hlb:=IB.out.lt;have HB:=aA (H1 A n c fl k ps wr (HT.out.below BW.out) HV.out);go_wp2_with fail
   refine HB.out.mono ?_;rintro e w3 ⟨rfl,hb3⟩;clear HB;obtain⟨x,hx⟩:∃x,x=eY k (aX fl ps):=⟨_,rfl⟩
   rw [<- hx];have HX:=aA hx;have IB:=aA (IB.out.below hb3 hlb);have BW:=aA (aD BW.out hb3);have fz:=IB.out.frozen k;have cz:=IB.out.cell k (by rw [HZ.out.1];exact hk);have hl2:=IB.out.lt;have IB3:=aA (IB.out.set_ k x);have BW3:=aA (BW.out.setCell (p:=⟨b,k,none⟩) (by simp;exact hs1) (.int .i64 x));clear hx hb3 hlb;go_wp2_with fail
   go_roundg (gk-1)
   case measure=>omega
   case rel=>
    refine⟨k+1,zs.set k x,by omega,by go_num,aA ⟨by rw [List.length_set];exact HZ.out.1,fun j hj=>?_⟩,IB3,BW3⟩
    rw [eQ _ _ _ _ (by rw [HZ.out.1];exact hk)];by_cases e:j=k
    ·rw [if_pos e,e,HX.out];rfl
    ·rw [if_neg e];exact HZ.out.2 j (by omega)
  case neg=>
   obtain rfl:k=N+1:=by omega
   go_wp2_with fail
   go_ret
   refine⟨b,hs1,by rw [<- HN.out];rfl,?_,BW.out⟩
   rw [show iJ fl ps=zs from(m4 (by rw [<- HN.out];exact HZ.out.1) (fun j hj=>by rw [HZ.out.2 j (by rw [HN.out];exact hj),Nat.zero_add])).symm];exact IB.out
end Go.Proofs.YtaejfleahamapaaGreat
