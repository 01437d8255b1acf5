/- conform.end and sums; the closure of Least. -/
import Derived.RangeFuncNested
import Derived.RangeFuncBound
import Derived.RangeFuncCalls
import Derived.RangeFuncLeaves
import Derived.Shelf.Abstract
import Derived.Shelf.RegionOpen
import Derived.WalkKit
import Derived.OwnWalkIn
import Derived.TacticsInMore
import Derived.LoopNIn
import Derived.LoopIn
import Derived.Sort.CutIn
import Derived.Test.YtaejfleahamapaaGreatPp9
import Derived.Test.YtaejfleahamapaaGreatPp1
import Derived.Test.YtaejfleahamapaaGreatPp7
namespace Go.Proofs.YtaejfleahamapaaGreat
set_option linter.unusedVariables false
set_option linter.unusedSimpArgs false
section
open Go.RowKit Go.Shelf
attribute [local go_sem] Oper.semAt_some
def PK.val(x:PK):Value:=.agg #[.int .i64 x.fl,.int .i64 x.tm,.int .i64 x.sz]
def PK.own(fl:Int)(x:PK):Bool:=fl == -1 || (x.fl == fl && decide (0≤fl))
def selT(fl:Int)(ps:List PK):List PK:=ps.filter (PK.own fl)
theorem selT_snoc(fl:Int)(ps:List PK)(k:Nat)(x:PK)(hx:ps[k]?=some x):selT fl (ps.take (k+1))=selT fl (ps.take k) ++ (if x.own fl then [x] else []):=by
 have hl:k<ps.length:=(List.getElem?_eq_some_iff.1 hx).1;have:ps.take (k+1)=ps.take k ++ [x]:=by
  rw [List.take_add_one,hx];rfl
 unfold selT;rw [this,List.filter_append]
 congr 1
 by_cases h:x.own fl <;> simp [h]
theorem selT_len(fl:Int)(ps:List PK)(k:Nat):(selT fl (ps.take k)).length≤k:=by
 unfold selT;exact Nat.le_trans (List.length_filter_le _ _) (by simp;omega)
def KpB(n₀ Bs:Nat)(W W':World):Prop:=Below n₀ W W'∧∀k,Bs≤k→k≤Bs+1→W'.heap[k]?=W.heap[k]?
theorem KpB.refl(n₀ Bs:Nat)(W:World):KpB n₀ Bs W W:=⟨Below.refl _ _,fun _ _ _=>rfl⟩
theorem KpB.trans{n₀ Bs:Nat}{W W' W3:World}(h:KpB n₀ Bs W W')(k:KpB n₀ Bs W' W3):KpB n₀ Bs W W3:=⟨h.1.trans k.1,fun i h1 h2=>(k.2 i h1 h2).trans (h.2 i h1 h2)⟩
theorem KpB.alloc{n₀ Bs:Nat}(W:World)(o:Obj)(h0:n₀≤W.heap.size)(h:Bs+2≤W.heap.size):KpB n₀ Bs W (W.alloc o):=
 ⟨(Below.refl n₀ W).alloc h0 o,fun k _ h2=>Below.heap_alloc W o k (by omega)⟩
theorem KpB.cell{n₀ Bs:Nat}{W W':World}(h:KpB n₀ Bs W W'){k:Nat}(h1:Bs≤k)(h2:k≤Bs+1):W'.cell? ⟨k,0,none⟩=W.cell? ⟨k,0,none⟩:=by
 have:=h.2 k h1 h2
 simp only [World.cell?,this]
theorem KpB.set_{n₀ Bs:Nat}(W:World)(p:Addr)(v:Value)(h0:n₀≤p.block)(h1:p.block<Bs):KpB n₀ Bs W (W.setCell p v):=
 ⟨(Below.refl n₀ W).setCell h0 v,fun k h3 _=>Below.heap_setCell W p v k (by omega)⟩
set_option maxRecDepth 100000 in
set_option maxHeartbeats 2000000 in
theorem of1_in(F:Fence)(n:Nat)(hF:F.fn 134)(hro:F.round=none)(hn:1≤n)(l Bs n₀ len cap:Nat)(A:Option Addr)(fl:Int)(ps:List PK)(hlen:ps.length=len)(h60:len≤60)(J Jx:List (Nat × PK)→World→Prop)
 (W:World) (hJA:AbidesFrom W.heap.size J)
 (hY:∀pre x W,J pre W→pre.length<len→YieldAt F (n-1) Tryz.prog l #[.int .i64 (x.1:Int),x.2.val] W fun e W'=>
  (e = .returned (.bool true)∧J (pre ++ [x]) W'∧KpB n₀ Bs W W')∨(e = .returned (.bool false)∧Jx (pre ++ [x]) W'))
 (hBs:W.cell? ⟨Bs,0,none⟩=some (.slice A len cap)) (hBf:W.cell? ⟨Bs+1,0,none⟩=some (.int .i64 fl)) (hn0:n₀≤Bs) (hsW:Bs+2≤W.heap.size)
 (hc:0<len→∃g o,A=some ⟨g,o,none⟩∧g<n₀∧RowT W g o ps) (h0:J [] W) :
 CallsIn F n Tryz.prog 134 #[.func (.yield l) #[] #[],.pointer (some ⟨Bs,0,none⟩),.pointer (some ⟨Bs+1,0,none⟩)] W fun e W'=>(∃v,e = .returned v)∧
  ((∃ys:List (Nat × PK),ys.map Prod.snd=selT fl ps∧J ys W')∨(∃pre,True∧Jx pre W')):=by
 have HC:=hi_ hc;clear hc;refine callsIn_of_wp Tryz.func134 rfl hF ?_ hro;simp only [Tryz.ntmps134,List.size_toArray,List.length_cons,List.length_nil,Nat.reduceAdd,Nat.reduceSub,Array.replicate_succ,Array.replicate_zero,List.push_toArray,List.append_toArray,List.nil_append,List.cons_append]
 gi_wp2
 gi_loopw [8,4] (fun i _ wr=>∃(k:Nat) (pre:List (Nat × PK)),k≤len∧i = .int .i64 k∧pre.map Prod.snd=selT fl (ps.take k)∧J pre wr∧KpB n₀ Bs W wr∧W.heap.size≤wr.heap.size)
  (fun i _ _=>len-(intOf i).toNat)
 case atStart=>exact⟨0,[],Nat.zero_le _,rfl,rfl,h0,KpB.refl _ _ _,Nat.le_refl _⟩
 case round=>
  obtain⟨k,pre,hk,rfl,hpre,hJs,hnx,hsz⟩:=hrel;have HP:=hi_ hpre;have HN:=hi_ hnx;clear hpre hnx;by_cases hlt:k<len
  case pos=>
   obtain⟨g,o,hA,hg,hr⟩:=HC.out (by omega);subst hA;have HR:=hr.below2 HN.out.1 hg;obtain⟨x,hx,x0,x1,x2⟩:=HR.get (k:=k) (by rw [hlen];exact hlt);have hgl:=HR.lt;have HX:=hi_ hx;have c1:wr.cell? ⟨Bs+1,0,none⟩=some (.int .i64 fl):=(HN.out.cell (k:=Bs+1) (by omega) (by omega)).trans hBf;have hbf:Bs+1<wr.heap.size:=by omega
   clear hr HR hx
   gi_upto_region 3 with fail
   have hJ2:=hJA _ _ _ none hJs (World.grownBy_alloc wr (.cells #[.int .i64 x.fl,.int .i64 x.tm,.int .i64 x.sz] 71) none) (fun r e=>by cases e);have HN2:=hi_ (HN.out.trans (KpB.alloc (n₀:=n₀) (Bs:=Bs) wr (.cells #[.int .i64 x.fl,.int .i64 x.tm,.int .i64 x.sz] 71) (by omega) (by omega)));have hsz2:W.heap.size≤(wr.alloc (.cells #[.int .i64 x.fl,.int .i64 x.tm,.int .i64 x.sz] 71)).heap.size:=by simp;omega
   have q:=(Blk.new wr 71 #[.int .i64 x.fl,.int .i64 x.tm,.int .i64 x.sz])
   generalize hwe:wr.alloc (.cells #[.int .i64 x.fl,.int .i64 x.tm,.int .i64 x.sz] 71)=we at *;have q0:=q.cell 0;have q1:=q.cell 1;have q2:=q.cell 2;simp at q0 q1 q2;have hl:=q.lt;have c2:we.cell? ⟨Bs+1,0,none⟩=some (.int .i64 fl):=(HN2.out.cell (k:=Bs+1) (by omega) (by omega)).trans hBf;have hbf2:Bs+1<we.heap.size:=by omega
   clear hwe q x0 x1 x2 c1;have HS:=hi_ (selT_snoc fl ps k x HX.out);have hpl:pre.length<len:=by
    have:=congrArg List.length HP.out
    rw [List.length_map] at this;have:=selT_len fl ps k
    omega
   have HY:=hi_ (hY pre (k,x) we hJ2 hpl);have hno:x.own fl=false→selT fl (ps.take (k+1))=selT fl (ps.take k):=fun h=>by rw [HS.out,h];simp
   have hyes:x.own fl=true→selT fl (ps.take (k+1))=selT fl (ps.take k) ++ [x]:=fun h=>by rw [HS.out,h];simp
   have HNO:=hi_ hno;have HYES:=hi_ hyes;clear hno hyes HS;by_cases e1:fl = -1
   case pos=>
    have ho:=HYES.out (by simp [PK.own,e1]);have HO:=hi_ ho;clear ho;subst e1;obtain⟨fn,tmps,assign,body,hy,hR⟩:=HY.out;dsimp only [PK.val] at hy
    gi_wp2
    refine hR.mono ?_;rintro e W3 (⟨rfl,hJ3,hk3⟩|⟨rfl,hJx3⟩)
    ·gi_wp2
     go_roundw
     case rel=>exact⟨k+1,pre ++ [(k,x)],by omega,by simp,by rw [List.map_append,HP.out,HO.out];rfl,hJ3,HN2.out.trans hk3,Nat.le_trans hsz2 hk3.1.size⟩
     case measure=>simp [intOf];omega
    ·gi_wp2
     refine bodyPost_ret (results_none rfl _ _ _) rfl ?_;exact⟨⟨_,rfl⟩,.inr ⟨_,trivial,hJx3⟩⟩
   case neg=>
    have e1':(fl == -1)=false:=by simp [e1]
    by_cases e2:x.fl=fl
    case pos=>
     by_cases e3:0≤fl
     case pos=>
      have ho:=HYES.out (by simp [PK.own,e2,e3]);have HO:=hi_ ho;clear ho;have e3':decide (0≤fl)=true:=decide_eq_true e3;rw [e2] at q0;obtain⟨fn,tmps,assign,body,hy,hR⟩:=HY.out;dsimp only [PK.val] at hy
      rw [e2] at hy
      gi_wp2
      refine hR.mono ?_;rintro e W3 (⟨rfl,hJ3,hk3⟩|⟨rfl,hJx3⟩)
      ·gi_wp2
       go_roundw
       case rel=>exact⟨k+1,pre ++ [(k,x)],by omega,by simp,by rw [List.map_append,HP.out,HO.out];rfl,hJ3,HN2.out.trans hk3,Nat.le_trans hsz2 hk3.1.size⟩
       case measure=>simp [intOf];omega
      ·gi_wp2
       refine bodyPost_ret (results_none rfl _ _ _) rfl ?_;exact⟨⟨_,rfl⟩,.inr ⟨_,trivial,hJx3⟩⟩
     case neg=>
      have ho:=HNO.out (by simp [PK.own,e1',e3]);have e3':decide (0≤fl)=false:=decide_eq_false e3;rw [e2] at q0;have HO:=hi_ ho;clear ho HY
      gi_wp2
      refine⟨fun _ h=>(by cases h),?_⟩
      gi_wp2
      go_roundw
      case rel=>exact⟨k+1,pre,by omega,by simp,by rw [HP.out,HO.out],hJ2,HN2.out,hsz2⟩
      case measure=>simp [intOf];omega
    case neg=>
     have e2':(x.fl == fl)=false:=by simp [e2]
     have ho:=HNO.out (by simp [PK.own,e1',e2']);have HO:=hi_ ho;clear ho HY
     gi_wp2
     refine⟨fun _ h=>(by cases h),?_⟩
     gi_wp2
     go_roundw
     case rel=>exact⟨k+1,pre,by omega,by simp,by rw [HP.out,HO.out],hJ2,HN2.out,hsz2⟩
     case measure=>simp [intOf];omega
  case neg=>
   obtain rfl:k=len:=by omega
   gi_wp2
   go_end0
   refine⟨⟨_,rfl⟩,.inl ⟨pre,?_,hJs⟩⟩
   rw [HP.out,← hlen,List.take_length]
set_option maxHeartbeats 1000000 in
theorem of_in(F:Fence)(n:Nat)(hF:F.fn 115)(hro:F.round=none)(A:Option Addr)(len cap:Nat)(fl:Int)(w:World) :
 CallsIn F n Tryz.prog 115 #[.slice A len cap,.int .i64 fl] w fun e w'=>e = .returned (.func (.func 134) #[] #[.pointer (some ⟨w.heap.size,0,none⟩),.pointer (some ⟨w.heap.size+1,0,none⟩)])
  ∧w'=(w.alloc (.cells #[.slice A len cap] 46)).alloc (.cells #[.int .i64 fl] 3):=by
 refine callsIn_of_wp Tryz.func115 rfl hF ?_ hro;simp only [Tryz.ntmps115,List.size_toArray,List.length_cons,List.length_nil,Nat.reduceAdd,Nat.reduceSub,Array.replicate_succ,Array.replicate_zero,List.push_toArray,List.append_toArray,List.nil_append,List.cons_append]
 gi_wp2
 go_ret
 exact⟨rfl,rfl⟩
def encT(x:Nat × PK):Array Value:=#[.int .i64 (x.1:Int),x.2.val]
theorem of_stops(F:Fence)(n:Nat)(hF:F.fn 134)(hro:F.round=none)(hn:1≤n)(Bs n₀ len cap:Nat)(A:Option Addr)(fl:Int)(ps:List PK)(hlen:ps.length=len)(h60:len≤60)
 (w:World) (hn0:n₀≤Bs) (hsW:Bs+2≤w.heap.size)
 (hBs:w.cell? ⟨Bs,0,none⟩=some (.slice A len cap)) (hBf:w.cell? ⟨Bs+1,0,none⟩=some (.int .i64 fl))
 (hc:0<len→∃g o,A=some ⟨g,o,none⟩∧g<n₀∧RowT w g o ps) :
 SeqStopsK F n Tryz.prog 134 #[.pointer (some ⟨Bs,0,none⟩),.pointer (some ⟨Bs+1,0,none⟩)] encT (KpB n₀ Bs) (fun ys=>ys.map Prod.snd=selT fl ps) (fun _=>True) len w:=fun l J Jx W hW hJ _ hY h0=>by
 have hs:=hW.size;refine of1_in F n hF hro hn l Bs n₀ len cap A fl ps hlen h60 J Jx W hJ hY ((hW.cell (p:=⟨Bs,0,none⟩) (by simp;omega)).trans hBs) ((hW.cell (p:=⟨Bs+1,0,none⟩) (by simp;omega)).trans hBf) hn0 (by omega) ?_ h0;intro h;obtain⟨g,o,e,hg,hr⟩:=hc h;exact⟨g,o,e,hg,hr.below2 hW (by omega)⟩
def bytesW(t:Int)(ps:List PK):Int:=ps.foldl (fun s x=>if x.tm<t then wrap64 (s+x.sz) else s) 0
theorem bytesW_snoc(t:Int)(ps:List PK)(x:PK):bytesW t (ps ++ [x])=if x.tm<t then wrap64 (bytesW t ps+x.sz) else bytesW t ps:=by simp [bytesW]
theorem blk_own{β:Type}(B:Nat)(t:TypeId)(cs:Array Value):_root_.Go.Own (fun (_:β) W=>Blk W B t cs):=fun s X Y row hs hg hrow=>
 hs.grown hg (fun e=>by
  obtain⟨o,ho,hc⟩:=hrow B e.symm;have h2:X.heap[B]?=_:=hs;rw [h2] at ho;cases ho
  cases hc)
set_option maxRecDepth 100000 in
set_option maxHeartbeats 4000000 in
theorem bytes_in(F:Fence)(n:Nat)(hB:F.fn 87)(hO:F.fn 115)(hI:F.fn 134)(hro:F.round=none)(hn:6≤n)(A:Option Addr)(len cap:Nat)(fl t:Int)(ps:List PK)(h60:len≤60)(w:World)(hps:LsT w A len cap ps) :
 CallsIn F n Tryz.prog 87 #[.slice A len cap,.int .i64 fl,.int .i64 t] w fun e W'=>e = .returned (.int .i64 (bytesW t (selT fl ps)))∧Below w.heap.size w W':=by
 have h1:1≤n:=by omega
 have HT:=hi_ hps;clear hps;refine callsIn_of_wp_marks Tryz.func87 rfl hB ?_ hro;simp only [Tryz.ntmps87,List.size_toArray,List.length_cons,List.length_nil,Nat.reduceAdd,Nat.reduceSub,Array.replicate_succ,Array.replicate_zero,List.push_toArray,List.append_toArray,List.nil_append,List.cons_append]
 gi_wp2_with (gi_at_call 115;refine(of_in F (n-1) hO hro _ _ _ _ _).mono ?_;rintro e w' ⟨rfl,rfl⟩)
 have bT:=(((Boxed.new w 3 (.int .i64 t)).alloc (.cells #[.int .i64 0] 3)).alloc (.cells #[.slice A len cap] 46)).alloc (.cells #[.int .i64 fl] 3);have bS:=((Boxed.new (w.alloc (.cells #[.int .i64 t] 3)) 3 (.int .i64 0)).alloc (.cells #[.slice A len cap] 46)).alloc (.cells #[.int .i64 fl] 3);have bA:=(Boxed.new ((w.alloc (.cells #[.int .i64 t] 3)).alloc (.cells #[.int .i64 0] 3)) 46 (.slice A len cap)).alloc (.cells #[.int .i64 fl] 3);have bF:=Boxed.new (((w.alloc (.cells #[.int .i64 t] 3)).alloc (.cells #[.int .i64 0] 3)).alloc (.cells #[.slice A len cap] 46)) 3 (.int .i64 fl);simp only [World.size_alloc] at bT bS bA bF;have hB0:Below w.heap.size w ((((w.alloc (.cells #[.int .i64 t] 3)).alloc (.cells #[.int .i64 0] 3)).alloc (.cells #[.slice A len cap] 46)).alloc (.cells #[.int .i64 fl] 3)):=((((Below.refl _ w).alloc (Nat.le_refl _) _).alloc (by simp) _).alloc (by simp;omega) _).alloc (by simp;omega) _;have hsz:((((w.alloc (.cells #[.int .i64 t] 3)).alloc (.cells #[.int .i64 0] 3)).alloc (.cells #[.slice A len cap] 46)).alloc (.cells #[.int .i64 fl] 3)).heap.size=w.heap.size+4:=by simp
 obtain⟨W0,hW0⟩:∃W0,(((w.alloc (.cells #[.int .i64 t] 3)).alloc (.cells #[.int .i64 0] 3)).alloc (.cells #[.slice A len cap] 46)).alloc (.cells #[.int .i64 fl] 3)=W0:=⟨_,rfl⟩
 rw [hW0] at bT bS bA bF hB0 hsz ⊢;clear hW0;refine wpIn_rangeFunc_ownH hro h1 (gf:=134) (lb:=#[.pointer (some ⟨w.heap.size+1+1,0,none⟩),.pointer (some ⟨w.heap.size+1+1+1,0,none⟩)]) rfl hI (enters_of Tryz.func134 (by kernel_rfl) rfl)
  (of_stops F (n-1) hI hro (by omega) (w.heap.size+1+1) w.heap.size len cap A fl ps HT.out.1 h60 W0 (by omega) (by omega) bA.cell bF.cell ?hc) KpB.trans ?hKb (Below.refl _ _) (fun _=>rfl)
  (fun pre W=>(Boxed W (w.heap.size+1) 3 (.int .i64 (bytesW t (pre.map Prod.snd)))∧Boxed W w.heap.size 3 (.int .i64 t)∧Boxed W (w.heap.size+1+1+1) 3 (.int .i64 fl))∧Below w.heap.size w W)
  (fun _ _ _=>False)
  (OwnFrom.and (OwnFrom.and (Own.from (boxed_own _ _ (fun (pre:List (Nat × PK))=>Value.int .i64 (bytesW t (pre.map Prod.snd)))) _) (OwnFrom.and (Own.from (boxed_own _ _ (fun (pre:List (Nat × PK))=>Value.int .i64 t)) _) (Own.from (boxed_own _ _ (fun (pre:List (Nat × PK))=>Value.int .i64 fl)) _))) (ownFrom_below (Nat.le_refl _) (by omega)))
  (fun _ _ _ _ _ hs _ _=>hs)
  ⟨⟨bS,bT,bF⟩,hB0⟩
  (fun x a' W=>∃Bx,w.heap.size+3<Bx∧Blk W Bx 71 #[.int .i64 x.2.fl,.int .i64 x.2.tm,.int .i64 x.2.sz]∧a'={ tmps:=#[.slice A len cap,.int .i64 fl,.int .i64 t,undef,undef,.pointer (some ⟨w.heap.size,0,none⟩),.int .i64 0,.pointer (some ⟨w.heap.size+1,0,none⟩),undef,.pointer (some ⟨Bx,0,none⟩),.slice A len cap,.int .i64 fl,.func (.func 134) #[] #[.pointer (some ⟨w.heap.size+1+1,0,none⟩),.pointer (some ⟨w.heap.size+1+1+1,0,none⟩)],.int .i64 x.1,x.2.val,undef,undef,undef,undef,undef,undef,undef,undef,undef],defers:=[] })
  (fun x a' _ X Y row hs hg hr=>by obtain⟨Bx,h1,h2,h3⟩:=hs;exact⟨Bx,h1,blk_own (β:=Unit) Bx _ _ () X Y row h2 hg (fun r e=>(hr r e).2),h3⟩)
  ?assign ?body ?done ?stop
 case hc=>
  intro h;obtain⟨g,o,e,hr⟩:=HT.out.2.2 h;exact⟨g,o,e,hr.lt,hr.below hB0⟩
 case hKb=>
  intro W l o o' hl ho hc hw;refine⟨belowK_b (w:=W0) (by omega) W l o o' (by omega) ho hc hw,fun k h1 h2=>World.putObj_heap_other (by omega)⟩
 case assign=>
  rintro l pre x W K ⟨⟨bS1,bT1,bF1⟩,hB1⟩ hK;dsimp only [PK.val,encT] at *
  gi_wp2
  exact hK _ _ ((KeepsOthers.alloc _ _).from _) (KpB.alloc W _ hB1.size (by have:=bF1.lt;omega)) ⟨⟨bS1.alloc _,bT1.alloc _,bF1.alloc _⟩,hB1.alloc hB1.size _⟩ ⟨W.heap.size,by have:=bF1.lt;omega,Blk.new W _ _,rfl⟩
 case body=>
  rintro l pre x a' W hl ⟨r,hr⟩ ⟨⟨bS1,bT1,bF1⟩,hB1⟩ ⟨Bx,hBx,bX,rfl⟩ hlt;have cS:=bS1.cell;have fS:=bS1.frozen;have cT:=bT1.cell;have q1:=bX.cell 1;have q2:=bX.cell 2;simp at q1 q2;have HW:=hi_ (bytesW_snoc t (pre.map Prod.snd) x.2);have hlS:=bS1.lt;have hlT:=bT1.lt;have hlX:=bX.lt;have BX:=hi_ bX;clear bX;by_cases hx:x.2.tm<t
  case pos=>
   have hd:decide (x.2.tm<t)=true:=decide_eq_true hx
   gi_wp2
   refine⟨(KeepsOthers.setCell _ _ _).from _,KpB.set_ W ⟨w.heap.size+1,0,none⟩ _ (by simp) (by simp),⟨⟨?_,?_,?_⟩,hB1.setCell (p:=⟨w.heap.size+1,0,none⟩) (by simp) _⟩⟩
   ·rw [List.map_append,List.map_singleton,HW.out,if_pos hx];exact bS1.set _
   ·exact bT1.other (by omega) _
   ·exact bF1.other (by omega) _
  case neg=>
   have hd:decide (x.2.tm<t)=false:=decide_eq_false hx
   gi_wp2
   refine⟨KeepsFrom.refl _ _,KpB.refl _ _ _,⟨⟨?_,bT1,bF1⟩,hB1⟩⟩
   rw [List.map_append,List.map_singleton,HW.out,if_neg (by omega)];exact bS1
 case done=>
  rintro D zs W hD hz ⟨⟨bS1,bT1,bF1⟩,hB1⟩ hK;rw [hz] at bS1;have cS:=bS1.cell;have hlS:=bS1.lt
  gi_wp2
  refine⟨by simp,.inl ⟨_,_,rfl,run_takeDeferred hK,?_⟩⟩
  exact⟨_,results_tmp rfl _ _ _,rfl,hB1.trans (belowK_b (w:=w) (Nat.le_refl _) W D _ _ (by omega) hK rfl rfl)⟩
 case stop=>
  rintro D c pre W _ _ h _;exact h.elim
def bytesV(t:Int)(ps:List PK):Int:=(ps.map (fun x=>if x.tm<t then x.sz else 0)).sum
theorem bytes_eq(t:Int)(ps:List PK)(hl:ps.length≤60)(hg:∀x∈ps,x.Good):bytesW t ps=bytesV t ps:=by
 have key:∀(l:List PK) (s:Int),(∀x∈l,x.Good)→0≤s→s+1500*(l.length:Int)≤1000000→l.foldl (fun s x=>if x.tm<t then wrap64 (s+x.sz) else s) s=s+(l.map (fun x=>if x.tm<t then x.sz else 0)).sum:=by
  intro l
  induction l with
  | nil=>intro s _ _ _;simp
  | cons x l ih=>
    intro s hg h0 hb;have gx:=hg x (by simp);unfold PK.Good at gx;simp only [List.length_cons] at hb
    push_cast at hb
    simp only [List.foldl_cons,List.map_cons,List.sum_cons];by_cases h:x.tm<t
    ·rw [if_pos h,if_pos h,show wrap64 (s+x.sz)=s+x.sz by unfold wrap64;omega,ih _ (fun y hy=>hg y (by simp [hy])) (by omega) (by omega)];omega
    ·rw [if_neg h,if_neg h,ih _ (fun y hy=>hg y (by simp [hy])) h0 (by omega)];omega
 unfold bytesW bytesV;rw [key ps 0 hg (Int.le_refl _) (by omega)];omega
theorem bytes_any(A:Option Addr)(len cap:Nat)(fl t:Int)(ps:List PK)(w:World)(h:LsT w A len cap ps)(hv:Valid ps) :
 Calls Tryz.prog 87 #[.slice A len cap,.int .i64 fl,.int .i64 t] w fun e w'=>e = .returned (.int .i64 (bytesV t (selT fl ps)))∧Below w.heap.size w w':=by
 refine(callsIn_wide (n:=6)).1 ?_;rw [← bytes_eq t (selT fl ps) (by unfold selT;exact Nat.le_trans (List.length_filter_le _ _) hv.len) (fun x hx=>hv.good x (by unfold selT at hx;exact(List.mem_filter.1 hx).1))];exact bytes_in Fence.wide 6 trivial trivial trivial rfl (by omega) A len cap fl t ps (by rw [← h.1];exact hv.len) w h
end
section
structure RS(σ:Type) where
 t:Nat
 on:Bool
 now:Option Nat
 rest:Int
 left:Int
 begun:List Bool
 done:List Int
 sent:List (List Int)
 sg:σ
def addS(sent:List (List Int))(c k:Nat)(n:Int):List (List Int):=sent.set c ((sent.getD c []).set k (nth (sent.getD c []) k+n))
inductive MRun {σ:Type} (cap:Int) (cls:Nat) (ps:List PK) (ticks:Nat) (Ch:RS σ→Int→σ→Prop) (sg0:σ):RS σ→Prop
 | start:MRun cap cls ps ticks Ch sg0 ⟨0,false,none,0,0,List.replicate ps.length false,List.replicate ps.length (-1),List.replicate cls [0],sg0⟩
 | tick (s:RS σ):MRun cap cls ps ticks Ch sg0 s→s.on=false→s.t<ticks→MRun cap cls ps ticks Ch sg0 { s with on:=true,left:=cap,sent:=s.sent.map (fun l=>l ++ [nth l s.t]) }
 | close (s:RS σ):MRun cap cls ps ticks Ch sg0 s→s.on=true→s.left≤0→MRun cap cls ps ticks Ch sg0 { s with on:=false,t:=s.t+1 }
 | idle (s:RS σ) (sg:σ):MRun cap cls ps ticks Ch sg0 s→s.on=true→0<s.left→s.now=none→Ch s (-1) sg→MRun cap cls ps ticks Ch sg0 { s with on:=false,t:=s.t+1,sg:=sg }
 | begin_ (s:RS σ) (sg:σ) (i:Nat) (x:PK):MRun cap cls ps ticks Ch sg0 s→s.on=true→0<s.left→s.now=none→Ch s i sg→ps[i]?=some x→MRun cap cls ps ticks Ch sg0 { s with now:=some i,rest:=x.sz,begun:=s.begun.set i true,sg:=sg }
 | send (s:RS σ) (i:Nat) (x:PK):MRun cap cls ps ticks Ch sg0 s→s.on=true→0<s.left→s.now=some i→ps[i]?=some x→s.left<s.rest→MRun cap cls ps ticks Ch sg0 { s with rest:=s.rest-s.left,left:=0,sent:=addS s.sent x.fl.toNat (s.t+1) s.left }
 | fin (s:RS σ) (i:Nat) (x:PK):MRun cap cls ps ticks Ch sg0 s→s.on=true→0<s.left→s.now=some i→ps[i]?=some x→s.rest≤s.left→MRun cap cls ps ticks Ch sg0 { s with now:=none,rest:=0,left:=s.left-s.rest,sent:=addS s.sent x.fl.toNat (s.t+1) s.rest,done:=s.done.set i s.t }
section
variable{σ:Type}{cap:Int}{cls:Nat}{ps:List PK}{ticks:Nat}{Ch:RS σ→Int→σ→Prop}{sg0:σ}{s:RS σ}
structure RSok(cap:Int)(cls:Nat)(ps:List PK)(ticks:Nat)(s:RS σ):Prop where
 lb:s.begun.length=ps.length
 ld:s.done.length=ps.length
 ls:s.sent.length=cls
 lr:∀(c:Nat) (l:List Int),s.sent[c]?=some l→l.length=s.t+1+(if s.on then 1 else 0)
 tt:s.t≤ticks∧(s.on=true→s.t<ticks)
 nw:∀i,s.now=some i→1≤s.rest∧s.rest≤1500∧i<ps.length
 lf:s.on=true→0≤s.left∧s.left≤cap
 bd:∀(c:Nat) (l:List Int) (k:Nat),s.sent[c]?=some l→0≤nth l k∧nth l k≤cap*s.t+(if s.on then cap-s.left else 0)
theorem addS_len(sent:List (List Int))(c k:Nat)(n:Int):(addS sent c k n).length=sent.length:=by unfold addS;rw [List.length_set]
theorem addS_get{sent:List (List Int)}{c k:Nat}{n:Int}{d:Nat}{l:List Int}(h:(addS sent c k n)[d]?=some l):∃l0,sent[d]?=some l0∧(d≠c∧l=l0∨d=c∧l=l0.set k (nth l0 k+n)):=by
 unfold addS at h;by_cases e:c=d
 ·subst e;have hlt:c<sent.length:=by
   have:=(List.getElem?_eq_some_iff.1 h).1
   rwa [List.length_set] at this
  rw [List.getElem?_set_self hlt] at h;cases h
  refine⟨sent[c],List.getElem?_eq_getElem hlt,.inr ⟨rfl,?_⟩⟩
  simp [List.getD,hlt]
 ·rw [List.getElem?_set_ne e] at h;exact⟨l,h,.inl ⟨fun h=>e h.symm,rfl⟩⟩
theorem nth_app(l:List Int)(x:Int)(k:Nat):nth (l ++ [x]) k=if k<l.length then nth l k else if k=l.length then x else 0:=by
 unfold nth;by_cases h:k<l.length
 ·simp [h,List.getD,List.getElem?_append_left h]
 ·by_cases e:k=l.length
  ·simp [e]
  ·rw [if_neg h,if_neg e];have:l.length+1≤k:=by omega
   simp [List.getD,List.getElem?_eq_none (show(l ++ [x]).length≤k by simp;omega)]
theorem nth_set2(l:List Int)(k j:Nat)(x:Int):nth (l.set k x) j=if j=k∧k<l.length then x else nth l j:=by
 by_cases h:k<l.length
 ·rw [nth_set _ _ _ _ h];by_cases e:j=k
  ·rw [if_pos e,if_pos ⟨e,h⟩]
  ·rw [if_neg e,if_neg (fun h=>e h.1)]
 ·rw [if_neg (fun g=>h g.2),List.set_eq_of_length_le (by omega)]
theorem MRun.ok(hv:Valid ps)(hc:1≤cap)(h:MRun cap cls ps ticks Ch sg0 s):RSok cap cls ps ticks s:=by
 induction h with
 | start=>
   refine⟨by simp,by simp,by simp,fun c l h=>?_,⟨Nat.zero_le _,fun h=>(by cases h)⟩,fun i h=>(by cases h),fun h=>(by cases h),fun c l k h=>?_⟩
   ·have:=List.eq_of_mem_replicate (List.mem_of_getElem? h)
    rw [this];rfl
   ·have:=List.eq_of_mem_replicate (List.mem_of_getElem? h)
    rw [this];cases k with
    | zero=>simp [nth]
    | succ k=>simp [nth]
 | tick s _ hon ht ih=>
   have hlr:∀(c:Nat) (l:List Int),s.sent[c]?=some l→l.length=s.t+1:=fun c l h=>by have:=ih.lr c l h;rw [hon] at this;simpa using this
   refine⟨ih.lb,ih.ld,by simp [ih.ls],fun c l h=>?_,⟨ih.tt.1,fun _=>ht⟩,ih.nw,fun _=>⟨by simp only;omega,by simp only;omega⟩,fun c l k h=>?_⟩
   ·simp only [List.getElem?_map,Option.map_eq_some_iff] at h;obtain⟨l0,h0,rfl⟩:=h;simp [hlr c l0 h0]
   ·simp only [List.getElem?_map,Option.map_eq_some_iff] at h;obtain⟨l0,h0,rfl⟩:=h;have hb:=fun k=>ih.bd c l0 k h0
    simp only [hon] at hb;have h1:=hb k;have h2:=hb s.t;simp only [Bool.false_eq_true,if_false] at h1 h2;rw [nth_app];simp only [if_true];split
    ·omega
    ·split <;> omega
 | close s _ hon hl ih=>
   have hlf:=ih.lf hon;refine⟨ih.lb,ih.ld,ih.ls,fun c l h=>?_,⟨ih.tt.2 hon,fun h=>(by cases h)⟩,ih.nw,fun h=>(by cases h),fun c l k h=>?_⟩
   ·have:=ih.lr c l h
    simp only [hon,if_true] at this;simp [this]
   ·have:=ih.bd c l k h
    simp only [hon,if_true] at this;simp only [Bool.false_eq_true,if_false];have e:cap*((s.t+1:Nat):Int)=cap*s.t+cap:=by rw [Int.natCast_add,Int.mul_add];simp
    rw [e];omega
 | idle s sg _ hon hl hn hch ih=>
   have hlf:=ih.lf hon;refine⟨ih.lb,ih.ld,ih.ls,fun c l h=>?_,⟨ih.tt.2 hon,fun h=>(by cases h)⟩,ih.nw,fun h=>(by cases h),fun c l k h=>?_⟩
   ·have:=ih.lr c l h
    simp only [hon,if_true] at this;simp [this]
   ·have:=ih.bd c l k h
    simp only [hon,if_true] at this;simp only [Bool.false_eq_true,if_false];have e:cap*((s.t+1:Nat):Int)=cap*s.t+cap:=by rw [Int.natCast_add,Int.mul_add];simp
    rw [e];omega
 | begin_ s sg i x _ hon hl hn hch hx ih=>
   have gx:=hv.good x (List.mem_of_getElem? hx);unfold PK.Good at gx;refine⟨by simp [ih.lb],ih.ld,ih.ls,ih.lr,ih.tt,fun j hj=>?_,ih.lf,ih.bd⟩
   cases hj
   exact⟨gx.2.2.2.2.1,gx.2.2.2.2.2,(List.getElem?_eq_some_iff.1 hx).1⟩
 | send s i x _ hon hl hn hx hlt ih=>
   have hlf:=ih.lf hon;have hnw:=ih.nw i hn;refine⟨ih.lb,ih.ld,by simp [addS_len,ih.ls],fun c l h=>?_,ih.tt,fun j hj=>?_,fun _=>⟨by simp only;omega,by simp only;omega⟩,fun c l k h=>?_⟩
   ·obtain⟨l0,h0,⟨_,rfl⟩|⟨_,rfl⟩⟩:=addS_get h
    ·exact ih.lr c l h0
    ·rw [List.length_set];exact ih.lr c l0 h0
   ·have:j=i:=by
     have h2:s.now=some j:=hj;rw [hn] at h2;cases h2
     rfl
    subst this;exact⟨by simp only;omega,by simp only;omega,hnw.2.2⟩
   ·obtain⟨l0,h0,h1⟩:=addS_get h;have hb:=fun k=>ih.bd c l0 k h0
    simp only [hon,if_true] at hb ⊢;have b1:=hb k;have b2:=hb (s.t+1);rcases h1 with ⟨_,rfl⟩|⟨_,rfl⟩
    ·omega
    ·rw [nth_set2];split <;> omega
 | fin s i x _ hon hl hn hx hlt ih=>
   have hlf:=ih.lf hon;have hnw:=ih.nw i hn;refine⟨ih.lb,by simp [ih.ld],by simp [addS_len,ih.ls],fun c l h=>?_,ih.tt,fun j hj=>(by cases hj),fun _=>⟨by simp only;omega,by simp only;omega⟩,fun c l k h=>?_⟩
   ·obtain⟨l0,h0,⟨_,rfl⟩|⟨_,rfl⟩⟩:=addS_get h
    ·exact ih.lr c l h0
    ·rw [List.length_set];exact ih.lr c l0 h0
   ·obtain⟨l0,h0,h1⟩:=addS_get h;have hb:=fun k=>ih.bd c l0 k h0
    simp only [hon,if_true] at hb ⊢;have b1:=hb k;have b2:=hb (s.t+1);rcases h1 with ⟨_,rfl⟩|⟨_,rfl⟩
    ·omega
    ·rw [nth_set2];split <;> omega
end
end
section
open Go.RowKit
def RowQ(w:World)(g C:Nat)(l:List Int):Prop:=l.length≤C∧C≤1000000∧∃cur:Array Value,w.heap[g]?=some (.cells cur 3 (0,0))∧cur.size=C∧cur.toList.take l.length=l.map (Value.int .i64)
section
variable{w w':World}{g C:Nat}{l:List Int}{X:Nat→Prop}
theorem RowQ.lt(h:RowQ w g C l):g<w.heap.size:=by
 obtain⟨_,_,cur,hh,_⟩:=h;rcases Nat.lt_or_ge g w.heap.size with hlt|hge
 ·exact hlt
 ·rw [Array.getElem?_eq_none hge] at hh;cases hh
theorem RowQ.own(h:RowQ w g C l):w.ownsRow 0 3 1 (.slice (some ⟨g,0,none⟩) l.length C) l.length (l.map (Value.int .i64)):=by
 obtain⟨h1,h2,cur,hh,hc,ht⟩:=h;exact⟨by simp,.inr ⟨g,C,cur,rfl,Nat.zero_le _,hh,h1,by unfold maxLen;omega,by omega,by rw [Nat.mul_one];exact ht⟩⟩
theorem RowQ.of{k:Nat}(h:w.ownsRow 0 3 1 (.slice (some ⟨g,0,none⟩) k C) k (l.map (Value.int .i64)))(hC:C≤1000000):RowQ w g C l:=by
 obtain⟨h1,h2 | ⟨g',cap,cur,hv,_,hh,hnc,_,hcs,hcur⟩⟩:=h
 ·cases h2.1
 ·injection hv with e1 e2 e3
  injection e1 with e1
  injection e1 with e1
  subst e1 e3;simp at h1;subst h1;exact⟨hnc,hC,cur,hh,by omega,by rw [Nat.mul_one] at hcur;exact hcur⟩
theorem RowQ.kx(h:RowQ w g C l)(k:KX X w w')(hx:¬X g):RowQ w' g C l:=by
 obtain⟨h1,h2,cur,hh,hr⟩:=id h;exact⟨h1,h2,cur,(k.block g h.lt hx).trans hh,hr⟩
theorem RowQ.cell(h:RowQ w g C l){k:Nat}(hk:k<l.length):w.cell? ⟨g,k,none⟩=some (.int .i64 (nth l k)):=by
 obtain⟨h1,h2,cur,hh,hc,ht⟩:=h;have e:(cur.toList.take l.length)[k]?=some (.int .i64 (nth l k)):=by
  rw [ht];simp [nth,List.getD,hk]
 rw [List.getElem?_take,if_pos hk,Array.getElem?_toList] at e;simp [World.cell?,hh,e]
theorem RowQ.frozen(h:RowQ w g C l)(k:Nat):w.frozen? ⟨g,k,none⟩=false:=by
 obtain⟨h1,h2,cur,hh,_⟩:=h;simp [World.frozen?,hh]
theorem RowQ.set_(h:RowQ w g C l){k:Nat}(hk:k<l.length)(x:Int):RowQ (w.setCell ⟨g,k,none⟩ (.int .i64 x)) g C (l.set k x):=by
 obtain⟨h1,h2,cur,hh,hc,ht⟩:=id h;refine⟨by rw [List.length_set];exact h1,h2,cur.setIfInBounds k (.int .i64 x),?_,by simp [hc],?_⟩
 ·have hb:Blk w g 3 cur:=hh;exact hb.set_ k _
 ·rw [List.length_set,Array.toList_setIfInBounds,List.take_set,ht,List.map_set]
end
structure SN(w:World)(gS:Nat)(gcs:List Nat)(C:Nat)(sent:List (List Int)):Prop where
 ln:gcs.length=sent.length
 tb:Blk w gS 22 ((gcs.zip sent).map (fun p=>Value.slice (some ⟨p.1,0,none⟩) p.2.length C)).toArray
 row:∀(c g:Nat) (l:List Int),gcs[c]?=some g→sent[c]?=some l→RowQ w g C l
structure Dst(B g1 gD gS gs gB M:Nat)(gcs:List Nat):Prop where
 a1:B<gD∧B<gS∧B<g1
 a2:gD≠gS∧gD≠g1∧gS≠g1
 a3:gD<M∧gS<M∧g1<M
 a4:∀(c g:Nat),gcs[c]?=some g→M≤g∧g<gB
 a5:gB<gs∧M≤gB
 a6:∀(c d g:Nat),gcs[c]?=some g→gcs[d]?=some g→c=d
section
variable{w w':World}{gS C:Nat}{gcs:List Nat}{sent:List (List Int)}{X:Nat→Prop}
theorem SN.kx(h:SN w gS gcs C sent)(k:KX X w w')(hS:¬X gS)(hr:∀(c g:Nat),gcs[c]?=some g→¬X g):SN w' gS gcs C sent:=
 ⟨h.ln,h.tb.kx k hS,fun c g l hg hl=>(h.row c g l hg hl).kx k (hr c g hg)⟩
theorem SN.get(h:SN w gS gcs C sent){c:Nat}{l:List Int}(hl:sent[c]?=some l):∃g,gcs[c]?=some g∧w.cell? ⟨gS,c,none⟩=some (.slice (some ⟨g,0,none⟩) l.length C)∧RowQ w g C l:=by
 have hc:c<sent.length:=(List.getElem?_eq_some_iff.1 hl).1;obtain⟨g,hg⟩:∃g,gcs[c]?=some g:=⟨_,List.getElem?_eq_getElem (by rw [h.ln];exact hc)⟩
 refine⟨g,hg,?_,h.row c g l hg hl⟩
 have hz:(gcs.zip sent)[c]?=some (g,l):=List.getElem?_zip_eq_some.2 ⟨hg,hl⟩;rw [h.tb.cell c,List.getElem?_toArray,List.getElem?_map,hz]
 rfl
end
structure RunM{σ:Type}(B g1 gD gS gs gB M:Nat)(gcs:List Nat)(A:Option Addr)(n c:Nat)(ps:List PK)(C cls:Nat)(HR:σ→World→Prop)(own:Nat→Prop)(w wr:World)(tt lf:Int)(s:RS σ):Prop where
 d:Dst B g1 gD gS gs gB M gcs
 lo:∀k,own k→k<B
 r10:Blk wr B 62 #[.slice none 0 0,.slice none 0 0]
 r11:Blk wr g1 62 #[.slice (some ⟨gD,0,none⟩) n n,.slice (some ⟨gS,0,none⟩) cls cls]
 dn:IBlk wr gD s.done
 sn:SN wr gS gcs C s.sent
 se:∃bef,SE wr gs tt lf A n c ps (some ⟨gB,0,none⟩) s.begun bef
 bb:BBlk wr gB s.begun
 hr:HR s.sg wr
 kx:KX own w wr
 ws:w.heap.size=B
 tb:∀g o,0<n→A=some ⟨g,o,none⟩→g<B∧¬own g
section
variable{σ:Type}{B g1 gD gS gs gB M:Nat}{gcs:List Nat}{A:Option Addr}{n c:Nat}{ps:List PK}{C cls:Nat}{HR:σ→World→Prop}{own:Nat→Prop}{w wr w2:World}{tt lf:Int}{s:RS σ}
theorem SE.kx{t left:Int}{Bg:Option Addr}{bs:List Bool}{bef:Nat}{X:Nat→Prop}(h:SE wr gs t left A n c ps Bg bs bef)(k:KX X wr w2)(h1:¬X gs)(h2:∀g o,0<n→A=some ⟨g,o,none⟩→¬X g)(h3:∀g,0<n→Bg=some ⟨g,0,none⟩→¬X g):SE w2 gs t left A n c ps Bg bs bef:=
 ⟨h.st.kx k h1,h.tr.kx k h2,h.bl,fun h0=>by
  obtain⟨gb,e,hB,hne⟩:=h.bg h0;exact⟨gb,e,hB.kx k (h3 gb h0 e),hne⟩,h.trn,h.bb⟩
theorem RunM.keep{X:Nat→Prop}(hst:∀(sg:σ) (w w':World) (X:Nat→Prop),HR sg w→KX X w w'→(∀k,own k→¬X k)→HR sg w')(h:RunM B g1 gD gS gs gB M gcs A n c ps C cls HR own w wr tt lf s)(k:KX X wr w2)(hx:∀j,X j→wr.heap.size≤j):RunM B g1 gD gS gs gB M gcs A n c ps C cls HR own w w2 tt lf s:=by
 obtain⟨a1,a2,a3,a4,a5,a6⟩:=h.d;have nx:∀j,j<wr.heap.size→¬X j:=fun j hj hxj=>by have:=hx j hxj;omega
 have hB:=h.r10.lt;obtain⟨bef,he⟩:=h.se;refine⟨h.d,h.lo,h.r10.kx k (nx _ hB),h.r11.kx k (nx _ h.r11.lt),h.dn.kx k (nx _ h.dn.lt),h.sn.kx k (nx _ h.sn.tb.lt) (fun c g hg=>nx g (by have:=a4 c g hg;have:=h.bb.lt;omega)),⟨bef,he.kx k (nx _ he.st.lt) (fun g o h0 e=>nx g (by have:=(h.tb g o h0 e).1;omega)) (fun g h0 e=>nx g (by cases e;exact h.bb.lt))⟩,h.bb.kx k (nx _ h.bb.lt),hst _ _ _ _ h.hr k (fun j hj=>nx j (by have:=h.lo j hj;omega)),?_,h.ws,h.tb⟩
 exact h.kx.trans (k.mono (fun j hj hxj=>absurd hxj (nx j hj)))
theorem set_kx(w:World)(g i:Nat)(v:Value):KX (fun k=>k=g) w (w.setCell ⟨g,i,none⟩ v):=(KX.refl (fun k=>k=g) w).set_ (p:=⟨g,i,none⟩) rfl v
theorem kx_own(hk:KX own w wr){g:Nat}(hg:w.heap.size≤g)(k:KX (fun k=>k=g) wr w2):KX own w w2:=
 ⟨k.os.trans hk.os,k.tape.trans hk.tape,k.output.trans hk.output,Nat.le_trans hk.size k.size,fun j hj hx=>(k.block j (Nat.lt_of_lt_of_le hj hk.size) (by omega)).trans (hk.block j hj hx)⟩
theorem fbg_set(bs:List Bool)(i:Nat):fbg bs≤fbg (bs.set i true):=by
 unfold fbg
 induction bs generalizing i with
 | nil=>simp
 | cons b bs ih=>
   cases i with
   | zero=>
     cases b with
     | true=>simp
     | false=>simp
   | succ i=>
     cases b with
     | true=>simpa using ih i
     | false=>simp
theorem BBlk.set_{g:Nat}{bs:List Bool}(h:BBlk w g bs)(i:Nat)(b:Bool):BBlk (w.setCell ⟨g,i,none⟩ (.bool b)) g (bs.set i b):=by
 have hb:Blk w g 4 (bs.map Value.bool).toArray:=h;have:=hb.set_ i (.bool b)
 rw [List.setIfInBounds_toArray] at this;unfold BBlk;rw [List.map_set];exact this
theorem SN.row_set{gS:Nat}{sent:List (List Int)}(hs:SN wr gS gcs C sent){i g k:Nat}{l:List Int}(hg:gcs[i]?=some g)(hl:sent[i]?=some l)(hk:k<l.length)(hgS:g≠gS)(hd:∀(c d g:Nat),gcs[c]?=some g→gcs[d]?=some g→c=d)(x:Int):SN (wr.setCell ⟨g,k,none⟩ (.int .i64 x)) gS gcs C (sent.set i (l.set k x)):=by
 have kk:=set_kx wr g k (.int .i64 x);have hi:i<sent.length:=(List.getElem?_eq_some_iff.1 hl).1;refine⟨by rw [List.length_set];exact hs.ln,?_,fun c g' l' hg' hl'=>?_⟩
 ·have e:((gcs.zip (sent.set i (l.set k x))).map (fun p=>Value.slice (some ⟨p.1,0,none⟩) p.2.length C))=((gcs.zip sent).map (fun p=>Value.slice (some ⟨p.1,0,none⟩) p.2.length C)):=by
   apply List.ext_getElem?
   intro j;rw [List.getElem?_map,List.getElem?_map];by_cases e:i=j
   ·subst e;have e1:(gcs.zip (sent.set i (l.set k x)))[i]?=some (g,l.set k x):=List.getElem?_zip_eq_some.2 ⟨hg,List.getElem?_set_self hi⟩;have e2:(gcs.zip sent)[i]?=some (g,l):=List.getElem?_zip_eq_some.2 ⟨hg,hl⟩;rw [e1,e2];simp
   ·have e1:(gcs.zip (sent.set i (l.set k x)))[j]?=(gcs.zip sent)[j]?:=by
     simp [List.zip,List.getElem?_zipWith,List.getElem?_set_ne e]
    rw [e1]
  rw [e];exact hs.tb.kx kk (fun e=>hgS e.symm)
 ·by_cases e:i=c
  ·subst e;rw [hg] at hg';cases hg'
   rw [List.getElem?_set_self hi] at hl';cases hl'
   exact(hs.row i g l hg hl).set_ hk x
  ·rw [List.getElem?_set_ne e] at hl';refine(hs.row c g' l' hg' hl').kx kk (fun h=>?_);subst h;exact e (hd _ _ _ hg hg')
theorem SN.app{gS:Nat}{sent:List (List Int)}(hs:SN wr gS gcs C sent){i g:Nat}{l:List Int}{x:Int}(hg:gcs[i]?=some g)(hl:sent[i]?=some l)(hgS:∀(c g:Nat),gcs[c]?=some g→g≠gS)(hd:∀(c d g:Nat),gcs[c]?=some g→gcs[d]?=some g→c=d)
 (hk:KX (fun k=>k=g) wr w2) (hr:RowQ w2 g C (l ++ [x])):SN (w2.setCell ⟨gS,i,none⟩ (.slice (some ⟨g,0,none⟩) (l.length+1) C)) gS gcs C (sent.set i (l ++ [x])):=by
 have kk:=set_kx w2 gS i (.slice (some ⟨g,0,none⟩) (l.length+1) C);have hi:i<sent.length:=(List.getElem?_eq_some_iff.1 hl).1;refine⟨by rw [List.length_set];exact hs.ln,?_,fun c g' l' hg' hl'=>?_⟩
 ·have e:((gcs.zip (sent.set i (l ++ [x]))).map (fun p=>Value.slice (some ⟨p.1,0,none⟩) p.2.length C))=((gcs.zip sent).map (fun p=>Value.slice (some ⟨p.1,0,none⟩) p.2.length C)).set i (.slice (some ⟨g,0,none⟩) (l.length+1) C):=by
   apply List.ext_getElem?
   intro j;by_cases e:i=j
   ·subst e;have e1:(gcs.zip (sent.set i (l ++ [x])))[i]?=some (g,l ++ [x]):=List.getElem?_zip_eq_some.2 ⟨hg,List.getElem?_set_self hi⟩;rw [List.getElem?_map,e1,List.getElem?_set_self (by rw [List.length_map,List.length_zip,hs.ln];omega)];simp
   ·have e1:(gcs.zip (sent.set i (l ++ [x])))[j]?=(gcs.zip sent)[j]?:=by
     simp [List.zip,List.getElem?_zipWith,List.getElem?_set_ne e]
    rw [List.getElem?_set_ne e,List.getElem?_map,List.getElem?_map,e1]
  rw [e];have hb:=(hs.tb.kx hk (fun e=>hgS i g hg e.symm)).set_ i (.slice (some ⟨g,0,none⟩) (l.length+1) C);rw [List.setIfInBounds_toArray] at hb;exact hb
 ·by_cases e:i=c
  ·subst e;rw [hg] at hg';cases hg'
   rw [List.getElem?_set_self hi] at hl';cases hl'
   exact hr.kx kk (fun e=>hgS i g hg e)
  ·rw [List.getElem?_set_ne e] at hl';refine((hs.row c g' l' hg' hl').kx hk (fun h=>?_)).kx kk (fun h=>hgS c g' hg' h);subst h;exact e (hd _ _ _ hg hg')
section
variable(hst:∀(sg:σ) (w w':World) (X:Nat→Prop),HR sg w→KX X w w'→(∀k,own k→¬X k)→HR sg w')(h:RunM B g1 gD gS gs gB M gcs A n c ps C cls HR own w wr tt lf s)
include hst h
theorem RunM.done_(i:Nat)(v:Int):RunM B g1 gD gS gs gB M gcs A n c ps C cls HR own w (wr.setCell ⟨gD,i,none⟩ (.int .i64 v)) tt lf { s with done:=s.done.set i v }:=by
 obtain⟨a1,a2,a3,a4,a5,a6⟩:=h.d;obtain⟨bef,he⟩:=h.se;have k:=set_kx wr gD i (.int .i64 v);have hw:=h.ws;exact⟨h.d,h.lo,h.r10.kx k (by omega),h.r11.kx k (by omega),h.dn.set_ i v,h.sn.kx k (by omega) (fun c g hg=>by have:=a4 c g hg;omega),
  ⟨bef,he.kx k (by omega) (fun g o h0 e=>by have:=(h.tb g o h0 e).1;omega) (fun g h0 e=>by cases e;omega)⟩,h.bb.kx k (by omega),hst _ _ _ _ h.hr k (fun j hj=>by have:=h.lo j hj;omega),kx_own h.kx (by omega) k,h.ws,h.tb⟩
theorem RunM.begun_(i:Nat):RunM B g1 gD gS gs gB M gcs A n c ps C cls HR own w (wr.setCell ⟨gB,i,none⟩ (.bool true)) tt lf { s with begun:=s.begun.set i true }:=by
 obtain⟨a1,a2,a3,a4,a5,a6⟩:=h.d;obtain⟨bef,he⟩:=h.se;have k:=set_kx wr gB i (.bool true);have hw:=h.ws;exact⟨h.d,h.lo,h.r10.kx k (by omega),h.r11.kx k (by omega),h.dn.kx k (by omega),h.sn.kx k (by omega) (fun c g hg=>by have:=a4 c g hg;omega),
  ⟨bef,he.st.kx k (by omega),he.tr.kx k (fun g o h0 e=>by have:=(h.tb g o h0 e).1;omega),by simp [he.bl],fun h0=>⟨gB,rfl,h.bb.set_ i true,by omega⟩,he.trn,Nat.le_trans he.bb (fbg_set _ _)⟩,h.bb.set_ i true,hst _ _ _ _ h.hr k (fun j hj=>by have:=h.lo j hj;omega),kx_own h.kx (by omega) k,h.ws,h.tb⟩
theorem RunM.left_(x:Int):RunM B g1 gD gS gs gB M gcs A n c ps C cls HR own w (wr.setCell ⟨gs,1,none⟩ (.int .i64 x)) tt x s:=by
 obtain⟨a1,a2,a3,a4,a5,a6⟩:=h.d;obtain⟨bef,he⟩:=h.se;have k:=set_kx wr gs 1 (.int .i64 x);have hw:=h.ws;exact⟨h.d,h.lo,h.r10.kx k (by omega),h.r11.kx k (by omega),h.dn.kx k (by omega),h.sn.kx k (by omega) (fun c g hg=>by have:=a4 c g hg;omega),
  ⟨bef,by simpa using he.st.set_ 1 (.int .i64 x),he.tr.kx k he.trn,he.bl,fun h0=>⟨gB,rfl,h.bb.kx k (by omega),by omega⟩,he.trn,he.bb⟩,h.bb.kx k (by omega),hst _ _ _ _ h.hr k (fun j hj=>by have:=h.lo j hj;omega),kx_own h.kx (by omega) k,h.ws,h.tb⟩
theorem RunM.now_(x:Int):RunM B g1 gD gS gs gB M gcs A n c ps C cls HR own w (wr.setCell ⟨gs,0,none⟩ (.int .i64 x)) x lf s:=by
 obtain⟨a1,a2,a3,a4,a5,a6⟩:=h.d;obtain⟨bef,he⟩:=h.se;have k:=set_kx wr gs 0 (.int .i64 x);have hw:=h.ws;exact⟨h.d,h.lo,h.r10.kx k (by omega),h.r11.kx k (by omega),h.dn.kx k (by omega),h.sn.kx k (by omega) (fun c g hg=>by have:=a4 c g hg;omega),
  ⟨bef,by simpa using he.st.set_ 0 (.int .i64 x),he.tr.kx k he.trn,he.bl,fun h0=>⟨gB,rfl,h.bb.kx k (by omega),by omega⟩,he.trn,he.bb⟩,h.bb.kx k (by omega),hst _ _ _ _ h.hr k (fun j hj=>by have:=h.lo j hj;omega),kx_own h.kx (by omega) k,h.ws,h.tb⟩
omit hst in
theorem RunM.chosen{sg':σ}(k:KX (fun k=>k=gs∨own k) wr w2){b2:Nat}(he:SE w2 gs tt lf A n c ps (some ⟨gB,0,none⟩) s.begun b2)(hr:HR sg' w2):RunM B g1 gD gS gs gB M gcs A n c ps C cls HR own w w2 tt lf { s with sg:=sg' }:=by
 obtain⟨a1,a2,a3,a4,a5,a6⟩:=h.d;have hw:=h.ws;have lo:∀j,B≤j→¬own j:=fun j hj ho=>by have:=h.lo j ho;omega
 refine⟨h.d,h.lo,h.r10.kx k ?_,h.r11.kx k ?_,h.dn.kx k ?_,h.sn.kx k ?_ (fun c g hg=>?_),⟨b2,he⟩,h.bb.kx k ?_,hr,?_,h.ws,h.tb⟩
 ·rintro (e|e)
  ·omega
  ·exact lo _ (by omega) e
 ·rintro (e|e)
  ·omega
  ·exact lo _ (by omega) e
 ·rintro (e|e)
  ·omega
  ·exact lo _ (by omega) e
 ·rintro (e|e)
  ·omega
  ·exact lo _ (by omega) e
 ·have:=a4 c g hg
  rintro (e|e)
  ·omega
  ·exact lo _ (by omega) e
 ·rintro (e|e)
  ·omega
  ·exact lo _ (by omega) e
 ·refine⟨k.os.trans h.kx.os,k.tape.trans h.kx.tape,k.output.trans h.kx.output,Nat.le_trans h.kx.size k.size,fun j hj hx=>(k.block j (Nat.lt_of_lt_of_le hj h.kx.size) ?_).trans (h.kx.block j hj hx)⟩
  rintro (e|e)
  ·omega
  ·exact hx e
theorem RunM.sent_{i g k:Nat}{l:List Int}(hg:gcs[i]?=some g)(hl:s.sent[i]?=some l)(hk:k<l.length)(x:Int):RunM B g1 gD gS gs gB M gcs A n c ps C cls HR own w (wr.setCell ⟨g,k,none⟩ (.int .i64 x)) tt lf { s with sent:=s.sent.set i (l.set k x) }:=by
 obtain⟨a1,a2,a3,a4,a5,a6⟩:=h.d;obtain⟨bef,he⟩:=h.se;have kk:=set_kx wr g k (.int .i64 x);have hw:=h.ws;have hgg:=a4 i g hg;exact⟨h.d,h.lo,h.r10.kx kk (by omega),h.r11.kx kk (by omega),h.dn.kx kk (by omega),h.sn.row_set hg hl hk (by omega) a6 x,
  ⟨bef,he.kx kk (by omega) (fun g o h0 e=>by have:=(h.tb g o h0 e).1;omega) (fun g h0 e=>by cases e;omega)⟩,h.bb.kx kk (by omega),hst _ _ _ _ h.hr kk (fun j hj=>by have:=h.lo j hj;omega),kx_own h.kx (by omega) kk,h.ws,h.tb⟩
theorem RunM.app_{i g:Nat}{l:List Int}{x:Int}(hg:gcs[i]?=some g)(hl:s.sent[i]?=some l)(hk:KX (fun k=>k=g) wr w2)(hr:RowQ w2 g C (l ++ [x])) :
 RunM B g1 gD gS gs gB M gcs A n c ps C cls HR own w (w2.setCell ⟨gS,i,none⟩ (.slice (some ⟨g,0,none⟩) (l.length+1) C)) tt lf { s with sent:=s.sent.set i (l ++ [x]) }:=by
 obtain⟨a1,a2,a3,a4,a5,a6⟩:=h.d;obtain⟨bef,he⟩:=h.se;have kk:=(hk.mono (Y:=fun k=>k=g∨k=gS) (fun _ _ e=>.inl e)).trans ((set_kx w2 gS i (.slice (some ⟨g,0,none⟩) (l.length+1) C)).mono (Y:=fun k=>k=g∨k=gS) (fun _ _ e=>.inr e));have hw:=h.ws;have hgg:=a4 i g hg;refine⟨h.d,h.lo,h.r10.kx kk (by omega),h.r11.kx kk (by omega),h.dn.kx kk (by omega),h.sn.app hg hl (fun c g hg=>by have:=a4 c g hg;omega) a6 hk hr,
  ⟨bef,he.kx kk (by omega) (fun g o h0 e=>by have:=(h.tb g o h0 e).1;omega) (fun g h0 e=>by cases e;omega)⟩,h.bb.kx kk (by omega),hst _ _ _ _ h.hr kk (fun j hj=>by have:=h.lo j hj;omega),?_,h.ws,h.tb⟩
 refine⟨kk.os.trans h.kx.os,kk.tape.trans h.kx.tape,kk.output.trans h.kx.output,Nat.le_trans h.kx.size kk.size,fun j hj hx=>(kk.block j (Nat.lt_of_lt_of_le hj h.kx.size) ?_).trans (h.kx.block j hj hx)⟩
 omega
theorem RunM.alloc(o:Obj):RunM B g1 gD gS gs gB M gcs A n c ps C cls HR own w (wr.alloc o) tt lf s:=
 h.keep hst (X:=fun _=>False) (KX.of (balloc wr o)) (fun _ hx=>hx.elim)
theorem RunM.drewN(k:Nat):RunM B g1 gD gS gs gB M gcs A n c ps C cls HR own w (wr.drewN k) tt lf s:=
 h.keep hst (X:=fun _=>False) ((KX.refl _ wr).drewN k) (fun _ hx=>hx.elim)
end
end
end
section
open Go.RowKit
def endN(ps:List PK):Nat:=match ps.getLast? with|none=>0|some x=>(x.tm+1).toNat
def aV(fl:Int)(ps:List PK)(t:Int):Int:=bytesV t (selT fl ps)
theorem endN_last{ps:List PK}{n:Nat}{x:PK}(hn:ps.length=n+1)(hx:ps[n]?=some x)(h0:0≤x.tm):(endN ps:Int)=x.tm+1:=by
 unfold endN;rw [List.getLast?_eq_getElem?,hn,Nat.add_sub_cancel,hx];simp only
 omega
theorem endN_le{ps:List PK}(hv:Valid ps):endN ps≤2001:=by
 unfold endN;cases h:ps.getLast? with
 | none=>simp
 | some x=>
   have:=hv.good x (List.mem_of_getLast? h)
   unfold PK.Good at this;simp only
   omega
theorem bytesV_nn{t:Int}{ps:List PK}(hg:∀x∈ps,x.Good):0≤bytesV t ps∧bytesV t ps≤1500*(ps.length:Int):=by
 unfold bytesV
 induction ps with
 | nil=>simp
 | cons x l ih=>
   have h1:=ih (fun y hy=>hg y (by simp [hy]));have gx:=hg x (by simp);unfold PK.Good at gx;simp only [List.map_cons,List.sum_cons,List.length_cons]
   push_cast
   by_cases h:x.tm<t
   ·rw [if_pos h];omega
   ·rw [if_neg h];omega
theorem selT_good{fl:Int}{ps:List PK}(hv:Valid ps):∀x∈selT fl ps,x.Good:=fun x hx=>hv.good x (by unfold selT at hx;exact(List.mem_filter.1 hx).1)
theorem selT_le(fl:Int)(ps:List PK):(selT fl ps).length≤ps.length:=by unfold selT;exact List.length_filter_le _ _
theorem aV_bd{fl t:Int}{ps:List PK}(hv:Valid ps):0≤aV fl ps t∧aV fl ps t≤90000:=by
 have h1:=bytesV_nn (t:=t) (selT_good (fl:=fl) hv);have h2:=selT_le fl ps;have h3:=hv.len;unfold aV;omega
theorem end_any(A:Option Addr)(n c:Nat)(ps:List PK)(w:World)(h:LsT w A n c ps)(hv:Valid ps) :
 Calls Tryz.prog 123 #[.slice A n c] w fun e w'=>e = .returned (.int .i64 (endN ps))∧Below w.heap.size w w':=by
 have hl:=h.1;have hn60:=hv.len;cases n with
 | zero=>
   have:ps = []:=List.eq_nil_of_length_eq_zero hl
   subst this;clear hl h;go_enter Tryz.func123,Tryz.ntmps123
   go_wp2_with fail
   go_ret
   exact⟨rfl,Below.refl _ _⟩
 | succ m=>
   obtain⟨g,o,rfl,hr⟩:=h.2.2 (by omega);obtain⟨x,hx,x0,x1,x2⟩:=hr.get (k:=m) (by omega);have hgl:=hr.lt;have hg:=hv.good x (List.mem_of_getElem? hx);unfold PK.Good at hg;obtain⟨g1,g2,g3,g4,g5,g6⟩:=hg;have HE:=hi_ (endN_last hl hx g3);have e1:((m:Int)+1 == 0)=false:=by simp;omega
   have hm:m≤60:=by omega
   clear h hr hx hl hn60;go_enter Tryz.func123,Tryz.ntmps123
   go_wp2_with fail
   go_ret
   exact⟨ret_int HE.out.symm,Below.refl _ _⟩
def sumsL(fl:Int)(ps:List PK):List Int:=tab (fun t=>aV fl ps t) 0 (endN ps+1)
def RetSums(fl:Int)(ps:List PK)(w:World)(e:Ending)(w':World):Prop:=
 ∃b,w.heap.size≤b∧e = .returned (.slice (some ⟨b,0,none⟩) (endN ps+1) (endN ps+1))∧IBlk w' b (sumsL fl ps)∧Below w.heap.size w w'
set_option maxHeartbeats 1000000 in
theorem sums_any(A:Option Addr)(n c:Nat)(fl:Int)(ps:List PK)(w:World)(h:LsT w A n c ps)(hv:Valid ps) :
 Calls Tryz.prog 99 #[.slice A n c,.int .i64 fl] w (RetSums fl ps w):=by
 obtain⟨N,hN⟩:∃N,N=endN ps:=⟨_,rfl⟩
 have hN2:N≤2001:=by rw [hN];exact endN_le hv
 have HN:=hi_ hN;have HT:=hi_ h;have HV:=hi_ hv;have HE:=hi_ (end_any A n c ps w h hv);rw [← hN] at HE;clear hN h hv;obtain⟨i0,hi0,hz0,hz1,hz2⟩:=info_parts info_int;go_enter Tryz.func99,Tryz.ntmps99
 go_wp2_with fail
 refine HE.out.mono ?_;rintro e w1 ⟨rfl,hb1⟩;clear HE;have BW:=hi_ hb1;have hs1:w.heap.size≤w1.heap.size:=BW.out.size;clear hb1;go_wp2_with (at_make;refine wpList_make_full _ rfl _ _ 22 rfl w1.heap.size 3 i0 _ 1 Tryz.underlying22 hi0 hz0 hz1 .i64 .i64 _ _ (N+1) rfl rfl rfl rfl (by rw [hz2];omega) (by unfold maxLen;omega) (by simp) ?_;intro w2 own2 grow2)
 have bw2:Below w1.heap.size w1 w2:=(Below.refl _ _).grown grow2 (by simp) (by simp);have ib2:=IBlk.made own2 (by omega);have IB:=hi_ ib2;have BW:=hi_ (bthen BW.out bw2);clear own2 grow2 hi0 hz0 hz1 hz2 bw2 ib2;generalize hbb:w1.heap.size=b at *;clear hbb;go_loopg [13,6] (N+1) (fun gg s13 s6 wr=>∃(k:Nat) (zs:List Int),k+gg=N+1∧s13 = .int .i64 k∧Hid (zs.length=N+1∧∀j,j<k→nth zs j=aV fl ps j)∧Hid (IBlk wr b zs)∧Hid (Below w.heap.size w wr))
 case atStart=>exact⟨0,List.replicate (N+1) 0,by omega,rfl,⟨by simp,fun j hj=>by omega⟩,IB,BW⟩
 case round=>
  clear IB BW;obtain⟨k,zs,hkg,rfl,HZ,IB,BW⟩:=hrel;by_cases hk:k<N+1
  case pos=>
   have hki:(k:Int)<(N:Int)+1:=by omega
   have hlb:=IB.out.lt;have HB:=hi_ (bytes_any A n c fl k ps wr (HT.out.below BW.out) HV.out);go_wp2_with fail
   refine HB.out.mono ?_;rintro e w3 ⟨rfl,hb3⟩;clear HB;obtain⟨x,hx⟩:∃x,x=bytesV k (selT fl ps):=⟨_,rfl⟩
   rw [← hx];have HX:=hi_ hx;have IB:=hi_ (IB.out.below hb3 hlb);have BW:=hi_ (bthen BW.out hb3);have fz:=IB.out.frozen k;have cz:=IB.out.cell k (by rw [HZ.out.1];exact hk);have hl2:=IB.out.lt;have IB3:=hi_ (IB.out.set_ k x);have BW3:=hi_ (BW.out.setCell (p:=⟨b,k,none⟩) (by simp;exact hs1) (.int .i64 x));clear hx hb3 hlb;go_wp2_with fail
   go_roundg (gk-1)
   case measure=>omega
   case rel=>
    refine⟨k+1,zs.set k x,by omega,by go_num,hi_ ⟨by rw [List.length_set];exact HZ.out.1,fun j hj=>?_⟩,IB3,BW3⟩
    rw [nth_set _ _ _ _ (by rw [HZ.out.1];exact hk)];by_cases e:j=k
    ·rw [if_pos e,e,HX.out];rfl
    ·rw [if_neg e];exact HZ.out.2 j (by omega)
  case neg=>
   obtain rfl:k=N+1:=by omega
   go_wp2_with fail
   go_ret
   refine⟨b,hs1,by rw [← HN.out];rfl,?_,BW.out⟩
   rw [show sumsL fl ps=zs from(eq_tab (by rw [← HN.out];exact HZ.out.1) (fun j hj=>by rw [HZ.out.2 j (by rw [HN.out];exact hj),Nat.zero_add])).symm];exact IB.out
end
end Go.Proofs.YtaejfleahamapaaGreat
