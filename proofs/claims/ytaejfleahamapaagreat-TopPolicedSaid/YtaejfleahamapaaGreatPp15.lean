/- The run of two packets of 15 bytes on a line of 10 bytes: they are done in the ticks 1 and 2 (plain). -/
import Derived.Deep.LoopGhost
import Derived.Deep.DeepCutAuto
import Derived.Deep.RegionHeld3
import Derived.BigRegion
import Derived.WalkSpells
import Derived.Test.YtaejfleahamapaaGreatPp13
import Derived.Test.YtaejfleahamapaaGreatPp14
import Derived.Test.YtaejfleahamapaaGreatPp9
import Derived.Test.YtaejfleahamapaaGreatPp7
import Derived.Test.YtaejfleahamapaaGreatPp11
import Derived.Test.YtaejfleahamapaaGreatPp4
import Derived.Test.YtaejfleahamapaaGreatPp3
import Derived.Test.YtaejfleahamapaaGreatPp5
import Derived.Test.YtaejfleahamapaaGreatPp1
import Derived.Test.YtaejfleahamapaaGreatPp10
namespace Go.Proofs.YtaejfleahamapaaGreat
set_option linter.unusedVariables false
set_option linter.unusedSimpArgs false
section
def EarS(f:Cv):List (Int × Int)→Int→Int→Int→Bool→Prop
 | [],sum,time,t,ok=>t=time∧ok=true
 | p :: l,sum,time,t,ok=>∃k okk er,ReachS f (sum+p.2) k okk er∧((okk=false∧t=0∧ok=false)∨(okk=true∧EarS f l (sum+p.2) (max (max time p.1) (p.1+k-1)) t ok))
def ssum:List (Int × Int)→Nat→Int
 | [],_=>0
 | p :: l,0=>p.2
 | p :: l,i+1=>p.2+ssum l i
section
variable{f:Cv}{l:List (Int × Int)}{sum time t:Int}
def Rch(f:Cv)(v:Int)(u:Nat):Prop:=v≤f.at u∧∀m,m<u→f.at m<v
theorem reach_some(hf:∀n,¬f.infAt n){v k er:Int}(h:ReachS f v k true er):∃u:Nat,k=u∧Rch f v u:=by
 rcases h with ⟨_,_,h,_⟩|⟨_,_,_,_,h,_⟩|⟨_,hv,⟨_,n,rfl,h1,h2⟩|⟨h,_⟩,_⟩
 ·cases h
 ·cases h
 ·refine⟨n,rfl,?_,fun m hm=>?_⟩
  ·rcases h1 with h1|h1
   ·exact absurd h1 (hf n)
   ·exact h1.2
  ·rcases hv with hv|hv
   ·rcases h1 with h1|h1
    ·exact absurd h1 (hf n)
    ·exact absurd hv h1.1
   ·have:=h2 m hm
    rcases Int.lt_or_le (f.at m) v with g|g
    ·exact g
    ·exact absurd (.inr ⟨by unfold inf;omega,g⟩) this
 ·cases h
theorem ear_true(hf:∀n,¬f.infAt n):∀{l:List (Int × Int)} {sum time:Int},EarS f l sum time t true→time≤t∧∀(i:Nat) (p:Int × Int),l[i]?=some p→p.1≤t∧∃u:Nat,Rch f (sum+ssum l i) u∧p.1+u-1≤t
 | [],sum,time,h=>⟨by rw [h.1];exact Int.le_refl _,fun i p hp=>by simp at hp⟩
 | q :: l,sum,time,h=>by
   obtain⟨k,okk,er,hr,⟨_,_,h⟩|⟨rfl,h⟩⟩:=h
   ·cases h
   ·obtain⟨u,rfl,hu⟩:=reach_some hf hr;obtain⟨h1,h2⟩:=ear_true hf h;refine⟨by omega,fun i p hp=>?_⟩
    rcases i with _|i
    ·simp at hp;subst hp;exact⟨by omega,u,hu,by omega⟩
    ·simp at hp;obtain⟨h3,v,h4,h5⟩:=h2 i p hp;refine⟨h3,v,?_,h5⟩
     rw [ssum,← Int.add_assoc];exact h4
end
/-! ### Greedy packets of one byte -/
section
variable{f:Cv}{ts:List Int}
end
end
section
open Go.RowKit
theorem set_kxA(w:World)(g i:Nat)(v:Value):KX (fun k=>k=g) w (w.setCell ⟨g,i,none⟩ v):=(KX.refl (fun k=>k=g) w).set_ (p:=⟨g,i,none⟩) rfl v
structure RC(w:World)(b0 p:Nat)(f:Cv)(A:Option Addr)(n c:Nat)(fst:Int)(tv zv:Value)(ts zs:List Int):Prop where
 blk:Blk w p 158 #[.slice A n c,.int .i64 f.per,.int .i64 f.inc,.int .i64 fst,tv,zv]
 tO:Own w b0 tv ts.length ts
 zO:Own w b0 zv zs.length zs
 tp:tv.ownBlock≠some p
 zp:zv.ownBlock≠some p
 tz:∀k,tv.ownBlock=some k→zv.ownBlock≠some k
 pb:b0≤p
 fi:Ints w b0 A n f.vals
 ln:ts.length=zs.length
section
variable{w w':World}{b0 p:Nat}{f:Cv}{A:Option Addr}{n c:Nat}{fst:Int}{tv zv:Value}{ts zs:List Int}
theorem RC.below(h:RC w b0 p f A n c fst tv zv ts zs)(hb:Below w.heap.size w w'):RC w' b0 p f A n c fst tv zv ts zs:=by
 have k:KX (fun _=>False) w w':=KX.of hb;have hp:=h.blk.lt;have hfi:Ints w' b0 A n f.vals:=h.fi.keep fun q hq=>hb.cell (by have:=h.pb;omega)
 exact⟨h.blk.kx k (fun h=>h),h.tO.kx k (fun _ _ h=>h),h.zO.kx k (fun _ _ h=>h),h.tp,h.zp,h.tz,h.pb,hfi,h.ln⟩
end
theorem below_kx0{w0 wr w':World}{X:Nat→Prop}(h:Below w0.heap.size w0 wr)(k:KX X wr w')(hx:∀g,X g→w0.heap.size≤g):Below w0.heap.size w0 w':=
 ⟨k.os.trans h.os,k.tape.trans h.tape,k.output.trans h.output,Nat.le_trans h.size k.size,fun g hg=>(k.block g (Nat.lt_of_lt_of_le hg h.size) (fun hX=>by have:=hx g hX;omega)).trans (h.block g hg)⟩
section
variable{w wr w':World}{p:Nat}{f:Cv}{A:Option Addr}{n c:Nat}{tv zv:Value}
theorem RC.kx{b0:Nat}{fst:Int}{ts zs:List Int}{X:Nat→Prop}(h:RC wr b0 p f A n c fst tv zv ts zs)(k:KX X wr w')(hp:¬X p)(ht:∀g,tv.ownBlock=some g→¬X g)(hz:∀g,zv.ownBlock=some g→¬X g)(hb:∀g,X g→b0≤g):RC w' b0 p f A n c fst tv zv ts zs:=by
 have hlp:=h.blk.lt;have hpb:=h.pb;exact⟨h.blk.kx k hp,h.tO.kx k ht,h.zO.kx k hz,h.tp,h.zp,h.tz,h.pb,h.fi.keep fun q hq=>World.cell?_of_block (k.block q.block (by omega) (fun hX=>by have:=hb _ hX;omega)),h.ln⟩
end
set_option maxHeartbeats 1000000 in
theorem begin_any(A:Option Addr)(n c:Nat)(f:Cv)(w:World)(hA:Ints w w.heap.size A n f.vals)(ok:f.Ok) :
 Calls Tryz.prog 68 #[.agg #[.slice A n c,.int .i64 f.per,.int .i64 f.inc]] w fun e w'=>∃p,e = .returned (.pointer (some ⟨p,0,none⟩))∧RC w' w.heap.size p f A n c (f.at 1) (.slice none 0 0) (.slice none 0 0) [] []∧Below w.heap.size w w':=by
 have BF:=hi_ (Blk.new w 26 #[.slice A n c,.int .i64 f.per,.int .i64 f.inc]);have BW:=hi_ (balloc w (.cells #[.slice A n c,.int .i64 f.per,.int .i64 f.inc] 26));have HA:=hi_ (hA.alloc' (.cells #[.slice A n c,.int .i64 f.per,.int .i64 f.inc] 26));have HA0:=hi_ hA;have h1:=ok.n2;have h2:=ok.p1;have h3:=ok.pn;have h4:=ok.i1;have h5:=ok.i2;have hl:=hA.1;have hs1:=World.size_alloc w (.cells #[.slice A n c,.int .i64 f.per,.int .i64 f.inc] 26);clear hA;go_enter Tryz.func68,Tryz.ntmps68
 go_upto_region 1 with fail
 generalize hwe:w.alloc (.cells #[.slice A n c,.int .i64 f.per,.int .i64 f.inc] 26)=w1 at *;clear hwe;obtain⟨⟨l0,l1,l2⟩,-,hll⟩:=BF.out.c3;have HS:=hi_ hs1;clear hs1;go_wp2_with fail
 refine wp_region_held_drew (S:=fun w'=>w'.cell? ⟨w.heap.size,0,none⟩=some (.slice A n c)∧w'.cell? ⟨w.heap.size,1,none⟩=some (.int .i64 f.per)∧w'.cell? ⟨w.heap.size,2,none⟩=some (.int .i64 f.inc)) (by kernel_rfl) (by exact⟨l0,l1,l2⟩) (fun hHeld=>?_);refine tkO [0,1] ?_;(iterate 2 refine tkI ?_);refine tkX ?_;refine rdy2 2 (fun K hK=>?_);go_simp
 refine(at2_any A n c f.per f.inc 1 f.vals _ (by exact HA.out) (by omega) h2 (by omega) h4 ok.nn (by omega) (by omega) (fun h=>by
  have e:(1:Int).toNat=1:=rfl;rw [e] at h ⊢;have:n=1:=by omega
  subst this;rw [Nat.sub_self,Nat.zero_div];omega)).mono ?_
 rintro e w2 ⟨rfl,hb⟩;have L2:(w2.cell? ⟨w.heap.size,0,none⟩=some (.slice A n c)∧w2.cell? ⟨w.heap.size,1,none⟩=some (.int .i64 f.per)∧w2.cell? ⟨w.heap.size,2,none⟩=some (.int .i64 f.inc)):=⟨(hb.cell (p:=⟨w.heap.size,0,none⟩) hll).trans l0,(hb.cell (p:=⟨w.heap.size,1,none⟩) hll).trans l1,(hb.cell (p:=⟨w.heap.size,2,none⟩) hll).trans l2⟩
 have BW2:=hi_ (show Below w.heap.size w w2 from bthen BW.out (bthen (bdrewN (k:=1) (Below.refl _ _)) hb));have HS2:=hi_ (show w.heap.size+1≤w2.heap.size by have h1:=hb.size;have h2:=HS.out;have h3:w1.drew.heap.size=w1.heap.size:=rfl;omega);clear BW l0 l1 l2 hll hb hHeld BF;refine bkS hK (by exact L2) (fun hHeld=>?_);clear hK K;refine tk1 3 ?_;refine rdy2 4 (fun K hK=>?_);go_simp
 have hbx:=Blk.new w2 158 #[.slice A n c,.int .i64 f.per,.int .i64 f.inc,.int .i64 (f.at 1),.slice none 0 0,.slice none 0 0];have ba:=balloc w2 (.cells #[.slice A n c,.int .i64 f.per,.int .i64 f.inc,.int .i64 (f.at 1),.slice none 0 0,.slice none 0 0] 158);have BW3:=hi_ (bthen BW2.out ba);have hrc:RC (w2.alloc (.cells #[.slice A n c,.int .i64 f.per,.int .i64 f.inc,.int .i64 (f.at 1),.slice none 0 0,.slice none 0 0] 158)) w.heap.size w2.heap.size f A n c (f.at 1) (.slice none 0 0) (.slice none 0 0) [] []:=
  ⟨hbx,Own.nil_ _ _,Own.nil_ _ _,fun h=>(by cases h),fun h=>(by cases h),fun k h=>(by cases h),by have:=BW2.out.size;omega,HA0.out.keep fun q hq=>BW3.out.cell hq,rfl⟩
 have HR:=hi_ hrc;have L3:((w2.alloc (.cells #[.slice A n c,.int .i64 f.per,.int .i64 f.inc,.int .i64 (f.at 1),.slice none 0 0,.slice none 0 0] 158)).cell? ⟨w.heap.size,0,none⟩=some (.slice A n c)∧(w2.alloc (.cells #[.slice A n c,.int .i64 f.per,.int .i64 f.inc,.int .i64 (f.at 1),.slice none 0 0,.slice none 0 0] 158)).cell? ⟨w.heap.size,1,none⟩=some (.int .i64 f.per)∧(w2.alloc (.cells #[.slice A n c,.int .i64 f.per,.int .i64 f.inc,.int .i64 (f.at 1),.slice none 0 0,.slice none 0 0] 158)).cell? ⟨w.heap.size,2,none⟩=some (.int .i64 f.inc)):=by
  have hlt:w.heap.size<w2.heap.size:=by have:=HS2.out;omega
  exact⟨(ba.cell (p:=⟨w.heap.size,0,none⟩) hlt).trans L2.1,(ba.cell (p:=⟨w.heap.size,1,none⟩) hlt).trans L2.2.1,(ba.cell (p:=⟨w.heap.size,2,none⟩) hlt).trans L2.2.2⟩
 clear hbx ba hrc hHeld;refine bkS hK (by exact L3) (fun hHeld=>?_);clear hK K;clear L2 L3;refine tk1 5 ?_;refine dnH ?_;go_wp2_with fail
 go_ret
 exact⟨_,rfl,HR.out,BW3.out⟩
theorem rch_bd{f:Cv}(hf:f.Fin){v:Int}{u:Nat}(h:Rch f v u)(h0:0≤v):(u:Int)≤400+120*v:=by
 have ok:=hf.1;have h1:=ok.n2;have h2:=ok.p1;have h3:=ok.p2;have h4:=ok.i1;have P:=hf.toL.step;obtain⟨S,hS⟩:∃S,S=f.vals.length-f.per.toNat:=⟨_,rfl⟩
 rcases (show f.inc=0∨1≤f.inc by omega) with hi|hi
 ·rcases Nat.lt_or_ge 400 u with g|g
  ·exfalso
   have e:=P (u-f.per.toNat) (by omega);rw [show u-f.per.toNat+f.per.toNat=u by omega,hi] at e;have:=h.2 (u-f.per.toNat) (by omega)
   have:=h.1
   omega
  ·omega
 ·obtain⟨q,rfl⟩:=Int.eq_ofNat_of_zero_le h0;have e:=P.mul q S (by omega);have e0:=(ok.at_bd (n:=S) (by omega)).1;have e1:(q:Int)≤q*f.inc:=by
   have:=Int.mul_le_mul_of_nonneg_left hi (show(0:Int)≤q by omega)
   omega
  rcases Nat.lt_or_ge (S+q*f.per.toNat) u with g|g
  ·have:=h.2 _ g
   omega
  ·have hq:q*f.per.toNat≤q*120:=Nat.mul_le_mul_left _ (by omega);omega
def EaS(f:Cv)(fst:Int)(l:List (Int × Int))(time size t:Int)(ok:Bool):Prop:=(fst<size∧t=0∧ok=false)∨(size≤fst∧EarS f l size time t ok)
set_option maxHeartbeats 4000000 in
set_option maxRecDepth 100000 in
theorem earliest_any(b0 p:Nat)(f:Cv)(A:Option Addr)(n c:Nat)(fst time size:Int)(tv zv:Value)(ts zs:List Int)(w:World)(h:RC w b0 p f A n c fst tv zv ts zs)(hf:f.Fin)(hn:ts.length≤60)(ht:∀j,j<ts.length→0≤nth ts j∧nth ts j≤100000)(hz:∀j,j<zs.length→1≤nth zs j∧nth zs j≤1500)
 (h0:0≤time) (h1:time≤100000) (s1:1≤size) (s2:size≤1500) :
 Calls Tryz.prog 71 #[.pointer (some ⟨p,0,none⟩),.int .i64 time,.int .i64 size] w fun e w'=>∃t ok,EaS f fst (ts.zip zs).reverse time size t ok∧e = .returned (.tuple #[.int .i64 t,.bool ok])∧Below w.heap.size w w':=by
 have HR:=hi_ h;have HF:=hi_ hf;have HT:=hi_ ht;have HZ:=hi_ hz;obtain⟨tA,tc,rfl,htc,hti,htb⟩:=h.tO.ints;obtain⟨zA,zc,rfl,hzc,hzi,hzb⟩:=h.zO.ints;have TI:=hi_ hti;have ZI:=hi_ hzi;obtain⟨L,hL⟩:∃L,L=ts.length:=⟨_,rfl⟩
 have hzl:zs.length=L:=by rw [hL];exact h.ln.symm
 rw [hzl] at h ZI HR;rw [← hL] at h TI HR hn;have HL:=hi_ hL;have HZL:=hi_ hzl;obtain⟨c0,c1,c2,c3,c4,c5⟩:_∧_∧_∧_∧_∧_:=⟨h.blk.cell 0,h.blk.cell 1,h.blk.cell 2,h.blk.cell 3,h.blk.cell 4,h.blk.cell 5⟩
 simp at c0 c1 c2 c3 c4 c5;have hlp:=h.blk.lt;clear h hf ht hz htc hti htb hzc hzi hzb hL hzl;go_enter Tryz.func71,Tryz.ntmps71
 by_cases hs:fst<size
 case pos=>
  have F:=hi_ (show EaS f fst (ts.zip zs).reverse time size 0 false from .inl ⟨hs,rfl,rfl⟩);go_wp2_with fail
  exact bodyPost_ret (v:=.tuple #[.int .i64 0,.bool false]) (by simp [results,Tryz.results71,go_sem]) rfl ⟨0,false,F.out,rfl,Below.refl _ _⟩
 case neg=>
 have HS:=hi_ hs;have ewL:IntKind.i64.wrap ((L:Int)-1)=(L:Int)-1:=IntWalk.i64_in _ (by omega);have HFULL:=hi_ (show ∀t ok,EarS f ((ts.zip zs).take L).reverse size time t ok→EarS f (ts.zip zs).reverse size time t ok from fun t ok h=>by rw [List.take_of_length_le (by rw [List.length_zip,HZL.out,← HL.out];omega)] at h;exact h);go_wp2_with fail
 clear c0 c1 c2 c3 c4 c5 hlp ewL;go_loopg [9,8,1] L (fun k s9 s8 s1 wx=>∃i sm tm:Int,i+1=k∧k≤L∧s9 = .int .i64 i∧s8 = .int .i64 sm∧s1 = .int .i64 tm∧(1≤sm∧sm+1500*k≤1500+1500*L)∧(0≤tm∧tm≤100000000)∧Hid (∀t ok,EarS f ((ts.zip zs).take k).reverse sm tm t ok→EarS f (ts.zip zs).reverse size time t ok)∧Hid (Below w.heap.size w wx))
 case atStart=>exact⟨(L:Int)-1,size,time,by omega,Nat.le_refl _,rfl,rfl,rfl,⟨by omega,by omega⟩,⟨by omega,by omega⟩,HFULL,hi_ (Below.refl _ _)⟩
 case round=>
  clear HFULL;obtain⟨i,sm,tm,hik,hkL,rfl,rfl,rfl,⟨hs1,hs2⟩,⟨ht1,ht2⟩,HE,BW⟩:=hrel;have R2:=hi_ (HR.out.below BW.out);obtain⟨c0,c1,c2,c3,c4,c5⟩:_∧_∧_∧_∧_∧_:=⟨R2.out.blk.cell 0,R2.out.blk.cell 1,R2.out.blk.cell 2,R2.out.blk.cell 3,R2.out.blk.cell 4,R2.out.blk.cell 5⟩
  simp at c0 c1 c2 c3 c4 c5;have hlp:=R2.out.blk.lt;rcases gk with _|K
  ·obtain rfl:i = -1:=by omega
   have F:=hi_ (show EaS f fst (ts.zip zs).reverse time size tm true from .inr ⟨by have:=HS.out;omega,HE.out _ _ ⟨rfl,rfl⟩⟩);go_wp2_with fail
   exact bodyPost_ret (v:=.tuple #[.int .i64 tm,.bool true]) (by simp [results,Tryz.results71,go_sem]) rfl ⟨tm,true,F.out,rfl,BW.out⟩
  ·obtain rfl:i=(K:Int):=by omega
   obtain⟨zb,zof,hzA,hzb,hzc⟩:=(ZI.out.ext BW.out).2 (by omega);obtain⟨tb,tof,htA,htb,htc⟩:=(TI.out.ext BW.out).2 (by omega);subst hzA htA;obtain⟨z,hzv⟩:∃z,z=nth zs K:=⟨_,rfl⟩
   obtain⟨q,hqv⟩:∃q,q=nth ts K:=⟨_,rfl⟩
   have hzK:=hzc K (by omega);have htK:=htc K (by omega);rw [← hzv] at hzK;rw [← hqv] at htK;have hzr:=HZ.out K (by rw [HZL.out];omega);have htr:=HT.out K (by rw [← HL.out];omega);rw [← hzv] at hzr;rw [← hqv] at htr;obtain⟨S,hS⟩:∃S,S=sm+z:=⟨_,rfl⟩
   have ewS:IntKind.i64.wrap (sm+z)=S:=by rw [hS];exact IntWalk.i64_in _ (by omega)
   have hKL:(K:Int)<L:=by omega
   have hK0:(0:Int)≤K:=by omega
   have HZV:=hi_ hzv;have HQV:=hi_ hqv;have HSV:=hi_ hS;have hSb:1≤S∧S≤100000:=by omega
   clear hzc htc hzv hqv hS;have HAf:=hi_ (show Ints wr wr.heap.size A n f.vals from R2.out.fi.more (by have:=R2.out.pb;omega));have hn4:n≤400:=by have h1:=HF.out.1.n2;have h2:f.vals.length=n:=R2.out.fi.1;omega
   go_wp2_with fail
   refine(reachTop_any A n c f.per f.inc S f.vals _ (by exact HAf.out) (by omega)).mono ?_;rintro e w2 ⟨k,okk,er,hk,rfl,hb⟩;have HK:=hi_ (show ReachS f S k okk er from hk);have hsp:∃l,((ts.zip zs).take (K+1)).reverse=(q,z) :: l∧l=((ts.zip zs).take K).reverse:=by
    have e:(ts.zip zs)[K]?=some (q,z):=by
     refine List.getElem?_zip_eq_some.2 ⟨?_,?_⟩
     ·rw [List.getElem?_eq_getElem (by rw [← HL.out];omega),HQV.out];simp [nth,List.getD,show K<ts.length by rw [← HL.out];omega]
     ·rw [List.getElem?_eq_getElem (by rw [HZL.out];omega),HZV.out];simp [nth,List.getD,show K<zs.length by rw [HZL.out];omega]
    refine⟨_,?_,rfl⟩
    rw [List.take_add_one,e,List.reverse_append]
    rfl
   have HSP:=hi_ hsp;replace BW:=hi_ (bthen BW.out hb);clear hk hsp;cases okk with
   | false=>
     have F:=hi_ (show EaS f fst (ts.zip zs).reverse time size 0 false from .inr ⟨by have:=HS.out;omega,HE.out _ _ (by
      obtain⟨l,h1,h2⟩:=HSP.out;rw [h1];exact⟨k,false,er,by rw [← HSV.out];exact HK.out,.inl ⟨rfl,rfl,rfl⟩⟩)⟩)
     go_wp2_with fail
     exact bodyPost_ret (v:=.tuple #[.int .i64 0,.bool false]) (by simp [results,Tryz.results71,go_sem]) rfl ⟨0,false,F.out,rfl,BW.out⟩
   | true=>
     obtain⟨u,hu,hru⟩:=reach_some (fun n=>HF.out.not_infAt n) HK.out;have hub:=rch_bd HF.out hru (by omega);subst hu;obtain⟨m1,hm1⟩:∃m,m=max tm q:=⟨_,rfl⟩
     obtain⟨v,hv⟩:∃v,v=q+u-1:=⟨_,rfl⟩
     obtain⟨m2,hm2⟩:∃m,m=max m1 v:=⟨_,rfl⟩
     have ew1:IntKind.i64.wrap (q+u)=q+u:=IntWalk.i64_in _ (by omega);have ew2:IntKind.i64.wrap (q+u-1)=v:=by rw [hv];exact IntWalk.i64_in _ (by omega)
     have em1:(if tm<q then q else tm)=m1:=by rw [hm1];split <;> omega
     have em2:(if m1<v then v else m1)=m2:=by rw [hm2];split <;> omega
     have hm2b:0≤m2∧m2≤100000000:=by omega
     have HM:=hi_ (show m2=max (max tm q) (q+u-1) by rw [hm2,hm1,hv]);clear hm1 hm2 hv hub hru;replace R2:=hi_ (R2.out.below hb);have htK:=(hb.cell (p:=⟨tb,tof+K,none⟩) htb).trans htK;have htb2:=Nat.lt_of_lt_of_le htb hb.size;clear c0 c1 c2 c3 c4 c5 hlp hzK hzb hb htb;have c4:w2.cell? ⟨p,4,none⟩=some (.slice (some ⟨tb,tof,none⟩) L tc):=by simpa using R2.out.blk.cell 4
     have hlp:=R2.out.blk.lt;go_wp2_with fail
     refine wp_region_held_drew (S:=fun w'=>w'.cell? ⟨p,4,none⟩=some (.slice (some ⟨tb,tof,none⟩) L tc)∧w'.cell? ⟨tb,tof+K,none⟩=some (.int .i64 q)) (by kernel_rfl) (by exact⟨c4,htK⟩) (fun hHeld=>?_);refine tkO [0,1,2,3,4,5,6,7,8,9,10,11,12,13,14,15,16,17,18,19] ?_;(iterate 20 refine tkI ?_);refine tkX ?_;refine dnH ?_;clear hHeld c4 hlp htK htb2 ew1 ew2 em1 em2;go_wp2_with fail
     go_roundg K
     case measure=>omega
     case rel=>
      refine⟨(K:Int)-1,S,m2,by omega,by omega,by go_num,rfl,rfl,⟨by omega,by have:=HSV.out;omega⟩,hm2b,hi_ (fun t ok h=>HE.out t ok ?_),hi_ (bdrewN (k:=1) BW.out)⟩
      obtain⟨l,h1,h2⟩:=HSP.out;rw [h1];rw [← h2,HM.out] at h;exact⟨(u:Int),true,er,by rw [← HSV.out];exact HK.out,.inr ⟨rfl,by rw [← HSV.out];exact h⟩⟩
set_option maxHeartbeats 4000000 in
set_option maxRecDepth 100000 in
theorem add_any(b0 p:Nat)(f:Cv)(A:Option Addr)(n c:Nat)(fst time size:Int)(tv zv:Value)(ts zs:List Int)(w:World)(h:RC w b0 p f A n c fst tv zv ts zs)(hn:ts.length≤1000) :
 Calls Tryz.prog 73 #[.pointer (some ⟨p,0,none⟩),.int .i64 time,.int .i64 size] w fun e w'=>∃tv' zv',e = .returned (.tuple #[])∧RC w' b0 p f A n c fst tv' zv' (ts ++ [time]) (zs ++ [size])∧KX (fun k=>k=p∨some k=tv.ownBlock∨some k=zv.ownBlock) w w'∧(∀g,tv'.ownBlock=some g→tv.ownBlock=some g∨w.heap.size≤g)∧(∀g,zv'.ownBlock=some g→zv.ownBlock=some g∨w.heap.size≤g):=by
 have HR:=hi_ h;obtain⟨c0,c1,c2,c3,c4,c5⟩:_∧_∧_∧_∧_∧_:=⟨h.blk.cell 0,h.blk.cell 1,h.blk.cell 2,h.blk.cell 3,h.blk.cell 4,h.blk.cell 5⟩
 simp at c0 c1 c2 c3 c4 c5;have hlp:=h.blk.lt;have HP:=hi_ h.blk;have OT:=hi_ h.tO;have OZ:=hi_ (show Own w b0 zv ts.length zs by rw [h.ln];exact h.zO);have KW:=hi_ (KX.refl (fun k=>some k=tv.ownBlock∨some k=zv.ownBlock) w);have HZE:=hi_ (show zs.length=ts.length from h.ln.symm);obtain⟨tA0,tc0,htv0,-,-,-⟩:=h.tO.ints;obtain⟨zA0,zc0,hzv0,-,-,-⟩:=h.zO.ints;have HTV:=hi_ htv0;have HZV:=hi_ hzv0;clear htv0 hzv0;have HB0:=hi_ (show b0≤w.heap.size by have:=h.pb;omega);have HTL:=hi_ (show ∀g,tv.ownBlock=some g→g<w.heap.size from fun g hg=>(h.tO.blk_lt g hg).2);have HZL:=hi_ (show ∀g,zv.ownBlock=some g→g<w.heap.size from fun g hg=>(h.zO.blk_lt g hg).2);clear h;go_enter Tryz.func73,Tryz.ntmps73
 have hF:True:=trivial;refine wp_region_T (fun _=>True) (fun w'=>w'.cell? ⟨p,4,none⟩=some tv∧w'.cell? ⟨p,5,none⟩=some zv) 18 (by kernel_rfl) (by exact hF) (by exact⟨c4,c5⟩) (fun _=>?_);replace HP:=hi_ (show Blk w.drew p 158 _ from HP.out);replace OT:=hi_ (show Own w.drew b0 tv ts.length ts from OT.out);replace OZ:=hi_ (show Own w.drew b0 zv ts.length zs from OZ.out);replace KW:=hi_ (show KX (fun k=>some k=tv.ownBlock∨some k=zv.ownBlock) w w.drew from KW.out.drewN 1);have hG:w.drew.cell? ⟨p,4,none⟩=some tv∧w.drew.cell? ⟨p,5,none⟩=some zv:=⟨c4,c5⟩
 have HSW:=hi_ (show w.heap.size≤w.drew.heap.size from Nat.le_refl _);clear c0 c1 c2 c3 c4 c5 hlp;generalize hwd:w.drew=wd at *;clear hwd;refine ttF 0 ?_;refine ttF 1 ?_;refine ttF 2 ?_;refine ttF 3 ?_;refine ttF 4 ?_;refine ttG 5 ?_;refine ttF 6 ?_;refine ttF 9 ?_;refine ttF 10 ?_;refine ttF 11 ?_;refine ttG 12 ?_;refine ttF 13 ?_;refine wpAnyT_ready (rs:=[7,14]) (by kernel_rfl) (by simp) ?_;refine(AllReadyT.cons (by simp only [g8a,g8s,g8z];rfl) (fun K hK=>?_) (AllReadyT.cons (by simp only [g8a,g8s,g8z];rfl) (fun K hK=>?_) AllReadyT.nil))
 ·-- a literal [time] is laid: wd the world, wa the new one, DA its name
  rw [if_pos (by rfl)];go_simp
  have ba:=balloc wd (.cells #[.int .i64 time] 3);have hlit:IBlk (wd.alloc (.cells #[.int .i64 time] 3)) wd.heap.size [time]:=Blk.new wd 3 #[.int .i64 time];have GDA:=HSW
  try (replace DA:=hi_ (DA.out.kx (X:=fun _=>False) (KX.of ba) (fun h=>h)))
  try (replace DZ:=hi_ (DZ.out.kx (X:=fun _=>False) (KX.of ba) (fun h=>h)))
  replace HP:=hi_ (HP.out.alloc (.cells #[.int .i64 time] 3));replace OT:=hi_ (OT.out.kx (X:=fun _=>False) (KX.of ba) (fun _ _ h=>h));replace OZ:=hi_ (OZ.out.kx (X:=fun _=>False) (KX.of ba) (fun _ _ h=>h));replace KW:=hi_ (KW.out.alloc (.cells #[.int .i64 time] 3))
  try (replace HT2:=hi_ (fun g h=>Nat.lt_of_lt_of_le (HT2.out g h) ba.size))
  replace HSW:=hi_ (Nat.le_trans HSW.out ba.size);obtain⟨gDA,hgDA⟩:∃g,g=wd.heap.size:=⟨_,rfl⟩
  rw [← hgDA] at hlit GDA;simp only [← hgDA];have DA:=hi_ hlit;clear hlit ba hG hgDA;generalize hwx:wd.alloc (.cells #[.int .i64 time] 3)=wa at *;clear hwx;have hG:wa.cell? ⟨p,4,none⟩=some tv∧wa.cell? ⟨p,5,none⟩=some zv:=⟨by simpa using HP.out.cell 4,by simpa using HP.out.cell 5⟩
  refine hK.out _ _ ⟨(by exact hF),fun _=>(by exact hG)⟩ (fun _=>?_);clear hK K
  (try simp only [Act.put]);try simp only [g8b,g8c,g8d]
  refine wpAnyT_ready (rs:=[8,14]) (by kernel_rfl) (by simp) ?_;refine(AllReadyT.cons (by simp only [g8a,g8s,g8z];rfl) (fun K hK=>?_) (AllReadyT.cons (by simp only [g8a,g8s,g8z];rfl) (fun K hK=>?_) AllReadyT.nil))
  ·-- times grows: wa the world, wp the new one
   refine step_app (by rfl) _ _ 22 (by rfl) Tryz.underlying22 b0 tv ts.length ts (by rfl) OT.out wa.heap.size (some ⟨gDA,0,none⟩) 1 1 [time] (by rfl) (IBlk.ints DA.out) (by omega) (Nat.le_trans HB0.out HSW.out) ?_;intro tv' wp own2 grow2 at2;have kg:=KX.grown grow2;replace OZ:=hi_ (OZ.out.kx kg (fun g hg e=>HR.out.tz g e.symm hg));replace HP:=hi_ (HP.out.kx kg (fun e=>HR.out.tp e.symm));replace KW:=hi_ (KW.out.trans (kg.mono (fun _ _ e=>.inl e)));have HAT:=hi_ (show tv'.ownBlock=tv.ownBlock∨∃b,tv'.ownBlock=some b∧w.heap.size≤b from at2.imp id (fun h=>⟨_,h,HSW.out⟩))
   try (replace DZ:=hi_ (DZ.out.kx kg (fun e=>by have h1:=HTL.out gDZ e.symm;have h2:=GDZ.out;omega)))
   replace HSW:=hi_ (Nat.le_trans HSW.out grow2.size);have HT2:=hi_ (show ∀g,tv'.ownBlock=some g→g<wp.heap.size from fun g hg=>(own2.blk_lt g hg).2);replace OT:=hi_ own2;obtain⟨tA,tc,rfl,-,-,-⟩:=own2.ints;clear own2 grow2 at2 kg hG DA;have hG:wp.cell? ⟨p,4,none⟩=some tv∧wp.cell? ⟨p,5,none⟩=some zv:=⟨by simpa using HP.out.cell 4,by simpa using HP.out.cell 5⟩
   refine hK.out _ _ ⟨(by exact hF),fun _=>(by exact hG)⟩ (fun _=>?_);clear hK K
   (try simp only [Act.put]);try simp only [g8b,g8c,g8d]
   refine rdT 14 (fun K hK=>?_);rw [if_pos (by rfl)];go_simp
   have ba:=balloc wp (.cells #[.int .i64 size] 3);have hlit:IBlk (wp.alloc (.cells #[.int .i64 size] 3)) wp.heap.size [size]:=Blk.new wp 3 #[.int .i64 size];have GDZ:=HSW
   try (replace DA:=hi_ (DA.out.kx (X:=fun _=>False) (KX.of ba) (fun h=>h)))
   try (replace DZ:=hi_ (DZ.out.kx (X:=fun _=>False) (KX.of ba) (fun h=>h)))
   replace HP:=hi_ (HP.out.alloc (.cells #[.int .i64 size] 3));replace OT:=hi_ (OT.out.kx (X:=fun _=>False) (KX.of ba) (fun _ _ h=>h));replace OZ:=hi_ (OZ.out.kx (X:=fun _=>False) (KX.of ba) (fun _ _ h=>h));replace KW:=hi_ (KW.out.alloc (.cells #[.int .i64 size] 3))
   try (replace HT2:=hi_ (fun g h=>Nat.lt_of_lt_of_le (HT2.out g h) ba.size))
   replace HSW:=hi_ (Nat.le_trans HSW.out ba.size);obtain⟨gDZ,hgDZ⟩:∃g,g=wp.heap.size:=⟨_,rfl⟩
   rw [← hgDZ] at hlit GDZ;simp only [← hgDZ];have DZ:=hi_ hlit;clear hlit ba hG hgDZ;generalize hwx:wp.alloc (.cells #[.int .i64 size] 3)=wb at *;clear hwx;have hG:wb.cell? ⟨p,4,none⟩=some tv∧wb.cell? ⟨p,5,none⟩=some zv:=⟨by simpa using HP.out.cell 4,by simpa using HP.out.cell 5⟩
   refine hK.out _ _ ⟨(by exact hF),fun _=>(by exact hG)⟩ (fun _=>?_);clear hK K
   (try simp only [Act.put]);try simp only [g8b,g8c,g8d]
   refine rdT 15 (fun K hK=>?_);refine step_app (by rfl) _ _ 22 (by rfl) Tryz.underlying22 b0 zv ts.length zs (by rfl) OZ.out wb.heap.size (some ⟨gDZ,0,none⟩) 1 1 [size] (by rfl) (IBlk.ints DZ.out) (by omega) (Nat.le_trans HB0.out HSW.out) ?_;intro zv' wq own2 grow2 at2;have kg:=KX.grown grow2;have hne:∀g,(Value.slice tA (ts.length+1) tc).ownBlock=some g→zv.ownBlock≠some g:=fun g hg e=>by
    rcases HAT.out with h | ⟨b,h,hb⟩
    ·rw [h] at hg;exact HR.out.tz g hg e
    ·rw [h] at hg;cases hg;have:=HZL.out _ e;omega
   have hne2:∀g,(Value.slice tA (ts.length+1) tc).ownBlock=some g→zv'.ownBlock≠some g:=fun g hg e=>by
    rcases at2 with h|h
    ·rw [h] at e;exact hne g hg e
    ·rw [h] at e;cases e;have:=HT2.out _ hg;omega
   replace OT:=hi_ (OT.out.kx kg (fun g hg e=>hne g hg e.symm));replace HP:=hi_ (HP.out.kx kg (fun e=>HR.out.zp e.symm));replace KW:=hi_ (KW.out.trans (kg.mono (fun _ _ e=>.inr e)));have HAZ:=hi_ (show zv'.ownBlock=zv.ownBlock∨∃b,zv'.ownBlock=some b∧w.heap.size≤b from at2.imp id (fun h=>⟨_,h,HSW.out⟩));replace OZ:=hi_ own2;have HN2:=hi_ hne2;obtain⟨zA,zc,rfl,-,-,-⟩:=own2.ints;clear own2 grow2 at2 kg hG DZ hne hne2;have hG:wq.cell? ⟨p,4,none⟩=some tv∧wq.cell? ⟨p,5,none⟩=some zv:=⟨by simpa using HP.out.cell 4,by simpa using HP.out.cell 5⟩
   refine hK.out _ _ ⟨(by exact hF),fun _=>(by exact hG)⟩ (fun _=>?_);clear hK K
   (try simp only [Act.put]);try simp only [g8b,g8c,g8d]
   refine ttF 16 ?_;refine ttF 17 ?_;refine rdT 18 (fun K hK=>?_);obtain⟨⟨q4,q5⟩,⟨z4,z5⟩,hlp⟩:(_∧_)∧(_∧_)∧_:=⟨⟨HP.out.cell 4,HP.out.cell 5⟩,⟨HP.out.frozen 4,HP.out.frozen 5⟩,HP.out.lt⟩
   simp at q4 q5;rw [if_pos (by rfl)];go_simp
   have hP2:=HP.out.set_ 4 (.slice tA (ts.length+1) tc);simp only [List.setIfInBounds_toArray,List.set_cons_zero,List.set_cons_succ] at hP2;have kp:=set_kxA wq p 4 (.slice tA (ts.length+1) tc);replace HP:=hi_ hP2;replace OT:=hi_ (OT.out.kx kp (fun g hg e=>by
    rcases HAT.out with h | ⟨b,h,hb⟩
    ·rw [h] at hg;exact HR.out.tp (hg.trans (congrArg some e))
    ·rw [h] at hg;cases hg;have:=HR.out.blk.lt;omega))
   replace OZ:=hi_ (OZ.out.kx kp (fun g hg e=>by
    rcases HAZ.out with h | ⟨b,h,hb⟩
    ·rw [h] at hg;exact HR.out.zp (hg.trans (congrArg some e))
    ·rw [h] at hg;cases hg;have:=HR.out.blk.lt;omega))
   have KV:=hi_ ((KW.out.mono (Y:=fun k=>k=p∨some k=tv.ownBlock∨some k=zv.ownBlock) (fun _ _ h=>.inr h)).trans (kp.mono (fun _ _ h=>.inl h)));clear hP2 kp hG q4 q5 z4 z5 hlp KW;generalize hws:wq.setCell ⟨p,4,none⟩ (.slice tA (ts.length+1) tc)=ws at *;clear hws;refine hK.out _ _ ⟨(by exact hF),fun h=>Bool.noConfusion (show true=false from h)⟩ (fun _=>?_);clear hK K
   (try simp only [Act.put]);try simp only [g8b,g8c,g8d]
   refine wpAnyT_take (i:=19) (oi:=_) (v:=?_) (by simp only [g8a,g8s,g8z];rfl) (by kernel_rfl) (by kernel_rfl) (by kernel_rfl) (by rfl) (by exact fun _ _ _ h=>h) (Or.inl ⟨by rfl,?_⟩) ⟨(by exact hF),fun h=>Bool.noConfusion (show true=false from h)⟩ (fun _=>?_);rotate_left 1
   ·(intro w hSw;(try dsimp only at hSw);go_simp;try with_reducible rfl)
   all_goals ((try simp only [Act.put]);try simp only [g8b,g8c,g8d])
   refine wpAnyT_take (i:=20) (oi:=_) (v:=?_) (by simp only [g8a,g8s,g8z];rfl) (by kernel_rfl) (by kernel_rfl) (by kernel_rfl) (by rfl) (by exact fun _ _ _ h=>h) (Or.inl ⟨by rfl,?_⟩) ⟨(by exact hF),fun h=>Bool.noConfusion (show true=false from h)⟩ (fun _=>?_);rotate_left 1
   ·(intro w hSw;(try dsimp only at hSw);go_simp;try with_reducible rfl)
   all_goals ((try simp only [Act.put]);try simp only [g8b,g8c,g8d])
   refine rdT 21 (fun K hK=>?_);obtain⟨⟨q4,q5⟩,⟨z4,z5⟩,hlp⟩:(_∧_)∧(_∧_)∧_:=⟨⟨HP.out.cell 4,HP.out.cell 5⟩,⟨HP.out.frozen 4,HP.out.frozen 5⟩,HP.out.lt⟩
   simp at q4 q5;rw [if_pos (by rfl)];go_simp
   have hP2:=HP.out.set_ 5 (.slice zA (ts.length+1) zc);simp only [List.setIfInBounds_toArray,List.set_cons_zero,List.set_cons_succ] at hP2;have kp:=set_kxA ws p 5 (.slice zA (ts.length+1) zc);have KU:=hi_ (KV.out.trans (kp.mono (Y:=fun k=>k=p∨some k=tv.ownBlock∨some k=zv.ownBlock) (fun _ _ h=>.inl h)));have hR:RC (ws.setCell ⟨p,5,none⟩ (.slice zA (ts.length+1) zc)) b0 p f A n c fst (.slice tA (ts.length+1) tc) (.slice zA (ts.length+1) zc) (ts ++ [time]) (zs ++ [size]):=by
    have ht:∀g,(Value.slice tA (ts.length+1) tc).ownBlock=some g→¬g=p:=fun g hg e=>by
     rcases HAT.out with h | ⟨b,h,hb⟩
     ·rw [h] at hg;exact HR.out.tp (hg.trans (congrArg some e))
     ·rw [h] at hg;cases hg;have:=HR.out.blk.lt;omega
    have hz2:∀g,(Value.slice zA (ts.length+1) zc).ownBlock=some g→¬g=p:=fun g hg e=>by
     rcases HAZ.out with h | ⟨b,h,hb⟩
     ·rw [h] at hg;exact HR.out.zp (hg.trans (congrArg some e))
     ·rw [h] at hg;cases hg;have:=HR.out.blk.lt;omega
    have o1:=OT.out.kx kp ht;have o2:=OZ.out.kx kp (fun g hg=>hz2 g hg);refine⟨hP2,by rw [List.length_append];exact o1,by rw [List.length_append,HZE.out];exact o2,fun h=>ht p h rfl,fun h=>hz2 p h rfl,fun g hg hg2=>HN2.out g hg hg2,HR.out.pb,HR.out.fi.keep fun q hq=>?_,by simp [HZE.out]⟩
    have hlt:=HB0.out;refine World.cell?_of_block (KU.out.block q.block (by omega) ?_);have h1:=HR.out.pb;rintro (e|e|e)
    ·omega
    ·have:=(HR.out.tO.blk_lt _ e.symm).1;omega
    ·have:=(HR.out.zO.blk_lt _ e.symm).1;omega
   have HRR:=hi_ hR;clear hR hP2 kp q4 q5 z4 z5 hlp;refine hK.out _ _ ⟨(by exact hF),fun h=>Bool.noConfusion (show true=false from h)⟩ (fun _=>?_);clear hK K
   (try simp only [Act.put]);try simp only [g8b,g8c,g8d]
   refine wpAnyT_done (by kernel_rfl) ?_ _;go_wp2_with fail
   exact bodyPost_end (v:=.tuple #[]) (by simp [results,Tryz.results73,go_sem]) rfl ⟨_,_,rfl,HRR.out,KU.out,fun g hg=>HAT.out.imp (fun h=>h.symm.trans hg) (fun⟨b,h,hb⟩=>by rw [h] at hg;cases hg;exact hb),fun g hg=>HAZ.out.imp (fun h=>h.symm.trans hg) (fun⟨b,h,hb⟩=>by rw [h] at hg;cases hg;exact hb)⟩
  ·-- a literal [size] is laid: wa the world, wb the new one, DZ its name
   rw [if_pos (by rfl)];go_simp
   have ba:=balloc wa (.cells #[.int .i64 size] 3);have hlit:IBlk (wa.alloc (.cells #[.int .i64 size] 3)) wa.heap.size [size]:=Blk.new wa 3 #[.int .i64 size];have GDZ:=HSW
   try (replace DA:=hi_ (DA.out.kx (X:=fun _=>False) (KX.of ba) (fun h=>h)))
   try (replace DZ:=hi_ (DZ.out.kx (X:=fun _=>False) (KX.of ba) (fun h=>h)))
   replace HP:=hi_ (HP.out.alloc (.cells #[.int .i64 size] 3));replace OT:=hi_ (OT.out.kx (X:=fun _=>False) (KX.of ba) (fun _ _ h=>h));replace OZ:=hi_ (OZ.out.kx (X:=fun _=>False) (KX.of ba) (fun _ _ h=>h));replace KW:=hi_ (KW.out.alloc (.cells #[.int .i64 size] 3))
   try (replace HT2:=hi_ (fun g h=>Nat.lt_of_lt_of_le (HT2.out g h) ba.size))
   replace HSW:=hi_ (Nat.le_trans HSW.out ba.size);obtain⟨gDZ,hgDZ⟩:∃g,g=wa.heap.size:=⟨_,rfl⟩
   rw [← hgDZ] at hlit GDZ;simp only [← hgDZ];have DZ:=hi_ hlit;clear hlit ba hG hgDZ;generalize hwx:wa.alloc (.cells #[.int .i64 size] 3)=wb at *;clear hwx;have hG:wb.cell? ⟨p,4,none⟩=some tv∧wb.cell? ⟨p,5,none⟩=some zv:=⟨by simpa using HP.out.cell 4,by simpa using HP.out.cell 5⟩
   refine hK.out _ _ ⟨(by exact hF),fun _=>(by exact hG)⟩ (fun _=>?_);clear hK K
   (try simp only [Act.put]);try simp only [g8b,g8c,g8d]
   refine rdT 8 (fun K hK=>?_);refine step_app (by rfl) _ _ 22 (by rfl) Tryz.underlying22 b0 tv ts.length ts (by rfl) OT.out wb.heap.size (some ⟨gDA,0,none⟩) 1 1 [time] (by rfl) (IBlk.ints DA.out) (by omega) (Nat.le_trans HB0.out HSW.out) ?_;intro tv' wp own2 grow2 at2;have kg:=KX.grown grow2;replace OZ:=hi_ (OZ.out.kx kg (fun g hg e=>HR.out.tz g e.symm hg));replace HP:=hi_ (HP.out.kx kg (fun e=>HR.out.tp e.symm));replace KW:=hi_ (KW.out.trans (kg.mono (fun _ _ e=>.inl e)));have HAT:=hi_ (show tv'.ownBlock=tv.ownBlock∨∃b,tv'.ownBlock=some b∧w.heap.size≤b from at2.imp id (fun h=>⟨_,h,HSW.out⟩))
   try (replace DZ:=hi_ (DZ.out.kx kg (fun e=>by have h1:=HTL.out gDZ e.symm;have h2:=GDZ.out;omega)))
   replace HSW:=hi_ (Nat.le_trans HSW.out grow2.size);have HT2:=hi_ (show ∀g,tv'.ownBlock=some g→g<wp.heap.size from fun g hg=>(own2.blk_lt g hg).2);replace OT:=hi_ own2;obtain⟨tA,tc,rfl,-,-,-⟩:=own2.ints;clear own2 grow2 at2 kg hG DA;have hG:wp.cell? ⟨p,4,none⟩=some tv∧wp.cell? ⟨p,5,none⟩=some zv:=⟨by simpa using HP.out.cell 4,by simpa using HP.out.cell 5⟩
   refine hK.out _ _ ⟨(by exact hF),fun _=>(by exact hG)⟩ (fun _=>?_);clear hK K
   (try simp only [Act.put]);try simp only [g8b,g8c,g8d]
   refine rdT 15 (fun K hK=>?_);refine step_app (by rfl) _ _ 22 (by rfl) Tryz.underlying22 b0 zv ts.length zs (by rfl) OZ.out wp.heap.size (some ⟨gDZ,0,none⟩) 1 1 [size] (by rfl) (IBlk.ints DZ.out) (by omega) (Nat.le_trans HB0.out HSW.out) ?_;intro zv' wq own2 grow2 at2;have kg:=KX.grown grow2;have hne:∀g,(Value.slice tA (ts.length+1) tc).ownBlock=some g→zv.ownBlock≠some g:=fun g hg e=>by
    rcases HAT.out with h | ⟨b,h,hb⟩
    ·rw [h] at hg;exact HR.out.tz g hg e
    ·rw [h] at hg;cases hg;have:=HZL.out _ e;omega
   have hne2:∀g,(Value.slice tA (ts.length+1) tc).ownBlock=some g→zv'.ownBlock≠some g:=fun g hg e=>by
    rcases at2 with h|h
    ·rw [h] at e;exact hne g hg e
    ·rw [h] at e;cases e;have:=HT2.out _ hg;omega
   replace OT:=hi_ (OT.out.kx kg (fun g hg e=>hne g hg e.symm));replace HP:=hi_ (HP.out.kx kg (fun e=>HR.out.zp e.symm));replace KW:=hi_ (KW.out.trans (kg.mono (fun _ _ e=>.inr e)));have HAZ:=hi_ (show zv'.ownBlock=zv.ownBlock∨∃b,zv'.ownBlock=some b∧w.heap.size≤b from at2.imp id (fun h=>⟨_,h,HSW.out⟩));replace OZ:=hi_ own2;have HN2:=hi_ hne2;obtain⟨zA,zc,rfl,-,-,-⟩:=own2.ints;clear own2 grow2 at2 kg hG DZ hne hne2;have hG:wq.cell? ⟨p,4,none⟩=some tv∧wq.cell? ⟨p,5,none⟩=some zv:=⟨by simpa using HP.out.cell 4,by simpa using HP.out.cell 5⟩
   refine hK.out _ _ ⟨(by exact hF),fun _=>(by exact hG)⟩ (fun _=>?_);clear hK K
   (try simp only [Act.put]);try simp only [g8b,g8c,g8d]
   refine ttF 16 ?_;refine ttF 17 ?_;refine rdT 18 (fun K hK=>?_);obtain⟨⟨q4,q5⟩,⟨z4,z5⟩,hlp⟩:(_∧_)∧(_∧_)∧_:=⟨⟨HP.out.cell 4,HP.out.cell 5⟩,⟨HP.out.frozen 4,HP.out.frozen 5⟩,HP.out.lt⟩
   simp at q4 q5;rw [if_pos (by rfl)];go_simp
   have hP2:=HP.out.set_ 4 (.slice tA (ts.length+1) tc);simp only [List.setIfInBounds_toArray,List.set_cons_zero,List.set_cons_succ] at hP2;have kp:=set_kxA wq p 4 (.slice tA (ts.length+1) tc);replace HP:=hi_ hP2;replace OT:=hi_ (OT.out.kx kp (fun g hg e=>by
    rcases HAT.out with h | ⟨b,h,hb⟩
    ·rw [h] at hg;exact HR.out.tp (hg.trans (congrArg some e))
    ·rw [h] at hg;cases hg;have:=HR.out.blk.lt;omega))
   replace OZ:=hi_ (OZ.out.kx kp (fun g hg e=>by
    rcases HAZ.out with h | ⟨b,h,hb⟩
    ·rw [h] at hg;exact HR.out.zp (hg.trans (congrArg some e))
    ·rw [h] at hg;cases hg;have:=HR.out.blk.lt;omega))
   have KV:=hi_ ((KW.out.mono (Y:=fun k=>k=p∨some k=tv.ownBlock∨some k=zv.ownBlock) (fun _ _ h=>.inr h)).trans (kp.mono (fun _ _ h=>.inl h)));clear hP2 kp hG q4 q5 z4 z5 hlp KW;generalize hws:wq.setCell ⟨p,4,none⟩ (.slice tA (ts.length+1) tc)=ws at *;clear hws;refine hK.out _ _ ⟨(by exact hF),fun h=>Bool.noConfusion (show true=false from h)⟩ (fun _=>?_);clear hK K
   (try simp only [Act.put]);try simp only [g8b,g8c,g8d]
   refine wpAnyT_take (i:=19) (oi:=_) (v:=?_) (by simp only [g8a,g8s,g8z];rfl) (by kernel_rfl) (by kernel_rfl) (by kernel_rfl) (by rfl) (by exact fun _ _ _ h=>h) (Or.inl ⟨by rfl,?_⟩) ⟨(by exact hF),fun h=>Bool.noConfusion (show true=false from h)⟩ (fun _=>?_);rotate_left 1
   ·(intro w hSw;(try dsimp only at hSw);go_simp;try with_reducible rfl)
   all_goals ((try simp only [Act.put]);try simp only [g8b,g8c,g8d])
   refine wpAnyT_take (i:=20) (oi:=_) (v:=?_) (by simp only [g8a,g8s,g8z];rfl) (by kernel_rfl) (by kernel_rfl) (by kernel_rfl) (by rfl) (by exact fun _ _ _ h=>h) (Or.inl ⟨by rfl,?_⟩) ⟨(by exact hF),fun h=>Bool.noConfusion (show true=false from h)⟩ (fun _=>?_);rotate_left 1
   ·(intro w hSw;(try dsimp only at hSw);go_simp;try with_reducible rfl)
   all_goals ((try simp only [Act.put]);try simp only [g8b,g8c,g8d])
   refine rdT 21 (fun K hK=>?_);obtain⟨⟨q4,q5⟩,⟨z4,z5⟩,hlp⟩:(_∧_)∧(_∧_)∧_:=⟨⟨HP.out.cell 4,HP.out.cell 5⟩,⟨HP.out.frozen 4,HP.out.frozen 5⟩,HP.out.lt⟩
   simp at q4 q5;rw [if_pos (by rfl)];go_simp
   have hP2:=HP.out.set_ 5 (.slice zA (ts.length+1) zc);simp only [List.setIfInBounds_toArray,List.set_cons_zero,List.set_cons_succ] at hP2;have kp:=set_kxA ws p 5 (.slice zA (ts.length+1) zc);have KU:=hi_ (KV.out.trans (kp.mono (Y:=fun k=>k=p∨some k=tv.ownBlock∨some k=zv.ownBlock) (fun _ _ h=>.inl h)));have hR:RC (ws.setCell ⟨p,5,none⟩ (.slice zA (ts.length+1) zc)) b0 p f A n c fst (.slice tA (ts.length+1) tc) (.slice zA (ts.length+1) zc) (ts ++ [time]) (zs ++ [size]):=by
    have ht:∀g,(Value.slice tA (ts.length+1) tc).ownBlock=some g→¬g=p:=fun g hg e=>by
     rcases HAT.out with h | ⟨b,h,hb⟩
     ·rw [h] at hg;exact HR.out.tp (hg.trans (congrArg some e))
     ·rw [h] at hg;cases hg;have:=HR.out.blk.lt;omega
    have hz2:∀g,(Value.slice zA (ts.length+1) zc).ownBlock=some g→¬g=p:=fun g hg e=>by
     rcases HAZ.out with h | ⟨b,h,hb⟩
     ·rw [h] at hg;exact HR.out.zp (hg.trans (congrArg some e))
     ·rw [h] at hg;cases hg;have:=HR.out.blk.lt;omega
    have o1:=OT.out.kx kp ht;have o2:=OZ.out.kx kp (fun g hg=>hz2 g hg);refine⟨hP2,by rw [List.length_append];exact o1,by rw [List.length_append,HZE.out];exact o2,fun h=>ht p h rfl,fun h=>hz2 p h rfl,fun g hg hg2=>HN2.out g hg hg2,HR.out.pb,HR.out.fi.keep fun q hq=>?_,by simp [HZE.out]⟩
    have hlt:=HB0.out;refine World.cell?_of_block (KU.out.block q.block (by omega) ?_);have h1:=HR.out.pb;rintro (e|e|e)
    ·omega
    ·have:=(HR.out.tO.blk_lt _ e.symm).1;omega
    ·have:=(HR.out.zO.blk_lt _ e.symm).1;omega
   have HRR:=hi_ hR;clear hR hP2 kp q4 q5 z4 z5 hlp;refine hK.out _ _ ⟨(by exact hF),fun h=>Bool.noConfusion (show true=false from h)⟩ (fun _=>?_);clear hK K
   (try simp only [Act.put]);try simp only [g8b,g8c,g8d]
   refine wpAnyT_done (by kernel_rfl) ?_ _;go_wp2_with fail
   exact bodyPost_end (v:=.tuple #[]) (by simp [results,Tryz.results73,go_sem]) rfl ⟨_,_,rfl,HRR.out,KU.out,fun g hg=>HAT.out.imp (fun h=>h.symm.trans hg) (fun⟨b,h,hb⟩=>by rw [h] at hg;cases hg;exact hb),fun g hg=>HAZ.out.imp (fun h=>h.symm.trans hg) (fun⟨b,h,hb⟩=>by rw [h] at hg;cases hg;exact hb)⟩
 ·-- a literal [size] is laid: wd the world, wa the new one, DZ its name
  rw [if_pos (by rfl)];go_simp
  have ba:=balloc wd (.cells #[.int .i64 size] 3);have hlit:IBlk (wd.alloc (.cells #[.int .i64 size] 3)) wd.heap.size [size]:=Blk.new wd 3 #[.int .i64 size];have GDZ:=HSW
  try (replace DA:=hi_ (DA.out.kx (X:=fun _=>False) (KX.of ba) (fun h=>h)))
  try (replace DZ:=hi_ (DZ.out.kx (X:=fun _=>False) (KX.of ba) (fun h=>h)))
  replace HP:=hi_ (HP.out.alloc (.cells #[.int .i64 size] 3));replace OT:=hi_ (OT.out.kx (X:=fun _=>False) (KX.of ba) (fun _ _ h=>h));replace OZ:=hi_ (OZ.out.kx (X:=fun _=>False) (KX.of ba) (fun _ _ h=>h));replace KW:=hi_ (KW.out.alloc (.cells #[.int .i64 size] 3))
  try (replace HT2:=hi_ (fun g h=>Nat.lt_of_lt_of_le (HT2.out g h) ba.size))
  replace HSW:=hi_ (Nat.le_trans HSW.out ba.size);obtain⟨gDZ,hgDZ⟩:∃g,g=wd.heap.size:=⟨_,rfl⟩
  rw [← hgDZ] at hlit GDZ;simp only [← hgDZ];have DZ:=hi_ hlit;clear hlit ba hG hgDZ;generalize hwx:wd.alloc (.cells #[.int .i64 size] 3)=wa at *;clear hwx;have hG:wa.cell? ⟨p,4,none⟩=some tv∧wa.cell? ⟨p,5,none⟩=some zv:=⟨by simpa using HP.out.cell 4,by simpa using HP.out.cell 5⟩
  refine hK.out _ _ ⟨(by exact hF),fun _=>(by exact hG)⟩ (fun _=>?_);clear hK K
  (try simp only [Act.put]);try simp only [g8b,g8c,g8d]
  refine rdT 7 (fun K hK=>?_);rw [if_pos (by rfl)];go_simp
  have ba:=balloc wa (.cells #[.int .i64 time] 3);have hlit:IBlk (wa.alloc (.cells #[.int .i64 time] 3)) wa.heap.size [time]:=Blk.new wa 3 #[.int .i64 time];have GDA:=HSW
  try (replace DA:=hi_ (DA.out.kx (X:=fun _=>False) (KX.of ba) (fun h=>h)))
  try (replace DZ:=hi_ (DZ.out.kx (X:=fun _=>False) (KX.of ba) (fun h=>h)))
  replace HP:=hi_ (HP.out.alloc (.cells #[.int .i64 time] 3));replace OT:=hi_ (OT.out.kx (X:=fun _=>False) (KX.of ba) (fun _ _ h=>h));replace OZ:=hi_ (OZ.out.kx (X:=fun _=>False) (KX.of ba) (fun _ _ h=>h));replace KW:=hi_ (KW.out.alloc (.cells #[.int .i64 time] 3))
  try (replace HT2:=hi_ (fun g h=>Nat.lt_of_lt_of_le (HT2.out g h) ba.size))
  replace HSW:=hi_ (Nat.le_trans HSW.out ba.size);obtain⟨gDA,hgDA⟩:∃g,g=wa.heap.size:=⟨_,rfl⟩
  rw [← hgDA] at hlit GDA;simp only [← hgDA];have DA:=hi_ hlit;clear hlit ba hG hgDA;generalize hwx:wa.alloc (.cells #[.int .i64 time] 3)=wb at *;clear hwx;have hG:wb.cell? ⟨p,4,none⟩=some tv∧wb.cell? ⟨p,5,none⟩=some zv:=⟨by simpa using HP.out.cell 4,by simpa using HP.out.cell 5⟩
  refine hK.out _ _ ⟨(by exact hF),fun _=>(by exact hG)⟩ (fun _=>?_);clear hK K
  (try simp only [Act.put]);try simp only [g8b,g8c,g8d]
  refine rdT 8 (fun K hK=>?_);refine step_app (by rfl) _ _ 22 (by rfl) Tryz.underlying22 b0 tv ts.length ts (by rfl) OT.out wb.heap.size (some ⟨gDA,0,none⟩) 1 1 [time] (by rfl) (IBlk.ints DA.out) (by omega) (Nat.le_trans HB0.out HSW.out) ?_;intro tv' wp own2 grow2 at2;have kg:=KX.grown grow2;replace OZ:=hi_ (OZ.out.kx kg (fun g hg e=>HR.out.tz g e.symm hg));replace HP:=hi_ (HP.out.kx kg (fun e=>HR.out.tp e.symm));replace KW:=hi_ (KW.out.trans (kg.mono (fun _ _ e=>.inl e)));have HAT:=hi_ (show tv'.ownBlock=tv.ownBlock∨∃b,tv'.ownBlock=some b∧w.heap.size≤b from at2.imp id (fun h=>⟨_,h,HSW.out⟩))
  try (replace DZ:=hi_ (DZ.out.kx kg (fun e=>by have h1:=HTL.out gDZ e.symm;have h2:=GDZ.out;omega)))
  replace HSW:=hi_ (Nat.le_trans HSW.out grow2.size);have HT2:=hi_ (show ∀g,tv'.ownBlock=some g→g<wp.heap.size from fun g hg=>(own2.blk_lt g hg).2);replace OT:=hi_ own2;obtain⟨tA,tc,rfl,-,-,-⟩:=own2.ints;clear own2 grow2 at2 kg hG DA;have hG:wp.cell? ⟨p,4,none⟩=some tv∧wp.cell? ⟨p,5,none⟩=some zv:=⟨by simpa using HP.out.cell 4,by simpa using HP.out.cell 5⟩
  refine hK.out _ _ ⟨(by exact hF),fun _=>(by exact hG)⟩ (fun _=>?_);clear hK K
  (try simp only [Act.put]);try simp only [g8b,g8c,g8d]
  refine rdT 15 (fun K hK=>?_);refine step_app (by rfl) _ _ 22 (by rfl) Tryz.underlying22 b0 zv ts.length zs (by rfl) OZ.out wp.heap.size (some ⟨gDZ,0,none⟩) 1 1 [size] (by rfl) (IBlk.ints DZ.out) (by omega) (Nat.le_trans HB0.out HSW.out) ?_;intro zv' wq own2 grow2 at2;have kg:=KX.grown grow2;have hne:∀g,(Value.slice tA (ts.length+1) tc).ownBlock=some g→zv.ownBlock≠some g:=fun g hg e=>by
   rcases HAT.out with h | ⟨b,h,hb⟩
   ·rw [h] at hg;exact HR.out.tz g hg e
   ·rw [h] at hg;cases hg;have:=HZL.out _ e;omega
  have hne2:∀g,(Value.slice tA (ts.length+1) tc).ownBlock=some g→zv'.ownBlock≠some g:=fun g hg e=>by
   rcases at2 with h|h
   ·rw [h] at e;exact hne g hg e
   ·rw [h] at e;cases e;have:=HT2.out _ hg;omega
  replace OT:=hi_ (OT.out.kx kg (fun g hg e=>hne g hg e.symm));replace HP:=hi_ (HP.out.kx kg (fun e=>HR.out.zp e.symm));replace KW:=hi_ (KW.out.trans (kg.mono (fun _ _ e=>.inr e)));have HAZ:=hi_ (show zv'.ownBlock=zv.ownBlock∨∃b,zv'.ownBlock=some b∧w.heap.size≤b from at2.imp id (fun h=>⟨_,h,HSW.out⟩));replace OZ:=hi_ own2;have HN2:=hi_ hne2;obtain⟨zA,zc,rfl,-,-,-⟩:=own2.ints;clear own2 grow2 at2 kg hG DZ hne hne2;have hG:wq.cell? ⟨p,4,none⟩=some tv∧wq.cell? ⟨p,5,none⟩=some zv:=⟨by simpa using HP.out.cell 4,by simpa using HP.out.cell 5⟩
  refine hK.out _ _ ⟨(by exact hF),fun _=>(by exact hG)⟩ (fun _=>?_);clear hK K
  (try simp only [Act.put]);try simp only [g8b,g8c,g8d]
  refine ttF 16 ?_;refine ttF 17 ?_;refine rdT 18 (fun K hK=>?_);obtain⟨⟨q4,q5⟩,⟨z4,z5⟩,hlp⟩:(_∧_)∧(_∧_)∧_:=⟨⟨HP.out.cell 4,HP.out.cell 5⟩,⟨HP.out.frozen 4,HP.out.frozen 5⟩,HP.out.lt⟩
  simp at q4 q5;rw [if_pos (by rfl)];go_simp
  have hP2:=HP.out.set_ 4 (.slice tA (ts.length+1) tc);simp only [List.setIfInBounds_toArray,List.set_cons_zero,List.set_cons_succ] at hP2;have kp:=set_kxA wq p 4 (.slice tA (ts.length+1) tc);replace HP:=hi_ hP2;replace OT:=hi_ (OT.out.kx kp (fun g hg e=>by
   rcases HAT.out with h | ⟨b,h,hb⟩
   ·rw [h] at hg;exact HR.out.tp (hg.trans (congrArg some e))
   ·rw [h] at hg;cases hg;have:=HR.out.blk.lt;omega))
  replace OZ:=hi_ (OZ.out.kx kp (fun g hg e=>by
   rcases HAZ.out with h | ⟨b,h,hb⟩
   ·rw [h] at hg;exact HR.out.zp (hg.trans (congrArg some e))
   ·rw [h] at hg;cases hg;have:=HR.out.blk.lt;omega))
  have KV:=hi_ ((KW.out.mono (Y:=fun k=>k=p∨some k=tv.ownBlock∨some k=zv.ownBlock) (fun _ _ h=>.inr h)).trans (kp.mono (fun _ _ h=>.inl h)));clear hP2 kp hG q4 q5 z4 z5 hlp KW;generalize hws:wq.setCell ⟨p,4,none⟩ (.slice tA (ts.length+1) tc)=ws at *;clear hws;refine hK.out _ _ ⟨(by exact hF),fun h=>Bool.noConfusion (show true=false from h)⟩ (fun _=>?_);clear hK K
  (try simp only [Act.put]);try simp only [g8b,g8c,g8d]
  refine wpAnyT_take (i:=19) (oi:=_) (v:=?_) (by simp only [g8a,g8s,g8z];rfl) (by kernel_rfl) (by kernel_rfl) (by kernel_rfl) (by rfl) (by exact fun _ _ _ h=>h) (Or.inl ⟨by rfl,?_⟩) ⟨(by exact hF),fun h=>Bool.noConfusion (show true=false from h)⟩ (fun _=>?_);rotate_left 1
  ·(intro w hSw;(try dsimp only at hSw);go_simp;try with_reducible rfl)
  all_goals ((try simp only [Act.put]);try simp only [g8b,g8c,g8d])
  refine wpAnyT_take (i:=20) (oi:=_) (v:=?_) (by simp only [g8a,g8s,g8z];rfl) (by kernel_rfl) (by kernel_rfl) (by kernel_rfl) (by rfl) (by exact fun _ _ _ h=>h) (Or.inl ⟨by rfl,?_⟩) ⟨(by exact hF),fun h=>Bool.noConfusion (show true=false from h)⟩ (fun _=>?_);rotate_left 1
  ·(intro w hSw;(try dsimp only at hSw);go_simp;try with_reducible rfl)
  all_goals ((try simp only [Act.put]);try simp only [g8b,g8c,g8d])
  refine rdT 21 (fun K hK=>?_);obtain⟨⟨q4,q5⟩,⟨z4,z5⟩,hlp⟩:(_∧_)∧(_∧_)∧_:=⟨⟨HP.out.cell 4,HP.out.cell 5⟩,⟨HP.out.frozen 4,HP.out.frozen 5⟩,HP.out.lt⟩
  simp at q4 q5;rw [if_pos (by rfl)];go_simp
  have hP2:=HP.out.set_ 5 (.slice zA (ts.length+1) zc);simp only [List.setIfInBounds_toArray,List.set_cons_zero,List.set_cons_succ] at hP2;have kp:=set_kxA ws p 5 (.slice zA (ts.length+1) zc);have KU:=hi_ (KV.out.trans (kp.mono (Y:=fun k=>k=p∨some k=tv.ownBlock∨some k=zv.ownBlock) (fun _ _ h=>.inl h)));have hR:RC (ws.setCell ⟨p,5,none⟩ (.slice zA (ts.length+1) zc)) b0 p f A n c fst (.slice tA (ts.length+1) tc) (.slice zA (ts.length+1) zc) (ts ++ [time]) (zs ++ [size]):=by
   have ht:∀g,(Value.slice tA (ts.length+1) tc).ownBlock=some g→¬g=p:=fun g hg e=>by
    rcases HAT.out with h | ⟨b,h,hb⟩
    ·rw [h] at hg;exact HR.out.tp (hg.trans (congrArg some e))
    ·rw [h] at hg;cases hg;have:=HR.out.blk.lt;omega
   have hz2:∀g,(Value.slice zA (ts.length+1) zc).ownBlock=some g→¬g=p:=fun g hg e=>by
    rcases HAZ.out with h | ⟨b,h,hb⟩
    ·rw [h] at hg;exact HR.out.zp (hg.trans (congrArg some e))
    ·rw [h] at hg;cases hg;have:=HR.out.blk.lt;omega
   have o1:=OT.out.kx kp ht;have o2:=OZ.out.kx kp (fun g hg=>hz2 g hg);refine⟨hP2,by rw [List.length_append];exact o1,by rw [List.length_append,HZE.out];exact o2,fun h=>ht p h rfl,fun h=>hz2 p h rfl,fun g hg hg2=>HN2.out g hg hg2,HR.out.pb,HR.out.fi.keep fun q hq=>?_,by simp [HZE.out]⟩
   have hlt:=HB0.out;refine World.cell?_of_block (KU.out.block q.block (by omega) ?_);have h1:=HR.out.pb;rintro (e|e|e)
   ·omega
   ·have:=(HR.out.tO.blk_lt _ e.symm).1;omega
   ·have:=(HR.out.zO.blk_lt _ e.symm).1;omega
  have HRR:=hi_ hR;clear hR hP2 kp q4 q5 z4 z5 hlp;refine hK.out _ _ ⟨(by exact hF),fun h=>Bool.noConfusion (show true=false from h)⟩ (fun _=>?_);clear hK K
  (try simp only [Act.put]);try simp only [g8b,g8c,g8d]
  refine wpAnyT_done (by kernel_rfl) ?_ _;go_wp2_with fail
  exact bodyPost_end (v:=.tuple #[]) (by simp [results,Tryz.results73,go_sem]) rfl ⟨_,_,rfl,HRR.out,KU.out,fun g hg=>HAT.out.imp (fun h=>h.symm.trans hg) (fun⟨b,h,hb⟩=>by rw [h] at hg;cases hg;exact hb),fun g hg=>HAZ.out.imp (fun h=>h.symm.trans hg) (fun⟨b,h,hb⟩=>by rw [h] at hg;cases hg;exact hb)⟩
end
section
open Go.RowKit
attribute [local go_sem ↓] app_foldK
theorem RowT.get3{w:World}{b o:Nat}{ps:List PK}(h:RowT w b o ps){j:Nat}{u:Value}(hu:(ps.flatMap PK.cells)[j]?=some u):w.cell? ⟨b,o+j,none⟩=some u:=by
 have hl:=(List.getElem?_eq_some_iff.1 hu).1;rw [flatk_len] at hl;obtain⟨x,hx⟩:∃x,ps[j / 3]?=some x:=⟨_,List.getElem?_eq_getElem (by omega)⟩
 have h1:=flatk_get ps (j / 3) (j % 3) x hx (Nat.mod_lt _ (by omega));have h2:=h.cell (j / 3) (j % 3) x hx (Nat.mod_lt _ (by omega));have e:j / 3*3+j % 3=j:=by omega
 rw [e,hu] at h1;rw [Nat.add_assoc,e] at h2;rw [h2,h1]
theorem one_packets(ps:List PK):∀u∈ps.flatMap PK.cells,u.oneCell'=true:=by
 intro u hu;obtain⟨x,_,hx⟩:=List.mem_flatMap.1 hu;simp only [PK.cells,List.mem_cons,List.not_mem_nil,or_false] at hx;rcases hx with rfl|rfl|rfl <;> rfl
theorem run_appKL{w:World}{base n m c g o:Nat}{v:Value}{xs zs:List PK}(h:KOwn w base v n xs)(hz:zs.length=m)(hr:0<m→RowT w g o zs)(hbase:base≤w.heap.size)(hn:n+m≤10000) :
 ∃v' w',Sem.run Tryz.prog (appSemK #[v,.slice (some ⟨g,o,none⟩) m c]) w = .ok v' w'∧KOwn w' base v' (n+m) (xs ++ zs)∧KX (fun k=>some k=v.ownBlock) w w'∧(v'.ownBlock=v.ownBlock∨v'.ownBlock=some w.heap.size):=by
 obtain⟨i0,hi0,hz0,hz1,hz2⟩:=info_parts info_packet;obtain⟨v',w',hrun,h2,h3,_,h5⟩:=run_append_own_at (P:=Tryz.prog) (w:=w) base 46 46 71 i0 (.agg #[.int .i64 0,.int .i64 0,.int .i64 0]) 3 24 Tryz.underlying46 hi0 hz0 hz1 hz2 rfl (by omega) v n _ h ⟨g,o,none⟩ m c (zs.flatMap PK.cells) (by rw [flatk_len,hz]) (by
  intro j u hu;have hl:=(List.getElem?_eq_some_iff.1 hu).1;rw [flatk_len] at hl;have e:(Addr.add ⟨g,o,none⟩ j)=⟨g,o+j,none⟩:=by
   unfold Addr.add;split
   ·rename_i h0;subst h0;rfl
   ·rfl
  rw [e];exact(hr (by omega)).get3 hu) (one_packets zs) (by unfold maxLen;omega) (by omega) hbase
 refine⟨v',w',hrun,?_,KX.grown h3,h5⟩
 unfold KOwn;rw [List.flatMap_append];exact h2
theorem KOwn.empty_(w:World){base:Nat}(hb:base≤w.heap.size):KOwn (w.alloc (.cells #[] 71)) base (.slice (some ⟨w.heap.size,0,none⟩) 0 0) 0 []:=
 ⟨by simp,.inr ⟨w.heap.size,0,#[],rfl,hb,heap_alloc_new w _,Nat.le_refl _,by unfold maxLen;omega,rfl,rfl⟩⟩
theorem clonek_any(A:Option Addr)(n c:Nat)(ps:List PK)(w:World)(h:LsT w A n c ps)(hn:n≤1000)(hA:A=none∨∃g o,A=some ⟨g,o,none⟩)(hA0:A=none→n=0) :
 Calls Tryz.prog 69 #[.slice A n c] w fun e w'=>∃v,e = .returned v∧KOwn w' w.heap.size v n ps∧Below w.heap.size w w':=by
 have qT:∀(w:World) (a:Option Addr) (n c n' c':Nat),(binOp .eql 46 (.slice a n c) (.slice none n' c')).run Tryz.prog w = .ok (.bool a.isNone) w:=fun w a n c n' c'=>Lib.run_eql_slice_nil w _ _ a n c n' c' Tryz.underlying46
 rcases hA with rfl | ⟨g,o,rfl⟩
 ·have hn0:=hA0 rfl;subst hn0;have hp:ps = []:=List.eq_nil_of_length_eq_zero h.1;have F:=hi_ (show KOwn w w.heap.size (.slice none 0 0) 0 ps by rw [hp];exact KOwn.nil_ _ _);clear hp h;go_enter Tryz.func69,Tryz.ntmps69
  go_wp2_with fail
  go_ret
  exact⟨_,rfl,F.out,Below.refl _ _⟩
 ·have hb0:=balloc w (.cells #[] 71);have h1:=h.below hb0;obtain⟨v',w2,hrun,hko,hkx,hvb⟩:=run_appKL (g:=g) (o:=o) (c:=c) (KOwn.empty_ w (Nat.le_refl _)) h1.1 (fun h0=>by
   obtain⟨g',o',e,hr⟩:=h1.2.2 h0;cases e
   exact hr) hb0.size (by omega)
  rw [Nat.zero_add,List.nil_append] at hko;have bw:=hb0.trans ⟨hkx.os,hkx.tape,hkx.output,hkx.size,fun k hk=>hkx.block k (by have:=hb0.size;omega) (fun e=>by simp [Value.ownBlock] at e;omega)⟩;have F:=hi_ hko;have BW:=hi_ bw;clear hko hkx hvb h h1 hb0 bw;go_enter Tryz.func69,Tryz.ntmps69
  go_wp2_with fail
  go_ret
  exact⟨_,rfl,F.out,BW.out⟩
theorem ccheck_any(B:Option Addr)(m d:Nat)(fl:Int)(ps:List PK)(A:Option Addr)(n c:Nat)(f:Cv)(w:World)(h:LsT w B m d ps)(hv:Valid ps)(hfl : -1≤fl)(hA:Ints w w.heap.size A n f.vals)(hn:n≤1000)(ok:f.Ok) :
 Calls Tryz.prog 67 #[.slice B m d,.int .i64 fl,.agg #[.slice A n c,.int .i64 f.per,.int .i64 f.inc]] w fun e w'=>e = .returned (.int .i64 0)∧Below w.heap.size w w':=by
 have BX:=hi_ (Blk.new w 26 #[.slice A n c,.int .i64 f.per,.int .i64 f.inc]);have BW:=hi_ (balloc w (.cells #[.slice A n c,.int .i64 f.per,.int .i64 f.inc] 26));have HI:=hi_ (hA.alloc' (.cells #[.slice A n c,.int .i64 f.per,.int .i64 f.inc] 26));have HT:=hi_ (h.below BW.out);have HV:=hi_ hv;have OKB:=hi_ (Cv.okB_true ok);have d1:decide (fl < -1)=false:=decide_eq_false (by omega);clear h hv hA ok;go_enter Tryz.func67,Tryz.ntmps67
 go_upto_region 1 with fail
 generalize hwe:w.alloc (.cells #[.slice A n c,.int .i64 f.per,.int .i64 f.inc] 26)=w1 at *;clear hwe;go_wp2_with fail
 refine(validate_any B m d ps w1 HT.out HV.out).mono ?_;rintro e w2 ⟨rfl,hb⟩;replace BX:=hi_ (BX.out.below hb BX.out.lt);replace BW:=hi_ (bthen BW.out hb);replace HI:=hi_ (HI.out.ext hb);clear hb;obtain⟨⟨x0,x1,x2⟩,_,hlx⟩:=BX.out.c3;go_wp2_with fail
 refine(valid_any A n c f.per f.inc f.vals w2 (by exact HI.out) (by omega)).mono ?_;rw [OKB.out];rintro e w3 ⟨rfl,hb⟩;have bw:=bthen BW.out hb;go_wp2_with fail
 go_ret
 exact⟨rfl,bw⟩
theorem mine_any(x:PK)(fl:Int)(w:World)(hfl:0≤fl) :
 Calls Tryz.prog 70 #[.agg #[.int .i64 x.fl,.int .i64 x.tm,.int .i64 x.sz],.int .i64 fl] w fun e w'=>e = .returned (.bool (x.fl == fl))∧Below w.heap.size w w':=by
 have BX:=hi_ (Blk.new w 71 #[.int .i64 x.fl,.int .i64 x.tm,.int .i64 x.sz]);have BW:=hi_ (balloc w (.cells #[.int .i64 x.fl,.int .i64 x.tm,.int .i64 x.sz] 71));have d1:(fl == -1)=false:=by simp;omega
 go_enter Tryz.func70,Tryz.ntmps70
 go_upto_region 1 with fail
 generalize hwe:w.alloc (.cells #[.int .i64 x.fl,.int .i64 x.tm,.int .i64 x.sz] 71)=w1 at *;clear hwe;obtain⟨⟨x0,x1,x2⟩,_,hlx⟩:=BX.out.c3;go_wp2_with fail
 go_ret
 exact⟨rfl,BW.out⟩
end
section
theorem nx_wait{σ:Type}{c:Nat}{ps:List PK}{s:RS σ}(h:Wt c ps s)(k:NxS ps s.begun s.t c (-1)):False:=by
 obtain⟨i,x,h1,h2,h3,h4⟩:=h;rcases k with ⟨j,_,h,_⟩|⟨_,h⟩
 ·omega
 ·exact h i x h1 h4 h3 h2
theorem nx_class{σ:Type}{c:Int}{ps:List PK}{s:RS σ}{r:Int}{i:Nat}{x:PK}(h:NxS ps s.begun s.t c r)(hr:r=i)(hx:ps[i]?=some x):x.fl=c:=by
 rcases h with ⟨j,y,h1,h2,_,_,h3,_⟩|⟨h,_⟩
 ·obtain rfl:j=i:=by omega
  rw [hx] at h2;cases h2
  exact h3
 ·omega
section
variable{cap:Int}{ps:List PK}{ticks:Nat}{ws:List Int}{c d:Nat}{sg0:Nat × Int}{s:RS (Nat × Int)}{L M:Int}
def RrG(ws:List Int)(c d:Nat)(M a b:Int)(g:Nat × Int):Prop:=g.1<2∧0≤g.2∧g.2≤nth ws g.1∧(0<a→g.1=c∧b=0)∧(0<b→g.1=d∧g.2+1≤nth ws d∧b≤M∧a=0)∧0≤a∧0≤b
theorem rr_step{nx:Nat→Int→Prop}{cl cl':Nat}{l r l':Int}{ws:List Int}(hl:ws.length=2)(h0:0≤nth ws 0)(h1:0≤nth ws 1)(h:RrS nx ws cl l r cl' l'):(cl<2∧0≤l∧l≤nth ws cl)→cl'<2∧0≤l'∧l'+1≤nth ws cl'∧nx cl' r:=by
 induction h with
 | take c l r h1 h2 h3=>intro h;exact⟨h.1,by omega,by omega,h1⟩
 | skip c l r c' l' h3 h4 ih=>
   intro h;refine ih ⟨by rw [hl];omega,?_,Int.le_refl _⟩;rcases (show(c+1) % ws.length=0∨(c+1) % ws.length=1 by rw [hl];omega) with e|e <;> rw [e] <;> assumption
theorem rr_glob(hv:Valid ps)(hfl:∀x∈ps,x.fl<2)(hc:1≤cap)(hc2:c<2)(hd2:d<2)(hcd:c≠d)(hl:ws.length=2)(h0:1≤nth ws 0)(h1:1≤nth ws 1)(hM:∀x∈ps,x.fl=d→x.sz≤M)
 (h:MRun cap 2 ps ticks (RrC ws ps) (0,nth ws 0) s):RrG ws c d M (s.opn ps c) (s.opn ps d) s.sg:=by
 refine MRun.glob2 hv hfl hc (rr_good hv) hc2 hd2 hcd (RrG ws c d M) ⟨by simp,by simp only;omega,Int.le_refl _,by omega,by omega,by omega,by omega⟩ ?_ ?_ ?_ ?_ h
 ·intro s sg _ hch h;rcases hch with ⟨_,rfl,_⟩|hch
  ·exact h
  ·exact absurd hch.nx.2 (by omega)
 ·intro s sg i x _ hch hx h;obtain⟨g1,g2,g3,_⟩:=h;have gx:=(good_sz hv hx)
  rcases hch with ⟨h,_⟩|hch
  ·omega
  ·obtain⟨k1,k2,k3,k4⟩:=rr_step hl (by omega) (by omega) hch ⟨g1,g2,g3⟩;have e:=nx_class k4 rfl hx;have hMx:=hM x (List.mem_of_getElem? hx);rcases (show sg.1=c∨sg.1=d by omega) with e2|e2
   ·exact .inl ⟨by omega,k1,k2,by omega,fun _=>⟨e2,rfl⟩,by omega,by omega,by omega⟩
   ·refine .inr ⟨by omega,k1,k2,by omega,by omega,fun _=>⟨e2,by rw [← e2];exact k3,hMx (by omega),rfl⟩,by omega,by omega⟩
 ·intro a b n g hn hna ⟨g1,g2,g3,g4,g5,g6,g7⟩;exact⟨g1,g2,g3,fun h=>g4 (by omega),fun h=>by have:=g5 h;omega,by omega,by omega⟩
 ·intro a b n g hn hna ⟨g1,g2,g3,g4,g5,g6,g7⟩;exact⟨g1,g2,g3,fun h=>by have:=g4 h;omega,fun h=>by have:=g5 (by omega);exact⟨this.1,this.2.1,by omega,this.2.2.2⟩,by omega,by omega⟩
def RrQ(ws:List Int)(c d:Nat)(L M Y O a b:Int)(g:Nat × Int):Prop:=
 g.1<2∧0≤g.2∧0≤a∧0≤b∧∃m:Int,nth ws c*L*(m-1)≤Y∧(g.1=c→b=0∧g.2≤nth ws c∧O≤nth ws d*M*m∧nth ws c*L*(m-1)+(nth ws c-g.2)*L≤Y+a)∧
  (g.1=d→a=0∧g.2≤nth ws d∧O+b+g.2*M≤nth ws d*M*m)
theorem rr_busy{nx:Nat→Int→Prop}{cl cl':Nat}{l r l' Y O z:Int}(hc2:c<2)(hd2:d<2)(hcd:c≠d)(hl:ws.length=2)(h0:1≤nth ws 0)(h1:1≤nth ws 1)(hL:1≤L)(hM0:0≤M)(hz:0≤z)(hw:nx c (-1)→False)
 (h:RrS nx ws cl l r cl' l') (hzL:cl'=c→L≤z) (hzM:cl'=d→z≤M):RrQ ws c d L M Y O 0 0 (cl,l)→cl'=c∧RrQ ws c d L M Y O z 0 (cl',l')∨cl'=d∧RrQ ws c d L M Y O 0 z (cl',l'):=by
 induction h with
 | take k l r h1 h2 h3=>
   rintro⟨g1,g2,_,_,m,g3,g4,g5⟩;have g1:k<2:=g1;rcases (show k=c∨k=d by omega) with rfl|rfl
   ·refine .inl ⟨rfl,g1,by show 0≤l-1;omega,hz,Int.le_refl _,m,g3,fun _=>?_,fun h=>absurd h hcd⟩;obtain⟨_,a1,a2,a3⟩:=g4 rfl;have a1:l≤nth ws k:=a1;have a3:nth ws k*L*(m-1)+(nth ws k-l)*L≤Y+0:=a3;have:=hzL rfl
    refine⟨rfl,by show l-1≤_;omega,a2,?_⟩
    show nth ws k*L*(m-1)+(nth ws k-(l-1))*L≤Y+z
    rw [show(nth ws k-(l-1))*L=(nth ws k-l)*L+L by rw [show nth ws k-(l-1)=(nth ws k-l)+1 by omega,Int.add_mul,Int.one_mul]];omega
   ·refine .inr ⟨rfl,g1,by show 0≤l-1;omega,Int.le_refl _,hz,m,g3,fun h=>absurd h (fun e=>hcd e.symm),fun _=>?_⟩;obtain⟨_,a1,a2⟩:=g5 rfl;have a1:l≤nth ws k:=a1;have a2:O+0+l*M≤nth ws k*M*m:=a2;have:=hzM rfl
    refine⟨rfl,by show l-1≤_;omega,?_⟩
    show O+z+(l-1)*M≤nth ws k*M*m
    rw [Int.sub_mul,Int.one_mul];omega
 | skip k l r k' l' h3 h4 ih=>
   rintro⟨g1,g2,_,_,m,g3,g4,g5⟩;have g1:k<2:=g1;have g2:0≤l:=g2;refine ih hzL hzM ?_;rcases (show k=c∨k=d by omega) with rfl|rfl
   ·have e:(k+1) % ws.length=d:=by rw [hl];omega
    have hl0:l=0:=by
     rcases h3 with h3|h3
     ·exact(hw h3).elim
     ·omega
    subst hl0;obtain⟨_,_,a2,a3⟩:=g4 rfl;have a3:nth ws k*L*(m-1)+(nth ws k-0)*L≤Y+0:=a3;rw [Int.sub_zero] at a3;have a4:nth ws k*L*(m-1)=nth ws k*L*m-nth ws k*L:=by rw [Int.mul_sub,Int.mul_one]
    rw [e];have hwd:0≤nth ws d:=by rcases (show d=0∨d=1 by omega) with rfl|rfl <;> omega
    refine⟨hd2,hwd,Int.le_refl _,Int.le_refl _,m+1,by rw [Int.add_sub_cancel];omega,fun h=>absurd h.symm hcd,fun _=>⟨rfl,Int.le_refl _,?_⟩⟩
    show O+0+nth ws d*M≤nth ws d*M*(m+1)
    rw [Int.mul_add,Int.mul_one];omega
   ·have e:(k+1) % ws.length=c:=by rw [hl];omega
    obtain⟨_,_,a2⟩:=g5 rfl;have a2:O+0+l*M≤nth ws k*M*m:=a2;have:0≤l*M:=Int.mul_nonneg g2 hM0
    rw [e];have hwd:0≤nth ws c:=by rcases (show c=0∨c=1 by omega) with rfl|rfl <;> omega
    refine⟨hc2,hwd,Int.le_refl _,Int.le_refl _,m,g3,fun _=>⟨rfl,Int.le_refl _,by omega,?_⟩,fun h=>absurd h hcd⟩
    show nth ws c*L*(m-1)+(nth ws c-nth ws c)*L≤Y+0
    rw [Int.sub_self,Int.zero_mul];omega
theorem rr_serves(hv:Valid ps)(hfl:∀x∈ps,x.fl<2)(hc:1≤cap)(hc2:c<2)(hd2:d<2)(hcd:c≠d)(hl:ws.length=2)(h0:1≤nth ws 0)(h1:1≤nth ws 1)(hL:1≤L)(hM0:0≤M)(hLs:∀x∈ps,x.fl=c→L≤x.sz)(hM:∀x∈ps,x.fl=d→x.sz≤M)
 {β:Nat→Int} (hβ:∀(n:Nat) (y:Int),0≤y→cap*n≤y+nth ws d*M*(y / (nth ws c*L)+1)→β n≤y)
 (h:MRun cap 2 ps ticks (RrC ws ps) (0,nth ws 0) s):Serves β c ps (s.row c) s.t:=by
 have hwc:1≤nth ws c:=by rcases (show c=0∨c=1 by omega) with rfl|rfl <;> omega
 have hwd:1≤nth ws d:=by rcases (show d=0∨d=1 by omega) with rfl|rfl <;> omega
 have hr0:0<nth ws c*L:=Int.mul_pos (by omega) (by omega);have hq0:0≤nth ws d*M:=Int.mul_nonneg (by omega) hM0;refine serves2 hv hfl hc (rr_good hv) hc2 (hβ 0 0 (Int.le_refl _) (by simp;exact hq0)) h ?_;intro s0 t0 k m0 on0 e0 htk e ha hb hr hk;have hq:=MRun.busy2 hv hfl hc (rr_good hv) hc2 hd2 hcd (rr_work hv c) t0 (RrQ ws c d L M) ?_ ?_ ?_ ?_ m0 (by omega) ha hb
 ·obtain⟨g1,g2,g3,g4,m,g5,g6,g7⟩:=hq;have hf:=work_fulls hv hfl hc (rr_good hv) hc2 (rr_work hv c) h t0 (k-t0) (by omega) (fun j a b=>by rw [hr c hc2 j (by omega)];exact hb j a (by omega));rw [tot2 hc2 hd2 hcd,tot2 hc2 hd2 hcd,show t0+(k-t0)=k by omega] at hf;rw [e,← hr c hc2 k (Nat.le_refl _),← hr c hc2 t0 (by omega),← hr d hd2 k (Nat.le_refl _),← hr d hd2 t0 (by omega)] at *;have hmono:s.row c t0≤s.row c k:=by
   have hi:=h.inv hv hfl hc (rr_good hv);have hstep:∀n,t0+n≤s.t→s.row c t0≤s.row c (t0+n):=fun n=>by
    induction n with
    | zero=>intro _;exact Int.le_refl _
    | succ n ih=>intro hn;exact Int.le_trans (ih (by omega)) (hi.mono c (t0+n) hc2 (by unfold RS.cur;omega))
   have:=hstep (k-t0) (by omega)
   rwa [show t0+(k-t0)=k by omega] at this
  have hO:s.row d k-s.row d t0≤nth ws d*M*m:=by
   rcases (show s0.sg.1=c∨s0.sg.1=d by omega) with e2|e2
   ·exact(g6 e2).2.2.1
   ·have:=(g7 e2).2.2
    have:=Int.mul_nonneg g2 hM0
    omega
  have hm:m-1≤(s.row c k-s.row c t0) / (nth ws c*L):=(Int.le_ediv_iff_mul_le hr0).2 (by rw [Int.mul_comm];exact g5);have hm2:nth ws d*M*m≤nth ws d*M*((s.row c k-s.row c t0) / (nth ws c*L)+1):=Int.mul_le_mul_of_nonneg_left (by omega) hq0;exact hβ (k-t0) _ (by omega) (by omega)
 ·intro s m hon h4;obtain⟨g1,g2,g3,g4,g5,g6,g7⟩:=rr_glob hv hfl hc hc2 hd2 hcd hl h0 h1 hM m;rcases (show s.sg.1=c∨s.sg.1=d by omega) with e2|e2
  ·have hb0:s.opn ps d=0:=by
    rcases Int.lt_or_le 0 (s.opn ps d) with g|g
    ·have:=(g5 g).1;omega
    ·omega
   refine⟨g1,g2,Int.le_refl _,by omega,0,by omega,fun _=>⟨hb0,by rw [e2] at g3;exact g3,by simp,?_⟩,fun h=>by omega⟩
   rw [e2] at g3;have:0≤s.sg.2*L:=Int.mul_nonneg g2 (by omega)
   rw [Int.sub_mul,show(0:Int)-1 = -1 from rfl,Int.mul_neg,Int.mul_one];omega
  ·refine⟨g1,g2,Int.le_refl _,by omega,1,by simp,fun h=>by omega,fun _=>⟨rfl,by rw [e2] at g3;exact g3,?_⟩⟩
   rw [Int.mul_one,Int.zero_add];rw [e2] at g3;rcases Int.lt_or_le 0 (s.opn ps d) with g|g
   ·obtain⟨_,k1,k2,_⟩:=g5 g;have:(s.sg.2+1)*M≤nth ws d*M:=Int.mul_le_mul_of_nonneg_right k1 hM0
    rw [Int.add_mul,Int.one_mul] at this;omega
   ·have:s.sg.2*M≤nth ws d*M:=Int.mul_le_mul_of_nonneg_right g3 hM0
    omega
 ·intro s sg i x Y O m hch hx hwt hq;have gx:=good_sz hv hx;have mx:=List.mem_of_getElem? hx;rcases hch with ⟨h,_⟩|hch
  ·omega
  ·have e:=nx_class hch.nx.1 rfl hx;rcases rr_busy (z:=x.sz) (Y:=Y) (O:=O) hc2 hd2 hcd hl h0 h1 hL hM0 (by omega) (nx_wait hwt) hch (fun e2=>hLs x mx (by omega)) (fun e2=>hM x mx (by omega)) hq with ⟨e2,k⟩|⟨e2,k⟩
   ·exact .inl ⟨by omega,k⟩
   ·exact .inr ⟨by omega,k⟩
 ·intro Y O a b n g hn hna ⟨g1,g2,g3,g4,m,g5,g6,g7⟩;exact⟨g1,g2,by omega,g4,m,by omega,fun e=>by obtain⟨k1,k2,k3,k4⟩:=g6 e;exact⟨k1,k2,k3,by omega⟩,fun e=>by obtain⟨k1,k2,k3⟩:=g7 e;exact⟨by omega,k2,k3⟩⟩
 ·intro Y O a b n g hn hna ⟨g1,g2,g3,g4,m,g5,g6,g7⟩;exact⟨g1,g2,g3,by omega,m,g5,fun e=>by obtain⟨k1,k2,k3,k4⟩:=g6 e;exact⟨by omega,k2,by omega,k4⟩,fun e=>by obtain⟨k1,k2,k3⟩:=g7 e;exact⟨k1,k2,by omega⟩⟩
end
end
section
def ps15:List PK:=[⟨0,0,15⟩,⟨0,0,15⟩]
theorem pr_one{ps:List PK}{t:Int}{bs:List Bool}{r:Int}(h:PrCh 1 ps t bs r):NxS ps bs t 0 r:=by
 rcases h with ⟨k,hk,_,h,_⟩|⟨rfl,h⟩
 ·obtain rfl:k=0:=by omega
  exact h
 ·exact h 0 (by omega)
theorem pr_ff{r:Int}(h:PrCh 1 ps15 0 [false,false] r):r=0:=by
 refine(pr_one h).unique (.inl ⟨0,⟨0,0,15⟩,rfl,rfl,rfl,by decide,rfl,fun j y hj=>by omega⟩)
theorem pr_tf{r:Int}(h:PrCh 1 ps15 1 [true,false] r):r=1:=by
 refine(pr_one h).unique (.inl ⟨1,⟨0,0,15⟩,rfl,rfl,rfl,by decide,rfl,fun j y hj hy hb=>?_⟩);obtain rfl:j=0:=by omega
 cases hb
theorem pr_tt{t r:Int}(h:PrCh 1 ps15 t [true,true] r):r = -1:=by
 refine(pr_one h).unique (.inr ⟨rfl,fun j y hy hb=>?_⟩);rcases j with _|_|j <;> cases hb
def vw(s:RS Unit):Nat × Bool × Option Nat × Int × Int × List Bool × List Int:=(s.t,s.on,s.now,s.rest,s.left,s.begun,s.done)
def V15(v:Nat × Bool × Option Nat × Int × Int × List Bool × List Int):Prop:=
 v=(0,false,none,0,0,[false,false],[-1,-1])∨v=(0,true,none,0,10,[false,false],[-1,-1])∨v=(0,true,some 0,15,10,[true,false],[-1,-1])∨v=(0,true,some 0,5,0,[true,false],[-1,-1])∨
 v=(1,false,some 0,5,0,[true,false],[-1,-1])∨v=(1,true,some 0,5,10,[true,false],[-1,-1])∨v=(1,true,none,0,5,[true,false],[1,-1])∨v=(1,true,some 1,15,5,[true,true],[1,-1])∨v=(1,true,some 1,10,0,[true,true],[1,-1])∨
 v=(2,false,some 1,10,0,[true,true],[1,-1])∨v=(2,true,some 1,10,10,[true,true],[1,-1])∨v=(2,true,none,0,0,[true,true],[1,2])∨
 v=(3,false,none,0,0,[true,true],[1,2])∨v=(3,true,none,0,10,[true,true],[1,2])∨v=(4,false,none,0,10,[true,true],[1,2])∨v=(4,true,none,0,10,[true,true],[1,2])∨v=(5,false,none,0,10,[true,true],[1,2])
set_option maxHeartbeats 4000000 in
theorem run15{s:RS Unit}(h:MRun 10 1 ps15 5 (PrC 1 ps15) () s):V15 (vw s):=by
 induction h with
 | start=>exact .inl rfl
 | tick s _ hon ht ih=>
   obtain⟨t,on,now,rest,left,begun,done,sent,sg⟩:=s;simp only [V15,vw,Prod.mk.injEq] at ih hon ht ⊢;subst hon;rcases ih with h|h|h|h|h|h|h|h|h|h|h|h|h|h|h|h|h <;> obtain⟨rfl,h2,rfl,rfl,rfl,rfl,rfl⟩:=h <;> simp_all
 | close s _ hon hl ih=>
   obtain⟨t,on,now,rest,left,begun,done,sent,sg⟩:=s;simp only [V15,vw,Prod.mk.injEq] at ih hon hl ⊢;subst hon;rcases ih with h|h|h|h|h|h|h|h|h|h|h|h|h|h|h|h|h <;> obtain⟨rfl,h2,rfl,rfl,rfl,rfl,rfl⟩:=h <;> simp_all
 | idle s sg _ hon hl hn hch ih=>
   obtain⟨t,on,now,rest,left,begun,done,sent,sg⟩:=s;simp only [V15,vw,Prod.mk.injEq,PrC] at ih hon hl hn hch ⊢;subst hon hn;rcases ih with h|h|h|h|h|h|h|h|h|h|h|h|h|h|h|h|h <;> obtain⟨rfl,h2,h3,rfl,rfl,rfl,rfl⟩:=h <;> first|(cases h2;done)|(cases h3;done)|(exfalso;omega)|(have:=pr_ff hch;omega)|(have:=pr_tf hch;omega)|simp_all
 | begin_ s sg i x _ hon hl hn hch hx ih=>
   obtain⟨t,on,now,rest,left,begun,done,sent,sg⟩:=s;simp only [V15,vw,Prod.mk.injEq,PrC] at ih hon hl hn hch ⊢;subst hon hn;rcases ih with h|h|h|h|h|h|h|h|h|h|h|h|h|h|h|h|h <;> obtain⟨rfl,h2,h3,rfl,rfl,rfl,rfl⟩:=h <;> first|(cases h2;done)|(cases h3;done)|(exfalso;omega)|(have:=pr_tt hch;omega)|skip
   ·have:=pr_ff hch
    obtain rfl:i=0:=by omega
    cases hx
    simp
   ·have:=pr_tf hch
    obtain rfl:i=1:=by omega
    cases hx
    simp
 | send s i x _ hon hl hn hx hlt ih=>
   obtain⟨t,on,now,rest,left,begun,done,sent,sg⟩:=s;simp only [V15,vw,Prod.mk.injEq] at ih hon hl hn hlt ⊢;subst hon hn;rcases ih with h|h|h|h|h|h|h|h|h|h|h|h|h|h|h|h|h <;> obtain⟨rfl,h2,h3,rfl,rfl,rfl,rfl⟩:=h <;> first|(cases h2;done)|(cases h3;done)|(exfalso;omega)|(cases h3;simp)
 | fin s i x _ hon hl hn hx hlt ih=>
   obtain⟨t,on,now,rest,left,begun,done,sent,sg⟩:=s;simp only [V15,vw,Prod.mk.injEq] at ih hon hl hn hlt ⊢;subst hon hn;rcases ih with h|h|h|h|h|h|h|h|h|h|h|h|h|h|h|h|h <;> obtain⟨rfl,h2,h3,rfl,rfl,rfl,rfl⟩:=h <;> first|(cases h2;done)|(cases h3;done)|(exfalso;omega)|(cases h3;simp)
theorem done15{done:List Int}{sent:List (List Int)}(h:RunOf 10 1 ps15 5 (PrC 1 ps15) () done sent):done = [1,2]:=by
 obtain⟨s,hm,hon,ht,rfl,rfl⟩:=h;have:=run15 hm
 simp only [V15,vw,Prod.mk.injEq,hon,ht] at this;simp at this;exact this.2.2.2.2
end
end Go.Proofs.YtaejfleahamapaaGreat
