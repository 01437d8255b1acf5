/- convolution.both: the pair of two curves in normal form. -/
import Derived.Deep.DeepCutAuto
import Derived.WalkMore
import Derived.Deep.QuietTactic
import Derived.BigQuiet
import Derived.Test.YtaejfleahamapaaGreatPp21
import Derived.Test.YtaejfleahamapaaGreatPp1
import Derived.Test.YtaejfleahamapaaGreatPp16
import Derived.Test.YtaejfleahamapaaGreatPp23
import Derived.Test.YtaejfleahamapaaGreatPp9
import Derived.Test.YtaejfleahamapaaGreatPp2
import Derived.Test.YtaejfleahamapaaGreatPp11
import Derived.Test.YtaejfleahamapaaGreatPp8
import Derived.Test.YtaejfleahamapaaGreatPp3
namespace Go.Proofs.YtaejfleahamapaaGreat
set_option linter.unusedVariables false
set_option linter.unusedSimpArgs false
section
open Go.RowKit
set_option maxHeartbeats 1000000 in
theorem raise1_any(L F D:Nat)(A:Option Addr)(n c:Nat)(a:Cv)(d:Int)(t:Nat)(w:World)(hF:Bz L w F A n c a)(hD:Blk w D 3 #[.int .i64 d])(ha:a.Ok)(hd0:0≤d)(hd:d≤1073741824)(ht:t≤1000000) :
 Calls Tryz.prog 185 (#[.int .i64 t] ++ #[.pointer (some ⟨F,0,none⟩),.pointer (some ⟨D,0,none⟩)]) w fun e w'=>e = .returned (.int .i64 (raiseV a d t))∧Below w.heap.size w w':=by
 have FA:=hi_ hF;have DB:=hi_ hD;have hl1:a.vals.length=n:=hF.ints.1;have ha1:=ha.n1;have ha2:=ha.n2;have hap:=ha.p1;have hap2:=ha.p2;have hai:=ha.i1;have hai2:=ha.i2;have hapn:=ha.pn;rw [hl1] at ha1 ha2 hapn;have HA:=hi_ ha;have BW:=hi_ (Below.refl w.heap.size w);show Calls _ _ #[.int .i64 t,.pointer (some ⟨F,0,none⟩),.pointer (some ⟨D,0,none⟩)] _ _
 rcases Nat.eq_zero_or_pos t with ht0|ht0
 ·subst ht0;rw [raiseV_zero];clear hF hD hl1 ha;go_enter Tryz.func185,Tryz.ntmps185
  have bw:=BW.out;go_wp2_with fail
  go_ret
  exact⟨rfl,bw⟩
 ·have hx:=at_near ha (t:=t) (by omega);rw [raise_pl ha hd ht0 (by omega)];obtain⟨x,hx'⟩:∃x,x=a.at t:=⟨_,rfl⟩
  have HX:=hi_ hx';rw [← hx'] at hx ⊢;have HXB:=hi_ hx;have hti:0<(t:Int):=by omega
  have d1:((t:Int) == 0)=false:=by simp only [beq_eq_false_iff_ne];omega
  clear hF hD hl1 ha hx hx';go_enter Tryz.func185,Tryz.ntmps185
  obtain⟨a0,a1,a2,hla⟩:=FA.out.cells;have z0:=DB.out.cell 0;simp at z0;have hlz:=DB.out.lt;go_upto_region 3 with fail
  go_region_held3 (fun w'=>w'.cell? ⟨F,0,none⟩=some (.slice A n c)∧w'.cell? ⟨F,1,none⟩=some (.int .i64 a.per)∧w'.cell? ⟨F,2,none⟩=some (.int .i64 a.inc)∧w'.cell? ⟨D,0,none⟩=some (.int .i64 d)) (first|go_keep)
   (first
    | (go_at_call 43
       refine(at_any A n c a.per a.inc t a.vals _ (by exact FA.out.drew.ints) (by omega) hap hapn hai (by omega) HA.out.nn (by omega) (by omega)).mono ?_;rw [Int.toNat_natCast,show Cv.at ⟨a.vals,a.per,a.inc⟩ t=x from HX.out.symm];rintro e w1 ⟨rfl,hbq⟩;have hbq:=bofdrew hbq;have FA:=hi_ (FA.out.below hbq);have DB:=hi_ (DB.out.below hbq DB.out.lt);have BW:=hi_ (bthen BW.out hbq);clear hbq;clear a0 a1 a2 hla z0 hlz;obtain⟨a0,a1,a2,hla⟩:=FA.out.cells;have z0:=DB.out.cell 0;simp at z0;have hlz:=DB.out.lt
       skip)
    | (go_at_call 44
       refine(plus_any x d _ HXB.out.1 HXB.out.2 hd0 (.inr (by omega))).mono ?_;rintro e w1 ⟨rfl,rfl⟩
       skip))
  all_goals
   have bw:=BW.out;go_wp2_with fail
   go_ret
   exact⟨rfl,bw⟩
set_option maxHeartbeats 2000000 in
set_option maxRecDepth 100000 in
theorem praise_any(A0:Option Addr)(n0 c0:Nat)(p i d:Int)(xs:List Int)(w:World)(hA:Ints w w.heap.size A0 n0 xs)(hn:(n0:Int)≤1000000):Calls Tryz.prog 180 #[.agg #[.slice A0 n0 c0,.int .i64 p,.int .i64 i],.int .i64 d] w (RetS (RaiseS ⟨xs,p,i⟩ d) w):=by
 have E:=hi_ (((L1.new (c:=c0) (p:=p) (i:=i) hA).alloc (.cells #[.int .i64 d] 3)).alloc (.cells #[.slice none 0 0,.int .i64 0,.int .i64 0] 26));have db:=(Blk.new (w.alloc (.cells #[.slice A0 n0 c0,.int .i64 p,.int .i64 i] 26)) 3 #[.int .i64 d]).alloc (.cells #[.slice none 0 0,.int .i64 0,.int .i64 0] 26);have rb:=Blk.new ((w.alloc (.cells #[.slice A0 n0 c0,.int .i64 p,.int .i64 i] 26)).alloc (.cells #[.int .i64 d] 3)) 26 #[.slice none 0 0,.int .i64 0,.int .i64 0];rw [World.size_alloc] at db;rw [World.size_alloc,World.size_alloc] at rb;have DB:=hi_ db;have RB:=hi_ rb;clear hA db rb;go_enter Tryz.func180,Tryz.ntmps180
 go_wp2_with fail
 refine(one_any A0 n0 c0 p i d 0 1073741824 xs _ E.out.ints hn).mono ?_;rintro e w1 ⟨a,er,hN,A,n,c,rfl,hI1,hA1,hb⟩;simp only [World.size_alloc] at hA1;have hs0:=(RB.out.below hb RB.out.lt).lt;have FA:=hi_ (Bz.mk (L:=w.heap.size+1+1+1) (c:=c) (f:=a) (Blk.new w1 26 #[.slice A n c,.int .i64 a.per,.int .i64 a.inc]) (hI1.alloc' _) hA1);replace DB:=hi_ ((DB.out.below hb DB.out.lt).alloc (.cells #[.slice A n c,.int .i64 a.per,.int .i64 a.inc] 26));replace RB:=hi_ ((RB.out.below hb RB.out.lt).alloc (.cells #[.slice A n c,.int .i64 a.per,.int .i64 a.inc] 26));have BW:=hi_ (bthen (bthen E.out.bw hb) (balloc _ (.cells #[.slice A n c,.int .i64 a.per,.int .i64 a.inc] 26)));have hl1:a.vals.length=n:=hI1.1;clear hI1 hA1 hb E;go_upto_region 2 with fail
 generalize hwz:w1.alloc (.cells #[.slice A n c,.int .i64 a.per,.int .i64 a.inc] 26)=wz at *;clear hwz;generalize hFe:w1.heap.size=F at *;have hne1:w.heap.size+1+1≠F:=by omega
 have hne2:w.heap.size+1+1≠w.heap.size+1:=by omega
 clear hFe;obtain⟨⟨r0,r1,r2⟩,⟨y0,y1,y2⟩,hlr⟩:=RB.out.c3;have hN2:(er≠0∧a=Cv.none∧RaiseS ⟨xs,p,i⟩ d Cv.none er)∨(Cv.Ok ⟨xs,p,i⟩∧0≤d∧d≤1073741824∧NF (Cv.at ⟨xs,p,i⟩) a∧a.Ok∧er=0):=by
  rcases hN with ⟨h1,h2,rfl⟩|⟨h1,h2,h3,rfl⟩|h1
  ·exact .inl ⟨by decide,h2,.inl ⟨h1,rfl,rfl⟩⟩
  ·exact .inl ⟨by decide,h3,.inr (.inl ⟨h1,h2,rfl,rfl⟩)⟩
  ·exact .inr h1
 clear hN;rcases hN2 with ⟨hne,_,hS⟩|⟨hf,hd0,hd1,hna,hao,rfl⟩;rotate_left 1
 rotate_left 1
 ·have F9:=hi_ hS;have hne':(er != 0)=true:=by simpa using hne
  clear hS hne;go_wp2_with fail
  have rb:=RB.out.store3 (.slice none 0 0) (.int .i64 0) (.int .i64 0);refine bodyPost_ret (v:=.tuple #[.agg #[(.slice none 0 0),.int .i64 0,.int .i64 0],.int .i64 er]) (by simp [results,Tryz.results180,go_sem,rb.cell]) rfl ?_;exact retS_none F9.out (bst3 BW.out (by omega) _ _ _)
 ·have ha1:=hao.n1;have ha2:=hao.n2;have hap:=hao.p1;have hap2:=hao.p2;have hai:=hao.i1;have hai2:=hao.i2;have hapn:=hao.pn;rw [hl1] at ha1 ha2 hapn;obtain⟨S,hS⟩:∃S,S=max 1 (a.vals.length-a.per.toNat):=⟨_,rfl⟩
  have hmx:(if(1:Int)<(n:Int)-a.per then (n:Int)-a.per else 1)=(S:Int):=by
   rw [hS,hl1];split <;> omega
  have hSb:1≤S∧S≤400:=by rw [hS,hl1];omega
  obtain⟨hS1,hS2⟩:=hSb;have FIN:=hi_ (show ∀r er,BuildS (raiseV a d) ((S:Int)).toNat a.per.toNat a.inc r er→RaiseS ⟨xs,p,i⟩ d r er from fun r er h=>.inr (.inr ⟨hf,hd0,hd1,a,hna,raise_build hao hd0 hd1 (s:=S) hS1 (by rw [hS];omega) (by omega) h⟩));have HVAL:=hi_ (show ∀k:Nat,(k:Int)<(S:Int)+a.per→0≤raiseV a d k∧raiseV a d k≤4611686018427387904 from fun k hk=>raise_small hao hd0 hd1 (by omega));have HA:=hi_ hao;clear hf hna hao hl1 hS;obtain⟨a0,a1,a2,hla⟩:=FA.out.cells;have z0:=DB.out.cell 0;simp at z0;have hlz:=DB.out.lt;go_upto_region 5 with fail
  go_region_held3 (fun w'=>w'.cell? ⟨F,0,none⟩=some (.slice A n c)∧w'.cell? ⟨F,1,none⟩=some (.int .i64 a.per)∧w'.cell? ⟨F,2,none⟩=some (.int .i64 a.inc)∧w'.cell? ⟨w.heap.size+1,0,none⟩=some (.int .i64 d)) (first|go_keep|exact⟨(cell_set3 hne1).trans a0,(cell_set3 hne1).trans a1,(cell_set3 hne1).trans a2,(cell_set3 hne2).trans z0⟩)
   (first
    | (go_at_call 92
       refine(start_any A n c a.per a.inc _ (by omega) (by omega) (by omega)).mono ?_;rintro e w4 ⟨rfl,hbq⟩;have FA:=hi_ FA.out.drew;have DB:=hi_ (Blk.drew DB.out);have BW:=hi_ (Below.drew BW.out);have RB:=hi_ (Blk.drew RB.out);have FA:=hi_ (FA.out.below hbq);have DB:=hi_ (DB.out.below hbq DB.out.lt);have BW:=hi_ (bthen BW.out hbq);have RB:=hi_ (RB.out.below hbq RB.out.lt);clear hbq;clear a0 a1 a2 hla z0 hlz;obtain⟨a0,a1,a2,hla⟩:=FA.out.cells;have z0:=DB.out.cell 0;simp at z0;have hlz:=DB.out.lt
       skip)
    | (go_at_call 64
       refine(build_any 185 #[.pointer (some ⟨F,0,none⟩),.pointer (some ⟨w.heap.size+1,0,none⟩)] S a.per a.inc (raiseV a d) _ (by omega) (by omega) (by omega) (by omega) (by omega) (by omega) HVAL.out (by exact fun t w1 ht hb=>raise1_any _ F _ A n c a d t w1 (FA.out.below hb) (DB.out.below hb DB.out.lt) HA.out hd0 hd1 (by omega)) (fun x w=>by kernel_rfl)).mono ?_;rintro e w5 ⟨r,er,hS,A5,n5,c5,rfl,hI5,hA5,hbq⟩;have FN:=hi_ (FIN.out _ _ hS);have hs0:=RB.out.lt;have HI5:=hi_ hI5;have HA5:=hi_ hA5;clear hS hI5 hA5;clear r0 r1 r2 y0 y1 y2 hlr;have FA:=hi_ (FA.out.below hbq);have DB:=hi_ (DB.out.below hbq DB.out.lt);have BW:=hi_ (bthen BW.out hbq);have RB:=hi_ (RB.out.below hbq RB.out.lt);clear hbq;clear a0 a1 a2 hla z0 hlz;obtain⟨a0,a1,a2,hla⟩:=FA.out.cells;have z0:=DB.out.cell 0;simp at z0;have hlz:=DB.out.lt;obtain⟨⟨r0,r1,r2⟩,⟨y0,y1,y2⟩,hlr⟩:=RB.out.c3
       skip)
   )
  all_goals
   go_wp2_with fail
   have rb:=RB.out.store3 (.slice A5 n5 c5) (.int .i64 r.per) (.int .i64 r.inc);refine bodyPost_ret (v:=.tuple #[.agg #[(.slice A5 n5 c5),.int .i64 r.per,.int .i64 r.inc],.int .i64 er]) (by simp [results,Tryz.results180,go_sem,rb.cell]) rfl ?_;exact retS_store FN.out HA5.out (by omega) hs0 HI5.out BW.out
end
section
open Go.RowKit
theorem commonB_any(a b:Nat)(w:World)(ha:(a:Int)≤1000000)(hb:(b:Int)≤1000000)(ha1:1≤a) :
 Calls Tryz.prog 94 #[.int .i64 a,.int .i64 b] w fun e w'=>e = .returned (.int .i64 (comm a b:Nat))∧Below w.heap.size w w':=by
 go_enter Tryz.func94,Tryz.ntmps94
 go_wp2
 go_loopg [5,6] b (fun g s0 s1 wx=>∃x y:Nat,s0 = .int .i64 x∧s1 = .int .i64 y∧y=g∧(x:Int)≤1000000∧(y:Int)≤1000000∧Hid (Nat.gcd x y=Nat.gcd a b)∧Below w.heap.size w wx)
 case atStart=>exact⟨a,b,rfl,rfl,rfl,ha,hb,rfl,Below.refl _ _⟩
 case round=>
  obtain⟨x,y,rfl,rfl,hyg,hx,hy,hgcd,bw⟩:=hrel;have HY:=hi_ hyg;clear hyg;have HG:=hi_ hgcd;clear hgcd;by_cases hy0:y=0
  ·have hb1:((y:Int) != 0)=false:=by simpa using hy0
   have hxg:x=Nat.gcd a b:=by rw [← HG.out.out,hy0,Nat.gcd_zero_right]
   have hx0:0<x:=by rw [hxg];exact Nat.gcd_pos_of_pos_left _ (by omega)
   obtain⟨k,hk⟩:∃k,k=a / x:=⟨_,rfl⟩
   have hka:k≤a:=by rw [hk];exact Nat.div_le_self _ _
   have ed:((a:Int).tdiv (x:Int))=(k:Int):=by rw [hk];rfl
   have hxn:(x:Int)≠0:=by omega
   have hkb:(k:Int)*b≤1000000*1000000:=Int.mul_le_mul (by omega) hb (by omega) (by omega);have hkb0:0≤(k:Int)*b:=Int.mul_nonneg (by omega) (by omega);have F:=hi_ (show(k:Int)*b=(comm a b:Nat) by unfold comm;rw [← hxg,← hk];simp);clear HG hy0 hxg hk
   go_wp2
   go_ret
   exact⟨ret_int F.out,bw⟩
  ·have hb1:((y:Int) != 0)=true:=by simpa using hy0
   have F:=hi_ (show Nat.gcd y (x % y)=Nat.gcd a b by rw [Nat.gcd_comm,← Nat.gcd_rec,Nat.gcd_comm];exact HG.out.out);clear HG;have hy0':(y:Int)≠0:=by omega
   go_wp2_with fail
   go_quiet (fail)
   go_wp2
   go_roundg (x % y)
   case measure=>rw [← HY.out];exact Nat.mod_lt _ (by omega)
   case rel=>exact⟨y,x % y,by go_num,by go_num,rfl,hy,by have:=Nat.mod_lt x (show y>0 by omega);omega,F.out,bdrewN bw⟩
def RndS(low cap s p:Int)(ok:Bool):Prop:=(ok=true∧low≤s∧s≤120*cap∧1≤p∧p≤120∧∃k,1≤k∧cap*p=k*s)∨(ok=false∧s=0∧p=0)
def RetRnd(low cap:Int)(w:World)(e:Ending)(w':World):Prop:=∃s p ok,RndS low cap s p ok∧e = .returned (.tuple #[.int .i64 s,.int .i64 p,.bool ok])∧Below w.heap.size w w'
theorem rounds_any(low cap:Nat)(w:World)(h1:1≤low)(h2:low≤100000)(hc1:1≤cap)(hc2:cap≤4000) :
 Calls Tryz.prog 199 #[.int .i64 low,.int .i64 cap] w (RetRnd low cap w):=by
 have em:IntKind.i64.wrap (120*(cap:Int))=120*(cap:Int):=IntWalk.i64_in _ (by omega);go_enter Tryz.func199,Tryz.ntmps199
 go_wp2_with fail
 go_loopg [4,5] (120*cap+1-low) (fun gg s4 _ wr=>∃s:Nat,low≤s∧s≤1000000∧120*cap+1-s≤gg∧s4 = .int .i64 s∧Hid (Below w.heap.size w wr))
 case atStart=>exact⟨low,by omega,by omega,by omega,rfl,hi_ (Below.refl _ _)⟩
 case round=>
  obtain⟨s,hs1,hs2,hsg,rfl,BW⟩:=hrel;by_cases hs:s≤120*cap
  case pos=>
   have hd:decide ((s:Int)≤120*(cap:Int))=true:=decide_eq_true (by omega);have hsi:(s:Int)≤120*(cap:Int):=by omega
   go_wp2_with fail
   refine(commonB_any s cap wr (by omega) (by omega) (by omega)).mono ?_;rintro e w2 ⟨rfl,hb⟩;replace BW:=hi_ (bthen BW.out hb);obtain⟨p,hp⟩:∃p:Nat,p=comm s cap / cap:=⟨_,rfl⟩
   have hd1:cap∣comm s cap:=by
    unfold comm;exact Nat.dvd_mul_left _ _
   obtain⟨k,hk⟩:∃k,comm s cap=s*k:=by
    unfold comm;refine⟨cap / Nat.gcd s cap,?_⟩
    rw [← Nat.mul_div_assoc _ (Nat.gcd_dvd_right s cap),Nat.mul_comm (s / _),← Nat.mul_div_assoc _ (Nat.gcd_dvd_left s cap),Nat.mul_comm cap s]
   have hcp:cap*p=comm s cap:=by rw [hp];exact Nat.mul_div_cancel' hd1
   have hpos:0<comm s cap:=by
    unfold comm;exact Nat.mul_pos (Nat.div_pos (Nat.le_of_dvd (by omega) (Nat.gcd_dvd_left s cap)) (Nat.gcd_pos_of_pos_left _ (by omega))) (by omega)
   have hp0:1≤p:=by
    rcases Nat.eq_zero_or_pos p with e|e
    ·rw [e] at hcp;omega
    ·exact e
   have ed:((comm s cap:Nat):Int).tdiv (cap:Int)=(p:Int):=by rw [hp];rfl
   have hcn:(cap:Int)≠0:=by omega
   have hcl:comm s cap≤s*cap:=by
    unfold comm;exact Nat.mul_le_mul_right _ (Nat.div_le_self _ _)
   have hcb:s*cap≤1000000*4000:=Nat.mul_le_mul hs2 hc2;have HK:=hi_ (show cap*p=s*k from hcp.trans hk);have hpx:p≤comm s cap:=by rw [hp];exact Nat.div_le_self _ _
   have hk0:1≤k:=by
    rcases Nat.eq_zero_or_pos k with e|e
    ·rw [e] at hk;omega
    ·exact e
   generalize comm s cap=X at *;have hXi:(X:Int)≤4000000000:=by omega
   have hpxi:(p:Int)≤4000000000:=by omega
   clear hp hd1 hk hcp hcl hcb hb;by_cases hp2:p≤120
   case pos=>
    have hpi:(p:Int)≤120:=by omega
    have F:=hi_ (show RndS low cap s p true from .inl ⟨rfl,by omega,by omega,by omega,by omega,k,by omega,by have:=HK.out;rw [Int.mul_comm (k:Int)];exact_mod_cast this⟩);clear hpos;go_wp2_with fail
    exact bodyPost_ret (v:=.tuple #[.int .i64 s,.int .i64 p,.bool true]) (by simp [results,Tryz.results199,go_sem]) rfl ⟨s,p,true,F.out,rfl,BW.out⟩
   case neg=>
    have hpi:¬(p:Int)≤120:=by omega
    have hd2:decide ((p:Int)≤120)=false:=decide_eq_false (by omega);clear hpos HK;go_wp2_with fail
    go_roundg (120*cap+1-(s+1))
    case measure=>omega
    case rel=>exact⟨s+1,by omega,by omega,Nat.le_refl _,by go_num,BW⟩
  case neg=>
   have hd:decide ((s:Int)≤120*(cap:Int))=false:=decide_eq_false (by omega);have hsi:¬(s:Int)≤120*(cap:Int):=by omega
   go_wp2_with fail
   exact bodyPost_ret (v:=.tuple #[.int .i64 0,.int .i64 0,.bool false]) (by simp [results,Tryz.results199,go_sem]) rfl ⟨0,0,false,.inr ⟨rfl,rfl,rfl⟩,rfl,BW.out⟩
theorem firstN_any(N fid:Nat)(caps:Array Value)(w:World)(hN:N≤1000000000)
 (hch:Hid (∀(y:Nat) (w1:World),y≤2*N+2→Below w.heap.size w w1→Calls Tryz.prog fid (#[.int .i64 y] ++ caps) w1 fun e w2=>e = .returned (.bool (decide (N≤y)))∧Below w1.heap.size w1 w2))
 (hcf:∀(x:Value) (w:World),Sem.run Tryz.prog (callFunc fid (#[x] ++ caps)) w = .ok (.enter fid (#[x] ++ caps)) w) :
 Calls Tryz.prog 201 #[.func (.func fid) #[] caps] w fun e w'=>e = .returned (.int .i64 N)∧Below w.heap.size w w':=by
 go_enter Tryz.func201,Tryz.ntmps201
 go_wp2_with fail
 go_loopg [3] (N+1) (fun gg s3 wr=>∃h:Nat,1≤h∧h≤2*N+2∧N+2≤gg+h∧s3 = .int .i64 h∧Hid (Below w.heap.size w wr))
 case atStart=>exact⟨1,by omega,by omega,by omega,rfl,hi_ (Below.refl _ _)⟩
 case round=>
  obtain⟨h0,h1,h2,h3,rfl,BW⟩:=hrel;obtain⟨y,rfl⟩:∃y,h0=y+1:=⟨h0-1,by omega⟩
  have e1:((y+1:Nat):Int)-1=(y:Int):=by omega
  go_wp2_with fail
  refine(hch.out y wr (by omega) BW.out).mono ?_;rintro e w2 ⟨rfl,hb⟩;replace BW:=hi_ (bthen BW.out hb);clear hb e1;by_cases hy:N≤y
  case neg=>
   have hd:decide (N≤y)=false:=decide_eq_false hy;rw [hd];go_wp2_with fail
   go_roundg (gk-1)
   case measure=>omega
   case rel=>exact⟨2*(y+1),by omega,by omega,by omega,by go_num,BW⟩
  case pos=>
   have hd:decide (N≤y)=true:=decide_eq_true hy;rw [hd];have e1:((y+1:Nat):Int)-1=(y:Int):=by omega
   go_wp2_with fail
   go_loopg [3,4,5] (y+1) (fun gg s3 s4 _ wx=>∃lo hi:Nat,lo≤N∧N≤hi∧hi≤2*N+1∧hi+1≤gg+lo∧s3 = .int .i64 hi∧s4 = .int .i64 lo∧Hid (Below w.heap.size w wx))
   case atStart=>exact⟨0,y,by omega,by omega,by omega,by omega,rfl,rfl,BW⟩
   case round=>
    clear BW;obtain⟨lo,hi,h4,h5,h6,h7,rfl,rfl,BW⟩:=hrel;by_cases hlt:lo<hi
    case pos=>
     have hlti:(lo:Int)<(hi:Int):=by omega
     obtain⟨m,hm⟩:∃m:Nat,m=(lo+hi) / 2:=⟨_,rfl⟩
     have em:=hi_ (show((lo:Int)+(hi:Int)) / 2=(m:Int) by omega);go_wp2_with fail
     rw [em.out];refine(hch.out m wr (by omega) BW.out).mono ?_;rintro e w2 ⟨rfl,hb⟩;replace BW:=hi_ (bthen BW.out hb);clear hb;by_cases hy2:N≤m
     case pos=>
      have hd2:decide (N≤m)=true:=decide_eq_true hy2;rw [hd2];go_wp2_with fail
      go_roundg (gk-1)
      case measure=>omega
      case rel=>exact⟨lo,m,by omega,by omega,by omega,by omega,by rw [em.out],rfl,BW⟩
     case neg=>
      have hd2:decide (N≤m)=false:=decide_eq_false hy2;rw [hd2];go_wp2_with fail
      go_roundg (gk-1)
      case measure=>omega
      case rel=>exact⟨m+1,hi,by omega,by omega,by omega,by omega,rfl,by rw [em.out];go_num,BW⟩
    case neg=>
     have hlti:¬(lo:Int)<(hi:Int):=by omega
     obtain rfl:lo=N:=by omega
     go_wp2_with fail
     go_ret
     exact⟨rfl,BW.out⟩
end
section
open Go.RowKit
def RetQt(a b:Int)(w:World)(e:Ending)(w':World):Prop:=
 ∃q m:Int,Hid (q=a / b)∧Hid (m=a % b)∧(0≤q∧q≤a∧0≤m∧m<b)∧e = .returned (.tuple #[.int .i64 q,.int .i64 m])∧Below w.heap.size w w'
theorem split_any(a b:Int)(w:World)(ha0:0≤a)(ha:a≤4611686018427387904)(hb1:1≤b)(hb:b≤4611686018427387904) :
 Calls Tryz.prog 62 #[.int .i64 a,.int .i64 b] w (RetQt a b w):=by
 obtain⟨q,hq⟩:∃q,q=a / b:=⟨_,rfl⟩
 obtain⟨m,hm⟩:∃m,m=a % b:=⟨_,rfl⟩
 have hq0:0≤q:=by rw [hq];exact Int.ediv_nonneg ha0 (by omega)
 have hqa:q≤a:=by rw [hq];exact Int.ediv_le_self _ ha0
 have hm0:0≤m:=by rw [hm];exact Int.emod_nonneg _ (by omega)
 have hmb:m<b:=by rw [hm];exact Int.emod_lt_of_pos _ (by omega)
 have e1:a.tdiv b=q:=by rw [Int.tdiv_eq_ediv_of_nonneg ha0];exact hq.symm
 have e2:a.tmod b=m:=by rw [Int.tmod_eq_emod_of_nonneg ha0];exact hm.symm
 have e3:a / b=q:=hq.symm;have e4:a % b=m:=hm.symm;have e5:IntKind.i64.wrap q=q:=IntWalk.i64_in _ (by omega);have e6:IntKind.i64.wrap m=m:=IntWalk.i64_in _ (by omega);have hbn:b≠0:=by omega
 have HQ:=hi_ hq;have HM:=hi_ hm;clear hq hm;go_enter Tryz.func62,Tryz.ntmps62
 go_wp2_with fail
 go_quiet (fail)
 clear e1 e2 e3 e4 e5 e6;go_wp2_with fail
 go_ret2
 exact⟨q,m,HQ,HM,⟨hq0,hqa,hm0,hmb⟩,rfl,bdrewN (Below.refl _ _)⟩
set_option maxHeartbeats 1000000 in
theorem token1_any(P1 P2 P3:Nat)(B b R r:Int)(t:Nat)(w:World)(h1:Blk w P1 56 #[.int .i64 B,.int .i64 b,.int .i64 R,.int .i64 r])(h2:Blk w P2 3 #[.int .i64 (B % b)])(h3:Blk w P3 3 #[.int .i64 (B / b)])
 (hB0:0≤B) (hB1:B≤1073741824) (hb0:1≤b) (hb1:b≤1073741824) (hR0:0≤R) (hR1:R≤1073741824) (hr0:1≤r) (hr1:r≤120) (ht:t≤1000) :
 Calls Tryz.prog 63 (#[.int .i64 t] ++ #[.pointer (some ⟨P1,0,none⟩),.pointer (some ⟨P2,0,none⟩),.pointer (some ⟨P3,0,none⟩)]) w fun e w'=>e = .returned (.int .i64 (tokV B b R r t))∧Below w.heap.size w w':=by
 show Calls _ _ #[.int .i64 t,.pointer (some ⟨P1,0,none⟩),.pointer (some ⟨P2,0,none⟩),.pointer (some ⟨P3,0,none⟩)] _ _
 by_cases h0:t=0
 ·subst h0;rw [tok_zero];go_enter Tryz.func63,Tryz.ntmps63
  go_wp2_with fail
  go_ret
  exact⟨rfl,Below.refl _ _⟩
 ·have hti:((t:Int) == 0)=false:=by simp;omega
  have hti2:(t == 0)=false:=by simp;omega
  have ht1:1≤(t:Int):=by omega
  have hX0:0≤R*((t:Int)-1):=Int.mul_nonneg hR0 (by omega);have hX1:R*((t:Int)-1)≤1073741824*1000:=Int.mul_le_mul hR1 (by omega) (by omega) (by omega);have FT:=hi_ (show tokV B b R r t=B / b+R*((t:Int)-1) / r+(B % b*r+R*((t:Int)-1) % r*b) / (b*r) from by
   rw [tok_pos _ _ _ _ (by omega)];exact tok_parts hb0 hr0)
  obtain⟨W,hW⟩:∃W,W=B / b:=⟨_,rfl⟩
  obtain⟨V,hV⟩:∃V,V=B % b:=⟨_,rfl⟩
  rw [← hV] at h2;rw [← hW] at h3;have hW0:0≤W:=by rw [hW];exact Int.ediv_nonneg hB0 (by omega)
  have hW1:W≤B:=by rw [hW];exact Int.ediv_le_self _ hB0
  have hV0:0≤V:=by rw [hV];exact Int.emod_nonneg _ (by omega)
  have hV1:V<b:=by rw [hV];exact Int.emod_lt_of_pos _ (by omega)
  have HW:=hi_ hW;have HV:=hi_ hV;have H1:=hi_ h1;have H2:=hi_ h2;have H3:=hi_ h3;have BW:=hi_ (Below.refl w.heap.size w);clear hW hV h1 h2 h3 h0;go_enter Tryz.func63,Tryz.ntmps63
  obtain⟨x0,x1,x2,x3⟩:_∧_∧_∧_:=⟨H1.out.cell 0,H1.out.cell 1,H1.out.cell 2,H1.out.cell 3⟩
  obtain⟨y0,y1⟩:_∧_:=⟨H2.out.cell 0,H3.out.cell 0⟩
  simp at x0 x1 x2 x3 y0 y1;go_wp2_with fail
  refine(split_any (R*((t:Int)-1)) r _ hX0 (by omega) hr0 (by omega)).mono ?_;rintro e w1 ⟨q,m,hq,hm,⟨hq0,hq1,hm0,hm1⟩,rfl,hb⟩;replace H1:=hi_ (H1.out.below hb H1.out.lt);replace H2:=hi_ (H2.out.below hb H2.out.lt);replace H3:=hi_ (H3.out.below hb H3.out.lt);replace BW:=hi_ (bthen BW.out hb);clear hb x0 x1 x2 x3 y0 y1;obtain⟨x0,x1,x2,x3⟩:_∧_∧_∧_:=⟨H1.out.cell 0,H1.out.cell 1,H1.out.cell 2,H1.out.cell 3⟩
  obtain⟨y0,y1⟩:_∧_:=⟨H2.out.cell 0,H3.out.cell 0⟩
  simp at x0 x1 x2 x3 y0 y1;have hp1:0≤V*r:=Int.mul_nonneg hV0 (by omega);have hp2:V*r≤1073741824*120:=Int.mul_le_mul (by omega) hr1 (by omega) (by omega);have hp3:0≤m*b:=Int.mul_nonneg hm0 (by omega);have hp4:m*b≤120*1073741824:=Int.mul_le_mul (by omega) hb1 (by omega) (by omega);have hp5:1≤b*r:=by
   have:1*1≤b*r:=Int.mul_le_mul hb0 hr0 (by omega) (by omega)
   omega
  have hp6:b*r≤1073741824*120:=Int.mul_le_mul hb1 hr1 (by omega) (by omega);go_wp2_with fail
  refine(split_any (V*r+m*b) (b*r) _ (by omega) (by omega) hp5 (by omega)).mono ?_;rintro e w2 ⟨q2,m2,hq',hm',⟨hq20,hq21,hm20,hm21⟩,rfl,hb⟩;replace H1:=hi_ (H1.out.below hb H1.out.lt);replace H2:=hi_ (H2.out.below hb H2.out.lt);replace H3:=hi_ (H3.out.below hb H3.out.lt);replace BW:=hi_ (bthen BW.out hb);clear hb x0 x1 x2 x3 y0 y1;obtain⟨x0,x1,x2,x3⟩:_∧_∧_∧_:=⟨H1.out.cell 0,H1.out.cell 1,H1.out.cell 2,H1.out.cell 3⟩
  obtain⟨y0,y1⟩:_∧_:=⟨H2.out.cell 0,H3.out.cell 0⟩
  simp at x0 x1 x2 x3 y0 y1;have F:=hi_ (show tokV B b R r t=W+q+q2 from by rw [FT.out,HW.out,hq.out,hq'.out,HV.out,hm.out]);clear hq hm hq' hm';go_wp2_with fail
  go_ret
  exact⟨ret_int F.out.symm,BW.out⟩
def TokS(B b R r:Int)(f:Cv)(er:Int):Prop:=
 (¬(GOk B b∧GOk R r)∧f=Cv.none∧er=2)∨(GOk B b∧GOk R r∧120<r∧f=Cv.none∧er=3)∨(GOk B b∧GOk R r∧r≤120∧MadeS (tokV B b R r) f er)
theorem tok_bd{B b R r:Int}(hB:GOk B b)(hR:GOk R r){k:Nat}(hk:k≤1000):0≤tokV B b R r k∧tokV B b R r k≤2000000000000:=by
 refine⟨(tok_up hB.2 hB.1.1 hR.2 hR.1.1).nn k,?_⟩
 by_cases h0:k=0
 ·rw [h0,tok_zero];omega
 ·have h1:=tok_le hB.2 hB.1.1 hR.2 hR.1.1 (t:=k) (by omega);have h2:R*((k:Int)-1)≤1073741824*1000:=Int.mul_le_mul hR.1.2.2.2.1 (by omega) (by omega) (by omega);have:=hB.1.2.2.2.1
  omega
theorem small_ne{x:Int}(h:x≤1000000000000000000):x≠inf:=by unfold inf;omega
set_option maxHeartbeats 1000000 in
theorem tokenK_any(B b R r:Int)(w:World) :
 Calls Tryz.prog 17 #[.agg #[.int .i64 B,.int .i64 b,.int .i64 R,.int .i64 r]] w (RetSK (TokS B b R r) w):=by
 have E:=hi_ ((BE.new w B b R r).alloc (.cells #[.slice none 0 0,.int .i64 0,.int .i64 0] 26));have rb:=Blk.new (w.alloc (.cells #[.int .i64 B,.int .i64 b,.int .i64 R,.int .i64 r] 56)) 26 #[.slice none 0 0,.int .i64 0,.int .i64 0];rw [World.size_alloc] at rb;have RB:=hi_ rb;clear rb;go_enter Tryz.func17,Tryz.ntmps17
 obtain⟨f0,f1,f2,f3,hlf⟩:=E.out.cells;go_wp2_with fail
 refine(bvalid_any B b R r _).mono ?_;by_cases hok:GOk B b∧GOk R r
 ·rw [bokB_t hok];rintro e w1 ⟨rfl,hb⟩;replace RB:=hi_ (RB.out.below hb RB.out.lt);have E:=hi_ (E.out.below hb);clear hb;clear f0 f1 f2 f3 hlf;obtain⟨f0,f1,f2,f3,hlf⟩:=E.out.cells;have hB0:=hok.1.2;have hB1:=hok.1.1.2.2.2.1;have hb0:=hok.1.1.1;have hb1:=hok.1.1.2.1;have hR0:=hok.2.2;have hR1:=hok.2.1.2.2.2.1;have hr0:=hok.2.1.1;have hr1:=hok.2.1.2.1;have OK:=hi_ hok;clear hok;by_cases hr:120<r
  ·have F:=hi_ (show TokS B b R r Cv.none 3 from .inr (.inl ⟨OK.out.1,OK.out.2,hr,rfl,rfl⟩));have BW:=hi_ E.out.bw;obtain⟨⟨r0,r1,r2⟩,⟨y0,y1,y2⟩,hlr⟩:=RB.out.c3;go_wp2_with fail
   have rb:=RB.out.store3 (.slice none 0 0) (.int .i64 0) (.int .i64 0)
   exact bodyPost_ret (v:=.tuple #[.agg #[.slice none 0 0,.int .i64 0,.int .i64 0],.int .i64 3]) (by simp [results,Tryz.results17,go_sem,rb.cell]) rfl
    ⟨Cv.none,3,F.out,none,0,0,Nat.le_refl 0,rfl,Ints.none_,(fun b off s h=>by cases h),((BW.out.setCell (by simp) _).setCell (by simp) _).setCell (by simp) _⟩
  ·go_wp2_with fail
   refine(split_any B b _ hB0 (by omega) hb0 (by omega)).mono ?_;rintro e w2 ⟨q,m,hq,hm,_,rfl,hb⟩;replace RB:=hi_ (RB.out.below hb RB.out.lt);have E:=hi_ (E.out.below hb);clear hb;clear f0 f1 f2 f3 hlf;have hs0:=RB.out.lt;replace RB:=hi_ ((RB.out.alloc (.cells #[.int .i64 q] 3)).alloc (.cells #[.int .i64 m] 3));have E:=hi_ ((E.out.alloc (.cells #[.int .i64 q] 3)).alloc (.cells #[.int .i64 m] 3));have Q1:=hi_ ((Blk.new w2 3 #[.int .i64 q]).alloc (.cells #[.int .i64 m] 3));have q2:=Blk.new (w2.alloc (.cells #[.int .i64 q] 3)) 3 #[.int .i64 m];rw [World.size_alloc] at q2;have Q2:=hi_ q2;clear q2;go_upto_region 6 with fail
   generalize hwe:(w2.alloc (.cells #[.int .i64 q] 3)).alloc (.cells #[.int .i64 m] 3)=w3 at *;clear hwe;have hs1:w.heap.size+1<w3.heap.size:=RB.out.lt;obtain⟨f0,f1,f2,f3,hlf⟩:=E.out.cells;go_wp2_with fail
   refine(buildK_any 63 #[.pointer (some ⟨w.heap.size,0,none⟩),.pointer (some ⟨w2.heap.size+1,0,none⟩),.pointer (some ⟨w2.heap.size,0,none⟩)] 1 r R (tokV B b R r) _ (by omega) (by omega) hr0 (by omega) hR0 (by omega)
    (fun k hk=>by have:=tok_bd OK.out.1 OK.out.2 (k:=k) (by omega);omega)
    (fun t w4 ht hb=>token1_any w.heap.size (w2.heap.size+1) w2.heap.size B b R r t w4 (E.out.bb.below hb E.out.bb.lt) (by rw [← hm.out];exact Q2.out.below hb Q2.out.lt) (by rw [← hq.out];exact Q1.out.below hb Q1.out.lt) hB0 hB1 hb0 hb1 hR0 hR1 hr0 (by omega) (by omega)) (fun x w=>by kernel_rfl)).mono ?_
   rintro e w5 ⟨f,er,hS,A5,n5,c5,hc5,rfl,hI5,hA5,hb⟩;have hM:=build_made (h:=tokV B b R r) (s:=1) (p:=r.toNat) (i:=R) (by omega) (fun t u h1 _ h=>absurd h (small_ne (by have:=tok_bd OK.out.1 OK.out.2 (k:=t) (by omega);omega))) (fun _=>tok_per hb0 hr0) hS;have F:=hi_ (show TokS B b R r f er from .inr (.inr ⟨OK.out.1,OK.out.2,by omega,hM⟩));replace RB:=hi_ (RB.out.below hb RB.out.lt);have BW:=hi_ (bthen E.out.bw hb);have HI5:=hi_ hI5;have HA5:=hi_ hA5;clear hS hI5 hA5 hb hM E Q1 Q2 hq hm hs0;have hs0:=hs1;clear f0 f1 f2 f3 hlf;obtain⟨⟨r0,r1,r2⟩,⟨y0,y1,y2⟩,hlr⟩:=RB.out.c3;go_wp2_with fail
   have rb:=RB.out.store3 (.slice A5 n5 c5) (.int .i64 f.per) (.int .i64 f.inc)
   exact bodyPost_ret (v:=.tuple #[.agg #[.slice A5 n5 c5,.int .i64 f.per,.int .i64 f.inc],.int .i64 er]) (by simp [results,Tryz.results17,go_sem,rb.cell]) rfl
    ⟨f,er,F.out,retK_store3' hc5 HA5.out (by omega) hs0 HI5.out BW.out⟩
 ·rw [bokB_f hok];have F:=hi_ (show TokS B b R r Cv.none 2 from .inl ⟨hok,rfl,rfl⟩);clear hok;rintro e w1 ⟨rfl,hb⟩;replace RB:=hi_ (RB.out.below hb RB.out.lt);have BW:=hi_ (bthen E.out.bw hb);clear hb;clear f0 f1 f2 f3 hlf;obtain⟨⟨r0,r1,r2⟩,⟨y0,y1,y2⟩,hlr⟩:=RB.out.c3;go_wp2_with fail
  have rb:=RB.out.store3 (.slice none 0 0) (.int .i64 0) (.int .i64 0)
  exact bodyPost_ret (v:=.tuple #[.agg #[.slice none 0 0,.int .i64 0,.int .i64 0],.int .i64 2]) (by simp [results,Tryz.results17,go_sem,rb.cell]) rfl
   ⟨Cv.none,2,F.out,none,0,0,Nat.le_refl 0,rfl,Ints.none_,(fun b off s h=>by cases h),((BW.out.setCell (by simp) _).setCell (by simp) _).setCell (by simp) _⟩
end
section
open Go.RowKit
theorem ptok_ok{B R r:Int}{f:Cv}{er:Int}(h1:10≤B)(h2:B≤35)(hR:FrS 9 2 R r)(h:TokS B 1 R r f er):er=0∧f.Fin∧f.vals.length≤400∧(∀a b,a≤b→f.at a≤f.at b)∧0≤f.at 0:=by
 obtain⟨hG,hr,hR1⟩:=hR;have hB:GOk B 1:=⟨⟨by omega,by omega,by omega,by omega,by simp⟩,by omega⟩
 have hr0:=hG.1.1;have hR0:=hG.2;have up:=tok_up (B:=B) (b:=1) (R:=R) (r:=r) (by omega) (by omega) hR0 hr0;obtain⟨g,hg,hl,ho⟩:=lim_of up (p:=r.toNat) (i:=R) (by omega) (by omega) (tok_per (by omega) hr0) (fun t ht=>by
  by_cases h0:t=0
  ·rw [h0,tok_zero];omega
  ·have h1:=tok_le (B:=B) (b:=1) (R:=R) (r:=r) (by omega) (by omega) hR0 hr0 (t:=t) (by omega);have h2:R*((t:Int)-1)≤18*120:=Int.mul_le_mul (by omega) (by omega) (by omega) (by omega);omega) (by omega)
 rcases h with ⟨h,_⟩|⟨_,_,h,_⟩|⟨_,_,_,h⟩
 ·exact absurd ⟨hB,hG⟩ h
 ·omega
 ·obtain⟨rfl,rfl⟩:=h.eq hg hl;refine⟨rfl,⟨ho,?_⟩,hl.1,fun a b hab=>ho.up0.le hab,ho.up0.z⟩
  have n1:=ho.n1;have n2:=hl.1;rw [← Cv.at_lt (by omega),hg.at];exact small_ne (by have:=tok_bd hB hG (k:=f.vals.length-1) (by omega);omega)
end
section
open Go.RowKit
def zero7:Array Value:=#[.slice none 0 0,.int .i64 0,.int .i64 0,.slice none 0 0,.int .i64 0,.int .i64 0,.int .i64 0]
def cpA(A:Option Addr)(n c:Nat)(f:Cv)(B:Option Addr)(m d:Nat)(g:Cv)(K:Int):Array Value:=
 #[.slice A n c,.int .i64 f.per,.int .i64 f.inc,.slice B m d,.int .i64 g.per,.int .i64 g.inc,.int .i64 K]
def CvBad(f g:Cv)(er:Int):Prop:=(¬(f.Ok∧g.Ok)∧er=1)∨(f.Ok∧g.Ok∧er=3∧∃a b,NF f.at a∧NF g.at b∧120<comm a.per.toNat b.per.toNat)
theorem CvBad.pair{S:Cv→Cv→Cv→Int→Prop}{f g:Cv}{er:Int}(h:CvBad f g er):PairS S f g Cv.none er:=by
 rcases h with ⟨h,rfl⟩|⟨hf,hg,rfl,a,b,ha,hb,hk⟩
 ·exact .inl ⟨h,rfl,rfl⟩
 ·exact .inr ⟨hf,hg,a,b,ha,hb,.inl ⟨hk,rfl,rfl⟩⟩
theorem CvBad.ne{f g:Cv}{er:Int}(h:CvBad f g er):er≠0:=by
 rcases h with ⟨_,rfl⟩|⟨_,_,rfl,_⟩ <;> decide
def RetCb(f g:Cv)(w:World)(e:Ending)(w':World):Prop:=
 (∃er,CvBad f g er∧e = .returned (.tuple #[.agg zero7,.int .i64 er])∧Below w.heap.size w w')∨
 (f.Ok∧g.Ok∧∃(a b:Cv) (A:Option Addr) (n c:Nat) (B:Option Addr) (m d:Nat),NF f.at a∧NF g.at b∧a.Ok∧b.Ok∧ordC a b≤120∧
  e = .returned (.tuple #[.agg (cpA A n c a B m d b (ordC a b:Nat)),.int .i64 0])∧Ints w' w'.heap.size A n a.vals∧Ints w' w'.heap.size B m b.vals∧(∀b off s,A=some ⟨b,off,s⟩→w.heap.size≤b)∧(∀b off s,B=some ⟨b,off,s⟩→w.heap.size≤b)∧Below w.heap.size w w')
set_option maxHeartbeats 4000000 in
set_option maxRecDepth 100000 in
theorem cvboth_any(A B:Option Addr)(n m c d:Nat)(p i q j:Int)(xs ys:List Int)(w:World)(hA:Ints w w.heap.size A n xs)(hB:Ints w w.heap.size B m ys)(hn:(n:Int)≤1000000)(hm:(m:Int)≤1000000) :
 Calls Tryz.prog 39 #[.agg #[.slice A n c,.int .i64 p,.int .i64 i],.agg #[.slice B m d,.int .i64 q,.int .i64 j]] w (RetCb ⟨xs,p,i⟩ ⟨ys,q,j⟩ w):=by
 have P:=hi_ ((PS.new (c:=c) (p:=p) (i:=i) (d:=d) (q:=q) (j:=j) hA hB).alloc (.cells #[.slice none 0 0,.int .i64 0,.int .i64 0,.slice none 0 0,.int .i64 0,.int .i64 0,.int .i64 0] 91));have rb:=Blk.new ((w.alloc (.cells #[.slice A n c,.int .i64 p,.int .i64 i] 26)).alloc (.cells #[.slice B m d,.int .i64 q,.int .i64 j] 26)) 91 #[.slice none 0 0,.int .i64 0,.int .i64 0,.slice none 0 0,.int .i64 0,.int .i64 0,.int .i64 0];rw [World.size_alloc,World.size_alloc] at rb;have RB:=hi_ rb;clear hA hB rb;go_enter Tryz.func39,Tryz.ntmps39
 obtain⟨f0,f1,f2,g0,g1,g2,hlf,hlg⟩:=P.out.cells;go_wp2_with fail
 refine(normal_any A n c p i xs _ P.out.ia hn).mono ?_;rintro e w1 ⟨a,er,hN,A1,n1,c1,rfl,hI1,hA1,hb1⟩;simp only [World.size_alloc] at hA1;have HN:=hi_ (NormR.of hN);have P:=hi_ (P.out.below hb1);have RB:=hi_ (RB.out.below hb1 RB.out.lt);have HI1:=hi_ hI1;have hs1:=RB.out.lt;clear hN hI1 hb1 f0 f1 f2 g0 g1 g2 hlf hlg;rcases HN.out with ⟨hfo,hnf,hao,rfl⟩|⟨hno,rfl,rfl⟩
 ·have ha1:=hao.n1;have ha2:=hao.n2;have hap:=hao.p1;have hap2:=hao.p2;have hai:=hao.i1;have hai2:=hao.i2;have hapn:=hao.pn;have hl1:a.vals.length=n1:=HI1.out.1;rw [hl1] at ha1 ha2 hapn;have FA:=hi_ (Bx.new (c:=c1) (f:=a) HI1.out hA1 (Nat.le_refl _) (by omega) (by omega));have P:=hi_ (P.out.alloc (.cells #[.slice A1 n1 c1,.int .i64 a.per,.int .i64 a.inc] 26));have RB:=hi_ (RB.out.alloc (.cells #[.slice A1 n1 c1,.int .i64 a.per,.int .i64 a.inc] 26));have HNF:=hi_ hnf;have HFO:=hi_ hfo;have HAO:=hi_ hao;have HL1:=hi_ hl1;clear hnf hfo hao HI1 hA1 HN hl1;obtain⟨f0,f1,f2,g0,g1,g2,hlf,hlg⟩:=P.out.cells;go_wp2_with fail
  refine(normal_any B m d q j ys _ P.out.ib hm).mono ?_;rintro e w2 ⟨b,er,hN,A2,n2,c2,rfl,hI2,hA2,hb2⟩;simp only [World.size_alloc] at hA2;have HN:=hi_ (NormR.of hN);have RB:=hi_ (RB.out.below hb2 RB.out.lt);have FA:=hi_ (FA.out.below hb2);have BW:=hi_ (bthen P.out.bw hb2);have HI2:=hi_ hI2;have hs2:=RB.out.lt;have hs3:=FA.out.lt;clear hN hI2 hb2 P f0 f1 f2 g0 g1 g2 hlf hlg;rcases HN.out with ⟨hgo,hnf,hbo,rfl⟩|⟨hno,rfl,rfl⟩
  ·have hb1:=hbo.n1;have hb2:=hbo.n2;have hbp:=hbo.p1;have hbp2:=hbo.p2;have hbi:=hbo.i1;have hbi2:=hbo.i2;have hbpn:=hbo.pn;have hl2:b.vals.length=n2:=HI2.out.1;rw [hl2] at hb1 hb2 hbpn;have FB:=hi_ (Bx.new (L:=w.heap.size+1+1+1) (c:=c2) (f:=b) HI2.out hA2 (by omega) (by omega) (by omega));have FA:=hi_ (FA.out.alloc (.cells #[.slice A2 n2 c2,.int .i64 b.per,.int .i64 b.inc] 26));have RB:=hi_ (RB.out.alloc (.cells #[.slice A2 n2 c2,.int .i64 b.per,.int .i64 b.inc] 26));have BW:=hi_ (bthen BW.out (balloc _ (.cells #[.slice A2 n2 c2,.int .i64 b.per,.int .i64 b.inc] 26)));have HNG:=hi_ hnf;have HGO:=hi_ hgo;have HBO:=hi_ hbo;have HL2:=hi_ hl2;clear hnf hgo hbo HI2 hA2 HN hl2;obtain⟨C,hC⟩:∃C,C=comm a.per.toNat b.per.toNat:=⟨_,rfl⟩
   have HC:=hi_ hC;clear hC;go_upto_region 7 with fail
   generalize hwe:w2.alloc (.cells #[.slice A2 n2 c2,.int .i64 b.per,.int .i64 b.inc] 26)=w3 at *;clear hwe;go_cut [9] (fun s9 wx=>∃P:Nat,s9 = .pointer (some ⟨P,0,none⟩)∧w2.heap.size<P∧Blk wx P 91 #[.slice A1 n1 c1,.int .i64 a.per,.int .i64 a.inc,.slice A2 n2 c2,.int .i64 b.per,.int .i64 b.inc,.int .i64 C]∧Bx (w.heap.size+1+1+1) wx w1.heap.size A1 n1 c1 a∧Bx (w.heap.size+1+1+1) wx w2.heap.size A2 n2 c2 b∧Blk wx (w.heap.size+1+1) 91 #[.slice none 0 0,.int .i64 0,.int .i64 0,.slice none 0 0,.int .i64 0,.int .i64 0,.int .i64 0]∧Below w.heap.size w wx)
   case first=>
    have FA:=hi_ FA.out.drew;have FB:=hi_ FB.out.drew;have RB:=hi_ (Blk.drew RB.out);have BW:=hi_ (Below.drew BW.out);obtain⟨a0,a1,a2,hla⟩:=FA.out.cells;obtain⟨b0,b1,b2,hlb⟩:=FB.out.cells;refine wp_region_held_drew (S:=(fun w'=>w'.cell? ⟨w1.heap.size,0,none⟩=some (.slice A1 n1 c1)∧w'.cell? ⟨w1.heap.size,1,none⟩=some (.int .i64 a.per)∧w'.cell? ⟨w1.heap.size,2,none⟩=some (.int .i64 a.inc)∧w'.cell? ⟨w2.heap.size,0,none⟩=some (.slice A2 n2 c2)∧w'.cell? ⟨w2.heap.size,1,none⟩=some (.int .i64 b.per)∧w'.cell? ⟨w2.heap.size,2,none⟩=some (.int .i64 b.inc))) (by kernel_rfl) ⟨a0,a1,a2,b0,b1,b2⟩ (fun hHeld=>?_);generalize hwd:w3.drew=wd at *;clear hwd;refine tkO [0,1,2,3,4,5] ?_;(iterate 6 refine tkI ?_);refine tkX ?_;refine rdB 6 8 (fun K hK=>?_) (fun K hK=>?_)
    ·rw [if_pos (by rfl)];go_simp
     refine(common2_any a.per b.per _ (by omega) (by omega) (by omega) (by omega)).mono ?_;rw [← HC.out];rintro e wa ⟨rfl,hbq⟩;have FA:=hi_ (FA.out.below hbq);have FB:=hi_ (FB.out.below hbq);have RB:=hi_ (RB.out.below hbq RB.out.lt);have BW:=hi_ (bthen BW.out hbq)
     try (have ZB:=hi_ (ZB.out.below hbq ZB.out.lt))
     clear hbq hHeld;clear a0 a1 a2 hla b0 b1 b2 hlb;obtain⟨a0,a1,a2,hla⟩:=FA.out.cells;obtain⟨b0,b1,b2,hlb⟩:=FB.out.cells;refine bkS hK (by exact⟨a0,a1,a2,b0,b1,b2⟩) (fun hHeld=>?_);clear hK K;refine tk1 7 ?_;refine rdy2 8 (fun K hK=>?_);go_simp
     have hbq:=balloc wa (.cells #[.slice none 0 0,.int .i64 0,.int .i64 0,.slice none 0 0,.int .i64 0,.int .i64 0,.int .i64 0] 91);have zb:=Blk.new wa 91 #[.slice none 0 0,.int .i64 0,.int .i64 0,.slice none 0 0,.int .i64 0,.int .i64 0,.int .i64 0];have hP:=FB.out.lt;have ZB:=hi_ zb;clear zb;generalize hwa:wa.alloc (.cells #[.slice none 0 0,.int .i64 0,.int .i64 0,.slice none 0 0,.int .i64 0,.int .i64 0,.int .i64 0] 91)=wb at *;clear hwa;have FA:=hi_ (FA.out.below hbq);have FB:=hi_ (FB.out.below hbq);have RB:=hi_ (RB.out.below hbq RB.out.lt);have BW:=hi_ (bthen BW.out hbq);clear hbq hHeld;clear a0 a1 a2 hla b0 b1 b2 hlb;obtain⟨a0,a1,a2,hla⟩:=FA.out.cells;obtain⟨b0,b1,b2,hlb⟩:=FB.out.cells;refine bkS hK (by exact⟨a0,a1,a2,b0,b1,b2⟩) (fun hHeld=>?_);clear hK K;refine rdy1 9 (fun K hK=>?_);refine step_storeN rfl 91 _ _ rfl rfl ZB.out rfl rfl (by kernel_rfl) (by simp [Value.oneCell']) ?_;intro wz hsto rz;have FA:=hi_ (FA.out.sto hsto (.inl (by omega)));have FB:=hi_ (FB.out.sto hsto (.inl (by omega)));have RB:=hi_ (RB.out.sto hsto (by omega));have BW:=hi_ (bsto BW.out hsto (by omega));clear a0 a1 a2 hla b0 b1 b2 hlb;obtain⟨a0,a1,a2,hla⟩:=FA.out.cells;obtain⟨b0,b1,b2,hlb⟩:=FB.out.cells;refine bkS hK (by exact⟨a0,a1,a2,b0,b1,b2⟩) (fun hHeld=>?_);clear hK K;refine dnH ?_;go_wp2_with fail
     go_meet
     exact⟨_,rfl,hP,rz,FA.out,FB.out,RB.out,BW.out⟩
    ·rw [if_pos (by rfl)];go_simp
     have hbq:=balloc wd (.cells #[.slice none 0 0,.int .i64 0,.int .i64 0,.slice none 0 0,.int .i64 0,.int .i64 0,.int .i64 0] 91);have zb:=Blk.new wd 91 #[.slice none 0 0,.int .i64 0,.int .i64 0,.slice none 0 0,.int .i64 0,.int .i64 0,.int .i64 0];have hP:=FB.out.lt;have ZB:=hi_ zb;clear zb;generalize hwa:wd.alloc (.cells #[.slice none 0 0,.int .i64 0,.int .i64 0,.slice none 0 0,.int .i64 0,.int .i64 0,.int .i64 0] 91)=wa at *;clear hwa;have FA:=hi_ (FA.out.below hbq);have FB:=hi_ (FB.out.below hbq);have RB:=hi_ (RB.out.below hbq RB.out.lt);have BW:=hi_ (bthen BW.out hbq);clear hbq hHeld;clear a0 a1 a2 hla b0 b1 b2 hlb;obtain⟨a0,a1,a2,hla⟩:=FA.out.cells;obtain⟨b0,b1,b2,hlb⟩:=FB.out.cells;refine bkS hK (by exact⟨a0,a1,a2,b0,b1,b2⟩) (fun hHeld=>?_);clear hK K;refine rdy2 6 (fun K hK=>?_);go_simp
     refine(common2_any a.per b.per _ (by omega) (by omega) (by omega) (by omega)).mono ?_;rw [← HC.out];rintro e wb ⟨rfl,hbq⟩;have FA:=hi_ (FA.out.below hbq);have FB:=hi_ (FB.out.below hbq);have RB:=hi_ (RB.out.below hbq RB.out.lt);have BW:=hi_ (bthen BW.out hbq)
     try (have ZB:=hi_ (ZB.out.below hbq ZB.out.lt))
     clear hbq hHeld;clear a0 a1 a2 hla b0 b1 b2 hlb;obtain⟨a0,a1,a2,hla⟩:=FA.out.cells;obtain⟨b0,b1,b2,hlb⟩:=FB.out.cells;refine bkS hK (by exact⟨a0,a1,a2,b0,b1,b2⟩) (fun hHeld=>?_);clear hK K;refine tk1 7 ?_;refine rdy1 9 (fun K hK=>?_);refine step_storeN rfl 91 _ _ rfl rfl ZB.out rfl rfl (by kernel_rfl) (by simp [Value.oneCell']) ?_;intro wz hsto rz;have FA:=hi_ (FA.out.sto hsto (.inl (by omega)));have FB:=hi_ (FB.out.sto hsto (.inl (by omega)));have RB:=hi_ (RB.out.sto hsto (by omega));have BW:=hi_ (bsto BW.out hsto (by omega));clear a0 a1 a2 hla b0 b1 b2 hlb;obtain⟨a0,a1,a2,hla⟩:=FA.out.cells;obtain⟨b0,b1,b2,hlb⟩:=FB.out.cells;refine bkS hK (by exact⟨a0,a1,a2,b0,b1,b2⟩) (fun hHeld=>?_);clear hK K;refine dnH ?_;go_wp2_with fail
     go_meet
     exact⟨_,rfl,hP,rz,FA.out,FB.out,RB.out,BW.out⟩
   case rest=>
    as_aux_lemma=>
    clear FA FB RB BW;obtain⟨P,rfl,hP,pb,fa,fb,rb,bw⟩:=hcut;have PB:=hi_ pb;have FA:=hi_ fa;have FB:=hi_ fb;have RB:=hi_ rb;have BW:=hi_ bw;clear pb fa fb rb bw;obtain⟨p6,hlp⟩:_∧_:=⟨PB.out.cell 6,PB.out.lt⟩
    simp at p6;have hrl:=RB.out.lt;by_cases hcc:120<C
    ·have F:=hi_ (show CvBad ⟨xs,p,i⟩ ⟨ys,q,j⟩ 3 from .inr ⟨HFO.out,HGO.out,rfl,a,b,HNF.out,HNG.out,by rw [← HC.out];exact hcc⟩);have hci:(120:Int)<(C:Int):=by omega
     clear hcc;go_wp2_with (refine wpList_storeN rfl 91 _ _ rfl rfl RB.out rfl rfl (by kernel_rfl) (by simp [Value.oneCell']) ?_;intro wz hsto rz)
     exact bodyPost_ret (v:=.tuple #[.agg zero7,.int .i64 3]) (by simp [results,Tryz.results39,go_sem,rz.cell,zero7]) rfl (.inl ⟨_,F.out,rfl,bsto BW.out hsto (by omega)⟩)
    ·have hci:¬(120:Int)<(C:Int):=by omega
     have HCC:=hi_ hcc;clear hcc;go_upto_region 10 with fail
     refine wp_region_lit ?_;refine wpList_load_row rfl 91 _ rfl P rfl 91 #[.slice A1 n1 c1,.int .i64 a.per,.int .i64 a.inc,.slice A2 n2 c2,.int .i64 b.per,.int .i64 b.inc,.int .i64 C] (0,0) _ PB.out Tryz.underlying91 rfl (by kernel_rfl) ?_;refine wpList_storeN rfl 91 _ _ rfl rfl RB.out rfl rfl (by kernel_rfl) (by simp [Value.oneCell']) ?_;intro wz hsto rz;have FA:=hi_ (FA.out.sto hsto (.inr (by omega)));have FB:=hi_ (FB.out.sto hsto (.inr (by omega)));have bw:=bsto BW.out hsto (by omega)
     (try simp only [Act.put]);(try simp only [g8b]);(try simp only [g8c]);(try simp only [g8d])
     go_wp2_with fail
     have hCo:C=ordC a b:=HC.out
     exact bodyPost_ret (v:=.tuple #[.agg (cpA A1 n1 c1 a A2 n2 c2 b (ordC a b:Nat)),.int .i64 0]) (by simp [results,Tryz.results39,go_sem,rz.cell,cpA,hCo]) rfl
      (.inr ⟨HFO.out,HGO.out,a,b,A1,n1,c1,A2,n2,c2,HNF.out,HNG.out,HAO.out,HBO.out,by rw [← hCo];have:=HCC.out;omega,rfl,FA.out.ints,FB.out.ints,fun b' off s e=>by have:=(FA.out.ap b' off s e).1;omega,fun b' off s e=>by have:=(FB.out.ap b' off s e).1;omega,bw⟩)
  ·have F:=hi_ (show CvBad ⟨xs,p,i⟩ ⟨ys,q,j⟩ 1 from .inl ⟨fun h=>hno h.2,rfl⟩);have RB:=hi_ (RB.out.alloc (.cells #[.slice A2 n2 c2,.int .i64 Cv.none.per,.int .i64 Cv.none.inc] 26));have BW:=hi_ (bthen BW.out (balloc _ (.cells #[.slice A2 n2 c2,.int .i64 Cv.none.per,.int .i64 Cv.none.inc] 26)));clear hno HN;go_wp2_with (refine wpList_storeN rfl 91 _ _ rfl rfl RB.out rfl rfl (by kernel_rfl) (by simp [Value.oneCell']) ?_;intro wz hsto rz)
   exact bodyPost_ret (v:=.tuple #[.agg zero7,.int .i64 1]) (by simp [results,Tryz.results39,go_sem,rz.cell,zero7]) rfl (.inl ⟨_,F.out,rfl,bsto BW.out hsto (by omega)⟩)
 ·have F:=hi_ (show CvBad ⟨xs,p,i⟩ ⟨ys,q,j⟩ 1 from .inl ⟨fun h=>hno h.1,rfl⟩);have RB:=hi_ (RB.out.alloc (.cells #[.slice A1 n1 c1,.int .i64 Cv.none.per,.int .i64 Cv.none.inc] 26));have BW:=hi_ (bthen P.out.bw (balloc _ (.cells #[.slice A1 n1 c1,.int .i64 Cv.none.per,.int .i64 Cv.none.inc] 26)));clear hno HN;go_wp2_with (refine wpList_storeN rfl 91 _ _ rfl rfl RB.out rfl rfl (by kernel_rfl) (by simp [Value.oneCell']) ?_;intro wz hsto rz)
  exact bodyPost_ret (v:=.tuple #[.agg zero7,.int .i64 1]) (by simp [results,Tryz.results39,go_sem,rz.cell,zero7]) rfl (.inl ⟨_,F.out,rfl,bsto BW.out hsto (by omega)⟩)
end
section
open Go.RowKit
def RetLs(a b:Cv)(lo t:Nat)(w:World)(e:Ending)(w':World):Prop:=∃v,CvI a b lo t (t+1) v∧0≤v∧v≤4611686018427387904∧e = .returned (.int .i64 v)∧Below w.heap.size w w'
theorem CvI.bd{a b:Cv}(ha:a.Ok)(hb:b.Ok){lo t S:Nat}{v:Int}(ht:t≤2000)(h:CvI a b lo t S v):0≤v∧v≤4611686018427387904:=by
 rcases h with ⟨_,rfl⟩|⟨⟨s,_,_,h3,rfl⟩,_⟩
 ·unfold inf;omega
 ·have:=csp_bd ha hb ht h3;omega
set_option maxHeartbeats 1000000 in
theorem cvleast_any(q1 q2 N:Nat)(a b:Cv)(t lo:Nat)(w:World)(hA:RowI w q1 (tab a.at 0 N))(hB:RowI w q2 (tab b.at 0 N))(ha:a.Ok)(hb:b.Ok)(ht:t<N)(hN:N≤2000)(hlo:lo≤t) :
 Calls Tryz.prog 97 #[.slice (some ⟨q1,0,none⟩) N N,.slice (some ⟨q2,0,none⟩) N N,.int .i64 t,.int .i64 lo,.int .i64 t] w (RetLs a b lo t w):=by
 have T1:=hi_ hA;have T2:=hi_ hB;have HA:=hi_ ha;have HB:=hi_ hb;have BW:=hi_ (Below.refl w.heap.size w);clear hA hB ha hb;go_enter Tryz.func97,Tryz.ntmps97
 go_wp2_with fail
 go_loopg [12,11] (t+1-lo) (fun gg s12 s11 wx=>∃(S:Nat) (v:Int),lo≤S∧S+gg=t+1∧s12 = .int .i64 S∧s11 = .int .i64 v∧CvI a b lo t S v∧RowI wx q1 (tab a.at 0 N)∧RowI wx q2 (tab b.at 0 N)∧Below w.heap.size w wx)
 case atStart=>exact⟨lo,inf,Nat.le_refl _,by omega,rfl,rfl,CvI.zero a b lo t,T1.out,T2.out,BW.out⟩
 case round=>
  clear T1 T2 BW;obtain⟨S,v,hS,hgg,rfl,rfl,hI,h1,h2,h3⟩:=hrel;have T1:=hi_ h1;have T2:=hi_ h2;have BW:=hi_ h3;have HI:=hi_ hI;clear h1 h2 h3 hI;by_cases hk:S≤t
  ·have hki:(S:Int)≤t:=by omega
   obtain⟨u,hu⟩:∃u,u=t-S:=⟨_,rfl⟩
   have e1:IntKind.i64.wrap ((t:Int)-(S:Int))=(u:Int):=by rw [IntWalk.i64_in _ (by omega)];omega
   have hSN:S<N:=by omega
   have huN:u<N:=by omega
   have hSNi:(S:Int)<N:=by omega
   have huNi:(u:Int)<N:=by omega
   have hs0:0≤(S:Int):=by omega
   have hu0:0≤(u:Int):=by omega
   have c1:=T1.out.cell S (by rw [tab_length];exact hSN);have c2:=T2.out.cell u (by rw [tab_length];exact huN);rw [tab_nth _ _ _ _ hSN,Nat.zero_add] at c1;rw [tab_nth _ _ _ _ huN,Nat.zero_add] at c2;obtain⟨x,hx⟩:∃x,x=a.at S:=⟨_,rfl⟩
   obtain⟨y,hy⟩:∃y,y=b.at u:=⟨_,rfl⟩
   rw [← hx] at c1;rw [← hy] at c2;have bx:=HA.out.at_bd (n:=S) (by omega);have by':=HB.out.at_bd (n:=u) (by omega)
   rw [← hx] at bx;rw [← hy] at by'
   have hl1:=T1.out.lt;have hl2:=T2.out.lt;have HU:=hi_ hu;have HX:=hi_ hx;have HY:=hi_ hy;clear hu hx hy;by_cases ix:x=inf
   ·have NI:=hi_ (HI.out.skip (fun h=>h.2.1 (bx.2.2 ix)));unfold inf at ix;have dx:(x != 4611686018427387904)=false:=by simpa using ix
    clear bx by' ix
    go_wp2_with fail
    go_quiet (fail)
    go_wp2_with fail
    go_roundg (gk-1)
    case measure=>omega
    case rel=>exact⟨S+1,v,by omega,by omega,by go_num,rfl,NI.out,T1.out,T2.out,bdrewN BW.out⟩
   ·have dx:(x != 4611686018427387904)=true:=by unfold inf at ix;simpa using ix
    by_cases iy:y=inf
    ·have NI:=hi_ (HI.out.skip (fun h=>h.2.2 (by rw [← HU.out];exact by'.2.2 iy)));unfold inf at iy;have dy:(y != 4611686018427387904)=false:=by simpa using iy
     clear bx by' ix iy
     go_wp2_with fail
     go_quiet (fail)
     go_wp2_with fail
     go_roundg (gk-1)
     case measure=>omega
     case rel=>exact⟨S+1,v,by omega,by omega,by go_num,rfl,NI.out,T1.out,T2.out,bdrewN BW.out⟩
    ·have dy:(y != 4611686018427387904)=true:=by unfold inf at iy;simpa using iy
     have HC:=hi_ (show CSp a b t S from⟨by omega,fun h=>ix (by rw [HX.out];exact h.2),fun h=>iy (by rw [HY.out,HU.out];exact h.2)⟩);have bd:=csp_bd HA.out HB.out (show t≤2000 by omega) HC.out;rw [← HU.out,← HX.out,← HY.out] at bd;have vb:=HI.out.bd HA.out HB.out (by omega);have bx0:=bx.1;have by0:=by'.1
     have bd1:=bd.1;have bd2:=bd.2;have e2:IntKind.i64.wrap (x+y)=x+y:=IntWalk.i64_in _ (by omega);obtain⟨z,hz⟩:∃z,z=x+y:=⟨_,rfl⟩
     rw [← hz] at e2 bd1 bd2;have HZ:=hi_ hz;have e3:x+y=z:=hz.symm;clear bx by' bd ix iy hz
     by_cases hlt:z<v
     ·have NI:=hi_ (HI.out.more hS HC.out (.inr (by rw [← HU.out,← HX.out,← HY.out];omega)));rw [← HU.out,← HX.out,← HY.out,← HZ.out] at NI;clear vb;go_wp2_with fail
      go_quiet (fail)
      go_wp2_with fail
      go_roundg (gk-1)
      case measure=>omega
      case rel=>exact⟨S+1,z,by omega,by omega,by go_num,rfl,NI.out,T1.out,T2.out,bdrewN BW.out⟩
     ·have NI:=hi_ (HI.out.keep (by rw [← HU.out,← HX.out,← HY.out];omega) (by rw [← HU.out,← HX.out,← HY.out];unfold inf;omega));clear vb;go_wp2_with fail
      go_quiet (fail)
      go_wp2_with fail
      go_roundg (gk-1)
      case measure=>omega
      case rel=>exact⟨S+1,v,by omega,by omega,by go_num,rfl,NI.out,T1.out,T2.out,bdrewN BW.out⟩
  ·have hki:¬(S:Int)≤t:=by omega
   obtain rfl:S=t+1:=by omega
   have bd:=HI.out.bd HA.out HB.out (by omega);have BD:=hi_ bd;clear bd;go_wp2_with fail
   go_ret
   exact⟨v,HI.out,BD.out.1,BD.out.2,rfl,BW.out⟩
end
end Go.Proofs.YtaejfleahamapaaGreat
