/- Lines of any kind with two classes: their check, runs and delays. -/
import Derived.Test.YtaejfleahamapaaGreatPp35
import Derived.Test.YtaejfleahamapaaGreatPp36
import Derived.Test.YtaejfleahamapaaGreatPp32
import Derived.Test.YtaejfleahamapaaGreatPp27
namespace Go.Proofs.YtaejfleahamapaaGreat
set_option linter.unusedVariables false
set_option linter.unusedSimpArgs false
section
open Go.RowKit
theorem RetRn.imp{n cls ticks:Nat}{P Q:List Int→List (List Int)→Prop}{w w':World}{e:Ending}(h:RetRn n cls ticks P w e w')(i:∀d s,P d s→Q d s):RetRn n cls ticks Q w e w':=by
 obtain⟨done,sent,gD,gS,gcs,hP,r⟩:=h;exact⟨done,sent,gD,gS,gcs,i _ _ hP,r⟩
theorem RetS.imp{S T:Cv→Int→Prop}{w w':World}{e:Ending}(h:RetS S w e w')(i:∀f er,S f er→T f er):RetS T w e w':=by
 obtain⟨f,er,hS,r⟩:=h;exact⟨f,er,i _ _ hS,r⟩
theorem RetDl.imp{S T:Bool→Int→Int→Int→Prop}{w w':World}{e:Ending}(h:RetDl S w e w')(k:∀i v A er,S i v A er→T i v A er):RetDl T w e w':=by
 obtain⟨i,v,A,er,hS,r⟩:=h;exact⟨i,v,A,er,k _ _ _ _ hS,r⟩
def RunK(k cap:Int)(ws tb:List Int)(ps:List PK)(ticks:Nat)(done:List Int)(sent:List (List Int)):Prop:=
 (k=1∧RunOf cap 2 ps ticks (FiC ps) () done sent)∨(k=2∧RunOf cap 2 ps ticks (PrC 2 ps) () done sent)∨(k=3∧RunOf cap 2 ps ticks (RrC ws ps) (0,nth ws 0) done sent)∨(k=4∧RunOf cap 2 ps ticks (DrC ws ps) ([0,0],0,false) done sent)∨(k=5∧RunOf cap 2 ps ticks (SlC cap tb ps) () done sent)
def CvK(k cap:Int)(ws tb:List Int)(cl:Nat)(fs:List Cv)(zs:List SZ)(f:Cv)(er:Int):Prop:=
 (k=2∧PrS cap cl fs zs f er)∨(k=3∧SvS (RrP cap (nth ws cl*loOf zs cl) (othR cl ws zs 2)) f er)∨(k=4∧SvS (DrP cap (nth ws cl) (hiOf zs cl) (othX cl ws zs 2) (othZ cl zs 2)) f er)∨(k=5∧SvS (SlPr cap (max 0 (hiOf zs cl-1)) tb cl) f er)
structure Z2(zs:List SZ):Prop where
 len:zs.length=2
 g:∀x∈zs,x.Good
 b:∀j,j<2→0≤hiOf zs j∧hiOf zs j≤20∧(hiOf zs j<1∨2≤hiOf zs j)
section
variable{zs:List SZ}{a b:Int}{c:Nat}
theorem othR_bd(h:Z2 zs)(a0:0≤a)(a1:a≤40)(b0:0≤b)(b1:b≤40):0≤othR c [a,b] zs 2∧othR c [a,b] zs 2≤2000:=by
 have z0:=h.b 0 (by omega);have z1:=h.b 1 (by omega);have p0:=Int.mul_nonneg a0 z0.1;have p1:=Int.mul_nonneg b0 z1.1;have q0:a*hiOf zs 0≤40*20:=Int.mul_le_mul a1 z0.2.1 z0.1 (by omega);have q1:b*hiOf zs 1≤40*20:=Int.mul_le_mul b1 z1.2.1 z1.1 (by omega);show 0≤(0+(if(0:Nat)=c then 0 else a*hiOf zs 0))+(if(1:Nat)=c then 0 else b*hiOf zs 1)∧(0+(if(0:Nat)=c then 0 else a*hiOf zs 0))+(if(1:Nat)=c then 0 else b*hiOf zs 1)≤2000
 split <;> split <;> omega
theorem othX_bd(h:Z2 zs)(a0:0≤a)(a1:a≤40)(b0:0≤b)(b1:b≤40):(0≤othX c [a,b] zs 2∧othX c [a,b] zs 2≤2000)∧0≤othZ c zs 2∧othZ c zs 2≤2000:=by
 have z0:=h.b 0 (by omega);have z1:=h.b 1 (by omega);constructor
 ·show 0≤(0+(if(0:Nat)=c∨hiOf zs 0<1 then 0 else a))+(if(1:Nat)=c∨hiOf zs 1<1 then 0 else b)∧(0+(if(0:Nat)=c∨hiOf zs 0<1 then 0 else a))+(if(1:Nat)=c∨hiOf zs 1<1 then 0 else b)≤2000
  split <;> split <;> omega
 ·show 0≤(0+(if(0:Nat)=c∨hiOf zs 0<1 then 0 else hiOf zs 0-1))+(if(1:Nat)=c∨hiOf zs 1<1 then 0 else hiOf zs 1-1)∧(0+(if(0:Nat)=c∨hiOf zs 0<1 then 0 else hiOf zs 0-1))+(if(1:Nat)=c∨hiOf zs 1<1 then 0 else hiOf zs 1-1)≤2000
  split <;> split <;> omega
end
section
variable{w:World}{B:Nat}{k cap:Int}{AW AS:Option Addr}{nW cW nS cS:Nat}{ws tb:List Int}
theorem two_bd{m a b:Int}(ha:1≤a∧a≤m)(hb:1≤b∧b≤m):∀k,k<2→1≤nth [a,b] k∧nth [a,b] k≤m:=by
 intro k hk;rcases (show k=0∨k=1 by omega) with rfl|rfl
 ·exact ha
 ·exact hb
theorem four_bd{q:Int}(h1:0≤q)(h2:q<2):∀k,k<4→0≤nth [0,0,1,q] k∧nth [0,0,1,q] k≤1:=by
 intro k hk;rcases (show k=0∨k=1∨k=2∨k=3 by omega) with rfl|rfl|rfl|rfl
 ·show 0≤(0:Int)∧(0:Int)≤1;omega
 ·show 0≤(0:Int)∧(0:Int)≤1;omega
 ·show 0≤(1:Int)∧(1:Int)≤1;omega
 ·show 0≤q∧q≤1;omega
set_option maxRecDepth 100000 in
theorem LnO.chk(h:LnO w B k cap AW AS nW cW nS cS ws tb):ChkOk w #[.int .i64 k,.int .i64 cap,.int .i64 (2:Nat),.slice AW nW cW,.slice AS nS cS]:=by
 intro w' hb;have h':=h.below hb;have hc:=h.c1;refine check_any k cap (2:Nat) AW AS nW cW nS cS w' h.k1.1 h.k1.2 (by omega) (by omega) (by omega) (by omega) (fun w2 hb2=>?_);have h2:=h'.below hb2;rcases five h.k1.1 h.k1.2 with rfl|rfl|rfl|rfl|rfl
 ·obtain⟨rfl,rfl⟩:=h2.h12 (.inl rfl);exact fifochk_any 1 cap (2:Nat) AW AS cW cS w2
 ·obtain⟨rfl,rfl⟩:=h2.h12 (.inr rfl);exact rankschk_any 2 cap (2:Nat) AW AS cW cS w2
 ·obtain⟨rfl,rfl,rfl,⟨a,b,rfl,a1,a2,b1,b2⟩,g,rfl,_,hI⟩:=h2.h3 rfl;exact robinchk_any 3 cap 2 2 cS _ AS [a,b] w2 hI.ints (by omega) (two_bd ⟨by omega,by omega⟩ ⟨by omega,by omega⟩)
 ·obtain⟨rfl,rfl,rfl,⟨a,b,rfl,a1,a2,b1,b2⟩,g,rfl,_,hI⟩:=h2.h4 rfl;exact deficitschk_any 4 cap 2 2 cS _ AS [a,b] w2 hI.ints (by omega) (two_bd ⟨by omega,by omega⟩ ⟨by omega,by omega⟩)
 ·obtain⟨rfl,rfl,rfl,⟨q,rfl,q1,q2⟩,g,rfl,_,hI⟩:=h2.h5 rfl;exact timeschk_any 5 cap 2 4 cW 4 AW _ [0,0,1,q] w2 hI.ints (by omega) (by omega) (by omega) (fun k hk=>by have:=four_bd q1 q2 k hk;omega)
set_option maxRecDepth 100000 in
theorem lrun_any{A:Option Addr}{n c:Nat}{ps:List PK}{ticks:Nat}(h:LnO w B k cap AW AS nW cW nS cS ws tb)(hT:LsT w A n c ps)(hv:Valid ps)(hfl:∀x∈ps,x.fl<(2:Nat))(ht:ticks≤2000) :
 Calls Tryz.prog 22 #[.agg #[.int .i64 k,.int .i64 cap,.int .i64 (2:Nat),.slice AW nW cW,.slice AS nS cS],.slice A n c,.int .i64 ticks] w (RetRn n 2 ticks (RunK k cap ws tb ps ticks) w):=by
 have hc:=h.c1;refine srun_any k cap 2 AW AS nW cW nS cS A n c ticks _ w h.k1.1 h.k1.2 h.chk (fun w2 hb2=>?_);have h2:=h.below hb2;have hT2:=hT.below hb2;rcases five h.k1.1 h.k1.2 with rfl|rfl|rfl|rfl|rfl
 ·exact(fiforun_any 1 cap 2 AW AS nW cW nS cS A n c ps ticks w2 hT2 hv hfl (by omega) (by omega) (by omega) (by omega) ht).mono (fun _ _ r=>r.imp (fun d s hs=>.inl ⟨rfl,hs⟩))
 ·exact(ranksrun_any 2 cap 2 AW AS nW cW nS cS A n c ps ticks w2 hT2 hv hfl (by omega) (by omega) (by omega) (by omega) ht).mono (fun _ _ r=>r.imp (fun d s hs=>.inr (.inl ⟨rfl,hs⟩)))
 ·obtain⟨rfl,rfl,rfl,⟨a,b,rfl,a1,a2,b1,b2⟩,g,rfl,_,hI⟩:=h2.h3 rfl;exact(robinrun_any 3 cap AS 0 cS A n c ps ticks w2 hT2 hv hfl (by omega) (by omega) ht g [a,b] hI rfl (two_bd ⟨by omega,by omega⟩ ⟨by omega,by omega⟩)).mono (fun _ _ r=>r.imp (fun d s hs=>.inr (.inr (.inl ⟨rfl,hs⟩))))
 ·obtain⟨rfl,rfl,rfl,⟨a,b,rfl,a1,a2,b1,b2⟩,g,rfl,_,hI⟩:=h2.h4 rfl;exact(deficitsrun_any 4 cap AS 0 cS A n c ps ticks w2 hT2 hv hfl (by omega) (by omega) ht g [a,b] hI rfl (two_bd ⟨by omega,by omega⟩ ⟨by omega,by omega⟩)).mono (fun _ _ r=>r.imp (fun d s hs=>.inr (.inr (.inr (.inl ⟨rfl,hs⟩)))))
 ·obtain⟨rfl,rfl,rfl,⟨q,rfl,q1,q2⟩,g,rfl,_,hI⟩:=h2.h5 rfl;exact(timesrun_any AW 0 cW cap _ 4 4 A n c ps ticks w2 hT2 hv hfl (by omega) (by omega) ht [0,0,1,q] hI.ints (by omega) (by omega) (fun k hk=>by have:=four_bd q1 q2 k hk;omega)).mono (fun _ _ r=>r.imp (fun d s hs=>.inr (.inr (.inr (.inr ⟨rfl,hs⟩)))))
set_option maxRecDepth 100000 in
theorem lcvm_any{cl g o c q s d:Nat}{xs:List CR}{zs:List SZ}(h:LnO w B k cap AW AS nW cW nS cS ws tb)(h1:k≠1)(hcl:cl<2)(hnc:2≤c)(hnd:2≤d)(hx:xs.length=2)(hrow:RowO w g o xs)(hfin:∀x∈xs,x.f.Fin)(hlen:∀x∈xs,x.n≤1000)(hz:Z2 zs)(hrz:RowZ w q s zs) :
 Calls Tryz.prog (curveF k) #[.agg #[],.agg #[.int .i64 k,.int .i64 cap,.int .i64 (2:Nat),.slice AW nW cW,.slice AS nS cS],.int .i64 cl,.slice (some ⟨g,o,none⟩) 2 c,.slice (some ⟨q,s,none⟩) 2 d] w (RetS (CvK k cap ws tb cl (xs.map CR.f) zs) w):=by
 have hc:=h.c1;have hzl:LsZ w (some ⟨q,s,none⟩) 2 d zs:=⟨hz.len,hnd,by omega,fun _=>⟨q,s,rfl,hrz⟩⟩
 obtain⟨cap,rfl⟩:=Int.eq_ofNat_of_zero_le (show 0≤cap by omega);rcases five h.k1.1 h.k1.2 with rfl|rfl|rfl|rfl|rfl
 ·exact absurd rfl h1
 ·exact(rkcurve_any 2 cap cl g o 2 c q s d AW AS nW cW nS cS xs zs w (by omega) (by omega) hcl (by omega) hnc hnd hx hrow hfin hlen hz.len hrz hz.g).mono (fun _ _ r=>r.imp (fun f e hs=>.inl ⟨rfl,hs⟩))
 ·obtain⟨rfl,rfl,rfl,⟨a,b,rfl,a1,a2,b1,b2⟩,g',rfl,_,hI⟩:=h.h3 rfl;have hb:=othR_bd (c:=cl) hz (a:=a) (b:=b) (by omega) (by omega) (by omega) (by omega);exact(rbcurve_any 3 cap cl 2 2 0 cS 2 c d _ AS (some ⟨g,o,none⟩) (some ⟨q,s,none⟩) [a,b] zs w ⟨hI.ints,hzl,hz.g,two_bd ⟨by omega,by omega⟩ ⟨by omega,by omega⟩⟩ (by omega) (by omega) hcl (by omega) hb.1 (by omega)).mono (fun _ _ r=>r.imp (fun f e hs=>.inr (.inl ⟨rfl,hs⟩)))
 ·obtain⟨rfl,rfl,rfl,⟨a,b,rfl,a1,a2,b1,b2⟩,g',rfl,_,hI⟩:=h.h4 rfl;have hb:=othX_bd (c:=cl) hz (a:=a) (b:=b) (by omega) (by omega) (by omega) (by omega);exact(dfcurve_any 4 cap cl 2 2 0 cS 2 c d _ AS (some ⟨g,o,none⟩) (some ⟨q,s,none⟩) [a,b] zs w ⟨hI.ints,hzl,hz.g,two_bd ⟨by omega,by omega⟩ ⟨by omega,by omega⟩⟩ (by omega) (by omega) hcl (by omega) (hz.b cl hcl).2.2 hb.1.1 (by omega) hb.2.1 (by omega)).mono (fun _ _ r=>r.imp (fun f e hs=>.inr (.inr (.inl ⟨rfl,hs⟩))))
 ·obtain⟨rfl,rfl,rfl,⟨t,rfl,q1,q2⟩,g',rfl,_,hI⟩:=h.h5 rfl;exact(tmcurve_any 5 cap cl 2 0 cW 4 4 2 c d AW _ (some ⟨g,o,none⟩) (some ⟨q,s,none⟩) [0,0,1,t] zs w ⟨hI.ints,by omega,by omega,by omega,fun k hk=>by have:=four_bd q1 q2 k hk;omega,hzl,hz.g⟩ (by omega) (by omega) hcl (by omega)
   (by rcases (show cl=0∨cl=1 by omega) with rfl|rfl
       ·exact⟨0,by omega,rfl⟩
       ·exact⟨2,by omega,rfl⟩)
   (by rcases (show cl=0∨cl=1 by omega) with rfl|rfl
       ·exact⟨2,by omega,by show(1:Int)≠0;omega⟩
       ·exact⟨0,by omega,by show(0:Int)≠1;omega⟩)).mono (fun _ _ r=>r.imp (fun f e hs=>.inr (.inr (.inr ⟨rfl,hs⟩))))
theorem cvk_len{cl:Nat}{fs:List Cv}{zs:List SZ}{f:Cv}{er:Int}(h:CvK k cap ws tb cl fs zs f er):f.vals.length≤400:=by
 rcases h with ⟨_,h⟩|⟨_,h⟩|⟨_,h⟩|⟨_,h⟩
 ·exact pr_len h
 ·exact h.1
 ·exact h.1
 ·exact h.1
def DlK(k cap:Int)(ws tb:List Int)(cl:Nat)(fs:List Cv)(zs:List SZ)(al:Cv)(i:Bool)(v A er:Int):Prop:=
 (k=1∧AllS cap fs i v A er)∨(k≠1∧MsS (CvK k cap ws tb cl fs zs) al i v A er)
set_option maxRecDepth 100000 in
theorem ldelay_any{cl g o c q s d:Nat}{al:CR}{xs:List CR}{zs:List SZ}(h:LnO w B k cap AW AS nW cW nS cS ws tb)(hcl:cl<2)(hnc:2≤c)(hnd:2≤d)(hx:xs.length=2)(hrow:RowO w g o xs)(hfin:∀x∈xs,x.f.Fin)(hlen:∀x∈xs,x.n≤1000)(hz:Z2 zs)(hrz:RowZ w q s zs)(hal:xs[cl]?=some al) :
 Calls Tryz.prog 24 #[.agg #[.int .i64 k,.int .i64 cap,.int .i64 (2:Nat),.slice AW nW cW,.slice AS nS cS],.int .i64 cl,.slice (some ⟨g,o,none⟩) 2 c,.slice (some ⟨q,s,none⟩) 2 d] w (RetDl (DlK k cap ws tb cl (xs.map CR.f) zs al.f) w):=by
 have hc:=h.c1;by_cases h1:k=1
 ·exact(sdelay1_any k cap cl g o 2 c q s d nW cW nS cS AW AS xs zs w (by omega) (by omega) hcl (by omega) hnc hnd hx hrow hfin hlen hz.len hrz hz.g h.chk h1).mono (fun _ _ r=>r.imp (fun i v A er hs=>.inl ⟨h1,hs⟩))
 ·exact(sdelay_any al k cap cl g o 2 c q s d nW cW nS cS AW AS xs zs w (by omega) (by omega) hcl (by omega) hnc hnd hx hrow hfin hlen hz.len hrz hz.g h.chk h.k1.1 h.k1.2 _ (fun w' hb=>lcvm_any (h.below hb) h1 hcl hnc hnd hx (hrow.below hb) hfin hlen hz (hrz.below hb)) (fun f er hs=>cvk_len hs) h1 hal).mono (fun _ _ r=>r.imp (fun i v A er hs=>.inr ⟨h1,hs⟩))
end
end
end Go.Proofs.YtaejfleahamapaaGreat
