/- . -/
import Derived.Test.YtaejfleahamapaaGreatTd45
namespace Go.Proofs.YtaejfleahamapaaGreat
set_option linter.unusedVariables false
set_option linter.unusedSimpArgs false
set_option maxHeartbeats 4000000
set_option maxRecDepth 100000
open Go.RowKit
structure CH(w wx:World)(A:Option Addr)(n c:Nat)(a:Cv)(B:Option Addr)(m d:Nat)(b:Cv)(K:Int)(C:Option Addr)(k s:Nat)(h:Cv):Prop where
 pb:aC wx w.heap.size 91 (bH A n c a B m d b K)
 ia:aE wx w.heap.size A n a.vals
 ib:aE wx w.heap.size B m b.vals
 hb:aC wx (w.heap.size+1) 26 #[.slice C k s,.int .i64 h.per,.int .i64 h.inc]
 ic:aE wx w.heap.size C k h.vals
 bw:Below w.heap.size w wx
section
variable{w wx wy:World}{A B C:Option Addr}{n c m d k s:Nat}{a b h:Cv}{K:Int}
theorem CH.new(hA:aE w w.heap.size A n a.vals)(hB:aE w w.heap.size B m b.vals)(hC:aE w w.heap.size C k h.vals) :
 CH w ((w.alloc (.cells (bH A n c a B m d b K) 91)).alloc (.cells #[.slice C k s,.int .i64 h.per,.int .i64 h.inc] 26)) A n c a B m d b K C k s h:=by
 have rb:=aC.new (w.alloc (.cells (bH A n c a B m d b K) 91)) 26 #[.slice C k s,.int .i64 h.per,.int .i64 h.inc];rw [World.size_alloc] at rb;exact⟨(aC.new _ _ _).alloc _,(hA.alloc (Nat.le_refl _) _).alloc (by simp) _,(hB.alloc (Nat.le_refl _) _).alloc (by simp) _,rb,(hC.alloc (Nat.le_refl _) _).alloc (by simp) _,aD (aF _ _) (aF _ _)⟩
theorem CH.below(h':CH w wx A n c a B m d b K C k s h)(hb:Below wx.heap.size wx wy):CH w wy A n c a B m d b K C k s h:=
 ⟨h'.pb.below hb h'.pb.lt,h'.ia.below (hb.mono h'.bw.size),h'.ib.below (hb.mono h'.bw.size),h'.hb.below hb h'.hb.lt,h'.ic.below (hb.mono h'.bw.size),aD h'.bw hb⟩
theorem CH.alloc(h':CH w wx A n c a B m d b K C k s h)(o:Obj):CH w (wx.alloc o) A n c a B m d b K C k s h:=h'.below (aF wx o)
theorem CH.drew(h':CH w wx A n c a B m d b K C k s h):CH w wx.drew A n c a B m d b K C k s h:=⟨h'.pb,h'.ia,h'.ib,h'.hb,h'.ic,Below.drew h'.bw⟩
theorem CH.ja(h':CH w wx A n c a B m d b K C k s h):aE wx wx.heap.size A n a.vals:=h'.ia.more h'.bw.size
theorem CH.jb(h':CH w wx A n c a B m d b K C k s h):aE wx wx.heap.size B m b.vals:=h'.ib.more h'.bw.size
theorem CH.jc(h':CH w wx A n c a B m d b K C k s h):aE wx wx.heap.size C k h.vals:=h'.ic.more h'.bw.size
theorem CH.cells(h':CH w wx A n c a B m d b K C k s h):(wx.cell? ⟨w.heap.size,0,none⟩=some (.slice A n c)/\wx.cell? ⟨w.heap.size,1,none⟩=some (.int .i64 a.per)/\wx.cell? ⟨w.heap.size,2,none⟩=some (.int .i64 a.inc))/\
 (wx.cell? ⟨w.heap.size,3,none⟩=some (.slice B m d)/\wx.cell? ⟨w.heap.size,4,none⟩=some (.int .i64 b.per)/\wx.cell? ⟨w.heap.size,5,none⟩=some (.int .i64 b.inc))/\wx.cell? ⟨w.heap.size,6,none⟩=some (.int .i64 K)/\
 (wx.cell? ⟨w.heap.size+1,0,none⟩=some (.slice C k s)/\wx.cell? ⟨w.heap.size+1,1,none⟩=some (.int .i64 h.per)/\wx.cell? ⟨w.heap.size+1,2,none⟩=some (.int .i64 h.inc))/\w.heap.size+1<wx.heap.size:=by
 have q:=fun i=>h'.pb.cell i
 have q0:=q 0;have q1:=q 1;have q2:=q 2;have q3:=q 3;have q4:=q 4;have q5:=q 5;have q6:=q 6;have r:=fun i=>h'.hb.cell i
 have r0:=r 0;have r1:=r 1;have r2:=r 2;simp [bH] at q0 q1 q2 q3 q4 q5 q6 r0 r1 r2
 exact⟨⟨q0,q1,q2⟩,⟨q3,q4,q5⟩,q6,⟨r0,r1,r2⟩,h'.hb.lt⟩
end
theorem vT(A B C:Option Addr)(n m k c d s:Nat)(a b h:Cv)(w:World)(hA:aE w w.heap.size A n a.vals)(hB:aE w w.heap.size B m b.vals)(hC:aE w w.heap.size C k h.vals)(ha:a.Ok)(hb:b.Ok)(hh:h.Ok)(hK:aI a b<=120) :
 Calls Tryz.prog 41 #[.agg (bH A n c a B m d b (aI a b:Nat)),.agg #[.slice C k s,.int .i64 h.per,.int .i64 h.inc]] w (fun e w'=>e = .returned (.int .i64 (eA a b h:Nat))/\Below w.heap.size w w'):=by
 have a1:=ha.n1;have a2:=ha.n2;have a3:=ha.p1;have a4:=ha.p2;have a5:=ha.pn;have a6:=ha.i1;have a7:=ha.i2;have b1:=hb.n1;have b2:=hb.n2;have b3:=hb.p1;have b4:=hb.p2;have b5:=hb.pn;have b6:=hb.i1;have b7:=hb.i2;have c1':=hh.n1;have c2':=hh.n2;have c3':=hh.p1;have c4':=hh.p2;have c5':=hh.pn;have c6':=hh.i1;have c7':=hh.i2;have hln:a.vals.length=n:=hA.1;have hlm:b.vals.length=m:=hB.1;have hlk:h.vals.length=k:=hC.1;rw [hln] at a1 a2 a5;rw [hlm] at b1 b2 b5;rw [hlk] at c1' c2' c5';obtain⟨K0,hK0⟩:∃K0:Nat,K0=aI a b:=⟨_,rfl⟩
 obtain⟨KC,hKC⟩:∃KC:Int,KC=(K0:Int):=⟨_,rfl⟩
 obtain⟨X,hX⟩:∃X:Nat,X=eA a b h:=⟨_,rfl⟩
 obtain⟨S,hS⟩:∃S:Nat,S=max (bJ a+bJ b) (bJ h):=⟨_,rfl⟩
 obtain⟨T,hT⟩:∃T:Nat,T=bJ a+bJ b:=⟨_,rfl⟩
 have hSX:(X:Int)=(S:Int)+KC:=by rw [hX,hS,hKC,hK0];unfold eA;omega
 have hTn:(T:Int)=(n:Int)-a.per+((m:Int)-b.per):=by rw [hT];unfold bJ;rw [hln,hlm];omega
 have hS2:S<=800:=by rw [hS];unfold bJ;rw [hln,hlm,hlk];omega
 have hT2:T<=800:=by rw [hT];unfold bJ;rw [hln,hlm];omega
 have hmx:(if(T:Int)<(k:Int)-h.per then (k:Int)-h.per else (T:Int))=(S:Int):=by
  rw [hS,<- hT];unfold bJ;rw [hlk];split <;> omega
 have hKb:0<=KC/\KC<=120:=by omega
 have e1:IntKind.i64.wrap ((S:Int)+KC)=(X:Int):=by rw [IntWalk.i64_in _ (by omega)];omega
 have e2:(S:Int)+KC=(X:Int):=by omega
 have e3:IntKind.i64.wrap (X:Int)=(X:Int):=IntWalk.i64_in _ (by omega);have e4:IntKind.i64.wrap ((n:Int)-a.per+((m:Int)-b.per))=(T:Int):=by rw [IntWalk.i64_in _ (by omega)];omega
 have e5:(n:Int)-a.per+((m:Int)-b.per)=(T:Int):=by omega
 have e6:IntKind.i64.wrap (T:Int)=(T:Int):=IntWalk.i64_in _ (by omega);rw [<- hX,<- hK0,<- hKC];have E:=aA (CH.new (c:=c) (d:=d) (K:=KC) (s:=s) (h:=h) hA hB hC);clear hA hB hC ha hb hh hX hS hT hln hlm hlk hSX hTn hK hK0 hKC;unfold bH at E;unfold bH;go_enter Tryz.func41,Tryz.ntmps41
 go_upto_region 1 with fail
 generalize hwe:(w.alloc (.cells #[.slice A n c,.int .i64 a.per,.int .i64 a.inc,.slice B m d,.int .i64 b.per,.int .i64 b.inc,.int .i64 KC] 91)).alloc (.cells #[.slice C k s,.int .i64 h.per,.int .i64 h.inc] 26)=we at *;clear hwe;have E:Hid (CH w we A n c a B m d b KC C k s h):=E;generalize (Value.agg #[.slice A n c,.int .i64 a.per,.int .i64 a.inc,.slice B m d,.int .i64 b.per,.int .i64 b.inc,.int .i64 KC])=v0;generalize (Value.agg #[.slice C k s,.int .i64 h.per,.int .i64 h.inc])=v1;go_cut [4] (fun s4 wx=>s4 = .int .i64 X/\CH w wx A n c a B m d b KC C k s h)
 case first=>
  have E:=aA E.out.drew;obtain⟨⟨f0,f1,f2⟩,⟨g0,g1,g2⟩,p6,⟨h0,h1,h2⟩,hlh⟩:=E.out.cells;refine wp_region_held_drew (S:=(fun w'=>w'.cell? ⟨w.heap.size,0,none⟩=some (.slice A n c)/\w'.cell? ⟨w.heap.size,1,none⟩=some (.int .i64 a.per)/\w'.cell? ⟨w.heap.size,2,none⟩=some (.int .i64 a.inc)/\w'.cell? ⟨w.heap.size,3,none⟩=some (.slice B m d)/\w'.cell? ⟨w.heap.size,4,none⟩=some (.int .i64 b.per)/\w'.cell? ⟨w.heap.size,5,none⟩=some (.int .i64 b.inc)/\w'.cell? ⟨w.heap.size,6,none⟩=some (.int .i64 KC)/\w'.cell? ⟨w.heap.size+1,0,none⟩=some (.slice C k s)/\w'.cell? ⟨w.heap.size+1,1,none⟩=some (.int .i64 h.per)/\w'.cell? ⟨w.heap.size+1,2,none⟩=some (.int .i64 h.inc))) (by kernel_rfl) (by exact⟨f0,f1,f2,g0,g1,g2,p6,h0,h1,h2⟩) (fun hY=>?_);generalize hwd:we.drew=wd at *;clear hwd;refine aO [0,1,3,4,7,10,11] ?_;(iterate 7 refine aK ?_);refine aP ?_;refine aJ 2 (fun K hK=>?_);go_simp
  refine(dR A n c a.per a.inc _ (by omega) (by omega) (by omega)).mono ?_;rintro e w3 ⟨rfl,hb⟩;replace E:=aA (E.out.below hb);clear hb
  try clear hY
  clear f0 f1 f2 g0 g1 g2 p6 h0 h1 h2 hlh;obtain⟨⟨f0,f1,f2⟩,⟨g0,g1,g2⟩,p6,⟨h0,h1,h2⟩,hlh⟩:=E.out.cells;refine aH hK (by exact⟨f0,f1,f2,g0,g1,g2,p6,h0,h1,h2⟩) (fun hY=>?_);refine aJ 5 (fun K hK=>?_);go_simp
  refine(dR B m d b.per b.inc _ (by omega) (by omega) (by omega)).mono ?_;rintro e w4 ⟨rfl,hb⟩;replace E:=aA (E.out.below hb);clear hb
  try clear hY
  clear f0 f1 f2 g0 g1 g2 p6 h0 h1 h2 hlh;obtain⟨⟨f0,f1,f2⟩,⟨g0,g1,g2⟩,p6,⟨h0,h1,h2⟩,hlh⟩:=E.out.cells;refine aH hK (by exact⟨f0,f1,f2,g0,g1,g2,p6,h0,h1,h2⟩) (fun hY=>?_);refine bD 6 ?_;refine aJ 8 (fun K hK=>?_);go_simp
  refine(dR C k s h.per h.inc _ (by omega) (by omega) (by omega)).mono ?_;rintro e w5 ⟨rfl,hb⟩;replace E:=aA (E.out.below hb);clear hb
  try clear hY
  clear f0 f1 f2 g0 g1 g2 p6 h0 h1 h2 hlh;obtain⟨⟨f0,f1,f2⟩,⟨g0,g1,g2⟩,p6,⟨h0,h1,h2⟩,hlh⟩:=E.out.cells;refine aH hK (by exact⟨f0,f1,f2,g0,g1,g2,p6,h0,h1,h2⟩) (fun hY=>?_);refine aJ 9 (fun K hK=>?_);go_simp
  refine aH hK (by exact⟨f0,f1,f2,g0,g1,g2,p6,h0,h1,h2⟩) (fun hY=>?_);refine aO [12,13] ?_;(iterate 2 refine aK ?_);refine aP ?_;refine aT ?_;go_wp2_with fail
  go_meet
  exact⟨rfl,E.out⟩
 case rest=>
  clear E;obtain⟨rfl,hE⟩:=hcut;have bw:=hE.bw;clear hE;go_wp2_with fail
  go_ret
  exact⟨rfl,bw⟩
theorem vU(A B C:Option Addr)(n m k c d s t u:Nat)(a b h:Cv)(w:World)(hA:aE w w.heap.size A n a.vals)(hB:aE w w.heap.size B m b.vals)(hC:aE w w.heap.size C k h.vals)(ha:a.Ok)(hb:b.Ok)(hh:h.Ok)(hK:aI a b<=120)(hut:u<=t)(ht:t<=4000) :
 Calls Tryz.prog 45 #[.agg (bH A n c a B m d b (aI a b:Nat)),.agg #[.slice C k s,.int .i64 h.per,.int .i64 h.inc],.int .i64 u,.int .i64 t] w (bM (f8 a b h t u) w):=by
 have a1:=ha.n1;have a2:=ha.n2;have a3:=ha.p1;have a4:=ha.p2;have a5:=ha.pn;have a6:=ha.i1;have a7:=ha.i2;have b1:=hb.n1;have b2:=hb.n2;have b3:=hb.p1;have b4:=hb.p2;have b5:=hb.pn;have b6:=hb.i1;have b7:=hb.i2;have c1':=hh.n1;have c2':=hh.n2;have c3':=hh.p1;have c4':=hh.p2;have c5':=hh.pn;have c6':=hh.i1;have c7':=hh.i2;have hln:a.vals.length=n:=hA.1;have hlm:b.vals.length=m:=hB.1;have hlk:h.vals.length=k:=hC.1;rw [hln] at a1 a2 a5;rw [hlm] at b1 b2 b5;rw [hlk] at c1' c2' c5';obtain⟨KC,hKC⟩:∃KC:Int,KC=(aI a b:Nat):=⟨_,rfl⟩
 obtain⟨fa,hfa⟩:∃z,z=(aB a.vals (n-1) != aG):=⟨_,rfl⟩
 obtain⟨fb,hfb⟩:∃z,z=(aB b.vals (m-1) != aG):=⟨_,rfl⟩
 have LA:=aA (show fa=true↔a.Fin from by rw [hfa,bne_iff_ne,<- hln];exact⟨fun h=>⟨ha,h⟩,fun h=>h.2⟩);have LB:=aA (show fb=true↔b.Fin from by rw [hfb,bne_iff_ne,<- hlm];exact⟨fun h=>⟨hb,h⟩,fun h=>h.2⟩);obtain⟨ga,hga⟩:∃z,z=((KC.toNat / a.per.toNat:Nat):Int)*a.inc:=⟨_,rfl⟩
 obtain⟨gb,hgb⟩:∃z,z=((KC.toNat / b.per.toNat:Nat):Int)*b.inc:=⟨_,rfl⟩
 obtain⟨gl,hgl⟩:∃z,z=((KC.toNat / h.per.toNat:Nat):Int)*h.inc:=⟨_,rfl⟩
 have HA1:=aA (show ga=bR a b from by rw [hga,hKC];rfl);have HB1:=aA (show gb=cH a b from by rw [hgb,hKC];rfl);have HL1:=aA (show gl=kS h (aI a b) from by rw [hgl,hKC];rfl);have SA:=aA (show(bJ a:Int)=(n:Int)-a.per from by unfold bJ;rw [hln];omega);have SB:=aA (show(bJ b:Int)=(m:Int)-b.per from by unfold bJ;rw [hlm];omega);have hKb:0<=KC/\KC<=120:=by omega
 obtain⟨hKb1,hKb2⟩:=hKb;have HFA:=aA hfa;have HFB:=aA hfb;have HGA:=aA hga;have HGB:=aA hgb;have HGL:=aA hgl;rw [<- hKC];have E:=aA (CH.new (c:=c) (d:=d) (K:=KC) (s:=s) (h:=h) hA hB hC);clear hA hB hC ha hb hh hln hlm hlk hK hKC hfa hfb hga hgb hgl;unfold bH at E;unfold bH;go_enter Tryz.func45,Tryz.ntmps45
 go_upto_region 1 with fail
 generalize hwe:(w.alloc (.cells #[.slice A n c,.int .i64 a.per,.int .i64 a.inc,.slice B m d,.int .i64 b.per,.int .i64 b.inc,.int .i64 KC] 91)).alloc (.cells #[.slice C k s,.int .i64 h.per,.int .i64 h.inc] 26)=we at *;clear hwe;have E:Hid (CH w we A n c a B m d b KC C k s h):=E;generalize (Value.agg #[.slice A n c,.int .i64 a.per,.int .i64 a.inc,.slice B m d,.int .i64 b.per,.int .i64 b.inc,.int .i64 KC])=v0;generalize (Value.agg #[.slice C k s,.int .i64 h.per,.int .i64 h.inc])=v1;obtain⟨⟨f0,f1,f2⟩,⟨g0,g1,g2⟩,p6,⟨h0,h1,h2⟩,hlh⟩:=E.out.cells;go_wp2_with fail
 refine(fI C k s h.per h.inc KC _ (by omega) (by omega) (by omega) (by omega) (by omega)).mono ?_;rw [<- HGL.out];rintro e w1 ⟨rfl,hb⟩;replace E:=aA (E.out.below hb);clear hb
 try clear hY
 clear f0 f1 f2 g0 g1 g2 p6 h0 h1 h2 hlh;obtain⟨⟨f0,f1,f2⟩,⟨g0,g1,g2⟩,p6,⟨h0,h1,h2⟩,hlh⟩:=E.out.cells;go_wp2_with fail
 refine(gN A n c a.per a.inc a.vals _ (by exact E.out.ja) (by omega) (by omega)).mono ?_;rw [<- HFA.out];rintro e w2 ⟨rfl,hb⟩;replace E:=aA (E.out.below hb);clear hb
 try clear hY
 clear f0 f1 f2 g0 g1 g2 p6 h0 h1 h2 hlh;obtain⟨⟨f0,f1,f2⟩,⟨g0,g1,g2⟩,p6,⟨h0,h1,h2⟩,hlh⟩:=E.out.cells;cases fa
 case false=>
  have N1:=aA (show ¬(a.Fin/\bR a b=kS h (aI a b)/\bJ a<=u) from fun hr=>by have:=LA.out.2 hr.1;cases this);clear f0 f1 f2 p6 h0 h1 h2 g0 g1 g2 hlh;obtain⟨⟨f0,f1,f2⟩,⟨g0,g1,g2⟩,p6,⟨h0,h1,h2⟩,hlh⟩:=E.out.cells;go_wp2_with fail
  refine(gN B m d b.per b.inc b.vals _ (by exact E.out.jb) (by omega) (by omega)).mono ?_;rw [<- HFB.out];rintro e wb ⟨rfl,hb⟩;replace E:=aA (E.out.below hb);clear hb
  try clear hY
  clear f0 f1 f2 g0 g1 g2 p6 h0 h1 h2 hlh;obtain⟨⟨f0,f1,f2⟩,⟨g0,g1,g2⟩,p6,⟨h0,h1,h2⟩,hlh⟩:=E.out.cells;cases fb
  case false=>
   have FIN:=aA (show ¬f8 a b h t u from fun hr=>hr.elim N1.out (fun hr=>by have:=LB.out.2 hr.1;cases this));have bw:=E.out.bw;go_wp2_with fail
   go_ret
   exact bM.no FIN.out bw
  case true=>
   go_wp2_with fail
   refine(fI B m d b.per b.inc KC _ (by omega) (by omega) (by omega) (by omega) (by omega)).mono ?_;rw [<- HGB.out];rintro e wc ⟨rfl,hb⟩;replace E:=aA (E.out.below hb);clear hb
   try clear hY
   clear f0 f1 f2 g0 g1 g2 p6 h0 h1 h2 hlh;obtain⟨⟨f0,f1,f2⟩,⟨g0,g1,g2⟩,p6,⟨h0,h1,h2⟩,hlh⟩:=E.out.cells;by_cases q1:gb=gl
   case neg=>
    have d1:(gb == gl)=false:=by simpa using q1
    have Q1:=aA q1;clear q1;have FIN:=aA (show ¬f8 a b h t u from fun hr=>hr.elim N1.out (fun hr=>Q1.out (by rw [HB1.out,HL1.out];exact hr.2.1)));have bw:=E.out.bw;go_wp2_with fail
    go_ret
    exact bM.no FIN.out bw
   case pos=>
    have d1:(gb == gl)=true:=by simpa using q1
    have Q1:=aA q1;clear q1;go_wp2_with fail
    refine(dR B m d b.per b.inc _ (by omega) (by omega) (by omega)).mono ?_;rintro e wd ⟨rfl,hb⟩;replace E:=aA (E.out.below hb);clear hb
    try clear hY
    clear f0 f1 f2 g0 g1 g2 p6 h0 h1 h2 hlh;obtain⟨⟨f0,f1,f2⟩,⟨g0,g1,g2⟩,p6,⟨h0,h1,h2⟩,hlh⟩:=E.out.cells;by_cases q2:(m:Int)-b.per<=(t:Int)-(u:Int)
    case neg=>
     have d2:decide ((m:Int)-b.per<=(t:Int)-(u:Int))=false:=by simpa using q2
     have Q2:=aA q2;clear q2;have FIN:=aA (show ¬f8 a b h t u from fun hr=>hr.elim N1.out (fun hr=>Q2.out (by have:=hr.2.2;have:=SB.out;omega)));have bw:=E.out.bw;go_wp2_with fail
     go_ret
     exact bM.no FIN.out bw
    case pos=>
     have d2:decide ((m:Int)-b.per<=(t:Int)-(u:Int))=true:=by simpa using q2
     have FIN:=aA (show f8 a b h t u from .inr ⟨LB.out.1 (by first|rfl|trivial),by rw [<- HB1.out,<- HL1.out];exact Q1.out,by have:=SB.out;omega⟩);clear q2;have bw:=E.out.bw;go_wp2_with fail
     go_ret
     exact bM.yes FIN.out bw
 case true=>
  go_wp2_with fail
  refine(fI A n c a.per a.inc KC _ (by omega) (by omega) (by omega) (by omega) (by omega)).mono ?_;rw [<- HGA.out];rintro e w3 ⟨rfl,hb⟩;replace E:=aA (E.out.below hb);clear hb
  try clear hY
  clear f0 f1 f2 g0 g1 g2 p6 h0 h1 h2 hlh;obtain⟨⟨f0,f1,f2⟩,⟨g0,g1,g2⟩,p6,⟨h0,h1,h2⟩,hlh⟩:=E.out.cells;by_cases r1:ga=gl
  case neg=>
   have dr:(ga == gl)=false:=by simpa using r1
   have N1:=aA (show ¬(a.Fin/\bR a b=kS h (aI a b)/\bJ a<=u) from fun hr=>r1 (by rw [HA1.out,HL1.out];exact hr.2.1));clear r1;clear f0 f1 f2 p6 h0 h1 h2 g0 g1 g2 hlh;obtain⟨⟨f0,f1,f2⟩,⟨g0,g1,g2⟩,p6,⟨h0,h1,h2⟩,hlh⟩:=E.out.cells;go_wp2_with fail
   refine(gN B m d b.per b.inc b.vals _ (by exact E.out.jb) (by omega) (by omega)).mono ?_;rw [<- HFB.out];rintro e wb ⟨rfl,hb⟩;replace E:=aA (E.out.below hb);clear hb
   try clear hY
   clear f0 f1 f2 g0 g1 g2 p6 h0 h1 h2 hlh;obtain⟨⟨f0,f1,f2⟩,⟨g0,g1,g2⟩,p6,⟨h0,h1,h2⟩,hlh⟩:=E.out.cells;cases fb
   case false=>
    have FIN:=aA (show ¬f8 a b h t u from fun hr=>hr.elim N1.out (fun hr=>by have:=LB.out.2 hr.1;cases this));have bw:=E.out.bw;go_wp2_with fail
    go_ret
    exact bM.no FIN.out bw
   case true=>
    go_wp2_with fail
    refine(fI B m d b.per b.inc KC _ (by omega) (by omega) (by omega) (by omega) (by omega)).mono ?_;rw [<- HGB.out];rintro e wc ⟨rfl,hb⟩;replace E:=aA (E.out.below hb);clear hb
    try clear hY
    clear f0 f1 f2 g0 g1 g2 p6 h0 h1 h2 hlh;obtain⟨⟨f0,f1,f2⟩,⟨g0,g1,g2⟩,p6,⟨h0,h1,h2⟩,hlh⟩:=E.out.cells;by_cases q1:gb=gl
    case neg=>
     have d1:(gb == gl)=false:=by simpa using q1
     have Q1:=aA q1;clear q1;have FIN:=aA (show ¬f8 a b h t u from fun hr=>hr.elim N1.out (fun hr=>Q1.out (by rw [HB1.out,HL1.out];exact hr.2.1)));have bw:=E.out.bw;go_wp2_with fail
     go_ret
     exact bM.no FIN.out bw
    case pos=>
     have d1:(gb == gl)=true:=by simpa using q1
     have Q1:=aA q1;clear q1;go_wp2_with fail
     refine(dR B m d b.per b.inc _ (by omega) (by omega) (by omega)).mono ?_;rintro e wd ⟨rfl,hb⟩;replace E:=aA (E.out.below hb);clear hb
     try clear hY
     clear f0 f1 f2 g0 g1 g2 p6 h0 h1 h2 hlh;obtain⟨⟨f0,f1,f2⟩,⟨g0,g1,g2⟩,p6,⟨h0,h1,h2⟩,hlh⟩:=E.out.cells;by_cases q2:(m:Int)-b.per<=(t:Int)-(u:Int)
     case neg=>
      have d2:decide ((m:Int)-b.per<=(t:Int)-(u:Int))=false:=by simpa using q2
      have Q2:=aA q2;clear q2;have FIN:=aA (show ¬f8 a b h t u from fun hr=>hr.elim N1.out (fun hr=>Q2.out (by have:=hr.2.2;have:=SB.out;omega)));have bw:=E.out.bw;go_wp2_with fail
      go_ret
      exact bM.no FIN.out bw
     case pos=>
      have d2:decide ((m:Int)-b.per<=(t:Int)-(u:Int))=true:=by simpa using q2
      have FIN:=aA (show f8 a b h t u from .inr ⟨LB.out.1 (by first|rfl|trivial),by rw [<- HB1.out,<- HL1.out];exact Q1.out,by have:=SB.out;omega⟩);clear q2;have bw:=E.out.bw;go_wp2_with fail
      go_ret
      exact bM.yes FIN.out bw
  case pos=>
   have dr:(ga == gl)=true:=by simpa using r1
   have R1:=aA r1;clear r1;go_wp2_with fail
   refine(dR A n c a.per a.inc _ (by omega) (by omega) (by omega)).mono ?_;rintro e w4 ⟨rfl,hb⟩;replace E:=aA (E.out.below hb);clear hb
   try clear hY
   clear f0 f1 f2 g0 g1 g2 p6 h0 h1 h2 hlh;obtain⟨⟨f0,f1,f2⟩,⟨g0,g1,g2⟩,p6,⟨h0,h1,h2⟩,hlh⟩:=E.out.cells;by_cases r2:(n:Int)-a.per<=(u:Int)
   case neg=>
    have d9:decide ((n:Int)-a.per<=(u:Int))=false:=by simpa using r2
    have N1:=aA (show ¬(a.Fin/\bR a b=kS h (aI a b)/\bJ a<=u) from fun hr=>r2 (by have:=hr.2.2;have:=SA.out;omega));clear r2;clear f0 f1 f2 p6 h0 h1 h2 g0 g1 g2 hlh;obtain⟨⟨f0,f1,f2⟩,⟨g0,g1,g2⟩,p6,⟨h0,h1,h2⟩,hlh⟩:=E.out.cells;go_wp2_with fail
    refine(gN B m d b.per b.inc b.vals _ (by exact E.out.jb) (by omega) (by omega)).mono ?_;rw [<- HFB.out];rintro e wb ⟨rfl,hb⟩;replace E:=aA (E.out.below hb);clear hb
    try clear hY
    clear f0 f1 f2 g0 g1 g2 p6 h0 h1 h2 hlh;obtain⟨⟨f0,f1,f2⟩,⟨g0,g1,g2⟩,p6,⟨h0,h1,h2⟩,hlh⟩:=E.out.cells;cases fb
    case false=>
     have FIN:=aA (show ¬f8 a b h t u from fun hr=>hr.elim N1.out (fun hr=>by have:=LB.out.2 hr.1;cases this));have bw:=E.out.bw;go_wp2_with fail
     go_ret
     exact bM.no FIN.out bw
    case true=>
     go_wp2_with fail
     refine(fI B m d b.per b.inc KC _ (by omega) (by omega) (by omega) (by omega) (by omega)).mono ?_;rw [<- HGB.out];rintro e wc ⟨rfl,hb⟩;replace E:=aA (E.out.below hb);clear hb
     try clear hY
     clear f0 f1 f2 g0 g1 g2 p6 h0 h1 h2 hlh;obtain⟨⟨f0,f1,f2⟩,⟨g0,g1,g2⟩,p6,⟨h0,h1,h2⟩,hlh⟩:=E.out.cells;by_cases q1:gb=gl
     case neg=>
      have d1:(gb == gl)=false:=by simpa using q1
      have Q1:=aA q1;clear q1;have FIN:=aA (show ¬f8 a b h t u from fun hr=>hr.elim N1.out (fun hr=>Q1.out (by rw [HB1.out,HL1.out];exact hr.2.1)));have bw:=E.out.bw;go_wp2_with fail
      go_ret
      exact bM.no FIN.out bw
     case pos=>
      have d1:(gb == gl)=true:=by simpa using q1
      have Q1:=aA q1;clear q1;go_wp2_with fail
      refine(dR B m d b.per b.inc _ (by omega) (by omega) (by omega)).mono ?_;rintro e wd ⟨rfl,hb⟩;replace E:=aA (E.out.below hb);clear hb
      try clear hY
      clear f0 f1 f2 g0 g1 g2 p6 h0 h1 h2 hlh;obtain⟨⟨f0,f1,f2⟩,⟨g0,g1,g2⟩,p6,⟨h0,h1,h2⟩,hlh⟩:=E.out.cells;by_cases q2:(m:Int)-b.per<=(t:Int)-(u:Int)
      case neg=>
       have d2:decide ((m:Int)-b.per<=(t:Int)-(u:Int))=false:=by simpa using q2
       have Q2:=aA q2;clear q2;have FIN:=aA (show ¬f8 a b h t u from fun hr=>hr.elim N1.out (fun hr=>Q2.out (by have:=hr.2.2;have:=SB.out;omega)));have bw:=E.out.bw;go_wp2_with fail
       go_ret
       exact bM.no FIN.out bw
      case pos=>
       have d2:decide ((m:Int)-b.per<=(t:Int)-(u:Int))=true:=by simpa using q2
       have FIN:=aA (show f8 a b h t u from .inr ⟨LB.out.1 (by first|rfl|trivial),by rw [<- HB1.out,<- HL1.out];exact Q1.out,by have:=SB.out;omega⟩);clear q2;have bw:=E.out.bw;go_wp2_with fail
       go_ret
       exact bM.yes FIN.out bw
   case pos=>
    have d9:decide ((n:Int)-a.per<=(u:Int))=true:=by simpa using r2
    have FIN:=aA (show f8 a b h t u from .inl ⟨LA.out.1 (by first|rfl|trivial),by rw [<- HA1.out,<- HL1.out];exact R1.out,by have:=SA.out;omega⟩);clear r2;have bw:=E.out.bw;go_wp2_with fail
    go_ret
    exact bM.yes FIN.out bw
def E8(S:Cv->Int->List Int->Int->Prop)(w:World)(e:Ending)(w':World):Prop:=
 ∃r fr cs er,S r fr cs er/\∃(A:Option Addr) (n c:Nat) (B:Option Addr) (m d:Nat),n<=c/\m<=d/\e = .returned (.tuple #[.agg #[.slice A n c,.int .i64 r.per,.int .i64 r.inc,.int .i64 fr,.slice B m d],.int .i64 er])/\
  aE w' w'.heap.size A n r.vals/\aE w' w'.heap.size B m cs/\(∀b off s,A=some ⟨b,off,s⟩->w.heap.size<=b)/\(∀b off s,B=some ⟨b,off,s⟩->w.heap.size<=b)/\Below w.heap.size w w'
theorem aC.d5{w:World}{g:Nat}{t:TypeId}{x y z u v:Value}(h:aC w g t #[x,y,z,u,v]):(w.cell? ⟨g,0,none⟩=some x/\w.cell? ⟨g,1,none⟩=some y/\w.cell? ⟨g,2,none⟩=some z/\w.cell? ⟨g,3,none⟩=some u/\w.cell? ⟨g,4,none⟩=some v)/\
 (w.frozen? ⟨g,0,none⟩=false/\w.frozen? ⟨g,1,none⟩=false/\w.frozen? ⟨g,2,none⟩=false/\w.frozen? ⟨g,3,none⟩=false/\w.frozen? ⟨g,4,none⟩=false)/\g<w.heap.size:=
 ⟨⟨h.cell 0,h.cell 1,h.cell 2,h.cell 3,h.cell 4⟩,⟨h.frozen 0,h.frozen 1,h.frozen 2,h.frozen 3,h.frozen 4⟩,h.lt⟩
theorem aC.store5{w:World}{g:Nat}{t:TypeId}{a b c d e:Value}(h:aC w g t #[a,b,c,d,e])(x y z u v:Value):aC (((((w.setCell ⟨g,0,none⟩ x).setCell ⟨g,1,none⟩ y).setCell ⟨g,2,none⟩ z).setCell ⟨g,3,none⟩ u).setCell ⟨g,4,none⟩ v) g t #[x,y,z,u,v]:=
 ((((h.set_ 0 x).set_ 1 y).set_ 2 z).set_ 3 u).set_ 4 v
theorem aR.five(g:Nat)(w:World)(x y z u v:Value):aR g w (((((w.setCell ⟨g,0,none⟩ x).setCell ⟨g,1,none⟩ y).setCell ⟨g,2,none⟩ z).setCell ⟨g,3,none⟩ u).setCell ⟨g,4,none⟩ v):=
 (((((aR.refl g w).set 0 x).set 1 y).set 2 z).set 3 u).set 4 v
structure CQ(w wx:World)(A:Option Addr)(n c:Nat)(a:Cv)(B:Option Addr)(m d:Nat)(b:Cv)(K:Int):Prop where
 pb:aC wx w.heap.size 91 (bH A n c a B m d b K)
 ia:aE wx w.heap.size A n a.vals
 ib:aE wx w.heap.size B m b.vals
 bw:Below w.heap.size w wx
section
variable{w wx wy:World}{A B:Option Addr}{n c m d:Nat}{a b:Cv}{K:Int}
theorem CQ.new(hA:aE w w.heap.size A n a.vals)(hB:aE w w.heap.size B m b.vals):CQ w (w.alloc (.cells (bH A n c a B m d b K) 91)) A n c a B m d b K:=
 ⟨aC.new _ _ _,hA.alloc (Nat.le_refl _) _,hB.alloc (Nat.le_refl _) _,aF _ _⟩
theorem CQ.below(h:CQ w wx A n c a B m d b K)(hb:Below wx.heap.size wx wy):CQ w wy A n c a B m d b K:=⟨h.pb.below hb h.pb.lt,h.ia.below (hb.mono h.bw.size),h.ib.below (hb.mono h.bw.size),aD h.bw hb⟩
theorem CQ.alloc(h:CQ w wx A n c a B m d b K)(o:Obj):CQ w (wx.alloc o) A n c a B m d b K:=h.below (aF wx o)
theorem CQ.drew(h:CQ w wx A n c a B m d b K):CQ w wx.drew A n c a B m d b K:=⟨h.pb,h.ia,h.ib,Below.drew h.bw⟩
theorem CQ.sto(h:CQ w wx A n c a B m d b K){g:Nat}(s:aR g wx wy)(hg:w.heap.size<g):CQ w wy A n c a B m d b K:=
 ⟨h.pb.sto s (by omega),h.ia.keep (fun q hq=>World.cell?_of_block (s.block _ (by omega))),h.ib.keep (fun q hq=>World.cell?_of_block (s.block _ (by omega))),cE h.bw s (by omega)⟩
theorem CQ.set(h:CQ w wx A n c a B m d b K){g:Nat}(hg:w.heap.size<g)(i:Nat)(u:Value):CQ w (wx.setCell ⟨g,i,none⟩ u) A n c a B m d b K:=h.sto ((aR.refl g wx).set i u) hg
theorem CQ.ja(h:CQ w wx A n c a B m d b K):aE wx wx.heap.size A n a.vals:=h.ia.more h.bw.size
theorem CQ.jb(h:CQ w wx A n c a B m d b K):aE wx wx.heap.size B m b.vals:=h.ib.more h.bw.size
theorem CQ.cells(h:CQ w wx A n c a B m d b K):(wx.cell? ⟨w.heap.size,0,none⟩=some (.slice A n c)/\wx.cell? ⟨w.heap.size,1,none⟩=some (.int .i64 a.per)/\wx.cell? ⟨w.heap.size,2,none⟩=some (.int .i64 a.inc))/\
 (wx.cell? ⟨w.heap.size,3,none⟩=some (.slice B m d)/\wx.cell? ⟨w.heap.size,4,none⟩=some (.int .i64 b.per)/\wx.cell? ⟨w.heap.size,5,none⟩=some (.int .i64 b.inc))/\wx.cell? ⟨w.heap.size,6,none⟩=some (.int .i64 K)/\w.heap.size<wx.heap.size:=by
 have q:=fun i=>h.pb.cell i
 have q0:=q 0;have q1:=q 1;have q2:=q 2;have q3:=q 3;have q4:=q 4;have q5:=q 5;have q6:=q 6;simp [bH] at q0 q1 q2 q3 q4 q5 q6
 exact⟨⟨q0,q1,q2⟩,⟨q3,q4,q5⟩,q6,h.pb.lt⟩
end
theorem aE.five{w1:World}{B g0 n:Nat}{A:Option Addr}{zs:List Int}{x y z u v:Value}(hI:aE w1 w1.heap.size A n zs)(hf:∀b off s,A=some ⟨b,off,s⟩->B<=b)(hB:g0<B) :
 aE (((((w1.setCell ⟨g0,0,none⟩ x).setCell ⟨g0,1,none⟩ y).setCell ⟨g0,2,none⟩ z).setCell ⟨g0,3,none⟩ u).setCell ⟨g0,4,none⟩ v) (((((w1.setCell ⟨g0,0,none⟩ x).setCell ⟨g0,1,none⟩ y).setCell ⟨g0,2,none⟩ z).setCell ⟨g0,3,none⟩ u).setCell ⟨g0,4,none⟩ v).heap.size A n zs:=
 hI.sto (aR.five g0 w1 x y z u v) (fun b off o e=>by have:=hf b off o e;omega)
def n8(a b h:Cv)(t:Nat)(v:Int):Prop:=∃u:Nat,v=u/\iQ a b h t u/\∀x,x<u->¬iQ a b h t x
def oA(a b h:Cv)(cs:List Int)(N t:Nat):Prop:=cs.length=N/\∀x,x<t->n8 a b h x (aB cs x)
theorem oA.next{a b h:Cv}{cs:List Int}{N t:Nat}{v:Int}(H:oA a b h cs N t)(ht:t<N)(hv:n8 a b h t v):oA a b h (cs.set t v) N (t+1):=by
 refine⟨by rw [List.length_set];exact H.1,fun x hx=>?_⟩
 rw [eQ _ _ _ _ (by rw [H.1];exact ht)];by_cases e:x=t
 ·rw [if_pos e,e];exact hv
 ·rw [if_neg e];exact H.2 x (by omega)
theorem a4d{a b h:Cv}{t:Nat}(H:∃u,iQ a b h t u):∃U,iQ a b h t U/\∀x,x<U->¬iQ a b h t x:=qS H
theorem L8(A B:Option Addr)(n m c d:Nat)(p i q j:Int)(xs ys:List Int)(w:World)(hA:aE w w.heap.size A n xs)(hB:aE w w.heap.size B m ys)(hn:(n:Int)<=1000000)(hm:(m:Int)<=1000000) :
 Calls Tryz.prog 9 #[.agg #[.slice A n c,.int .i64 p,.int .i64 i],.agg #[.slice B m d,.int .i64 q,.int .i64 j]] w (E8 (l4 ⟨xs,p,i⟩ ⟨ys,q,j⟩) w):=by
 have P:=aA ((PS.new (c:=c) (p:=p) (i:=i) (d:=d) (q:=q) (j:=j) hA hB).alloc (.cells #[.slice none 0 0,.int .i64 0,.int .i64 0,.int .i64 0,.slice none 0 0] 29));have rb:=aC.new ((w.alloc (.cells #[.slice A n c,.int .i64 p,.int .i64 i] 26)).alloc (.cells #[.slice B m d,.int .i64 q,.int .i64 j] 26)) 29 #[.slice none 0 0,.int .i64 0,.int .i64 0,.int .i64 0,.slice none 0 0];rw [World.size_alloc,World.size_alloc] at rb;have RB:=aA rb;clear hA hB rb;go_enter Tryz.func9,Tryz.ntmps9
 obtain⟨f0,f1,f2,g0,g1,g2,hlf,hlg⟩:=P.out.cells;go_wp2_with fail
 refine(sG A B n m c d p i q j xs ys _ P.out.ia P.out.ib hn hm).mono ?_;rintro e w1 (⟨er,hbad,rfl,hb⟩|⟨hfo,hgo,a,b,A1,n1,c1,B1,m1,d1,hna,hnb,hao,hbo,hcm,rfl,hI1,hI2,hA1,hB1,hb⟩)
 ·have F:=aA (show l4 ⟨xs,p,i⟩ ⟨ys,q,j⟩ Cv.none 0 [] er from⟨hbad.pair,.inl ⟨hbad.ne,rfl,rfl⟩⟩);have hne:(er != 0)=true:=by simpa using hbad.ne
  have BW:=aA (aD P.out.bw hb);replace RB:=aA (RB.out.below hb RB.out.lt);clear hbad hb P f0 f1 f2 g0 g1 g2 hlf hlg;unfold kG;have hs0:w.heap.size+1+1<w1.heap.size:=RB.out.lt;replace RB:=aA (RB.out.alloc (.cells #[.slice none 0 0,.int .i64 0,.int .i64 0,.slice none 0 0,.int .i64 0,.int .i64 0,.int .i64 0] 91));replace BW:=aA (aD BW.out (aF _ (.cells #[.slice none 0 0,.int .i64 0,.int .i64 0,.slice none 0 0,.int .i64 0,.int .i64 0,.int .i64 0] 91)));go_upto_region 2 with fail
  generalize hwe:w1.alloc (.cells #[.slice none 0 0,.int .i64 0,.int .i64 0,.slice none 0 0,.int .i64 0,.int .i64 0,.int .i64 0] 91)=w2 at *;clear hwe;obtain⟨⟨r0,r1,r2,r3,r4⟩,⟨y0,y1,y2,y3,y4⟩,hlr⟩:=RB.out.d5;go_wp2_with fail
  have rb:=RB.out.store5 (.slice none 0 0) (.int .i64 0) (.int .i64 0) (.int .i64 0) (.slice none 0 0)
  exact bodyPost_ret (v:=.tuple #[.agg #[.slice none 0 0,.int .i64 0,.int .i64 0,.int .i64 0,.slice none 0 0],.int .i64 er]) (by simp [results,Tryz.results9,go_sem,rb.cell]) rfl
   ⟨Cv.none,0,[],er,F.out,none,0,0,none,0,0,Nat.le_refl 0,Nat.le_refl 0,rfl,aE.none_,aE.none_,(fun b off s h=>by cases h),(fun b off s h=>by cases h),cE BW.out (aR.five _ _ _ _ _ _ _) (by omega)⟩
 ·have hsz:=RB.out.lt;have RB0:=aA (RB.out.below hb RB.out.lt);have BW0:=aA (aD P.out.bw hb);obtain⟨K0,hK0⟩:∃K0:Nat,K0=aI a b:=⟨_,rfl⟩
  obtain⟨KC,hKC⟩:∃KC:Int,KC=(aI a b:Nat):=⟨_,rfl⟩
  have tb:=wC A1 B1 n1 m1 c1 d1 a b (w1.alloc (.cells (bH A1 n1 c1 a B1 m1 d1 b (aI a b:Nat)) 91)) (hI1.alloc' _) (hI2.alloc' _) hao hbo hcm;rw [<- hKC] at tb ⊢;have E:=aA (CQ.new (c:=c1) (d:=d1) (K:=KC) hI1 hI2);have hs1:=RB0.out.lt;have hK9:KC<=120:=by omega
  have hK1:1<=KC:=by have:=(iG hao hbo).c1;omega
  have HFO:=aA hfo;have HGO:=aA hgo;have HNA:=aA hna;have HNB:=aA hnb;have HAO:=aA hao;have HBO:=aA hbo;have HCM:=aA hcm;have HKC:=aA hKC;have HK0:=aA hK0;have HN1:=aA (show a.vals.length=n1 from hI1.1);have HM1:=aA (show b.vals.length=m1 from hI2.1);have ff:=hao;have a1':=ff.n1;have a2':=ff.n2;have a3':=ff.p1;have a4':=ff.p2;have a5':=ff.pn;have a6':=ff.i1;have a7':=ff.i2;rw [HN1.out] at a1' a2' a5';have ff:=hbo;have b1':=ff.n1;have b2':=ff.n2;have b3':=ff.p1;have b4':=ff.p2;have b5':=ff.pn;have b6':=ff.i1;have b7':=ff.i2;rw [HM1.out] at b1' b2' b5';clear ff;clear hfo hgo hna hnb hao hbo hcm hKC hK0 hI1 hI2 hA1 hB1 hb P RB f0 f1 f2 g0 g1 g2 hlf hlg;unfold bH at E tb ⊢;have TB:=aA tb;clear tb;go_upto_region 2 with fail
  generalize hwe:w1.alloc (.cells #[.slice A1 n1 c1,.int .i64 a.per,.int .i64 a.inc,.slice B1 m1 d1,.int .i64 b.per,.int .i64 b.inc,.int .i64 KC] 91)=w2 at *;clear hwe;have E:Hid (CQ w1 w2 A1 n1 c1 a B1 m1 d1 b KC):=E;obtain⟨⟨f0,f1,f2⟩,⟨g0,g1,g2⟩,p6,hlf⟩:=E.out.cells;go_wp2_with fail
  refine TB.out.mono ?_;rintro e w5 ⟨f,er,hS,A5,n5,c5,hc5,rfl,hI5,hA5,hbq⟩;have CS:=aA (show fH ⟨xs,p,i⟩ ⟨ys,q,j⟩ f er from fH.of HFO.out HGO.out HNA.out HNB.out HCM.out hS);have hs2:=E.out.pb.lt;have HA5:=aA hA5;have HC5:=aA hc5;have E:=aA ((E.out.below hbq).alloc (.cells #[.slice A5 n5 c5,.int .i64 f.per,.int .i64 f.inc] 26));have HB:=aA (aC.new w5 26 #[.slice A5 n5 c5,.int .i64 f.per,.int .i64 f.inc]);have HI5:=aA (hI5.alloc (Nat.le_refl _) (.cells #[.slice A5 n5 c5,.int .i64 f.per,.int .i64 f.inc] 26));have hbs:=hbq.size;clear hA5 hc5 hI5 hbq TB hS;clear f0 f1 f2 g0 g1 g2 p6 hlf;go_upto_region 5 with fail
  generalize hwe:w5.alloc (.cells #[.slice A5 n5 c5,.int .i64 f.per,.int .i64 f.inc] 26)=w6 at *;clear hwe;generalize w5.heap.size=Hb at *;by_cases her:er=0
  case neg=>
   have hne:(er != 0)=true:=by simpa using her
   have FIN:=aA (show l4 ⟨xs,p,i⟩ ⟨ys,q,j⟩ Cv.none 0 [] er from by
    refine⟨?_,.inl ⟨her,rfl,rfl⟩⟩
    have h:=CS.out;rcases h with ⟨h1,h2,h3⟩|⟨k1,k2,a',b',k3,k4,⟨k5,k6,k7⟩|⟨k5,D,k6,k7⟩⟩
    ·exact .inl ⟨h1,rfl,h3⟩
    ·exact .inr ⟨k1,k2,a',b',k3,k4,.inl ⟨k5,rfl,k7⟩⟩
    ·refine .inr ⟨k1,k2,a',b',k3,k4,.inr ⟨k5,D,k6,?_⟩⟩;rcases k7 with ⟨_,_,h⟩|⟨h,_,h2⟩
     ·exact absurd h her
     ·exact .inr ⟨h,rfl,h2⟩)
   clear her;have RB:=aA (RB0.out.below E.out.bw RB0.out.lt);obtain⟨⟨r0,r1,r2,r3,r4⟩,⟨y0,y1,y2,y3,y4⟩,hlr⟩:=RB.out.d5;go_wp2_with fail
   have rb:=RB.out.store5 (.slice none 0 0) (.int .i64 0) (.int .i64 0) (.int .i64 0) (.slice none 0 0);have bwx:=aD BW0.out E.out.bw
   exact bodyPost_ret (v:=.tuple #[.agg #[.slice none 0 0,.int .i64 0,.int .i64 0,.int .i64 0,.slice none 0 0],.int .i64 er]) (by simp [results,Tryz.results9,go_sem,rb.cell]) rfl
    ⟨Cv.none,0,[],er,FIN.out,none,0,0,none,0,0,Nat.le_refl 0,Nat.le_refl 0,rfl,aE.none_,aE.none_,(fun b off s h=>by cases h),(fun b off s h=>by cases h),cE bwx (aR.five _ _ _ _ _ _ _) (by omega)⟩
  case pos=>
   subst her;have FR:=aA (show f.Ok/\NF f.at f/\bZ a b f.at from by
    obtain⟨_,_,a',b',k1,k2,k3,k4,k5,k6,k7,k8,_⟩:=vY CS.out;obtain rfl:=NF.unique HNA.out k1;obtain rfl:=NF.unique HNB.out k2;exact⟨k6,k7,k8⟩)
   have ff:=FR.out.1;have f1':=ff.n1;have f2':=ff.n2;have f3':=ff.p1;have f4':=ff.p2;have f5':=ff.pn;have f6':=ff.i1;have f7':=ff.i2;rw [HI5.out.1] at f1' f2' f5';clear ff;obtain⟨X,hX⟩:∃X:Nat,X=eA a b f:=⟨_,rfl⟩
   obtain⟨N,hN⟩:∃N:Nat,N=X+K0:=⟨_,rfl⟩
   have hX5:X<=920:=by
    have s1:=eO HAO.out;have s2:=eO HBO.out;have s3:=eO FR.out.1;have:=HCM.out;rw [hX];unfold eA;omega
   have hN9:N<=1040:=by have:=HK0.out;have:=HCM.out;omega
   have e1:IntKind.i64.wrap ((X:Int)+KC)=(N:Int):=by rw [IntWalk.i64_in _ (by omega)];have:=HK0.out;have:=HKC.out;omega
   have e2:(X:Int)+KC=(N:Int):=by have:=HK0.out;have:=HKC.out;omega
   have HXX:=aA hX;have HNN:=aA hN;have hXN:X<=N:=by omega
   clear hX hN;have th:=vT A1 B1 A5 n1 m1 n5 c1 d1 c5 a b f w6 (by exact E.out.ja) (by exact E.out.jb) (by exact(HI5.out.more (by have:=HB.out.lt;omega))) HAO.out HBO.out FR.out.1 HCM.out;rw [<- HKC.out,<- HXX.out] at th;unfold bH at th;have TH:=aA th;clear th;obtain⟨⟨f0,f1,f2⟩,⟨g0,g1,g2⟩,p6,hlf⟩:=E.out.cells;obtain⟨⟨h0,h1,h2⟩,_,hlh⟩:=HB.out.c3;go_wp2_with fail
   refine TH.out.mono ?_;rintro e w7 ⟨rfl,hbq⟩;have E:=aA (E.out.below hbq);have HI5:=aA (HI5.out.below (hbq.mono (by have:=HB.out.lt;omega)));have HB:=aA (HB.out.below hbq HB.out.lt)
   try (have T1:=aA (T1.out.below hbq T1.out.lt))
   try (have T2:=aA (T2.out.below hbq T2.out.lt))
   try (have SM:=aA (SM.out.below hbq SM.out.lt))
   clear hbq
   try clear hY
   clear TH;clear f0 f1 f2 g0 g1 g2 p6 hlf;clear h0 h1 h2 hlh;obtain⟨⟨f0,f1,f2⟩,⟨g0,g1,g2⟩,p6,hlf⟩:=E.out.cells;obtain⟨⟨h0,h1,h2⟩,_,hlh⟩:=HB.out.c3;go_upto_region 9 with fail
   clear e1 e2;go_cut [11,12] (fun s11 s12 wx=>∃q1 q2:Nat,s11 = .slice (some ⟨q1,0,none⟩) N N/\s12 = .slice (some ⟨q2,0,none⟩) N N/\aU wx q1 (aZ a.at 0 N)/\aU wx q2 (aZ b.at 0 N)/\CQ w1 wx A1 n1 c1 a B1 m1 d1 b KC/\aC wx Hb 26 #[.slice A5 n5 c5,.int .i64 f.per,.int .i64 f.inc]/\aE wx Hb A5 n5 f.vals)
   case first=>
    have E:=aA E.out.drew;have HB:=aA (aC.drew HB.out);have HI5:=aA (aE.drew HI5.out);clear f0 f1 f2 g0 g1 g2 p6 hlf;clear h0 h1 h2 hlh;obtain⟨⟨f0,f1,f2⟩,⟨g0,g1,g2⟩,p6,hlf⟩:=E.out.cells;refine wp_region_held_drew (S:=fun w'=>w'.cell? ⟨w1.heap.size,0,none⟩=some (.slice A1 n1 c1)/\w'.cell? ⟨w1.heap.size,1,none⟩=some (.int .i64 a.per)/\w'.cell? ⟨w1.heap.size,2,none⟩=some (.int .i64 a.inc)/\w'.cell? ⟨w1.heap.size,3,none⟩=some (.slice B1 m1 d1)/\w'.cell? ⟨w1.heap.size,4,none⟩=some (.int .i64 b.per)/\w'.cell? ⟨w1.heap.size,5,none⟩=some (.int .i64 b.inc)/\w'.cell? ⟨w1.heap.size,6,none⟩=some (.int .i64 KC)) (by kernel_rfl) (by exact⟨f0,f1,f2,g0,g1,g2,p6⟩) (fun hY=>?_);generalize hwd:w7.drew=wd at *;clear hwd;refine aO [0,1,2,4,5,6] ?_;(iterate 6 refine aK ?_);refine aP ?_;refine aJ 3 (fun K hK=>?_);go_simp
    refine(mH A1 n1 c1 a.per a.inc N a.vals _ (by exact E.out.ja) (by exact HAO.out) (by omega)).mono ?_;rintro e wa ⟨q1',rfl,hT,hq1',hbq⟩;have T1:=aA hT;clear hT;have E:=aA (E.out.below hbq);have HI5:=aA (HI5.out.below (hbq.mono (by have:=HB.out.lt;omega)));have HB:=aA (HB.out.below hbq HB.out.lt);clear hbq hY;clear f0 f1 f2 g0 g1 g2 p6 hlf;obtain⟨⟨f0,f1,f2⟩,⟨g0,g1,g2⟩,p6,hlf⟩:=E.out.cells;refine aH hK (by exact⟨f0,f1,f2,g0,g1,g2,p6⟩) (fun hY=>?_);refine aJ 7 (fun K hK=>?_);go_simp
    refine(mH B1 m1 d1 b.per b.inc N b.vals _ (by exact E.out.jb) (by exact HBO.out) (by omega)).mono ?_;rintro e wb ⟨q2',rfl,hT,hq2',hbq⟩;have T2:=aA hT;clear hT;have T1:=aA (T1.out.below hbq T1.out.lt);have E:=aA (E.out.below hbq);have HI5:=aA (HI5.out.below (hbq.mono (by have:=HB.out.lt;omega)));have HB:=aA (HB.out.below hbq HB.out.lt);clear hbq hY;clear f0 f1 f2 g0 g1 g2 p6 hlf;obtain⟨⟨f0,f1,f2⟩,⟨g0,g1,g2⟩,p6,hlf⟩:=E.out.cells;refine aH hK (by exact⟨f0,f1,f2,g0,g1,g2,p6⟩) (fun hY=>?_);refine aO [8,9] ?_;(iterate 2 refine aK ?_);refine aP ?_;refine aT ?_;go_wp2_with fail
    go_meet
    exact⟨q1',q2',rfl,rfl,T1.out,T2.out,E.out,HB.out,HI5.out⟩
   case rest=>
   clear E HB HI5;clear f0 f1 f2 g0 g1 g2 p6 hlf;clear h0 h1 h2 hlh;obtain⟨q1',q2',rfl,rfl,hT1,hT2,hE,hH,hI⟩:=hcut;have E:=aA hE;have HB:=aA hH;have HI5:=aA hI;have T1:=aA hT1;have T2:=aA hT2;clear hE hH hI hT1 hT2;obtain⟨i0,hi0,hz0,hy1,hy2⟩:=info_parts iE;have hlw:=E.out.pb.lt;go_upto_region 11 with (at_make;refine wpList_make_full _ rfl _ _ 22 rfl wc.heap.size 3 i0 _ 1 Tryz.underlying22 hi0 hz0 hy1 .i64 .i64 _ _ N rfl rfl rfl rfl (by rw [hy2];omega) (by unfold maxLen;omega) (by simp) ?_;intro w8 own1 grow1)
   have hbq:Below wc.heap.size wc w8:=(Below.refl _ _).grown grow1 (by simp) (by simp);have SM:=aA (mC own1);have hq1l:=T1.out.lt;have hq2l:=T2.out.lt;have hhl:=HB.out.lt;have E:=aA (E.out.below hbq);have HI5:=aA (HI5.out.below (hbq.mono (by omega)));have HB:=aA (HB.out.below hbq HB.out.lt);have T1:=aA (T1.out.below hbq T1.out.lt);have T2:=aA (T2.out.below hbq T2.out.lt);clear hi0 hz0 hy1 hy2 own1 grow1 hbq;generalize wc.heap.size=G at *;go_wp2_with fail
   go_loopg [14,15,16,55] N (fun gg s14 s15 s16 s55 wx=>∃(t:Nat) (cs:List Int),t+gg=N/\s55 = .int .i64 t/\oA a b f cs N t/\aU wx G cs/\aU wx q1' (aZ a.at 0 N)/\aU wx q2' (aZ b.at 0 N)/\CQ w1 wx A1 n1 c1 a B1 m1 d1 b KC/\aC wx Hb 26 #[.slice A5 n5 c5,.int .i64 f.per,.int .i64 f.inc]/\aE wx Hb A5 n5 f.vals)
   case atStart=>exact⟨0,List.replicate N 0,by omega,rfl,⟨by simp,fun x hx=>by omega⟩,SM.out,T1.out,T2.out,E.out,HB.out,HI5.out⟩
   case round=>
    clear SM T1 T2 E HB HI5;obtain⟨t,cs,htg,rfl,hmc,hR,hT1,hT2,hE,hH,hI⟩:=hrel;have SM:=aA hR;have T1:=aA hT1;have T2:=aA hT2;have E:=aA hE;have HB:=aA hH;have HI5:=aA hI;have MC:=aA hmc;clear hR hT1 hT2 hE hH hI hmc;obtain⟨go,hgo⟩:∃go:Nat,go=gk:=⟨_,rfl⟩
    subst hgo;by_cases ht:t<N
    ·have hti:(t:Int)<N:=by omega
     obtain⟨U,hU1,hU2⟩:=a4d (K4 HAO.out HBO.out FR.out.1 FR.out.2.1 FR.out.2.2 (t:=t) (by omega));have hUt:U<=t:=hU1.1;have HU1:=aA hU1;have HU2:=aA hU2;clear hU1 hU2;obtain⟨v,hv⟩:∃v,v=f.at t:=⟨_,rfl⟩
     have HV:=aA hv;clear hv;obtain⟨⟨h0,h1,h2⟩,_,hlh⟩:=HB.out.c3;go_wp2_with fail
     refine(gA A5 n5 c5 f.per f.inc (t:Int) f.vals _ (by exact(HI5.out.more (by omega))) (by omega) (by omega) (by omega) (by omega) (by omega) FR.out.1.nn (by omega) (by omega)).mono ?_;rw [Int.toNat_natCast,<- HV.out];rintro e wq ⟨rfl,hbq⟩;have E:=aA (E.out.below hbq);have HI5:=aA (HI5.out.below (hbq.mono (by have:=HB.out.lt;omega)));have HB:=aA (HB.out.below hbq HB.out.lt)
     try (have T1:=aA (T1.out.below hbq T1.out.lt))
     try (have T2:=aA (T2.out.below hbq T2.out.lt))
     try (have SM:=aA (SM.out.below hbq SM.out.lt))
     clear hbq
     try clear hY
     clear h0 h1 h2 hlh;go_wp2_with fail
     go_loopg [16] U (fun gg s16 wx=>∃(u:Nat) (cs:List Int),u+gg=U/\s16 = .int .i64 u/\oA a b f cs N t/\aU wx G cs/\aU wx q1' (aZ a.at 0 N)/\aU wx q2' (aZ b.at 0 N)/\CQ w1 wx A1 n1 c1 a B1 m1 d1 b KC/\aC wx Hb 26 #[.slice A5 n5 c5,.int .i64 f.per,.int .i64 f.inc]/\aE wx Hb A5 n5 f.vals)
     case atStart=>exact⟨0,cs,by omega,rfl,MC.out,SM.out,T1.out,T2.out,E.out,HB.out,HI5.out⟩
     case round=>
      clear SM T1 T2 E HB HI5 MC;obtain⟨u,cs,hug,rfl,hmc,hR,hT1,hT2,hE,hH,hI⟩:=hrel;have SM:=aA hR;have T1:=aA hT1;have T2:=aA hT2;have E:=aA hE;have HB:=aA hH;have HI5:=aA hI;have MC:=aA hmc;clear hR hT1 hT2 hE hH hI hmc;have huU:u<=U:=by omega
      have hui:(u:Int)<=t:=by omega
      obtain⟨z,hz⟩:∃z:Nat,z=t-u:=⟨_,rfl⟩
      have ez1:IntKind.i64.wrap ((t:Int)-(u:Int))=(z:Int):=by rw [IntWalk.i64_in _ (by omega)];omega
      have ez2:(t:Int)-(u:Int)=(z:Int):=by omega
      have ez3:IntKind.i64.wrap (z:Int)=(z:Int):=IntWalk.i64_in _ (by omega);have HZ:=aA hz;have huN:u<N:=by omega
      have hzN:z<N:=by omega
      clear hz;have huNi:(u:Int)<N:=by omega
      have hzNi:(z:Int)<N:=by omega
      have hu0:0<=(u:Int):=by omega
      have hz0:0<=(z:Int):=by omega
      obtain⟨x,hx⟩:∃x,x=a.at u:=⟨_,rfl⟩
      obtain⟨y,hy⟩:∃y,y=b.at z:=⟨_,rfl⟩
      obtain⟨pv,hpv⟩:∃pv,pv=pl x y:=⟨_,rfl⟩
      have HX:=aA hx;have HY:=aA hy;have HP:=aA hpv;have nx:=j4 HAO.out (t:=u) (by omega);have ny:=j4 HBO.out (t:=z) (by omega);rw [<- hx] at nx;rw [<- hy] at ny;have NX:=aA nx;have NY:=aA ny;clear hx hy hpv nx ny;have hul:t<cs.length:=by rw [MC.out.1];exact ht
      have PQ:=aA (show pl (a.at u) (b.at (t-u))=pv from by rw [HP.out,HX.out,HY.out,HZ.out]);go_upto_region 18 with fail
      have E:=aA E.out.drew;have HB:=aA (aC.drew HB.out);have HI5:=aA (aE.drew HI5.out);have T1:=aA (aU.drew T1.out);have T2:=aA (aU.drew T2.out);have SM:=aA (aU.drew SM.out);obtain⟨⟨f0,f1,f2⟩,⟨g0,g1,g2⟩,p6,hlf⟩:=E.out.cells;obtain⟨⟨h0,h1,h2⟩,_,hlh⟩:=HB.out.c3;have t1:=T1.out.cell u (by rw [cU];exact huN);have t2:=T2.out.cell z (by rw [cU];exact hzN);rw [dT _ _ _ _ huN,Nat.zero_add,<- HX.out] at t1;rw [dT _ _ _ _ hzN,Nat.zero_add,<- HY.out] at t2;have hlt1:=T1.out.lt;have hlt2:=T2.out.lt;refine wp_region_held_drew (S:=fun w'=>(w'.cell? ⟨w1.heap.size,0,none⟩=some (.slice A1 n1 c1)/\w'.cell? ⟨w1.heap.size,1,none⟩=some (.int .i64 a.per)/\w'.cell? ⟨w1.heap.size,2,none⟩=some (.int .i64 a.inc)/\w'.cell? ⟨w1.heap.size,3,none⟩=some (.slice B1 m1 d1)/\w'.cell? ⟨w1.heap.size,4,none⟩=some (.int .i64 b.per)/\w'.cell? ⟨w1.heap.size,5,none⟩=some (.int .i64 b.inc)/\w'.cell? ⟨w1.heap.size,6,none⟩=some (.int .i64 KC))/\w'.cell? ⟨Hb,0,none⟩=some (.slice A5 n5 c5)/\w'.cell? ⟨Hb,1,none⟩=some (.int .i64 f.per)/\w'.cell? ⟨Hb,2,none⟩=some (.int .i64 f.inc)/\w'.cell? ⟨q1',u,none⟩=some (.int .i64 x)/\w'.cell? ⟨q2',z,none⟩=some (.int .i64 y)) (by kernel_rfl) (by exact⟨⟨f0,f1,f2,g0,g1,g2,p6⟩,h0,h1,h2,t1,t2⟩) (fun hY=>?_);generalize hwd:wr.drew=wd at *;clear hwd;refine aO [0,1,2,3,4,5,6,7,8,9,11] ?_;(iterate 11 refine aK ?_);refine aP ?_;refine aJ 10 (fun K hK=>?_);go_simp
      refine(pB x y wd (by exact NX.out.1) (by exact NX.out.2) (by exact NY.out.1) (by exact NY.out.2)).mono ?_;rw [<- HP.out];rintro e wa ⟨rfl,rfl⟩;refine aH hK (by exact⟨⟨f0,f1,f2,g0,g1,g2,p6⟩,h0,h1,h2,t1,t2⟩) (fun hY=>?_);by_cases hpe:pv=v
      case neg=>
       have dp:(pv == v)=false:=by simpa using hpe
       have HPE:=aA hpe;clear hpe;have huL:u<U:=by
        rcases Nat.lt_or_ge u U with h1|h1
        ·exact h1
        ·exfalso
         have e:u=U:=by omega
         have h2:=HU1.out.2.1;rw [<- e,PQ.out,<- HV.out] at h2;exact HPE.out h2
       refine aO [12,13,14,15,16,17,18,19,20,21,22,23,24,25,26,27,28] ?_;(iterate 2 refine aK ?_);(iterate 14 refine gU ?_);refine aK ?_;refine aP ?_;refine aT ?_;clear hY;clear f0 f1 f2 g0 g1 g2 p6 hlf;clear h0 h1 h2 hlh;clear t1 t2 hlt1 hlt2;go_wp2_with fail
       go_roundg (gk-1)
       case measure=>omega
       case rel=>exact⟨u+1,cs,by omega,by go_num,MC.out,SM.out,T1.out,T2.out,E.out,HB.out,HI5.out⟩
      case pos=>
       have dp:(pv == v)=true:=by simpa using hpe
       have HPE:=aA hpe;clear hpe;refine aO [12,13,14,15,16] ?_;(iterate 5 refine aK ?_);refine aP ?_;by_cases hlt:t<X
       case pos=>
        have dl:decide (t<X)=true:=by simpa using hlt
        have qE:((t:Int)<(X:Int)):=by omega
        have GD:=aA (show n8 a b f t (u:Int) from by
         refine⟨u,rfl,⟨by omega,by rw [PQ.out,HPE.out,HV.out],.inl (by rw [<- HXX.out];exact hlt)⟩,fun x hx=>HU2.out x (by omega)⟩)
        clear hlt;refine aO [17,18,19,20,21,22,23,24,25,26,27,28] ?_;refine aK ?_;(iterate 2 refine gU ?_);(iterate 2 refine aK ?_);(iterate 5 refine gU ?_);(iterate 2 refine aK ?_);refine aP ?_;refine aT ?_;clear hY;clear f0 f1 f2 g0 g1 g2 p6 hlf;clear h0 h1 h2 hlh;clear t1 t2 hlt1 hlt2;have z0:=SM.out.frozen t;have s0:=SM.out.cell t hul;have hls:=SM.out.lt;have hqg1:q1'≠G:=by omega
        have hqg2:q2'≠G:=by omega
        go_wp2_with fail
        go_roundg (go-1)
        case measure=>omega
        case rel=>exact⟨t+1,cs.set t (u:Int),by omega,by go_num,MC.out.next ht GD.out,SM.out.set_ t hul _,T1.out.far (by show q1'≠G;omega) _,T2.out.far (by show q2'≠G;omega) _,E.out.set (by omega) t _,HB.out.far (by show Hb≠G;omega) _,HI5.out.keep (fun q hq=>World.cell?_setCell_other _ _ _ _ (fun e=>by subst e;simp at hq;omega))⟩
       case neg=>
        have dl:decide (t<X)=false:=by simpa using hlt
        have qE:¬((t:Int)<(X:Int)):=by omega
        have HLT:=aA hlt;clear hlt;refine aO [17,18] ?_;(iterate 2 refine aK ?_);refine aP ?_;by_cases hvi:v=aG
        case pos=>
         have GD:=aA (show n8 a b f t (u:Int) from by
          refine⟨u,rfl,⟨by omega,by rw [PQ.out,HPE.out,HV.out],.inr (.inl (by rw [<- HV.out];exact hvi))⟩,fun x hx=>HU2.out x (by omega)⟩)
         have di:(v == 4611686018427387904)=true:=by unfold aG at hvi;simpa using hvi
         clear hvi;refine aO [19,20,21,22,23,24,25,26,27,28] ?_;(iterate 3 refine aK ?_);(iterate 5 refine gU ?_);(iterate 2 refine aK ?_);refine aP ?_;refine aT ?_;clear hY;clear f0 f1 f2 g0 g1 g2 p6 hlf;clear h0 h1 h2 hlh;clear t1 t2 hlt1 hlt2;have z0:=SM.out.frozen t;have s0:=SM.out.cell t hul;have hls:=SM.out.lt;have hqg1:q1'≠G:=by omega
         have hqg2:q2'≠G:=by omega
         go_wp2_with fail
         go_roundg (go-1)
         case measure=>omega
         case rel=>exact⟨t+1,cs.set t (u:Int),by omega,by go_num,MC.out.next ht GD.out,SM.out.set_ t hul _,T1.out.far (by show q1'≠G;omega) _,T2.out.far (by show q2'≠G;omega) _,E.out.set (by omega) t _,HB.out.far (by show Hb≠G;omega) _,HI5.out.keep (fun q hq=>World.cell?_setCell_other _ _ _ _ (fun e=>by subst e;simp at hq;omega))⟩
        case neg=>
         have di:(v == 4611686018427387904)=false:=by unfold aG at hvi;simpa using hvi
         have HVI:=aA hvi;clear hvi;refine aO [19,20,21,22,23,24,25] ?_;(iterate 7 refine aK ?_);refine aP ?_;refine aJ 26 (fun K hK=>?_);go_simp
         have tr:=vU A1 B1 A5 n1 m1 n5 c1 d1 c5 t u a b f wd (by exact E.out.ja) (by exact E.out.jb) (by exact(HI5.out.more (by omega))) HAO.out HBO.out FR.out.1 HCM.out (by omega) (by omega);rw [<- HKC.out] at tr;unfold bH at tr;have TR:=aA tr;clear tr;refine TR.out.mono ?_;rintro e wb ⟨⟨rz,hrz,rfl⟩,hbq⟩;have RZ:=aA hrz;clear hrz TR;have E:=aA (E.out.below hbq);have HI5:=aA (HI5.out.below (hbq.mono (by have:=HB.out.lt;omega)));have HB:=aA (HB.out.below hbq HB.out.lt)
         try (have T1:=aA (T1.out.below hbq T1.out.lt))
         try (have T2:=aA (T2.out.below hbq T2.out.lt))
         try (have SM:=aA (SM.out.below hbq SM.out.lt))
         clear hbq
         try clear hY
         clear f0 f1 f2 g0 g1 g2 p6 hlf;clear h0 h1 h2 hlh;clear t1 t2 hlt1 hlt2;obtain⟨⟨f0,f1,f2⟩,⟨g0,g1,g2⟩,p6,hlf⟩:=E.out.cells;obtain⟨⟨h0,h1,h2⟩,_,hlh⟩:=HB.out.c3;have t1:=T1.out.cell u (by rw [cU];exact huN);have t2:=T2.out.cell z (by rw [cU];exact hzN);rw [dT _ _ _ _ huN,Nat.zero_add,<- HX.out] at t1;rw [dT _ _ _ _ hzN,Nat.zero_add,<- HY.out] at t2;have hlt1:=T1.out.lt;have hlt2:=T2.out.lt;refine aH hK (by exact⟨⟨f0,f1,f2,g0,g1,g2,p6⟩,h0,h1,h2,t1,t2⟩) (fun hY=>?_);cases rz
         case false=>
          have huL:u<U:=by
           rcases Nat.lt_or_ge u U with h1|h1
           ·exact h1
           ·exfalso
            have e:u=U:=by omega
            have h2:=HU1.out.2.2;rw [<- e,<- HXX.out,<- HV.out] at h2;rcases h2 with h2|h2|h2
            ·exact HLT.out h2
            ·exact HVI.out h2
            ·have:=RZ.out.2 h2
             cases this
          refine aO [27,28] ?_;(iterate 2 refine aK ?_);refine aP ?_;refine aT ?_;clear hY;clear f0 f1 f2 g0 g1 g2 p6 hlf;clear h0 h1 h2 hlh;clear t1 t2 hlt1 hlt2;go_wp2_with fail
          go_roundg (gk-1)
          case measure=>omega
          case rel=>exact⟨u+1,cs,by omega,by go_num,MC.out,SM.out,T1.out,T2.out,E.out,HB.out,HI5.out⟩
         case true=>
          have GD:=aA (show n8 a b f t (u:Int) from by
           refine⟨u,rfl,⟨by omega,by rw [PQ.out,HPE.out,HV.out],.inr (.inr (RZ.out.1 (by first|rfl|trivial)))⟩,fun x hx=>HU2.out x (by omega)⟩)
          refine aO [27,28] ?_;(iterate 2 refine aK ?_);refine aP ?_;refine aT ?_;clear hY;clear f0 f1 f2 g0 g1 g2 p6 hlf;clear h0 h1 h2 hlh;clear t1 t2 hlt1 hlt2;have z0:=SM.out.frozen t;have s0:=SM.out.cell t hul;have hls:=SM.out.lt;have hqg1:q1'≠G:=by omega
          have hqg2:q2'≠G:=by omega
          go_wp2_with fail
          go_roundg (go-1)
          case measure=>omega
          case rel=>exact⟨t+1,cs.set t (u:Int),by omega,by go_num,MC.out.next ht GD.out,SM.out.set_ t hul _,T1.out.far (by show q1'≠G;omega) _,T2.out.far (by show q2'≠G;omega) _,E.out.set (by omega) t _,HB.out.far (by show Hb≠G;omega) _,HI5.out.keep (fun q hq=>World.cell?_setCell_other _ _ _ _ (fun e=>by subst e;simp at hq;omega))⟩
    ·have htX:t=N:=by omega
     subst htX;have AT:=aA (show uO a b f cs from by
      have h1:=MC.out;refine⟨by rw [h1.1,HNN.out,HXX.out,HK0.out],fun x hx=>?_⟩
      rw [h1.1] at hx;exact h1.2 x hx)
     have FIN:=aA (show l4 ⟨xs,p,i⟩ ⟨ys,q,j⟩ f (X:Int) cs 0 from⟨CS.out,.inr ⟨rfl,a,b,HNA.out,HNB.out,by rw [HXX.out],AT.out⟩⟩);have RB:=aA (RB0.out.below E.out.bw RB0.out.lt);have hcl:cs.length=t:=MC.out.1;have CI:=aA (show aE wr wr.heap.size (some ⟨G,0,none⟩) t cs from by rw [<- hcl];exact SM.out.ints);obtain⟨⟨r0,r1,r2,r3,r4⟩,⟨y0,y1,y2,y3,y4⟩,hlr⟩:=RB.out.d5;obtain⟨⟨h0,h1,h2⟩,_,hlh⟩:=HB.out.c3;go_wp2_with fail
     have rb:=RB.out.store5 (.slice A5 n5 c5) (.int .i64 f.per) (.int .i64 f.inc) (.int .i64 (X:Int)) (.slice (some ⟨G,0,none⟩) t t);have bwx:=aD BW0.out E.out.bw
     exact bodyPost_ret (v:=.tuple #[.agg #[.slice A5 n5 c5,.int .i64 f.per,.int .i64 f.inc,.int .i64 (X:Int),.slice (some ⟨G,0,none⟩) t t],.int .i64 0]) (by simp [results,Tryz.results9,go_sem,rb.cell]) rfl
      ⟨f,(X:Int),cs,0,FIN.out,A5,n5,c5,some ⟨G,0,none⟩,t,t,HC5.out,Nat.le_refl _,rfl,(HI5.out.more (by omega)).five HA5.out (by omega),CI.out.five (B:=Hb) (fun b off s e=>by injection e with e;injection e with e;omega) (by omega),(fun b off s e=>by have:=HA5.out b off s e;omega),(fun b off s e=>by injection e with e;injection e with e;omega),cE bwx (aR.five _ _ _ _ _ _ _) (by omega)⟩
end Go.Proofs.YtaejfleahamapaaGreat
