/- . -/
import Derived.Test.YtaejfleahamapaaGreatTd47
namespace Go.Proofs.YtaejfleahamapaaGreat
set_option linter.unusedVariables false
set_option linter.unusedSimpArgs false
set_option maxHeartbeats 4000000
set_option maxRecDepth 100000
open Go.RowKit
theorem aE.at0{w:World}{B ad of n:Nat}{zs:List Int}(h:aE w B (some ⟨ad,of,none⟩) n zs)(hn:0<n):w.cell? ⟨ad,of,none⟩=some (.int .i64 (aB zs 0))/\ad<B:=by
 obtain⟨b,o,he,hb,hc⟩:=h.2 hn
 injection he with he
 injection he with h1 h2
 subst h1 h2;have:=hc 0 hn
 rw [Nat.add_zero] at this;exact⟨this,hb⟩
theorem mX{x y:Nat}{p:Int}(hp:1<=p):((x:Int).tmod p=0↔p.toNat∣x):=by
 obtain⟨q,rfl⟩:=Int.eq_ofNat_of_zero_le (show 0<=p by omega);rw [Int.tmod_eq_emod_of_nonneg (by omega)];simp only [Int.toNat_natCast];rw [Nat.dvd_iff_mod_eq_zero];omega
theorem L9(A B C:Option Addr)(n m k c d s:Nat)(a b h:Cv)(w:World)(hA:aE w w.heap.size A n a.vals)(hB:aE w w.heap.size B m b.vals)(hC:aE w w.heap.size C k h.vals)(ha:a.Ok)(hb:b.Ok)(hk:(k:Int)<=1000000)(hK:aI a b<=120) :
 Calls Tryz.prog 53 #[.agg (bH A n c a B m d b (aI a b:Nat)),.agg #[.slice C k s,.int .i64 h.per,.int .i64 h.inc]] w (bM (h.Ok/\NF h.at h/\fB a b h) w):=by
 have a1:=ha.n1;have a2:=ha.n2;have a3:=ha.p1;have a4:=ha.p2;have a5:=ha.pn;have a6:=ha.i1;have a7:=ha.i2;have b1:=hb.n1;have b2:=hb.n2;have b3:=hb.p1;have b4:=hb.p2;have b5:=hb.pn;have b6:=hb.i1;have b7:=hb.i2;have hln:a.vals.length=n:=hA.1;have hlm:b.vals.length=m:=hB.1;have hlk:h.vals.length=k:=hC.1;rw [hln] at a1 a2 a5;rw [hlm] at b1 b2 b5;obtain⟨ad,oa,hAe,_⟩:=hA.2 (by omega);subst hAe;obtain⟨bd,ob,hBe,_⟩:=hB.2 (by omega);subst hBe;obtain⟨K0,hK0⟩:∃K0:Nat,K0=aI a b:=⟨_,rfl⟩
 obtain⟨KC,hKC⟩:∃KC:Int,KC=(K0:Int):=⟨_,rfl⟩
 have hKb1:1<=KC:=by have:=(iG ha hb).c1;omega
 have hKb2:KC<=120:=by omega
 obtain⟨fa,hfa⟩:∃z,z=(aB a.vals (n-1) != aG):=⟨_,rfl⟩
 obtain⟨fb,hfb⟩:∃z,z=(aB b.vals (m-1) != aG):=⟨_,rfl⟩
 have LA:=aA (show fa=true↔a.Fin from by rw [hfa,bne_iff_ne,<- hln];exact⟨fun h=>⟨ha,h⟩,fun h=>h.2⟩);have LB:=aA (show fb=true↔b.Fin from by rw [hfb,bne_iff_ne,<- hlm];exact⟨fun h=>⟨hb,h⟩,fun h=>h.2⟩);obtain⟨ga,hga⟩:∃z,z=((KC.toNat / a.per.toNat:Nat):Int)*a.inc:=⟨_,rfl⟩
 obtain⟨gb,hgb⟩:∃z,z=((KC.toNat / b.per.toNat:Nat):Int)*b.inc:=⟨_,rfl⟩
 obtain⟨gl,hgl⟩:∃z,z=((KC.toNat / h.per.toNat:Nat):Int)*h.inc:=⟨_,rfl⟩
 have HA1:=aA (show ga=bR a b from by rw [hga,hKC,hK0];rfl);have HB1:=aA (show gb=cH a b from by rw [hgb,hKC,hK0];rfl);have HL1:=aA (show gl=kS h (aI a b) from by rw [hgl,hKC,hK0];rfl);have hgb9:ga<4611686018427387904/\gb<4611686018427387904:=by
  have B:=iG ha hb;have h1:bR a b<=128849018880:=B.a1.2;have h2:cH a b<=128849018880:=B.a2.2;have:=HA1.out;have:=HB1.out
  omega
 obtain⟨hga9,hgb9⟩:=hgb9;obtain⟨a0,ha0⟩:∃z,z=aB a.vals 0:=⟨_,rfl⟩
 obtain⟨b0,hb0⟩:∃z,z=aB b.vals 0:=⟨_,rfl⟩
 have HFA:=aA hfa;have HFB:=aA hfb;have HGA:=aA hga;have HGB:=aA hgb;have HGL:=aA hgl;have HA0:=aA ha0;have HB0:=aA hb0;have HK0:=aA (show KC=((aI a b:Nat):Int) from by rw [hKC,hK0]);have HLK:=aA hlk;rw [<- hK0,<- hKC];have E:=aA (CH.new (c:=c) (d:=d) (K:=KC) (s:=s) (h:=h) hA hB hC);have HAO:=aA ha;have HBO:=aA hb;clear hA hB hC ha hb hln hlm hlk hK hKC hK0 hfa hfb hga hgb hgl ha0 hb0;unfold bH at E;unfold bH;go_enter Tryz.func53,Tryz.ntmps53
 go_upto_region 1 with fail
 generalize hwe:(w.alloc (.cells #[.slice (some ⟨ad,oa,none⟩) n c,.int .i64 a.per,.int .i64 a.inc,.slice (some ⟨bd,ob,none⟩) m d,.int .i64 b.per,.int .i64 b.inc,.int .i64 KC] 91)).alloc (.cells #[.slice C k s,.int .i64 h.per,.int .i64 h.inc] 26)=we at *;clear hwe;have E:Hid (CH w we (some ⟨ad,oa,none⟩) n c a (some ⟨bd,ob,none⟩) m d b KC C k s h):=E;generalize (Value.agg #[.slice (some ⟨ad,oa,none⟩) n c,.int .i64 a.per,.int .i64 a.inc,.slice (some ⟨bd,ob,none⟩) m d,.int .i64 b.per,.int .i64 b.inc,.int .i64 KC])=v0;generalize (Value.agg #[.slice C k s,.int .i64 h.per,.int .i64 h.inc])=v1;obtain⟨⟨f0,f1,f2⟩,⟨g0,g1,g2⟩,p6,⟨h0,h1,h2⟩,hlh⟩:=E.out.cells;go_wp2_with fail
 refine(jR C k s h.per h.inc h.vals _ (by exact E.out.jc) hk).mono ?_;rintro e w4 ⟨nn,er,hN,A5,n5,c5,rfl,hI5,hA5,hbq⟩;have HN:=aA (i4.of hN);have HI5:=aA (hI5.alloc' (.cells #[.slice A5 n5 c5,.int .i64 nn.per,.int .i64 nn.inc] 26));have NB:=aA (aC.new w4 26 #[.slice A5 n5 c5,.int .i64 nn.per,.int .i64 nn.inc]);have E:=aA ((E.out.below hbq).alloc (.cells #[.slice A5 n5 c5,.int .i64 nn.per,.int .i64 nn.inc] 26));clear hN hI5 hA5 hbq;clear f0 f1 f2 g0 g1 g2 p6 h0 h1 h2 hlh;go_upto_region 2 with fail
 generalize hwe:w4.alloc (.cells #[.slice A5 n5 c5,.int .i64 nn.per,.int .i64 nn.inc] 26)=w5 at *;clear hwe;generalize w4.heap.size=Nb at *;rcases HN.out with ⟨hho,hnf,hno,rfl⟩|⟨hno,rfl,rfl⟩
 case inr=>
  have HNO:=aA hno;clear hno HN;have FIN:=aA (show ¬(h.Ok/\NF h.at h/\fB a b h) from(fun hc=>HNO.out hc.1));have bw:=E.out.bw;go_wp2_with fail
  go_ret
  exact bM.no FIN.out bw
 case inl=>
  have HHO:=aA hho;have HNF:=aA hnf;have hn5:=hno.n2;rw [HI5.out.1] at hn5;clear hho hnf hno HN;obtain⟨⟨f0,f1,f2⟩,⟨g0,g1,g2⟩,p6,⟨h0,h1,h2⟩,hlh⟩:=E.out.cells;obtain⟨⟨k0,k1,k2⟩,_,hlk⟩:=NB.out.c3;go_wp2_with fail
  refine(a3i A5 C n5 k c5 s nn.per h.per nn.inc h.inc nn.vals h.vals _ (by exact HI5.out) (by exact E.out.jc) (by omega) hk).mono ?_;rintro e w6 ⟨rfl,hb⟩;obtain⟨z,hz⟩:∃z,z=Cv.same ⟨nn.vals,nn.per,nn.inc⟩ ⟨h.vals,h.per,h.inc⟩:=⟨_,rfl⟩
  rw [<- hz];have HZ:=aA (show z=true↔nn=h from by rw [hz];exact Cv.same_iff nn h);clear hz k0 k1 k2 hlk HI5 NB hn5;replace E:=aA (E.out.below hb);clear hb
  try clear hH
  clear f0 f1 f2 g0 g1 g2 p6 h0 h1 h2 hlh;obtain⟨⟨f0,f1,f2⟩,⟨g0,g1,g2⟩,p6,⟨h0,h1,h2⟩,hlh⟩:=E.out.cells;cases z
  case false=>
   have FIN:=aA (show ¬(h.Ok/\NF h.at h/\fB a b h) from(fun hc=>by have:=HZ.out.2 (NF.unique HNF.out hc.2.1);cases this));have bw:=E.out.bw;go_wp2_with fail
   go_ret
   exact bM.no FIN.out bw
  case true=>
   have hnn:=HZ.out.1 rfl;have HNF:=aA (show NF h.at h from by have h1:=HNF.out;rwa [hnn] at h1);clear hnn HZ;have ff:=HHO.out;have c1':=ff.n1;have c2':=ff.n2;have c3':=ff.p1;have c4':=ff.p2;have c5':=ff.pn;have c6':=ff.i1;have c7':=ff.i2;rw [HLK.out] at c1' c2' c5';clear ff;obtain⟨fh,hfh⟩:∃z,z=(aB h.vals (k-1) != aG):=⟨_,rfl⟩
   have HFH:=aA hfh;have LH:=aA (show fh=true↔h.Fin from by rw [hfh,bne_iff_ne,<- HLK.out];exact⟨fun h=>⟨HHO.out,h⟩,fun h=>h.2⟩);clear hfh;obtain⟨zz,hzz⟩:∃zz,zz=(fh != ((fa || fb) && (a0 != aG) && (b0 != aG))):=⟨_,rfl⟩
   have ZL:=aA (show zz=false↔(h.Fin↔(a.Fin\/b.Fin)/\aB a.vals 0≠aG/\aB b.vals 0≠aG) from by
    rw [hzz,<- LH.out,<- LA.out,<- LB.out,<- HA0.out,<- HB0.out];by_cases i1:a0=aG <;> by_cases i2:b0=aG <;> cases fh <;> cases fa <;> cases fb <;> simp [i1,i2])
   have HZZ:=aA hzz;clear hzz;go_upto_region 4 with fail
   have E:=aA E.out.drew;clear f0 f1 f2 g0 g1 g2 p6 h0 h1 h2 hlh;obtain⟨⟨f0,f1,f2⟩,⟨g0,g1,g2⟩,p6,⟨h0,h1,h2⟩,hlh⟩:=E.out.cells;refine wp_region_held_drew (S:=(fun w'=>w'.cell? ⟨w.heap.size,0,none⟩=some (.slice (some ⟨ad,oa,none⟩) n c)/\w'.cell? ⟨w.heap.size,1,none⟩=some (.int .i64 a.per)/\w'.cell? ⟨w.heap.size,2,none⟩=some (.int .i64 a.inc)/\w'.cell? ⟨w.heap.size,3,none⟩=some (.slice (some ⟨bd,ob,none⟩) m d)/\w'.cell? ⟨w.heap.size,4,none⟩=some (.int .i64 b.per)/\w'.cell? ⟨w.heap.size,5,none⟩=some (.int .i64 b.inc)/\w'.cell? ⟨w.heap.size,6,none⟩=some (.int .i64 KC)/\w'.cell? ⟨w.heap.size+1,0,none⟩=some (.slice C k s)/\w'.cell? ⟨w.heap.size+1,1,none⟩=some (.int .i64 h.per)/\w'.cell? ⟨w.heap.size+1,2,none⟩=some (.int .i64 h.inc))) (by kernel_rfl) (by exact⟨f0,f1,f2,g0,g1,g2,p6,h0,h1,h2⟩) (fun hH=>?_);generalize hwd:w6.drew=wd at *;clear hwd;refine aO [0,1,3,4] ?_;(iterate 4 refine aK ?_);refine aP ?_;refine aJ 2 (fun K hK=>?_);go_simp
   refine(gN _ n c a.per a.inc a.vals _ (by exact E.out.ja) (by omega) (by omega)).mono ?_;rw [<- HFA.out];rintro e wf ⟨rfl,hb⟩;replace E:=aA (E.out.below hb);clear hb
   try clear hH
   clear f0 f1 f2 g0 g1 g2 p6 h0 h1 h2 hlh;obtain⟨⟨f0,f1,f2⟩,⟨g0,g1,g2⟩,p6,⟨h0,h1,h2⟩,hlh⟩:=E.out.cells;refine aH hK (by exact⟨f0,f1,f2,g0,g1,g2,p6,h0,h1,h2⟩) (fun hH=>?_);refine aJ 5 (fun K hK=>?_);go_simp
   refine(gN _ m d b.per b.inc b.vals _ (by exact E.out.jb) (by omega) (by omega)).mono ?_;rw [<- HFB.out];rintro e wg ⟨rfl,hb⟩;replace E:=aA (E.out.below hb);clear hb
   try clear hH
   clear f0 f1 f2 g0 g1 g2 p6 h0 h1 h2 hlh;obtain⟨⟨f0,f1,f2⟩,⟨g0,g1,g2⟩,p6,⟨h0,h1,h2⟩,hlh⟩:=E.out.cells;refine aH hK (by exact⟨f0,f1,f2,g0,g1,g2,p6,h0,h1,h2⟩) (fun hH=>?_);refine aO [6,7] ?_;(iterate 2 refine aK ?_);refine aP ?_;refine aT ?_
   try clear hH
   go_upto_region 5 with fail
   go_cut [51] (fun s51 wx=>s51 = .bool zz/\CH w wx (some ⟨ad,oa,none⟩) n c a (some ⟨bd,ob,none⟩) m d b KC C k s h)
   case first=>
    go_wp2_with fail
    refine(gN C k s h.per h.inc h.vals _ (by exact E.out.jc) (by omega) (by omega)).mono ?_;rw [<- HFH.out];rintro e w7 ⟨rfl,hb⟩;replace E:=aA (E.out.below hb);clear hb
    try clear hH
    clear f0 f1 f2 g0 g1 g2 p6 h0 h1 h2 hlh;obtain⟨⟨f0,f1,f2⟩,⟨g0,g1,g2⟩,p6,⟨h0,h1,h2⟩,hlh⟩:=E.out.cells;cases fh <;> cases fa <;> cases fb
    case false.false.false=>
     go_wp2_with fail
     go_meet
     exact⟨congrArg Value.bool (by rw [HZZ.out];rfl),E.out⟩
    case true.false.false=>
     go_wp2_with fail
     go_meet
     exact⟨congrArg Value.bool (by rw [HZZ.out];rfl),E.out⟩
    all_goals
     obtain⟨k0,kl0⟩:=E.out.ja.at0 (by omega);obtain⟨k1,kl1⟩:=E.out.jb.at0 (by omega);rw [<- HA0.out] at k0;rw [<- HB0.out] at k1;by_cases ia:a0=aG
     ·have da:(a0 != 4611686018427387904)=false:=by unfold aG at ia;simpa using ia
      have da2:(a0 != aG)=false:=by simpa using ia
      have DA:=aA da2;clear ia da2;go_wp2_with fail
      go_meet
      exact⟨congrArg Value.bool (by rw [HZZ.out];(rw [DA.out];rfl)),E.out⟩
     ·have da:(a0 != 4611686018427387904)=true:=by unfold aG at ia;simpa using ia
      have da2:(a0 != aG)=true:=by simpa using ia
      have DA:=aA da2;clear ia da2;by_cases ib:b0=aG
      ·have db:(b0 != 4611686018427387904)=false:=by unfold aG at ib;simpa using ib
       have db2:(b0 != aG)=false:=by simpa using ib
       have DB:=aA db2;clear ib db2;go_wp2_with fail
       go_meet
       exact⟨congrArg Value.bool (by rw [HZZ.out];(rw [DA.out,DB.out];rfl)),E.out⟩
      ·have db:(b0 != 4611686018427387904)=true:=by unfold aG at ib;simpa using ib
       have db2:(b0 != aG)=true:=by simpa using ib
       have DB:=aA db2;clear ib db2;go_wp2_with fail
       go_meet
       exact⟨congrArg Value.bool (by rw [HZZ.out];(rw [DA.out,DB.out];rfl)),E.out⟩
   case rest=>
    clear E
    try clear f0 f1 f2 g0 g1 g2 p6 h0 h1 h2 hlh
    obtain⟨rfl,hE⟩:=hcut;have E:=aA hE;clear hE;cases zz
    case true=>
     have FIN:=aA (show ¬(h.Ok/\NF h.at h/\fB a b h) from(fun hc=>by have:=ZL.out.2 hc.2.2.1;cases this));have bw:=E.out.bw;go_wp2_with fail
     go_ret
     exact bM.no FIN.out bw
    case false=>
     have ZF:=aA (ZL.out.1 rfl);obtain⟨⟨f0,f1,f2⟩,⟨g0,g1,g2⟩,p6,⟨h0,h1,h2⟩,hlh⟩:=E.out.cells;go_wp2_with fail
     refine(gN C k s h.per h.inc h.vals _ (by exact E.out.jc) (by omega) (by omega)).mono ?_;rw [<- HFH.out];rintro e w7 ⟨rfl,hb⟩;replace E:=aA (E.out.below hb);clear hb
     try clear hH
     clear f0 f1 f2 g0 g1 g2 p6 h0 h1 h2 hlh;obtain⟨⟨f0,f1,f2⟩,⟨g0,g1,g2⟩,p6,⟨h0,h1,h2⟩,hlh⟩:=E.out.cells;cases fh
     case false=>
      have FIN:=aA (show h.Ok/\NF h.at h/\fB a b h from⟨HHO.out,HNF.out,ZF.out,fun hf=>by have:=LH.out.2 hf;cases this⟩);have bw:=E.out.bw;go_wp2_with fail
      go_ret
      exact bM.yes FIN.out bw
     case true=>
      have FH:=aA (LH.out.1 (by first|rfl|trivial));obtain⟨r,hr⟩:∃r,r=KC.tmod h.per:=⟨_,rfl⟩
      have HR:=aA (show r=((aI a b:Nat):Int).tmod h.per from by rw [hr,HK0.out]);have hp0:¬h.per=0:=by omega
      have er1:KC.tmod h.per=r:=hr.symm;have er2:KC % h.per=r:=by rw [hr,Int.tmod_eq_emod_of_nonneg (by omega)]
      clear hr;cases fa <;> cases fb
      case false.false=>
       exfalso
       rcases (ZF.out.1 FH.out).1 with h'|h'
       ·have:=LA.out.2 h';cases this
       ·have:=LB.out.2 h';cases this
      case true.false=>
       have GA:=aA (LA.out.1 (by first|rfl|trivial));have GB:=aA (show ¬b.Fin from fun h'=>by have:=LB.out.2 h';cases this);go_wp2_with fail
       refine(fI _ n c a.per a.inc KC _ (by omega) (by omega) (by omega) (by omega) (by omega)).mono ?_;rw [<- HGA.out];rintro e w8 ⟨rfl,hb⟩;replace E:=aA (E.out.below hb);clear hb
       try clear hH
       clear f0 f1 f2 g0 g1 g2 p6 h0 h1 h2 hlh;obtain⟨⟨f0,f1,f2⟩,⟨g0,g1,g2⟩,p6,⟨h0,h1,h2⟩,hlh⟩:=E.out.cells;have SL:=aA (show jG a b=ga from (by rw [tZ GA.out GB.out,HA1.out]));by_cases hr0:r=0
       case neg=>
        have dr:(r == 0)=false:=by simpa using hr0
        have HR0:=aA hr0;clear hr0;have FIN:=aA (show ¬(h.Ok/\NF h.at h/\fB a b h) from(fun hc=>HR0.out (by rw [HR.out];exact(mX (y:=0) c3').2 ((hc.2.2.2 FH.out).1))));have bw:=E.out.bw;go_wp2_with fail
        go_ret
        exact bM.no FIN.out bw
       case pos=>
        have dr:(r == 0)=true:=by simpa using hr0
        have DV:=aA (show h.per.toNat∣aI a b from(mX (y:=0) c3').1 (by rw [<- HR.out];exact hr0));clear hr0;go_wp2_with fail
        refine(fI C k s h.per h.inc KC _ (by omega) (by omega) (by omega) (by omega) (by omega)).mono ?_;rw [<- HGL.out];rintro e wg ⟨rfl,hb⟩;replace E:=aA (E.out.below hb);clear hb
        try clear hH
        clear f0 f1 f2 g0 g1 g2 p6 h0 h1 h2 hlh;obtain⟨⟨f0,f1,f2⟩,⟨g0,g1,g2⟩,p6,⟨h0,h1,h2⟩,hlh⟩:=E.out.cells;by_cases q1:gl=ga
        case neg=>
         have d1:(gl == ga)=false:=by simpa using q1
         have Q1:=aA q1;clear q1;have FIN:=aA (show ¬(h.Ok/\NF h.at h/\fB a b h) from(fun hc=>Q1.out (by rw [HL1.out,<- SL.out];exact(hc.2.2.2 FH.out).2)));have bw:=E.out.bw;go_wp2_with fail
         go_ret
         exact bM.no FIN.out bw
        case pos=>
         have d1:(gl == ga)=true:=by simpa using q1
         have Q1:=aA q1;clear q1;have FIN:=aA (show h.Ok/\NF h.at h/\fB a b h from⟨HHO.out,HNF.out,ZF.out,fun _=>⟨DV.out,by rw [<- HL1.out,SL.out];exact Q1.out⟩⟩);have bw:=E.out.bw;go_wp2_with fail
         go_ret
         exact bM.yes FIN.out bw
      case false.true=>
       have GB:=aA (LB.out.1 (by first|rfl|trivial));have GA:=aA (show ¬a.Fin from fun h'=>by have:=LA.out.2 h';cases this);have em1:(if(4611686018427387904:Int)<gb then 4611686018427387904 else gb)=gb:=by rw [if_neg (by omega)]
       have em2:(if gb<(4611686018427387904:Int) then gb else 4611686018427387904)=gb:=by rw [if_pos (by omega)]
       go_wp2_with fail
       refine(fI _ m d b.per b.inc KC _ (by omega) (by omega) (by omega) (by omega) (by omega)).mono ?_;rw [<- HGB.out];rintro e w8 ⟨rfl,hb⟩;replace E:=aA (E.out.below hb);clear hb
       try clear hH
       clear f0 f1 f2 g0 g1 g2 p6 h0 h1 h2 hlh;obtain⟨⟨f0,f1,f2⟩,⟨g0,g1,g2⟩,p6,⟨h0,h1,h2⟩,hlh⟩:=E.out.cells;have SL:=aA (show jG a b=gb from (by rw [t5 GA.out GB.out,HB1.out]));by_cases hr0:r=0
       case neg=>
        have dr:(r == 0)=false:=by simpa using hr0
        have HR0:=aA hr0;clear hr0;have FIN:=aA (show ¬(h.Ok/\NF h.at h/\fB a b h) from(fun hc=>HR0.out (by rw [HR.out];exact(mX (y:=0) c3').2 ((hc.2.2.2 FH.out).1))));have bw:=E.out.bw;go_wp2_with fail
        go_ret
        exact bM.no FIN.out bw
       case pos=>
        have dr:(r == 0)=true:=by simpa using hr0
        have DV:=aA (show h.per.toNat∣aI a b from(mX (y:=0) c3').1 (by rw [<- HR.out];exact hr0));clear hr0;go_wp2_with fail
        refine(fI C k s h.per h.inc KC _ (by omega) (by omega) (by omega) (by omega) (by omega)).mono ?_;rw [<- HGL.out];rintro e wg ⟨rfl,hb⟩;replace E:=aA (E.out.below hb);clear hb
        try clear hH
        clear f0 f1 f2 g0 g1 g2 p6 h0 h1 h2 hlh;obtain⟨⟨f0,f1,f2⟩,⟨g0,g1,g2⟩,p6,⟨h0,h1,h2⟩,hlh⟩:=E.out.cells;by_cases q1:gl=gb
        case neg=>
         have d1:(gl == gb)=false:=by simpa using q1
         have Q1:=aA q1;clear q1;have FIN:=aA (show ¬(h.Ok/\NF h.at h/\fB a b h) from(fun hc=>Q1.out (by rw [HL1.out,<- SL.out];exact(hc.2.2.2 FH.out).2)));have bw:=E.out.bw;go_wp2_with fail
         go_ret
         exact bM.no FIN.out bw
        case pos=>
         have d1:(gl == gb)=true:=by simpa using q1
         have Q1:=aA q1;clear q1;have FIN:=aA (show h.Ok/\NF h.at h/\fB a b h from⟨HHO.out,HNF.out,ZF.out,fun _=>⟨DV.out,by rw [<- HL1.out,SL.out];exact Q1.out⟩⟩);have bw:=E.out.bw;go_wp2_with fail
         go_ret
         exact bM.yes FIN.out bw
      case true.true=>
       have GA:=aA (LA.out.1 (by first|rfl|trivial));have GB:=aA (LB.out.1 (by first|rfl|trivial));obtain⟨sl,hsl⟩:∃sl,sl=min ga gb:=⟨_,rfl⟩
       have HSL:=aA hsl;have em1:(if ga<gb then ga else gb)=sl:=by rw [hsl];split <;> omega
       have em2:(if gb<ga then gb else ga)=sl:=by rw [hsl];split <;> omega
       clear hsl;go_wp2_with fail
       refine(fI _ n c a.per a.inc KC _ (by omega) (by omega) (by omega) (by omega) (by omega)).mono ?_;rw [<- HGA.out];rintro e w8 ⟨rfl,hb⟩;replace E:=aA (E.out.below hb);clear hb
       try clear hH
       clear f0 f1 f2 g0 g1 g2 p6 h0 h1 h2 hlh;obtain⟨⟨f0,f1,f2⟩,⟨g0,g1,g2⟩,p6,⟨h0,h1,h2⟩,hlh⟩:=E.out.cells;go_wp2_with fail
       refine(fI _ m d b.per b.inc KC _ (by omega) (by omega) (by omega) (by omega) (by omega)).mono ?_;rw [<- HGB.out];rintro e w9 ⟨rfl,hb⟩;replace E:=aA (E.out.below hb);clear hb
       try clear hH
       clear f0 f1 f2 g0 g1 g2 p6 h0 h1 h2 hlh;obtain⟨⟨f0,f1,f2⟩,⟨g0,g1,g2⟩,p6,⟨h0,h1,h2⟩,hlh⟩:=E.out.cells;have SL:=aA (show jG a b=sl from (by rw [tY GA.out GB.out,HSL.out,HA1.out,HB1.out]));by_cases hr0:r=0
       case neg=>
        have dr:(r == 0)=false:=by simpa using hr0
        have HR0:=aA hr0;clear hr0;have FIN:=aA (show ¬(h.Ok/\NF h.at h/\fB a b h) from(fun hc=>HR0.out (by rw [HR.out];exact(mX (y:=0) c3').2 ((hc.2.2.2 FH.out).1))));have bw:=E.out.bw;go_wp2_with fail
        go_ret
        exact bM.no FIN.out bw
       case pos=>
        have dr:(r == 0)=true:=by simpa using hr0
        have DV:=aA (show h.per.toNat∣aI a b from(mX (y:=0) c3').1 (by rw [<- HR.out];exact hr0));clear hr0;go_wp2_with fail
        refine(fI C k s h.per h.inc KC _ (by omega) (by omega) (by omega) (by omega) (by omega)).mono ?_;rw [<- HGL.out];rintro e wg ⟨rfl,hb⟩;replace E:=aA (E.out.below hb);clear hb
        try clear hH
        clear f0 f1 f2 g0 g1 g2 p6 h0 h1 h2 hlh;obtain⟨⟨f0,f1,f2⟩,⟨g0,g1,g2⟩,p6,⟨h0,h1,h2⟩,hlh⟩:=E.out.cells;by_cases q1:gl=sl
        case neg=>
         have d1:(gl == sl)=false:=by simpa using q1
         have Q1:=aA q1;clear q1;have FIN:=aA (show ¬(h.Ok/\NF h.at h/\fB a b h) from(fun hc=>Q1.out (by rw [HL1.out,<- SL.out];exact(hc.2.2.2 FH.out).2)));have bw:=E.out.bw;go_wp2_with fail
         go_ret
         exact bM.no FIN.out bw
        case pos=>
         have d1:(gl == sl)=true:=by simpa using q1
         have Q1:=aA q1;clear q1;have FIN:=aA (show h.Ok/\NF h.at h/\fB a b h from⟨HHO.out,HNF.out,ZF.out,fun _=>⟨DV.out,by rw [<- HL1.out,SL.out];exact Q1.out⟩⟩);have bw:=E.out.bw;go_wp2_with fail
         go_ret
         exact bM.yes FIN.out bw
structure CT(w wx:World)(A:Option Addr)(n c:Nat)(a:Cv)(B:Option Addr)(m d:Nat)(b:Cv)(K:Int)(C:Option Addr)(k s:Nat)(h:Cv)(fr:Int)(D:Option Addr)(x y:Nat)(cs:List Int):Prop where
 pb:aC wx w.heap.size 91 (bH A n c a B m d b K)
 ia:aE wx w.heap.size A n a.vals
 ib:aE wx w.heap.size B m b.vals
 hb:aC wx (w.heap.size+1) 29 #[.slice C k s,.int .i64 h.per,.int .i64 h.inc,.int .i64 fr,.slice D x y]
 ic:aE wx w.heap.size C k h.vals
 id:aE wx w.heap.size D x cs
 bw:Below w.heap.size w wx
section
variable{w wx wy:World}{A B C D:Option Addr}{n c m d k s x y:Nat}{a b h:Cv}{K fr:Int}{cs:List Int}
theorem CT.new(hA:aE w w.heap.size A n a.vals)(hB:aE w w.heap.size B m b.vals)(hC:aE w w.heap.size C k h.vals)(hD:aE w w.heap.size D x cs) :
 CT w ((w.alloc (.cells (bH A n c a B m d b K) 91)).alloc (.cells #[.slice C k s,.int .i64 h.per,.int .i64 h.inc,.int .i64 fr,.slice D x y] 29)) A n c a B m d b K C k s h fr D x y cs:=by
 have rb:=aC.new (w.alloc (.cells (bH A n c a B m d b K) 91)) 29 #[.slice C k s,.int .i64 h.per,.int .i64 h.inc,.int .i64 fr,.slice D x y];rw [World.size_alloc] at rb;exact⟨(aC.new _ _ _).alloc _,(hA.alloc (Nat.le_refl _) _).alloc (by simp) _,(hB.alloc (Nat.le_refl _) _).alloc (by simp) _,rb,(hC.alloc (Nat.le_refl _) _).alloc (by simp) _,(hD.alloc (Nat.le_refl _) _).alloc (by simp) _,aD (aF _ _) (aF _ _)⟩
theorem CT.below(h':CT w wx A n c a B m d b K C k s h fr D x y cs)(hb:Below wx.heap.size wx wy):CT w wy A n c a B m d b K C k s h fr D x y cs:=
 ⟨h'.pb.below hb h'.pb.lt,h'.ia.below (hb.mono h'.bw.size),h'.ib.below (hb.mono h'.bw.size),h'.hb.below hb h'.hb.lt,h'.ic.below (hb.mono h'.bw.size),h'.id.below (hb.mono h'.bw.size),aD h'.bw hb⟩
theorem CT.drew(h':CT w wx A n c a B m d b K C k s h fr D x y cs):CT w wx.drew A n c a B m d b K C k s h fr D x y cs:=⟨h'.pb,h'.ia,h'.ib,h'.hb,h'.ic,h'.id,Below.drew h'.bw⟩
theorem CT.ja(h':CT w wx A n c a B m d b K C k s h fr D x y cs):aE wx wx.heap.size A n a.vals:=h'.ia.more h'.bw.size
theorem CT.jb(h':CT w wx A n c a B m d b K C k s h fr D x y cs):aE wx wx.heap.size B m b.vals:=h'.ib.more h'.bw.size
theorem CT.jc(h':CT w wx A n c a B m d b K C k s h fr D x y cs):aE wx wx.heap.size C k h.vals:=h'.ic.more h'.bw.size
theorem CT.jd(h':CT w wx A n c a B m d b K C k s h fr D x y cs):aE wx wx.heap.size D x cs:=h'.id.more h'.bw.size
theorem CT.cells(h':CT w wx A n c a B m d b K C k s h fr D x y cs):(wx.cell? ⟨w.heap.size,0,none⟩=some (.slice A n c)/\wx.cell? ⟨w.heap.size,1,none⟩=some (.int .i64 a.per)/\wx.cell? ⟨w.heap.size,2,none⟩=some (.int .i64 a.inc))/\
 (wx.cell? ⟨w.heap.size,3,none⟩=some (.slice B m d)/\wx.cell? ⟨w.heap.size,4,none⟩=some (.int .i64 b.per)/\wx.cell? ⟨w.heap.size,5,none⟩=some (.int .i64 b.inc))/\wx.cell? ⟨w.heap.size,6,none⟩=some (.int .i64 K)/\
 (wx.cell? ⟨w.heap.size+1,0,none⟩=some (.slice C k s)/\wx.cell? ⟨w.heap.size+1,1,none⟩=some (.int .i64 h.per)/\wx.cell? ⟨w.heap.size+1,2,none⟩=some (.int .i64 h.inc))/\(wx.cell? ⟨w.heap.size+1,3,none⟩=some (.int .i64 fr)/\wx.cell? ⟨w.heap.size+1,4,none⟩=some (.slice D x y))/\w.heap.size+1<wx.heap.size:=by
 have q:=fun i=>h'.pb.cell i
 have q0:=q 0;have q1:=q 1;have q2:=q 2;have q3:=q 3;have q4:=q 4;have q5:=q 5;have q6:=q 6;have r:=fun i=>h'.hb.cell i
 have r0:=r 0;have r1:=r 1;have r2:=r 2;have r3:=r 3;have r4:=r 4;simp [bH] at q0 q1 q2 q3 q4 q5 q6 r0 r1 r2 r3 r4
 exact⟨⟨q0,q1,q2⟩,⟨q3,q4,q5⟩,q6,⟨r0,r1,r2⟩,⟨r3,r4⟩,h'.hb.lt⟩
end
theorem K5(A B C D:Option Addr)(n m k x c d s y:Nat)(a b h:Cv)(fr:Int)(cs:List Int)(w:World)(hA:aE w w.heap.size A n a.vals)(hB:aE w w.heap.size B m b.vals)(hC:aE w w.heap.size C k h.vals)(hD:aE w w.heap.size D x cs)(ha:a.Ok)(hb:b.Ok)(hh:h.Ok)(hx:(x:Int)<=1000000)(hK:aI a b<=120) :
 Calls Tryz.prog 55 #[.agg (bH A n c a B m d b (aI a b:Nat)),.agg #[.slice C k s,.int .i64 h.per,.int .i64 h.inc,.int .i64 fr,.slice D x y]] w (bM (iM a b h fr cs) w):=by
 have a1:=ha.n1;have a2:=ha.n2;have a3:=ha.p1;have a4:=ha.p2;have a5:=ha.pn;have a6:=ha.i1;have a7:=ha.i2;have b1:=hb.n1;have b2:=hb.n2;have b3:=hb.p1;have b4:=hb.p2;have b5:=hb.pn;have b6:=hb.i1;have b7:=hb.i2;have c1':=hh.n1;have c2':=hh.n2;have c3':=hh.p1;have c4':=hh.p2;have c5':=hh.pn;have c6':=hh.i1;have c7':=hh.i2;have hln:a.vals.length=n:=hA.1;have hlm:b.vals.length=m:=hB.1;have hlk:h.vals.length=k:=hC.1;rw [hln] at a1 a2 a5;rw [hlm] at b1 b2 b5;rw [hlk] at c1' c2' c5';have hlx:cs.length=x:=hD.1;obtain⟨K0,hK0⟩:∃K0:Nat,K0=aI a b:=⟨_,rfl⟩
 obtain⟨KC,hKC⟩:∃KC:Int,KC=((aI a b:Nat):Int):=⟨_,rfl⟩
 have hKb1:0<=KC:=by omega
 have hKb2:KC<=120:=by omega
 obtain⟨X,hX⟩:∃X:Nat,X=eA a b h:=⟨_,rfl⟩
 obtain⟨N,hN⟩:∃N:Nat,N=X+K0:=⟨_,rfl⟩
 have hX5:X<=920:=by
  have s1:=eO ha;have s2:=eO hb;have s3:=eO hh;rw [hX];unfold eA;omega
 have hN9:N<=1040:=by omega
 have e1:IntKind.i64.wrap ((X:Int)+KC)=(N:Int):=by rw [IntWalk.i64_in _ (by omega)];omega
 have e2:(X:Int)+KC=(N:Int):=by omega
 have e3:IntKind.i64.wrap (N:Int)=(N:Int):=IntWalk.i64_in _ (by omega);have HAO:=aA ha;have HBO:=aA hb;have HHO:=aA hh;have HKC:=aA hKC;have HKK:=aA hK;have HLX:=aA hlx;have HXX:=aA hX;have HNN:=aA (show N=eA a b h+aI a b from by omega);rw [<- hKC];have E:=aA (CT.new (c:=c) (d:=d) (K:=KC) (s:=s) (h:=h) (fr:=fr) (y:=y) hA hB hC hD);clear hA hB hC hD ha hb hh hln hlm hlk hlx hK hKC hK0 hX hN;unfold bH at E;unfold bH;go_enter Tryz.func55,Tryz.ntmps55
 go_upto_region 1 with fail
 generalize hwe:(w.alloc (.cells #[.slice A n c,.int .i64 a.per,.int .i64 a.inc,.slice B m d,.int .i64 b.per,.int .i64 b.inc,.int .i64 KC] 91)).alloc (.cells #[.slice C k s,.int .i64 h.per,.int .i64 h.inc,.int .i64 fr,.slice D x y] 29)=we at *;clear hwe;have E:Hid (CT w we A n c a B m d b KC C k s h fr D x y cs):=E;generalize (Value.agg #[.slice A n c,.int .i64 a.per,.int .i64 a.inc,.slice B m d,.int .i64 b.per,.int .i64 b.inc,.int .i64 KC])=v0;generalize (Value.agg #[.slice C k s,.int .i64 h.per,.int .i64 h.inc,.int .i64 fr,.slice D x y])=v1;have E:=aA E.out.drew;obtain⟨⟨f0,f1,f2⟩,⟨g0,g1,g2⟩,p6,⟨h0,h1,h2⟩,⟨h3,h4⟩,hlh⟩:=E.out.cells;refine wp_region_held_drew (S:=(fun w'=>w'.cell? ⟨w.heap.size,0,none⟩=some (.slice A n c)/\w'.cell? ⟨w.heap.size,1,none⟩=some (.int .i64 a.per)/\w'.cell? ⟨w.heap.size,2,none⟩=some (.int .i64 a.inc)/\w'.cell? ⟨w.heap.size,3,none⟩=some (.slice B m d)/\w'.cell? ⟨w.heap.size,4,none⟩=some (.int .i64 b.per)/\w'.cell? ⟨w.heap.size,5,none⟩=some (.int .i64 b.inc)/\w'.cell? ⟨w.heap.size,6,none⟩=some (.int .i64 KC)/\w'.cell? ⟨w.heap.size+1,0,none⟩=some (.slice C k s)/\w'.cell? ⟨w.heap.size+1,1,none⟩=some (.int .i64 h.per)/\w'.cell? ⟨w.heap.size+1,2,none⟩=some (.int .i64 h.inc)/\w'.cell? ⟨w.heap.size+1,3,none⟩=some (.int .i64 (fr))/\w'.cell? ⟨w.heap.size+1,4,none⟩=some (.slice D x y))) (by kernel_rfl) (by exact⟨f0,f1,f2,g0,g1,g2,p6,h0,h1,h2,h3,h4⟩) (fun hH=>?_);generalize hwd:we.drew=wd at *;clear hwd;refine aO [0,1,2,3,4] ?_;(iterate 5 refine aK ?_);refine aP ?_;refine aJ 5 (fun K hK=>?_);go_simp
 have th:=vT A B C n m k c d s a b h wd (by exact E.out.ja) (by exact E.out.jb) (by exact E.out.jc) HAO.out HBO.out HHO.out HKK.out;rw [<- HKC.out,<- HXX.out] at th;unfold bH at th;have TH:=aA th;clear th;refine TH.out.mono ?_;rintro e wq ⟨rfl,hb⟩;clear TH;replace E:=aA (E.out.below hb);clear hb
 try clear hH
 clear f0 f1 f2 g0 g1 g2 p6 h0 h1 h2 h3 h4 hlh;obtain⟨⟨f0,f1,f2⟩,⟨g0,g1,g2⟩,p6,⟨h0,h1,h2⟩,⟨h3,h4⟩,hlh⟩:=E.out.cells;refine aH hK (by exact⟨f0,f1,f2,g0,g1,g2,p6,h0,h1,h2,h3,h4⟩) (fun hH=>?_);by_cases hfr:fr=(X:Int)
 case neg=>
  have dx:(fr != (X:Int))=true:=by simpa using hfr
  have HFR:=aA hfr;clear hfr;refine aO [6,7,8,9,10,11,12,13,14,15,16,17] ?_;(iterate 2 refine aK ?_);(iterate 9 refine gU ?_);refine aK ?_;refine aP ?_;refine aT ?_
  try clear hH
  have FIN:=aA (show ¬iM a b h fr cs from(fun hc=>HFR.out (by rw [hc.1,HXX.out])));have bw:=E.out.bw;go_wp2_with fail
  try rw [Exit.noGoto_ret]
  go_ret
  exact bM.no FIN.out bw
 case pos=>
  subst hfr;have dx:((X:Int) != (X:Int))=false:=by simp
  refine aO [6,7,8,9,10,11,12,13,14,15] ?_;(iterate 10 refine aK ?_);refine aP ?_;by_cases hxN:x=N
  case neg=>
   have dn:((x:Int) != (N:Int))=true:=by simp;omega
   have dn2:(x != N)=true:=by simp;omega
   have HXN:=aA hxN;clear hxN;refine aO [16,17] ?_;(iterate 2 refine aK ?_);refine aP ?_;refine aT ?_
   try clear hH
   have FIN:=aA (show ¬iM a b h (X:Int) cs from(fun hc=>HXN.out (by rw [<- HLX.out,hc.2.1,HNN.out])));have bw:=E.out.bw;go_wp2_with fail
   try rw [Exit.noGoto_ret]
   go_ret
   exact bM.no FIN.out bw
  case pos=>
   subst hxN;have dn:((x:Int) != (x:Int))=false:=by simp
   have dn2:(x != x)=false:=by simp
   refine aO [16,17] ?_;(iterate 2 refine aK ?_);refine aP ?_;refine aT ?_
   try clear hH
   clear dn dn2 dx e1 e2 e3;go_wp2_with fail
   clear f0 f1 f2 g0 g1 g2 p6 h0 h1 h2 h3 h4 hlh;go_loopg [5,6,7,29] x (fun gg s5 s6 s7 s29 wx=>∃t:Nat,t+gg=x/\s29 = .int .i64 t/\(∀z,z<t->0<=aB cs z/\iQ a b h z (aB cs z).toNat)/\CT w wx A n c a B m d b KC C k s h (X:Int) D x y cs)
   case atStart=>exact⟨0,by omega,rfl,(fun z hz=>by omega),E.out⟩
   case round=>
    clear E;obtain⟨t,htg,rfl,hgood,hE⟩:=hrel;have E:=aA hE;have HG:=aA hgood;clear hE hgood;by_cases ht:t<x
    ·have hti:(t:Int)<x:=by omega
     obtain⟨dd,od,hDe,hdl,hdc⟩:=E.out.jd.2 (by omega);subst hDe;have hdt:=hdc t ht;obtain⟨at',hat⟩:∃z,z=aB cs t:=⟨_,rfl⟩
     rw [<- hat] at hdt;obtain⟨v,hv⟩:∃z,z=h.at t:=⟨_,rfl⟩
     have HAT:=aA hat;have HV:=aA hv;clear hdc hat hv;obtain⟨⟨f0,f1,f2⟩,⟨g0,g1,g2⟩,p6,⟨h0,h1,h2⟩,⟨h3,h4⟩,hlh⟩:=E.out.cells;go_wp2_with fail
     refine(gA C k s h.per h.inc (t:Int) h.vals _ (by exact E.out.jc) (by omega) (by omega) (by omega) (by omega) (by omega) HHO.out.nn (by omega) (by omega)).mono ?_;rw [Int.toNat_natCast,<- HV.out];rintro e wa ⟨rfl,hb⟩;clear hdt hdl;replace E:=aA (E.out.below hb);clear hb
     try clear hH
     clear f0 f1 f2 g0 g1 g2 p6 h0 h1 h2 h3 h4 hlh;obtain⟨⟨f0,f1,f2⟩,⟨g0,g1,g2⟩,p6,⟨h0,h1,h2⟩,⟨h3,h4⟩,hlh⟩:=E.out.cells;have htx:t<cs.length:=by rw [HLX.out];exact ht
     go_upto_region 7 with fail
     have E:=aA E.out.drew;clear f0 f1 f2 g0 g1 g2 p6 h0 h1 h2 h3 h4 hlh;obtain⟨⟨f0,f1,f2⟩,⟨g0,g1,g2⟩,p6,⟨h0,h1,h2⟩,⟨h3,h4⟩,hlh⟩:=E.out.cells;refine wp_region_held_drew (S:=(fun w'=>w'.cell? ⟨w.heap.size,0,none⟩=some (.slice A n c)/\w'.cell? ⟨w.heap.size,1,none⟩=some (.int .i64 a.per)/\w'.cell? ⟨w.heap.size,2,none⟩=some (.int .i64 a.inc)/\w'.cell? ⟨w.heap.size,3,none⟩=some (.slice B m d)/\w'.cell? ⟨w.heap.size,4,none⟩=some (.int .i64 b.per)/\w'.cell? ⟨w.heap.size,5,none⟩=some (.int .i64 b.inc)/\w'.cell? ⟨w.heap.size,6,none⟩=some (.int .i64 KC)/\w'.cell? ⟨w.heap.size+1,0,none⟩=some (.slice C k s)/\w'.cell? ⟨w.heap.size+1,1,none⟩=some (.int .i64 h.per)/\w'.cell? ⟨w.heap.size+1,2,none⟩=some (.int .i64 h.inc)/\w'.cell? ⟨w.heap.size+1,3,none⟩=some (.int .i64 (X:Int))/\w'.cell? ⟨w.heap.size+1,4,none⟩=some (.slice (some ⟨dd,od,none⟩) x y))) (by kernel_rfl) (by exact⟨f0,f1,f2,g0,g1,g2,p6,h0,h1,h2,h3,h4⟩) (fun hH=>?_);generalize hwd:wa.drew=wd at *;clear hwd;by_cases hn0:at'<0
     ·have dz0:decide (at'<0)=true:=by simpa using hn0
      have HN0:=aA hn0;clear hn0;refine aO [0,1,2,3,4,5,6,7,8,9,10,11,12,13,14,15,16,17,18,19,20,21] ?_;(iterate 3 refine aK ?_);(iterate 3 refine gU ?_);(iterate 2 refine aK ?_);(iterate 13 refine gU ?_);refine aK ?_;refine aP ?_;refine aT ?_
      try clear hH
      have FIN:=aA (show ¬iM a b h (X:Int) cs from(fun hc=>by have:=(hc.2.2 t htx).1;rw [<- HAT.out] at this;have:=HN0.out;omega));have bw:=E.out.bw;go_wp2_with fail
      try rw [Exit.noGoto_ret]
      go_ret
      exact bM.no FIN.out bw
     ·have dz0:decide (at'<0)=false:=by simpa using hn0
      obtain⟨u,hu⟩:∃u:Nat,at'=u:=⟨at'.toNat,by omega⟩
      subst hu;clear hn0;by_cases hut:u<=t
      case neg=>
       have d1:decide (t<u)=true:=by simpa using hut
       have d2:decide ((u:Int)>(t:Int))=true:=by simp;omega
       have d3:decide ((t:Int)<(u:Int))=true:=by simp;omega
       have HUT:=aA hut;clear hut;refine aO [0,1,2,3,4,5,6,7,8,9,10,11,12,13,14,15,16,17,18,19,20,21] ?_;(iterate 8 refine aK ?_);(iterate 13 refine gU ?_);refine aK ?_;refine aP ?_;refine aT ?_
       try clear hH
       have FIN:=aA (show ¬iM a b h (X:Int) cs from(fun hc=>by have:=(hc.2.2 t htx).2.1;rw [<- HAT.out,Int.toNat_natCast] at this;exact HUT.out this));have bw:=E.out.bw;go_wp2_with fail
       try rw [Exit.noGoto_ret]
       go_ret
       exact bM.no FIN.out bw
      case pos=>
       have d1:decide (t<u)=false:=by simpa using hut
       have d3:decide ((t:Int)<(u:Int))=false:=by simp;omega
       obtain⟨z,hz⟩:∃z:Nat,z=t-u:=⟨_,rfl⟩
       have ez1:IntKind.i64.wrap ((t:Int)-(u:Int))=(z:Int):=by rw [IntWalk.i64_in _ (by omega)];omega
       have ez2:(t:Int)-(u:Int)=(z:Int):=by omega
       have ez3:IntKind.i64.wrap (z:Int)=(z:Int):=IntWalk.i64_in _ (by omega);have hu9:u<=1040:=by omega
       have hz9:z<=1040:=by omega
       have HZ:=aA hz;clear hz;obtain⟨xv,hxv⟩:∃xv,xv=a.at u:=⟨_,rfl⟩
       obtain⟨yv,hyv⟩:∃yv,yv=b.at z:=⟨_,rfl⟩
       obtain⟨pv,hpv⟩:∃pv,pv=pl xv yv:=⟨_,rfl⟩
       have HX1:=aA hxv;have HY1:=aA hyv;have HP:=aA hpv;have nx:=j4 HAO.out (t:=u) (by omega);have ny:=j4 HBO.out (t:=z) (by omega);rw [<- hxv] at nx;rw [<- hyv] at ny;have NX:=aA nx;have NY:=aA ny;have PQ:=aA (show pl (a.at u) (b.at (t-u))=pv from by rw [hpv,hxv,hyv,HZ.out]);clear hxv hyv hpv nx ny;refine aO [0,1,2,3,4,5,6,7,8,9,10,12,13,14,15,16,19] ?_;(iterate 17 refine aK ?_);refine aP ?_;clear ez1 ez2 ez3;refine aJ 11 (fun K hK=>?_);go_simp
       refine(gA A n c a.per a.inc (u:Int) a.vals _ (by exact E.out.ja) (by omega) (by omega) (by omega) (by omega) (by omega) HAO.out.nn (by omega) (by omega)).mono ?_;rw [Int.toNat_natCast,<- HX1.out];rintro e wb ⟨rfl,hb⟩;replace E:=aA (E.out.below hb);clear hb
       try clear hH
       clear f0 f1 f2 g0 g1 g2 p6 h0 h1 h2 h3 h4 hlh;obtain⟨⟨f0,f1,f2⟩,⟨g0,g1,g2⟩,p6,⟨h0,h1,h2⟩,⟨h3,h4⟩,hlh⟩:=E.out.cells;refine aH hK (by exact⟨f0,f1,f2,g0,g1,g2,p6,h0,h1,h2,h3,h4⟩) (fun hH=>?_);refine aJ 17 (fun K hK=>?_);go_simp
       refine(gA B m d b.per b.inc (z:Int) b.vals _ (by exact E.out.jb) (by omega) (by omega) (by omega) (by omega) (by omega) HBO.out.nn (by omega) (by omega)).mono ?_;rw [Int.toNat_natCast,<- HY1.out];rintro e wf ⟨rfl,hb⟩;replace E:=aA (E.out.below hb);clear hb
       try clear hH
       clear f0 f1 f2 g0 g1 g2 p6 h0 h1 h2 h3 h4 hlh;obtain⟨⟨f0,f1,f2⟩,⟨g0,g1,g2⟩,p6,⟨h0,h1,h2⟩,⟨h3,h4⟩,hlh⟩:=E.out.cells;refine aH hK (by exact⟨f0,f1,f2,g0,g1,g2,p6,h0,h1,h2,h3,h4⟩) (fun hH=>?_);refine aJ 18 (fun K hK=>?_);go_simp
       refine(pB xv yv wf (by exact NX.out.1) (by exact NX.out.2) (by exact NY.out.1) (by exact NY.out.2)).mono ?_;rw [<- HP.out];rintro e wg ⟨rfl,rfl⟩;refine aH hK (by exact⟨f0,f1,f2,g0,g1,g2,p6,h0,h1,h2,h3,h4⟩) (fun hH=>?_);by_cases hpe:pv=v
       case neg=>
        have dp:(pv != v)=true:=by simpa using hpe
        have HPE:=aA hpe;clear hpe;refine aO [20,21] ?_;(iterate 2 refine aK ?_);refine aP ?_;refine aT ?_
        try clear hH
        have FIN:=aA (show ¬iM a b h (X:Int) cs from(fun hc=>by have:=(hc.2.2 t htx).2.2.1;rw [<- HAT.out,Int.toNat_natCast,PQ.out,<- HV.out] at this;exact HPE.out this));have bw:=E.out.bw;go_wp2_with fail
        try rw [Exit.noGoto_ret]
        go_ret
        exact bM.no FIN.out bw
       case pos=>
        have dp:(pv != v)=false:=by simpa using hpe
        have HPE:=aA hpe;clear hpe;refine aO [20,21] ?_;(iterate 2 refine aK ?_);refine aP ?_;refine aT ?_
        try clear hH
        clear dp d1 d3 dz0;by_cases hlt:X<=t
        case neg=>
         have dl:decide (X<=t)=false:=by simpa using hlt
         have qE:decide ((X:Int)<=(t:Int))=false:=by simp;omega
         have GD:=aA (show 0<=aB cs t/\iQ a b h t (aB cs t).toNat from by
          rw [<- HAT.out,Int.toNat_natCast];exact⟨by omega,hut,by rw [PQ.out,HPE.out,HV.out],.inl (by rw [<- HXX.out];omega)⟩)
         clear hlt;go_wp2_with fail
         go_roundg (gk-1)
         case measure=>omega
         case rel=>exact⟨t+1,by omega,by go_num,(fun z hz=>by
          rcases Nat.lt_or_ge z t with h1|h1
          ·exact HG.out z h1
          ·obtain rfl:z=t:=by omega
           exact GD.out),E.out⟩
        case pos=>
         have dl:decide (X<=t)=true:=by simpa using hlt
         have qE:decide ((X:Int)<=(t:Int))=true:=by simp;omega
         by_cases hvi:v=aG
         case pos=>
          have GD:=aA (show 0<=aB cs t/\iQ a b h t (aB cs t).toNat from by
           rw [<- HAT.out,Int.toNat_natCast];exact⟨by omega,hut,by rw [PQ.out,HPE.out,HV.out],.inr (.inl (by rw [<- HV.out];exact hvi))⟩)
          have di:(v != 4611686018427387904)=false:=by unfold aG at hvi;simpa using hvi
          clear hvi;go_wp2_with fail
          go_roundg (gk-1)
          case measure=>omega
          case rel=>exact⟨t+1,by omega,by go_num,(fun z hz=>by
           rcases Nat.lt_or_ge z t with h1|h1
           ·exact HG.out z h1
           ·obtain rfl:z=t:=by omega
            exact GD.out),E.out⟩
         case neg=>
          have di:(v != 4611686018427387904)=true:=by unfold aG at hvi;simpa using hvi
          have HVI:=aA hvi;clear hvi;go_wp2_with fail
          have tr:=vU A B C n m k c d s t u a b h wf (by exact E.out.ja) (by exact E.out.jb) (by exact E.out.jc) HAO.out HBO.out HHO.out HKK.out hut (by omega);rw [<- HKC.out] at tr;unfold bH at tr;have TR:=aA tr;clear tr;refine TR.out.mono ?_;rintro e wk ⟨⟨rz,hrz,rfl⟩,hb⟩;have RZ:=aA hrz;clear hrz TR;replace E:=aA (E.out.below hb);clear hb
          try clear hH
          clear f0 f1 f2 g0 g1 g2 p6 h0 h1 h2 h3 h4 hlh;obtain⟨⟨f0,f1,f2⟩,⟨g0,g1,g2⟩,p6,⟨h0,h1,h2⟩,⟨h3,h4⟩,hlh⟩:=E.out.cells;cases rz
          case false=>
           have NO:=aA (show ¬iM a b h (X:Int) cs from fun hc=>by
            have h2:=(hc.2.2 t htx).2.2.2;rw [<- HAT.out,Int.toNat_natCast,<- HXX.out,<- HV.out] at h2;rcases h2 with h2|h2|h2
            ·omega
            ·exact HVI.out h2
            ·have:=RZ.out.2 h2
             cases this)
           have FIN:=aA (show ¬iM a b h (X:Int) cs from NO.out);have bw:=E.out.bw;go_wp2_with fail
           try rw [Exit.noGoto_ret]
           go_ret
           exact bM.no FIN.out bw
          case true=>
           have GD:=aA (show 0<=aB cs t/\iQ a b h t (aB cs t).toNat from by
            rw [<- HAT.out,Int.toNat_natCast];exact⟨by omega,hut,by rw [PQ.out,HPE.out,HV.out],.inr (.inr (RZ.out.1 (by first|rfl|trivial)))⟩)
           go_wp2_with fail
           go_roundg (gk-1)
           case measure=>omega
           case rel=>exact⟨t+1,by omega,by go_num,(fun z hz=>by
            rcases Nat.lt_or_ge z t with h1|h1
            ·exact HG.out z h1
            ·obtain rfl:z=t:=by omega
             exact GD.out),E.out⟩
    ·have htX:t=x:=by omega
     subst htX;have FIN:=aA (show iM a b h (X:Int) cs from⟨by rw [HXX.out],by rw [HLX.out,HNN.out],fun z hz=>HG.out z (by rw [<- HLX.out];exact hz)⟩);have bw:=E.out.bw;clear ht;go_wp2_with fail
     try rw [Exit.noGoto_ret]
     go_ret
     exact bM.yes FIN.out bw
theorem K6(A B C:Option Addr)(n m k c d s:Nat)(a b h:Cv)(w:World)(hA:aE w w.heap.size A n a.vals)(hB:aE w w.heap.size B m b.vals)(hC:aE w w.heap.size C k h.vals)(ha:a.Ok)(hb:b.Ok)(hh:h.Ok)(hK:aI a b<=120) :
 Calls Tryz.prog 57 #[.agg (bH A n c a B m d b (aI a b:Nat)),.agg #[.slice C k s,.int .i64 h.per,.int .i64 h.inc]] w (bM (kX a b h) w):=by
 have a1:=ha.n1;have a2:=ha.n2;have a3:=ha.p1;have a4:=ha.p2;have a5:=ha.pn;have a6:=ha.i1;have a7:=ha.i2;have b1:=hb.n1;have b2:=hb.n2;have b3:=hb.p1;have b4:=hb.p2;have b5:=hb.pn;have b6:=hb.i1;have b7:=hb.i2;have c1':=hh.n1;have c2':=hh.n2;have c3':=hh.p1;have c4':=hh.p2;have c5':=hh.pn;have c6':=hh.i1;have c7':=hh.i2;have hln:a.vals.length=n:=hA.1;have hlm:b.vals.length=m:=hB.1;have hlk:h.vals.length=k:=hC.1;rw [hln] at a1 a2 a5;rw [hlm] at b1 b2 b5;rw [hlk] at c1' c2' c5';obtain⟨K0,hK0⟩:∃K0:Nat,K0=aI a b:=⟨_,rfl⟩
 obtain⟨KC,hKC⟩:∃KC:Int,KC=(K0:Int):=⟨_,rfl⟩
 have hKb1:0<=KC:=by omega
 have hKb2:KC<=120:=by omega
 obtain⟨MF,hMF⟩:∃MF:Nat,MF=max (bJ a) (bJ h):=⟨_,rfl⟩
 obtain⟨MG,hMG⟩:∃MG:Nat,MG=max (bJ b) (bJ h):=⟨_,rfl⟩
 have s1:=eO ha;have s2:=eO hb;have s3:=eO hh;have hmx1:(if(n:Int)-a.per<(k:Int)-h.per then (k:Int)-h.per else (n:Int)-a.per)=(MF:Int):=by
  rw [hMF];unfold bJ;rw [hln,hlk];split <;> omega
 have hmx2:(if(m:Int)-b.per<(k:Int)-h.per then (k:Int)-h.per else (m:Int)-b.per)=(MG:Int):=by
  rw [hMG];unfold bJ;rw [hlm,hlk];split <;> omega
 obtain⟨NF',hNF⟩:∃x:Nat,x=MF+K0:=⟨_,rfl⟩
 obtain⟨NG,hNG⟩:∃x:Nat,x=MG+K0:=⟨_,rfl⟩
 obtain⟨NV,hNV⟩:∃x:Nat,x=NF'+NG:=⟨_,rfl⟩
 have hNF9:NF'<=520:=by omega
 have hNG9:NG<=520:=by omega
 have hNV9:NV<=1040:=by omega
 have e1:IntKind.i64.wrap ((MF:Int)+KC)=(NF':Int):=by rw [IntWalk.i64_in _ (by omega)];omega
 have e2:(MF:Int)+KC=(NF':Int):=by omega
 have e3:IntKind.i64.wrap (NF':Int)=(NF':Int):=IntWalk.i64_in _ (by omega);have e4:IntKind.i64.wrap ((MG:Int)+KC)=(NG:Int):=by rw [IntWalk.i64_in _ (by omega)];omega
 have e5:(MG:Int)+KC=(NG:Int):=by omega
 have e6:IntKind.i64.wrap (NG:Int)=(NG:Int):=IntWalk.i64_in _ (by omega);have hNVi:(NF':Int)+(NG:Int)=(NV:Int):=by omega
 have HBS:=aA (show kX a b h↔∀x u,x<NF'->u<NG->h.at (x+u)<=pl (a.at x) (b.at u) from by
  rw [hNF,hNG,hMF,hMG,hK0];exact Iff.rfl)
 have HAO:=aA ha;have HBO:=aA hb;have HHO:=aA hh;rw [<- hK0,<- hKC];have E:=aA (CH.new (c:=c) (d:=d) (K:=KC) (s:=s) (h:=h) hA hB hC);have HNV:=aA hNV;clear hA hB hC ha hb hh hln hlm hlk hK hKC hK0 hMF hMG hNF hNG s1 s2 s3 hNV;unfold bH at E;unfold bH;go_enter Tryz.func57,Tryz.ntmps57
 go_upto_region 1 with fail
 generalize hwe:(w.alloc (.cells #[.slice A n c,.int .i64 a.per,.int .i64 a.inc,.slice B m d,.int .i64 b.per,.int .i64 b.inc,.int .i64 KC] 91)).alloc (.cells #[.slice C k s,.int .i64 h.per,.int .i64 h.inc] 26)=we at *;clear hwe;have E:Hid (CH w we A n c a B m d b KC C k s h):=E;generalize (Value.agg #[.slice A n c,.int .i64 a.per,.int .i64 a.inc,.slice B m d,.int .i64 b.per,.int .i64 b.inc,.int .i64 KC])=v0;generalize (Value.agg #[.slice C k s,.int .i64 h.per,.int .i64 h.inc])=v1;obtain⟨⟨f0,f1,f2⟩,⟨g0,g1,g2⟩,p6,⟨h0,h1,h2⟩,hlh⟩:=E.out.cells;have E:=aA E.out.drew
 try (have T1:=aA (aU.drew T1.out))
 clear f0 f1 f2 g0 g1 g2 p6 h0 h1 h2 hlh;obtain⟨⟨f0,f1,f2⟩,⟨g0,g1,g2⟩,p6,⟨h0,h1,h2⟩,hlh⟩:=E.out.cells;refine wp_region_held_drew (S:=(fun w'=>w'.cell? ⟨w.heap.size,0,none⟩=some (.slice A n c)/\w'.cell? ⟨w.heap.size,1,none⟩=some (.int .i64 a.per)/\w'.cell? ⟨w.heap.size,2,none⟩=some (.int .i64 a.inc)/\w'.cell? ⟨w.heap.size,3,none⟩=some (.slice B m d)/\w'.cell? ⟨w.heap.size,4,none⟩=some (.int .i64 b.per)/\w'.cell? ⟨w.heap.size,5,none⟩=some (.int .i64 b.inc)/\w'.cell? ⟨w.heap.size,6,none⟩=some (.int .i64 KC)/\w'.cell? ⟨w.heap.size+1,0,none⟩=some (.slice C k s)/\w'.cell? ⟨w.heap.size+1,1,none⟩=some (.int .i64 h.per)/\w'.cell? ⟨w.heap.size+1,2,none⟩=some (.int .i64 h.inc))) (by kernel_rfl) (by exact⟨f0,f1,f2,g0,g1,g2,p6,h0,h1,h2⟩) (fun hH=>?_);generalize hwd:we.drew=wd at *;clear hwd;refine aO [0,1,2,3,5,8,9] ?_;(iterate 7 refine aK ?_);refine aP ?_;refine aJ 4 (fun K hK=>?_);go_simp
 refine(dR A n c a.per a.inc _ (by omega) (by omega) (by omega)).mono ?_;rintro e wf ⟨rfl,hb⟩;replace E:=aA (E.out.below hb)
 try (have T1:=aA (T1.out.below hb T1.out.lt))
 try (have T2:=aA (T2.out.below hb T2.out.lt))
 clear hb
 try clear hH
 clear f0 f1 f2 g0 g1 g2 p6 h0 h1 h2 hlh;obtain⟨⟨f0,f1,f2⟩,⟨g0,g1,g2⟩,p6,⟨h0,h1,h2⟩,hlh⟩:=E.out.cells;refine aH hK (by exact⟨f0,f1,f2,g0,g1,g2,p6,h0,h1,h2⟩) (fun hH=>?_);refine aJ 6 (fun K hK=>?_);go_simp
 refine(dR C k s h.per h.inc _ (by omega) (by omega) (by omega)).mono ?_;rintro e wg ⟨rfl,hb⟩;replace E:=aA (E.out.below hb)
 try (have T1:=aA (T1.out.below hb T1.out.lt))
 try (have T2:=aA (T2.out.below hb T2.out.lt))
 clear hb
 try clear hH
 clear f0 f1 f2 g0 g1 g2 p6 h0 h1 h2 hlh;obtain⟨⟨f0,f1,f2⟩,⟨g0,g1,g2⟩,p6,⟨h0,h1,h2⟩,hlh⟩:=E.out.cells;refine aH hK (by exact⟨f0,f1,f2,g0,g1,g2,p6,h0,h1,h2⟩) (fun hH=>?_);refine aJ 7 (fun K hK=>?_);go_simp
 refine aH hK (by exact⟨f0,f1,f2,g0,g1,g2,p6,h0,h1,h2⟩) (fun hH=>?_);refine bD 10 ?_;refine aJ 11 (fun K hK=>?_);go_simp
 refine(mH A n c a.per a.inc NF' a.vals _ (by exact E.out.ja) (by exact HAO.out) (by omega)).mono ?_;rintro e wt ⟨q1',rfl,hT,hq,hb⟩;have T1:=aA hT;clear hT hq hmx1 e1 e2 e3;replace E:=aA (E.out.below hb);clear hb hH;clear f0 f1 f2 g0 g1 g2 p6 h0 h1 h2 hlh;obtain⟨⟨f0,f1,f2⟩,⟨g0,g1,g2⟩,p6,⟨h0,h1,h2⟩,hlh⟩:=E.out.cells;refine aH hK (by exact⟨f0,f1,f2,g0,g1,g2,p6,h0,h1,h2⟩) (fun hH=>?_);refine bD 12 ?_;refine aT ?_
 try clear hH
 go_upto_region 2 with fail
 have E:=aA E.out.drew
 try (have T1:=aA (aU.drew T1.out))
 clear f0 f1 f2 g0 g1 g2 p6 h0 h1 h2 hlh;obtain⟨⟨f0,f1,f2⟩,⟨g0,g1,g2⟩,p6,⟨h0,h1,h2⟩,hlh⟩:=E.out.cells;refine wp_region_held_drew (S:=(fun w'=>w'.cell? ⟨w.heap.size,0,none⟩=some (.slice A n c)/\w'.cell? ⟨w.heap.size,1,none⟩=some (.int .i64 a.per)/\w'.cell? ⟨w.heap.size,2,none⟩=some (.int .i64 a.inc)/\w'.cell? ⟨w.heap.size,3,none⟩=some (.slice B m d)/\w'.cell? ⟨w.heap.size,4,none⟩=some (.int .i64 b.per)/\w'.cell? ⟨w.heap.size,5,none⟩=some (.int .i64 b.inc)/\w'.cell? ⟨w.heap.size,6,none⟩=some (.int .i64 KC)/\w'.cell? ⟨w.heap.size+1,0,none⟩=some (.slice C k s)/\w'.cell? ⟨w.heap.size+1,1,none⟩=some (.int .i64 h.per)/\w'.cell? ⟨w.heap.size+1,2,none⟩=some (.int .i64 h.inc))) (by kernel_rfl) (by exact⟨f0,f1,f2,g0,g1,g2,p6,h0,h1,h2⟩) (fun hH=>?_);generalize hwd:wt.drew=wd at *;clear hwd;refine aO [0,1,2,3,5,8,9] ?_;(iterate 7 refine aK ?_);refine aP ?_;refine aJ 4 (fun K hK=>?_);go_simp
 refine(dR B m d b.per b.inc _ (by omega) (by omega) (by omega)).mono ?_;rintro e wf ⟨rfl,hb⟩;replace E:=aA (E.out.below hb)
 try (have T1:=aA (T1.out.below hb T1.out.lt))
 try (have T2:=aA (T2.out.below hb T2.out.lt))
 clear hb
 try clear hH
 clear f0 f1 f2 g0 g1 g2 p6 h0 h1 h2 hlh;obtain⟨⟨f0,f1,f2⟩,⟨g0,g1,g2⟩,p6,⟨h0,h1,h2⟩,hlh⟩:=E.out.cells;refine aH hK (by exact⟨f0,f1,f2,g0,g1,g2,p6,h0,h1,h2⟩) (fun hH=>?_);refine aJ 6 (fun K hK=>?_);go_simp
 refine(dR C k s h.per h.inc _ (by omega) (by omega) (by omega)).mono ?_;rintro e wg ⟨rfl,hb⟩;replace E:=aA (E.out.below hb)
 try (have T1:=aA (T1.out.below hb T1.out.lt))
 try (have T2:=aA (T2.out.below hb T2.out.lt))
 clear hb
 try clear hH
 clear f0 f1 f2 g0 g1 g2 p6 h0 h1 h2 hlh;obtain⟨⟨f0,f1,f2⟩,⟨g0,g1,g2⟩,p6,⟨h0,h1,h2⟩,hlh⟩:=E.out.cells;refine aH hK (by exact⟨f0,f1,f2,g0,g1,g2,p6,h0,h1,h2⟩) (fun hH=>?_);refine aJ 7 (fun K hK=>?_);go_simp
 refine aH hK (by exact⟨f0,f1,f2,g0,g1,g2,p6,h0,h1,h2⟩) (fun hH=>?_);refine bD 10 ?_;refine aJ 11 (fun K hK=>?_);go_simp
 refine(mH B m d b.per b.inc NG b.vals _ (by exact E.out.jb) (by exact HBO.out) (by omega)).mono ?_;rintro e wt ⟨q2',rfl,hT,hq,hb⟩;have T2:=aA hT;clear hT hq hmx2 e4 e5 e6;replace E:=aA (E.out.below hb);have T1:=aA (T1.out.below hb T1.out.lt);clear hb hH;clear f0 f1 f2 g0 g1 g2 p6 h0 h1 h2 hlh;obtain⟨⟨f0,f1,f2⟩,⟨g0,g1,g2⟩,p6,⟨h0,h1,h2⟩,hlh⟩:=E.out.cells;refine aH hK (by exact⟨f0,f1,f2,g0,g1,g2,p6,h0,h1,h2⟩) (fun hH=>?_);refine bD 12 ?_;refine aT ?_
 try clear hH
 go_wp2_with fail
 refine(mH C k s h.per h.inc NV h.vals _ (by exact E.out.jc) (by exact HHO.out) (by omega)).mono ?_;rintro e wv ⟨q3',rfl,hT,hq,hb⟩;have T3:=aA hT;clear hT hq;replace E:=aA (E.out.below hb)
 try (have T1:=aA (T1.out.below hb T1.out.lt))
 try (have T2:=aA (T2.out.below hb T2.out.lt))
 clear hb
 try clear hH
 clear f0 f1 f2 g0 g1 g2 p6 h0 h1 h2 hlh;obtain⟨⟨f0,f1,f2⟩,⟨g0,g1,g2⟩,p6,⟨h0,h1,h2⟩,hlh⟩:=E.out.cells;clear hNVi;clear f0 f1 f2 g0 g1 g2 p6 h0 h1 h2 hlh;go_wp2_with fail
 go_loopg [8,9,10,11,45] NF' (fun gg s8 s9 s10 s11 s45 wx=>∃x:Nat,x+gg=NF'/\s45 = .int .i64 x/\(∀x' u,x'<x->u<NG->h.at (x'+u)<=pl (a.at x') (b.at u))/\aU wx q1' (aZ a.at 0 NF')/\aU wx q2' (aZ b.at 0 NG)/\aU wx q3' (aZ h.at 0 NV)/\Below w.heap.size w wx)
 case atStart=>exact⟨0,by omega,rfl,(fun x' u hx=>by omega),T1.out,T2.out,T3.out,E.out.bw⟩
 case round=>
  clear E T1 T2 T3;obtain⟨x,hxg,rfl,hgood,hT1,hT2,hT3,hbw⟩:=hrel;have T1:=aA hT1;have T2:=aA hT2;have T3:=aA hT3;have BW:=aA hbw;have HG:=aA hgood;clear hT1 hT2 hT3 hbw hgood;obtain⟨go,hgo⟩:∃go:Nat,go=gk:=⟨_,rfl⟩
  subst hgo;by_cases hx:x<NF'
  ·have hxi:(x:Int)<NF':=by omega
   have t1:=T1.out.cell x (by rw [cU];exact hx);rw [dT _ _ _ _ hx,Nat.zero_add] at t1;obtain⟨av,hav⟩:∃av,av=a.at x:=⟨_,rfl⟩
   rw [<- hav] at t1;have nx:=j4 HAO.out (t:=x) (by omega);rw [<- hav] at nx;have NX:=aA nx;have HAV:=aA hav;have hl1:=T1.out.lt;clear nx hav;go_wp2_with fail
   clear t1 hl1;go_loopg [10,11,52] NG (fun gg s10 s11 s52 wx=>∃u:Nat,u+gg=NG/\s52 = .int .i64 u/\(∀u',u'<u->h.at (x+u')<=pl (a.at x) (b.at u'))/\aU wx q1' (aZ a.at 0 NF')/\aU wx q2' (aZ b.at 0 NG)/\aU wx q3' (aZ h.at 0 NV)/\Below w.heap.size w wx)
   case atStart=>exact⟨0,by omega,rfl,(fun u' hu=>by omega),T1.out,T2.out,T3.out,BW.out⟩
   case round=>
    clear BW T1 T2 T3;obtain⟨u,hug,rfl,hgood,hT1,hT2,hT3,hbw⟩:=hrel;have T1:=aA hT1;have T2:=aA hT2;have T3:=aA hT3;have BW:=aA hbw;have HU:=aA hgood;clear hT1 hT2 hT3 hbw hgood;by_cases hu:u<NG
    ·have hui:(u:Int)<NG:=by omega
     have t2:=T2.out.cell u (by rw [cU];exact hu);rw [dT _ _ _ _ hu,Nat.zero_add] at t2;obtain⟨bv,hbv⟩:∃bv,bv=b.at u:=⟨_,rfl⟩
     rw [<- hbv] at t2;have ny:=j4 HBO.out (t:=u) (by omega);rw [<- hbv] at ny;have NY:=aA ny;have HBV:=aA hbv;have hl2:=T2.out.lt;clear ny hbv;obtain⟨y,hy⟩:∃y:Nat,y=x+u:=⟨_,rfl⟩
     have hyV:y<NV:=by have:=HNV.out;omega
     have hyVi:(y:Int)<NV:=by omega
     have hy0:0<=(y:Int):=by omega
     have ey1:IntKind.i64.wrap ((x:Int)+(u:Int))=(y:Int):=by rw [IntWalk.i64_in _ (by omega)];omega
     have ey2:(x:Int)+(u:Int)=(y:Int):=by omega
     have ey3:IntKind.i64.wrap (y:Int)=(y:Int):=IntWalk.i64_in _ (by omega);have HY:=aA hy;clear hy;have t3:=T3.out.cell y (by rw [cU];exact hyV);rw [dT _ _ _ _ hyV,Nat.zero_add] at t3;obtain⟨hv,hhv⟩:∃hv,hv=h.at y:=⟨_,rfl⟩
     rw [<- hhv] at t3;have HHV:=aA hhv;have hl3:=T3.out.lt;clear hhv;obtain⟨pv,hpv⟩:∃pv,pv=pl av bv:=⟨_,rfl⟩
     have HP:=aA hpv;clear hpv;go_upto_region 10 with fail
     have T1:=aA (aU.drew T1.out);have T2:=aA (aU.drew T2.out);have T3:=aA (aU.drew T3.out);have BW:=aA (Below.drew BW.out);have t3:=T3.out.cell y (by rw [cU];exact hyV);rw [dT _ _ _ _ hyV,Nat.zero_add,<- HHV.out] at t3;have hl3:=T3.out.lt;refine wp_region_held_drew (S:=(fun w'=>w'.cell? ⟨q3',y,none⟩=some (.int .i64 hv))) (by kernel_rfl) t3 (fun hH=>?_);clear t2 hl2;generalize hwd:wr.drew=wd at *;clear hwd;refine aO [0,1,2,3,4,5,6,7] ?_;(iterate 8 refine aK ?_);refine aP ?_;clear ey1 ey2 ey3;refine aJ 8 (fun K hK=>?_);go_simp
     refine(pB av bv wd (by exact NX.out.1) (by exact NX.out.2) (by exact NY.out.1) (by exact NY.out.2)).mono ?_;rw [<- HP.out];rintro e wa ⟨rfl,rfl⟩;refine aH hK (by exact t3) (fun hH=>?_);by_cases hgt:pv<hv
     case pos=>
      have dt:decide (hv>pv)=true:=by simpa using hgt
      have dt2:decide (pv<hv)=true:=by simpa using hgt
      have HGT:=aA hgt;clear hgt;refine bD 9 ?_;refine aT ?_;clear hH t3 hl3;have FIN:=aA (show ¬kX a b h from fun hc=>by
       have h1:=HBS.out.1 hc x u hx hu;rw [<- HY.out,<- HHV.out,<- HAV.out,<- HBV.out,<- HP.out] at h1;have:=HGT.out
       omega)
      have bw:=BW.out;go_wp2_with fail
      try rw [Exit.noGoto_ret]
      go_ret
      exact bM.no FIN.out bw
     case neg=>
      have dt:decide (hv>pv)=false:=by simpa using hgt
      have dt2:decide (pv<hv)=false:=by simpa using hgt
      have HGT:=aA hgt;clear hgt;refine bD 9 ?_;refine aT ?_;clear hH t3 hl3;have GD:=aA (show ∀u',u'<u+1->h.at (x+u')<=pl (a.at x) (b.at u') from fun u' hu'=>by
       rcases Nat.lt_or_ge u' u with h1|h1
       ·exact HU.out u' h1
       ·have e:u'=u:=by omega
        rw [e,<- HY.out,<- HHV.out,<- HAV.out,<- HBV.out,<- HP.out];have:=HGT.out
        omega)
      go_wp2_with fail
      go_roundg (gk-1)
      case measure=>omega
      case rel=>exact⟨u+1,by omega,by go_num,GD.out,T1.out,T2.out,T3.out,BW.out⟩
    ·have huN:u=NG:=by omega
     have GD:=aA (show ∀x' u',x'<x+1->u'<NG->h.at (x'+u')<=pl (a.at x') (b.at u') from fun x' u' hx' hu'=>by
      rcases Nat.lt_or_ge x' x with h1|h1
      ·exact HG.out x' u' h1 hu'
      ·have e:x'=x:=by omega
       rw [e];exact HU.out u' (by omega))
     go_wp2_with fail
     go_roundg (go-1)
     case measure=>omega
     case rel=>exact⟨x+1,by omega,by go_num,GD.out,T1.out,T2.out,T3.out,BW.out⟩
  ·have hxN:x=NF':=by omega
   have FIN:=aA (show kX a b h from HBS.out.2 fun x' u' h1 h2=>HG.out x' u' (by omega) h2);have bw:=BW.out;go_wp2_with fail
   try rw [Exit.noGoto_ret]
   go_ret
   exact bM.yes FIN.out bw
structure kH(w:World)(P:Nat)(A:Option Addr)(n c:Nat)(a:Cv)(B:Option Addr)(m d:Nat)(b:Cv)(Q:Nat)(C:Option Addr)(k s:Nat)(h:Cv)(fr:Int)(D:Option Addr)(x y:Nat)(cs:List Int):Prop where
 pb:aC w P 91 (bH A n c a B m d b (aI a b:Nat))
 qb:aC w Q 29 #[.slice C k s,.int .i64 h.per,.int .i64 h.inc,.int .i64 fr,.slice D x y]
 ia:aE w w.heap.size A n a.vals
 ib:aE w w.heap.size B m b.vals
 ic:aE w w.heap.size C k h.vals
 id:aE w w.heap.size D x cs
section
variable{w wx:World}{A B C D:Option Addr}{n c m d k s x y P Q:Nat}{a b h:Cv}{fr:Int}{cs:List Int}
theorem kH.below(h':kH w P A n c a B m d b Q C k s h fr D x y cs)(hb:Below w.heap.size w wx):kH wx P A n c a B m d b Q C k s h fr D x y cs:=
 ⟨h'.pb.below hb h'.pb.lt,h'.qb.below hb h'.qb.lt,h'.ia.ext hb,h'.ib.ext hb,h'.ic.ext hb,h'.id.ext hb⟩
theorem kH.cells(h':kH w P A n c a B m d b Q C k s h fr D x y cs):(w.cell? ⟨P,0,none⟩=some (.slice A n c)/\w.cell? ⟨P,1,none⟩=some (.int .i64 a.per)/\w.cell? ⟨P,2,none⟩=some (.int .i64 a.inc))/\
 (w.cell? ⟨P,3,none⟩=some (.slice B m d)/\w.cell? ⟨P,4,none⟩=some (.int .i64 b.per)/\w.cell? ⟨P,5,none⟩=some (.int .i64 b.inc))/\w.cell? ⟨P,6,none⟩=some (.int .i64 (aI a b:Nat))/\
 (w.cell? ⟨Q,0,none⟩=some (.slice C k s)/\w.cell? ⟨Q,1,none⟩=some (.int .i64 h.per)/\w.cell? ⟨Q,2,none⟩=some (.int .i64 h.inc))/\(w.cell? ⟨Q,3,none⟩=some (.int .i64 fr)/\w.cell? ⟨Q,4,none⟩=some (.slice D x y))/\P<w.heap.size/\Q<w.heap.size:=by
 have q:=fun i=>h'.pb.cell i
 have q0:=q 0;have q1:=q 1;have q2:=q 2;have q3:=q 3;have q4:=q 4;have q5:=q 5;have q6:=q 6;have r:=fun i=>h'.qb.cell i
 have r0:=r 0;have r1:=r 1;have r2:=r 2;have r3:=r 3;have r4:=r 4;simp [bH] at q0 q1 q2 q3 q4 q5 q6 r0 r1 r2 r3 r4
 exact⟨⟨q0,q1,q2⟩,⟨q3,q4,q5⟩,q6,⟨r0,r1,r2⟩,⟨r3,r4⟩,h'.pb.lt,h'.qb.lt⟩
end
section
variable{A B C D:Option Addr}{n c m d k s x y P Q:Nat}{a b h:Cv}{fr:Int}{cs:List Int}
theorem K9(w:World)(hE:kH w P A n c a B m d b Q C k s h fr D x y cs)(ha:a.Ok)(hb:b.Ok)(hk:(k:Int)<=1000000)(hK:aI a b<=120) :
 Calls Tryz.prog 52 #[.pointer (some ⟨P,0,none⟩),.pointer (some ⟨Q,0,none⟩)] w (bM (h.Ok/\NF h.at h/\fB a b h) w):=by
 have E:=aA hE;obtain⟨KC,hKC⟩:∃KC:Int,KC=((aI a b:Nat):Int):=⟨_,rfl⟩
 have th:=L9 A B C n m k c d s a b h w hE.ia hE.ib hE.ic ha hb hk hK;rw [<- hKC] at th;unfold bH at th;have TH:=aA th;obtain⟨⟨f0,f1,f2⟩,⟨g0,g1,g2⟩,p6,⟨h0,h1,h2⟩,⟨h3,h4⟩,hlp,hlq⟩:=E.out.cells;rw [<- hKC] at p6;clear th hE hKC;go_enter Tryz.func52,Tryz.ntmps52
 go_wp2_with fail
 refine TH.out.mono ?_;rintro e wq ⟨⟨z,hz,rfl⟩,hb⟩;have HZ:=aA hz;clear hz f0 f1 f2 g0 g1 g2 p6 h0 h1 h2 h3 h4;go_wp2_with fail
 go_ret
 exact⟨⟨z,HZ.out,rfl⟩,hb⟩
theorem L5(w:World)(hE:kH w P A n c a B m d b Q C k s h fr D x y cs)(ha:a.Ok)(hb:b.Ok)(hh:h.Ok)(hx:(x:Int)<=1000000)(hK:aI a b<=120) :
 Calls Tryz.prog 54 #[.pointer (some ⟨P,0,none⟩),.pointer (some ⟨Q,0,none⟩)] w (bM (iM a b h fr cs) w):=by
 have E:=aA hE;obtain⟨KC,hKC⟩:∃KC:Int,KC=((aI a b:Nat):Int):=⟨_,rfl⟩
 have th:=K5 A B C D n m k x c d s y a b h fr cs w hE.ia hE.ib hE.ic hE.id ha hb hh hx hK;rw [<- hKC] at th;unfold bH at th;have TH:=aA th;obtain⟨⟨f0,f1,f2⟩,⟨g0,g1,g2⟩,p6,⟨h0,h1,h2⟩,⟨h3,h4⟩,hlp,hlq⟩:=E.out.cells;rw [<- hKC] at p6;clear th hE hKC;go_enter Tryz.func54,Tryz.ntmps54
 go_wp2_with fail
 refine TH.out.mono ?_;rintro e wq ⟨⟨z,hz,rfl⟩,hb⟩;have HZ:=aA hz;clear hz f0 f1 f2 g0 g1 g2 p6 h0 h1 h2 h3 h4;go_wp2_with fail
 go_ret
 exact⟨⟨z,HZ.out,rfl⟩,hb⟩
theorem L7(w:World)(hE:kH w P A n c a B m d b Q C k s h fr D x y cs)(ha:a.Ok)(hb:b.Ok)(hh:h.Ok)(hK:aI a b<=120) :
 Calls Tryz.prog 56 #[.pointer (some ⟨P,0,none⟩),.pointer (some ⟨Q,0,none⟩)] w (bM (kX a b h) w):=by
 have E:=aA hE;obtain⟨KC,hKC⟩:∃KC:Int,KC=((aI a b:Nat):Int):=⟨_,rfl⟩
 have th:=K6 A B C n m k c d s a b h w hE.ia hE.ib hE.ic ha hb hh hK;rw [<- hKC] at th;unfold bH at th;have TH:=aA th;obtain⟨⟨f0,f1,f2⟩,⟨g0,g1,g2⟩,p6,⟨h0,h1,h2⟩,⟨h3,h4⟩,hlp,hlq⟩:=E.out.cells;rw [<- hKC] at p6;clear th hE hKC;go_enter Tryz.func56,Tryz.ntmps56
 go_wp2_with fail
 refine TH.out.mono ?_;rintro e wq ⟨⟨z,hz,rfl⟩,hb⟩;have HZ:=aA hz;clear hz f0 f1 f2 g0 g1 g2 p6 h0 h1 h2 h3 h4;go_wp2_with fail
 go_ret
 exact⟨⟨z,HZ.out,rfl⟩,hb⟩
end
theorem K8(A B C D:Option Addr)(n m k x c d s y:Nat)(p i q j fr:Int)(xs ys:List Int)(h:Cv)(cs:List Int)(w:World)(hA:aE w w.heap.size A n xs)(hB:aE w w.heap.size B m ys)(hC:aE w w.heap.size C k h.vals)(hD:aE w w.heap.size D x cs)
 (hn:(n:Int)<=1000000) (hm:(m:Int)<=1000000) (hk:(k:Int)<=1000000) (hx:(x:Int)<=1000000) :
 Calls Tryz.prog 12 #[.agg #[.slice A n c,.int .i64 p,.int .i64 i],.agg #[.slice B m d,.int .i64 q,.int .i64 j],.agg #[.slice C k s,.int .i64 h.per,.int .i64 h.inc,.int .i64 fr,.slice D x y]] w (bM (jV ⟨xs,p,i⟩ ⟨ys,q,j⟩ h fr cs) w):=by
 have P:=aA ((PS.new (c:=c) (p:=p) (i:=i) (d:=d) (q:=q) (j:=j) hA hB).alloc (.cells #[.slice C k s,.int .i64 h.per,.int .i64 h.inc,.int .i64 fr,.slice D x y] 29));have cb:=aC.new ((w.alloc (.cells #[.slice A n c,.int .i64 p,.int .i64 i] 26)).alloc (.cells #[.slice B m d,.int .i64 q,.int .i64 j] 26)) 29 #[.slice C k s,.int .i64 h.per,.int .i64 h.inc,.int .i64 fr,.slice D x y];rw [World.size_alloc,World.size_alloc] at cb;have CB:=aA cb;have IC:=aA (((hC.alloc' (.cells #[.slice A n c,.int .i64 p,.int .i64 i] 26)).alloc' (.cells #[.slice B m d,.int .i64 q,.int .i64 j] 26)).alloc' (.cells #[.slice C k s,.int .i64 h.per,.int .i64 h.inc,.int .i64 fr,.slice D x y] 29));have ID:=aA (((hD.alloc' (.cells #[.slice A n c,.int .i64 p,.int .i64 i] 26)).alloc' (.cells #[.slice B m d,.int .i64 q,.int .i64 j] 26)).alloc' (.cells #[.slice C k s,.int .i64 h.per,.int .i64 h.inc,.int .i64 fr,.slice D x y] 29));clear hA hB hC hD cb;go_enter Tryz.func12,Tryz.ntmps12
 obtain⟨f0,f1,f2,g0,g1,g2,hlf,hlg⟩:=P.out.cells;go_wp2_with fail
 refine(sG A B n m c d p i q j xs ys _ P.out.ia P.out.ib hn hm).mono ?_;rintro e w1 (⟨er,hbad,rfl,hb⟩|⟨hfo,hgo,a,b,A1,n1,c1,B1,m1,d1,hna,hnb,hao,hbo,hcm,rfl,hI1,hI2,hA1,hB1,hb⟩)
 ·have hne:(er != 0)=true:=by simpa using hbad.ne
  have NO:=aA (show ¬jV ⟨xs,p,i⟩ ⟨ys,q,j⟩ h fr cs from fun⟨k1,k2,a,b,k3,k4,k5,_⟩=>by
   rcases hbad with ⟨h1,_⟩|⟨_,_,_,a',b',h1,h2,h3⟩
   ·exact h1 ⟨k1,k2⟩
   ·obtain rfl:=NF.unique k3 h1;obtain rfl:=NF.unique k4 h2;omega)
  have BW:=aA (aD P.out.bw hb);clear hbad hb P f0 f1 f2 g0 g1 g2 hlf hlg;unfold kG;replace BW:=aA (aD BW.out (aF _ (.cells #[.slice none 0 0,.int .i64 0,.int .i64 0,.slice none 0 0,.int .i64 0,.int .i64 0,.int .i64 0] 91)));go_upto_region 2 with fail
  generalize hwe:w1.alloc (.cells #[.slice none 0 0,.int .i64 0,.int .i64 0,.slice none 0 0,.int .i64 0,.int .i64 0,.int .i64 0] 91)=w2 at *;clear hwe;have FIN:=aA (show ¬jV ⟨xs,p,i⟩ ⟨ys,q,j⟩ h fr cs from NO.out);have bw:=BW.out;go_wp2_with fail
  try rw [Exit.noGoto_ret]
  go_ret
  exact bM.no FIN.out bw
 ·have CKE0:=aA (show kH (w1.alloc (.cells (bH A1 n1 c1 a B1 m1 d1 b (aI a b:Nat)) 91)) w1.heap.size A1 n1 c1 a B1 m1 d1 b (w.heap.size+1+1) C k s h fr D x y cs from
   ⟨aC.new _ _ _,(CB.out.below hb CB.out.lt).alloc _,hI1.alloc' _,hI2.alloc' _,(IC.out.ext hb).alloc' _,(ID.out.ext hb).alloc' _⟩)
  have BW:=aA (aD (aD P.out.bw hb) (aF w1 (.cells (bH A1 n1 c1 a B1 m1 d1 b (aI a b:Nat)) 91)));have HFO:=aA hfo;have HGO:=aA hgo;have HNA:=aA hna;have HNB:=aA hnb;have HAO:=aA hao;have HBO:=aA hbo;have HCM:=aA hcm;have CKI:=aA (show jV ⟨xs,p,i⟩ ⟨ys,q,j⟩ h fr cs↔(h.Ok/\NF h.at h/\fB a b h)/\iM a b h fr cs/\kX a b h from by
   constructor
   ·rintro⟨_,_,a',b',h1,h2,h3,h4,h5,h6,h7,h8⟩;obtain rfl:=NF.unique hna h1;obtain rfl:=NF.unique hnb h2;exact⟨⟨h4,h5,h6⟩,h7,h8⟩
   ·rintro⟨⟨h4,h5,h6⟩,h7,h8⟩;exact⟨hfo,hgo,a,b,hna,hnb,hcm,h4,h5,h6,h7,h8⟩)
  clear hfo hgo hna hnb hao hbo hcm hI1 hI2 hA1 hB1 hb P CB IC ID f0 f1 f2 g0 g1 g2 hlf hlg;unfold bH at CKE0 BW ⊢;go_upto_region 2 with fail
  generalize hwe:w1.alloc (.cells #[.slice A1 n1 c1,.int .i64 a.per,.int .i64 a.inc,.slice B1 m1 d1,.int .i64 b.per,.int .i64 b.inc,.int .i64 (aI a b:Nat)] 91)=w2 at *;clear hwe;generalize w1.heap.size=P1 at *;have hlp:=CKE0.out.pb.lt;have hlq:=CKE0.out.qb.lt;have FB:=aA (aC.new w2 33 #[.func (.func 52) #[] #[.pointer (some ⟨P1,0,none⟩),.pointer (some ⟨w.heap.size+1+1,0,none⟩)],.func (.func 54) #[] #[.pointer (some ⟨P1,0,none⟩),.pointer (some ⟨w.heap.size+1+1,0,none⟩)],.func (.func 56) #[] #[.pointer (some ⟨P1,0,none⟩),.pointer (some ⟨w.heap.size+1+1,0,none⟩)]]);have E:=aA (CKE0.out.below (aF w2 (.cells #[.func (.func 52) #[] #[.pointer (some ⟨P1,0,none⟩),.pointer (some ⟨w.heap.size+1+1,0,none⟩)],.func (.func 54) #[] #[.pointer (some ⟨P1,0,none⟩),.pointer (some ⟨w.heap.size+1+1,0,none⟩)],.func (.func 56) #[] #[.pointer (some ⟨P1,0,none⟩),.pointer (some ⟨w.heap.size+1+1,0,none⟩)]] 33)));replace BW:=aA (aD BW.out (aF w2 (.cells #[.func (.func 52) #[] #[.pointer (some ⟨P1,0,none⟩),.pointer (some ⟨w.heap.size+1+1,0,none⟩)],.func (.func 54) #[] #[.pointer (some ⟨P1,0,none⟩),.pointer (some ⟨w.heap.size+1+1,0,none⟩)],.func (.func 56) #[] #[.pointer (some ⟨P1,0,none⟩),.pointer (some ⟨w.heap.size+1+1,0,none⟩)]] 33)));clear CKE0;go_upto_region 5 with fail
  generalize hwe:w2.alloc (.cells #[.func (.func 52) #[] #[.pointer (some ⟨P1,0,none⟩),.pointer (some ⟨w.heap.size+1+1,0,none⟩)],.func (.func 54) #[] #[.pointer (some ⟨P1,0,none⟩),.pointer (some ⟨w.heap.size+1+1,0,none⟩)],.func (.func 56) #[] #[.pointer (some ⟨P1,0,none⟩),.pointer (some ⟨w.heap.size+1+1,0,none⟩)]] 33)=w3 at *;clear hwe;generalize w2.heap.size=F at *;generalize w.heap.size+1+1=Q at *;go_loopg [10,24] 3 (fun gg s10 s24 wx=>∃k':Nat,k'+gg=3/\s24 = .int .i64 k'/\(1<=k'->h.Ok/\NF h.at h/\fB a b h)/\(2<=k'->iM a b h fr cs)/\(3<=k'->kX a b h)/\Below w3.heap.size w3 wx)
  case atStart=>exact⟨0,by omega,rfl,(fun h=>by omega),(fun h=>by omega),(fun h=>by omega),Below.refl _ _⟩
  case round=>
   obtain⟨k',hg,rfl,hr1,hr2,hr3,hb⟩:=hrel;have FX:=aA (FB.out.below hb FB.out.lt);have EX:=aA (E.out.below hb);have R1:=aA hr1;have R2:=aA hr2;have R3:=aA hr3;have BX:=aA hb;clear hr1 hr2 hr3 hb;obtain⟨⟨k0,k1,k2⟩,_,hlf⟩:=FX.out.c3;have hk':k'=0\/k'=1\/k'=2\/k'=3:=by omega
   rcases hk' with rfl|rfl|rfl|rfl
   ·go_wp2_with fail
    refine(K9 _ EX.out HAO.out HBO.out hk HCM.out).mono ?_;rintro e wq ⟨⟨z,hz,rfl⟩,hb⟩;have HZ:=aA hz;have BY:=aA (aD BX.out hb);clear hz hb k0 k1 k2 hlf;cases z
    case false=>
     have FIN:=aA (show ¬jV ⟨xs,p,i⟩ ⟨ys,q,j⟩ h fr cs from(fun hc=>by have:=HZ.out.2 (CKI.out.1 hc).1;cases this));have bw:=(aD BW.out BY.out)
     go_wp2_with fail
     try rw [Exit.noGoto_ret]
     go_ret
     exact bM.no FIN.out bw
    case true=>
     have G:=aA (HZ.out.1 (by first|rfl|trivial));go_wp2_with fail
     go_roundg (gk-1)
     case measure=>omega
     case rel=>exact⟨1,by omega,rfl,(fun _=>G.out),(fun h=>by omega),(fun h=>by omega),BY.out⟩
   ·have HHO:=aA (R1.out (by omega)).1;go_wp2_with fail
    refine(L5 _ EX.out HAO.out HBO.out HHO.out hx HCM.out).mono ?_;rintro e wq ⟨⟨z,hz,rfl⟩,hb⟩;have HZ:=aA hz;have BY:=aA (aD BX.out hb);clear hz hb k0 k1 k2 hlf;cases z
    case false=>
     have FIN:=aA (show ¬jV ⟨xs,p,i⟩ ⟨ys,q,j⟩ h fr cs from(fun hc=>by have:=HZ.out.2 (CKI.out.1 hc).2.1;cases this));have bw:=(aD BW.out BY.out)
     go_wp2_with fail
     try rw [Exit.noGoto_ret]
     go_ret
     exact bM.no FIN.out bw
    case true=>
     have G:=aA (HZ.out.1 (by first|rfl|trivial));go_wp2_with fail
     go_roundg (gk-1)
     case measure=>omega
     case rel=>exact⟨2,by omega,rfl,(fun _=>R1.out (by omega)),(fun _=>G.out),(fun h=>by omega),BY.out⟩
   ·have HHO:=aA (R1.out (by omega)).1;go_wp2_with fail
    refine(L7 _ EX.out HAO.out HBO.out HHO.out HCM.out).mono ?_;rintro e wq ⟨⟨z,hz,rfl⟩,hb⟩;have HZ:=aA hz;have BY:=aA (aD BX.out hb);clear hz hb k0 k1 k2 hlf;cases z
    case false=>
     have FIN:=aA (show ¬jV ⟨xs,p,i⟩ ⟨ys,q,j⟩ h fr cs from(fun hc=>by have:=HZ.out.2 (CKI.out.1 hc).2.2;cases this));have bw:=(aD BW.out BY.out)
     go_wp2_with fail
     try rw [Exit.noGoto_ret]
     go_ret
     exact bM.no FIN.out bw
    case true=>
     have G:=aA (HZ.out.1 (by first|rfl|trivial));go_wp2_with fail
     go_roundg (gk-1)
     case measure=>omega
     case rel=>exact⟨3,by omega,rfl,(fun _=>R1.out (by omega)),(fun _=>R2.out (by omega)),(fun _=>G.out),BY.out⟩
   ·have FIN:=aA (show jV ⟨xs,p,i⟩ ⟨ys,q,j⟩ h fr cs from CKI.out.2 ⟨R1.out (by omega),R2.out (by omega),R3.out (by omega)⟩);have bw:=aD BW.out BX.out;go_wp2_with fail
    try rw [Exit.noGoto_ret]
    go_ret
    exact bM.yes FIN.out bw
end Go.Proofs.YtaejfleahamapaaGreat
