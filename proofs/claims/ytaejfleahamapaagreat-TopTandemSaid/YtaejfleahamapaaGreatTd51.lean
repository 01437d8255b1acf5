/- . -/
import Derived.Test.YtaejfleahamapaaGreatTd50
namespace Go.Proofs.YtaejfleahamapaaGreat
set_option linter.unusedVariables false
set_option linter.unusedSimpArgs false
set_option maxHeartbeats 8000000
set_option maxRecDepth 100000
open Go.RowKit
theorem a4v{w w1:World}{T:Nat}{l1 l2:LD}{A1 A2:Option Addr}{c1 c2 gD1 gS1 gD2 gS2:Nat}{vA:Option Addr}{vc:Nat}{ps q:List PK}{done1 done2:List Int}{X0 X1 Y0 Y1:CR}{e0 e1 d0 d1:Int}{g1 g2:Nat} {u0 u1 u3 u7 u8 u9 u10 u11 u12 u13 u14 u15 u16 u17 u18 u19 u20 u21 u22 u23 u24 u25 u26 u27 u28 u29 u30 u31 u32 u33 u34 u35 u36 u37 u38 u39 u40 u41 u42 u43 u44 u45 u46 u47 u48 u49 u50 u51 u52 u53 u54 u55 u56 u57 u58 u59 u60 u61 u62 u63 u64 u65 u66 u67 u68 u69 u70 u71 u72 u73 u74 u75 u76 u77 u78 u79 u80 u81 u82 u83 u84 u85 u86 u87 u88 u89 u90 u91 u92 u93 u94 u95 u96 u97 u98 u99 u100 u101 u102 u103 u104 u105 u106 u107 u108 u109 u110 u111 u112 u113 u114 u115 u116 u117 u118 u119 u120 u121 u122 u123 u124 u125 u126 u127 u128 u129 u130 u131 u132 u133 u134 u135 u136 u137 u138 u139 u140 u141 u142 u143 u144 u145 u146 u147 u148 u149 u150 u151 u152 u153 u154 u155 u156 u157 u158 u159 u160 u161 u162:Value}{wr:World}(E:Hid (iR w w1 wr T l1 l2 A1 A2 c1 c2 gD1 gS1 gD2 gS2 (.slice vA (bO ps done1 ps.length).length vc) ps q done1 done2))(P5:Hid (gY 9 ps))(SQ:Hid (Sm q))(SP:Hid (Sm ps))(HL:Hid (dH 0 ps X0.f e0/\dH 1 ps X1.f e1/\dH 0 q Y0.f d0/\dH 1 q Y1.f d1))(RX:Hid (cR wr g1 0 [X0,X1]))(FX:Hid ((X0.f.Fin/\eE X0.f 0 ps)/\X1.f.Fin/\eE X1.f 1 ps))(RY:Hid (cR wr g2 0 [Y0,Y1]))(FY:Hid ((Y0.f.Fin/\eE Y0.f 0 q)/\Y1.f.Fin/\eE Y1.f 1 q)) :
 Code.wp Tryz.prog (gE 5 (Tryz.f6.body.getD .skip)) (bodyPost Tryz.prog Tryz.f6 (fun e w'=>e=Ending.returned (.bool true)/\Below w.heap.size w w')) ⟨List.toArray (u0 :: u1 :: (.bool false) :: u3 :: (.pointer (some ⟨T,0,none⟩)) :: (.slice (some ⟨g1,0,none⟩) 2 2) :: (.slice (some ⟨g2,0,none⟩) 2 2) :: u7 :: u8 :: u9 :: u10 :: u11 :: u12 :: u13 :: u14 :: u15 :: u16 :: u17 :: u18 :: u19 :: u20 :: u21 :: u22 :: u23 :: u24 :: u25 :: u26 :: u27 :: u28 :: u29 :: u30 :: u31 :: u32 :: u33 :: u34 :: u35 :: u36 :: u37 :: u38 :: u39 :: u40 :: u41 :: u42 :: u43 :: u44 :: u45 :: u46 :: u47 :: u48 :: u49 :: u50 :: u51 :: u52 :: u53 :: u54 :: u55 :: u56 :: u57 :: u58 :: u59 :: u60 :: u61 :: u62 :: u63 :: u64 :: u65 :: u66 :: u67 :: u68 :: u69 :: u70 :: u71 :: u72 :: u73 :: u74 :: u75 :: u76 :: u77 :: u78 :: u79 :: u80 :: u81 :: u82 :: u83 :: u84 :: u85 :: u86 :: u87 :: u88 :: u89 :: u90 :: u91 :: u92 :: u93 :: u94 :: u95 :: u96 :: u97 :: u98 :: u99 :: u100 :: u101 :: u102 :: u103 :: u104 :: u105 :: u106 :: u107 :: u108 :: u109 :: u110 :: u111 :: u112 :: u113 :: u114 :: u115 :: u116 :: u117 :: u118 :: u119 :: u120 :: u121 :: u122 :: u123 :: u124 :: u125 :: u126 :: u127 :: u128 :: u129 :: u130 :: u131 :: u132 :: u133 :: u134 :: u135 :: u136 :: u137 :: u138 :: u139 :: u140 :: u141 :: u142 :: u143 :: u144 :: u145 :: u146 :: u147 :: u148 :: u149 :: u150 :: u151 :: u152 :: u153 :: u154 :: u155 :: u156 :: u157 :: u158 :: u159 :: u160 :: u161 :: u162 :: []),[]⟩ wr:=by
 conv in gE _ _=>simp only [Tryz.f6,gE,Option.getD]
 go_upto_region 6 with fail
 go_cut [7,8] (fun s7 s8 wx=>∃(f:Cv) (er:Int) (zs:List SZ) (F:Nat) (Ac:Option Addr) (n cc:Nat),Hid (fC ps zs/\iZ l1.k l1.cap l1.ws l1.tb 0 [X0.f,X1.f] zs f er)/\s7 = .pointer (some ⟨F,0,none⟩)/\s8 = .int .i64 er/\Hid (aC wx F 26 #[.slice Ac n cc,.int .i64 f.per,.int .i64 f.inc]/\aE wx wx.heap.size Ac n f.vals)/\Hid (Below wr.heap.size wr wx))
 case first=>
  obtain⟨k0,k1,k2,k3,k4,k5⟩:_/\_/\_/\_/\_/\_:=⟨E.out.tb.cell 0,E.out.tb.cell 1,E.out.tb.cell 2,E.out.tb.cell 3,E.out.tb.cell 4,E.out.tb.cell 10⟩
  simp at k0 k1 k2 k3 k4 k5;refine wp_region_held_drew (S:=fun w'=>w'.cell? ⟨T,0,none⟩=some (.int .i64 l1.k)/\w'.cell? ⟨T,1,none⟩=some (.int .i64 l1.cap)/\w'.cell? ⟨T,2,none⟩=some (.int .i64 2)/\w'.cell? ⟨T,3,none⟩=some (.slice l1.AW l1.nW l1.cW)/\w'.cell? ⟨T,4,none⟩=some (.slice l1.AS l1.nS l1.cS)/\w'.cell? ⟨T,10,none⟩=some (.slice A1 ps.length c1)) (by kernel_rfl) (by exact⟨k0,k1,k2,k3,k4,k5⟩) (fun hH=>?_);have BW:=aA (cC (k:=1) (Below.refl wr.heap.size wr));clear k0 k1 k2 k3 k4 k5;have hwe:wr.drewN 1=wr.drew:=rfl;rw [hwe] at BW;clear hwe;generalize hwd:wr.drew=wd at *;clear hwd;refine aO [0,1,2,3,4] ?_;(iterate 5 refine aK ?_);refine aP ?_;refine eS 5 10 (fun K hK=>?_) (fun K hK=>?_)
  ·skip
   rw [if_pos (by rfl)];go_simp
   refine(rF A1 ps.length c1 ps wd (by exact(E.out.below BW.out).r.tp) (by have:=P5.out.len;omega) (fun x hx=>by have:=P5.out.g x hx;omega)).mono ?_;rintro e wa ⟨zs,gz,hz,rfl,hrz,hgz,hb⟩;replace BW:=aA (aD BW.out hb)
   try (replace FB:=aA (FB.out.below hb FB.out.lt))
   have Z:=aA hz;have RZ:=aA hrz;clear hz hrz hgz hb;refine aH hK (by exact⟨by simpa using (E.out.below BW.out).tb.cell 0,by simpa using (E.out.below BW.out).tb.cell 1,by simpa using (E.out.below BW.out).tb.cell 2,by simpa using (E.out.below BW.out).tb.cell 3,by simpa using (E.out.below BW.out).tb.cell 4,by simpa using (E.out.below BW.out).tb.cell 10⟩) (fun hH=>?_);refine eS 6 10 (fun K hK=>?_) (fun K hK=>?_)
   ·skip
    rw [if_pos (by rfl)];go_simp
    have hrow:=RX.out.below BW.out;refine(nE (cl:=0) (xs:=[X0,X1]) (E.out.below BW.out).r.o1 (by omega) (Nat.le_refl 2) (Nat.le_refl 2) rfl hrow (fun x hx=>?_) (fun x hx=>?_) Z.out.z RZ.out).mono ?_
    ·rcases List.mem_cons.1 hx with rfl|hx
     ·exact FX.out.1.1
     ·rw [List.mem_singleton] at hx;rw [hx];exact FX.out.2.1
    ·rcases List.mem_cons.1 hx with rfl|hx
     ·have h1:=(hrow.inn _ (List.mem_cons_self ..)).1;have h2:=FX.out.1.1.1.n2;omega
     ·rw [List.mem_singleton] at hx;rw [hx];have h1:=(hrow.inn X1 (by simp)).1;have h2:=FX.out.2.1.1.n2;omega
    rintro e wb ⟨f,er,hC,Ac,n,cc,rfl,hI,hA,hb⟩;replace BW:=aA (aD BW.out hb)
    try (have HAF:=aA (show ∀b off s,Ac=some ⟨b,off,s⟩->0<n->b≠F from fun b off s e hn=>by have h1:=hA b off s e;have h2:=FB.out.lt;omega))
    try (replace FB:=aA (FB.out.below hb FB.out.lt))
    have HC:=aA hC;have HI:=aA hI;clear hC hI hA hb hrow RZ;refine aH hK (by exact⟨by simpa using (E.out.below BW.out).tb.cell 0,by simpa using (E.out.below BW.out).tb.cell 1,by simpa using (E.out.below BW.out).tb.cell 2,by simpa using (E.out.below BW.out).tb.cell 3,by simpa using (E.out.below BW.out).tb.cell 4,by simpa using (E.out.below BW.out).tb.cell 10⟩) (fun hH=>?_);refine aO [7,8,9] ?_;(iterate 3 refine aK ?_);refine aP ?_;refine aJ 10 (fun K hK=>?_);go_simp
    have ba:=aF wb (.cells #[.slice none 0 0,.int .i64 0,.int .i64 0] 26);have FB:=aC.new wb 26 #[.slice none 0 0,.int .i64 0,.int .i64 0];have HF:=aA (show wr.heap.size<=wb.heap.size from BW.out.size);replace BW:=aA (aD BW.out ba)
    try (replace RZ:=aA (RZ.out.below ba))
    obtain⟨F,hF⟩:∃F,F=wb.heap.size:=⟨_,rfl⟩
    try (have HAF:=aA (show ∀b off s,Ac=some ⟨b,off,s⟩->0<n->b≠F from fun b off s e hn=>by have:=HI.out.lt2 hn e;omega))
    try (replace HI:=aA (HI.out.ext ba))
    rw [<- hF] at FB;replace HF:=aA (show wr.heap.size<=F from by rw [hF];exact HF.out);simp only [<- hF];replace FB:=aA FB;clear ba hF;generalize hwx:wb.alloc (.cells #[.slice none 0 0,.int .i64 0,.int .i64 0] 26)=wc at *;clear hwx;refine aH hK (by exact⟨by simpa using (E.out.below BW.out).tb.cell 0,by simpa using (E.out.below BW.out).tb.cell 1,by simpa using (E.out.below BW.out).tb.cell 2,by simpa using (E.out.below BW.out).tb.cell 3,by simpa using (E.out.below BW.out).tb.cell 4,by simpa using (E.out.below BW.out).tb.cell 10⟩) (fun hH=>?_);refine dA 11 (fun K hK=>?_);obtain⟨f0,f1,f2⟩:_/\_/\_:=⟨FB.out.cell 0,FB.out.cell 1,FB.out.cell 2⟩
    simp at f0 f1 f2;have z0:=FB.out.frozen 0;have z1:=FB.out.frozen 1;have z2:=FB.out.frozen 2;have hlf:=FB.out.lt;rw [if_pos (by rfl)];go_simp
    have FB3:=aA (FB.out.store3 (.slice Ac n cc) (.int .i64 f.per) (.int .i64 f.inc));have k:=((bG wc F 0 (.slice Ac n cc)).trans (bG _ F 1 (.int .i64 f.per))).trans (bG _ F 2 (.int .i64 f.inc));have HI3:=aA (HI.out.kx k (fun hn b off s e h=>HAF.out b off s e hn h));have BW3:=aA (gC BW.out k (fun g e=>by rw [e];exact HF.out));clear k f0 f1 f2 z0 z1 z2 hlf FB BW HI;generalize hwz:((wc.setCell ⟨F,0,none⟩ _).setCell ⟨F,1,none⟩ _).setCell ⟨F,2,none⟩ _=wz at *;clear hwz;refine aH hK (by exact⟨by simpa using (E.out.below BW3.out).tb.cell 0,by simpa using (E.out.below BW3.out).tb.cell 1,by simpa using (E.out.below BW3.out).tb.cell 2,by simpa using (E.out.below BW3.out).tb.cell 3,by simpa using (E.out.below BW3.out).tb.cell 4,by simpa using (E.out.below BW3.out).tb.cell 10⟩) (fun hH=>?_);refine bD 12 ?_;refine aT ?_;go_wp2_with fail
    go_meet
    exact⟨f,er,zs,F,Ac,n,cc,aA ⟨Z.out,HC.out⟩,rfl,rfl,aA ⟨FB3.out,HI3.out⟩,BW3⟩
   ·skip
    rw [if_pos (by rfl)];go_simp
    have ba:=aF wa (.cells #[.slice none 0 0,.int .i64 0,.int .i64 0] 26);have FB:=aC.new wa 26 #[.slice none 0 0,.int .i64 0,.int .i64 0];have HF:=aA (show wr.heap.size<=wa.heap.size from BW.out.size);replace BW:=aA (aD BW.out ba)
    try (replace RZ:=aA (RZ.out.below ba))
    obtain⟨F,hF⟩:∃F,F=wa.heap.size:=⟨_,rfl⟩
    try (have HAF:=aA (show ∀b off s,Ac=some ⟨b,off,s⟩->0<n->b≠F from fun b off s e hn=>by have:=HI.out.lt2 hn e;omega))
    try (replace HI:=aA (HI.out.ext ba))
    rw [<- hF] at FB;replace HF:=aA (show wr.heap.size<=F from by rw [hF];exact HF.out);simp only [<- hF];replace FB:=aA FB;clear ba hF;generalize hwx:wa.alloc (.cells #[.slice none 0 0,.int .i64 0,.int .i64 0] 26)=wb at *;clear hwx;refine aH hK (by exact⟨by simpa using (E.out.below BW.out).tb.cell 0,by simpa using (E.out.below BW.out).tb.cell 1,by simpa using (E.out.below BW.out).tb.cell 2,by simpa using (E.out.below BW.out).tb.cell 3,by simpa using (E.out.below BW.out).tb.cell 4,by simpa using (E.out.below BW.out).tb.cell 10⟩) (fun hH=>?_);refine aJ 6 (fun K hK=>?_);go_simp
    have hrow:=RX.out.below BW.out;refine(nE (cl:=0) (xs:=[X0,X1]) (E.out.below BW.out).r.o1 (by omega) (Nat.le_refl 2) (Nat.le_refl 2) rfl hrow (fun x hx=>?_) (fun x hx=>?_) Z.out.z RZ.out).mono ?_
    ·rcases List.mem_cons.1 hx with rfl|hx
     ·exact FX.out.1.1
     ·rw [List.mem_singleton] at hx;rw [hx];exact FX.out.2.1
    ·rcases List.mem_cons.1 hx with rfl|hx
     ·have h1:=(hrow.inn _ (List.mem_cons_self ..)).1;have h2:=FX.out.1.1.1.n2;omega
     ·rw [List.mem_singleton] at hx;rw [hx];have h1:=(hrow.inn X1 (by simp)).1;have h2:=FX.out.2.1.1.n2;omega
    rintro e wc ⟨f,er,hC,Ac,n,cc,rfl,hI,hA,hb⟩;replace BW:=aA (aD BW.out hb)
    try (have HAF:=aA (show ∀b off s,Ac=some ⟨b,off,s⟩->0<n->b≠F from fun b off s e hn=>by have h1:=hA b off s e;have h2:=FB.out.lt;omega))
    try (replace FB:=aA (FB.out.below hb FB.out.lt))
    have HC:=aA hC;have HI:=aA hI;clear hC hI hA hb hrow RZ;refine aH hK (by exact⟨by simpa using (E.out.below BW.out).tb.cell 0,by simpa using (E.out.below BW.out).tb.cell 1,by simpa using (E.out.below BW.out).tb.cell 2,by simpa using (E.out.below BW.out).tb.cell 3,by simpa using (E.out.below BW.out).tb.cell 4,by simpa using (E.out.below BW.out).tb.cell 10⟩) (fun hH=>?_);refine aO [7,8,9] ?_;(iterate 3 refine aK ?_);refine aP ?_;refine dA 11 (fun K hK=>?_);obtain⟨f0,f1,f2⟩:_/\_/\_:=⟨FB.out.cell 0,FB.out.cell 1,FB.out.cell 2⟩
    simp at f0 f1 f2;have z0:=FB.out.frozen 0;have z1:=FB.out.frozen 1;have z2:=FB.out.frozen 2;have hlf:=FB.out.lt;rw [if_pos (by rfl)];go_simp
    have FB3:=aA (FB.out.store3 (.slice Ac n cc) (.int .i64 f.per) (.int .i64 f.inc));have k:=((bG wc F 0 (.slice Ac n cc)).trans (bG _ F 1 (.int .i64 f.per))).trans (bG _ F 2 (.int .i64 f.inc));have HI3:=aA (HI.out.kx k (fun hn b off s e h=>HAF.out b off s e hn h));have BW3:=aA (gC BW.out k (fun g e=>by rw [e];exact HF.out));clear k f0 f1 f2 z0 z1 z2 hlf FB BW HI;generalize hwz:((wc.setCell ⟨F,0,none⟩ _).setCell ⟨F,1,none⟩ _).setCell ⟨F,2,none⟩ _=wz at *;clear hwz;refine aH hK (by exact⟨by simpa using (E.out.below BW3.out).tb.cell 0,by simpa using (E.out.below BW3.out).tb.cell 1,by simpa using (E.out.below BW3.out).tb.cell 2,by simpa using (E.out.below BW3.out).tb.cell 3,by simpa using (E.out.below BW3.out).tb.cell 4,by simpa using (E.out.below BW3.out).tb.cell 10⟩) (fun hH=>?_);refine bD 12 ?_;refine aT ?_;go_wp2_with fail
    go_meet
    exact⟨f,er,zs,F,Ac,n,cc,aA ⟨Z.out,HC.out⟩,rfl,rfl,aA ⟨FB3.out,HI3.out⟩,BW3⟩
  ·skip
   rw [if_pos (by rfl)];go_simp
   have ba:=aF wd (.cells #[.slice none 0 0,.int .i64 0,.int .i64 0] 26);have FB:=aC.new wd 26 #[.slice none 0 0,.int .i64 0,.int .i64 0];have HF:=aA (show wr.heap.size<=wd.heap.size from BW.out.size);replace BW:=aA (aD BW.out ba)
   try (replace RZ:=aA (RZ.out.below ba))
   obtain⟨F,hF⟩:∃F,F=wd.heap.size:=⟨_,rfl⟩
   try (have HAF:=aA (show ∀b off s,Ac=some ⟨b,off,s⟩->0<n->b≠F from fun b off s e hn=>by have:=HI.out.lt2 hn e;omega))
   try (replace HI:=aA (HI.out.ext ba))
   rw [<- hF] at FB;replace HF:=aA (show wr.heap.size<=F from by rw [hF];exact HF.out);simp only [<- hF];replace FB:=aA FB;clear ba hF;generalize hwx:wd.alloc (.cells #[.slice none 0 0,.int .i64 0,.int .i64 0] 26)=wa at *;clear hwx;refine aH hK (by exact⟨by simpa using (E.out.below BW.out).tb.cell 0,by simpa using (E.out.below BW.out).tb.cell 1,by simpa using (E.out.below BW.out).tb.cell 2,by simpa using (E.out.below BW.out).tb.cell 3,by simpa using (E.out.below BW.out).tb.cell 4,by simpa using (E.out.below BW.out).tb.cell 10⟩) (fun hH=>?_);refine aJ 5 (fun K hK=>?_);go_simp
   refine(rF A1 ps.length c1 ps wa (by exact(E.out.below BW.out).r.tp) (by have:=P5.out.len;omega) (fun x hx=>by have:=P5.out.g x hx;omega)).mono ?_;rintro e wb ⟨zs,gz,hz,rfl,hrz,hgz,hb⟩;replace BW:=aA (aD BW.out hb)
   try (replace FB:=aA (FB.out.below hb FB.out.lt))
   have Z:=aA hz;have RZ:=aA hrz;clear hz hrz hgz hb;refine aH hK (by exact⟨by simpa using (E.out.below BW.out).tb.cell 0,by simpa using (E.out.below BW.out).tb.cell 1,by simpa using (E.out.below BW.out).tb.cell 2,by simpa using (E.out.below BW.out).tb.cell 3,by simpa using (E.out.below BW.out).tb.cell 4,by simpa using (E.out.below BW.out).tb.cell 10⟩) (fun hH=>?_);refine aJ 6 (fun K hK=>?_);go_simp
   have hrow:=RX.out.below BW.out;refine(nE (cl:=0) (xs:=[X0,X1]) (E.out.below BW.out).r.o1 (by omega) (Nat.le_refl 2) (Nat.le_refl 2) rfl hrow (fun x hx=>?_) (fun x hx=>?_) Z.out.z RZ.out).mono ?_
   ·rcases List.mem_cons.1 hx with rfl|hx
    ·exact FX.out.1.1
    ·rw [List.mem_singleton] at hx;rw [hx];exact FX.out.2.1
   ·rcases List.mem_cons.1 hx with rfl|hx
    ·have h1:=(hrow.inn _ (List.mem_cons_self ..)).1;have h2:=FX.out.1.1.1.n2;omega
    ·rw [List.mem_singleton] at hx;rw [hx];have h1:=(hrow.inn X1 (by simp)).1;have h2:=FX.out.2.1.1.n2;omega
   rintro e wc ⟨f,er,hC,Ac,n,cc,rfl,hI,hA,hb⟩;replace BW:=aA (aD BW.out hb)
   try (have HAF:=aA (show ∀b off s,Ac=some ⟨b,off,s⟩->0<n->b≠F from fun b off s e hn=>by have h1:=hA b off s e;have h2:=FB.out.lt;omega))
   try (replace FB:=aA (FB.out.below hb FB.out.lt))
   have HC:=aA hC;have HI:=aA hI;clear hC hI hA hb hrow RZ;refine aH hK (by exact⟨by simpa using (E.out.below BW.out).tb.cell 0,by simpa using (E.out.below BW.out).tb.cell 1,by simpa using (E.out.below BW.out).tb.cell 2,by simpa using (E.out.below BW.out).tb.cell 3,by simpa using (E.out.below BW.out).tb.cell 4,by simpa using (E.out.below BW.out).tb.cell 10⟩) (fun hH=>?_);refine aO [7,8,9] ?_;(iterate 3 refine aK ?_);refine aP ?_;refine dA 11 (fun K hK=>?_);obtain⟨f0,f1,f2⟩:_/\_/\_:=⟨FB.out.cell 0,FB.out.cell 1,FB.out.cell 2⟩
   simp at f0 f1 f2;have z0:=FB.out.frozen 0;have z1:=FB.out.frozen 1;have z2:=FB.out.frozen 2;have hlf:=FB.out.lt;rw [if_pos (by rfl)];go_simp
   have FB3:=aA (FB.out.store3 (.slice Ac n cc) (.int .i64 f.per) (.int .i64 f.inc));have k:=((bG wc F 0 (.slice Ac n cc)).trans (bG _ F 1 (.int .i64 f.per))).trans (bG _ F 2 (.int .i64 f.inc));have HI3:=aA (HI.out.kx k (fun hn b off s e h=>HAF.out b off s e hn h));have BW3:=aA (gC BW.out k (fun g e=>by rw [e];exact HF.out));clear k f0 f1 f2 z0 z1 z2 hlf FB BW HI;generalize hwz:((wc.setCell ⟨F,0,none⟩ _).setCell ⟨F,1,none⟩ _).setCell ⟨F,2,none⟩ _=wz at *;clear hwz;refine aH hK (by exact⟨by simpa using (E.out.below BW3.out).tb.cell 0,by simpa using (E.out.below BW3.out).tb.cell 1,by simpa using (E.out.below BW3.out).tb.cell 2,by simpa using (E.out.below BW3.out).tb.cell 3,by simpa using (E.out.below BW3.out).tb.cell 4,by simpa using (E.out.below BW3.out).tb.cell 10⟩) (fun hH=>?_);refine bD 12 ?_;refine aT ?_;go_wp2_with fail
   go_meet
   exact⟨f,er,zs,F,Ac,n,cc,aA ⟨Z.out,HC.out⟩,rfl,rfl,aA ⟨FB3.out,HI3.out⟩,BW3⟩
 case rest=>
  rename World=>wx
  obtain⟨f,er,zs,F,Ac,n,cc,HZF,rfl,rfl,HFF,BW⟩:=hcut;replace E:=aA (E.out.below BW.out);replace RX:=aA (RX.out.below BW.out);replace RY:=aA (RY.out.below BW.out);have FBf:=aA HFF.out.1;have HIf:=aA HFF.out.2
  rename_i K hK
  refine hK _ _ ?_;exact a4w E P5 SQ SP HL RX FX RY FY HZF FBf HIf
theorem a42(A0:Option Addr)(n0 c0:Nat)(L0:List Int)(w:World)(hL:aE w w.heap.size A0 n0 L0)(hc0:n0<=c0)(hn0:(n0:Int)<=9223372036854775807) :
 Calls Tryz.prog 6 #[.slice A0 n0 c0] w fun e w'=>e = .returned (.bool true)/\Below w.heap.size w w':=by
 go_enter Tryz.func6,Tryz.ntmps6
 go_wp2_with fail
 refine(a0q A0 n0 c0 L0 w hL hc0 hn0).mono ?_;rintro e w1 ⟨rfl,hS1,hb1⟩;clear hL;go_wp2_with fail
 refine(a1c w.heap.size w1 hS1).mono ?_;rintro e w2 ⟨l1,l2,A1,A2,c1,c2,gD1,gS1,gD2,gS2,vf,ps,q,done1,done2,hR,rfl,hS2,hk2⟩;obtain⟨vA,vc,rfl,-,-,-⟩:=hR.f.ints;obtain⟨T,hT⟩:∃T,T=w2.heap.size:=⟨_,rfl⟩
 have E:=aA (show iR w w1 (w2.alloc (.cells (TC l1 l2 (.slice A1 ps.length c1) (.slice A2 q.length c2) (.slice (some ⟨gD1,0,none⟩) ps.length ps.length) (.slice (some ⟨gS1,0,none⟩) 2 2) (.slice (some ⟨gD2,0,none⟩) q.length q.length) (.slice (some ⟨gS2,0,none⟩) 2 2) (.slice vA (bO ps done1 ps.length).length vc) true) 80)) T l1 l2 A1 A2 c1 c2 gD1 gS1 gD2 gS2 (.slice vA (bO ps done1 ps.length).length vc) ps q done1 done2 from
  ⟨aD ((lL (bI.of hb1) hk2).below (Nat.le_refl _)) (aF w2 _),by rw [hT];exact aC.new _ _ _,hR.below (aF w2 _)⟩)
 clear hR hS2 hk2 hS1 hb1;go_upto_region 3 with fail
 rw [<- hT];generalize hwe:w2.alloc _=w3 at *;clear hwe hT;obtain⟨c10,c11,c17⟩:_/\_/\_:=⟨E.out.tb.cell 10,E.out.tb.cell 11,E.out.tb.cell 17⟩
 simp at c10 c11 c17;have hlt:=E.out.tb.lt;go_upto_region 5 with fail
 have P5:=aA E.out.r.p5;have SQ:=aA E.out.r.sq;have SP:=aA (E.out.r.p5.sm (by omega));go_cut [5,6] (fun s5 s6 wx=>∃(X0 X1 Y0 Y1:CR) (e0 e1 d0 d1:Int) (g1 g2:Nat),Hid (dH 0 ps X0.f e0/\dH 1 ps X1.f e1/\dH 0 q Y0.f d0/\dH 1 q Y1.f d1)/\s5 = .slice (some ⟨g1,0,none⟩) 2 2/\s6 = .slice (some ⟨g2,0,none⟩) 2 2/\Hid (cR wx g1 0 [X0,X1]/\cR wx g2 0 [Y0,Y1])/\Hid (iR w w1 wx T l1 l2 A1 A2 c1 c2 gD1 gS1 gD2 gS2 (.slice vA (bO ps done1 ps.length).length vc) ps q done1 done2))
 case first=>
  refine wp_region_held_drew (S:=fun w'=>w'.cell? ⟨T,10,none⟩=some (.slice A1 ps.length c1)/\w'.cell? ⟨T,11,none⟩=some (.slice A2 q.length c2)) (by kernel_rfl) (by exact⟨c10,c11⟩) (fun hH=>?_);refine aO [0,1,3,4] ?_;(iterate 4 refine aK ?_);refine aP ?_;refine aJ 2 (fun K hK=>?_);go_simp
  have E0:=E.out.drew;refine(xI A1 ps.length c1 ps _ (by exact E0.r.tp) SP.out.v).mono ?_;rintro e w4 ⟨X0,X1,e0,e1,g1,hX0,hX1,rfl,hr1,hg1,hb⟩;have E2:=aA (E0.below hb);have RX:=aA hr1;have HX:=aA (And.intro hX0 hX1);clear hX0 hX1 hr1 hg1 hb E0 E hH c10 c11 c17 hlt;refine aH hK (by exact⟨by simpa using E2.out.tb.cell 10,by simpa using E2.out.tb.cell 11⟩) (fun hH=>?_);refine aJ 5 (fun K hK=>?_);go_simp
  refine(xI A2 q.length c2 q w4 E2.out.r.tq SQ.out.v).mono ?_;rintro e w5 ⟨Y0,Y1,d0,d1,g2,hY0,hY1,rfl,hr2,hg2,hb⟩;have E:=aA (E2.out.below hb);replace RX:=aA (RX.out.below hb);have RY:=aA hr2;have HY:=aA (And.intro hY0 hY1);clear hY0 hY1 hr2 hg2 hb E2;refine aH hK (by exact⟨by simpa using E.out.tb.cell 10,by simpa using E.out.tb.cell 11⟩) (fun hH=>?_);refine aO [6,7] ?_;(iterate 2 refine aK ?_);refine aP ?_;refine aT ?_;go_wp2_with fail
  go_meet
  exact⟨X0,X1,Y0,Y1,e0,e1,d0,d1,g1,g2,aA ⟨HX.out.1,HX.out.2,HY.out.1,HY.out.2⟩,rfl,rfl,aA ⟨RX.out,RY.out⟩,E⟩
 case rest=>
  rename World=>wr
  clear E c10 c11 c17 hlt;obtain⟨X0,X1,Y0,Y1,e0,e1,d0,d1,g1,g2,HL,rfl,rfl,HR,E⟩:=hcut;have RX:=aA HR.out.1;have RY:=aA HR.out.2;clear HR;have FX:=aA (And.intro (lM SP.out.v SP.out.endN HL.out.1).2 (lM SP.out.v SP.out.endN HL.out.2.1).2);have FY:=aA (And.intro (lM SQ.out.v SQ.out.endN HL.out.2.2.1).2 (lM SQ.out.v SQ.out.endN HL.out.2.2.2).2)
  rename_i K hK
  refine hK _ _ ?_;exact a4v E P5 SQ SP HL RX FX RY FY
end Go.Proofs.YtaejfleahamapaaGreat
