/- . -/
import Derived.Test.YtaejfleahamapaaGreatTd29
namespace Go.Proofs.YtaejfleahamapaaGreat
set_option linter.unusedVariables false
set_option linter.unusedSimpArgs false
set_option maxHeartbeats 4000000
set_option maxRecDepth 100000
open Go.RowKit
structure cI(w wx:World)(A:Option Addr)(n c:Nat)(a:Cv)(B:Option Addr)(m d:Nat)(b:Cv)(K:Int):Prop where
 pb:aC wx w.heap.size 91 (bH A n c a B m d b K)
 ia:aE wx w.heap.size A n a.vals
 ib:aE wx w.heap.size B m b.vals
 rb:aC wx (w.heap.size+1) 26 #[.slice none 0 0,.int .i64 0,.int .i64 0]
 bw:Below w.heap.size w wx
section
variable{w wx wy:World}{A B:Option Addr}{n c m d:Nat}{a b:Cv}{K:Int}
theorem cI.new(hA:aE w w.heap.size A n a.vals)(hB:aE w w.heap.size B m b.vals):cI w ((w.alloc (.cells (bH A n c a B m d b K) 91)).alloc (.cells #[.slice none 0 0,.int .i64 0,.int .i64 0] 26)) A n c a B m d b K:=by
 have rb:=aC.new (w.alloc (.cells (bH A n c a B m d b K) 91)) 26 #[.slice none 0 0,.int .i64 0,.int .i64 0];rw [World.size_alloc] at rb;exact⟨(aC.new _ _ _).alloc _,(hA.alloc (Nat.le_refl _) _).alloc (by simp) _,(hB.alloc (Nat.le_refl _) _).alloc (by simp) _,rb,aD (aF _ _) (aF _ _)⟩
theorem cI.below(h:cI w wx A n c a B m d b K)(hb:Below wx.heap.size wx wy):cI w wy A n c a B m d b K:=⟨h.pb.below hb h.pb.lt,h.ia.below (hb.mono h.bw.size),h.ib.below (hb.mono h.bw.size),h.rb.below hb h.rb.lt,aD h.bw hb⟩
theorem cI.alloc(h:cI w wx A n c a B m d b K)(o:Obj):cI w (wx.alloc o) A n c a B m d b K:=h.below (aF wx o)
theorem cI.drew(h:cI w wx A n c a B m d b K):cI w wx.drew A n c a B m d b K:=⟨h.pb,h.ia,h.ib,h.rb,Below.drew h.bw⟩
theorem cI.sto(h:cI w wx A n c a B m d b K){g:Nat}(s:aR g wx wy)(hg:w.heap.size+1<g):cI w wy A n c a B m d b K:=
 ⟨h.pb.sto s (by omega),h.ia.keep (fun q hq=>World.cell?_of_block (s.block _ (by omega))),h.ib.keep (fun q hq=>World.cell?_of_block (s.block _ (by omega))),h.rb.sto s (by omega),cE h.bw s (by omega)⟩
theorem cI.set(h:cI w wx A n c a B m d b K){g:Nat}(hg:w.heap.size+1<g)(i:Nat)(u:Value):cI w (wx.setCell ⟨g,i,none⟩ u) A n c a B m d b K:=h.sto ((aR.refl g wx).set i u) hg
theorem cI.ja(h:cI w wx A n c a B m d b K):aE wx wx.heap.size A n a.vals:=h.ia.more h.bw.size
theorem cI.jb(h:cI w wx A n c a B m d b K):aE wx wx.heap.size B m b.vals:=h.ib.more h.bw.size
theorem cI.cells(h:cI w wx A n c a B m d b K):(wx.cell? ⟨w.heap.size,0,none⟩=some (.slice A n c)/\wx.cell? ⟨w.heap.size,1,none⟩=some (.int .i64 a.per)/\wx.cell? ⟨w.heap.size,2,none⟩=some (.int .i64 a.inc))/\
 (wx.cell? ⟨w.heap.size,3,none⟩=some (.slice B m d)/\wx.cell? ⟨w.heap.size,4,none⟩=some (.int .i64 b.per)/\wx.cell? ⟨w.heap.size,5,none⟩=some (.int .i64 b.inc))/\wx.cell? ⟨w.heap.size,6,none⟩=some (.int .i64 K)/\w.heap.size+1<wx.heap.size:=by
 have q:=fun i=>h.pb.cell i
 have q0:=q 0;have q1:=q 1;have q2:=q 2;have q3:=q 3;have q4:=q 4;have q5:=q 5;have q6:=q 6;simp [bH] at q0 q1 q2 q3 q4 q5 q6
 exact⟨⟨q0,q1,q2⟩,⟨q3,q4,q5⟩,q6,h.rb.lt⟩
end
structure Vx(L:Nat)(wx:World)(F:Nat)(A:Option Addr)(n c:Nat)(f:Cv):Prop where
 blk:aC wx F 26 #[.slice A n c,.int .i64 f.per,.int .i64 f.inc]
 ints:aE wx L A n f.vals
 lt:L<F
section
variable{L F n c:Nat}{wx wy:World}{A:Option Addr}{f:Cv}
theorem Vx.below(h:Vx L wx F A n c f)(hb:Below wx.heap.size wx wy):Vx L wy F A n c f:=⟨h.blk.below hb h.blk.lt,h.ints.below (hb.mono (by have:=h.blk.lt;have:=h.lt;omega)),h.lt⟩
theorem Vx.drew(h:Vx L wx F A n c f):Vx L wx.drew F A n c f:=⟨h.blk,h.ints,h.lt⟩
theorem Vx.sto{g:Nat}(h:Vx L wx F A n c f)(s:aR g wx wy)(hg:F≠g)(hL:L<=g):Vx L wy F A n c f:=⟨h.blk.sto s hg,h.ints.keep (fun q hq=>World.cell?_of_block (s.block _ (by omega))),h.lt⟩
theorem Vx.put(h:Vx L wx F A n c f){B:Option Addr}{m d:Nat}{g:Cv}(hB:aE (((wx.setCell ⟨F,0,none⟩ (.slice B m d)).setCell ⟨F,1,none⟩ (.int .i64 g.per)).setCell ⟨F,2,none⟩ (.int .i64 g.inc)) L B m g.vals) :
 Vx L (((wx.setCell ⟨F,0,none⟩ (.slice B m d)).setCell ⟨F,1,none⟩ (.int .i64 g.per)).setCell ⟨F,2,none⟩ (.int .i64 g.inc)) F B m d g:=⟨h.blk.store3 _ _ _,hB,h.lt⟩
theorem Vx.all(h:Vx L wx F A n c f):aE wx wx.heap.size A n f.vals:=h.ints.more (by have:=h.blk.lt;have:=h.lt;omega)
theorem Vx.cells(h:Vx L wx F A n c f):wx.cell? ⟨F,0,none⟩=some (.slice A n c)/\wx.cell? ⟨F,1,none⟩=some (.int .i64 f.per)/\wx.cell? ⟨F,2,none⟩=some (.int .i64 f.inc)/\F<wx.heap.size:=by
 have q0:=h.blk.cell 0;have q1:=h.blk.cell 1;have q2:=h.blk.cell 2;simp at q0 q1 q2;exact⟨q0,q1,q2,h.blk.lt⟩
end
theorem J1{p q:Nat}(hp:1<=p)(hq:1<=q):a9 p q=a9 q p:=by
 unfold a9;rw [Nat.gcd_comm q p];have d1:=Nat.div_mul_cancel (Nat.gcd_dvd_left p q);have d2:=Nat.div_mul_cancel (Nat.gcd_dvd_right p q);generalize p / Nat.gcd p q=x at *;generalize q / Nat.gcd p q=y at *;generalize Nat.gcd p q=g at *;rw [<- d1,<- d2];exact Nat.mul_left_comm _ _ _
theorem nL{a b:Cv}(ha:a.Ok)(hb:b.Ok):aI a b=aI b a:=by
 have h1:=ha.p1;have h2:=hb.p1;exact J1 (by omega) (by omega)
theorem oQ{a b:Cv}(ha:a.Ok)(hb:b.Ok):bR b a=cH a b:=by unfold bR cH;rw [nL ha hb]
theorem sR{a b:Cv}(ha:a.Ok)(hb:b.Ok):cH b a=bR a b:=by unfold bR cH;rw [nL ha hb]
structure UV(a b u v:Cv):Prop where
 eq:(u=a/\v=b)\/(u=b/\v=a)
 fin:u.Fin\/¬v.Fin
 le:u.Fin->v.Fin->bR u v<=cH u v
theorem UV.keep{a b:Cv}{fa fb:Bool}(h1:fa=true↔a.Fin)(h2:fb=true↔b.Fin)(h:(!fa || (fb && decide (cH a b<bR a b)))=false):UV a b a b:=by
 cases fa
 ·cases h
 ·refine⟨.inl ⟨rfl,rfl⟩,.inl (h1.1 rfl),fun _ fb'=>?_⟩
  have:=h2.2 fb'
  subst this;simp at h;exact h
theorem UV.swap{a b:Cv}(ha:a.Ok)(hb:b.Ok){fa fb:Bool}(h1:fa=true↔a.Fin)(h2:fb=true↔b.Fin)(h:(!fa || (fb && decide (cH a b<bR a b)))=true):UV a b b a:=by
 refine⟨.inr ⟨rfl,rfl⟩,?_,fun fb' fa'=>?_⟩
 ·cases fa
  ·exact .inr (fun h=>by have:=h1.2 h;cases this)
  ·cases fb
   ·cases h
   ·exact .inl (h2.1 rfl)
 ·rw [oQ ha hb,sR ha hb];have e1:=h1.2 fa';have e2:=h2.2 fb';subst e1 e2;simp at h;omega
theorem UV.conv{a b u v:Cv}(H:UV a b u v){r:Cv}{er:Int}{h:Nat->Int}(hh:bZ u v h)(hm:dZ h r er):iN a b r er:=by
 rcases H.eq with ⟨rfl,rfl⟩|⟨rfl,rfl⟩
 ·exact⟨h,hh,hm⟩
 ·exact⟨h,hh.symm,hm⟩
theorem UV.ok{a b u v:Cv}(H:UV a b u v)(ha:a.Ok)(hb:b.Ok):u.Ok/\v.Ok/\aI u v=aI a b/\u.vals.length-u.per.toNat+(v.vals.length-v.per.toNat)=a.vals.length-a.per.toNat+(b.vals.length-b.per.toNat):=by
 rcases H.eq with ⟨rfl,rfl⟩|⟨rfl,rfl⟩
 ·exact⟨ha,hb,rfl,rfl⟩
 ·exact⟨hb,ha,nL hb ha,Nat.add_comm _ _⟩
def oB(u v:Cv)(cr:Bool)(FR:Nat)(fr:Nat)(pe ic:Int):Prop:=
 (cr=true↔v.Fin/\bR u v<cH u v)/\((cr=false/\fr=FR/\pe=(aI u v:Nat)/\ic=bR u v)\/(cr=true/\fr=max 400 FR/\pe=u.per/\ic=u.inc))
theorem a5e{a b u v:Cv}(H:UV a b u v)(ha:a.Ok)(hb:b.Ok){h:Nat->Int}(hh:bZ u v h){cr:Bool}{FR fr:Nat}{pe ic:Int}(M:oB u v cr FR fr pe ic)(hFR:FR=u.vals.length-u.per.toNat+(v.vals.length-v.per.toNat)+aI u v)
 (hK:aI u v<=120) (hat:cr=true->∀t,fr<=t->t<fr+aI u v->cQ u v (u.vals.length-u.per.toNat) t (t+1) (h t)) {r:Cv} {er:Int} (hS:eW h fr pe.toNat ic r er):iN a b r er:=by
 obtain⟨hu,hv,_,_⟩:=H.ok ha hb;have u1:=hu.p1;have u2:=hu.p2;have u3:=hu.n2;have u4:=hu.pn;have v1:=hv.p1;have v3:=hv.n2;have v4:=hv.pn;have c1:=(iG hu hv).c1;refine H.conv hh ?_;obtain⟨hcr,⟨rfl,rfl,rfl,rfl⟩|⟨rfl,rfl,rfl,rfl⟩⟩:=M
 ·rw [Int.toNat_natCast] at hS;rcases hu.fin_or with fu|iu
  ·rcases hv.fin_or with fv|iv
   ·have h1:=H.le fu fv;have h2:¬bR u v<cH u v:=fun h=>by have:=hcr.2 ⟨fv,h⟩;cases this
    exact N8 fu fv (by omega) hh (by omega) (by omega) hS
   ·obtain⟨e1,e2⟩:=wU hu hv iv;rw [e1,e2] at hS;exact N7 fu hv iv hh (by omega) (by omega) hS
  ·have iv:aB v.vals (v.vals.length-1)=aG:=by
    rcases hv.fin_or with fv|iv
    ·rcases H.fin with h|h
     ·exact absurd iu h.2
     ·exact absurd fv h
    ·exact iv
   exact N6 hu hv iu iv hh c1 (by omega) (by omega) hS
 ·obtain⟨fv,hlt⟩:=hcr.1 rfl;have fu:u.Fin:=H.fin.resolve_right (fun h=>h fv);exact N9 fu fv hlt hh (by omega) (by omega) (hat rfl) hS
theorem a5f{a b u v:Cv}(H:UV a b u v)(ha:a.Ok)(hb:b.Ok){h:Nat->Int}(hh:bZ u v h){cr:Bool}{FR fr:Nat}{pe ic:Int}(M:oB u v cr FR fr pe ic)(hFR:FR=u.vals.length-u.per.toNat+(v.vals.length-v.per.toNat)+aI u v)
 (hc:cr=true) {t:Nat} (ht:fr<=t) (ht2:t<=2000) {x:Int} (hx:cQ u v (u.vals.length-u.per.toNat) t (t+1) x) (hlt:h t<x):iN a b Cv.none 3:=by
 obtain⟨hu,hv,_,_⟩:=H.ok ha hb;refine H.conv hh ?_;obtain⟨hcr,⟨rfl,_⟩|⟨_,rfl,_,_⟩⟩:=M
 ·cases hc
 ·obtain⟨fv,h1⟩:=hcr.1 hc;have fu:u.Fin:=H.fin.resolve_right (fun h=>h fv);exact O0 fu fv h1 hh (by omega) ht2 (by omega) hx hlt
theorem a5d{u v:Cv}(hu:u.Ok)(hv:v.Ok){h:Nat->Int}(hh:bZ u v h){su t:Nat}{x:Int}(ht:t<=2000)(hx:cQ u v su t (t+1) x)(hle:x<=h t):cQ u v su t (t+1) (h t):=by
 have e:x=h t:=by
  rcases hx with ⟨h1,rfl⟩|⟨⟨s,h0,h2,h3,rfl⟩,h4⟩
  ·have:=(oK hu hv hh ht).2;unfold aG at *;omega
  ·rcases (hh t).cases with ⟨k1,k2⟩|⟨_,k2⟩
   ·exact absurd h3 (k1 s)
   ·have:=k2 s h3;omega
 rw [<- e];exact hx
theorem Vx.two{L:Nat}{w:World}{A B:Option Addr}{n m c d:Nat}{f g:Cv}(hA:aE w L A n f.vals)(hB:aE w L B m g.vals)(hL:L<w.heap.size) :
 Vx L ((w.alloc (.cells #[.slice A n c,.int .i64 f.per,.int .i64 f.inc] 26)).alloc (.cells #[.slice B m d,.int .i64 g.per,.int .i64 g.inc] 26)).drew w.heap.size A n c f/\
 Vx L ((w.alloc (.cells #[.slice A n c,.int .i64 f.per,.int .i64 f.inc] 26)).alloc (.cells #[.slice B m d,.int .i64 g.per,.int .i64 g.inc] 26)).drew (w.heap.size+1) B m d g:=by
 have h2:=aC.new (w.alloc (.cells #[.slice A n c,.int .i64 f.per,.int .i64 f.inc] 26)) 26 #[.slice B m d,.int .i64 g.per,.int .i64 g.inc];rw [World.size_alloc] at h2;exact⟨⟨(aC.new _ _ _).alloc _,(hA.alloc (by omega) _).alloc (by simp;omega) _,hL⟩,⟨h2,(hB.alloc (by omega) _).alloc (by simp;omega) _,by omega⟩⟩
theorem O4(Q gv n:Nat)(h:Nat->Int)(vs:List Int)(t:Nat)(w:World)(hV:aC w Q 22 #[.slice (some ⟨gv,0,none⟩) n n])(hR:aU w gv vs)(hu:j3 h vs n n)(ht:t<n) :
 Calls Tryz.prog 98 (#[.int .i64 t] ++ #[.pointer (some ⟨Q,0,none⟩)]) w fun e w'=>e = .returned (.int .i64 (h t))/\Below w.heap.size w w':=by
 show Calls _ _ #[.int .i64 t,.pointer (some ⟨Q,0,none⟩)] _ _
 have q0:=hV.cell 0;have s0:=hR.cell t (by rw [hu.1];exact ht);rw [hu.2 t ht] at s0;simp at q0;have hl:=hR.lt;have hlq:=hV.lt;have hti:(t:Int)<n:=by omega
 clear hV hR hu;go_enter Tryz.func98,Tryz.ntmps98
 go_wp2_with fail
 go_ret
 exact⟨rfl,Below.refl _ _⟩
theorem wC(A B:Option Addr)(n m c d:Nat)(a b:Cv)(w:World)(hA:aE w w.heap.size A n a.vals)(hB:aE w w.heap.size B m b.vals)(ha:a.Ok)(hb:b.Ok)(hc:aI a b<=120) :
 Calls Tryz.prog 40 #[.agg (bH A n c a B m d b (aI a b:Nat))] w (oD (iN a b) w):=by
 have a1:=ha.n1;have a2:=ha.n2;have a3:=ha.p1;have a4:=ha.p2;have a5:=ha.pn;have a6:=ha.i1;have a7:=ha.i2;have b1:=hb.n1;have b2:=hb.n2;have b3:=hb.p1;have b4:=hb.p2;have b5:=hb.pn;have b6:=hb.i1;have b7:=hb.i2;have hln:a.vals.length=n:=hA.1;have hlm:b.vals.length=m:=hB.1;rw [hln] at a1 a2 a5;rw [hlm] at b1 b2 b5;obtain⟨KC,hK⟩:∃KC:Int,KC=(aI a b:Nat):=⟨_,rfl⟩
 rw [<- hK];have hK1:KC<=120:=by omega
 have hK0:1<=KC:=by have:=(iG ha hb).c1;omega
 have E:=aA (cI.new (c:=c) (d:=d) (K:=KC) hA hB);have HA:=aA ha;have HB:=aA hb;have HC:=aA hc;have HK:=aA hK;have HLN:=aA hln;have HLM:=aA hlm;clear hA hB ha hb hc hK hln hlm;unfold bH at E;unfold bH;go_enter Tryz.func40,Tryz.ntmps40
 go_upto_region 1 with fail
 generalize hwe:(w.alloc (.cells #[.slice A n c,.int .i64 a.per,.int .i64 a.inc,.slice B m d,.int .i64 b.per,.int .i64 b.inc,.int .i64 KC] 91)).alloc (.cells #[.slice none 0 0,.int .i64 0,.int .i64 0] 26)=we at *;clear hwe;have E:Hid (cI w we A n c a B m d b KC):=E;generalize (Value.agg #[.slice A n c,.int .i64 a.per,.int .i64 a.inc,.slice B m d,.int .i64 b.per,.int .i64 b.inc,.int .i64 KC])=v0;obtain⟨SA,hSA⟩:∃SA:Int,SA=(n:Int)-a.per:=⟨_,rfl⟩
 obtain⟨SB,hSB⟩:∃SB:Int,SB=(m:Int)-b.per:=⟨_,rfl⟩
 have HSA:=aA hSA;have HSB:=aA hSB;clear hSA hSB;obtain⟨⟨f0,f1,f2⟩,⟨g0,g1,g2⟩,p6,hlf⟩:=E.out.cells;go_cut [4,5] (fun s4 s5 wx=>s4 = .int .i64 SA/\s5 = .int .i64 SB/\cI w wx A n c a B m d b KC)
 case first=>
  have E:=aA E.out.drew;clear f0 f1 f2 g0 g1 g2 p6 hlf;obtain⟨⟨f0,f1,f2⟩,⟨g0,g1,g2⟩,p6,hlf⟩:=E.out.cells;refine wp_region_held_drew (S:=(fun w'=>w'.cell? ⟨w.heap.size,0,none⟩=some (.slice A n c)/\w'.cell? ⟨w.heap.size,1,none⟩=some (.int .i64 a.per)/\w'.cell? ⟨w.heap.size,2,none⟩=some (.int .i64 a.inc)/\w'.cell? ⟨w.heap.size,3,none⟩=some (.slice B m d)/\w'.cell? ⟨w.heap.size,4,none⟩=some (.int .i64 b.per)/\w'.cell? ⟨w.heap.size,5,none⟩=some (.int .i64 b.inc)/\w'.cell? ⟨w.heap.size,6,none⟩=some (.int .i64 KC))) (by kernel_rfl) ⟨f0,f1,f2,g0,g1,g2,p6⟩ (fun hH=>?_);generalize hwd:we.drew=wd at *;clear hwd;refine aO [0,1,3,4] ?_;(iterate 4 refine aK ?_);refine aP ?_;refine aJ 2 (fun K hK=>?_);go_simp
  refine(dR A n c a.per a.inc _ (by omega) (by omega) (by omega)).mono ?_;rw [<- HSA.out];rintro e wa ⟨rfl,hbq⟩;have E:=aA (E.out.below hbq);clear hbq hH;clear f0 f1 f2 g0 g1 g2 p6 hlf;obtain⟨⟨f0,f1,f2⟩,⟨g0,g1,g2⟩,p6,hlf⟩:=E.out.cells;refine aH hK (by exact⟨f0,f1,f2,g0,g1,g2,p6⟩) (fun hH=>?_);refine aJ 5 (fun K hK=>?_);go_simp
  refine(dR B m d b.per b.inc _ (by omega) (by omega) (by omega)).mono ?_;rw [<- HSB.out];rintro e wb ⟨rfl,hbq⟩;have E:=aA (E.out.below hbq);clear hbq hH;clear f0 f1 f2 g0 g1 g2 p6 hlf;obtain⟨⟨f0,f1,f2⟩,⟨g0,g1,g2⟩,p6,hlf⟩:=E.out.cells;refine aH hK (by exact⟨f0,f1,f2,g0,g1,g2,p6⟩) (fun hH=>?_);refine aO [6,7] ?_;(iterate 2 refine aK ?_);refine aP ?_;refine aT ?_;go_wp2_with fail
  go_meet
  exact⟨rfl,rfl,E.out⟩
 case rest=>
  clear E;clear f0 f1 f2 g0 g1 g2 p6 hlf;obtain⟨rfl,rfl,hE⟩:=hcut;have E:=aA hE;clear hE;obtain⟨⟨f0,f1,f2⟩,⟨g0,g1,g2⟩,p6,hlf⟩:=E.out.cells;go_upto_region 2 with fail
  go_cut [6,7] (fun s6 s7 wx=>∃F G:Nat,s6 = .pointer (some ⟨F,0,none⟩)/\s7 = .pointer (some ⟨G,0,none⟩)/\F≠G/\Vx (w.heap.size+1) wx F A n c a/\Vx (w.heap.size+1) wx G B m d b/\cI w wx A n c a B m d b KC)
  case first=>
   have hws:w.heap.size<wc.heap.size:=by omega
   have t1:=Vx.two (c:=c) (d:=d) (f:=a) (g:=b) (E.out.ia.more (B':=w.heap.size+1) (by omega)) (E.out.ib.more (B':=w.heap.size+1) (by omega)) hlf;have t2:=Vx.two (c:=d) (d:=c) (f:=b) (g:=a) (E.out.ib.more (B':=w.heap.size+1) (by omega)) (E.out.ia.more (B':=w.heap.size+1) (by omega)) hlf;have T1:=aA t1;have T2:=aA t2;clear t1 t2
   go_region
   ·go_wp2_with fail
    go_meet
    exact⟨_,_,rfl,rfl,by omega,T1.out.1,T1.out.2,((E.out.alloc _).alloc _).drew⟩
   ·go_wp2_with fail
    go_meet
    exact⟨_,_,rfl,rfl,by omega,T2.out.2,T2.out.1,((E.out.alloc _).alloc _).drew⟩
  case rest=>
  clear E;clear f0 f1 f2 g0 g1 g2 p6 hlf;obtain⟨F,G,rfl,rfl,hFG,hF,hG,hE⟩:=hcut;have E:=aA hE;have VF:=aA hF;have VG:=aA hG;clear hE hF hG;have LO1:=aA (show ∀z:Bool,z=(aB b.vals (m-1) != aG)->(z=true↔b.Fin) from fun z hz=>by
   rw [hz,bne_iff_ne,<- HLM.out];exact⟨fun h=>⟨HB.out,h⟩,fun h=>h.2⟩)
  have LO2:=aA (show ∀z:Bool,z=(aB a.vals (n-1) != aG)->(z=true↔a.Fin) from fun z hz=>by
   rw [hz,bne_iff_ne,<- HLN.out];exact⟨fun h=>⟨HA.out,h⟩,fun h=>h.2⟩)
  obtain⟨fb,hfb⟩:∃z,z=(aB b.vals (m-1) != aG):=⟨_,rfl⟩
  obtain⟨fa,hfa⟩:∃z,z=(aB a.vals (n-1) != aG):=⟨_,rfl⟩
  have L1:=aA (LO1.out _ hfb);have L2:=aA (LO2.out _ hfa);have HFB:=aA hfb;have HFA:=aA hfa;clear hfb hfa LO1 LO2;have KN:=aA (show KC.toNat=aI a b from by rw [HK.out];exact Int.toNat_natCast _);obtain⟨ga,hga⟩:∃ga,ga=bR a b:=⟨_,rfl⟩
  obtain⟨gb,hgb⟩:∃gb,gb=cH a b:=⟨_,rfl⟩
  have HGA:=aA hga;have HGB:=aA hgb;clear hga hgb;obtain⟨⟨f0,f1,f2⟩,⟨g0,g1,g2⟩,p6,hlf⟩:=E.out.cells;go_upto_region 3 with fail
  go_cut [49] (fun s49 wx=>∃sw:Bool,s49 = .bool sw/\Hid (sw=(!fa || (fb && decide (gb<ga))))/\Vx (w.heap.size+1) wx F A n c a/\Vx (w.heap.size+1) wx G B m d b/\cI w wx A n c a B m d b KC)
  case first=>
   have E:=aA E.out.drew;have VF:=aA VF.out.drew;have VG:=aA VG.out.drew;clear f0 f1 f2 g0 g1 g2 p6 hlf;obtain⟨⟨f0,f1,f2⟩,⟨g0,g1,g2⟩,p6,hlf⟩:=E.out.cells;refine wp_region_held_drew (S:=(fun w'=>w'.cell? ⟨w.heap.size,0,none⟩=some (.slice A n c)/\w'.cell? ⟨w.heap.size,1,none⟩=some (.int .i64 a.per)/\w'.cell? ⟨w.heap.size,2,none⟩=some (.int .i64 a.inc)/\w'.cell? ⟨w.heap.size,3,none⟩=some (.slice B m d)/\w'.cell? ⟨w.heap.size,4,none⟩=some (.int .i64 b.per)/\w'.cell? ⟨w.heap.size,5,none⟩=some (.int .i64 b.inc)/\w'.cell? ⟨w.heap.size,6,none⟩=some (.int .i64 KC))) (by kernel_rfl) ⟨f0,f1,f2,g0,g1,g2,p6⟩ (fun hH=>?_);generalize hwd:wc.drew=wd at *;clear hwd;refine aO [0,1] ?_;(iterate 2 refine aK ?_);refine aP ?_;refine aJ 2 (fun K hK=>?_);go_simp
   refine(gN A n c a.per a.inc a.vals _ (by exact E.out.ja) (by omega) (by omega)).mono ?_;rw [<- HFA.out];rintro e wa ⟨rfl,hbq⟩;have E:=aA (E.out.below hbq);have VF:=aA (VF.out.below hbq);have VG:=aA (VG.out.below hbq);clear hbq hH;clear f0 f1 f2 g0 g1 g2 p6 hlf;obtain⟨⟨f0,f1,f2⟩,⟨g0,g1,g2⟩,p6,hlf⟩:=E.out.cells;refine aH hK (by exact⟨f0,f1,f2,g0,g1,g2,p6⟩) (fun hH=>?_);clear HFA;cases fa
   case false=>
    refine aO [3,4,5,6,7,8,9,10,11,12,13,14,15,16,17,18,19,20,21] ?_;(iterate 2 refine aK ?_);(iterate 16 refine gU ?_);refine aK ?_;refine aP ?_;refine aT ?_;go_wp2_with fail
    go_meet
    exact⟨_,rfl,aA rfl,VF.out,VG.out,E.out⟩
   case true=>
    refine aO [3,4,5,6] ?_;(iterate 4 refine aK ?_);refine aP ?_;refine aJ 7 (fun K hK=>?_);go_simp
    refine(gN B m d b.per b.inc b.vals _ (by exact E.out.jb) (by omega) (by omega)).mono ?_;rw [<- HFB.out];rintro e wb ⟨rfl,hbq⟩;have E:=aA (E.out.below hbq);have VF:=aA (VF.out.below hbq);have VG:=aA (VG.out.below hbq);clear hbq hH;clear f0 f1 f2 g0 g1 g2 p6 hlf;obtain⟨⟨f0,f1,f2⟩,⟨g0,g1,g2⟩,p6,hlf⟩:=E.out.cells;refine aH hK (by exact⟨f0,f1,f2,g0,g1,g2,p6⟩) (fun hH=>?_);clear HFB;cases fb
    case false=>
     refine aO [8,9,10,11,12,13,14,15,16,17,18,19,20,21] ?_;refine aK ?_;(iterate 11 refine gU ?_);(iterate 2 refine aK ?_);refine aP ?_;refine aT ?_;go_wp2_with fail
     go_meet
     exact⟨_,rfl,aA rfl,VF.out,VG.out,E.out⟩
    case true=>
     refine aO [8,9,10,11,12,14,15,16,17] ?_;(iterate 9 refine aK ?_);refine aP ?_;refine aJ 13 (fun K hK=>?_);go_simp
     refine(fI B m d b.per b.inc KC _ (by omega) (by omega) (by omega) (by omega) (by omega)).mono ?_;rw [KN.out,show((aI a b / b.per.toNat:Nat):Int)*b.inc=gb from HGB.out.symm];rintro e wd1 ⟨rfl,hbq⟩;have E:=aA (E.out.below hbq);have VF:=aA (VF.out.below hbq);have VG:=aA (VG.out.below hbq);clear hbq hH;clear f0 f1 f2 g0 g1 g2 p6 hlf;obtain⟨⟨f0,f1,f2⟩,⟨g0,g1,g2⟩,p6,hlf⟩:=E.out.cells;refine aH hK (by exact⟨f0,f1,f2,g0,g1,g2,p6⟩) (fun hH=>?_);refine aJ 18 (fun K hK=>?_);go_simp
     refine(fI A n c a.per a.inc KC _ (by omega) (by omega) (by omega) (by omega) (by omega)).mono ?_;rw [KN.out,show((aI a b / a.per.toNat:Nat):Int)*a.inc=ga from HGA.out.symm];rintro e wd2 ⟨rfl,hbq⟩;have E:=aA (E.out.below hbq);have VF:=aA (VF.out.below hbq);have VG:=aA (VG.out.below hbq);clear hbq hH;clear f0 f1 f2 g0 g1 g2 p6 hlf;obtain⟨⟨f0,f1,f2⟩,⟨g0,g1,g2⟩,p6,hlf⟩:=E.out.cells;refine aH hK (by exact⟨f0,f1,f2,g0,g1,g2,p6⟩) (fun hH=>?_);refine aO [19,20,21] ?_;(iterate 3 refine aK ?_);refine aP ?_;refine aT ?_;go_wp2_with fail
     go_meet
     exact⟨_,rfl,aA rfl,VF.out,VG.out,E.out⟩
  case rest=>
  clear E VF VG;clear f0 f1 f2 g0 g1 g2 p6 hlf;obtain⟨sw,rfl,HSW,hF,hG,hE⟩:=hcut;have E:=aA hE;have VF:=aA hF;have VG:=aA hG;clear hE hF hG
  go_upto_if 49 with fail
  go_cut [] (fun wx=>∃(u v:Cv) (U:Option Addr) (nu cu:Nat) (V:Option Addr) (nv cv:Nat),UV a b u v/\Vx (w.heap.size+1) wx F U nu cu u/\Vx (w.heap.size+1) wx G V nv cv v/\cI w wx A n c a B m d b KC)
  case first=>
   cases sw
   case false=>
    go_wp2_with fail
    go_meet
    exact⟨a,b,A,n,c,B,m,d,UV.keep L2.out L1.out (by rw [<- HGA.out,<- HGB.out];exact HSW.out.symm),VF.out,VG.out,E.out⟩
   case true=>
    obtain⟨⟨f0,f1,f2⟩,⟨g0,g1,g2⟩,p6,hlf⟩:=E.out.cells;go_upto_region 4 with fail
    have E:=aA E.out.drew;have VF:=aA VF.out.drew;have VG:=aA VG.out.drew;clear f0 f1 f2 g0 g1 g2 p6 hlf;obtain⟨⟨f0,f1,f2⟩,⟨g0,g1,g2⟩,p6,hlf⟩:=E.out.cells;refine wp_region_held_drew (S:=(fun w'=>w'.cell? ⟨w.heap.size,0,none⟩=some (.slice A n c)/\w'.cell? ⟨w.heap.size,1,none⟩=some (.int .i64 a.per)/\w'.cell? ⟨w.heap.size,2,none⟩=some (.int .i64 a.inc)/\w'.cell? ⟨w.heap.size,3,none⟩=some (.slice B m d)/\w'.cell? ⟨w.heap.size,4,none⟩=some (.int .i64 b.per)/\w'.cell? ⟨w.heap.size,5,none⟩=some (.int .i64 b.inc)/\w'.cell? ⟨w.heap.size,6,none⟩=some (.int .i64 KC))) (by kernel_rfl) ⟨f0,f1,f2,g0,g1,g2,p6⟩ (fun hH=>?_);generalize hwd:wc.drew=wd at *;clear hwd;refine aO [0,1,2,3] ?_;(iterate 4 refine aK ?_);refine aP ?_;refine dA 4 (fun K hK=>?_);have yv:=aC.c3 VF.out.blk;obtain⟨⟨u0,u1,u2⟩,⟨z0,z1,z2⟩,hlu⟩:=yv;rw [if_pos (by rfl)];go_simp
    have E:=aA (E.out.sto (aR.three F wd (.slice B m d) (.int .i64 b.per) (.int .i64 b.inc)) (by have:=VF.out.lt;omega));have VG:=aA (VG.out.sto (aR.three F wd (.slice B m d) (.int .i64 b.per) (.int .i64 b.inc)) (by omega) (by have:=VF.out.lt;omega));have VF:=aA (VF.out.put (B:=B) (m:=m) (d:=d) (g:=b) (by have h:=E.out.ib;exact(h.more (by omega))));clear hH u0 u1 u2 z0 z1 z2 hlu;clear f0 f1 f2 g0 g1 g2 p6 hlf;generalize hws:((wd.setCell ⟨F,0,none⟩ (.slice B m d)).setCell ⟨F,1,none⟩ (.int .i64 b.per)).setCell ⟨F,2,none⟩ (.int .i64 b.inc)=ws at *;clear hws;obtain⟨⟨f0,f1,f2⟩,⟨g0,g1,g2⟩,p6,hlf⟩:=E.out.cells;refine aH hK (by exact⟨f0,f1,f2,g0,g1,g2,p6⟩) (fun hH=>?_);refine dA 5 (fun K hK=>?_);have yv:=aC.c3 VG.out.blk;obtain⟨⟨u0,u1,u2⟩,⟨z0,z1,z2⟩,hlu⟩:=yv;rw [if_pos (by rfl)];go_simp
    have E:=aA (E.out.sto (aR.three G ws (.slice A n c) (.int .i64 a.per) (.int .i64 a.inc)) (by have:=VG.out.lt;omega));have VF:=aA (VF.out.sto (aR.three G ws (.slice A n c) (.int .i64 a.per) (.int .i64 a.inc)) (by omega) (by have:=VG.out.lt;omega));have VG:=aA (VG.out.put (B:=A) (m:=n) (d:=c) (g:=a) (by have h:=E.out.ia;exact(h.more (by omega))));clear hH u0 u1 u2 z0 z1 z2 hlu;clear f0 f1 f2 g0 g1 g2 p6 hlf;generalize hws:((ws.setCell ⟨G,0,none⟩ (.slice A n c)).setCell ⟨G,1,none⟩ (.int .i64 a.per)).setCell ⟨G,2,none⟩ (.int .i64 a.inc)=ws at *;clear hws;obtain⟨⟨f0,f1,f2⟩,⟨g0,g1,g2⟩,p6,hlf⟩:=E.out.cells;refine aH hK (by exact⟨f0,f1,f2,g0,g1,g2,p6⟩) (fun hH=>?_);refine aT ?_;go_wp2_with fail
    go_meet
    exact⟨b,a,B,m,d,A,n,c,UV.swap HA.out HB.out L2.out L1.out (by rw [<- HGA.out,<- HGB.out];exact HSW.out.symm),VF.out,VG.out,E.out⟩
  case rest=>
  clear E VF VG;obtain⟨u,v,U,nu,cu,V,nv,cv,huv,hF,hG,hE⟩:=hcut;have E:=aA hE;have VF:=aA hF;have VG:=aA hG;have HUV:=aA huv;clear hE hF hG huv L1 L2 HGA HGB HSW ga gb HFA HFB;obtain⟨huo,hvo,hord,hst⟩:=HUV.out.ok HA.out HB.out;have ul:u.vals.length=nu:=VF.out.ints.1;have vl:v.vals.length=nv:=VG.out.ints.1;have q1:=huo.n1;have q2:=huo.n2;have q3:=huo.p1;have q4:=huo.p2;have q5:=huo.pn;have q6:=huo.i1;have q7:=huo.i2;have r1:=hvo.n1;have r2:=hvo.n2;have r3:=hvo.p1;have r4:=hvo.p2;have r5:=hvo.pn;have r6:=hvo.i1;have r7:=hvo.i2;rw [ul] at q1 q2 q5;rw [vl] at r1 r2 r5;have OB:=iG huo hvo;obtain⟨gu,hgu⟩:∃gu,gu=bR u v:=⟨_,rfl⟩
  obtain⟨gv,hgv⟩:∃gv,gv=cH u v:=⟨_,rfl⟩
  have gu0:0<=gu:=by rw [hgu];exact OB.a1.1
  have gu1:gu<=128849018880:=by rw [hgu];exact OB.a1.2
  have gv0:0<=gv:=by rw [hgv];exact OB.a2.1
  have gv1:gv<=128849018880:=by rw [hgv];exact OB.a2.2
  obtain⟨FR,hFR⟩:∃FR:Nat,FR=(n-a.per.toNat)+(m-b.per.toNat)+aI a b:=⟨_,rfl⟩
  have hFI:SA+SB+KC=(FR:Int):=by have:=HSA.out;have:=HSB.out;have:=HK.out;omega
  have hF1:FR<=920:=by have:=HC.out;omega
  have FRH:=aA (show FR=u.vals.length-u.per.toNat+(v.vals.length-v.per.toNat)+aI u v from by rw [hst,hord,HLN.out,HLM.out];exact hFR);have KU:=aA (show KC.toNat=aI u v from by rw [hord];exact KN.out);have HUO:=aA huo;have HVO:=aA hvo;have HORD:=aA hord;have UL:=aA ul;have VL:=aA vl;have HGU:=aA hgu;have HGV:=aA hgv;obtain⟨SS,hSS⟩:∃SS,SS=SA+SB:=⟨_,rfl⟩
  have HSS:=aA hSS;have hs0:0<=SA:=by have:=HSA.out;omega
  have hs1:SA<=400:=by have:=HSA.out;omega
  have hs2:0<=SB:=by have:=HSB.out;omega
  have hs3:SB<=400:=by have:=HSB.out;omega
  have hs4:SS+KC=(FR:Int):=by omega
  have HFI:=aA hFI;clear huo hvo hord hst ul vl hgu hgv OB hFR hFI hSS KN;obtain⟨⟨f0,f1,f2⟩,⟨g0,g1,g2⟩,p6,hlf⟩:=E.out.cells;obtain⟨u0,u1,u2,hlu⟩:=VF.out.cells;obtain⟨v0',v1,v2,hlv⟩:=VG.out.cells;go_upto_region 5 with fail
  go_cut [8,9,10,11] (fun s8 s9 s10 s11 wx=>s8 = .int .i64 FR/\s9 = .int .i64 KC/\s10 = .int .i64 gu/\s11 = .bool false/\Vx (w.heap.size+1) wx F U nu cu u/\Vx (w.heap.size+1) wx G V nv cv v/\cI w wx A n c a B m d b KC)
  case first=>
   have e1:IntKind.i64.wrap (SA+SB)=SS:=by rw [HSS.out];exact IntWalk.i64_in _ (by omega)
   have e2:IntKind.i64.wrap (SS+KC)=(FR:Int):=by rw [hs4];exact IntWalk.i64_in _ (by omega)
   clear hs4;have E:=aA E.out.drew;have VF:=aA VF.out.drew;have VG:=aA VG.out.drew;clear f0 f1 f2 g0 g1 g2 p6 hlf;clear u0 u1 u2 hlu v0' v1 v2 hlv;obtain⟨⟨f0,f1,f2⟩,⟨g0,g1,g2⟩,p6,hlf⟩:=E.out.cells;obtain⟨u0,u1,u2,hlu⟩:=VF.out.cells;obtain⟨v0',v1,v2,hlv⟩:=VG.out.cells;refine wp_region_held_drew (S:=(fun w'=>w'.cell? ⟨w.heap.size,6,none⟩=some (.int .i64 KC)/\w'.cell? ⟨F,0,none⟩=some (.slice U nu cu)/\w'.cell? ⟨F,1,none⟩=some (.int .i64 u.per)/\w'.cell? ⟨F,2,none⟩=some (.int .i64 u.inc)/\w'.cell? ⟨G,0,none⟩=some (.slice V nv cv)/\w'.cell? ⟨G,1,none⟩=some (.int .i64 v.per)/\w'.cell? ⟨G,2,none⟩=some (.int .i64 v.inc))) (by kernel_rfl) ⟨p6,u0,u1,u2,v0',v1,v2⟩ (fun hH=>?_);generalize hwd:wc.drew=wd at *;clear hwd;refine aO [0,1,2,3,4,5,6,7,8,9,10] ?_;(iterate 11 refine aK ?_);refine aP ?_;refine aJ 11 (fun K hK=>?_);go_simp
   refine(fI U nu cu u.per u.inc KC _ (by omega) (by omega) (by omega) (by omega) (by omega)).mono ?_;rw [KU.out,show((aI u v / u.per.toNat:Nat):Int)*u.inc=gu from HGU.out.symm];rintro e wa ⟨rfl,hbq⟩;have E:=aA (E.out.below hbq);have VF:=aA (VF.out.below hbq);have VG:=aA (VG.out.below hbq)
   try (have T1:=aA (T1.out.below hbq T1.out.lt))
   clear hbq hH;clear f0 f1 f2 g0 g1 g2 p6 hlf;clear u0 u1 u2 hlu v0' v1 v2 hlv;obtain⟨⟨f0,f1,f2⟩,⟨g0,g1,g2⟩,p6,hlf⟩:=E.out.cells;obtain⟨u0,u1,u2,hlu⟩:=VF.out.cells;obtain⟨v0',v1,v2,hlv⟩:=VG.out.cells;refine aH hK (by exact⟨p6,u0,u1,u2,v0',v1,v2⟩) (fun hH=>?_);refine aO [12,13,14,15] ?_;(iterate 4 refine aK ?_);refine aP ?_;refine aT ?_;go_wp2_with fail
   go_meet
   exact⟨rfl,rfl,rfl,rfl,VF.out,VG.out,E.out⟩
  case rest=>
  clear E VF VG hs4;clear f0 f1 f2 g0 g1 g2 p6 hlf;clear u0 u1 u2 hlu v0' v1 v2 hlv;obtain⟨rfl,rfl,rfl,rfl,hF,hG,hE⟩:=hcut;have E:=aA hE;have VF:=aA hF;have VG:=aA hG;clear hE hF hG;obtain⟨fv,hfv⟩:∃z,z=(aB v.vals (nv-1) != aG):=⟨_,rfl⟩
  have L3:=aA (show fv=true↔v.Fin from by
   rw [hfv,bne_iff_ne,<- VL.out];exact⟨fun h=>⟨HVO.out,h⟩,fun h=>h.2⟩)
  have HFV:=aA hfv;clear hfv;obtain⟨⟨f0,f1,f2⟩,⟨g0,g1,g2⟩,p6,hlf⟩:=E.out.cells;obtain⟨u0,u1,u2,hlu⟩:=VF.out.cells;obtain⟨v0',v1,v2,hlv⟩:=VG.out.cells;go_upto_region 6 with fail
  go_cut [75] (fun s75 wx=>∃cr:Bool,s75 = .bool cr/\Hid (cr=true↔v.Fin/\gu<gv)/\Vx (w.heap.size+1) wx F U nu cu u/\Vx (w.heap.size+1) wx G V nv cv v/\cI w wx A n c a B m d b KC)
  case first=>
   go_wp2_with fail
   refine(gN V nv cv v.per v.inc v.vals _ (by exact VG.out.all) (by omega) (by omega)).mono ?_;rw [<- HFV.out];rintro e wa ⟨rfl,hbq⟩;have E:=aA (E.out.below hbq);have VF:=aA (VF.out.below hbq);have VG:=aA (VG.out.below hbq);clear hbq;clear f0 f1 f2 g0 g1 g2 p6 hlf;clear u0 u1 u2 hlu v0' v1 v2 hlv;obtain⟨⟨f0,f1,f2⟩,⟨g0,g1,g2⟩,p6,hlf⟩:=E.out.cells;obtain⟨u0,u1,u2,hlu⟩:=VF.out.cells;obtain⟨v0',v1,v2,hlv⟩:=VG.out.cells;cases hfvv:fv
   case false=>
    have L4:=L3.out;rw [hfvv] at L4;have CRH:=aA (show false=true↔v.Fin/\gu<gv from⟨(fun h=>by cases h),fun h=>by have:=L4.2 h.1;cases this⟩);clear L4 hfvv;go_wp2_with fail
    go_meet
    exact⟨false,rfl,CRH,VF.out,VG.out,E.out⟩
   case true=>
    have L4:=L3.out;rw [hfvv] at L4;have CRH:=aA (show decide (gu<gv)=true↔v.Fin/\gu<gv from by
     rw [decide_eq_true_iff];exact⟨fun h=>⟨L4.1 rfl,h⟩,fun h=>h.2⟩)
    clear L4 hfvv;go_wp2_with fail
    refine(fI V nv cv v.per v.inc KC _ (by omega) (by omega) (by omega) (by omega) (by omega)).mono ?_;rw [KU.out,show((aI u v / v.per.toNat:Nat):Int)*v.inc=gv from HGV.out.symm];rintro e wb ⟨rfl,hbq⟩;have E:=aA (E.out.below hbq);have VF:=aA (VF.out.below hbq);have VG:=aA (VG.out.below hbq);clear hbq;clear f0 f1 f2 g0 g1 g2 p6 hlf;clear u0 u1 u2 hlu v0' v1 v2 hlv;obtain⟨⟨f0,f1,f2⟩,⟨g0,g1,g2⟩,p6,hlf⟩:=E.out.cells;obtain⟨u0,u1,u2,hlu⟩:=VF.out.cells;obtain⟨v0',v1,v2,hlv⟩:=VG.out.cells;go_wp2_with fail
    go_meet
    exact⟨_,rfl,CRH,VF.out,VG.out,E.out⟩
  case rest=>
  clear E VF VG L3 HFV fv;clear f0 f1 f2 g0 g1 g2 p6 hlf;clear u0 u1 u2 hlu v0' v1 v2 hlv;obtain⟨cr,rfl,CRH,hF,hG,hE⟩:=hcut;have E:=aA hE;have VF:=aA hF;have VG:=aA hG;clear hE hF hG;obtain⟨⟨f0,f1,f2⟩,⟨g0,g1,g2⟩,p6,hlf⟩:=E.out.cells;obtain⟨u0,u1,u2,hlu⟩:=VF.out.cells;obtain⟨v0',v1,v2,hlv⟩:=VG.out.cells
  go_upto_if 75 with fail
  go_cut [8,9,10,11] (fun s8 s9 s10 s11 wx=>∃(fr:Nat) (pe ic:Int),s8 = .int .i64 fr/\s9 = .int .i64 pe/\s10 = .int .i64 ic/\s11 = .bool cr/\Hid (oB u v cr FR fr pe ic)/\fr<=920/\1<=pe/\pe<=120/\pe<=KC/\0<=ic/\ic<=128849018880/\Vx (w.heap.size+1) wx F U nu cu u/\Vx (w.heap.size+1) wx G V nv cv v/\cI w wx A n c a B m d b KC)
  case first=>
   cases cr
   case false=>
    have MH:=aA (show oB u v false FR FR KC gu from⟨by rw [<- HGU.out,<- HGV.out];exact CRH.out,.inl ⟨rfl,rfl,by rw [HORD.out];exact HK.out,HGU.out⟩⟩);go_wp2_with fail
    go_meet
    exact⟨FR,KC,gu,rfl,rfl,rfl,rfl,MH,hF1,by omega,by omega,by omega,by omega,by omega,VF.out,VG.out,E.out⟩
   case true=>
    have MH:=aA (show oB u v true FR (max 400 FR) u.per u.inc from⟨by rw [<- HGU.out,<- HGV.out];exact CRH.out,.inr ⟨rfl,rfl,rfl,rfl⟩⟩);have hpk:u.per<=KC:=by
     have h1:=(jP (p:=u.per.toNat) (q:=v.per.toNat) (by omega) (by omega)).1;have h2:=HK.out;have h3:=HORD.out;have h4:=(iG HUO.out HVO.out).c1;have h5:u.per.toNat<=aI u v:=by
      have h6:aI u v=a9 u.per.toNat v.per.toNat:=rfl;rw [<- h6] at h1;rcases Nat.eq_zero_or_pos (aI u v / u.per.toNat) with h7|h7
      ·rw [h7] at h1;omega
      ·have:=Nat.mul_le_mul_right u.per.toNat h7;omega
     omega
    obtain⟨fm,hfm⟩:∃fm,fm=max 400 FR:=⟨_,rfl⟩
    rw [<- hfm] at MH;have hmx:(if(400:Int)<(FR:Int) then (FR:Int) else 400)=(fm:Int):=by rw [hfm];split <;> omega
    have hfm9:fm<=920:=by omega
    clear hfm;go_wp2_with fail
    go_region
    all_goals
     go_wp2_with fail
     go_meet
     exact⟨fm,u.per,u.inc,rfl,rfl,rfl,rfl,MH,hfm9,by omega,by omega,hpk,by omega,by omega,VF.out.drew,VG.out.drew,E.out.drew⟩
  case rest=>
  clear E VF VG CRH HGU HGV gu gv gu0 gu1 gv0 gv1;clear f0 f1 f2 g0 g1 g2 p6 hlf;clear u0 u1 u2 hlu v0' v1 v2 hlv;obtain⟨fr,pe,ic,rfl,rfl,rfl,rfl,MH,hfr9,hpe1,hpe2,hpk,hic0,hic1,hF,hG,hE⟩:=hcut;have E:=aA hE;have VF:=aA hF;have VG:=aA hG;clear hE hF hG;obtain⟨NN,hNN⟩:∃NN:Nat,NN=fr+aI u v:=⟨_,rfl⟩
  have hNK:(fr:Int)+KC=(NN:Int):=by have:=HORD.out;have:=HK.out;omega
  have hN9:NN<=1040:=by have:=HORD.out;have:=HC.out;omega
  have hNp:(fr:Int)+pe<=NN:=by omega
  have HNN:=aA hNN;clear hNN;obtain⟨⟨f0,f1,f2⟩,⟨g0,g1,g2⟩,p6,hlf⟩:=E.out.cells;obtain⟨u0,u1,u2,hlu⟩:=VF.out.cells;obtain⟨v0',v1,v2,hlv⟩:=VG.out.cells;go_upto_region 9 with fail
  go_cut [13,14] (fun s13 s14 wx=>∃q1 q2:Nat,s13 = .slice (some ⟨q1,0,none⟩) NN NN/\s14 = .slice (some ⟨q2,0,none⟩) NN NN/\aU wx q1 (aZ u.at 0 NN)/\aU wx q2 (aZ v.at 0 NN)/\Vx (w.heap.size+1) wx F U nu cu u/\cI w wx A n c a B m d b KC)
  case first=>
   clear hNK;have E:=aA E.out.drew;have VF:=aA VF.out.drew;have VG:=aA VG.out.drew;clear f0 f1 f2 g0 g1 g2 p6 hlf;clear u0 u1 u2 hlu v0' v1 v2 hlv;obtain⟨⟨f0,f1,f2⟩,⟨g0,g1,g2⟩,p6,hlf⟩:=E.out.cells;obtain⟨u0,u1,u2,hlu⟩:=VF.out.cells;obtain⟨v0',v1,v2,hlv⟩:=VG.out.cells;refine wp_region_held_drew (S:=(fun w'=>w'.cell? ⟨w.heap.size,6,none⟩=some (.int .i64 KC)/\w'.cell? ⟨F,0,none⟩=some (.slice U nu cu)/\w'.cell? ⟨F,1,none⟩=some (.int .i64 u.per)/\w'.cell? ⟨F,2,none⟩=some (.int .i64 u.inc)/\w'.cell? ⟨G,0,none⟩=some (.slice V nv cv)/\w'.cell? ⟨G,1,none⟩=some (.int .i64 v.per)/\w'.cell? ⟨G,2,none⟩=some (.int .i64 v.inc))) (by kernel_rfl) ⟨p6,u0,u1,u2,v0',v1,v2⟩ (fun hH=>?_);generalize hwd:wc.drew=wd at *;clear hwd;refine aO [0,1,3,4] ?_;(iterate 4 refine aK ?_);refine aP ?_;refine aJ 2 (fun K hK=>?_);go_simp
   refine(mH U nu cu u.per u.inc NN u.vals _ (by exact VF.out.all) (by exact HUO.out) (by omega)).mono ?_;rintro e wa ⟨q1',rfl,hT,hq1',hbq⟩;have T1:=aA hT;clear hT;have E:=aA (E.out.below hbq);have VF:=aA (VF.out.below hbq);have VG:=aA (VG.out.below hbq);clear hbq hH;clear f0 f1 f2 g0 g1 g2 p6 hlf;clear u0 u1 u2 hlu v0' v1 v2 hlv;obtain⟨⟨f0,f1,f2⟩,⟨g0,g1,g2⟩,p6,hlf⟩:=E.out.cells;obtain⟨u0,u1,u2,hlu⟩:=VF.out.cells;obtain⟨v0',v1,v2,hlv⟩:=VG.out.cells;refine aH hK (by exact⟨p6,u0,u1,u2,v0',v1,v2⟩) (fun hH=>?_);refine aJ 5 (fun K hK=>?_);go_simp
   refine(mH V nv cv v.per v.inc NN v.vals _ (by exact VG.out.all) (by exact HVO.out) (by omega)).mono ?_;rintro e wb ⟨q2',rfl,hT,hq2',hbq⟩;have T2:=aA hT;clear hT;have T1:=aA (T1.out.below hbq T1.out.lt);have E:=aA (E.out.below hbq);have VF:=aA (VF.out.below hbq);have VG:=aA (VG.out.below hbq);clear hbq hH;clear f0 f1 f2 g0 g1 g2 p6 hlf;clear u0 u1 u2 hlu v0' v1 v2 hlv;obtain⟨⟨f0,f1,f2⟩,⟨g0,g1,g2⟩,p6,hlf⟩:=E.out.cells;obtain⟨u0,u1,u2,hlu⟩:=VF.out.cells;obtain⟨v0',v1,v2,hlv⟩:=VG.out.cells;refine aH hK (by exact⟨p6,u0,u1,u2,v0',v1,v2⟩) (fun hH=>?_);refine aO [6,7] ?_;(iterate 2 refine aK ?_);refine aP ?_;refine aT ?_;go_wp2_with fail
   go_meet
   exact⟨q1',q2',rfl,rfl,T1.out,T2.out,VF.out,E.out⟩
  case rest=>
  clear E VF VG hNK;clear f0 f1 f2 g0 g1 g2 p6 hlf;clear u0 u1 u2 hlu v0' v1 v2 hlv;obtain⟨q1',q2',rfl,rfl,hT1,hT2,hF,hE⟩:=hcut;have E:=aA hE;have VF:=aA hF;have T1:=aA hT1;have T2:=aA hT2;clear hE hF hT1 hT2;obtain⟨i0,hi0,hz0,hy1,hy2⟩:=info_parts iE;have hlw:=E.out.rb.lt;go_upto_region 11 with (at_make;refine wpList_make_full _ rfl _ _ 22 rfl wc.heap.size 3 i0 _ 1 Tryz.underlying22 hi0 hz0 hy1 .i64 .i64 _ _ NN rfl rfl rfl rfl (by rw [hy2];omega) (by unfold maxLen;omega) (by simp) ?_;intro w5 own1 grow1)
  have hb5:Below wc.heap.size wc w5:=(Below.refl _ _).grown grow1 (by simp) (by simp);have SM:=aA ((mC own1).alloc (.cells #[.slice (some ⟨wc.heap.size,0,none⟩) NN NN] 22));have QB:=aA (aC.new w5 22 #[.slice (some ⟨wc.heap.size,0,none⟩) NN NN]);have hq5:wc.heap.size<w5.heap.size:=(mC own1).lt;have hq1l:=T1.out.lt;have hq2l:=T2.out.lt;have hfl:=aC.lt VF.out.blk;have E:=aA ((E.out.below hb5).alloc (.cells #[.slice (some ⟨wc.heap.size,0,none⟩) NN NN] 22));have VF:=aA ((VF.out.below hb5).below (aF w5 (.cells #[.slice (some ⟨wc.heap.size,0,none⟩) NN NN] 22)));have T1:=aA ((T1.out.below hb5 T1.out.lt).alloc (.cells #[.slice (some ⟨wc.heap.size,0,none⟩) NN NN] 22));have T2:=aA ((T2.out.below hb5 T2.out.lt).alloc (.cells #[.slice (some ⟨wc.heap.size,0,none⟩) NN NN] 22));clear hi0 hz0 hy1 hy2 own1 grow1 hb5;generalize hwe:w5.alloc (.cells #[.slice (some ⟨wc.heap.size,0,none⟩) NN NN] 22)=w6 at *;clear hwe;generalize wc.heap.size=gv at *;generalize w5.heap.size=Q at *;obtain⟨u0,u1,u2,hlu⟩:=VF.out.cells;go_wp2_with fail
  refine(dR U nu cu u.per u.inc _ (by omega) (by omega) (by omega)).mono ?_;obtain⟨su,hsu⟩:∃su:Nat,su=nu-u.per.toNat:=⟨_,rfl⟩
  rw [show(nu:Int)-u.per=(su:Int) by omega];have HSU:=aA (show su=u.vals.length-u.per.toNat from by rw [UL.out];exact hsu);have hsuf:su<=fr:=by
   have h1:=FRH.out;have h2:=HSU.out;rcases MH.out.2 with ⟨_,h3,_⟩|⟨_,h3,_⟩
   ·omega
   ·omega
  clear hsu;rintro e w7 ⟨rfl,hbq⟩;replace E:=aA (E.out.below hbq);replace VF:=aA (VF.out.below hbq);replace T1:=aA (T1.out.below hbq T1.out.lt);replace T2:=aA (T2.out.below hbq T2.out.lt);replace SM:=aA (SM.out.below hbq SM.out.lt);replace QB:=aA (QB.out.below hbq QB.out.lt);clear hbq u0 u1 u2 hlu VF;obtain⟨h,hh⟩:=M7 u v;have HH:=aA hh;clear hh;obtain⟨w0',hlq⟩:_/\_:=⟨QB.out.cell 0,QB.out.lt⟩
  simp at w0';go_wp2_with fail
  clear w0' hlq;go_loopg [98] NN (fun gg s98 wx=>∃(t:Nat) (vs:List Int),t+gg=NN/\s98 = .int .i64 t/\j3 h vs NN t/\Hid (cr=true->∀x,fr<=x->x<t->cQ u v su x (x+1) (h x))/\aU wx gv vs/\aC wx Q 22 #[.slice (some ⟨gv,0,none⟩) NN NN]/\aU wx q1' (aZ u.at 0 NN)/\aU wx q2' (aZ v.at 0 NN)/\cI w wx A n c a B m d b KC)
  case atStart=>exact⟨0,_,by omega,rfl,⟨by simp,fun x hx=>by omega⟩,aA (fun _ x _ hx=>by omega),SM.out,QB.out,T1.out,T2.out,E.out⟩
  case round=>
   clear SM QB T1 T2 E;obtain⟨t,vs,htg,rfl,hu,HAT,hR,hV,hT1,hT2,hE⟩:=hrel;have SM:=aA hR;have QB:=aA hV;have T1:=aA hT1;have T2:=aA hT2;have E:=aA hE;have HU:=aA hu;clear hR hV hT1 hT2 hE hu;by_cases ht:t<NN
   ·have hti:(t:Int)<NN:=by omega
    have ht0:0<=(t:Int):=by omega
    go_upto_region 15 with fail
    go_cut [] (fun wx=>aU wx gv (vs.set t (h t))/\aC wx Q 22 #[.slice (some ⟨gv,0,none⟩) NN NN]/\aU wx q1' (aZ u.at 0 NN)/\aU wx q2' (aZ v.at 0 NN)/\cI w wx A n c a B m d b KC)
    case first=>
     have E:=aA E.out.drew;have QB:=aA (aC.drew QB.out);have T1:=aA (aU.drew T1.out);have T2:=aA (aU.drew T2.out);have SM:=aA (aU.drew SM.out)
     try clear w0' hlq
     obtain⟨w0',hlq⟩:_/\_:=⟨QB.out.cell 0,QB.out.lt⟩
     simp at w0';refine wp_region_held_drew (S:=(fun w'=>w'.cell? ⟨Q,0,none⟩=some (.slice (some ⟨gv,0,none⟩) NN NN))) (by kernel_rfl) w0' (fun hH=>?_);generalize hwd:wr.drew=wd at *;clear hwd;refine aO [0,1,2,3,4,5] ?_;(iterate 6 refine aK ?_);refine aP ?_;refine aJ 6 (fun K hK=>?_);go_simp
     have l0:=wB q1' q2' NN u v t 0 wd T1.out T2.out HUO.out HVO.out ht (by omega) (Nat.zero_le _);rw [show((0:Nat):Int)=0 from rfl] at l0;refine l0.mono ?_;clear l0;rintro e wa ⟨x,hx,hx0,hx1,rfl,hbq⟩;have HX:=aA (show h t=x from(HH.out t).unique hx);clear hx;have E:=aA (E.out.below hbq);have QB:=aA (QB.out.below hbq QB.out.lt);have T1:=aA (T1.out.below hbq T1.out.lt);have T2:=aA (T2.out.below hbq T2.out.lt);have SM:=aA (SM.out.below hbq SM.out.lt);clear hbq hH;clear w0' hlq;obtain⟨w0',hlq⟩:_/\_:=⟨QB.out.cell 0,QB.out.lt⟩
     simp at w0';refine aH hK (by exact w0') (fun hH=>?_);refine bD 7 ?_;have s0:=SM.out.cell t (by rw [HU.out.1];exact ht);have z0:=SM.out.frozen t;have hls:=SM.out.lt;refine aJ 8 (fun K hK=>?_);go_simp
     have SM2:=SM.out.set_ t (by rw [HU.out.1];exact ht) x;rw [<- HX.out] at SM2;have E:=aA (E.out.set (show w.heap.size+1<gv by omega) t (.int .i64 x));have QB:=aA (QB.out.far (p:=⟨gv,t,none⟩) (by show Q≠gv;omega) (.int .i64 x));have T1:=aA (T1.out.far (p:=⟨gv,t,none⟩) (by show q1'≠gv;omega) (.int .i64 x));have T2:=aA (T2.out.far (p:=⟨gv,t,none⟩) (by show q2'≠gv;omega) (.int .i64 x));rw [HX.out] at SM2;have SM:=aA SM2;clear SM2 hH s0 z0 hls;clear w0' hlq;generalize hws:wa.setCell ⟨gv,t,none⟩ (.int .i64 x)=ws at *;clear hws;obtain⟨w0',hlq⟩:_/\_:=⟨QB.out.cell 0,QB.out.lt⟩
     simp at w0';refine aH hK (by exact w0') (fun hH=>?_);refine aT ?_;have SM:=aA (show aU ws gv (vs.set t (h t)) from by rw [HX.out];exact SM.out);clear hH;go_wp2_with fail
     go_meet
     exact⟨SM.out,QB.out,T1.out,T2.out,E.out⟩
    case rest=>
    clear SM QB T1 T2 E;obtain⟨hR,hV,hT1,hT2,hE⟩:=hcut;have SM:=aA hR;have QB:=aA hV;have T1:=aA hT1;have T2:=aA hT2;have E:=aA hE;have HU2:=aA (HU.out.step ht);clear hR hV hT1 hT2 hE HU;cases cr
    case false=>
     obtain⟨w0',hlq⟩:_/\_:=⟨QB.out.cell 0,QB.out.lt⟩
     simp at w0';go_upto_region 16 with fail
     have E:=aA E.out.drew;have QB:=aA (aC.drew QB.out);have T1:=aA (aU.drew T1.out);have T2:=aA (aU.drew T2.out);have SM:=aA (aU.drew SM.out)
     try clear w0' hlq
     obtain⟨w0',hlq⟩:_/\_:=⟨QB.out.cell 0,QB.out.lt⟩
     simp at w0';refine wp_region_held_drew (S:=(fun w'=>w'.cell? ⟨Q,0,none⟩=some (.slice (some ⟨gv,0,none⟩) NN NN))) (by kernel_rfl) w0' (fun hH=>?_);generalize hwd:wc.drew=wd at *;clear hwd;refine aO [0,1,2,3,4,5,6,7,8,9,10,11,12,13,14,15,16,17,18] ?_;(iterate 2 refine aK ?_);(iterate 3 refine gU ?_);(iterate 2 refine aK ?_);(iterate 11 refine gU ?_);refine aK ?_;refine aP ?_;refine aT ?_;clear hH;clear w0' hlq;go_wp2_with fail
     go_roundg (gk-1)
     case measure=>omega
     case rel=>exact⟨t+1,_,by omega,by go_num,HU2.out,aA (fun hc=>by cases hc),SM.out,QB.out,T1.out,T2.out,E.out⟩
    case true=>
     have HCR:=aA (show true=true from rfl);by_cases hft:fr<=t
     ·have hfti:(fr:Int)<=t:=by omega
      obtain⟨w0',hlq⟩:_/\_:=⟨QB.out.cell 0,QB.out.lt⟩
      simp at w0';go_upto_region 16 with fail
      have s0:=SM.out.cell t (by rw [HU2.out.1];exact ht);rw [HU2.out.2 t (by omega)] at s0;obtain⟨y,hy⟩:∃y,y=h t:=⟨_,rfl⟩
      rw [<- hy] at s0;have HY:=aA hy;clear hy;have E:=aA E.out.drew;have QB:=aA (aC.drew QB.out);have T1:=aA (aU.drew T1.out);have T2:=aA (aU.drew T2.out);have SM:=aA (aU.drew SM.out);refine wp_region_held_drew (S:=(fun w'=>w'.cell? ⟨Q,0,none⟩=some (.slice (some ⟨gv,0,none⟩) NN NN)/\w'.cell? ⟨gv,t,none⟩=some (.int .i64 y))) (by kernel_rfl) ⟨w0',s0⟩ (fun hH=>?_);clear w0' hlq;generalize hwd:wc.drew=wd at *;clear hwd;refine aO [0,1,2,3,4,5,6,7,8,9,10,11,13,14,15,16] ?_;(iterate 16 refine aK ?_);refine aP ?_;refine aJ 12 (fun K hK=>?_);go_simp
      refine(wB q1' q2' NN u v t su wd T1.out T2.out HUO.out HVO.out ht (by omega) (by omega)).mono ?_;rintro e wa ⟨x,hx,hx0,hx1,rfl,hbq⟩;have HX:=aA hx;clear hx s0;have E:=aA (E.out.below hbq);have QB:=aA (QB.out.below hbq QB.out.lt);have T1:=aA (T1.out.below hbq T1.out.lt);have T2:=aA (T2.out.below hbq T2.out.lt);have SM:=aA (SM.out.below hbq SM.out.lt);clear hbq hH;obtain⟨w0',hlq⟩:_/\_:=⟨QB.out.cell 0,QB.out.lt⟩
      simp at w0';have s0:=SM.out.cell t (by rw [HU2.out.1];exact ht);rw [HU2.out.2 t (by omega),<- HY.out] at s0;refine aH hK (by exact⟨w0',s0⟩) (fun hH=>?_);by_cases hlt:y<x
      ·refine aO [17,18] ?_;(iterate 2 refine aK ?_);refine aP ?_;refine aT ?_;have F:=aA (show iN a b Cv.none 3 from a5f HUV.out HA.out HB.out HH.out MH.out FRH.out HCR.out hft (by omega) (by rw [<- HSU.out];exact HX.out) (by rw [<- HY.out];exact hlt));clear hH hlt s0;obtain⟨⟨r0,r1,r2⟩,⟨y0,y1,y2⟩,hlr⟩:=E.out.rb.c3;go_wp2_with fail
       have rb:=E.out.rb.store3 (.slice none 0 0) (.int .i64 0) (.int .i64 0)
       try rw [Exit.noGoto_ret]
       exact bodyPost_ret (v:=.tuple #[.agg #[.slice none 0 0,.int .i64 0,.int .i64 0],.int .i64 3]) (by simp [results,Tryz.results40,go_sem,rb.cell]) rfl
        ⟨Cv.none,3,F.out,none,0,0,Nat.le_refl 0,rfl,aE.none_,(fun b off s h=>by cases h),((E.out.bw.setCell (by simp) _).setCell (by simp) _).setCell (by simp) _⟩
      ·refine aO [17,18] ?_;(iterate 2 refine aK ?_);refine aP ?_;refine aT ?_;have HT2:=aA (show true=true->∀x,fr<=x->x<t+1->cQ u v su x (x+1) (h x) from fun hc z h1 h2=>by
        rcases Nat.lt_or_ge z t with h3|h3
        ·exact HAT.out hc z h1 h3
        ·obtain rfl:z=t:=by omega
         exact a5d HUO.out HVO.out HH.out (by omega) HX.out (by rw [<- HY.out];omega))
       clear hH hlt s0;clear w0' hlq;go_wp2_with fail
       go_roundg (gk-1)
       case measure=>omega
       case rel=>exact⟨t+1,_,by omega,by go_num,HU2.out,HT2,SM.out,QB.out,T1.out,T2.out,E.out⟩
     ·have hfti:¬(fr:Int)<=t:=by omega
      have HT2:=aA (show true=true->∀x,fr<=x->x<t+1->cQ u v su x (x+1) (h x) from fun hc z h1 h2=>HAT.out hc z h1 (by omega));obtain⟨w0',hlq⟩:_/\_:=⟨QB.out.cell 0,QB.out.lt⟩
      simp at w0';go_upto_region 16 with fail
      have E:=aA E.out.drew;have QB:=aA (aC.drew QB.out);have T1:=aA (aU.drew T1.out);have T2:=aA (aU.drew T2.out);have SM:=aA (aU.drew SM.out)
      try clear w0' hlq
      obtain⟨w0',hlq⟩:_/\_:=⟨QB.out.cell 0,QB.out.lt⟩
      simp at w0';refine wp_region_held_drew (S:=(fun w'=>w'.cell? ⟨Q,0,none⟩=some (.slice (some ⟨gv,0,none⟩) NN NN))) (by kernel_rfl) w0' (fun hH=>?_);generalize hwd:wc.drew=wd at *;clear hwd;refine aO [0,1,2,3,4,5,6,7,8,9,10,11,12,13,14,15,16,17,18] ?_;(iterate 7 refine aK ?_);(iterate 11 refine gU ?_);refine aK ?_;refine aP ?_;refine aT ?_;clear hH;clear w0' hlq;go_wp2_with fail
      go_roundg (gk-1)
      case measure=>omega
      case rel=>exact⟨t+1,_,by omega,by go_num,HU2.out,HT2,SM.out,QB.out,T1.out,T2.out,E.out⟩
   ·have htn:NN=t:=by omega
    subst htn;clear ht htg;have hrw:=E.out.rb.lt;go_wp2_with fail
    refine(p9 98 #[.pointer (some ⟨Q,0,none⟩)] (fr:Int) pe ic h _ (by omega) (by omega) (by omega) (by omega) (by omega) (by omega)
     (fun k hk=>oK HUO.out HVO.out HH.out (by omega))
     (aA fun x w1 hx hb=>O4 Q gv NN h vs x w1 (QB.out.below hb QB.out.lt) (SM.out.below hb SM.out.lt) HU.out (by omega)) (fun x w=>by kernel_rfl)).mono ?_
    rintro e w5 ⟨f,er,hS,A5,n5,c5,hc5,rfl,hI5,hA5,hb⟩;rw [Int.toNat_natCast] at hS;have F:=aA (show iN a b f er from a5e HUV.out HA.out HB.out HH.out MH.out FRH.out (by rw [HORD.out];exact HC.out)
     (fun hc z h1 h2=>by rw [<- HSU.out];exact HAT.out hc z h1 (by rw [HNN.out];exact h2)) hS)
    have E:=aA (E.out.below hb);have HI5:=aA hI5;have HA5:=aA hA5;clear hS hI5 hA5 hb;obtain⟨⟨r0,r1,r2⟩,⟨y0,y1,y2⟩,hlr⟩:=E.out.rb.c3;go_wp2_with fail
    have rb:=E.out.rb.store3 (.slice A5 n5 c5) (.int .i64 f.per) (.int .i64 f.inc);refine bodyPost_ret (v:=.tuple #[.agg #[.slice A5 n5 c5,.int .i64 f.per,.int .i64 f.inc],.int .i64 er]) (by simp [results,Tryz.results40,go_sem,rb.cell]) rfl ?_;exact⟨f,er,F.out,tL hc5 HA5.out (by omega) (by exact hrw) HI5.out E.out.bw⟩
theorem fH.of{f g a b:Cv}(hf:f.Ok)(hg:g.Ok)(ha:NF f.at a)(hb:NF g.at b)(hc:aI a b<=120){r:Cv}{er:Int}(h:iN a b r er):fH f g r er:=.inr ⟨hf,hg,a,b,ha,hb,.inr ⟨hc,h⟩⟩
theorem O3(A B:Option Addr)(n m c d:Nat)(p i q j:Int)(xs ys:List Int)(w:World)(hA:aE w w.heap.size A n xs)(hB:aE w w.heap.size B m ys)(hn:(n:Int)<=1000000)(hm:(m:Int)<=1000000) :
 Calls Tryz.prog 37 #[.agg #[.slice A n c,.int .i64 p,.int .i64 i],.agg #[.slice B m d,.int .i64 q,.int .i64 j]] w (oD (fH ⟨xs,p,i⟩ ⟨ys,q,j⟩) w):=by
 have P:=aA ((PS.new (c:=c) (p:=p) (i:=i) (d:=d) (q:=q) (j:=j) hA hB).alloc (.cells #[.slice none 0 0,.int .i64 0,.int .i64 0] 26));have rb:=aC.new ((w.alloc (.cells #[.slice A n c,.int .i64 p,.int .i64 i] 26)).alloc (.cells #[.slice B m d,.int .i64 q,.int .i64 j] 26)) 26 #[.slice none 0 0,.int .i64 0,.int .i64 0];rw [World.size_alloc,World.size_alloc] at rb;have RB:=aA rb;clear hA hB rb;go_enter Tryz.func37,Tryz.ntmps37
 obtain⟨f0,f1,f2,g0,g1,g2,hlf,hlg⟩:=P.out.cells;go_wp2_with fail
 refine(sG A B n m c d p i q j xs ys _ P.out.ia P.out.ib hn hm).mono ?_;rintro e w1 (⟨er,hbad,rfl,hb⟩|⟨hfo,hgo,a,b,A1,n1,c1,B1,m1,d1,hna,hnb,hao,hbo,hcm,rfl,hI1,hI2,hA1,hB1,hb⟩)
 ·have F:=aA (show fH ⟨xs,p,i⟩ ⟨ys,q,j⟩ Cv.none er from hbad.pair);have hne:(er != 0)=true:=by simpa using hbad.ne
  have BW:=aA (aD P.out.bw hb);replace RB:=aA (RB.out.below hb RB.out.lt);clear hbad hb P f0 f1 f2 g0 g1 g2 hlf hlg;unfold kG;have hs0:w.heap.size+1+1<w1.heap.size:=RB.out.lt;replace RB:=aA (RB.out.alloc (.cells #[.slice none 0 0,.int .i64 0,.int .i64 0,.slice none 0 0,.int .i64 0,.int .i64 0,.int .i64 0] 91));replace BW:=aA (aD BW.out (aF _ (.cells #[.slice none 0 0,.int .i64 0,.int .i64 0,.slice none 0 0,.int .i64 0,.int .i64 0,.int .i64 0] 91)));go_upto_region 2 with fail
  generalize hwe:w1.alloc (.cells #[.slice none 0 0,.int .i64 0,.int .i64 0,.slice none 0 0,.int .i64 0,.int .i64 0,.int .i64 0] 91)=w2 at *;clear hwe;obtain⟨⟨r0,r1,r2⟩,⟨y0,y1,y2⟩,hlr⟩:=RB.out.c3;go_wp2_with fail
  have rb:=RB.out.store3 (.slice none 0 0) (.int .i64 0) (.int .i64 0)
  exact bodyPost_ret (v:=.tuple #[.agg #[.slice none 0 0,.int .i64 0,.int .i64 0],.int .i64 er]) (by simp [results,Tryz.results37,go_sem,rb.cell]) rfl
   ⟨Cv.none,er,F.out,none,0,0,Nat.le_refl 0,rfl,aE.none_,(fun b off s h=>by cases h),((BW.out.setCell (by simp;omega) _).setCell (by simp;omega) _).setCell (by simp;omega) _⟩
 ·have hsz:=RB.out.lt;replace RB:=aA ((RB.out.below hb RB.out.lt).alloc (.cells (bH A1 n1 c1 a B1 m1 d1 b (aI a b:Nat)) 91));have BW:=aA (aD (aD P.out.bw hb) (aF _ (.cells (bH A1 n1 c1 a B1 m1 d1 b (aI a b:Nat)) 91)));have PB:=aA (aC.new w1 91 (bH A1 n1 c1 a B1 m1 d1 b (aI a b:Nat)));have I1:=aA (hI1.alloc' (.cells (bH A1 n1 c1 a B1 m1 d1 b (aI a b:Nat)) 91));have I2:=aA (hI2.alloc' (.cells (bH A1 n1 c1 a B1 m1 d1 b (aI a b:Nat)) 91));have HFO:=aA hfo;have HGO:=aA hgo;have HNA:=aA hna;have HNB:=aA hnb;have HAO:=aA hao;have HBO:=aA hbo;have HCM:=aA hcm;clear hfo hgo hna hnb hao hbo hcm hI1 hI2 hA1 hB1 hb P f0 f1 f2 g0 g1 g2 hlf hlg;unfold bH at RB BW PB I1 I2 ⊢;go_upto_region 2 with fail
  generalize hwe:w1.alloc (.cells #[.slice A1 n1 c1,.int .i64 a.per,.int .i64 a.inc,.slice B1 m1 d1,.int .i64 b.per,.int .i64 b.inc,.int .i64 (aI a b:Nat)] 91)=w2 at *;clear hwe;generalize w1.heap.size=P1 at *;have tb:=wC A1 B1 n1 m1 c1 d1 a b w2 I1.out I2.out HAO.out HBO.out HCM.out;unfold bH at tb;have TB:=aA tb;clear tb;obtain⟨p0,p1,p2,p3⟩:_/\_/\_/\_:=⟨PB.out.cell 0,PB.out.cell 1,PB.out.cell 2,PB.out.cell 3⟩
  obtain⟨p4,p5,p6⟩:_/\_/\_:=⟨PB.out.cell 4,PB.out.cell 5,PB.out.cell 6⟩
  simp at p0 p1 p2 p3 p4 p5 p6;have hlp:=PB.out.lt;go_wp2_with fail
  refine TB.out.mono ?_;rintro e w5 ⟨f,er,hS,A5,n5,c5,hc5,rfl,hI5,hA5,hb⟩;have F:=aA (show fH ⟨xs,p,i⟩ ⟨ys,q,j⟩ f er from fH.of HFO.out HGO.out HNA.out HNB.out HCM.out hS);have hs1:=RB.out.lt;replace RB:=aA (RB.out.below hb RB.out.lt);replace BW:=aA (aD BW.out hb);have HI5:=aA hI5;have HA5:=aA hA5;clear hI5 hA5 hb hS p0 p1 p2 p3 p4 p5 p6 hlp TB PB;obtain⟨⟨r0,r1,r2⟩,⟨y0,y1,y2⟩,hlr⟩:=RB.out.c3;go_wp2_with fail
  have rb:=RB.out.store3 (.slice A5 n5 c5) (.int .i64 f.per) (.int .i64 f.inc)
  exact bodyPost_ret (v:=.tuple #[.agg #[.slice A5 n5 c5,.int .i64 f.per,.int .i64 f.inc],.int .i64 er]) (by simp [results,Tryz.results37,go_sem,rb.cell]) rfl
   ⟨f,er,F.out,tL hc5 HA5.out (by omega) (by exact hs1) HI5.out BW.out⟩
section
def eA(a b h:Cv):Nat:=max (bJ a+bJ b) (bJ h)+aI a b
def C3(a b:Cv)(q:Int)(t s:Nat):Prop:=(a.Fin/\bR a b=q/\bJ a<=s)\/(b.Fin/\cH a b=q/\bJ b<=t-s)
def f8(a b h:Cv)(t s:Nat):Prop:=C3 a b (kS h (aI a b)) t s
def iQ(a b h:Cv)(t s:Nat):Prop:=s<=t/\pl (a.at s) (b.at (t-s))=h.at t/\(t<eA a b h\/h.at t=aG\/f8 a b h t s)
open Classical in
noncomputable def jG(a b:Cv):Int:=if a.Fin then (if b.Fin then min (bR a b) (cH a b) else bR a b) else (if b.Fin then cH a b else aG)
section
variable{a b h:Cv}
theorem tY(fa:a.Fin)(fb:b.Fin):jG a b=min (bR a b) (cH a b):=by unfold jG;rw [if_pos fa,if_pos fb]
theorem tZ(fa:a.Fin)(fb:¬b.Fin):jG a b=bR a b:=by unfold jG;rw [if_pos fa,if_neg fb]
theorem t5(fa:¬a.Fin)(fb:b.Fin):jG a b=cH a b:=by unfold jG;rw [if_neg fa,if_pos fb]
theorem tH(ha:a.Ok)(hb:b.Ok){t s:Nat}(ht:t<=2000)(h:cG a b t s):pl (a.at s) (b.at (t-s))=a.at s+b.at (t-s):=by
 have h0:=h.1;unfold pl;rw [if_neg];rintro (e|e)
 ·exact h.2.1 ((oY ha (by omega)).1 e)
 ·exact h.2.2 ((oY hb (by omega)).1 e)
theorem x9(ha:a.Ok)(hb:b.Ok){t s:Nat}(ht:t<=2000)(hs:s<=t)(h:¬cG a b t s):pl (a.at s) (b.at (t-s))=aG:=by
 unfold pl;rw [if_pos];refine Classical.byContradiction fun k=>h ⟨hs,fun e=>k (.inl e.2),fun e=>k (.inr e.2)⟩
theorem sD(ha:a.Ok)(hb:b.Ok)(fa:¬a.Fin)(fb:¬b.Fin){D:Nat->Int}(H:bZ a b D){t:Nat}(ht:bJ a+bJ b<=t):D t=aG:=by
 refine(H t).unique (eJ.none fun u hu=>?_);unfold bJ at ht;rcases Nat.lt_or_ge u (a.vals.length-a.per.toNat) with k|k
 ·exact hu.2.2 (hb.infAt_start (mB hb fb) (by omega))
 ·exact hu.2.1 (ha.infAt_start (mB ha fa) k)
theorem qL(ha:a.Ok)(hb:b.Ok)(fb:¬b.Fin):aI a b=a.per.toNat/\bR a b=a.inc:=wU ha hb (mB hb fb)
theorem r8(fa:a.Fin)(fb:b.Fin)(hG:bR a b<cH a b)(fh:h.Fin)(H:bZ a b h.at){t:Nat}(ht:eA a b h<=t):lW a.at b.at (bJ a) t (h.at t):=by
 have hp:=fh.1.p1;unfold eA at ht;exact vI (l9 fa fb.1 (s:=bJ a) (Nat.le_refl _)) (nA fa.1 fb (s:=bJ b) (Nat.le_refl _)) hG (mY fa fb H) (q:=h.per.toNat) (S:=bJ h) (by omega) fh.toL.step (by omega) (by omega)
theorem vR(fa:a.Fin)(fb:b.Fin)(hG:bR a b<cH a b)(fh:h.Fin)(H:bZ a b h.at):∃T,aY h.at T (aI a b) (bR a b):=by
 refine⟨eA a b h,vJ (l9 fa fb.1 (s:=bJ a) (Nat.le_refl _)) (nA fa.1 fb (s:=bJ b) (Nat.le_refl _)) hG (mY fa fb H) (l9 fa fb.1 (s:=bJ a) (Nat.le_refl _)) (by unfold eA;omega) fun t ht=>r8 fa fb hG fh H ht⟩
theorem J7(ha:a.Ok)(hb:b.Ok)(fh:h.Fin)(H:bZ a b h.at):∃T,aY h.at T (aI a b) (jG a b):=by
 by_cases fa:a.Fin
 ·by_cases fb:b.Fin
  ·rw [tY fa fb];rcases (show bR a b=cH a b\/bR a b<cH a b\/cH a b<bR a b by omega) with k|k|k
   ·have h2:=nA fa.1 fb (s:=bJ b) (Nat.le_refl _);rw [<- k] at h2;rw [show min (bR a b) (cH a b)=bR a b by omega];exact⟨_,vQ (l9 fa fb.1 (s:=bJ a) (Nat.le_refl _)) h2 (mY fa fb H)⟩
   ·rw [show min (bR a b) (cH a b)=bR a b by omega];exact vR fa fb k fh H
   ·rw [show min (bR a b) (cH a b)=cH a b by omega];have:=vR fb fa (by rw [oQ ha hb,sR ha hb];exact k) fh H.symm
    rwa [nL hb ha,oQ ha hb] at this
  ·rw [tZ fa fb,(qL ha hb fb).1,(qL ha hb fb).2];exact⟨_,sF fa hb (mB hb fb) H (kR fh (by omega))⟩
 ·by_cases fb:b.Fin
  ·rw [t5 fa fb,<- oQ ha hb,nL ha hb,(qL hb ha fa).1,(qL hb ha fa).2];exact⟨_,sF fb ha (mB ha fa) H.symm (kR fh (by omega))⟩
  ·have h1:=eO ha;have h2:=eO hb;exact absurd (sD ha hb fa fb H (Nat.le_refl _)) (kR fh (by omega))
theorem vS(ha:a.Ok)(hb:b.Ok)(fh:h.Fin)(hn:NF h.at h)(H:bZ a b h.at):h.per.toNat∣aI a b/\kS h (aI a b)=jG a b:=by
 obtain⟨T,hT⟩:=J7 ha hb fh H;have hc:=(iG ha hb).c1;have hd:=hn.per_dvd hc hT;refine⟨hd,?_⟩
 have q2:=fh.toL.step.mul (aI a b / h.per.toNat);rw [Nat.div_mul_cancel hd] at q2;have q3:=hT (max T (h.vals.length-h.per.toNat)) (by omega);have q4:=q2 (max T (h.vals.length-h.per.toNat)) (by omega);unfold kS;omega
theorem M8(ha:a.Ok)(hb:b.Ok):eA a b h=eA b a h:=by unfold eA;rw [nL ha hb];omega
theorem J8(ha:a.Ok)(hb:b.Ok)(fh:h.Fin)(hn:NF h.at h)(H:bZ a b h.at){t:Nat}(ht:eA a b h<=t):∃s,cG a b t s/\h.at t=a.at s+b.at (t-s)/\f8 a b h t s:=by
 have hg:=(vS ha hb fh hn H).2;have hT:bJ a+bJ b<=t:=by unfold eA at ht;omega
 have sp:(∃s,cG a b t s)->∃s,cG a b t s/\h.at t=a.at s+b.at (t-s):=by
  rintro⟨s,hs⟩;rcases (H t).cases with ⟨h1,_⟩|⟨h1,_⟩
  ·exact absurd hs (h1 s)
  ·exact h1
 by_cases fa:a.Fin
 ·by_cases fb:b.Fin
  ·rw [tY fa fb] at hg;have cs:∀s,s<=t->cG a b t s:=fun s hs=>⟨hs,fa.not_infAt _,fb.not_infAt _⟩
   rcases (show bR a b=cH a b\/bR a b<cH a b\/cH a b<bR a b by omega) with k|k|k
   ·obtain⟨s,h1,h2⟩:=sp ⟨t,cs t (Nat.le_refl _)⟩;refine⟨s,h1,h2,?_⟩
    rcases Nat.lt_or_ge s (bJ a) with q|q
    ·exact .inr ⟨fb,by omega,by omega⟩
    ·exact .inl ⟨fa,by omega,q⟩
   ·obtain⟨s,h1,h2,h3⟩:=r8 fa fb k fh H ht;exact⟨s,cs s h2,h3,.inl ⟨fa,by omega,h1⟩⟩
   ·obtain⟨s,h1,h2,h3⟩:=r8 fb fa (by rw [oQ ha hb,sR ha hb];exact k) fh H.symm (by rw [M8 hb ha];exact ht);refine⟨t-s,cs _ (by omega),by rw [show t-(t-s)=s by omega];omega,.inr ⟨fb,by omega,by omega⟩⟩
  ·rw [tZ fa fb] at hg;have h0:¬b.infAt 0:=fun e=>by
    refine absurd ((H 0).unique (eJ.none fun s hs=>hs.2.2 ?_)) (kR fh (by omega));exact e.later hb (Nat.zero_le _)
   obtain⟨s,h1,h2⟩:=sp ⟨t,Nat.le_refl _,fa.not_infAt _,by rw [Nat.sub_self];exact h0⟩;refine⟨s,h1,h2,.inl ⟨fa,by omega,?_⟩⟩
   rcases Nat.lt_or_ge s (bJ a) with q|q
   ·exact absurd (hb.infAt_start (mB hb fb) (by unfold bJ at *;omega)) h1.2.2
   ·exact q
 ·by_cases fb:b.Fin
  ·rw [t5 fa fb] at hg;have h0:¬a.infAt 0:=fun e=>by
    refine absurd ((H 0).unique (eJ.none fun s hs=>hs.2.1 ?_)) (kR fh (by omega));exact e.later ha (Nat.zero_le _)
   obtain⟨s,h1,h2⟩:=sp ⟨0,Nat.zero_le _,h0,fb.not_infAt _⟩;refine⟨s,h1,h2,.inr ⟨fb,by omega,?_⟩⟩
   have hs:=h1.1;rcases Nat.lt_or_ge (t-s) (bJ b) with q|q
   ·exact absurd (ha.infAt_start (mB ha fa) (by unfold bJ at *;omega)) h1.2.1
   ·exact q
  ·have h1:=eO ha;have h2:=eO hb;exact absurd (sD ha hb fa fb H (Nat.le_refl _)) (kR fh (by omega))
theorem K4(ha:a.Ok)(hb:b.Ok)(hh:h.Ok)(hn:NF h.at h)(H:bZ a b h.at){t:Nat}(ht:t<=2000):∃s,iQ a b h t s:=by
 by_cases hi:h.at t=aG
 ·refine⟨0,Nat.zero_le _,?_,.inr (.inl hi)⟩
  rw [hi];refine x9 ha hb ht (Nat.zero_le _) ?_;rcases oJ ha hb H ht with ⟨h1,_⟩|h1
  ·exact h1 0
  ·unfold aG at hi;omega
 ·rcases Nat.lt_or_ge t (eA a b h) with k|k
  ·rcases (H t).cases with ⟨_,h1⟩|⟨⟨s,h1,h2⟩,_⟩
   ·exact absurd h1 hi
   ·exact⟨s,h1.1,by rw [tH ha hb ht h1,h2],.inl k⟩
  ·have fh:h.Fin:=by
    rcases hh.fin_or with k1|k1
    ·exact k1
    ·exact absurd (hh.infAt_start k1 (by unfold eA bJ at k;omega)).2 hi
   obtain⟨s,h1,h2,h3⟩:=J8 ha hb fh hn H k;exact⟨s,h1.1,by rw [tH ha hb ht h1,h2],.inr (.inr h3)⟩
theorem J5(ha:a.Ok)(hb:b.Ok)(H:bZ a b h.at){s u:Nat}(ht:s+u<=2000):h.at (s+u)<=pl (a.at s) (b.at u):=by
 have e:s+u-s=u:=by omega
 by_cases hc:cG a b (s+u) s
 ·have:=tH ha hb ht hc
  rw [e] at this;rw [this];rcases (H (s+u)).cases with ⟨h1,_⟩|⟨_,h1⟩
  ·exact absurd hc (h1 s)
  ·have:=h1 s hc
   rwa [e] at this
 ·have:=x9 ha hb ht (Nat.le_add_right _ _) hc
  rw [e] at this;rw [this];have:=(oK ha hb H ht).2
  unfold aG;omega
def fB(a b h:Cv):Prop:=(h.Fin↔(a.Fin\/b.Fin)/\aB a.vals 0≠aG/\aB b.vals 0≠aG)/\(h.Fin->h.per.toNat∣aI a b/\kS h (aI a b)=jG a b)
theorem at0(ha:a.Ok):a.at 0=aB a.vals 0:=Cv.at_lt (by have:=ha.n1;omega)
theorem J6(ha:a.Ok)(hb:b.Ok)(hh:h.Ok)(H:bZ a b h.at):h.Fin↔(a.Fin\/b.Fin)/\aB a.vals 0≠aG/\aB b.vals 0≠aG:=by
 have s1:=eO ha;have s2:=eO hb;constructor
 ·intro fh;refine⟨?_,fun e=>?_,fun e=>?_⟩
  ·refine Classical.byContradiction fun k=>?_
   exact absurd (sD ha hb (fun h=>k (.inl h)) (fun h=>k (.inr h)) H (Nat.le_refl _)) (kR fh (by omega))
  ·rw [<- at0 ha] at e;exact absurd ((H 0).unique (eJ.none fun s hs=>hs.2.1 (((oY ha (by omega)).1 e).later ha (Nat.zero_le _)))) (kR fh (by omega))
  ·rw [<- at0 hb] at e;exact absurd ((H 0).unique (eJ.none fun s hs=>hs.2.2 (((oY hb (by omega)).1 e).later hb (Nat.zero_le _)))) (kR fh (by omega))
 ·rintro⟨h1,h2,h3⟩;refine hh.fin_or.resolve_right fun ih=>?_
  have hi:=(hh.infAt_start ih (Nat.le_refl _)).2;have hs:=eO hh;unfold bJ at hs;rw [<- at0 ha] at h2;rw [<- at0 hb] at h3;rcases oJ ha hb H (t:=h.vals.length-h.per.toNat) (by omega) with ⟨k,_⟩|k
  ·rcases h1 with fa|fb
   ·exact k _ ⟨Nat.le_refl _,fa.not_infAt _,by rw [Nat.sub_self];exact fun e=>h3 e.2⟩
   ·exact k 0 ⟨Nat.zero_le _,fun e=>h2 e.2,fb.not_infAt _⟩
  ·unfold aG at hi;omega
theorem J9(ha:a.Ok)(hb:b.Ok)(hh:h.Ok)(hn:NF h.at h)(H:bZ a b h.at):fB a b h:=⟨J6 ha hb hh H,fun fh=>vS ha hb fh hn H⟩
def kX(a b h:Cv):Prop:=∀s u,s<max (bJ a) (bJ h)+aI a b->u<max (bJ b) (bJ h)+aI a b->h.at (s+u)<=pl (a.at s) (b.at u)
def iM(a b h:Cv)(fr:Int)(cs:List Int):Prop:=fr=(eA a b h:Nat)/\cs.length=eA a b h+aI a b/\∀t,t<cs.length->0<=aB cs t/\iQ a b h t (aB cs t).toNat
def z9(a b h:Cv)(fr:Int)(cs:List Int):Prop:=fB a b h/\iM a b h fr cs/\kX a b h
def jV(f g h:Cv)(fr:Int)(cs:List Int):Prop:=
 f.Ok/\g.Ok/\∃a b,NF f.at a/\NF g.at b/\a9 a.per.toNat b.per.toNat<=120/\h.Ok/\NF h.at h/\z9 a b h fr cs
def uO(a b h:Cv)(cs:List Int):Prop:=cs.length=eA a b h+aI a b/\∀t,t<cs.length->∃u:Nat,aB cs t=u/\iQ a b h t u/\∀x,x<u->¬iQ a b h t x
end
def l4(f g r:Cv)(fr:Int)(cs:List Int)(er:Int):Prop:=
 fH f g r er/\((er≠0/\fr=0/\cs = [])\/(er=0/\∃a b,NF f.at a/\NF g.at b/\fr=(eA a b r:Nat)/\uO a b r cs))
theorem vY{f g r:Cv}(H:fH f g r 0):f.Ok/\g.Ok/\∃a b,NF f.at a/\NF g.at b/\a.Ok/\b.Ok/\a9 a.per.toNat b.per.toNat<=120/\r.Ok/\NF r.at r/\bZ a b r.at/\bZ f g r.at:=by
 rcases H with ⟨_,_,h⟩|⟨hf,hg,a,b,ha,hb,H⟩
 ·cases h
 ·obtain⟨hao,_⟩:=lO hf ha;obtain⟨hbo,_⟩:=lO hg hb;rcases H with ⟨_,_,h⟩|⟨hc,h,h1,h2⟩
  ·cases h
  ·rcases h2.get (wA hao hbo h1) with ⟨_,h3,h4⟩|⟨h3,_⟩
   ·have e:r.at=h:=by funext t;exact h4.at t
    rw [<- e] at h1 h4;exact⟨hf,hg,a,b,ha,hb,hao,hbo,hc,h3,h4,h1,h1.nf hf hg ha hb⟩
   ·cases h3
theorem a1r{f g r:Cv}{fr:Int}{cs:List Int}(H:l4 f g r fr cs 0):jV f g r fr cs:=by
 obtain⟨H,K⟩:=H;obtain⟨hf,hg,a,b,hna,hnb,hao,hbo,hc,hr,hrn,hC,_⟩:=vY H;rcases K with ⟨h,_⟩|⟨_,a',b',hna',hnb',rfl,hlen,hall⟩
 ·exact absurd rfl h
 ·obtain rfl:=NF.unique hna hna';obtain rfl:=NF.unique hnb hnb';have hc':aI a b<=120:=hc;have s1:=eO hao;have s2:=eO hbo;have s3:=eO hr;refine⟨hf,hg,a,b,hna,hnb,hc,hr,hrn,J9 hao hbo hr hrn hC,⟨rfl,hlen,fun t ht=>?_⟩,fun s u hs hu=>J5 hao hbo hC (by omega)⟩
  obtain⟨u,h1,h2,_⟩:=hall t ht;rw [h1];exact⟨by omega,by rwa [Int.toNat_natCast]⟩
end
def dL(r:Int):Cv:=⟨[0],1,r⟩
theorem nH{r:Int}(h0:0<=r)(h1:r<=1073741824):(dL r).Ok:=
 ⟨by show 1<=1;omega,by show 1<=400;omega,by show(1:Int)<=1;omega,by show(1:Int)<=120;omega,by show(1:Int)<=((1:Nat):Int);omega,h0,h1,
  fun k hk=>by
   have hk':k<1:=hk;have e:k=0:=by omega
   subst e;rfl,
  by show(0:Int)<=0;omega,fun k hk=>by have hk':k+1<1:=hk;omega,fun h=>by exact absurd (show(0:Int)=aG from h) (by unfold aG;omega),fun _=>by show(0:Int)<=0+r;omega⟩
theorem qO{r:Int}(h0:0<=r)(h1:r<=1073741824):(dL r).Fin:=⟨nH h0 h1,fun h=>absurd (show(0:Int)=aG from h) (by unfold aG;omega)⟩
theorem nG{r:Int}(h0:0<=r)(h1:r<=1073741824)(t:Nat):(dL r).at t=t*r:=by
 induction t with
 | zero=>rw [Cv.at_lt (by show 0<1;omega)];show(0:Int)=_;omega
 | succ t ih=>
   have h:=(qO h0 h1).toL.step t (by show 1-1<=t;omega);have e:(dL r).at (t+1)=(dL r).at t+r:=h;rw [e,ih];rw [show((t+1:Nat):Int)=(t:Int)+1 by omega,Int.add_mul,Int.one_mul]
theorem qP{r:Int}(h0:0<=r)(h1:r<=1073741824):NF (dL r).at (dL r):=by
 refine .inl ⟨by show(1:Int)<=1;omega,by show(1:Int)<=((1:Nat):Int);omega,fun t ht=>?_,(qO h0 h1).toL.step,fun q s b hq _=>hq,.inl rfl,fun t ht=>?_⟩
 ·rw [Cv.at_lt ht]
 ·have ht':t<1:=ht;have e:t=0:=by omega
  subst e;rw [nG h0 h1];unfold aG;omega
theorem a0c{r q:Int}(h0:0<=r)(h1:r<=q)(h2:q<=1073741824):bZ (dL r) (dL q) (dL r).at:=fun t=>by
 have fr:=qO h0 (show r<=1073741824 by omega);have fq:=qO (show 0<=q by omega) h2;refine eJ.of (.inr ⟨⟨t,⟨Nat.le_refl _,fr.not_infAt _,fq.not_infAt _⟩,?_⟩,fun s hs=>?_⟩)
 ·rw [nG (by omega) h2,Nat.sub_self];omega
 ·have h3:=hs.1;rw [nG h0 (by omega),nG h0 (by omega),nG (by omega) h2];obtain⟨u,rfl⟩:∃u,t=s+u:=⟨t-s,by omega⟩
  rw [show s+u-s=u by omega,show((s+u:Nat):Int)=(s:Int)+u by omega,Int.add_mul];have:(u:Int)*r<=(u:Int)*q:=Int.mul_le_mul_of_nonneg_left h1 (by omega)
  omega
theorem a0d{r q:Int}(h0:0<=r)(h1:r<=q)(h2:q<=1073741824):fH (dL r) (dL q) (dL r) 0:=
 .inr ⟨nH h0 (by omega),nH (by omega) h2,dL r,dL q,qP h0 (by omega),qP (by omega) h2,.inr ⟨(by show a9 1 1<=120;decide),(dL r).at,a0c h0 h1 h2,.inl ⟨qP h0 (by omega),(nH h0 (by omega)).lim,rfl⟩⟩⟩
end Go.Proofs.YtaejfleahamapaaGreat
