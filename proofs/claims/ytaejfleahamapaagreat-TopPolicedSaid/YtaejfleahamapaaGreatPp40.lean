/- Lines, in plain words, and their convolution. -/
import Derived.BigRegion
import Derived.Deep.RegionHeld3
import Derived.Test.YtaejfleahamapaaGreatPp26
import Derived.Test.YtaejfleahamapaaGreatPp16
import Derived.Test.YtaejfleahamapaaGreatPp3
import Derived.Test.YtaejfleahamapaaGreatPp1
import Derived.Test.YtaejfleahamapaaGreatPp2
namespace Go.Proofs.YtaejfleahamapaaGreat
set_option linter.unusedVariables false
set_option linter.unusedSimpArgs false
section
open Go.RowKit
structure CvEn(w wx:World)(A:Option Addr)(n c:Nat)(a:Cv)(B:Option Addr)(m d:Nat)(b:Cv)(K:Int):Prop where
 pb:Blk wx w.heap.size 91 (cpA A n c a B m d b K)
 ia:Ints wx w.heap.size A n a.vals
 ib:Ints wx w.heap.size B m b.vals
 rb:Blk wx (w.heap.size+1) 26 #[.slice none 0 0,.int .i64 0,.int .i64 0]
 bw:Below w.heap.size w wx
section
variable{w wx wy:World}{A B:Option Addr}{n c m d:Nat}{a b:Cv}{K:Int}
theorem CvEn.new(hA:Ints w w.heap.size A n a.vals)(hB:Ints w w.heap.size B m b.vals):CvEn w ((w.alloc (.cells (cpA A n c a B m d b K) 91)).alloc (.cells #[.slice none 0 0,.int .i64 0,.int .i64 0] 26)) A n c a B m d b K:=by
 have rb:=Blk.new (w.alloc (.cells (cpA A n c a B m d b K) 91)) 26 #[.slice none 0 0,.int .i64 0,.int .i64 0];rw [World.size_alloc] at rb;exact⟨(Blk.new _ _ _).alloc _,(hA.alloc (Nat.le_refl _) _).alloc (by simp) _,(hB.alloc (Nat.le_refl _) _).alloc (by simp) _,rb,bthen (balloc _ _) (balloc _ _)⟩
theorem CvEn.below(h:CvEn w wx A n c a B m d b K)(hb:Below wx.heap.size wx wy):CvEn w wy A n c a B m d b K:=⟨h.pb.below hb h.pb.lt,h.ia.below (hb.mono h.bw.size),h.ib.below (hb.mono h.bw.size),h.rb.below hb h.rb.lt,bthen h.bw hb⟩
theorem CvEn.alloc(h:CvEn w wx A n c a B m d b K)(o:Obj):CvEn w (wx.alloc o) A n c a B m d b K:=h.below (balloc wx o)
theorem CvEn.drew(h:CvEn w wx A n c a B m d b K):CvEn w wx.drew A n c a B m d b K:=⟨h.pb,h.ia,h.ib,h.rb,Below.drew h.bw⟩
theorem CvEn.sto(h:CvEn w wx A n c a B m d b K){g:Nat}(s:Sto g wx wy)(hg:w.heap.size+1<g):CvEn w wy A n c a B m d b K:=
 ⟨h.pb.sto s (by omega),h.ia.keep (fun q hq=>World.cell?_of_block (s.block _ (by omega))),h.ib.keep (fun q hq=>World.cell?_of_block (s.block _ (by omega))),h.rb.sto s (by omega),bsto h.bw s (by omega)⟩
theorem CvEn.set(h:CvEn w wx A n c a B m d b K){g:Nat}(hg:w.heap.size+1<g)(i:Nat)(u:Value):CvEn w (wx.setCell ⟨g,i,none⟩ u) A n c a B m d b K:=h.sto ((Sto.refl g wx).set i u) hg
theorem CvEn.ja(h:CvEn w wx A n c a B m d b K):Ints wx wx.heap.size A n a.vals:=h.ia.more h.bw.size
theorem CvEn.jb(h:CvEn w wx A n c a B m d b K):Ints wx wx.heap.size B m b.vals:=h.ib.more h.bw.size
theorem CvEn.cells(h:CvEn w wx A n c a B m d b K):(wx.cell? ⟨w.heap.size,0,none⟩=some (.slice A n c)∧wx.cell? ⟨w.heap.size,1,none⟩=some (.int .i64 a.per)∧wx.cell? ⟨w.heap.size,2,none⟩=some (.int .i64 a.inc))∧
 (wx.cell? ⟨w.heap.size,3,none⟩=some (.slice B m d)∧wx.cell? ⟨w.heap.size,4,none⟩=some (.int .i64 b.per)∧wx.cell? ⟨w.heap.size,5,none⟩=some (.int .i64 b.inc))∧wx.cell? ⟨w.heap.size,6,none⟩=some (.int .i64 K)∧w.heap.size+1<wx.heap.size:=by
 have q:=fun i=>h.pb.cell i
 have q0:=q 0;have q1:=q 1;have q2:=q 2;have q3:=q 3;have q4:=q 4;have q5:=q 5;have q6:=q 6;simp [cpA] at q0 q1 q2 q3 q4 q5 q6
 exact⟨⟨q0,q1,q2⟩,⟨q3,q4,q5⟩,q6,h.rb.lt⟩
end
structure Vx(L:Nat)(wx:World)(F:Nat)(A:Option Addr)(n c:Nat)(f:Cv):Prop where
 blk:Blk wx F 26 #[.slice A n c,.int .i64 f.per,.int .i64 f.inc]
 ints:Ints wx L A n f.vals
 lt:L<F
section
variable{L F n c:Nat}{wx wy:World}{A:Option Addr}{f:Cv}
theorem Vx.below(h:Vx L wx F A n c f)(hb:Below wx.heap.size wx wy):Vx L wy F A n c f:=⟨h.blk.below hb h.blk.lt,h.ints.below (hb.mono (by have:=h.blk.lt;have:=h.lt;omega)),h.lt⟩
theorem Vx.drew(h:Vx L wx F A n c f):Vx L wx.drew F A n c f:=⟨h.blk,h.ints,h.lt⟩
theorem Vx.sto{g:Nat}(h:Vx L wx F A n c f)(s:Sto g wx wy)(hg:F≠g)(hL:L≤g):Vx L wy F A n c f:=⟨h.blk.sto s hg,h.ints.keep (fun q hq=>World.cell?_of_block (s.block _ (by omega))),h.lt⟩
theorem Vx.put(h:Vx L wx F A n c f){B:Option Addr}{m d:Nat}{g:Cv}(hB:Ints (((wx.setCell ⟨F,0,none⟩ (.slice B m d)).setCell ⟨F,1,none⟩ (.int .i64 g.per)).setCell ⟨F,2,none⟩ (.int .i64 g.inc)) L B m g.vals) :
 Vx L (((wx.setCell ⟨F,0,none⟩ (.slice B m d)).setCell ⟨F,1,none⟩ (.int .i64 g.per)).setCell ⟨F,2,none⟩ (.int .i64 g.inc)) F B m d g:=⟨h.blk.store3 _ _ _,hB,h.lt⟩
theorem Vx.all(h:Vx L wx F A n c f):Ints wx wx.heap.size A n f.vals:=h.ints.more (by have:=h.blk.lt;have:=h.lt;omega)
theorem Vx.cells(h:Vx L wx F A n c f):wx.cell? ⟨F,0,none⟩=some (.slice A n c)∧wx.cell? ⟨F,1,none⟩=some (.int .i64 f.per)∧wx.cell? ⟨F,2,none⟩=some (.int .i64 f.inc)∧F<wx.heap.size:=by
 have q0:=h.blk.cell 0;have q1:=h.blk.cell 1;have q2:=h.blk.cell 2;simp at q0 q1 q2;exact⟨q0,q1,q2,h.blk.lt⟩
end
theorem comm_symm{p q:Nat}(hp:1≤p)(hq:1≤q):comm p q=comm q p:=by
 unfold comm;rw [Nat.gcd_comm q p];have d1:=Nat.div_mul_cancel (Nat.gcd_dvd_left p q);have d2:=Nat.div_mul_cancel (Nat.gcd_dvd_right p q);generalize p / Nat.gcd p q=x at *;generalize q / Nat.gcd p q=y at *;generalize Nat.gcd p q=g at *;rw [← d1,← d2];exact Nat.mul_left_comm _ _ _
theorem ordC_symm{a b:Cv}(ha:a.Ok)(hb:b.Ok):ordC a b=ordC b a:=by
 have h1:=ha.p1;have h2:=hb.p1;exact comm_symm (by omega) (by omega)
theorem gnA_swap{a b:Cv}(ha:a.Ok)(hb:b.Ok):gnA b a=gnB a b:=by unfold gnA gnB;rw [ordC_symm ha hb]
theorem gnB_swap{a b:Cv}(ha:a.Ok)(hb:b.Ok):gnB b a=gnA a b:=by unfold gnA gnB;rw [ordC_symm ha hb]
structure UV(a b u v:Cv):Prop where
 eq:(u=a∧v=b)∨(u=b∧v=a)
 fin:u.Fin∨¬v.Fin
 le:u.Fin→v.Fin→gnA u v≤gnB u v
theorem UV.keep{a b:Cv}{fa fb:Bool}(h1:fa=true↔a.Fin)(h2:fb=true↔b.Fin)(h:(!fa || (fb && decide (gnB a b<gnA a b)))=false):UV a b a b:=by
 cases fa
 ·cases h
 ·refine⟨.inl ⟨rfl,rfl⟩,.inl (h1.1 rfl),fun _ fb'=>?_⟩
  have:=h2.2 fb'
  subst this;simp at h;exact h
theorem UV.swap{a b:Cv}(ha:a.Ok)(hb:b.Ok){fa fb:Bool}(h1:fa=true↔a.Fin)(h2:fb=true↔b.Fin)(h:(!fa || (fb && decide (gnB a b<gnA a b)))=true):UV a b b a:=by
 refine⟨.inr ⟨rfl,rfl⟩,?_,fun fb' fa'=>?_⟩
 ·cases fa
  ·exact .inr (fun h=>by have:=h1.2 h;cases this)
  ·cases fb
   ·cases h
   ·exact .inl (h2.1 rfl)
 ·rw [gnA_swap ha hb,gnB_swap ha hb];have e1:=h1.2 fa';have e2:=h2.2 fb';subst e1 e2;simp at h;omega
theorem UV.conv{a b u v:Cv}(H:UV a b u v){r:Cv}{er:Int}{h:Nat→Int}(hh:CvF u v h)(hm:MadeL h r er):CvoS a b r er:=by
 rcases H.eq with ⟨rfl,rfl⟩|⟨rfl,rfl⟩
 ·exact⟨h,hh,hm⟩
 ·exact⟨h,hh.symm,hm⟩
theorem UV.ok{a b u v:Cv}(H:UV a b u v)(ha:a.Ok)(hb:b.Ok):u.Ok∧v.Ok∧ordC u v=ordC a b∧u.vals.length-u.per.toNat+(v.vals.length-v.per.toNat)=a.vals.length-a.per.toNat+(b.vals.length-b.per.toNat):=by
 rcases H.eq with ⟨rfl,rfl⟩|⟨rfl,rfl⟩
 ·exact⟨ha,hb,rfl,rfl⟩
 ·exact⟨hb,ha,ordC_symm hb ha,Nat.add_comm _ _⟩
def ModeP(u v:Cv)(cr:Bool)(FR:Nat)(fr:Nat)(pe ic:Int):Prop:=
 (cr=true↔v.Fin∧gnA u v<gnB u v)∧((cr=false∧fr=FR∧pe=(ordC u v:Nat)∧ic=gnA u v)∨(cr=true∧fr=max 400 FR∧pe=u.per∧ic=u.inc))
theorem uv_made{a b u v:Cv}(H:UV a b u v)(ha:a.Ok)(hb:b.Ok){h:Nat→Int}(hh:CvF u v h){cr:Bool}{FR fr:Nat}{pe ic:Int}(M:ModeP u v cr FR fr pe ic)(hFR:FR=u.vals.length-u.per.toNat+(v.vals.length-v.per.toNat)+ordC u v)
 (hK:ordC u v≤120) (hat:cr=true→∀t,fr≤t→t<fr+ordC u v→CvI u v (u.vals.length-u.per.toNat) t (t+1) (h t)) {r:Cv} {er:Int} (hS:BuildS h fr pe.toNat ic r er):CvoS a b r er:=by
 obtain⟨hu,hv,_,_⟩:=H.ok ha hb;have u1:=hu.p1;have u2:=hu.p2;have u3:=hu.n2;have u4:=hu.pn;have v1:=hv.p1;have v3:=hv.n2;have v4:=hv.pn;have c1:=(ord_b hu hv).c1;refine H.conv hh ?_;obtain⟨hcr,⟨rfl,rfl,rfl,rfl⟩|⟨rfl,rfl,rfl,rfl⟩⟩:=M
 ·rw [Int.toNat_natCast] at hS;rcases hu.fin_or with fu|iu
  ·rcases hv.fin_or with fv|iv
   ·have h1:=H.le fu fv;have h2:¬gnA u v<gnB u v:=fun h=>by have:=hcr.2 ⟨fv,h⟩;cases this
    exact cv_made2 fu fv (by omega) hh (by omega) (by omega) hS
   ·obtain⟨e1,e2⟩:=gn_of_inf hu hv iv;rw [e1,e2] at hS;exact cv_made1 fu hv iv hh (by omega) (by omega) hS
  ·have iv:nth v.vals (v.vals.length-1)=inf:=by
    rcases hv.fin_or with fv|iv
    ·rcases H.fin with h|h
     ·exact absurd iu h.2
     ·exact absurd fv h
    ·exact iv
   exact cv_made0 hu hv iu iv hh c1 (by omega) (by omega) hS
 ·obtain⟨fv,hlt⟩:=hcr.1 rfl;have fu:u.Fin:=H.fin.resolve_right (fun h=>h fv);exact cv_made3 fu fv hlt hh (by omega) (by omega) (hat rfl) hS
theorem uv_none{a b u v:Cv}(H:UV a b u v)(ha:a.Ok)(hb:b.Ok){h:Nat→Int}(hh:CvF u v h){cr:Bool}{FR fr:Nat}{pe ic:Int}(M:ModeP u v cr FR fr pe ic)(hFR:FR=u.vals.length-u.per.toNat+(v.vals.length-v.per.toNat)+ordC u v)
 (hc:cr=true) {t:Nat} (ht:fr≤t) (ht2:t≤2000) {x:Int} (hx:CvI u v (u.vals.length-u.per.toNat) t (t+1) x) (hlt:h t<x):CvoS a b Cv.none 3:=by
 obtain⟨hu,hv,_,_⟩:=H.ok ha hb;refine H.conv hh ?_;obtain⟨hcr,⟨rfl,_⟩|⟨_,rfl,_,_⟩⟩:=M
 ·cases hc
 ·obtain⟨fv,h1⟩:=hcr.1 hc;have fu:u.Fin:=H.fin.resolve_right (fun h=>h fv);exact cv_none3 fu fv h1 hh (by omega) ht2 (by omega) hx hlt
theorem uv_hat{u v:Cv}(hu:u.Ok)(hv:v.Ok){h:Nat→Int}(hh:CvF u v h){su t:Nat}{x:Int}(ht:t≤2000)(hx:CvI u v su t (t+1) x)(hle:x≤h t):CvI u v su t (t+1) (h t):=by
 have e:x=h t:=by
  rcases hx with ⟨h1,rfl⟩|⟨⟨s,h0,h2,h3,rfl⟩,h4⟩
  ·have:=(cv_small hu hv hh ht).2;unfold inf at *;omega
  ·rcases (hh t).cases with ⟨k1,k2⟩|⟨_,k2⟩
   ·exact absurd h3 (k1 s)
   ·have:=k2 s h3;omega
 rw [← e];exact hx
theorem Vx.two{L:Nat}{w:World}{A B:Option Addr}{n m c d:Nat}{f g:Cv}(hA:Ints w L A n f.vals)(hB:Ints w L B m g.vals)(hL:L<w.heap.size) :
 Vx L ((w.alloc (.cells #[.slice A n c,.int .i64 f.per,.int .i64 f.inc] 26)).alloc (.cells #[.slice B m d,.int .i64 g.per,.int .i64 g.inc] 26)).drew w.heap.size A n c f∧
 Vx L ((w.alloc (.cells #[.slice A n c,.int .i64 f.per,.int .i64 f.inc] 26)).alloc (.cells #[.slice B m d,.int .i64 g.per,.int .i64 g.inc] 26)).drew (w.heap.size+1) B m d g:=by
 have h2:=Blk.new (w.alloc (.cells #[.slice A n c,.int .i64 f.per,.int .i64 f.inc] 26)) 26 #[.slice B m d,.int .i64 g.per,.int .i64 g.inc];rw [World.size_alloc] at h2;exact⟨⟨(Blk.new _ _ _).alloc _,(hA.alloc (by omega) _).alloc (by simp;omega) _,hL⟩,⟨h2,(hB.alloc (by omega) _).alloc (by simp;omega) _,by omega⟩⟩
theorem cvof1_any(Q gv n:Nat)(h:Nat→Int)(vs:List Int)(t:Nat)(w:World)(hV:Blk w Q 22 #[.slice (some ⟨gv,0,none⟩) n n])(hR:RowI w gv vs)(hu:UpTo h vs n n)(ht:t<n) :
 Calls Tryz.prog 98 (#[.int .i64 t] ++ #[.pointer (some ⟨Q,0,none⟩)]) w fun e w'=>e = .returned (.int .i64 (h t))∧Below w.heap.size w w':=by
 show Calls _ _ #[.int .i64 t,.pointer (some ⟨Q,0,none⟩)] _ _
 have q0:=hV.cell 0;have s0:=hR.cell t (by rw [hu.1];exact ht);rw [hu.2 t ht] at s0;simp at q0;have hl:=hR.lt;have hlq:=hV.lt;have hti:(t:Int)<n:=by omega
 clear hV hR hu;go_enter Tryz.func98,Tryz.ntmps98
 go_wp2_with fail
 go_ret
 exact⟨rfl,Below.refl _ _⟩
set_option maxHeartbeats 4000000 in
set_option maxRecDepth 100000 in
theorem cvof_any(A B:Option Addr)(n m c d:Nat)(a b:Cv)(w:World)(hA:Ints w w.heap.size A n a.vals)(hB:Ints w w.heap.size B m b.vals)(ha:a.Ok)(hb:b.Ok)(hc:ordC a b≤120) :
 Calls Tryz.prog 40 #[.agg (cpA A n c a B m d b (ordC a b:Nat))] w (RetSK (CvoS a b) w):=by
 have a1:=ha.n1;have a2:=ha.n2;have a3:=ha.p1;have a4:=ha.p2;have a5:=ha.pn;have a6:=ha.i1;have a7:=ha.i2;have b1:=hb.n1;have b2:=hb.n2;have b3:=hb.p1;have b4:=hb.p2;have b5:=hb.pn;have b6:=hb.i1;have b7:=hb.i2;have hln:a.vals.length=n:=hA.1;have hlm:b.vals.length=m:=hB.1;rw [hln] at a1 a2 a5;rw [hlm] at b1 b2 b5;obtain⟨KC,hK⟩:∃KC:Int,KC=(ordC a b:Nat):=⟨_,rfl⟩
 rw [← hK];have hK1:KC≤120:=by omega
 have hK0:1≤KC:=by have:=(ord_b ha hb).c1;omega
 have E:=hi_ (CvEn.new (c:=c) (d:=d) (K:=KC) hA hB);have HA:=hi_ ha;have HB:=hi_ hb;have HC:=hi_ hc;have HK:=hi_ hK;have HLN:=hi_ hln;have HLM:=hi_ hlm;clear hA hB ha hb hc hK hln hlm;unfold cpA at E;unfold cpA;go_enter Tryz.func40,Tryz.ntmps40
 go_upto_region 1 with fail
 generalize hwe:(w.alloc (.cells #[.slice A n c,.int .i64 a.per,.int .i64 a.inc,.slice B m d,.int .i64 b.per,.int .i64 b.inc,.int .i64 KC] 91)).alloc (.cells #[.slice none 0 0,.int .i64 0,.int .i64 0] 26)=we at *;clear hwe;have E:Hid (CvEn w we A n c a B m d b KC):=E;generalize (Value.agg #[.slice A n c,.int .i64 a.per,.int .i64 a.inc,.slice B m d,.int .i64 b.per,.int .i64 b.inc,.int .i64 KC])=v0;obtain⟨SA,hSA⟩:∃SA:Int,SA=(n:Int)-a.per:=⟨_,rfl⟩
 obtain⟨SB,hSB⟩:∃SB:Int,SB=(m:Int)-b.per:=⟨_,rfl⟩
 have HSA:=hi_ hSA;have HSB:=hi_ hSB;clear hSA hSB;obtain⟨⟨f0,f1,f2⟩,⟨g0,g1,g2⟩,p6,hlf⟩:=E.out.cells;go_cut [4,5] (fun s4 s5 wx=>s4 = .int .i64 SA∧s5 = .int .i64 SB∧CvEn w wx A n c a B m d b KC)
 case first=>
  have E:=hi_ E.out.drew;clear f0 f1 f2 g0 g1 g2 p6 hlf;obtain⟨⟨f0,f1,f2⟩,⟨g0,g1,g2⟩,p6,hlf⟩:=E.out.cells;refine wp_region_held_drew (S:=(fun w'=>w'.cell? ⟨w.heap.size,0,none⟩=some (.slice A n c)∧w'.cell? ⟨w.heap.size,1,none⟩=some (.int .i64 a.per)∧w'.cell? ⟨w.heap.size,2,none⟩=some (.int .i64 a.inc)∧w'.cell? ⟨w.heap.size,3,none⟩=some (.slice B m d)∧w'.cell? ⟨w.heap.size,4,none⟩=some (.int .i64 b.per)∧w'.cell? ⟨w.heap.size,5,none⟩=some (.int .i64 b.inc)∧w'.cell? ⟨w.heap.size,6,none⟩=some (.int .i64 KC))) (by kernel_rfl) ⟨f0,f1,f2,g0,g1,g2,p6⟩ (fun hHeld=>?_);generalize hwd:we.drew=wd at *;clear hwd;refine tkO [0,1,3,4] ?_;(iterate 4 refine tkI ?_);refine tkX ?_;refine rdy2 2 (fun K hK=>?_);go_simp
  refine(start_any A n c a.per a.inc _ (by omega) (by omega) (by omega)).mono ?_;rw [← HSA.out];rintro e wa ⟨rfl,hbq⟩;have E:=hi_ (E.out.below hbq);clear hbq hHeld;clear f0 f1 f2 g0 g1 g2 p6 hlf;obtain⟨⟨f0,f1,f2⟩,⟨g0,g1,g2⟩,p6,hlf⟩:=E.out.cells;refine bkS hK (by exact⟨f0,f1,f2,g0,g1,g2,p6⟩) (fun hHeld=>?_);clear hK K;refine rdy2 5 (fun K hK=>?_);go_simp
  refine(start_any B m d b.per b.inc _ (by omega) (by omega) (by omega)).mono ?_;rw [← HSB.out];rintro e wb ⟨rfl,hbq⟩;have E:=hi_ (E.out.below hbq);clear hbq hHeld;clear f0 f1 f2 g0 g1 g2 p6 hlf;obtain⟨⟨f0,f1,f2⟩,⟨g0,g1,g2⟩,p6,hlf⟩:=E.out.cells;refine bkS hK (by exact⟨f0,f1,f2,g0,g1,g2,p6⟩) (fun hHeld=>?_);clear hK K;refine tkO [6,7] ?_;(iterate 2 refine tkI ?_);refine tkX ?_;refine dnH ?_;go_wp2_with fail
  go_meet
  exact⟨rfl,rfl,E.out⟩
 case rest=>
  clear E;clear f0 f1 f2 g0 g1 g2 p6 hlf;obtain⟨rfl,rfl,hE⟩:=hcut;have E:=hi_ hE;clear hE;obtain⟨⟨f0,f1,f2⟩,⟨g0,g1,g2⟩,p6,hlf⟩:=E.out.cells;go_upto_region 2 with fail
  go_cut [6,7] (fun s6 s7 wx=>∃F G:Nat,s6 = .pointer (some ⟨F,0,none⟩)∧s7 = .pointer (some ⟨G,0,none⟩)∧F≠G∧Vx (w.heap.size+1) wx F A n c a∧Vx (w.heap.size+1) wx G B m d b∧CvEn w wx A n c a B m d b KC)
  case first=>
   have hws:w.heap.size<wc.heap.size:=by omega
   have t1:=Vx.two (c:=c) (d:=d) (f:=a) (g:=b) (E.out.ia.more (B':=w.heap.size+1) (by omega)) (E.out.ib.more (B':=w.heap.size+1) (by omega)) hlf;have t2:=Vx.two (c:=d) (d:=c) (f:=b) (g:=a) (E.out.ib.more (B':=w.heap.size+1) (by omega)) (E.out.ia.more (B':=w.heap.size+1) (by omega)) hlf;have T1:=hi_ t1;have T2:=hi_ t2;clear t1 t2
   go_region
   ·go_wp2_with fail
    go_meet
    exact⟨_,_,rfl,rfl,by omega,T1.out.1,T1.out.2,((E.out.alloc _).alloc _).drew⟩
   ·go_wp2_with fail
    go_meet
    exact⟨_,_,rfl,rfl,by omega,T2.out.2,T2.out.1,((E.out.alloc _).alloc _).drew⟩
  case rest=>
  clear E;clear f0 f1 f2 g0 g1 g2 p6 hlf;obtain⟨F,G,rfl,rfl,hFG,hF,hG,hE⟩:=hcut;have E:=hi_ hE;have VF:=hi_ hF;have VG:=hi_ hG;clear hE hF hG;have LO1:=hi_ (show ∀z:Bool,z=(nth b.vals (m-1) != inf)→(z=true↔b.Fin) from fun z hz=>by
   rw [hz,bne_iff_ne,← HLM.out];exact⟨fun h=>⟨HB.out,h⟩,fun h=>h.2⟩)
  have LO2:=hi_ (show ∀z:Bool,z=(nth a.vals (n-1) != inf)→(z=true↔a.Fin) from fun z hz=>by
   rw [hz,bne_iff_ne,← HLN.out];exact⟨fun h=>⟨HA.out,h⟩,fun h=>h.2⟩)
  obtain⟨fb,hfb⟩:∃z,z=(nth b.vals (m-1) != inf):=⟨_,rfl⟩
  obtain⟨fa,hfa⟩:∃z,z=(nth a.vals (n-1) != inf):=⟨_,rfl⟩
  have L1:=hi_ (LO1.out _ hfb);have L2:=hi_ (LO2.out _ hfa);have HFB:=hi_ hfb;have HFA:=hi_ hfa;clear hfb hfa LO1 LO2;have KN:=hi_ (show KC.toNat=ordC a b from by rw [HK.out];exact Int.toNat_natCast _);obtain⟨ga,hga⟩:∃ga,ga=gnA a b:=⟨_,rfl⟩
  obtain⟨gb,hgb⟩:∃gb,gb=gnB a b:=⟨_,rfl⟩
  have HGA:=hi_ hga;have HGB:=hi_ hgb;clear hga hgb;obtain⟨⟨f0,f1,f2⟩,⟨g0,g1,g2⟩,p6,hlf⟩:=E.out.cells;go_upto_region 3 with fail
  go_cut [49] (fun s49 wx=>∃sw:Bool,s49 = .bool sw∧Hid (sw=(!fa || (fb && decide (gb<ga))))∧Vx (w.heap.size+1) wx F A n c a∧Vx (w.heap.size+1) wx G B m d b∧CvEn w wx A n c a B m d b KC)
  case first=>
   have E:=hi_ E.out.drew;have VF:=hi_ VF.out.drew;have VG:=hi_ VG.out.drew;clear f0 f1 f2 g0 g1 g2 p6 hlf;obtain⟨⟨f0,f1,f2⟩,⟨g0,g1,g2⟩,p6,hlf⟩:=E.out.cells;refine wp_region_held_drew (S:=(fun w'=>w'.cell? ⟨w.heap.size,0,none⟩=some (.slice A n c)∧w'.cell? ⟨w.heap.size,1,none⟩=some (.int .i64 a.per)∧w'.cell? ⟨w.heap.size,2,none⟩=some (.int .i64 a.inc)∧w'.cell? ⟨w.heap.size,3,none⟩=some (.slice B m d)∧w'.cell? ⟨w.heap.size,4,none⟩=some (.int .i64 b.per)∧w'.cell? ⟨w.heap.size,5,none⟩=some (.int .i64 b.inc)∧w'.cell? ⟨w.heap.size,6,none⟩=some (.int .i64 KC))) (by kernel_rfl) ⟨f0,f1,f2,g0,g1,g2,p6⟩ (fun hHeld=>?_);generalize hwd:wc.drew=wd at *;clear hwd;refine tkO [0,1] ?_;(iterate 2 refine tkI ?_);refine tkX ?_;refine rdy2 2 (fun K hK=>?_);go_simp
   refine(finite_any A n c a.per a.inc a.vals _ (by exact E.out.ja) (by omega) (by omega)).mono ?_;rw [← HFA.out];rintro e wa ⟨rfl,hbq⟩;have E:=hi_ (E.out.below hbq);have VF:=hi_ (VF.out.below hbq);have VG:=hi_ (VG.out.below hbq);clear hbq hHeld;clear f0 f1 f2 g0 g1 g2 p6 hlf;obtain⟨⟨f0,f1,f2⟩,⟨g0,g1,g2⟩,p6,hlf⟩:=E.out.cells;refine bkS hK (by exact⟨f0,f1,f2,g0,g1,g2,p6⟩) (fun hHeld=>?_);clear hK K;clear HFA;cases fa
   case false=>
    refine tkO [3,4,5,6,7,8,9,10,11,12,13,14,15,16,17,18,19,20,21] ?_;(iterate 2 refine tkI ?_);(iterate 16 refine tkJ ?_);refine tkI ?_;refine tkX ?_;refine dnH ?_;go_wp2_with fail
    go_meet
    exact⟨_,rfl,hi_ rfl,VF.out,VG.out,E.out⟩
   case true=>
    refine tkO [3,4,5,6] ?_;(iterate 4 refine tkI ?_);refine tkX ?_;refine rdy2 7 (fun K hK=>?_);go_simp
    refine(finite_any B m d b.per b.inc b.vals _ (by exact E.out.jb) (by omega) (by omega)).mono ?_;rw [← HFB.out];rintro e wb ⟨rfl,hbq⟩;have E:=hi_ (E.out.below hbq);have VF:=hi_ (VF.out.below hbq);have VG:=hi_ (VG.out.below hbq);clear hbq hHeld;clear f0 f1 f2 g0 g1 g2 p6 hlf;obtain⟨⟨f0,f1,f2⟩,⟨g0,g1,g2⟩,p6,hlf⟩:=E.out.cells;refine bkS hK (by exact⟨f0,f1,f2,g0,g1,g2,p6⟩) (fun hHeld=>?_);clear hK K;clear HFB;cases fb
    case false=>
     refine tkO [8,9,10,11,12,13,14,15,16,17,18,19,20,21] ?_;refine tkI ?_;(iterate 11 refine tkJ ?_);(iterate 2 refine tkI ?_);refine tkX ?_;refine dnH ?_;go_wp2_with fail
     go_meet
     exact⟨_,rfl,hi_ rfl,VF.out,VG.out,E.out⟩
    case true=>
     refine tkO [8,9,10,11,12,14,15,16,17] ?_;(iterate 9 refine tkI ?_);refine tkX ?_;refine rdy2 13 (fun K hK=>?_);go_simp
     refine(gain_any B m d b.per b.inc KC _ (by omega) (by omega) (by omega) (by omega) (by omega)).mono ?_;rw [KN.out,show((ordC a b / b.per.toNat:Nat):Int)*b.inc=gb from HGB.out.symm];rintro e wd1 ⟨rfl,hbq⟩;have E:=hi_ (E.out.below hbq);have VF:=hi_ (VF.out.below hbq);have VG:=hi_ (VG.out.below hbq);clear hbq hHeld;clear f0 f1 f2 g0 g1 g2 p6 hlf;obtain⟨⟨f0,f1,f2⟩,⟨g0,g1,g2⟩,p6,hlf⟩:=E.out.cells;refine bkS hK (by exact⟨f0,f1,f2,g0,g1,g2,p6⟩) (fun hHeld=>?_);clear hK K;refine rdy2 18 (fun K hK=>?_);go_simp
     refine(gain_any A n c a.per a.inc KC _ (by omega) (by omega) (by omega) (by omega) (by omega)).mono ?_;rw [KN.out,show((ordC a b / a.per.toNat:Nat):Int)*a.inc=ga from HGA.out.symm];rintro e wd2 ⟨rfl,hbq⟩;have E:=hi_ (E.out.below hbq);have VF:=hi_ (VF.out.below hbq);have VG:=hi_ (VG.out.below hbq);clear hbq hHeld;clear f0 f1 f2 g0 g1 g2 p6 hlf;obtain⟨⟨f0,f1,f2⟩,⟨g0,g1,g2⟩,p6,hlf⟩:=E.out.cells;refine bkS hK (by exact⟨f0,f1,f2,g0,g1,g2,p6⟩) (fun hHeld=>?_);clear hK K;refine tkO [19,20,21] ?_;(iterate 3 refine tkI ?_);refine tkX ?_;refine dnH ?_;go_wp2_with fail
     go_meet
     exact⟨_,rfl,hi_ rfl,VF.out,VG.out,E.out⟩
  case rest=>
  clear E VF VG;clear f0 f1 f2 g0 g1 g2 p6 hlf;obtain⟨sw,rfl,HSW,hF,hG,hE⟩:=hcut;have E:=hi_ hE;have VF:=hi_ hF;have VG:=hi_ hG;clear hE hF hG
  go_upto_if 49 with fail
  go_cut [] (fun wx=>∃(u v:Cv) (U:Option Addr) (nu cu:Nat) (V:Option Addr) (nv cv:Nat),UV a b u v∧Vx (w.heap.size+1) wx F U nu cu u∧Vx (w.heap.size+1) wx G V nv cv v∧CvEn w wx A n c a B m d b KC)
  case first=>
   cases sw
   case false=>
    go_wp2_with fail
    go_meet
    exact⟨a,b,A,n,c,B,m,d,UV.keep L2.out L1.out (by rw [← HGA.out,← HGB.out];exact HSW.out.symm),VF.out,VG.out,E.out⟩
   case true=>
    obtain⟨⟨f0,f1,f2⟩,⟨g0,g1,g2⟩,p6,hlf⟩:=E.out.cells;go_upto_region 4 with fail
    have E:=hi_ E.out.drew;have VF:=hi_ VF.out.drew;have VG:=hi_ VG.out.drew;clear f0 f1 f2 g0 g1 g2 p6 hlf;obtain⟨⟨f0,f1,f2⟩,⟨g0,g1,g2⟩,p6,hlf⟩:=E.out.cells;refine wp_region_held_drew (S:=(fun w'=>w'.cell? ⟨w.heap.size,0,none⟩=some (.slice A n c)∧w'.cell? ⟨w.heap.size,1,none⟩=some (.int .i64 a.per)∧w'.cell? ⟨w.heap.size,2,none⟩=some (.int .i64 a.inc)∧w'.cell? ⟨w.heap.size,3,none⟩=some (.slice B m d)∧w'.cell? ⟨w.heap.size,4,none⟩=some (.int .i64 b.per)∧w'.cell? ⟨w.heap.size,5,none⟩=some (.int .i64 b.inc)∧w'.cell? ⟨w.heap.size,6,none⟩=some (.int .i64 KC))) (by kernel_rfl) ⟨f0,f1,f2,g0,g1,g2,p6⟩ (fun hHeld=>?_);generalize hwd:wc.drew=wd at *;clear hwd;refine tkO [0,1,2,3] ?_;(iterate 4 refine tkI ?_);refine tkX ?_;refine rdy1 4 (fun K hK=>?_);have yv:=Blk.c3 VF.out.blk;obtain⟨⟨u0,u1,u2⟩,⟨z0,z1,z2⟩,hlu⟩:=yv;rw [if_pos (by rfl)];go_simp
    have E:=hi_ (E.out.sto (Sto.three F wd (.slice B m d) (.int .i64 b.per) (.int .i64 b.inc)) (by have:=VF.out.lt;omega));have VG:=hi_ (VG.out.sto (Sto.three F wd (.slice B m d) (.int .i64 b.per) (.int .i64 b.inc)) (by omega) (by have:=VF.out.lt;omega));have VF:=hi_ (VF.out.put (B:=B) (m:=m) (d:=d) (g:=b) (by have h:=E.out.ib;exact(h.more (by omega))));clear hHeld u0 u1 u2 z0 z1 z2 hlu;clear f0 f1 f2 g0 g1 g2 p6 hlf;generalize hws:((wd.setCell ⟨F,0,none⟩ (.slice B m d)).setCell ⟨F,1,none⟩ (.int .i64 b.per)).setCell ⟨F,2,none⟩ (.int .i64 b.inc)=ws at *;clear hws;obtain⟨⟨f0,f1,f2⟩,⟨g0,g1,g2⟩,p6,hlf⟩:=E.out.cells;refine bkS hK (by exact⟨f0,f1,f2,g0,g1,g2,p6⟩) (fun hHeld=>?_);clear hK K;refine rdy1 5 (fun K hK=>?_);have yv:=Blk.c3 VG.out.blk;obtain⟨⟨u0,u1,u2⟩,⟨z0,z1,z2⟩,hlu⟩:=yv;rw [if_pos (by rfl)];go_simp
    have E:=hi_ (E.out.sto (Sto.three G ws (.slice A n c) (.int .i64 a.per) (.int .i64 a.inc)) (by have:=VG.out.lt;omega));have VF:=hi_ (VF.out.sto (Sto.three G ws (.slice A n c) (.int .i64 a.per) (.int .i64 a.inc)) (by omega) (by have:=VG.out.lt;omega));have VG:=hi_ (VG.out.put (B:=A) (m:=n) (d:=c) (g:=a) (by have h:=E.out.ia;exact(h.more (by omega))));clear hHeld u0 u1 u2 z0 z1 z2 hlu;clear f0 f1 f2 g0 g1 g2 p6 hlf;generalize hws:((ws.setCell ⟨G,0,none⟩ (.slice A n c)).setCell ⟨G,1,none⟩ (.int .i64 a.per)).setCell ⟨G,2,none⟩ (.int .i64 a.inc)=ws at *;clear hws;obtain⟨⟨f0,f1,f2⟩,⟨g0,g1,g2⟩,p6,hlf⟩:=E.out.cells;refine bkS hK (by exact⟨f0,f1,f2,g0,g1,g2,p6⟩) (fun hHeld=>?_);clear hK K;refine dnH ?_;go_wp2_with fail
    go_meet
    exact⟨b,a,B,m,d,A,n,c,UV.swap HA.out HB.out L2.out L1.out (by rw [← HGA.out,← HGB.out];exact HSW.out.symm),VF.out,VG.out,E.out⟩
  case rest=>
  clear E VF VG;obtain⟨u,v,U,nu,cu,V,nv,cv,huv,hF,hG,hE⟩:=hcut;have E:=hi_ hE;have VF:=hi_ hF;have VG:=hi_ hG;have HUV:=hi_ huv;clear hE hF hG huv L1 L2 HGA HGB HSW ga gb HFA HFB;obtain⟨huo,hvo,hord,hst⟩:=HUV.out.ok HA.out HB.out;have ul:u.vals.length=nu:=VF.out.ints.1;have vl:v.vals.length=nv:=VG.out.ints.1;have q1:=huo.n1;have q2:=huo.n2;have q3:=huo.p1;have q4:=huo.p2;have q5:=huo.pn;have q6:=huo.i1;have q7:=huo.i2;have r1:=hvo.n1;have r2:=hvo.n2;have r3:=hvo.p1;have r4:=hvo.p2;have r5:=hvo.pn;have r6:=hvo.i1;have r7:=hvo.i2;rw [ul] at q1 q2 q5;rw [vl] at r1 r2 r5;have OB:=ord_b huo hvo;obtain⟨gu,hgu⟩:∃gu,gu=gnA u v:=⟨_,rfl⟩
  obtain⟨gv,hgv⟩:∃gv,gv=gnB u v:=⟨_,rfl⟩
  have gu0:0≤gu:=by rw [hgu];exact OB.a1.1
  have gu1:gu≤128849018880:=by rw [hgu];exact OB.a1.2
  have gv0:0≤gv:=by rw [hgv];exact OB.a2.1
  have gv1:gv≤128849018880:=by rw [hgv];exact OB.a2.2
  obtain⟨FR,hFR⟩:∃FR:Nat,FR=(n-a.per.toNat)+(m-b.per.toNat)+ordC a b:=⟨_,rfl⟩
  have hFI:SA+SB+KC=(FR:Int):=by have:=HSA.out;have:=HSB.out;have:=HK.out;omega
  have hF1:FR≤920:=by have:=HC.out;omega
  have FRH:=hi_ (show FR=u.vals.length-u.per.toNat+(v.vals.length-v.per.toNat)+ordC u v from by rw [hst,hord,HLN.out,HLM.out];exact hFR);have KU:=hi_ (show KC.toNat=ordC u v from by rw [hord];exact KN.out);have HUO:=hi_ huo;have HVO:=hi_ hvo;have HORD:=hi_ hord;have UL:=hi_ ul;have VL:=hi_ vl;have HGU:=hi_ hgu;have HGV:=hi_ hgv;obtain⟨SS,hSS⟩:∃SS,SS=SA+SB:=⟨_,rfl⟩
  have HSS:=hi_ hSS;have hs0:0≤SA:=by have:=HSA.out;omega
  have hs1:SA≤400:=by have:=HSA.out;omega
  have hs2:0≤SB:=by have:=HSB.out;omega
  have hs3:SB≤400:=by have:=HSB.out;omega
  have hs4:SS+KC=(FR:Int):=by omega
  have HFI:=hi_ hFI;clear huo hvo hord hst ul vl hgu hgv OB hFR hFI hSS KN;obtain⟨⟨f0,f1,f2⟩,⟨g0,g1,g2⟩,p6,hlf⟩:=E.out.cells;obtain⟨u0,u1,u2,hlu⟩:=VF.out.cells;obtain⟨v0',v1,v2,hlv⟩:=VG.out.cells;go_upto_region 5 with fail
  go_cut [8,9,10,11] (fun s8 s9 s10 s11 wx=>s8 = .int .i64 FR∧s9 = .int .i64 KC∧s10 = .int .i64 gu∧s11 = .bool false∧Vx (w.heap.size+1) wx F U nu cu u∧Vx (w.heap.size+1) wx G V nv cv v∧CvEn w wx A n c a B m d b KC)
  case first=>
   have e1:IntKind.i64.wrap (SA+SB)=SS:=by rw [HSS.out];exact IntWalk.i64_in _ (by omega)
   have e2:IntKind.i64.wrap (SS+KC)=(FR:Int):=by rw [hs4];exact IntWalk.i64_in _ (by omega)
   clear hs4;have E:=hi_ E.out.drew;have VF:=hi_ VF.out.drew;have VG:=hi_ VG.out.drew;clear f0 f1 f2 g0 g1 g2 p6 hlf;clear u0 u1 u2 hlu v0' v1 v2 hlv;obtain⟨⟨f0,f1,f2⟩,⟨g0,g1,g2⟩,p6,hlf⟩:=E.out.cells;obtain⟨u0,u1,u2,hlu⟩:=VF.out.cells;obtain⟨v0',v1,v2,hlv⟩:=VG.out.cells;refine wp_region_held_drew (S:=(fun w'=>w'.cell? ⟨w.heap.size,6,none⟩=some (.int .i64 KC)∧w'.cell? ⟨F,0,none⟩=some (.slice U nu cu)∧w'.cell? ⟨F,1,none⟩=some (.int .i64 u.per)∧w'.cell? ⟨F,2,none⟩=some (.int .i64 u.inc)∧w'.cell? ⟨G,0,none⟩=some (.slice V nv cv)∧w'.cell? ⟨G,1,none⟩=some (.int .i64 v.per)∧w'.cell? ⟨G,2,none⟩=some (.int .i64 v.inc))) (by kernel_rfl) ⟨p6,u0,u1,u2,v0',v1,v2⟩ (fun hHeld=>?_);generalize hwd:wc.drew=wd at *;clear hwd;refine tkO [0,1,2,3,4,5,6,7,8,9,10] ?_;(iterate 11 refine tkI ?_);refine tkX ?_;refine rdy2 11 (fun K hK=>?_);go_simp
   refine(gain_any U nu cu u.per u.inc KC _ (by omega) (by omega) (by omega) (by omega) (by omega)).mono ?_;rw [KU.out,show((ordC u v / u.per.toNat:Nat):Int)*u.inc=gu from HGU.out.symm];rintro e wa ⟨rfl,hbq⟩;have E:=hi_ (E.out.below hbq);have VF:=hi_ (VF.out.below hbq);have VG:=hi_ (VG.out.below hbq)
   try (have T1:=hi_ (T1.out.below hbq T1.out.lt))
   clear hbq hHeld;clear f0 f1 f2 g0 g1 g2 p6 hlf;clear u0 u1 u2 hlu v0' v1 v2 hlv;obtain⟨⟨f0,f1,f2⟩,⟨g0,g1,g2⟩,p6,hlf⟩:=E.out.cells;obtain⟨u0,u1,u2,hlu⟩:=VF.out.cells;obtain⟨v0',v1,v2,hlv⟩:=VG.out.cells;refine bkS hK (by exact⟨p6,u0,u1,u2,v0',v1,v2⟩) (fun hHeld=>?_);clear hK K;refine tkO [12,13,14,15] ?_;(iterate 4 refine tkI ?_);refine tkX ?_;refine dnH ?_;go_wp2_with fail
   go_meet
   exact⟨rfl,rfl,rfl,rfl,VF.out,VG.out,E.out⟩
  case rest=>
  clear E VF VG hs4;clear f0 f1 f2 g0 g1 g2 p6 hlf;clear u0 u1 u2 hlu v0' v1 v2 hlv;obtain⟨rfl,rfl,rfl,rfl,hF,hG,hE⟩:=hcut;have E:=hi_ hE;have VF:=hi_ hF;have VG:=hi_ hG;clear hE hF hG;obtain⟨fv,hfv⟩:∃z,z=(nth v.vals (nv-1) != inf):=⟨_,rfl⟩
  have L3:=hi_ (show fv=true↔v.Fin from by
   rw [hfv,bne_iff_ne,← VL.out];exact⟨fun h=>⟨HVO.out,h⟩,fun h=>h.2⟩)
  have HFV:=hi_ hfv;clear hfv;obtain⟨⟨f0,f1,f2⟩,⟨g0,g1,g2⟩,p6,hlf⟩:=E.out.cells;obtain⟨u0,u1,u2,hlu⟩:=VF.out.cells;obtain⟨v0',v1,v2,hlv⟩:=VG.out.cells;go_upto_region 6 with fail
  go_cut [75] (fun s75 wx=>∃cr:Bool,s75 = .bool cr∧Hid (cr=true↔v.Fin∧gu<gv)∧Vx (w.heap.size+1) wx F U nu cu u∧Vx (w.heap.size+1) wx G V nv cv v∧CvEn w wx A n c a B m d b KC)
  case first=>
   go_wp2_with fail
   refine(finite_any V nv cv v.per v.inc v.vals _ (by exact VG.out.all) (by omega) (by omega)).mono ?_;rw [← HFV.out];rintro e wa ⟨rfl,hbq⟩;have E:=hi_ (E.out.below hbq);have VF:=hi_ (VF.out.below hbq);have VG:=hi_ (VG.out.below hbq);clear hbq;clear f0 f1 f2 g0 g1 g2 p6 hlf;clear u0 u1 u2 hlu v0' v1 v2 hlv;obtain⟨⟨f0,f1,f2⟩,⟨g0,g1,g2⟩,p6,hlf⟩:=E.out.cells;obtain⟨u0,u1,u2,hlu⟩:=VF.out.cells;obtain⟨v0',v1,v2,hlv⟩:=VG.out.cells;cases hfvv:fv
   case false=>
    have L4:=L3.out;rw [hfvv] at L4;have CRH:=hi_ (show false=true↔v.Fin∧gu<gv from⟨(fun h=>by cases h),fun h=>by have:=L4.2 h.1;cases this⟩);clear L4 hfvv;go_wp2_with fail
    go_meet
    exact⟨false,rfl,CRH,VF.out,VG.out,E.out⟩
   case true=>
    have L4:=L3.out;rw [hfvv] at L4;have CRH:=hi_ (show decide (gu<gv)=true↔v.Fin∧gu<gv from by
     rw [decide_eq_true_iff];exact⟨fun h=>⟨L4.1 rfl,h⟩,fun h=>h.2⟩)
    clear L4 hfvv;go_wp2_with fail
    refine(gain_any V nv cv v.per v.inc KC _ (by omega) (by omega) (by omega) (by omega) (by omega)).mono ?_;rw [KU.out,show((ordC u v / v.per.toNat:Nat):Int)*v.inc=gv from HGV.out.symm];rintro e wb ⟨rfl,hbq⟩;have E:=hi_ (E.out.below hbq);have VF:=hi_ (VF.out.below hbq);have VG:=hi_ (VG.out.below hbq);clear hbq;clear f0 f1 f2 g0 g1 g2 p6 hlf;clear u0 u1 u2 hlu v0' v1 v2 hlv;obtain⟨⟨f0,f1,f2⟩,⟨g0,g1,g2⟩,p6,hlf⟩:=E.out.cells;obtain⟨u0,u1,u2,hlu⟩:=VF.out.cells;obtain⟨v0',v1,v2,hlv⟩:=VG.out.cells;go_wp2_with fail
    go_meet
    exact⟨_,rfl,CRH,VF.out,VG.out,E.out⟩
  case rest=>
  clear E VF VG L3 HFV fv;clear f0 f1 f2 g0 g1 g2 p6 hlf;clear u0 u1 u2 hlu v0' v1 v2 hlv;obtain⟨cr,rfl,CRH,hF,hG,hE⟩:=hcut;have E:=hi_ hE;have VF:=hi_ hF;have VG:=hi_ hG;clear hE hF hG;obtain⟨⟨f0,f1,f2⟩,⟨g0,g1,g2⟩,p6,hlf⟩:=E.out.cells;obtain⟨u0,u1,u2,hlu⟩:=VF.out.cells;obtain⟨v0',v1,v2,hlv⟩:=VG.out.cells
  go_upto_if 75 with fail
  go_cut [8,9,10,11] (fun s8 s9 s10 s11 wx=>∃(fr:Nat) (pe ic:Int),s8 = .int .i64 fr∧s9 = .int .i64 pe∧s10 = .int .i64 ic∧s11 = .bool cr∧Hid (ModeP u v cr FR fr pe ic)∧fr≤920∧1≤pe∧pe≤120∧pe≤KC∧0≤ic∧ic≤128849018880∧Vx (w.heap.size+1) wx F U nu cu u∧Vx (w.heap.size+1) wx G V nv cv v∧CvEn w wx A n c a B m d b KC)
  case first=>
   cases cr
   case false=>
    have MH:=hi_ (show ModeP u v false FR FR KC gu from⟨by rw [← HGU.out,← HGV.out];exact CRH.out,.inl ⟨rfl,rfl,by rw [HORD.out];exact HK.out,HGU.out⟩⟩);go_wp2_with fail
    go_meet
    exact⟨FR,KC,gu,rfl,rfl,rfl,rfl,MH,hF1,by omega,by omega,by omega,by omega,by omega,VF.out,VG.out,E.out⟩
   case true=>
    have MH:=hi_ (show ModeP u v true FR (max 400 FR) u.per u.inc from⟨by rw [← HGU.out,← HGV.out];exact CRH.out,.inr ⟨rfl,rfl,rfl,rfl⟩⟩);have hpk:u.per≤KC:=by
     have h1:=(comm_facts (p:=u.per.toNat) (q:=v.per.toNat) (by omega) (by omega)).1;have h2:=HK.out;have h3:=HORD.out;have h4:=(ord_b HUO.out HVO.out).c1;have h5:u.per.toNat≤ordC u v:=by
      have h6:ordC u v=comm u.per.toNat v.per.toNat:=rfl;rw [← h6] at h1;rcases Nat.eq_zero_or_pos (ordC u v / u.per.toNat) with h7|h7
      ·rw [h7] at h1;omega
      ·have:=Nat.mul_le_mul_right u.per.toNat h7;omega
     omega
    obtain⟨fm,hfm⟩:∃fm,fm=max 400 FR:=⟨_,rfl⟩
    rw [← hfm] at MH;have hmx:(if(400:Int)<(FR:Int) then (FR:Int) else 400)=(fm:Int):=by rw [hfm];split <;> omega
    have hfm9:fm≤920:=by omega
    clear hfm;go_wp2_with fail
    go_region
    all_goals
     go_wp2_with fail
     go_meet
     exact⟨fm,u.per,u.inc,rfl,rfl,rfl,rfl,MH,hfm9,by omega,by omega,hpk,by omega,by omega,VF.out.drew,VG.out.drew,E.out.drew⟩
  case rest=>
  clear E VF VG CRH HGU HGV gu gv gu0 gu1 gv0 gv1;clear f0 f1 f2 g0 g1 g2 p6 hlf;clear u0 u1 u2 hlu v0' v1 v2 hlv;obtain⟨fr,pe,ic,rfl,rfl,rfl,rfl,MH,hfr9,hpe1,hpe2,hpk,hic0,hic1,hF,hG,hE⟩:=hcut;have E:=hi_ hE;have VF:=hi_ hF;have VG:=hi_ hG;clear hE hF hG;obtain⟨NN,hNN⟩:∃NN:Nat,NN=fr+ordC u v:=⟨_,rfl⟩
  have hNK:(fr:Int)+KC=(NN:Int):=by have:=HORD.out;have:=HK.out;omega
  have hN9:NN≤1040:=by have:=HORD.out;have:=HC.out;omega
  have hNp:(fr:Int)+pe≤NN:=by omega
  have HNN:=hi_ hNN;clear hNN;obtain⟨⟨f0,f1,f2⟩,⟨g0,g1,g2⟩,p6,hlf⟩:=E.out.cells;obtain⟨u0,u1,u2,hlu⟩:=VF.out.cells;obtain⟨v0',v1,v2,hlv⟩:=VG.out.cells;go_upto_region 9 with fail
  go_cut [13,14] (fun s13 s14 wx=>∃q1 q2:Nat,s13 = .slice (some ⟨q1,0,none⟩) NN NN∧s14 = .slice (some ⟨q2,0,none⟩) NN NN∧RowI wx q1 (tab u.at 0 NN)∧RowI wx q2 (tab v.at 0 NN)∧Vx (w.heap.size+1) wx F U nu cu u∧CvEn w wx A n c a B m d b KC)
  case first=>
   clear hNK;have E:=hi_ E.out.drew;have VF:=hi_ VF.out.drew;have VG:=hi_ VG.out.drew;clear f0 f1 f2 g0 g1 g2 p6 hlf;clear u0 u1 u2 hlu v0' v1 v2 hlv;obtain⟨⟨f0,f1,f2⟩,⟨g0,g1,g2⟩,p6,hlf⟩:=E.out.cells;obtain⟨u0,u1,u2,hlu⟩:=VF.out.cells;obtain⟨v0',v1,v2,hlv⟩:=VG.out.cells;refine wp_region_held_drew (S:=(fun w'=>w'.cell? ⟨w.heap.size,6,none⟩=some (.int .i64 KC)∧w'.cell? ⟨F,0,none⟩=some (.slice U nu cu)∧w'.cell? ⟨F,1,none⟩=some (.int .i64 u.per)∧w'.cell? ⟨F,2,none⟩=some (.int .i64 u.inc)∧w'.cell? ⟨G,0,none⟩=some (.slice V nv cv)∧w'.cell? ⟨G,1,none⟩=some (.int .i64 v.per)∧w'.cell? ⟨G,2,none⟩=some (.int .i64 v.inc))) (by kernel_rfl) ⟨p6,u0,u1,u2,v0',v1,v2⟩ (fun hHeld=>?_);generalize hwd:wc.drew=wd at *;clear hwd;refine tkO [0,1,3,4] ?_;(iterate 4 refine tkI ?_);refine tkX ?_;refine rdy2 2 (fun K hK=>?_);go_simp
   refine(table_any U nu cu u.per u.inc NN u.vals _ (by exact VF.out.all) (by exact HUO.out) (by omega)).mono ?_;rintro e wa ⟨q1',rfl,hT,hq1',hbq⟩;have T1:=hi_ hT;clear hT;have E:=hi_ (E.out.below hbq);have VF:=hi_ (VF.out.below hbq);have VG:=hi_ (VG.out.below hbq);clear hbq hHeld;clear f0 f1 f2 g0 g1 g2 p6 hlf;clear u0 u1 u2 hlu v0' v1 v2 hlv;obtain⟨⟨f0,f1,f2⟩,⟨g0,g1,g2⟩,p6,hlf⟩:=E.out.cells;obtain⟨u0,u1,u2,hlu⟩:=VF.out.cells;obtain⟨v0',v1,v2,hlv⟩:=VG.out.cells;refine bkS hK (by exact⟨p6,u0,u1,u2,v0',v1,v2⟩) (fun hHeld=>?_);clear hK K;refine rdy2 5 (fun K hK=>?_);go_simp
   refine(table_any V nv cv v.per v.inc NN v.vals _ (by exact VG.out.all) (by exact HVO.out) (by omega)).mono ?_;rintro e wb ⟨q2',rfl,hT,hq2',hbq⟩;have T2:=hi_ hT;clear hT;have T1:=hi_ (T1.out.below hbq T1.out.lt);have E:=hi_ (E.out.below hbq);have VF:=hi_ (VF.out.below hbq);have VG:=hi_ (VG.out.below hbq);clear hbq hHeld;clear f0 f1 f2 g0 g1 g2 p6 hlf;clear u0 u1 u2 hlu v0' v1 v2 hlv;obtain⟨⟨f0,f1,f2⟩,⟨g0,g1,g2⟩,p6,hlf⟩:=E.out.cells;obtain⟨u0,u1,u2,hlu⟩:=VF.out.cells;obtain⟨v0',v1,v2,hlv⟩:=VG.out.cells;refine bkS hK (by exact⟨p6,u0,u1,u2,v0',v1,v2⟩) (fun hHeld=>?_);clear hK K;refine tkO [6,7] ?_;(iterate 2 refine tkI ?_);refine tkX ?_;refine dnH ?_;go_wp2_with fail
   go_meet
   exact⟨q1',q2',rfl,rfl,T1.out,T2.out,VF.out,E.out⟩
  case rest=>
  clear E VF VG hNK;clear f0 f1 f2 g0 g1 g2 p6 hlf;clear u0 u1 u2 hlu v0' v1 v2 hlv;obtain⟨q1',q2',rfl,rfl,hT1,hT2,hF,hE⟩:=hcut;have E:=hi_ hE;have VF:=hi_ hF;have T1:=hi_ hT1;have T2:=hi_ hT2;clear hE hF hT1 hT2;obtain⟨i0,hi0,hz0,hy1,hy2⟩:=info_parts info_int;have hlw:=E.out.rb.lt;go_upto_region 11 with (at_make;refine wpList_make_full _ rfl _ _ 22 rfl wc.heap.size 3 i0 _ 1 Tryz.underlying22 hi0 hz0 hy1 .i64 .i64 _ _ NN rfl rfl rfl rfl (by rw [hy2];omega) (by unfold maxLen;omega) (by simp) ?_;intro w5 own1 grow1)
  have hb5:Below wc.heap.size wc w5:=(Below.refl _ _).grown grow1 (by simp) (by simp);have SM:=hi_ ((own_zeros2 own1).alloc (.cells #[.slice (some ⟨wc.heap.size,0,none⟩) NN NN] 22));have QB:=hi_ (Blk.new w5 22 #[.slice (some ⟨wc.heap.size,0,none⟩) NN NN]);have hq5:wc.heap.size<w5.heap.size:=(own_zeros2 own1).lt;have hq1l:=T1.out.lt;have hq2l:=T2.out.lt;have hfl:=Blk.lt VF.out.blk;have E:=hi_ ((E.out.below hb5).alloc (.cells #[.slice (some ⟨wc.heap.size,0,none⟩) NN NN] 22));have VF:=hi_ ((VF.out.below hb5).below (balloc w5 (.cells #[.slice (some ⟨wc.heap.size,0,none⟩) NN NN] 22)));have T1:=hi_ ((T1.out.below hb5 T1.out.lt).alloc (.cells #[.slice (some ⟨wc.heap.size,0,none⟩) NN NN] 22));have T2:=hi_ ((T2.out.below hb5 T2.out.lt).alloc (.cells #[.slice (some ⟨wc.heap.size,0,none⟩) NN NN] 22));clear hi0 hz0 hy1 hy2 own1 grow1 hb5;generalize hwe:w5.alloc (.cells #[.slice (some ⟨wc.heap.size,0,none⟩) NN NN] 22)=w6 at *;clear hwe;generalize wc.heap.size=gv at *;generalize w5.heap.size=Q at *;obtain⟨u0,u1,u2,hlu⟩:=VF.out.cells;go_wp2_with fail
  refine(start_any U nu cu u.per u.inc _ (by omega) (by omega) (by omega)).mono ?_;obtain⟨su,hsu⟩:∃su:Nat,su=nu-u.per.toNat:=⟨_,rfl⟩
  rw [show(nu:Int)-u.per=(su:Int) by omega];have HSU:=hi_ (show su=u.vals.length-u.per.toNat from by rw [UL.out];exact hsu);have hsuf:su≤fr:=by
   have h1:=FRH.out;have h2:=HSU.out;rcases MH.out.2 with ⟨_,h3,_⟩|⟨_,h3,_⟩
   ·omega
   ·omega
  clear hsu;rintro e w7 ⟨rfl,hbq⟩;replace E:=hi_ (E.out.below hbq);replace VF:=hi_ (VF.out.below hbq);replace T1:=hi_ (T1.out.below hbq T1.out.lt);replace T2:=hi_ (T2.out.below hbq T2.out.lt);replace SM:=hi_ (SM.out.below hbq SM.out.lt);replace QB:=hi_ (QB.out.below hbq QB.out.lt);clear hbq u0 u1 u2 hlu VF;obtain⟨h,hh⟩:=cvF_exists u v;have HH:=hi_ hh;clear hh;obtain⟨w0',hlq⟩:_∧_:=⟨QB.out.cell 0,QB.out.lt⟩
  simp at w0';go_wp2_with fail
  clear w0' hlq;go_loopg [98] NN (fun gg s98 wx=>∃(t:Nat) (vs:List Int),t+gg=NN∧s98 = .int .i64 t∧UpTo h vs NN t∧Hid (cr=true→∀x,fr≤x→x<t→CvI u v su x (x+1) (h x))∧RowI wx gv vs∧Blk wx Q 22 #[.slice (some ⟨gv,0,none⟩) NN NN]∧RowI wx q1' (tab u.at 0 NN)∧RowI wx q2' (tab v.at 0 NN)∧CvEn w wx A n c a B m d b KC)
  case atStart=>exact⟨0,_,by omega,rfl,⟨by simp,fun x hx=>by omega⟩,hi_ (fun _ x _ hx=>by omega),SM.out,QB.out,T1.out,T2.out,E.out⟩
  case round=>
   clear SM QB T1 T2 E;obtain⟨t,vs,htg,rfl,hu,HAT,hR,hV,hT1,hT2,hE⟩:=hrel;have SM:=hi_ hR;have QB:=hi_ hV;have T1:=hi_ hT1;have T2:=hi_ hT2;have E:=hi_ hE;have HU:=hi_ hu;clear hR hV hT1 hT2 hE hu;by_cases ht:t<NN
   ·have hti:(t:Int)<NN:=by omega
    have ht0:0≤(t:Int):=by omega
    go_upto_region 15 with fail
    go_cut [] (fun wx=>RowI wx gv (vs.set t (h t))∧Blk wx Q 22 #[.slice (some ⟨gv,0,none⟩) NN NN]∧RowI wx q1' (tab u.at 0 NN)∧RowI wx q2' (tab v.at 0 NN)∧CvEn w wx A n c a B m d b KC)
    case first=>
     have E:=hi_ E.out.drew;have QB:=hi_ (Blk.drew QB.out);have T1:=hi_ (RowI.drew T1.out);have T2:=hi_ (RowI.drew T2.out);have SM:=hi_ (RowI.drew SM.out)
     try clear w0' hlq
     obtain⟨w0',hlq⟩:_∧_:=⟨QB.out.cell 0,QB.out.lt⟩
     simp at w0';refine wp_region_held_drew (S:=(fun w'=>w'.cell? ⟨Q,0,none⟩=some (.slice (some ⟨gv,0,none⟩) NN NN))) (by kernel_rfl) w0' (fun hHeld=>?_);generalize hwd:wr.drew=wd at *;clear hwd;refine tkO [0,1,2,3,4,5] ?_;(iterate 6 refine tkI ?_);refine tkX ?_;refine rdy2 6 (fun K hK=>?_);go_simp
     have l0:=cvleast_any q1' q2' NN u v t 0 wd T1.out T2.out HUO.out HVO.out ht (by omega) (Nat.zero_le _);rw [show((0:Nat):Int)=0 from rfl] at l0;refine l0.mono ?_;clear l0;rintro e wa ⟨x,hx,hx0,hx1,rfl,hbq⟩;have HX:=hi_ (show h t=x from(HH.out t).unique hx);clear hx;have E:=hi_ (E.out.below hbq);have QB:=hi_ (QB.out.below hbq QB.out.lt);have T1:=hi_ (T1.out.below hbq T1.out.lt);have T2:=hi_ (T2.out.below hbq T2.out.lt);have SM:=hi_ (SM.out.below hbq SM.out.lt);clear hbq hHeld;clear w0' hlq;obtain⟨w0',hlq⟩:_∧_:=⟨QB.out.cell 0,QB.out.lt⟩
     simp at w0';refine bkS hK (by exact w0') (fun hHeld=>?_);clear hK K;refine tk1 7 ?_;have s0:=SM.out.cell t (by rw [HU.out.1];exact ht);have z0:=SM.out.frozen t;have hls:=SM.out.lt;refine rdy2 8 (fun K hK=>?_);go_simp
     have SM2:=SM.out.set_ t (by rw [HU.out.1];exact ht) x;rw [← HX.out] at SM2;have E:=hi_ (E.out.set (show w.heap.size+1<gv by omega) t (.int .i64 x));have QB:=hi_ (QB.out.far (p:=⟨gv,t,none⟩) (by show Q≠gv;omega) (.int .i64 x));have T1:=hi_ (T1.out.far (p:=⟨gv,t,none⟩) (by show q1'≠gv;omega) (.int .i64 x));have T2:=hi_ (T2.out.far (p:=⟨gv,t,none⟩) (by show q2'≠gv;omega) (.int .i64 x));rw [HX.out] at SM2;have SM:=hi_ SM2;clear SM2 hHeld s0 z0 hls;clear w0' hlq;generalize hws:wa.setCell ⟨gv,t,none⟩ (.int .i64 x)=ws at *;clear hws;obtain⟨w0',hlq⟩:_∧_:=⟨QB.out.cell 0,QB.out.lt⟩
     simp at w0';refine bkS hK (by exact w0') (fun hHeld=>?_);clear hK K;refine dnH ?_;have SM:=hi_ (show RowI ws gv (vs.set t (h t)) from by rw [HX.out];exact SM.out);clear hHeld;go_wp2_with fail
     go_meet
     exact⟨SM.out,QB.out,T1.out,T2.out,E.out⟩
    case rest=>
    clear SM QB T1 T2 E;obtain⟨hR,hV,hT1,hT2,hE⟩:=hcut;have SM:=hi_ hR;have QB:=hi_ hV;have T1:=hi_ hT1;have T2:=hi_ hT2;have E:=hi_ hE;have HU2:=hi_ (HU.out.step ht);clear hR hV hT1 hT2 hE HU;cases cr
    case false=>
     obtain⟨w0',hlq⟩:_∧_:=⟨QB.out.cell 0,QB.out.lt⟩
     simp at w0';go_upto_region 16 with fail
     have E:=hi_ E.out.drew;have QB:=hi_ (Blk.drew QB.out);have T1:=hi_ (RowI.drew T1.out);have T2:=hi_ (RowI.drew T2.out);have SM:=hi_ (RowI.drew SM.out)
     try clear w0' hlq
     obtain⟨w0',hlq⟩:_∧_:=⟨QB.out.cell 0,QB.out.lt⟩
     simp at w0';refine wp_region_held_drew (S:=(fun w'=>w'.cell? ⟨Q,0,none⟩=some (.slice (some ⟨gv,0,none⟩) NN NN))) (by kernel_rfl) w0' (fun hHeld=>?_);generalize hwd:wc.drew=wd at *;clear hwd;refine tkO [0,1,2,3,4,5,6,7,8,9,10,11,12,13,14,15,16,17,18] ?_;(iterate 2 refine tkI ?_);(iterate 3 refine tkJ ?_);(iterate 2 refine tkI ?_);(iterate 11 refine tkJ ?_);refine tkI ?_;refine tkX ?_;refine dnH ?_;clear hHeld;clear w0' hlq;go_wp2_with fail
     go_roundg (gk-1)
     case measure=>omega
     case rel=>exact⟨t+1,_,by omega,by go_num,HU2.out,hi_ (fun hc=>by cases hc),SM.out,QB.out,T1.out,T2.out,E.out⟩
    case true=>
     have HCR:=hi_ (show true=true from rfl);by_cases hft:fr≤t
     ·have hfti:(fr:Int)≤t:=by omega
      obtain⟨w0',hlq⟩:_∧_:=⟨QB.out.cell 0,QB.out.lt⟩
      simp at w0';go_upto_region 16 with fail
      have s0:=SM.out.cell t (by rw [HU2.out.1];exact ht);rw [HU2.out.2 t (by omega)] at s0;obtain⟨y,hy⟩:∃y,y=h t:=⟨_,rfl⟩
      rw [← hy] at s0;have HY:=hi_ hy;clear hy;have E:=hi_ E.out.drew;have QB:=hi_ (Blk.drew QB.out);have T1:=hi_ (RowI.drew T1.out);have T2:=hi_ (RowI.drew T2.out);have SM:=hi_ (RowI.drew SM.out);refine wp_region_held_drew (S:=(fun w'=>w'.cell? ⟨Q,0,none⟩=some (.slice (some ⟨gv,0,none⟩) NN NN)∧w'.cell? ⟨gv,t,none⟩=some (.int .i64 y))) (by kernel_rfl) ⟨w0',s0⟩ (fun hHeld=>?_);clear w0' hlq;generalize hwd:wc.drew=wd at *;clear hwd;refine tkO [0,1,2,3,4,5,6,7,8,9,10,11,13,14,15,16] ?_;(iterate 16 refine tkI ?_);refine tkX ?_;refine rdy2 12 (fun K hK=>?_);go_simp
      refine(cvleast_any q1' q2' NN u v t su wd T1.out T2.out HUO.out HVO.out ht (by omega) (by omega)).mono ?_;rintro e wa ⟨x,hx,hx0,hx1,rfl,hbq⟩;have HX:=hi_ hx;clear hx s0;have E:=hi_ (E.out.below hbq);have QB:=hi_ (QB.out.below hbq QB.out.lt);have T1:=hi_ (T1.out.below hbq T1.out.lt);have T2:=hi_ (T2.out.below hbq T2.out.lt);have SM:=hi_ (SM.out.below hbq SM.out.lt);clear hbq hHeld;obtain⟨w0',hlq⟩:_∧_:=⟨QB.out.cell 0,QB.out.lt⟩
      simp at w0';have s0:=SM.out.cell t (by rw [HU2.out.1];exact ht);rw [HU2.out.2 t (by omega),← HY.out] at s0;refine bkS hK (by exact⟨w0',s0⟩) (fun hHeld=>?_);clear hK K;by_cases hlt:y<x
      ·refine tkO [17,18] ?_;(iterate 2 refine tkI ?_);refine tkX ?_;refine dnH ?_;have F:=hi_ (show CvoS a b Cv.none 3 from uv_none HUV.out HA.out HB.out HH.out MH.out FRH.out HCR.out hft (by omega) (by rw [← HSU.out];exact HX.out) (by rw [← HY.out];exact hlt));clear hHeld hlt s0;obtain⟨⟨r0,r1,r2⟩,⟨y0,y1,y2⟩,hlr⟩:=E.out.rb.c3;go_wp2_with fail
       have rb:=E.out.rb.store3 (.slice none 0 0) (.int .i64 0) (.int .i64 0)
       try rw [Exit.noGoto_ret]
       exact bodyPost_ret (v:=.tuple #[.agg #[.slice none 0 0,.int .i64 0,.int .i64 0],.int .i64 3]) (by simp [results,Tryz.results40,go_sem,rb.cell]) rfl
        ⟨Cv.none,3,F.out,none,0,0,Nat.le_refl 0,rfl,Ints.none_,(fun b off s h=>by cases h),((E.out.bw.setCell (by simp) _).setCell (by simp) _).setCell (by simp) _⟩
      ·refine tkO [17,18] ?_;(iterate 2 refine tkI ?_);refine tkX ?_;refine dnH ?_;have HT2:=hi_ (show true=true→∀x,fr≤x→x<t+1→CvI u v su x (x+1) (h x) from fun hc z h1 h2=>by
        rcases Nat.lt_or_ge z t with h3|h3
        ·exact HAT.out hc z h1 h3
        ·obtain rfl:z=t:=by omega
         exact uv_hat HUO.out HVO.out HH.out (by omega) HX.out (by rw [← HY.out];omega))
       clear hHeld hlt s0;clear w0' hlq;go_wp2_with fail
       go_roundg (gk-1)
       case measure=>omega
       case rel=>exact⟨t+1,_,by omega,by go_num,HU2.out,HT2,SM.out,QB.out,T1.out,T2.out,E.out⟩
     ·have hfti:¬(fr:Int)≤t:=by omega
      have HT2:=hi_ (show true=true→∀x,fr≤x→x<t+1→CvI u v su x (x+1) (h x) from fun hc z h1 h2=>HAT.out hc z h1 (by omega));obtain⟨w0',hlq⟩:_∧_:=⟨QB.out.cell 0,QB.out.lt⟩
      simp at w0';go_upto_region 16 with fail
      have E:=hi_ E.out.drew;have QB:=hi_ (Blk.drew QB.out);have T1:=hi_ (RowI.drew T1.out);have T2:=hi_ (RowI.drew T2.out);have SM:=hi_ (RowI.drew SM.out)
      try clear w0' hlq
      obtain⟨w0',hlq⟩:_∧_:=⟨QB.out.cell 0,QB.out.lt⟩
      simp at w0';refine wp_region_held_drew (S:=(fun w'=>w'.cell? ⟨Q,0,none⟩=some (.slice (some ⟨gv,0,none⟩) NN NN))) (by kernel_rfl) w0' (fun hHeld=>?_);generalize hwd:wc.drew=wd at *;clear hwd;refine tkO [0,1,2,3,4,5,6,7,8,9,10,11,12,13,14,15,16,17,18] ?_;(iterate 7 refine tkI ?_);(iterate 11 refine tkJ ?_);refine tkI ?_;refine tkX ?_;refine dnH ?_;clear hHeld;clear w0' hlq;go_wp2_with fail
      go_roundg (gk-1)
      case measure=>omega
      case rel=>exact⟨t+1,_,by omega,by go_num,HU2.out,HT2,SM.out,QB.out,T1.out,T2.out,E.out⟩
   ·have htn:NN=t:=by omega
    subst htn;clear ht htg;have hrw:=E.out.rb.lt;go_wp2_with fail
    refine(buildK_any 98 #[.pointer (some ⟨Q,0,none⟩)] (fr:Int) pe ic h _ (by omega) (by omega) (by omega) (by omega) (by omega) (by omega)
     (fun k hk=>cv_small HUO.out HVO.out HH.out (by omega))
     (hi_ fun x w1 hx hb=>cvof1_any Q gv NN h vs x w1 (QB.out.below hb QB.out.lt) (SM.out.below hb SM.out.lt) HU.out (by omega)) (fun x w=>by kernel_rfl)).mono ?_
    rintro e w5 ⟨f,er,hS,A5,n5,c5,hc5,rfl,hI5,hA5,hb⟩;rw [Int.toNat_natCast] at hS;have F:=hi_ (show CvoS a b f er from uv_made HUV.out HA.out HB.out HH.out MH.out FRH.out (by rw [HORD.out];exact HC.out)
     (fun hc z h1 h2=>by rw [← HSU.out];exact HAT.out hc z h1 (by rw [HNN.out];exact h2)) hS)
    have E:=hi_ (E.out.below hb);have HI5:=hi_ hI5;have HA5:=hi_ hA5;clear hS hI5 hA5 hb;obtain⟨⟨r0,r1,r2⟩,⟨y0,y1,y2⟩,hlr⟩:=E.out.rb.c3;go_wp2_with fail
    have rb:=E.out.rb.store3 (.slice A5 n5 c5) (.int .i64 f.per) (.int .i64 f.inc);refine bodyPost_ret (v:=.tuple #[.agg #[.slice A5 n5 c5,.int .i64 f.per,.int .i64 f.inc],.int .i64 er]) (by simp [results,Tryz.results40,go_sem,rb.cell]) rfl ?_;exact⟨f,er,F.out,retK_store3' hc5 HA5.out (by omega) (by exact hrw) HI5.out E.out.bw⟩
end
section
open Go.RowKit
theorem CvS.of{f g a b:Cv}(hf:f.Ok)(hg:g.Ok)(ha:NF f.at a)(hb:NF g.at b)(hc:ordC a b≤120){r:Cv}{er:Int}(h:CvoS a b r er):CvS f g r er:=.inr ⟨hf,hg,a,b,ha,hb,.inr ⟨hc,h⟩⟩
end
section
open Go.RowKit
def cvH(a b h:Cv):Nat:=max (cst a+cst b) (cst h)+ordC a b
def RepQ(a b:Cv)(q:Int)(t s:Nat):Prop:=(a.Fin∧gnA a b=q∧cst a≤s)∨(b.Fin∧gnB a b=q∧cst b≤t-s)
def Rep(a b h:Cv)(t s:Nat):Prop:=RepQ a b (gnl h (ordC a b)) t s
def SpOk(a b h:Cv)(t s:Nat):Prop:=s≤t∧pl (a.at s) (b.at (t-s))=h.at t∧(t<cvH a b h∨h.at t=inf∨Rep a b h t s)
open Classical in
noncomputable def slopeC(a b:Cv):Int:=if a.Fin then (if b.Fin then min (gnA a b) (gnB a b) else gnA a b) else (if b.Fin then gnB a b else inf)
section
variable{a b h:Cv}
theorem slopeC_ff(fa:a.Fin)(fb:b.Fin):slopeC a b=min (gnA a b) (gnB a b):=by unfold slopeC;rw [if_pos fa,if_pos fb]
theorem slopeC_fi(fa:a.Fin)(fb:¬b.Fin):slopeC a b=gnA a b:=by unfold slopeC;rw [if_pos fa,if_neg fb]
theorem slopeC_if(fa:¬a.Fin)(fb:b.Fin):slopeC a b=gnB a b:=by unfold slopeC;rw [if_neg fa,if_pos fb]
theorem pl_csp(ha:a.Ok)(hb:b.Ok){t s:Nat}(ht:t≤2000)(h:CSp a b t s):pl (a.at s) (b.at (t-s))=a.at s+b.at (t-s):=by
 have h0:=h.1;unfold pl;rw [if_neg];rintro (e|e)
 ·exact h.2.1 ((nfa_at ha (by omega)).1 e)
 ·exact h.2.2 ((nfa_at hb (by omega)).1 e)
theorem pl_not(ha:a.Ok)(hb:b.Ok){t s:Nat}(ht:t≤2000)(hs:s≤t)(h:¬CSp a b t s):pl (a.at s) (b.at (t-s))=inf:=by
 unfold pl;rw [if_pos];refine Classical.byContradiction fun k=>h ⟨hs,fun e=>k (.inl e.2),fun e=>k (.inr e.2)⟩
theorem cp_ii(ha:a.Ok)(hb:b.Ok)(fa:¬a.Fin)(fb:¬b.Fin){D:Nat→Int}(H:CvF a b D){t:Nat}(ht:cst a+cst b≤t):D t=inf:=by
 refine(H t).unique (CvT.none fun u hu=>?_);unfold cst at ht;rcases Nat.lt_or_ge u (a.vals.length-a.per.toNat) with k|k
 ·exact hu.2.2 (hb.infAt_start (notfin_inf hb fb) (by omega))
 ·exact hu.2.1 (ha.infAt_start (notfin_inf ha fa) k)
theorem gnA_fi(ha:a.Ok)(hb:b.Ok)(fb:¬b.Fin):ordC a b=a.per.toNat∧gnA a b=a.inc:=gn_of_inf ha hb (notfin_inf hb fb)
theorem att_high(fa:a.Fin)(fb:b.Fin)(hG:gnA a b<gnB a b)(fh:h.Fin)(H:CvF a b h.at){t:Nat}(ht:cvH a b h≤t):Att a.at b.at (cst a) t (h.at t):=by
 have hp:=fh.1.p1;unfold cvH at ht;exact att_of_per (gnA_per fa fb.1 (s:=cst a) (Nat.le_refl _)) (gnB_per fa.1 fb (s:=cst b) (Nat.le_refl _)) hG (cvF_fin fa fb H) (q:=h.per.toNat) (S:=cst h) (by omega) fh.toL.step (by omega) (by omega)
theorem cp_ff_per(fa:a.Fin)(fb:b.Fin)(hG:gnA a b<gnB a b)(fh:h.Fin)(H:CvF a b h.at):∃T,Per h.at T (ordC a b) (gnA a b):=by
 refine⟨cvH a b h,att_per (gnA_per fa fb.1 (s:=cst a) (Nat.le_refl _)) (gnB_per fa.1 fb (s:=cst b) (Nat.le_refl _)) hG (cvF_fin fa fb H) (gnA_per fa fb.1 (s:=cst a) (Nat.le_refl _)) (by unfold cvH;omega) fun t ht=>att_high fa fb hG fh H ht⟩
theorem cp_per(ha:a.Ok)(hb:b.Ok)(fh:h.Fin)(H:CvF a b h.at):∃T,Per h.at T (ordC a b) (slopeC a b):=by
 by_cases fa:a.Fin
 ·by_cases fb:b.Fin
  ·rw [slopeC_ff fa fb];rcases (show gnA a b=gnB a b∨gnA a b<gnB a b∨gnB a b<gnA a b by omega) with k|k|k
   ·have h2:=gnB_per fa.1 fb (s:=cst b) (Nat.le_refl _);rw [← k] at h2;rw [show min (gnA a b) (gnB a b)=gnA a b by omega];exact⟨_,conv_eq (gnA_per fa fb.1 (s:=cst a) (Nat.le_refl _)) h2 (cvF_fin fa fb H)⟩
   ·rw [show min (gnA a b) (gnB a b)=gnA a b by omega];exact cp_ff_per fa fb k fh H
   ·rw [show min (gnA a b) (gnB a b)=gnB a b by omega];have:=cp_ff_per fb fa (by rw [gnA_swap ha hb,gnB_swap ha hb];exact k) fh H.symm
    rwa [ordC_symm hb ha,gnA_swap ha hb] at this
  ·rw [slopeC_fi fa fb,(gnA_fi ha hb fb).1,(gnA_fi ha hb fb).2];exact⟨_,cv_one fa hb (notfin_inf hb fb) H (fin_at_ne fh (by omega))⟩
 ·by_cases fb:b.Fin
  ·rw [slopeC_if fa fb,← gnA_swap ha hb,ordC_symm ha hb,(gnA_fi hb ha fa).1,(gnA_fi hb ha fa).2];exact⟨_,cv_one fb ha (notfin_inf ha fa) H.symm (fin_at_ne fh (by omega))⟩
  ·have h1:=cst_le ha;have h2:=cst_le hb;exact absurd (cp_ii ha hb fa fb H (Nat.le_refl _)) (fin_at_ne fh (by omega))
theorem cp_gnl(ha:a.Ok)(hb:b.Ok)(fh:h.Fin)(hn:NF h.at h)(H:CvF a b h.at):h.per.toNat∣ordC a b∧gnl h (ordC a b)=slopeC a b:=by
 obtain⟨T,hT⟩:=cp_per ha hb fh H;have hc:=(ord_b ha hb).c1;have hd:=hn.per_dvd hc hT;refine⟨hd,?_⟩
 have q2:=fh.toL.step.mul (ordC a b / h.per.toNat);rw [Nat.div_mul_cancel hd] at q2;have q3:=hT (max T (h.vals.length-h.per.toNat)) (by omega);have q4:=q2 (max T (h.vals.length-h.per.toNat)) (by omega);unfold gnl;omega
theorem cvH_symm(ha:a.Ok)(hb:b.Ok):cvH a b h=cvH b a h:=by unfold cvH;rw [ordC_symm ha hb];omega
theorem cp_rep(ha:a.Ok)(hb:b.Ok)(fh:h.Fin)(hn:NF h.at h)(H:CvF a b h.at){t:Nat}(ht:cvH a b h≤t):∃s,CSp a b t s∧h.at t=a.at s+b.at (t-s)∧Rep a b h t s:=by
 have hg:=(cp_gnl ha hb fh hn H).2;have hT:cst a+cst b≤t:=by unfold cvH at ht;omega
 have sp:(∃s,CSp a b t s)→∃s,CSp a b t s∧h.at t=a.at s+b.at (t-s):=by
  rintro⟨s,hs⟩;rcases (H t).cases with ⟨h1,_⟩|⟨h1,_⟩
  ·exact absurd hs (h1 s)
  ·exact h1
 by_cases fa:a.Fin
 ·by_cases fb:b.Fin
  ·rw [slopeC_ff fa fb] at hg;have cs:∀s,s≤t→CSp a b t s:=fun s hs=>⟨hs,fa.not_infAt _,fb.not_infAt _⟩
   rcases (show gnA a b=gnB a b∨gnA a b<gnB a b∨gnB a b<gnA a b by omega) with k|k|k
   ·obtain⟨s,h1,h2⟩:=sp ⟨t,cs t (Nat.le_refl _)⟩;refine⟨s,h1,h2,?_⟩
    rcases Nat.lt_or_ge s (cst a) with q|q
    ·exact .inr ⟨fb,by omega,by omega⟩
    ·exact .inl ⟨fa,by omega,q⟩
   ·obtain⟨s,h1,h2,h3⟩:=att_high fa fb k fh H ht;exact⟨s,cs s h2,h3,.inl ⟨fa,by omega,h1⟩⟩
   ·obtain⟨s,h1,h2,h3⟩:=att_high fb fa (by rw [gnA_swap ha hb,gnB_swap ha hb];exact k) fh H.symm (by rw [cvH_symm hb ha];exact ht);refine⟨t-s,cs _ (by omega),by rw [show t-(t-s)=s by omega];omega,.inr ⟨fb,by omega,by omega⟩⟩
  ·rw [slopeC_fi fa fb] at hg;have h0:¬b.infAt 0:=fun e=>by
    refine absurd ((H 0).unique (CvT.none fun s hs=>hs.2.2 ?_)) (fin_at_ne fh (by omega));exact e.later hb (Nat.zero_le _)
   obtain⟨s,h1,h2⟩:=sp ⟨t,Nat.le_refl _,fa.not_infAt _,by rw [Nat.sub_self];exact h0⟩;refine⟨s,h1,h2,.inl ⟨fa,by omega,?_⟩⟩
   rcases Nat.lt_or_ge s (cst a) with q|q
   ·exact absurd (hb.infAt_start (notfin_inf hb fb) (by unfold cst at *;omega)) h1.2.2
   ·exact q
 ·by_cases fb:b.Fin
  ·rw [slopeC_if fa fb] at hg;have h0:¬a.infAt 0:=fun e=>by
    refine absurd ((H 0).unique (CvT.none fun s hs=>hs.2.1 ?_)) (fin_at_ne fh (by omega));exact e.later ha (Nat.zero_le _)
   obtain⟨s,h1,h2⟩:=sp ⟨0,Nat.zero_le _,h0,fb.not_infAt _⟩;refine⟨s,h1,h2,.inr ⟨fb,by omega,?_⟩⟩
   have hs:=h1.1;rcases Nat.lt_or_ge (t-s) (cst b) with q|q
   ·exact absurd (ha.infAt_start (notfin_inf ha fa) (by unfold cst at *;omega)) h1.2.1
   ·exact q
  ·have h1:=cst_le ha;have h2:=cst_le hb;exact absurd (cp_ii ha hb fa fb H (Nat.le_refl _)) (fin_at_ne fh (by omega))
theorem cp_split(ha:a.Ok)(hb:b.Ok)(hh:h.Ok)(hn:NF h.at h)(H:CvF a b h.at){t:Nat}(ht:t≤2000):∃s,SpOk a b h t s:=by
 by_cases hi:h.at t=inf
 ·refine⟨0,Nat.zero_le _,?_,.inr (.inl hi)⟩
  rw [hi];refine pl_not ha hb ht (Nat.zero_le _) ?_;rcases cv_bd ha hb H ht with ⟨h1,_⟩|h1
  ·exact h1 0
  ·unfold inf at hi;omega
 ·rcases Nat.lt_or_ge t (cvH a b h) with k|k
  ·rcases (H t).cases with ⟨_,h1⟩|⟨⟨s,h1,h2⟩,_⟩
   ·exact absurd h1 hi
   ·exact⟨s,h1.1,by rw [pl_csp ha hb ht h1,h2],.inl k⟩
  ·have fh:h.Fin:=by
    rcases hh.fin_or with k1|k1
    ·exact k1
    ·exact absurd (hh.infAt_start k1 (by unfold cvH cst at k;omega)).2 hi
   obtain⟨s,h1,h2,h3⟩:=cp_rep ha hb fh hn H k;exact⟨s,h1.1,by rw [pl_csp ha hb ht h1,h2],.inr (.inr h3)⟩
theorem cp_below(ha:a.Ok)(hb:b.Ok)(H:CvF a b h.at){s u:Nat}(ht:s+u≤2000):h.at (s+u)≤pl (a.at s) (b.at u):=by
 have e:s+u-s=u:=by omega
 by_cases hc:CSp a b (s+u) s
 ·have:=pl_csp ha hb ht hc
  rw [e] at this;rw [this];rcases (H (s+u)).cases with ⟨h1,_⟩|⟨_,h1⟩
  ·exact absurd hc (h1 s)
  ·have:=h1 s hc
   rwa [e] at this
 ·have:=pl_not ha hb ht (Nat.le_add_right _ _) hc
  rw [e] at this;rw [this];have:=(cv_small ha hb H ht).2
  unfold inf;omega
def RightS(a b h:Cv):Prop:=(h.Fin↔(a.Fin∨b.Fin)∧nth a.vals 0≠inf∧nth b.vals 0≠inf)∧(h.Fin→h.per.toNat∣ordC a b∧gnl h (ordC a b)=slopeC a b)
theorem at0(ha:a.Ok):a.at 0=nth a.vals 0:=Cv.at_lt (by have:=ha.n1;omega)
theorem cp_fin(ha:a.Ok)(hb:b.Ok)(hh:h.Ok)(H:CvF a b h.at):h.Fin↔(a.Fin∨b.Fin)∧nth a.vals 0≠inf∧nth b.vals 0≠inf:=by
 have s1:=cst_le ha;have s2:=cst_le hb;constructor
 ·intro fh;refine⟨?_,fun e=>?_,fun e=>?_⟩
  ·refine Classical.byContradiction fun k=>?_
   exact absurd (cp_ii ha hb (fun h=>k (.inl h)) (fun h=>k (.inr h)) H (Nat.le_refl _)) (fin_at_ne fh (by omega))
  ·rw [← at0 ha] at e;exact absurd ((H 0).unique (CvT.none fun s hs=>hs.2.1 (((nfa_at ha (by omega)).1 e).later ha (Nat.zero_le _)))) (fin_at_ne fh (by omega))
  ·rw [← at0 hb] at e;exact absurd ((H 0).unique (CvT.none fun s hs=>hs.2.2 (((nfa_at hb (by omega)).1 e).later hb (Nat.zero_le _)))) (fin_at_ne fh (by omega))
 ·rintro⟨h1,h2,h3⟩;refine hh.fin_or.resolve_right fun ih=>?_
  have hi:=(hh.infAt_start ih (Nat.le_refl _)).2;have hs:=cst_le hh;unfold cst at hs;rw [← at0 ha] at h2;rw [← at0 hb] at h3;rcases cv_bd ha hb H (t:=h.vals.length-h.per.toNat) (by omega) with ⟨k,_⟩|k
  ·rcases h1 with fa|fb
   ·exact k _ ⟨Nat.le_refl _,fa.not_infAt _,by rw [Nat.sub_self];exact fun e=>h3 e.2⟩
   ·exact k 0 ⟨Nat.zero_le _,fun e=>h2 e.2,fb.not_infAt _⟩
  ·unfold inf at hi;omega
theorem cp_right(ha:a.Ok)(hb:b.Ok)(hh:h.Ok)(hn:NF h.at h)(H:CvF a b h.at):RightS a b h:=⟨cp_fin ha hb hh H,fun fh=>cp_gnl ha hb fh hn H⟩
def BelowS(a b h:Cv):Prop:=∀s u,s<max (cst a) (cst h)+ordC a b→u<max (cst b) (cst h)+ordC a b→h.at (s+u)≤pl (a.at s) (b.at u)
def AttS(a b h:Cv)(fr:Int)(cs:List Int):Prop:=fr=(cvH a b h:Nat)∧cs.length=cvH a b h+ordC a b∧∀t,t<cs.length→0≤nth cs t∧SpOk a b h t (nth cs t).toNat
def CertC(a b h:Cv)(fr:Int)(cs:List Int):Prop:=RightS a b h∧AttS a b h fr cs∧BelowS a b h
def CkS(f g h:Cv)(fr:Int)(cs:List Int):Prop:=
 f.Ok∧g.Ok∧∃a b,NF f.at a∧NF g.at b∧comm a.per.toNat b.per.toNat≤120∧h.Ok∧NF h.at h∧CertC a b h fr cs
def PvAt(a b h:Cv)(cs:List Int):Prop:=cs.length=cvH a b h+ordC a b∧∀t,t<cs.length→∃u:Nat,nth cs t=u∧SpOk a b h t u∧∀x,x<u→¬SpOk a b h t x
end
def PvS(f g r:Cv)(fr:Int)(cs:List Int)(er:Int):Prop:=
 CvS f g r er∧((er≠0∧fr=0∧cs = [])∨(er=0∧∃a b,NF f.at a∧NF g.at b∧fr=(cvH a b r:Nat)∧PvAt a b r cs))
theorem cvS_nf{f g r:Cv}(H:CvS f g r 0):f.Ok∧g.Ok∧∃a b,NF f.at a∧NF g.at b∧a.Ok∧b.Ok∧comm a.per.toNat b.per.toNat≤120∧r.Ok∧NF r.at r∧CvF a b r.at∧CvF f g r.at:=by
 rcases H with ⟨_,_,h⟩|⟨hf,hg,a,b,ha,hb,H⟩
 ·cases h
 ·obtain⟨hao,_⟩:=nf_small hf ha;obtain⟨hbo,_⟩:=nf_small hg hb;rcases H with ⟨_,_,h⟩|⟨hc,h,h1,h2⟩
  ·cases h
  ·rcases h2.get (cv_up hao hbo h1) with ⟨_,h3,h4⟩|⟨h3,_⟩
   ·have e:r.at=h:=by funext t;exact h4.at t
    rw [← e] at h1 h4;exact⟨hf,hg,a,b,ha,hb,hao,hbo,hc,h3,h4,h1,h1.nf hf hg ha hb⟩
   ·cases h3
theorem pv_check{f g r:Cv}{fr:Int}{cs:List Int}(H:PvS f g r fr cs 0):CkS f g r fr cs:=by
 obtain⟨H,K⟩:=H;obtain⟨hf,hg,a,b,hna,hnb,hao,hbo,hc,hr,hrn,hC,_⟩:=cvS_nf H;rcases K with ⟨h,_⟩|⟨_,a',b',hna',hnb',rfl,hlen,hall⟩
 ·exact absurd rfl h
 ·obtain rfl:=NF.unique hna hna';obtain rfl:=NF.unique hnb hnb';have hc':ordC a b≤120:=hc;have s1:=cst_le hao;have s2:=cst_le hbo;have s3:=cst_le hr;refine⟨hf,hg,a,b,hna,hnb,hc,hr,hrn,cp_right hao hbo hr hrn hC,⟨rfl,hlen,fun t ht=>?_⟩,fun s u hs hu=>cp_below hao hbo hC (by omega)⟩
  obtain⟨u,h1,h2,_⟩:=hall t ht;rw [h1];exact⟨by omega,by rwa [Int.toNat_natCast]⟩
end
section
open Go.RowKit
def lnC(r:Int):Cv:=⟨[0],1,r⟩
theorem ln_ok{r:Int}(h0:0≤r)(h1:r≤1073741824):(lnC r).Ok:=
 ⟨by show 1≤1;omega,by show 1≤400;omega,by show(1:Int)≤1;omega,by show(1:Int)≤120;omega,by show(1:Int)≤((1:Nat):Int);omega,h0,h1,
  fun k hk=>by
   have hk':k<1:=hk;have e:k=0:=by omega
   subst e;rfl,
  by show(0:Int)≤0;omega,fun k hk=>by have hk':k+1<1:=hk;omega,fun h=>by exact absurd (show(0:Int)=inf from h) (by unfold inf;omega),fun _=>by show(0:Int)≤0+r;omega⟩
theorem ln_fin{r:Int}(h0:0≤r)(h1:r≤1073741824):(lnC r).Fin:=⟨ln_ok h0 h1,fun h=>absurd (show(0:Int)=inf from h) (by unfold inf;omega)⟩
theorem ln_at{r:Int}(h0:0≤r)(h1:r≤1073741824)(t:Nat):(lnC r).at t=t*r:=by
 induction t with
 | zero=>rw [Cv.at_lt (by show 0<1;omega)];show(0:Int)=_;omega
 | succ t ih=>
   have h:=(ln_fin h0 h1).toL.step t (by show 1-1≤t;omega);have e:(lnC r).at (t+1)=(lnC r).at t+r:=h;rw [e,ih];rw [show((t+1:Nat):Int)=(t:Int)+1 by omega,Int.add_mul,Int.one_mul]
theorem ln_nf{r:Int}(h0:0≤r)(h1:r≤1073741824):NF (lnC r).at (lnC r):=by
 refine .inl ⟨by show(1:Int)≤1;omega,by show(1:Int)≤((1:Nat):Int);omega,fun t ht=>?_,(ln_fin h0 h1).toL.step,fun q s b hq _=>hq,.inl rfl,fun t ht=>?_⟩
 ·rw [Cv.at_lt ht]
 ·have ht':t<1:=ht;have e:t=0:=by omega
  subst e;rw [ln_at h0 h1];unfold inf;omega
theorem ln_conv{r q:Int}(h0:0≤r)(h1:r≤q)(h2:q≤1073741824):CvF (lnC r) (lnC q) (lnC r).at:=fun t=>by
 have fr:=ln_fin h0 (show r≤1073741824 by omega);have fq:=ln_fin (show 0≤q by omega) h2;refine CvT.of (.inr ⟨⟨t,⟨Nat.le_refl _,fr.not_infAt _,fq.not_infAt _⟩,?_⟩,fun s hs=>?_⟩)
 ·rw [ln_at (by omega) h2,Nat.sub_self];omega
 ·have h3:=hs.1;rw [ln_at h0 (by omega),ln_at h0 (by omega),ln_at (by omega) h2];obtain⟨u,rfl⟩:∃u,t=s+u:=⟨t-s,by omega⟩
  rw [show s+u-s=u by omega,show((s+u:Nat):Int)=(s:Int)+u by omega,Int.add_mul];have:(u:Int)*r≤(u:Int)*q:=Int.mul_le_mul_of_nonneg_left h1 (by omega)
  omega
theorem ln_cvs{r q:Int}(h0:0≤r)(h1:r≤q)(h2:q≤1073741824):CvS (lnC r) (lnC q) (lnC r) 0:=
 .inr ⟨ln_ok h0 (by omega),ln_ok (by omega) h2,lnC r,lnC q,ln_nf h0 (by omega),ln_nf (by omega) h2,.inr ⟨(by show comm 1 1≤120;decide),(lnC r).at,ln_conv h0 h1 h2,.inl ⟨ln_nf h0 (by omega),(ln_ok h0 (by omega)).lim,rfl⟩⟩⟩
end
end Go.Proofs.YtaejfleahamapaaGreat
