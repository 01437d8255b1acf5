/- remainder: raw and Rest: what they return for finite curves. -/
import Derived.Deep.LoopGhost
import Derived.Deep.DeepCutAuto
import Derived.BigRegion
import Derived.Test.YtaejfleahamapaaGreatPp2
import Derived.Test.YtaejfleahamapaaGreatPp22
import Derived.Test.YtaejfleahamapaaGreatPp23
import Derived.Test.YtaejfleahamapaaGreatPp21
import Derived.Test.YtaejfleahamapaaGreatPp16
import Derived.Test.YtaejfleahamapaaGreatPp3
import Derived.Test.YtaejfleahamapaaGreatPp1
namespace Go.Proofs.YtaejfleahamapaaGreat
set_option linter.unusedVariables false
set_option linter.unusedSimpArgs false
section
theorem fin_of{h:Nat→Int}{g:Cv}(hg:NF h g)(ho:g.Ok)(hne:∀t,t≤400→h t≠inf):g.Fin:=by
 have h1:=ho.n1;have h2:=ho.n2;refine⟨ho,?_⟩
 rw [← Cv.at_lt (by omega),hg.at];exact hne _ (by omega)
theorem sumS_fin{f g r:Cv}(hf:f.Fin)(hg:g.Fin)(h:SumS f g r 0):r.Fin∧∀t,r.at t=f.at t+g.at t:=by
 have hv:∀t,sumV f g t=f.at t+g.at t:=fun t=>by
  unfold sumV;rw [if_neg (fun h=>h.elim (hf.not_infAt t) (hg.not_infAt t))]
 rcases h with ⟨_,_,h⟩|⟨hfo,hgo,a,b,ha,hb,⟨_,_,h⟩|⟨_,h⟩⟩
 ·omega
 ·omega
 ·have h':MadeS (sumV a b) r 0:=h;rw [sumV_nf hf.1 hg.1 ha hb] at h';rcases h'.get (sumV_up hf.1 hg.1) with ⟨_,h1,h2⟩|⟨h1,_⟩
  ·exact⟨fin_of h2 h1 (fun t ht=>by rw [hv];exact hf.add_ne hg (by omega)),fun t=>by rw [h2.at,hv]⟩
  ·omega
def sumAt(fs:List Cv)(t:Nat):Int:=(fs.map fun f=>f.at t).sum
theorem tot_fin:∀{fs:List Cv} {s r:Cv},s.Fin→(∀f∈fs,f.Fin)→TotR s fs r 0→r.Fin∧∀t,r.at t=s.at t+sumAt fs t
 | [],s,r,hs,_,h=>by
   obtain⟨rfl,_⟩:=h;exact⟨hs,fun t=>by simp [sumAt]⟩
 | f :: fs,s,r,hs,hf,⟨t,e,h1,h2⟩=>by
   rcases h2 with ⟨rfl,h2⟩|⟨h2,_,h3⟩
   ·obtain⟨a1,a2⟩:=sumS_fin hs (hf f (List.mem_cons_self ..)) h1;obtain⟨b1,b2⟩:=tot_fin a1 (fun g hg=>hf g (List.mem_cons_of_mem _ hg)) h2;refine⟨b1,fun u=>?_⟩
    rw [b2,a2];simp [sumAt]
    omega
   ·exact absurd h3.symm h2
theorem cvZ_fin:cvZ.Fin:=⟨nf_lim_ok zero_nf ⟨Int.le_refl _,fun _=>Int.le_refl _⟩ cvZ_lim,by decide⟩
theorem cvZ_at(t:Nat):cvZ.at t=0:=by
 have:=zero_nf.at t
 exact this
theorem raiseS_fin{f r:Cv}{d:Int}(hf:f.Fin)(h0:0≤d)(h1:d≤1073741824)(h:RaiseS f d r 0):r.Fin∧r.at 0=0∧∀t,0<t→r.at t=f.at t+d:=by
 have hm:=RaiseS.made hf.1 h0 h1 h;rcases hm.get (raise_up hf.1 h0 h1) with ⟨_,h1',h2⟩|⟨h3,_⟩
 ·refine⟨fin_of h2 h1' (fun t ht=>?_),by rw [h2.at,raiseV_zero],fun t ht=>by rw [h2.at,raiseV_fin ht (hf.not_infAt t)]⟩
  rcases Nat.eq_zero_or_pos t with e|e
  ·subst e;rw [raiseV_zero];decide
  ·rw [raiseV_fin e (hf.not_infAt t)];have:=hf.at_bd t
   have h5:(t:Int)*1073741824≤400*1073741824:=Int.mul_le_mul_of_nonneg_right (by omega) (by omega);intro e2;have:inf=4611686018427387904:=rfl
   omega
 ·omega
def lineCv(c:Int):Cv:=⟨[0],1,c⟩
theorem line_fin{c:Int}(h0:0≤c)(h1:c≤1073741824):(lineCv c).Fin:=by
 have hl:(lineCv c).vals.length=1:=rfl;have hp:(lineCv c).per=1:=rfl;have h00:nth (lineCv c).vals 0=0:=rfl;refine⟨⟨by omega,by omega,by omega,by omega,by omega,h0,h1,fun k hk=>?_,by omega,fun k hk=>by omega,fun h=>?_,fun _=>?_⟩,?_⟩
 ·obtain rfl:k=0:=by omega
  rw [h00];decide
 ·rw [hl,h00] at h;exact absurd h (by decide)
 ·rw [hl,hp];show nth (lineCv c).vals 0≤nth (lineCv c).vals 0+c
  omega
 ·rw [hl,h00];decide
theorem line_at{c:Int}(h0:0≤c)(h1:c≤1073741824)(t:Nat):(lineCv c).at t=c*t:=by
 have hf:=line_fin h0 h1
 induction t with
 | zero=>
   rw [Cv.at_lt (by show 0<1;omega)];simp [lineCv,nth]
 | succ t ih=>
   have:=hf.step (t:=t) (by show 1≤t+1;omega)
   have e:t+(lineCv c).per.toNat=t+1:=rfl;rw [e] at this;rw [this,ih];show c*t+c=c*((t+1:Nat):Int)
   rw [Int.natCast_add,Int.mul_add];omega
end
section
open Go.RowKit
theorem fin_pre{a:Cv}(h:a.Fin)(t:Nat)(ht:t≤4000):0≤a.at t∧a.at t≤4300000000000∧a.at t≠4611686018427387904:=by
 have h1:=h.at_bd t;have h2:(t:Int)*1073741824≤4000*1073741824:=Int.mul_le_mul_of_nonneg_right (by omega) (by omega);omega
set_option maxRecDepth 100000 in
set_option maxHeartbeats 1000000 in
theorem graw_any(A B:Option Addr)(n m c d:Nat)(a b:Cv)(fr co dr:Int)(t:Nat)(w:World)(hA:Ints w w.heap.size A n a.vals)(hB:Ints w w.heap.size B m b.vals)(fa:a.Fin)(fb:b.Fin)(ht:t≤2000) :
 Calls Tryz.prog 187 #[.agg (gpA A n c a B m d b fr co dr),.int .i64 t] w fun e w'=>e = .returned (.int .i64 (dif a b t))∧Below w.heap.size w w':=by
 unfold gpA;have GB:=hi_ (Blk.new w 234 #[.slice A n c,.int .i64 a.per,.int .i64 a.inc,.slice B m d,.int .i64 b.per,.int .i64 b.inc,.int .i64 fr,.int .i64 co,.int .i64 dr]);have BW:=hi_ (balloc w (.cells #[.slice A n c,.int .i64 a.per,.int .i64 a.inc,.slice B m d,.int .i64 b.per,.int .i64 b.inc,.int .i64 fr,.int .i64 co,.int .i64 dr] 234));have IA:=hi_ (hA.ext BW.out);have IB:=hi_ (hB.ext BW.out);have la:=hA.1;have lb:=hB.1;have ha1:=fa.1.n1;have ha2:=fa.1.n2;have hap:=fa.1.p1;have hap2:=fa.1.p2;have hai:=fa.1.i1;have hai2:=fa.1.i2;have hapn:=fa.1.pn;have hb1:=fb.1.n1;have hb2:=fb.1.n2;have hbp:=fb.1.p1;have hbp2:=fb.1.p2;have hbi:=fb.1.i1;have hbi2:=fb.1.i2;have hbpn:=fb.1.pn;rw [la] at ha1 ha2 hapn;rw [lb] at hb1 hb2 hbpn;obtain⟨va,hva⟩:∃v,v=a.at t:=⟨_,rfl⟩
 obtain⟨vb,hvb⟩:∃v,v=b.at t:=⟨_,rfl⟩
 obtain⟨p1,p2,p3⟩:=fin_pre fa t (by omega);obtain⟨q1,q2,q3⟩:=fin_pre fb t (by omega);rw [← hva] at p1 p2 p3;rw [← hvb] at q1 q2 q3;have HVA:=hi_ hva;have HVB:=hi_ hvb;have FA:=hi_ fa;have FB:=hi_ fb;have e1:IntKind.i64.wrap (va-vb)=va-vb:=IntWalk.i64_in _ (by omega);have d1:(va == 4611686018427387904)=false:=by simpa using p3
 have d2:(vb == 4611686018427387904)=false:=by simpa using q3
 rw [show dif a b t=va-vb from by unfold dif;rw [hva,hvb]];clear hva hvb hA hB la lb fa fb;go_enter Tryz.func187,Tryz.ntmps187
 go_upto_region 1 with fail
 generalize hwe:w.alloc (.cells #[.slice A n c,.int .i64 a.per,.int .i64 a.inc,.slice B m d,.int .i64 b.per,.int .i64 b.inc,.int .i64 fr,.int .i64 co,.int .i64 dr] 234)=w1 at *;clear hwe;go_cut [5,6] (fun s5 s6 wx=>s5 = .int .i64 va∧s6 = .int .i64 vb∧Below w.heap.size w wx)
 case first=>
  replace GB:=hi_ (Blk.drew GB.out);replace BW:=hi_ (Below.drew BW.out);have IA:=hi_ (show Ints w1.drew w1.drew.heap.size A n a.vals from IA.out);have IB:=hi_ (show Ints w1.drew w1.drew.heap.size B m b.vals from IB.out);obtain⟨x0,x1,x2,x3,x4,x5⟩:_∧_∧_∧_∧_∧_:=⟨GB.out.cell 0,GB.out.cell 1,GB.out.cell 2,GB.out.cell 3,GB.out.cell 4,GB.out.cell 5⟩
  simp at x0 x1 x2 x3 x4 x5;have hlx:=GB.out.lt;refine wp_region_held_drew (S:=(fun w'=>w'.cell? ⟨w.heap.size,0,none⟩=some (.slice A n c)∧w'.cell? ⟨w.heap.size,1,none⟩=some (.int .i64 a.per)∧w'.cell? ⟨w.heap.size,2,none⟩=some (.int .i64 a.inc)∧w'.cell? ⟨w.heap.size,3,none⟩=some (.slice B m d)∧w'.cell? ⟨w.heap.size,4,none⟩=some (.int .i64 b.per)∧w'.cell? ⟨w.heap.size,5,none⟩=some (.int .i64 b.inc))) (by kernel_rfl) (by exact⟨x0,x1,x2,x3,x4,x5⟩) (fun hHeld=>?_);clear x0 x1 x2 x3 x4 x5 hlx;generalize hwd:w1.drew=wd at *;clear hwd;obtain⟨x0,x1,x2,x3,x4,x5⟩:_∧_∧_∧_∧_∧_:=⟨GB.out.cell 0,GB.out.cell 1,GB.out.cell 2,GB.out.cell 3,GB.out.cell 4,GB.out.cell 5⟩
  simp at x0 x1 x2 x3 x4 x5;have hlx:=GB.out.lt;refine tkO [0,1,2,4,5,6] ?_;(iterate 6 refine tkI ?_);refine tkX ?_;refine rdy2 3 (fun K hK=>?_);go_simp
  refine(at_any A n c a.per a.inc t a.vals _ (by exact IA.out) (by omega) hap hapn hai (by omega) FA.out.1.nn (by omega) (by omega)).mono ?_;rintro e wa ⟨rfl,hb⟩;rw [Int.toNat_natCast,← HVA.out];replace GB:=hi_ (GB.out.below hb GB.out.lt);replace BW:=hi_ (bthen BW.out hb);replace IB:=hi_ (IB.out.ext hb);clear hb hHeld;clear x0 x1 x2 x3 x4 x5 hlx;obtain⟨x0,x1,x2,x3,x4,x5⟩:_∧_∧_∧_∧_∧_:=⟨GB.out.cell 0,GB.out.cell 1,GB.out.cell 2,GB.out.cell 3,GB.out.cell 4,GB.out.cell 5⟩
  simp at x0 x1 x2 x3 x4 x5;have hlx:=GB.out.lt;refine bkS hK (by exact⟨x0,x1,x2,x3,x4,x5⟩) (fun hHeld=>?_);clear hK K;refine rdy2 7 (fun K hK=>?_);go_simp
  refine(at_any B m d b.per b.inc t b.vals _ (by exact IB.out) (by omega) hbp hbpn hbi (by omega) FB.out.1.nn (by omega) (by omega)).mono ?_;rintro e wb ⟨rfl,hb⟩;rw [Int.toNat_natCast,← HVB.out];replace GB:=hi_ (GB.out.below hb GB.out.lt);replace BW:=hi_ (bthen BW.out hb);clear hb hHeld;clear x0 x1 x2 x3 x4 x5 hlx;obtain⟨x0,x1,x2,x3,x4,x5⟩:_∧_∧_∧_∧_∧_:=⟨GB.out.cell 0,GB.out.cell 1,GB.out.cell 2,GB.out.cell 3,GB.out.cell 4,GB.out.cell 5⟩
  simp at x0 x1 x2 x3 x4 x5;have hlx:=GB.out.lt;refine bkS hK (by exact⟨x0,x1,x2,x3,x4,x5⟩) (fun hHeld=>?_);clear hK K;refine tkO [8,9] ?_;(iterate 2 refine tkI ?_);refine tkX ?_;refine dnH ?_;go_wp2_with fail
  go_meet
  exact⟨rfl,rfl,BW.out⟩
 case rest=>
  obtain⟨rfl,rfl,bw⟩:=hcut;clear GB BW IA IB HVA HVB FA FB;go_wp2_with fail
  go_ret
  exact⟨rfl,bw⟩
theorem small_ne9{x:Int}(h:x≤4300000000000):x≠inf:=by
 intro e;rw [e] at h;exact absurd h (by decide)
theorem nf_fin'{f a:Cv}(hf:f.Fin)(h:NF f.at a)(ho:a.Ok):a.Fin:=by
 refine⟨ho,fun e=>?_⟩
 have h1:=ho.at_inf e (t:=a.vals.length) (by omega);have h2:=ho.n2;rw [h.at,← show f.at a.vals.length=f.at a.vals.length from rfl] at h1;have:=(fin_pre hf a.vals.length (by omega)).2.2
 exact this h1
def RestS(f g:Cv)(r:Cv)(er:Int):Prop:=∃a b,NF f.at a∧NF g.at b∧a.Fin∧b.Fin∧
 ((120<ordC a b∧r=Cv.none∧er=3)∨(ordC a b≤120∧((RstBad a b∧r=Cv.none∧er=3)∨(¬RstBad a b∧MadeS (restV a b) r er))))
theorem rest1_any(V G N c0:Nat)(zs:List Int)(h:Nat→Int)(t:Nat)(w:World)(hV:Blk w V 22 #[.slice (some ⟨G,0,none⟩) N c0])(hG:RowI w G zs)(hz:zs.length=N)(hv:nth zs t=h t)(ht:t<N) :
 Calls Tryz.prog 188 (#[.int .i64 t] ++ #[.pointer (some ⟨V,0,none⟩)]) w fun e w'=>e = .returned (.int .i64 (h t))∧Below w.heap.size w w':=by
 show Calls _ _ #[.int .i64 t,.pointer (some ⟨V,0,none⟩)] _ _
 have v0:=hV.cell 0;simp at v0;have hvl:=hV.lt;have q:=hG.cell t (by omega);have hgl:=hG.lt;rw [hv] at q;have hti:(t:Int)<N:=by omega
 clear hV hG;go_enter Tryz.func188,Tryz.ntmps188
 go_wp2_with fail
 go_ret
 exact⟨rfl,Below.refl _ _⟩
structure RsE(w wx:World)(GB:Nat)(A:Option Addr)(n c:Nat)(a:Cv)(B:Option Addr)(m d:Nat)(b:Cv):Prop where
 gb:Blk wx GB 234 #[.slice A n c,.int .i64 a.per,.int .i64 a.inc,.slice B m d,.int .i64 b.per,.int .i64 b.inc,.int .i64 (ordF a b:Nat),.int .i64 (ordC a b:Nat),.int .i64 (ordD a b)]
 ia:Ints wx wx.heap.size A n a.vals
 ib:Ints wx wx.heap.size B m b.vals
 rb:Blk wx (w.heap.size+1+1) 26 #[.slice none 0 0,.int .i64 0,.int .i64 0]
 bw:Below w.heap.size w wx
 ap:(∀g o s,A=some ⟨g,o,s⟩→g<GB)∧(∀g o s,B=some ⟨g,o,s⟩→g<GB)
section
variable{w wx wy:World}{GB n c m d:Nat}{A B:Option Addr}{a b:Cv}
theorem RsE.below(h:RsE w wx GB A n c a B m d b)(hb:Below wx.heap.size wx wy):RsE w wy GB A n c a B m d b:=⟨h.gb.below hb h.gb.lt,h.ia.ext hb,h.ib.ext hb,h.rb.below hb h.rb.lt,bthen h.bw hb,h.ap⟩
theorem RsE.drew(h:RsE w wx GB A n c a B m d b):RsE w wx.drew GB A n c a B m d b:=⟨h.gb,h.ia,h.ib,h.rb,Below.drew h.bw,h.ap⟩
theorem RsE.far(h:RsE w wx GB A n c a B m d b){g i:Nat}{v:Value}(h1:GB<g)(h2:w.heap.size+1+1<g):RsE w (wx.setCell ⟨g,i,none⟩ v) GB A n c a B m d b:=
 have s:=(Sto.refl g wx).set i v
 ⟨h.gb.sto s (by omega),h.ia.sto s (fun b o t e=>by have:=h.ap.1 b o t e;omega),h.ib.sto s (fun b o t e=>by have:=h.ap.2 b o t e;omega),h.rb.sto s (by omega),h.bw.setCell (by show w.heap.size≤g;omega) _,h.ap⟩
theorem RsE.cells(h:RsE w wx GB A n c a B m d b):(wx.cell? ⟨GB,0,none⟩=some (.slice A n c)∧wx.cell? ⟨GB,1,none⟩=some (.int .i64 a.per)∧wx.cell? ⟨GB,2,none⟩=some (.int .i64 a.inc)∧wx.cell? ⟨GB,3,none⟩=some (.slice B m d)∧wx.cell? ⟨GB,4,none⟩=some (.int .i64 b.per)∧wx.cell? ⟨GB,5,none⟩=some (.int .i64 b.inc))∧
 wx.cell? ⟨GB,6,none⟩=some (.int .i64 (ordF a b:Nat))∧wx.cell? ⟨GB,7,none⟩=some (.int .i64 (ordC a b:Nat))∧wx.cell? ⟨GB,8,none⟩=some (.int .i64 (ordD a b))∧GB<wx.heap.size:=
 ⟨⟨h.gb.cell 0,h.gb.cell 1,h.gb.cell 2,h.gb.cell 3,h.gb.cell 4,h.gb.cell 5⟩,h.gb.cell 6,h.gb.cell 7,h.gb.cell 8,h.gb.lt⟩
end
set_option maxHeartbeats 4000000 in
set_option maxRecDepth 100000 in
theorem rest_any(A0 B0:Option Addr)(n0 m0 c0 d0:Nat)(p i q j:Int)(xs ys:List Int)(w:World)(hA:Ints w w.heap.size A0 n0 xs)(hB:Ints w w.heap.size B0 m0 ys)(hn:(n0:Int)≤1000000)(hm:(m0:Int)≤1000000)(hf:Cv.Fin ⟨xs,p,i⟩)(hg:Cv.Fin ⟨ys,q,j⟩) :
 Calls Tryz.prog 181 #[.agg #[.slice A0 n0 c0,.int .i64 p,.int .i64 i],.agg #[.slice B0 m0 d0,.int .i64 q,.int .i64 j]] w (RetS (RestS ⟨xs,p,i⟩ ⟨ys,q,j⟩) w):=by
 have P:=hi_ ((PS.new (c:=c0) (p:=p) (i:=i) (d:=d0) (q:=q) (j:=j) hA hB).alloc (.cells #[.slice none 0 0,.int .i64 0,.int .i64 0] 26));have rb:=Blk.new ((w.alloc (.cells #[.slice A0 n0 c0,.int .i64 p,.int .i64 i] 26)).alloc (.cells #[.slice B0 m0 d0,.int .i64 q,.int .i64 j] 26)) 26 #[.slice none 0 0,.int .i64 0,.int .i64 0];rw [World.size_alloc,World.size_alloc] at rb;have RB:=hi_ rb;have HF:=hi_ hf;have HG:=hi_ hg;clear hA hB rb hf hg;go_enter Tryz.func181,Tryz.ntmps181
 obtain⟨f0,f1,f2,g0,g1,g2,hlf,hlg⟩:=P.out.cells;go_wp2_with fail
 refine(rmboth_any A0 B0 n0 m0 c0 d0 p i q j xs ys _ P.out.ia P.out.ib hn hm).mono ?_;clear f0 f1 f2 g0 g1 g2 hlf hlg;rintro e w1 (⟨er,hbad,rfl,hb⟩|⟨_,_,a,b,A,n,c,B,m,d,na,nb,oa,ob,hC,rfl,hIA,hIB,hAl,hBl,hb⟩)
 ·-- no gap: the common period is too long
  rcases hbad with ⟨h,_⟩|⟨_,_,rfl,a,b,na,nb,oa,ob,hC⟩
  ·exact absurd ⟨HF.out.1,HG.out.1⟩ h
  have F:=hi_ (show RestS ⟨xs,p,i⟩ ⟨ys,q,j⟩ Cv.none 3 from⟨a,b,na,nb,nf_fin' HF.out na oa,nf_fin' HG.out nb ob,.inl ⟨hC,rfl,rfl⟩⟩);replace RB:=hi_ ((RB.out.below hb RB.out.lt).alloc (.cells zero9 234));have BW:=hi_ (bthen (bthen P.out.bw hb) (balloc _ (.cells zero9 234)));clear hb hC na nb oa ob;unfold zero9 at RB BW ⊢;obtain⟨⟨r0,r1,r2⟩,⟨y0,y1,y2⟩,hlr⟩:=RB.out.c3;go_wp2_with fail
  have rb:=RB.out.store3 (.slice none 0 0) (.int .i64 0) (.int .i64 0);exact bodyPost_ret (v:=.tuple #[.agg #[.slice none 0 0,.int .i64 0,.int .i64 0],.int .i64 3]) (by simp [results,Tryz.results181,go_sem,rb.cell]) rfl (retS_none F.out (bst3 BW.out (by omega) _ _ _))
 have fa:=nf_fin' HF.out na oa;have fb:=nf_fin' HG.out nb ob;have hO:=ord_b oa ob;have hCC:ordC a b≤120:=hC;have hF0:=hO.f0;have hC1:=hO.c1;have hD1:=hO.d1;have hD2:=hO.d2;have la:=hIA.1;have lb:=hIB.1;have ha1:=oa.n1;have ha2:=oa.n2;have hb1:=ob.n1;have hb2:=ob.n2;rw [la] at ha1 ha2;rw [lb] at hb1 hb2;have hs1:=hb.size;simp only [World.size_alloc] at hs1 hAl hBl;have E:=hi_ (show RsE w (w1.alloc (.cells (gpA A n c a B m d b (ordF a b:Nat) (ordC a b:Nat) (ordD a b)) 234)) w1.heap.size A n c a B m d b from
  ⟨Blk.new _ _ _,hIA.alloc' _,hIB.alloc' _,(RB.out.below hb RB.out.lt).alloc _,bthen (bthen P.out.bw hb) (balloc _ _),
   (fun g o s e=>by
    obtain⟨g',o',e',hl,_⟩:=hIA.2 (by omega);rw [e] at e';cases e';exact hl),(fun g o s e=>by
    obtain⟨g',o',e',hl,_⟩:=hIB.2 (by omega);rw [e] at e';cases e';exact hl)⟩)
 have NA:=hi_ na;have NB:=hi_ nb;have FA:=hi_ fa;have FB:=hi_ fb;have hGB:w.heap.size+1+1<w1.heap.size:=by omega
 clear hIA hIB hAl hBl hb P RB na nb fa fb la lb hs1;unfold gpA at E ⊢;go_upto_region 4 with fail
 generalize hwe:w1.alloc (.cells #[.slice A n c,.int .i64 a.per,.int .i64 a.inc,.slice B m d,.int .i64 b.per,.int .i64 b.inc,.int .i64 (ordF a b:Nat),.int .i64 (ordC a b:Nat),.int .i64 (ordD a b)] 234)=w2 at *;clear hwe;generalize w1.heap.size=GB at *;obtain⟨F,hF⟩:∃F,F=ordF a b:=⟨_,rfl⟩
 obtain⟨C,hCe⟩:∃C,C=ordC a b:=⟨_,rfl⟩
 obtain⟨D,hDe⟩:∃D,D=ordD a b:=⟨_,rfl⟩
 obtain⟨f1,hf1⟩:∃f1:Nat,f1=F+C:=⟨_,rfl⟩
 rw [← hF] at hF0;rw [← hCe] at hCC hC1;rw [← hDe] at hD1 hD2;have e1:IntKind.i64.wrap ((F:Int)+(C:Int))=(f1:Int):=by rw [IntWalk.i64_in _ (by omega)];omega
 have hf1b:f1≤520:=by omega
 have HFe:=hi_ hF;have HCe:=hi_ hCe;have HDe:=hi_ hDe;have Hf1:=hi_ hf1;have z1:(nth a.vals (n-1) != inf)=true:=by have:=FA.out.2;rw [show a.vals.length=n from E.out.ia.1] at this;simpa using this
 have z2:(nth b.vals (m-1) != inf)=true:=by have:=FB.out.2;rw [show b.vals.length=m from E.out.ib.1] at this;simpa using this
 have Z1:=hi_ z1;have Z2:=hi_ z2;clear z1 z2 hC hf1;obtain⟨⟨x0,x1,x2,x3,x4,x5⟩,x6,x7,x8,hlx⟩:=E.out.cells;rw [← hF] at x6;rw [← hCe] at x7;rw [← hDe] at x8;have X6:=hi_ (fun (wq:World) (h:RsE w wq GB A n c a B m d b)=>(by obtain⟨_,h6,h7,h8,_⟩:=h.cells;rw [hF,hCe,hDe];exact⟨h6,h7,h8⟩:wq.cell? ⟨GB,6,none⟩=some (.int .i64 F)∧wq.cell? ⟨GB,7,none⟩=some (.int .i64 C)∧wq.cell? ⟨GB,8,none⟩=some (.int .i64 D)));clear hF hCe hDe;go_wp2_with fail
 refine(finite_any A n c a.per a.inc a.vals _ (by exact E.out.ia) (by omega) (by omega)).mono ?_;rw [Z1.out];rintro e w3 ⟨rfl,hb⟩;replace E:=hi_ (E.out.below hb);clear hb e1;clear x0 x1 x2 x3 x4 x5 x6 x7 x8 hlx;obtain⟨⟨x0,x1,x2,x3,x4,x5⟩,-,-,-,hlx⟩:=E.out.cells;obtain⟨x6,x7,x8⟩:=X6.out _ E.out;go_wp2_with fail
 refine(finite_any B m d b.per b.inc b.vals _ (by exact E.out.ib) (by omega) (by omega)).mono ?_;rw [Z2.out];rintro e w4 ⟨rfl,hb⟩;replace E:=hi_ (E.out.below hb);clear hb;clear x0 x1 x2 x3 x4 x5 x6 x7 x8 hlx;obtain⟨⟨x0,x1,x2,x3,x4,x5⟩,-,-,-,hlx⟩:=E.out.cells;obtain⟨x6,x7,x8⟩:=X6.out _ E.out;obtain⟨z,hz⟩:∃z,z=decide (0<D):=⟨_,rfl⟩
 have ez:decide (D>0)=z:=hz.symm;have ez':decide (0<D)=z:=hz.symm;have HZ:=hi_ hz;clear hz
 go_upto_if 43 with (fail)
 go_cut [8,9,10] (fun s8 s9 s10 wx=>s8 = .int .i64 (rstFrom a b:Nat)∧s9 = .int .i64 (rstPer a b:Nat)∧s10 = .int .i64 (rstInc a b)∧RsE w wx GB A n c a B m d b)
 case first=>
  cases z
  case false=>
   have hd:¬0<ordD a b:=by rw [← HDe.out];exact of_decide_eq_false HZ.out.symm
   have r1:rstFrom a b=f1:=by unfold rstFrom;rw [if_neg hd,← HFe.out,← HCe.out,Hf1.out]
   have r2:rstPer a b=1:=by unfold rstPer;rw [if_neg hd]
   have r3:rstInc a b=0:=by unfold rstInc;rw [if_neg hd]
   have R1:=hi_ r1;have R2:=hi_ r2;have R3:=hi_ r3;clear hd r1 r2 r3 ez ez';go_wp2_with fail
   go_meet
   exact⟨by rw [R1.out],by rw [R2.out];rfl,by rw [R3.out],E.out⟩
  case true=>
   have hd:0<ordD a b:=by rw [← HDe.out];exact of_decide_eq_true HZ.out.symm
   have r1:rstFrom a b=max 400 f1:=by unfold rstFrom;rw [if_pos hd,← HFe.out,← HCe.out,Hf1.out]
   have r2:rstPer a b=C:=by unfold rstPer;rw [if_pos hd,HCe.out]
   have r3:rstInc a b=D:=by unfold rstInc;rw [if_pos hd,HDe.out]
   obtain⟨f2,hf2⟩:∃f2:Nat,f2=max 400 f1:=⟨_,rfl⟩
   rw [← hf2] at r1;have hmx:(if(400:Int)<(f1:Int) then (f1:Int) else 400)=(f2:Int):=by rw [hf2];split <;> omega
   have R1:=hi_ r1;have R2:=hi_ r2;have R3:=hi_ r3;clear hd r1 r2 r3 hf2 ez ez';go_wp2_with fail
   go_region
   all_goals
    go_wp2_with fail
    go_meet
    exact⟨by rw [R1.out],by rw [R2.out],by rw [R3.out],E.out.drew⟩
 case rest=>
  clear E X6 HZ;clear x0 x1 x2 x3 x4 x5 x6 x7 x8 hlx;obtain⟨rfl,rfl,rfl,hE⟩:=hcut;have E:=hi_ hE;clear hE;obtain⟨fr,hfr⟩:∃fr,fr=rstFrom a b:=⟨_,rfl⟩
  obtain⟨pr,hpr⟩:∃pr,pr=rstPer a b:=⟨_,rfl⟩
  obtain⟨ic,hic⟩:∃ic,ic=rstInc a b:=⟨_,rfl⟩
  rw [← hfr,← hpr,← hic];have hfr1:F+C≤fr:=by rw [hfr];unfold rstFrom;split <;> rw [← HFe.out,← HCe.out] <;> omega
  have hfr2:fr≤520:=by rw [hfr];unfold rstFrom;split <;> rw [← HFe.out,← HCe.out] <;> omega
  have hpr1:1≤pr:=by rw [hpr];unfold rstPer;split <;> (try rw [← HCe.out]) <;> omega
  have hpr2:pr≤120:=by rw [hpr];unfold rstPer;split <;> (try rw [← HCe.out]) <;> omega
  have hic1:0≤ic:=by rw [hic];unfold rstInc;split <;> omega
  have hic2:ic≤128849018880:=by rw [hic];unfold rstInc;split <;> (try rw [← HDe.out]) <;> omega
  have HFR:=hi_ hfr;have HPR:=hi_ hpr;have HIC:=hi_ hic;clear hfr hpr hic;obtain⟨N,hN⟩:∃N:Nat,N=fr+pr:=⟨_,rfl⟩
  have e1:IntKind.i64.wrap ((fr:Int)+(pr:Int))=(N:Int):=by rw [IntWalk.i64_in _ (by omega)];omega
  have hNb:N≤640:=by omega
  have hN1:fr<N:=by omega
  have HN:=hi_ hN;clear hN;obtain⟨i0,hi0,hz0,hy1,hy2⟩:=info_parts info_int;go_upto_region 8 with (at_make;refine wpList_make_full _ rfl _ _ 22 rfl wc.heap.size 3 i0 _ 1 Tryz.underlying22 hi0 hz0 hy1 .i64 .i64 _ _ N rfl rfl rfl rfl (by rw [hy2];omega) (by unfold maxLen;omega) (by simp) ?_;intro w5 own1 grow1)
  have hb3:Below wc.heap.size wc w5:=(Below.refl _ _).grown grow1 (by simp) (by simp);have SM:=hi_ ((own_zeros2 own1).below (balloc w5 (.cells #[.slice (some ⟨wc.heap.size,0,none⟩) N N] 22)) (own_zeros2 own1).lt);have VB:=hi_ (Blk.new w5 22 #[.slice (some ⟨wc.heap.size,0,none⟩) N N]);have hGl:=E.out.gb.lt;have hRl:=E.out.rb.lt;have hsz:=hb3.size;have hgv:wc.heap.size<w5.heap.size:=(own_zeros2 own1).lt;have E:=hi_ ((E.out.below hb3).below (balloc w5 (.cells #[.slice (some ⟨wc.heap.size,0,none⟩) N N] 22)));clear hi0 hz0 hy1 hy2 own1 grow1 hb3 e1;generalize hwe:w5.alloc (.cells #[.slice (some ⟨wc.heap.size,0,none⟩) N N] 22)=w6 at *;clear hwe;generalize wc.heap.size=G at *;generalize w5.heap.size=V at *;have hvl:=VB.out.lt;have v0:=VB.out.cell 0;simp at v0;go_wp2_with fail
  clear v0 hvl;go_loopg [12,13,56] N (fun gg s12 s13 s56 wx=>∃(k:Nat) (zs:List Int),k+gg=N∧s56 = .int .i64 k∧s12 = .int .i64 (rmx (dif a b) 0 (min k (ordF a b)))∧s13 = .int .i64 (tailV a b (k-ordF a b))∧UpTo (restV a b) zs N k∧RowI wx G zs∧Blk wx V 22 #[.slice (some ⟨G,0,none⟩) N N]∧RsE w wx GB A n c a B m d b∧Hid (fr<k→¬RstBad a b))
  case atStart=>exact⟨0,List.replicate N 0,by omega,rfl,by rw [Nat.zero_min];rfl,by rw [Nat.zero_sub];rfl,⟨by simp,fun x hx=>by omega⟩,SM.out,VB.out,E.out,hi_ (fun h=>by omega)⟩
  case round=>
   clear SM VB E;obtain⟨k,zs,hkg,rfl,rfl,rfl,hu,hR,hV,hE,NBD⟩:=hrel;have SM:=hi_ hR;have E:=hi_ hE;have HU:=hi_ hu;have VB:=hi_ hV;clear hR hE hu hV;obtain⟨mk,hmk⟩:∃v,v=rmx (dif a b) 0 (min k (ordF a b)):=⟨_,rfl⟩
   obtain⟨tk,htk⟩:∃v,v=tailV a b (k-ordF a b):=⟨_,rfl⟩
   rw [← hmk,← htk];have HMK:=hi_ hmk;have HTK:=hi_ htk;clear hmk htk;by_cases hk:k<N
   case pos=>
    have hki:(k:Int)<N:=by omega
    obtain⟨⟨x0,x1,x2,x3,x4,x5⟩,x6,x7,x8,hlx⟩:=E.out.cells;go_wp2_with fail
    refine(graw_any A B n m c d a b _ _ _ k _ (by exact E.out.ia) (by exact E.out.ib) FA.out FB.out (by omega)).mono ?_;obtain⟨dv,hdv⟩:∃v,v=dif a b k:=⟨_,rfl⟩
    rw [← hdv];have HDV:=hi_ hdv;clear hdv;rintro e wa ⟨rfl,hb⟩;have hsl:=SM.out.lt;have hvl:=VB.out.lt;replace E:=hi_ (E.out.below hb);replace SM:=hi_ (SM.out.below hb hsl);replace VB:=hi_ (VB.out.below hb hvl);clear x0 x1 x2 x3 x4 x5 x6 x7 x8 hlx;clear hb hsl hvl;obtain⟨mn,hmn⟩:∃v,v=rmx (dif a b) 0 (min (k+1) (ordF a b)):=⟨_,rfl⟩
    obtain⟨tn,htn⟩:∃v,v=tailV a b (k+1-ordF a b):=⟨_,rfl⟩
    obtain⟨⟨x0,x1,x2,x3,x4,x5⟩,x6,x7,x8,hlx⟩:=E.out.cells
    go_upto_if 65 with (fail)
    go_cut [12,13] (fun s12 s13 wx=>s12 = .int .i64 mn∧s13 = .int .i64 tn∧wx=wa)
    case first=>
     clear x0 x1 x2 x3 x4 x5;by_cases hkF:k<ordF a b
     ·have q1:mn=if mk<dv then dv else mk:=by
       rw [hmn,HMK.out,HDV.out,show min (k+1) (ordF a b)=min k (ordF a b)+1 by omega];show max (rmx (dif a b) 0 (min k (ordF a b))) (dif a b (min k (ordF a b)))=_
       rw [show min k (ordF a b)=k by omega];split <;> omega
      have q2:tn=tk:=by rw [htn,HTK.out,show k+1-ordF a b=k-ordF a b by omega]
      have q1':(if mk<dv then dv else mk)=mn:=q1.symm;have hkf:¬(ordF a b:Int)≤(k:Int):=by omega
      have hkf':(k:Int)<(ordF a b:Int):=by omega
      have Q2:=hi_ q2;clear q1 q2 hmn htn;go_wp2_with fail
      go_meet
      exact⟨rfl,by rw [Q2.out],rfl⟩
     ·have q1:tn=if tk<dv then dv else tk:=by
       rw [htn,HTK.out,HDV.out,show k+1-ordF a b=k-ordF a b+1 by omega];show max (tailV a b (k-ordF a b)) (dif a b (ordF a b+(k-ordF a b)))=_
       rw [show ordF a b+(k-ordF a b)=k by omega];split <;> omega
      have q2:mn=mk:=by rw [hmn,HMK.out,show min (k+1) (ordF a b)=min k (ordF a b) by omega]
      have q1':(if tk<dv then dv else tk)=tn:=q1.symm;have hkf:(ordF a b:Int)≤(k:Int):=by omega
      have Q2:=hi_ q2;clear q1 q2 hmn htn;go_wp2_with fail
      go_meet
      exact⟨by rw [Q2.out],rfl,rfl⟩
    case rest=>
    obtain⟨rfl,rfl,rfl⟩:=hcut;have HMN:=hi_ hmn;have HTN:=hi_ htn;obtain⟨v,hv⟩:∃v,v=restV a b k:=⟨_,rfl⟩
    have q1:(if mn<tn then tn else mn)=v:=by
     rw [hv,rest_val,hmn,htn];split <;> omega
    have F1:=hi_ (HU.out.step hk);rw [← hv] at F1;have q0:=SM.out.cell k (by rw [HU.out.1];exact hk);have z0:=SM.out.frozen k;have hlt:=SM.out.lt;have v0:=VB.out.cell 0;simp at v0;have hvl:=VB.out.lt;clear hmn htn hv;go_upto_region 17 with fail
    have hGG:GB<G:=by omega
    have S2:=hi_ (SM.out.set_ k (by rw [HU.out.1];exact hk) v);have V2:=hi_ (VB.out.far (p:=⟨G,k,none⟩) (by show V≠G;omega) (.int .i64 v));have E2:=hi_ (E.out.far (g:=G) (i:=k) (v:=.int .i64 v) hGG (by omega));generalize hws:wc.setCell ⟨G,k,none⟩ (.int .i64 v)=ws at *;clear hws q0 z0 hlt v0 hvl SM VB E;clear x0 x1 x2 x3 x4 x5 x6 x7 x8 hlx;have hfrF:ordF a b<fr:=by rw [← HFe.out];omega
    by_cases hkf:k=fr
    case neg=>
     have d1:((k:Int) == (fr:Int))=false:=by simp;omega
     have NB2:=hi_ (show fr<k+1→¬RstBad a b from fun h=>NBD.out (by omega));go_wp2_with fail
     go_roundg (gk-1)
     case measure=>omega
     case rel=>exact⟨k+1,_,by omega,by go_num,by rw [HMN.out],by rw [HTN.out],F1.out,S2.out,V2.out,E2.out,NB2⟩
    case pos=>
    have d1:((k:Int) == (fr:Int))=true:=by simp;omega
    by_cases hic:0<ic
    case neg=>
     have d2:decide (0<ic)=false:=by simpa using hic
     have NB2:=hi_ (show fr<k+1→¬RstBad a b from fun _ h=>hic (by rw [HIC.out];unfold rstInc;rw [if_pos h.1];exact h.1));clear hkf;go_wp2_with fail
     go_roundg (gk-1)
     case measure=>omega
     case rel=>exact⟨k+1,_,by omega,by go_num,by rw [HMN.out],by rw [HTN.out],F1.out,S2.out,V2.out,E2.out,NB2⟩
    case pos=>
    have d2:decide (0<ic)=true:=by simpa using hic
    have hD0:0<ordD a b:=by
     rw [HIC.out] at hic;unfold rstInc at hic;split at hic
     ·assumption
     ·omega
    have EM:mn=rmx (dif a b) 0 (ordF a b):=by rw [HMN.out,show min (k+1) (ordF a b)=ordF a b by omega]
    have ET:tn=tailV a b (rstFrom a b+1-ordF a b):=by rw [HTN.out,← HFR.out,hkf]
    by_cases hlt:tn<mn
    case neg=>
     have d3:decide (tn<mn)=false:=by simpa using hlt
     have NB2:=hi_ (show fr<k+1→¬RstBad a b from fun _ h=>hlt (by rw [EM,ET];exact h.2));clear hkf EM ET;go_wp2_with fail
     go_roundg (gk-1)
     case measure=>omega
     case rel=>exact⟨k+1,_,by omega,by go_num,by rw [HMN.out],by rw [HTN.out],F1.out,S2.out,V2.out,E2.out,NB2⟩
    case pos=>
     have d3:decide (tn<mn)=true:=by simpa using hlt
     have F:=hi_ (show RestS ⟨xs,p,i⟩ ⟨ys,q,j⟩ Cv.none 3 from⟨a,b,NA.out,NB.out,FA.out,FB.out,.inr ⟨by rw [← HCe.out];exact hCC,.inl ⟨⟨hD0,by rw [← EM,← ET];exact hlt⟩,rfl,rfl⟩⟩⟩);have RB:=hi_ E2.out.rb;have BW:=hi_ E2.out.bw;clear hkf EM ET;obtain⟨⟨r0,r1,r2⟩,⟨y0,y1,y2⟩,hlr⟩:=RB.out.c3;go_wp2_with fail
     have rb:=RB.out.store3 (.slice none 0 0) (.int .i64 0) (.int .i64 0);exact bodyPost_ret (v:=.tuple #[.agg #[.slice none 0 0,.int .i64 0,.int .i64 0],.int .i64 3]) (by simp [results,Tryz.results181,go_sem,rb.cell]) rfl (retS_none F.out (bst3 BW.out (by omega) _ _ _))
   case neg=>
    have hki:¬(k:Int)<N:=by omega
    have hkN:k=N:=by omega
    have NBB:=hi_ (NBD.out (by omega));have HDN:=hi_ (show UpTo (restV a b) zs N N by have h9:=HU.out;rw [hkN] at h9;exact h9);have hsl:=SM.out.lt;have hvl:=VB.out.lt;have fr0:((fr:Nat):Int).toNat=fr:=Int.toNat_natCast _;have pr0:((pr:Nat):Int).toNat=pr:=Int.toNat_natCast _;have HBD:=hi_ (fun (t:Nat) (ht:t<N)=>(⟨rmx_ge _ _ _,rmx_le (by omega) (fun j hj=>by
     have h1:=fin_pre FA.out j (by omega);have h2:=fin_pre FB.out j (by omega);unfold dif;omega)⟩:0≤restV a b t∧restV a b t≤4300000000000))
    clear hk hkg hkN;go_wp2_with fail
    refine(buildK_any 188 #[.pointer (some ⟨V,0,none⟩)] fr pr ic (restV a b) _ (by omega) (by omega) (by omega) (by omega) hic1 (by omega)
     (fun k hk=>by have:=HBD.out k (by rw [HN.out];omega);omega)
     (hi_ (fun t w4 ht hb=>rest1_any V G N N zs (restV a b) t w4 (VB.out.below hb hvl) (SM.out.below hb hsl) HDN.out.1 (HDN.out.2 t (by rw [HN.out];omega)) (by rw [HN.out];omega))) (fun x w=>by kernel_rfl)).mono ?_
    rw [fr0,pr0];rintro e w7 ⟨f,er,hS,A5,n5,c5,hc5,rfl,hI5,hA5,hb⟩;have hM:=build_made (h:=restV a b) (s:=fr) (p:=pr) (i:=ic) (by omega) (fun t u h1 _ h=>absurd h (small_ne9 (HBD.out t (by rw [HN.out];omega)).2)) (fun _=>by
     rw [HFR.out,HPR.out,HIC.out];exact rest_per FA.out FB.out (by rw [← HCe.out];exact hC1) NBB.out) hS
    have F:=hi_ (show RestS ⟨xs,p,i⟩ ⟨ys,q,j⟩ f er from⟨a,b,NA.out,NB.out,FA.out,FB.out,.inr ⟨by rw [← HCe.out];exact hCC,.inr ⟨NBB.out,hM⟩⟩⟩);have hsz5:=E.out.rb.lt;have RB:=hi_ (E.out.rb.below hb E.out.rb.lt);have BW:=hi_ (bthen E.out.bw hb);have HI5:=hi_ hI5;have HA5:=hi_ hA5;clear hS hI5 hA5 hb hM E SM VB;obtain⟨⟨r0,r1,r2⟩,⟨y0,y1,y2⟩,hlr⟩:=RB.out.c3;go_wp2_with fail
    have rb:=RB.out.store3 (.slice A5 n5 c5) (.int .i64 f.per) (.int .i64 f.inc);exact bodyPost_ret (v:=.tuple #[.agg #[.slice A5 n5 c5,.int .i64 f.per,.int .i64 f.inc],.int .i64 er]) (by simp [results,Tryz.results181,go_sem,rb.cell]) rfl (retS_store F.out HA5.out (by omega) (by omega) HI5.out BW.out)
end
end Go.Proofs.YtaejfleahamapaaGreat
