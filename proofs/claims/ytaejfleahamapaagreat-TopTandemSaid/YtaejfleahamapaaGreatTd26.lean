/- . -/
import Derived.Test.YtaejfleahamapaaGreatTd24
import Derived.Test.YtaejfleahamapaaGreatTd25
namespace Go.Proofs.YtaejfleahamapaaGreat
set_option linter.unusedVariables false
set_option linter.unusedSimpArgs false
set_option maxHeartbeats 4000000
set_option maxRecDepth 100000
open Go.RowKit
theorem sL{h:Nat->Int}{g:Cv}(hg:NF h g)(ho:g.Ok)(hne:∀t,t<=400->h t≠aG):g.Fin:=by
 have h1:=ho.n1;have h2:=ho.n2;refine⟨ho,?_⟩
 rw [<- Cv.at_lt (by omega),hg.at];exact hne _ (by omega)
theorem a4k{f g r:Cv}(hf:f.Fin)(hg:g.Fin)(h:mU f g r 0):r.Fin/\∀t,r.at t=f.at t+g.at t:=by
 have hv:∀t,dW f g t=f.at t+g.at t:=fun t=>by
  unfold dW;rw [if_neg (fun h=>h.elim (hf.not_infAt t) (hg.not_infAt t))]
 rcases h with ⟨_,_,h⟩|⟨hfo,hgo,a,b,ha,hb,⟨_,_,h⟩|⟨_,h⟩⟩
 ·omega
 ·omega
 ·have h':eK (dW a b) r 0:=h;rw [a4m hf.1 hg.1 ha hb] at h';rcases h'.get (a4n hf.1 hg.1) with ⟨_,h1,h2⟩|⟨h1,_⟩
  ·exact⟨sL h2 h1 (fun t ht=>by rw [hv];exact hf.add_ne hg (by omega)),fun t=>by rw [h2.at,hv]⟩
  ·omega
def pD(fs:List Cv)(t:Nat):Int:=(fs.map fun f=>f.at t).sum
theorem rK:∀{fs:List Cv} {s r:Cv},s.Fin->(∀f∈fs,f.Fin)->j1 s fs r 0->r.Fin/\∀t,r.at t=s.at t+pD fs t
 | [],s,r,hs,_,h=>by
   obtain⟨rfl,_⟩:=h;exact⟨hs,fun t=>by simp [pD]⟩
 | f :: fs,s,r,hs,hf,⟨t,e,h1,h2⟩=>by
   rcases h2 with ⟨rfl,h2⟩|⟨h2,_,h3⟩
   ·obtain⟨a1,a2⟩:=a4k hs (hf f (List.mem_cons_self ..)) h1;obtain⟨b1,b2⟩:=rK a1 (fun g hg=>hf g (List.mem_cons_of_mem _ hg)) h2;refine⟨b1,fun u=>?_⟩
    rw [b2,a2];simp [pD]
    omega
   ·exact absurd h3.symm h2
theorem l8:dO.Fin:=⟨oX pH ⟨Int.le_refl _,fun _=>Int.le_refl _⟩ v5,by decide⟩
theorem oI(t:Nat):dO.at t=0:=by
 have:=pH.at t
 exact this
theorem pC{f r:Cv}{d:Int}(hf:f.Fin)(h0:0<=d)(h1:d<=1073741824)(h:jZ f d r 0):r.Fin/\r.at 0=0/\∀t,0<t->r.at t=f.at t+d:=by
 have hm:=jZ.made hf.1 h0 h1 h;rcases hm.get (yE hf.1 h0 h1) with ⟨_,h1',h2⟩|⟨h3,_⟩
 ·refine⟨sL h2 h1' (fun t ht=>?_),by rw [h2.at,lS],fun t ht=>by rw [h2.at,jT ht (hf.not_infAt t)]⟩
  rcases Nat.eq_zero_or_pos t with e|e
  ·subst e;rw [lS];decide
  ·rw [jT e (hf.not_infAt t)];have:=hf.at_bd t
   have h5:(t:Int)*1073741824<=400*1073741824:=Int.mul_le_mul_of_nonneg_right (by omega) (by omega);intro e2;have:aG=4611686018427387904:=rfl
   omega
 ·omega
def aS(c:Int):Cv:=⟨[0],1,c⟩
theorem qN{c:Int}(h0:0<=c)(h1:c<=1073741824):(aS c).Fin:=by
 have hl:(aS c).vals.length=1:=rfl;have hp:(aS c).per=1:=rfl;have h00:aB (aS c).vals 0=0:=rfl;refine⟨⟨by omega,by omega,by omega,by omega,by omega,h0,h1,fun k hk=>?_,by omega,fun k hk=>by omega,fun h=>?_,fun _=>?_⟩,?_⟩
 ·obtain rfl:k=0:=by omega
  rw [h00];decide
 ·rw [hl,h00] at h;exact absurd h (by decide)
 ·rw [hl,hp];show aB (aS c).vals 0<=aB (aS c).vals 0+c
  omega
 ·rw [hl,h00];decide
theorem sX{c:Int}(h0:0<=c)(h1:c<=1073741824)(t:Nat):(aS c).at t=c*t:=by
 have hf:=qN h0 h1
 induction t with
 | zero=>
   rw [Cv.at_lt (by show 0<1;omega)];simp [aS,aB]
 | succ t ih=>
   have:=hf.step (t:=t) (by show 1<=t+1;omega)
   have e:t+(aS c).per.toNat=t+1:=rfl;rw [e] at this;rw [this,ih];show c*t+c=c*((t+1:Nat):Int)
   rw [Int.natCast_add,Int.mul_add];omega
theorem oN{a:Cv}(h:a.Fin)(t:Nat)(ht:t<=4000):0<=a.at t/\a.at t<=4300000000000/\a.at t≠4611686018427387904:=by
 have h1:=h.at_bd t;have h2:(t:Int)*1073741824<=4000*1073741824:=Int.mul_le_mul_of_nonneg_right (by omega) (by omega);omega
theorem U9(A B:Option Addr)(n m c d:Nat)(a b:Cv)(fr co dr:Int)(t:Nat)(w:World)(hA:aE w w.heap.size A n a.vals)(hB:aE w w.heap.size B m b.vals)(fa:a.Fin)(fb:b.Fin)(ht:t<=2000) :
 Calls Tryz.prog 187 #[.agg (mA A n c a B m d b fr co dr),.int .i64 t] w fun e w'=>e = .returned (.int .i64 (dif a b t))/\Below w.heap.size w w':=by
 unfold mA;have GB:=aA (aC.new w 234 #[.slice A n c,.int .i64 a.per,.int .i64 a.inc,.slice B m d,.int .i64 b.per,.int .i64 b.inc,.int .i64 fr,.int .i64 co,.int .i64 dr]);have BW:=aA (aF w (.cells #[.slice A n c,.int .i64 a.per,.int .i64 a.inc,.slice B m d,.int .i64 b.per,.int .i64 b.inc,.int .i64 fr,.int .i64 co,.int .i64 dr] 234));have IA:=aA (hA.ext BW.out);have IB:=aA (hB.ext BW.out);have la:=hA.1;have lb:=hB.1;have ha1:=fa.1.n1;have ha2:=fa.1.n2;have hap:=fa.1.p1;have hap2:=fa.1.p2;have hai:=fa.1.i1;have hai2:=fa.1.i2;have hapn:=fa.1.pn;have hb1:=fb.1.n1;have hb2:=fb.1.n2;have hbp:=fb.1.p1;have hbp2:=fb.1.p2;have hbi:=fb.1.i1;have hbi2:=fb.1.i2;have hbpn:=fb.1.pn;rw [la] at ha1 ha2 hapn;rw [lb] at hb1 hb2 hbpn;obtain⟨va,hva⟩:∃v,v=a.at t:=⟨_,rfl⟩
 obtain⟨vb,hvb⟩:∃v,v=b.at t:=⟨_,rfl⟩
 obtain⟨p1,p2,p3⟩:=oN fa t (by omega);obtain⟨q1,q2,q3⟩:=oN fb t (by omega);rw [<- hva] at p1 p2 p3;rw [<- hvb] at q1 q2 q3;have HVA:=aA hva;have HVB:=aA hvb;have FA:=aA fa;have FB:=aA fb;have e1:IntKind.i64.wrap (va-vb)=va-vb:=IntWalk.i64_in _ (by omega);have d1:(va == 4611686018427387904)=false:=by simpa using p3
 have d2:(vb == 4611686018427387904)=false:=by simpa using q3
 rw [show dif a b t=va-vb from by unfold dif;rw [hva,hvb]];clear hva hvb hA hB la lb fa fb;go_enter Tryz.func187,Tryz.ntmps187
 go_upto_region 1 with fail
 generalize hwe:w.alloc (.cells #[.slice A n c,.int .i64 a.per,.int .i64 a.inc,.slice B m d,.int .i64 b.per,.int .i64 b.inc,.int .i64 fr,.int .i64 co,.int .i64 dr] 234)=w1 at *;clear hwe;go_cut [5,6] (fun s5 s6 wx=>s5 = .int .i64 va/\s6 = .int .i64 vb/\Below w.heap.size w wx)
 case first=>
  replace GB:=aA (aC.drew GB.out);replace BW:=aA (Below.drew BW.out);have IA:=aA (show aE w1.drew w1.drew.heap.size A n a.vals from IA.out);have IB:=aA (show aE w1.drew w1.drew.heap.size B m b.vals from IB.out);obtain⟨x0,x1,x2,x3,x4,x5⟩:_/\_/\_/\_/\_/\_:=⟨GB.out.cell 0,GB.out.cell 1,GB.out.cell 2,GB.out.cell 3,GB.out.cell 4,GB.out.cell 5⟩
  simp at x0 x1 x2 x3 x4 x5;have hlx:=GB.out.lt;refine wp_region_held_drew (S:=(fun w'=>w'.cell? ⟨w.heap.size,0,none⟩=some (.slice A n c)/\w'.cell? ⟨w.heap.size,1,none⟩=some (.int .i64 a.per)/\w'.cell? ⟨w.heap.size,2,none⟩=some (.int .i64 a.inc)/\w'.cell? ⟨w.heap.size,3,none⟩=some (.slice B m d)/\w'.cell? ⟨w.heap.size,4,none⟩=some (.int .i64 b.per)/\w'.cell? ⟨w.heap.size,5,none⟩=some (.int .i64 b.inc))) (by kernel_rfl) (by exact⟨x0,x1,x2,x3,x4,x5⟩) (fun hH=>?_);clear x0 x1 x2 x3 x4 x5 hlx;generalize hwd:w1.drew=wd at *;clear hwd;obtain⟨x0,x1,x2,x3,x4,x5⟩:_/\_/\_/\_/\_/\_:=⟨GB.out.cell 0,GB.out.cell 1,GB.out.cell 2,GB.out.cell 3,GB.out.cell 4,GB.out.cell 5⟩
  simp at x0 x1 x2 x3 x4 x5;have hlx:=GB.out.lt;refine aO [0,1,2,4,5,6] ?_;(iterate 6 refine aK ?_);refine aP ?_;refine aJ 3 (fun K hK=>?_);go_simp
  refine(gA A n c a.per a.inc t a.vals _ (by exact IA.out) (by omega) hap hapn hai (by omega) FA.out.1.nn (by omega) (by omega)).mono ?_;rintro e wa ⟨rfl,hb⟩;rw [Int.toNat_natCast,<- HVA.out];replace GB:=aA (GB.out.below hb GB.out.lt);replace BW:=aA (aD BW.out hb);replace IB:=aA (IB.out.ext hb);clear hb hH;clear x0 x1 x2 x3 x4 x5 hlx;obtain⟨x0,x1,x2,x3,x4,x5⟩:_/\_/\_/\_/\_/\_:=⟨GB.out.cell 0,GB.out.cell 1,GB.out.cell 2,GB.out.cell 3,GB.out.cell 4,GB.out.cell 5⟩
  simp at x0 x1 x2 x3 x4 x5;have hlx:=GB.out.lt;refine aH hK (by exact⟨x0,x1,x2,x3,x4,x5⟩) (fun hH=>?_);refine aJ 7 (fun K hK=>?_);go_simp
  refine(gA B m d b.per b.inc t b.vals _ (by exact IB.out) (by omega) hbp hbpn hbi (by omega) FB.out.1.nn (by omega) (by omega)).mono ?_;rintro e wb ⟨rfl,hb⟩;rw [Int.toNat_natCast,<- HVB.out];replace GB:=aA (GB.out.below hb GB.out.lt);replace BW:=aA (aD BW.out hb);clear hb hH;clear x0 x1 x2 x3 x4 x5 hlx;obtain⟨x0,x1,x2,x3,x4,x5⟩:_/\_/\_/\_/\_/\_:=⟨GB.out.cell 0,GB.out.cell 1,GB.out.cell 2,GB.out.cell 3,GB.out.cell 4,GB.out.cell 5⟩
  simp at x0 x1 x2 x3 x4 x5;have hlx:=GB.out.lt;refine aH hK (by exact⟨x0,x1,x2,x3,x4,x5⟩) (fun hH=>?_);refine aO [8,9] ?_;(iterate 2 refine aK ?_);refine aP ?_;refine aT ?_;go_wp2_with fail
  go_meet
  exact⟨rfl,rfl,BW.out⟩
 case rest=>
  obtain⟨rfl,rfl,bw⟩:=hcut;clear GB BW IA IB HVA HVB FA FB;go_wp2_with fail
  go_ret
  exact⟨rfl,bw⟩
theorem a36{x:Int}(h:x<=4300000000000):x≠aG:=by
 intro e;rw [e] at h;exact absurd h (by decide)
theorem qV{f a:Cv}(hf:f.Fin)(h:NF f.at a)(ho:a.Ok):a.Fin:=by
 refine⟨ho,fun e=>?_⟩
 have h1:=ho.at_inf e (t:=a.vals.length) (by omega);have h2:=ho.n2;rw [h.at,<- show f.at a.vals.length=f.at a.vals.length from rfl] at h1;have:=(oN hf a.vals.length (by omega)).2.2
 exact this h1
def lB(f g:Cv)(r:Cv)(er:Int):Prop:=∃a b,NF f.at a/\NF g.at b/\a.Fin/\b.Fin/\
 ((120<aI a b/\r=Cv.none/\er=3)\/(aI a b<=120/\((lE a b/\r=Cv.none/\er=3)\/(¬lE a b/\eK (eH a b) r er))))
theorem a2e(V G N c0:Nat)(zs:List Int)(h:Nat->Int)(t:Nat)(w:World)(hV:aC w V 22 #[.slice (some ⟨G,0,none⟩) N c0])(hG:aU w G zs)(hz:zs.length=N)(hv:aB zs t=h t)(ht:t<N) :
 Calls Tryz.prog 188 (#[.int .i64 t] ++ #[.pointer (some ⟨V,0,none⟩)]) w fun e w'=>e = .returned (.int .i64 (h t))/\Below w.heap.size w w':=by
 show Calls _ _ #[.int .i64 t,.pointer (some ⟨V,0,none⟩)] _ _
 have v0:=hV.cell 0;simp at v0;have hvl:=hV.lt;have q:=hG.cell t (by omega);have hgl:=hG.lt;rw [hv] at q;have hti:(t:Int)<N:=by omega
 clear hV hG;go_enter Tryz.func188,Tryz.ntmps188
 go_wp2_with fail
 go_ret
 exact⟨rfl,Below.refl _ _⟩
structure gM(w wx:World)(GB:Nat)(A:Option Addr)(n c:Nat)(a:Cv)(B:Option Addr)(m d:Nat)(b:Cv):Prop where
 gb:aC wx GB 234 #[.slice A n c,.int .i64 a.per,.int .i64 a.inc,.slice B m d,.int .i64 b.per,.int .i64 b.inc,.int .i64 (aL a b:Nat),.int .i64 (aI a b:Nat),.int .i64 (dG a b)]
 ia:aE wx wx.heap.size A n a.vals
 ib:aE wx wx.heap.size B m b.vals
 rb:aC wx (w.heap.size+1+1) 26 #[.slice none 0 0,.int .i64 0,.int .i64 0]
 bw:Below w.heap.size w wx
 ap:(∀g o s,A=some ⟨g,o,s⟩->g<GB)/\(∀g o s,B=some ⟨g,o,s⟩->g<GB)
section
variable{w wx wy:World}{GB n c m d:Nat}{A B:Option Addr}{a b:Cv}
theorem gM.below(h:gM w wx GB A n c a B m d b)(hb:Below wx.heap.size wx wy):gM w wy GB A n c a B m d b:=⟨h.gb.below hb h.gb.lt,h.ia.ext hb,h.ib.ext hb,h.rb.below hb h.rb.lt,aD h.bw hb,h.ap⟩
theorem gM.drew(h:gM w wx GB A n c a B m d b):gM w wx.drew GB A n c a B m d b:=⟨h.gb,h.ia,h.ib,h.rb,Below.drew h.bw,h.ap⟩
theorem gM.far(h:gM w wx GB A n c a B m d b){g i:Nat}{v:Value}(h1:GB<g)(h2:w.heap.size+1+1<g):gM w (wx.setCell ⟨g,i,none⟩ v) GB A n c a B m d b:=
 have s:=(aR.refl g wx).set i v
 ⟨h.gb.sto s (by omega),h.ia.sto s (fun b o t e=>by have:=h.ap.1 b o t e;omega),h.ib.sto s (fun b o t e=>by have:=h.ap.2 b o t e;omega),h.rb.sto s (by omega),h.bw.setCell (by show w.heap.size<=g;omega) _,h.ap⟩
theorem gM.cells(h:gM w wx GB A n c a B m d b):(wx.cell? ⟨GB,0,none⟩=some (.slice A n c)/\wx.cell? ⟨GB,1,none⟩=some (.int .i64 a.per)/\wx.cell? ⟨GB,2,none⟩=some (.int .i64 a.inc)/\wx.cell? ⟨GB,3,none⟩=some (.slice B m d)/\wx.cell? ⟨GB,4,none⟩=some (.int .i64 b.per)/\wx.cell? ⟨GB,5,none⟩=some (.int .i64 b.inc))/\
 wx.cell? ⟨GB,6,none⟩=some (.int .i64 (aL a b:Nat))/\wx.cell? ⟨GB,7,none⟩=some (.int .i64 (aI a b:Nat))/\wx.cell? ⟨GB,8,none⟩=some (.int .i64 (dG a b))/\GB<wx.heap.size:=
 ⟨⟨h.gb.cell 0,h.gb.cell 1,h.gb.cell 2,h.gb.cell 3,h.gb.cell 4,h.gb.cell 5⟩,h.gb.cell 6,h.gb.cell 7,h.gb.cell 8,h.gb.lt⟩
end
theorem a2f(A0 B0:Option Addr)(n0 m0 c0 d0:Nat)(p i q j:Int)(xs ys:List Int)(w:World)(hA:aE w w.heap.size A0 n0 xs)(hB:aE w w.heap.size B0 m0 ys)(hn:(n0:Int)<=1000000)(hm:(m0:Int)<=1000000)(hf:Cv.Fin ⟨xs,p,i⟩)(hg:Cv.Fin ⟨ys,q,j⟩) :
 Calls Tryz.prog 181 #[.agg #[.slice A0 n0 c0,.int .i64 p,.int .i64 i],.agg #[.slice B0 m0 d0,.int .i64 q,.int .i64 j]] w (dI (lB ⟨xs,p,i⟩ ⟨ys,q,j⟩) w):=by
 have P:=aA ((PS.new (c:=c0) (p:=p) (i:=i) (d:=d0) (q:=q) (j:=j) hA hB).alloc (.cells #[.slice none 0 0,.int .i64 0,.int .i64 0] 26));have rb:=aC.new ((w.alloc (.cells #[.slice A0 n0 c0,.int .i64 p,.int .i64 i] 26)).alloc (.cells #[.slice B0 m0 d0,.int .i64 q,.int .i64 j] 26)) 26 #[.slice none 0 0,.int .i64 0,.int .i64 0];rw [World.size_alloc,World.size_alloc] at rb;have RB:=aA rb;have HF:=aA hf;have HG:=aA hg;clear hA hB rb hf hg;go_enter Tryz.func181,Tryz.ntmps181
 obtain⟨f0,f1,f2,g0,g1,g2,hlf,hlg⟩:=P.out.cells;go_wp2_with fail
 refine(a2k A0 B0 n0 m0 c0 d0 p i q j xs ys _ P.out.ia P.out.ib hn hm).mono ?_;clear f0 f1 f2 g0 g1 g2 hlf hlg;rintro e w1 (⟨er,hbad,rfl,hb⟩|⟨_,_,a,b,A,n,c,B,m,d,na,nb,oa,ob,hC,rfl,hIA,hIB,hAl,hBl,hb⟩)
 ·
  rcases hbad with ⟨h,_⟩|⟨_,_,rfl,a,b,na,nb,oa,ob,hC⟩
  ·exact absurd ⟨HF.out.1,HG.out.1⟩ h
  have F:=aA (show lB ⟨xs,p,i⟩ ⟨ys,q,j⟩ Cv.none 3 from⟨a,b,na,nb,qV HF.out na oa,qV HG.out nb ob,.inl ⟨hC,rfl,rfl⟩⟩);replace RB:=aA ((RB.out.below hb RB.out.lt).alloc (.cells iX 234));have BW:=aA (aD (aD P.out.bw hb) (aF _ (.cells iX 234)));clear hb hC na nb oa ob;unfold iX at RB BW ⊢;obtain⟨⟨r0,r1,r2⟩,⟨y0,y1,y2⟩,hlr⟩:=RB.out.c3;go_wp2_with fail
  have rb:=RB.out.store3 (.slice none 0 0) (.int .i64 0) (.int .i64 0);exact bodyPost_ret (v:=.tuple #[.agg #[.slice none 0 0,.int .i64 0,.int .i64 0],.int .i64 3]) (by simp [results,Tryz.results181,go_sem,rb.cell]) rfl (kB F.out (cO BW.out (by omega) _ _ _))
 have fa:=qV HF.out na oa;have fb:=qV HG.out nb ob;have hO:=iG oa ob;have hCC:aI a b<=120:=hC;have hF0:=hO.f0;have hC1:=hO.c1;have hD1:=hO.d1;have hD2:=hO.d2;have la:=hIA.1;have lb:=hIB.1;have ha1:=oa.n1;have ha2:=oa.n2;have hb1:=ob.n1;have hb2:=ob.n2;rw [la] at ha1 ha2;rw [lb] at hb1 hb2;have hs1:=hb.size;simp only [World.size_alloc] at hs1 hAl hBl;have E:=aA (show gM w (w1.alloc (.cells (mA A n c a B m d b (aL a b:Nat) (aI a b:Nat) (dG a b)) 234)) w1.heap.size A n c a B m d b from
  ⟨aC.new _ _ _,hIA.alloc' _,hIB.alloc' _,(RB.out.below hb RB.out.lt).alloc _,aD (aD P.out.bw hb) (aF _ _),
   (fun g o s e=>by
    obtain⟨g',o',e',hl,_⟩:=hIA.2 (by omega);rw [e] at e';cases e';exact hl),(fun g o s e=>by
    obtain⟨g',o',e',hl,_⟩:=hIB.2 (by omega);rw [e] at e';cases e';exact hl)⟩)
 have NA:=aA na;have NB:=aA nb;have FA:=aA fa;have FB:=aA fb;have hGB:w.heap.size+1+1<w1.heap.size:=by omega
 clear hIA hIB hAl hBl hb P RB na nb fa fb la lb hs1;unfold mA at E ⊢;go_upto_region 4 with fail
 generalize hwe:w1.alloc (.cells #[.slice A n c,.int .i64 a.per,.int .i64 a.inc,.slice B m d,.int .i64 b.per,.int .i64 b.inc,.int .i64 (aL a b:Nat),.int .i64 (aI a b:Nat),.int .i64 (dG a b)] 234)=w2 at *;clear hwe;generalize w1.heap.size=GB at *;obtain⟨F,hF⟩:∃F,F=aL a b:=⟨_,rfl⟩
 obtain⟨C,hCe⟩:∃C,C=aI a b:=⟨_,rfl⟩
 obtain⟨D,hDe⟩:∃D,D=dG a b:=⟨_,rfl⟩
 obtain⟨f1,hf1⟩:∃f1:Nat,f1=F+C:=⟨_,rfl⟩
 rw [<- hF] at hF0;rw [<- hCe] at hCC hC1;rw [<- hDe] at hD1 hD2;have e1:IntKind.i64.wrap ((F:Int)+(C:Int))=(f1:Int):=by rw [IntWalk.i64_in _ (by omega)];omega
 have hf1b:f1<=520:=by omega
 have HFe:=aA hF;have HCe:=aA hCe;have HDe:=aA hDe;have Hf1:=aA hf1;have z1:(aB a.vals (n-1) != aG)=true:=by have:=FA.out.2;rw [show a.vals.length=n from E.out.ia.1] at this;simpa using this
 have z2:(aB b.vals (m-1) != aG)=true:=by have:=FB.out.2;rw [show b.vals.length=m from E.out.ib.1] at this;simpa using this
 have Z1:=aA z1;have Z2:=aA z2;clear z1 z2 hC hf1;obtain⟨⟨x0,x1,x2,x3,x4,x5⟩,x6,x7,x8,hlx⟩:=E.out.cells;rw [<- hF] at x6;rw [<- hCe] at x7;rw [<- hDe] at x8;have X6:=aA (fun (wq:World) (h:gM w wq GB A n c a B m d b)=>(by obtain⟨_,h6,h7,h8,_⟩:=h.cells;rw [hF,hCe,hDe];exact⟨h6,h7,h8⟩:wq.cell? ⟨GB,6,none⟩=some (.int .i64 F)/\wq.cell? ⟨GB,7,none⟩=some (.int .i64 C)/\wq.cell? ⟨GB,8,none⟩=some (.int .i64 D)));clear hF hCe hDe;go_wp2_with fail
 refine(gN A n c a.per a.inc a.vals _ (by exact E.out.ia) (by omega) (by omega)).mono ?_;rw [Z1.out];rintro e w3 ⟨rfl,hb⟩;replace E:=aA (E.out.below hb);clear hb e1;clear x0 x1 x2 x3 x4 x5 x6 x7 x8 hlx;obtain⟨⟨x0,x1,x2,x3,x4,x5⟩,-,-,-,hlx⟩:=E.out.cells;obtain⟨x6,x7,x8⟩:=X6.out _ E.out;go_wp2_with fail
 refine(gN B m d b.per b.inc b.vals _ (by exact E.out.ib) (by omega) (by omega)).mono ?_;rw [Z2.out];rintro e w4 ⟨rfl,hb⟩;replace E:=aA (E.out.below hb);clear hb;clear x0 x1 x2 x3 x4 x5 x6 x7 x8 hlx;obtain⟨⟨x0,x1,x2,x3,x4,x5⟩,-,-,-,hlx⟩:=E.out.cells;obtain⟨x6,x7,x8⟩:=X6.out _ E.out;obtain⟨z,hz⟩:∃z,z=decide (0<D):=⟨_,rfl⟩
 have ez:decide (D>0)=z:=hz.symm;have ez':decide (0<D)=z:=hz.symm;have HZ:=aA hz;clear hz
 go_upto_if 43 with (fail)
 go_cut [8,9,10] (fun s8 s9 s10 wx=>s8 = .int .i64 (fM a b:Nat)/\s9 = .int .i64 (iW a b:Nat)/\s10 = .int .i64 (gT a b)/\gM w wx GB A n c a B m d b)
 case first=>
  cases z
  case false=>
   have hd:¬0<dG a b:=by rw [<- HDe.out];exact of_decide_eq_false HZ.out.symm
   have r1:fM a b=f1:=by unfold fM;rw [if_neg hd,<- HFe.out,<- HCe.out,Hf1.out]
   have r2:iW a b=1:=by unfold iW;rw [if_neg hd]
   have r3:gT a b=0:=by unfold gT;rw [if_neg hd]
   have R1:=aA r1;have R2:=aA r2;have R3:=aA r3;clear hd r1 r2 r3 ez ez';go_wp2_with fail
   go_meet
   exact⟨by rw [R1.out],by rw [R2.out];rfl,by rw [R3.out],E.out⟩
  case true=>
   have hd:0<dG a b:=by rw [<- HDe.out];exact of_decide_eq_true HZ.out.symm
   have r1:fM a b=max 400 f1:=by unfold fM;rw [if_pos hd,<- HFe.out,<- HCe.out,Hf1.out]
   have r2:iW a b=C:=by unfold iW;rw [if_pos hd,HCe.out]
   have r3:gT a b=D:=by unfold gT;rw [if_pos hd,HDe.out]
   obtain⟨f2,hf2⟩:∃f2:Nat,f2=max 400 f1:=⟨_,rfl⟩
   rw [<- hf2] at r1;have hmx:(if(400:Int)<(f1:Int) then (f1:Int) else 400)=(f2:Int):=by rw [hf2];split <;> omega
   have R1:=aA r1;have R2:=aA r2;have R3:=aA r3;clear hd r1 r2 r3 hf2 ez ez';go_wp2_with fail
   go_region
   all_goals
    go_wp2_with fail
    go_meet
    exact⟨by rw [R1.out],by rw [R2.out],by rw [R3.out],E.out.drew⟩
 case rest=>
  clear E X6 HZ;clear x0 x1 x2 x3 x4 x5 x6 x7 x8 hlx;obtain⟨rfl,rfl,rfl,hE⟩:=hcut;have E:=aA hE;clear hE;obtain⟨fr,hfr⟩:∃fr,fr=fM a b:=⟨_,rfl⟩
  obtain⟨pr,hpr⟩:∃pr,pr=iW a b:=⟨_,rfl⟩
  obtain⟨ic,hic⟩:∃ic,ic=gT a b:=⟨_,rfl⟩
  rw [<- hfr,<- hpr,<- hic];have hfr1:F+C<=fr:=by rw [hfr];unfold fM;split <;> rw [<- HFe.out,<- HCe.out] <;> omega
  have hfr2:fr<=520:=by rw [hfr];unfold fM;split <;> rw [<- HFe.out,<- HCe.out] <;> omega
  have hpr1:1<=pr:=by rw [hpr];unfold iW;split <;> (try rw [<- HCe.out]) <;> omega
  have hpr2:pr<=120:=by rw [hpr];unfold iW;split <;> (try rw [<- HCe.out]) <;> omega
  have hic1:0<=ic:=by rw [hic];unfold gT;split <;> omega
  have hic2:ic<=128849018880:=by rw [hic];unfold gT;split <;> (try rw [<- HDe.out]) <;> omega
  have HFR:=aA hfr;have HPR:=aA hpr;have HIC:=aA hic;clear hfr hpr hic;obtain⟨N,hN⟩:∃N:Nat,N=fr+pr:=⟨_,rfl⟩
  have e1:IntKind.i64.wrap ((fr:Int)+(pr:Int))=(N:Int):=by rw [IntWalk.i64_in _ (by omega)];omega
  have hNb:N<=640:=by omega
  have hN1:fr<N:=by omega
  have HN:=aA hN;clear hN;obtain⟨i0,hi0,hz0,hy1,hy2⟩:=info_parts iE;go_upto_region 8 with (at_make;refine wpList_make_full _ rfl _ _ 22 rfl wc.heap.size 3 i0 _ 1 Tryz.underlying22 hi0 hz0 hy1 .i64 .i64 _ _ N rfl rfl rfl rfl (by rw [hy2];omega) (by unfold maxLen;omega) (by simp) ?_;intro w5 own1 grow1)
  have hb3:Below wc.heap.size wc w5:=(Below.refl _ _).grown grow1 (by simp) (by simp);have SM:=aA ((mC own1).below (aF w5 (.cells #[.slice (some ⟨wc.heap.size,0,none⟩) N N] 22)) (mC own1).lt);have VB:=aA (aC.new w5 22 #[.slice (some ⟨wc.heap.size,0,none⟩) N N]);have hGl:=E.out.gb.lt;have hRl:=E.out.rb.lt;have hsz:=hb3.size;have hgv:wc.heap.size<w5.heap.size:=(mC own1).lt;have E:=aA ((E.out.below hb3).below (aF w5 (.cells #[.slice (some ⟨wc.heap.size,0,none⟩) N N] 22)));clear hi0 hz0 hy1 hy2 own1 grow1 hb3 e1;generalize hwe:w5.alloc (.cells #[.slice (some ⟨wc.heap.size,0,none⟩) N N] 22)=w6 at *;clear hwe;generalize wc.heap.size=G at *;generalize w5.heap.size=V at *;have hvl:=VB.out.lt;have v0:=VB.out.cell 0;simp at v0;go_wp2_with fail
  clear v0 hvl;go_loopg [12,13,56] N (fun gg s12 s13 s56 wx=>∃(k:Nat) (zs:List Int),k+gg=N/\s56 = .int .i64 k/\s12 = .int .i64 (cP (dif a b) 0 (min k (aL a b)))/\s13 = .int .i64 (fY a b (k-aL a b))/\j3 (eH a b) zs N k/\aU wx G zs/\aC wx V 22 #[.slice (some ⟨G,0,none⟩) N N]/\gM w wx GB A n c a B m d b/\Hid (fr<k->¬lE a b))
  case atStart=>exact⟨0,List.replicate N 0,by omega,rfl,by rw [Nat.zero_min];rfl,by rw [Nat.zero_sub];rfl,⟨by simp,fun x hx=>by omega⟩,SM.out,VB.out,E.out,aA (fun h=>by omega)⟩
  case round=>
   clear SM VB E;obtain⟨k,zs,hkg,rfl,rfl,rfl,hu,hR,hV,hE,NBD⟩:=hrel;have SM:=aA hR;have E:=aA hE;have HU:=aA hu;have VB:=aA hV;clear hR hE hu hV;obtain⟨mk,hmk⟩:∃v,v=cP (dif a b) 0 (min k (aL a b)):=⟨_,rfl⟩
   obtain⟨tk,htk⟩:∃v,v=fY a b (k-aL a b):=⟨_,rfl⟩
   rw [<- hmk,<- htk];have HMK:=aA hmk;have HTK:=aA htk;clear hmk htk;by_cases hk:k<N
   case pos=>
    have hki:(k:Int)<N:=by omega
    obtain⟨⟨x0,x1,x2,x3,x4,x5⟩,x6,x7,x8,hlx⟩:=E.out.cells;go_wp2_with fail
    refine(U9 A B n m c d a b _ _ _ k _ (by exact E.out.ia) (by exact E.out.ib) FA.out FB.out (by omega)).mono ?_;obtain⟨dv,hdv⟩:∃v,v=dif a b k:=⟨_,rfl⟩
    rw [<- hdv];have HDV:=aA hdv;clear hdv;rintro e wa ⟨rfl,hb⟩;have hsl:=SM.out.lt;have hvl:=VB.out.lt;replace E:=aA (E.out.below hb);replace SM:=aA (SM.out.below hb hsl);replace VB:=aA (VB.out.below hb hvl);clear x0 x1 x2 x3 x4 x5 x6 x7 x8 hlx;clear hb hsl hvl;obtain⟨mn,hmn⟩:∃v,v=cP (dif a b) 0 (min (k+1) (aL a b)):=⟨_,rfl⟩
    obtain⟨tn,htn⟩:∃v,v=fY a b (k+1-aL a b):=⟨_,rfl⟩
    obtain⟨⟨x0,x1,x2,x3,x4,x5⟩,x6,x7,x8,hlx⟩:=E.out.cells
    go_upto_if 65 with (fail)
    go_cut [12,13] (fun s12 s13 wx=>s12 = .int .i64 mn/\s13 = .int .i64 tn/\wx=wa)
    case first=>
     clear x0 x1 x2 x3 x4 x5;by_cases hkF:k<aL a b
     ·have q1:mn=if mk<dv then dv else mk:=by
       rw [hmn,HMK.out,HDV.out,show min (k+1) (aL a b)=min k (aL a b)+1 by omega];show max (cP (dif a b) 0 (min k (aL a b))) (dif a b (min k (aL a b)))=_
       rw [show min k (aL a b)=k by omega];split <;> omega
      have q2:tn=tk:=by rw [htn,HTK.out,show k+1-aL a b=k-aL a b by omega]
      have q1':(if mk<dv then dv else mk)=mn:=q1.symm;have hkf:¬(aL a b:Int)<=(k:Int):=by omega
      have hkf':(k:Int)<(aL a b:Int):=by omega
      have Q2:=aA q2;clear q1 q2 hmn htn;go_wp2_with fail
      go_meet
      exact⟨rfl,by rw [Q2.out],rfl⟩
     ·have q1:tn=if tk<dv then dv else tk:=by
       rw [htn,HTK.out,HDV.out,show k+1-aL a b=k-aL a b+1 by omega];show max (fY a b (k-aL a b)) (dif a b (aL a b+(k-aL a b)))=_
       rw [show aL a b+(k-aL a b)=k by omega];split <;> omega
      have q2:mn=mk:=by rw [hmn,HMK.out,show min (k+1) (aL a b)=min k (aL a b) by omega]
      have q1':(if tk<dv then dv else tk)=tn:=q1.symm;have hkf:(aL a b:Int)<=(k:Int):=by omega
      have Q2:=aA q2;clear q1 q2 hmn htn;go_wp2_with fail
      go_meet
      exact⟨by rw [Q2.out],rfl,rfl⟩
    case rest=>
    obtain⟨rfl,rfl,rfl⟩:=hcut;have HMN:=aA hmn;have HTN:=aA htn;obtain⟨v,hv⟩:∃v,v=eH a b k:=⟨_,rfl⟩
    have q1:(if mn<tn then tn else mn)=v:=by
     rw [hv,a2j,hmn,htn];split <;> omega
    have F1:=aA (HU.out.step hk);rw [<- hv] at F1;have q0:=SM.out.cell k (by rw [HU.out.1];exact hk);have z0:=SM.out.frozen k;have hlt:=SM.out.lt;have v0:=VB.out.cell 0;simp at v0;have hvl:=VB.out.lt;clear hmn htn hv;go_upto_region 17 with fail
    have hGG:GB<G:=by omega
    have S2:=aA (SM.out.set_ k (by rw [HU.out.1];exact hk) v);have V2:=aA (VB.out.far (p:=⟨G,k,none⟩) (by show V≠G;omega) (.int .i64 v));have E2:=aA (E.out.far (g:=G) (i:=k) (v:=.int .i64 v) hGG (by omega));generalize hws:wc.setCell ⟨G,k,none⟩ (.int .i64 v)=ws at *;clear hws q0 z0 hlt v0 hvl SM VB E;clear x0 x1 x2 x3 x4 x5 x6 x7 x8 hlx;have hfrF:aL a b<fr:=by rw [<- HFe.out];omega
    by_cases hkf:k=fr
    case neg=>
     have d1:((k:Int) == (fr:Int))=false:=by simp;omega
     have NB2:=aA (show fr<k+1->¬lE a b from fun h=>NBD.out (by omega));go_wp2_with fail
     go_roundg (gk-1)
     case measure=>omega
     case rel=>exact⟨k+1,_,by omega,by go_num,by rw [HMN.out],by rw [HTN.out],F1.out,S2.out,V2.out,E2.out,NB2⟩
    case pos=>
    have d1:((k:Int) == (fr:Int))=true:=by simp;omega
    by_cases hic:0<ic
    case neg=>
     have d2:decide (0<ic)=false:=by simpa using hic
     have NB2:=aA (show fr<k+1->¬lE a b from fun _ h=>hic (by rw [HIC.out];unfold gT;rw [if_pos h.1];exact h.1));clear hkf;go_wp2_with fail
     go_roundg (gk-1)
     case measure=>omega
     case rel=>exact⟨k+1,_,by omega,by go_num,by rw [HMN.out],by rw [HTN.out],F1.out,S2.out,V2.out,E2.out,NB2⟩
    case pos=>
    have d2:decide (0<ic)=true:=by simpa using hic
    have hD0:0<dG a b:=by
     rw [HIC.out] at hic;unfold gT at hic;split at hic
     ·assumption
     ·omega
    have EM:mn=cP (dif a b) 0 (aL a b):=by rw [HMN.out,show min (k+1) (aL a b)=aL a b by omega]
    have ET:tn=fY a b (fM a b+1-aL a b):=by rw [HTN.out,<- HFR.out,hkf]
    by_cases hlt:tn<mn
    case neg=>
     have d3:decide (tn<mn)=false:=by simpa using hlt
     have NB2:=aA (show fr<k+1->¬lE a b from fun _ h=>hlt (by rw [EM,ET];exact h.2));clear hkf EM ET;go_wp2_with fail
     go_roundg (gk-1)
     case measure=>omega
     case rel=>exact⟨k+1,_,by omega,by go_num,by rw [HMN.out],by rw [HTN.out],F1.out,S2.out,V2.out,E2.out,NB2⟩
    case pos=>
     have d3:decide (tn<mn)=true:=by simpa using hlt
     have F:=aA (show lB ⟨xs,p,i⟩ ⟨ys,q,j⟩ Cv.none 3 from⟨a,b,NA.out,NB.out,FA.out,FB.out,.inr ⟨by rw [<- HCe.out];exact hCC,.inl ⟨⟨hD0,by rw [<- EM,<- ET];exact hlt⟩,rfl,rfl⟩⟩⟩);have RB:=aA E2.out.rb;have BW:=aA E2.out.bw;clear hkf EM ET;obtain⟨⟨r0,r1,r2⟩,⟨y0,y1,y2⟩,hlr⟩:=RB.out.c3;go_wp2_with fail
     have rb:=RB.out.store3 (.slice none 0 0) (.int .i64 0) (.int .i64 0);exact bodyPost_ret (v:=.tuple #[.agg #[.slice none 0 0,.int .i64 0,.int .i64 0],.int .i64 3]) (by simp [results,Tryz.results181,go_sem,rb.cell]) rfl (kB F.out (cO BW.out (by omega) _ _ _))
   case neg=>
    have hki:¬(k:Int)<N:=by omega
    have hkN:k=N:=by omega
    have NBB:=aA (NBD.out (by omega));have HDN:=aA (show j3 (eH a b) zs N N by have h9:=HU.out;rw [hkN] at h9;exact h9);have hsl:=SM.out.lt;have hvl:=VB.out.lt;have fr0:((fr:Nat):Int).toNat=fr:=Int.toNat_natCast _;have pr0:((pr:Nat):Int).toNat=pr:=Int.toNat_natCast _;have HBD:=aA (fun (t:Nat) (ht:t<N)=>(⟨lT _ _ _,rC (by omega) (fun j hj=>by
     have h1:=oN FA.out j (by omega);have h2:=oN FB.out j (by omega);unfold dif;omega)⟩:0<=eH a b t/\eH a b t<=4300000000000))
    clear hk hkg hkN;go_wp2_with fail
    refine(p9 188 #[.pointer (some ⟨V,0,none⟩)] fr pr ic (eH a b) _ (by omega) (by omega) (by omega) (by omega) hic1 (by omega)
     (fun k hk=>by have:=HBD.out k (by rw [HN.out];omega);omega)
     (aA (fun t w4 ht hb=>a2e V G N N zs (eH a b) t w4 (VB.out.below hb hvl) (SM.out.below hb hsl) HDN.out.1 (HDN.out.2 t (by rw [HN.out];omega)) (by rw [HN.out];omega))) (fun x w=>by kernel_rfl)).mono ?_
    rw [fr0,pr0];rintro e w7 ⟨f,er,hS,A5,n5,c5,hc5,rfl,hI5,hA5,hb⟩;have hM:=i9 (h:=eH a b) (s:=fr) (p:=pr) (i:=ic) (by omega) (fun t u h1 _ h=>absurd h (a36 (HBD.out t (by rw [HN.out];omega)).2)) (fun _=>by
     rw [HFR.out,HPR.out,HIC.out];exact a2h FA.out FB.out (by rw [<- HCe.out];exact hC1) NBB.out) hS
    have F:=aA (show lB ⟨xs,p,i⟩ ⟨ys,q,j⟩ f er from⟨a,b,NA.out,NB.out,FA.out,FB.out,.inr ⟨by rw [<- HCe.out];exact hCC,.inr ⟨NBB.out,hM⟩⟩⟩);have hsz5:=E.out.rb.lt;have RB:=aA (E.out.rb.below hb E.out.rb.lt);have BW:=aA (aD E.out.bw hb);have HI5:=aA hI5;have HA5:=aA hA5;clear hS hI5 hA5 hb hM E SM VB;obtain⟨⟨r0,r1,r2⟩,⟨y0,y1,y2⟩,hlr⟩:=RB.out.c3;go_wp2_with fail
    have rb:=RB.out.store3 (.slice A5 n5 c5) (.int .i64 f.per) (.int .i64 f.inc);exact bodyPost_ret (v:=.tuple #[.agg #[.slice A5 n5 c5,.int .i64 f.per,.int .i64 f.inc],.int .i64 er]) (by simp [results,Tryz.results181,go_sem,rb.cell]) rfl (fX F.out HA5.out (by omega) (by omega) HI5.out BW.out)
end Go.Proofs.YtaejfleahamapaaGreat
