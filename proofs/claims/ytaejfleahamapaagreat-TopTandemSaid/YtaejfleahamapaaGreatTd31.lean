/- . -/
import Derived.StillTailTactics
import Derived.Test.YtaejfleahamapaaGreatTd17
namespace Go.Proofs.YtaejfleahamapaaGreat
set_option linter.unusedVariables false
set_option linter.unusedSimpArgs false
set_option maxHeartbeats 4000000
set_option maxRecDepth 100000
open Go.RowKit
theorem t7(gs n c bef i:Nat)(t left:Int)(A Bg:Option Addr)(ps:List PK)(bs:List Bool)(w:World)(h:SE w gs t left A n c ps Bg bs bef)(hi:i<n)(hn:n<=60) :
 Calls Tryz.prog 218 #[.pointer (some ⟨gs,0,none⟩),.int .i64 i] w fun e w'=>e = .returned (.int .i64 (eL ps i))/\w'=w:=by
 have s2:=h.st.cell 2;simp at s2;have hlg:=h.st.lt;obtain⟨g,o,hA,hr⟩:=h.tr.2.2 (by omega);subst hA;obtain⟨x,hx,x0,x1,x2⟩:=hr.get (k:=i) (by rw [h.tr.1];exact hi);have hgl:=hr.lt;rw [kU hx];have hii:(i:Int)<n:=by omega
 clear h hr hx;go_enter Tryz.func218,Tryz.ntmps218
 go_wp2_with fail
 go_ret
 exact⟨rfl,rfl⟩
structure fZ(w:World)(bV gQ gD cl:Nat)(bg:Bool)(qs ds:List Int):Prop where
 bv:aC w bV 249 #[.slice (some ⟨gQ,0,none⟩) 2 2,.slice (some ⟨gD,0,none⟩) 2 2,.int .i64 cl,.bool bg]
 bq:aN w gQ qs
 bd:aN w gD ds
 ln:qs.length=2/\ds.length=2
 q1:∀k,k<2->1<=aB qs k/\aB qs k<=6000
 d1:∀k,k<2->0<=aB ds k/\aB ds k<=1500+(if k=cl/\bg=true then 6000 else 0)
 cl2:cl<2
 ne:bV≠gQ/\bV≠gD/\gQ≠gD
section
variable{w w':World}{bV gQ gD cl:Nat}{bg:Bool}{qs ds:List Int}{X:Nat->Prop}
theorem fZ.kx(h:fZ w bV gQ gD cl bg qs ds)(k:KX X w w')(h1:¬X bV)(h2:¬X gQ)(h3:¬X gD):fZ w' bV gQ gD cl bg qs ds:=
 ⟨h.bv.kx k h1,h.bq.kx k h2,h.bd.kx k h3,h.ln,h.q1,h.d1,h.cl2,h.ne⟩
theorem fZ.drewN(h:fZ w bV gQ gD cl bg qs ds)(n:Nat):fZ (w.drewN n) bV gQ gD cl bg qs ds:=⟨h.bv,h.bq,h.bd,h.ln,h.q1,h.d1,h.cl2,h.ne⟩
theorem fZ.setD(h:fZ w bV gQ gD cl bg qs ds)(x:Int)(h0:0<=x)(h1:x<=1500+(if bg=true then 6000 else 0)):fZ (w.setCell ⟨gD,cl,none⟩ (.int .i64 x)) bV gQ gD cl bg qs (ds.set cl x):=
 ⟨h.bv.far (p:=⟨gD,cl,none⟩) h.ne.2.1 _,h.bq.far (p:=⟨gD,cl,none⟩) h.ne.2.2 _,h.bd.set_ cl x,⟨h.ln.1,by rw [List.length_set];exact h.ln.2⟩,h.q1,fun k hk=>by
  have:=h.d1 k hk
  rw [eQ _ _ _ _ (by rw [h.ln.2];exact h.cl2)];by_cases e:k=cl
  ·rw [if_pos e];simp only [e,true_and];exact⟨h0,h1⟩
  ·rw [if_neg e];exact this,h.cl2,h.ne⟩
theorem fZ.setB(h:fZ w bV gQ gD cl false qs ds):fZ (w.setCell ⟨bV,3,none⟩ (.bool true)) bV gQ gD cl true qs ds:=
 ⟨by simpa using h.bv.set_ 3 (.bool true),h.bq.far (p:=⟨bV,3,none⟩) (fun e=>h.ne.1 e.symm) _,h.bd.far (p:=⟨bV,3,none⟩) (fun e=>h.ne.2.1 e.symm) _,h.ln,h.q1,fun k hk=>by have:=h.d1 k hk;simp at this;split <;> omega,h.cl2,h.ne⟩
theorem fZ.next(h:fZ w bV gQ gD cl bg qs ds)(d:Nat)(hd:d<2)(hx:aB ds cl<=1500):fZ ((w.setCell ⟨bV,2,none⟩ (.int .i64 d)).setCell ⟨bV,3,none⟩ (.bool false)) bV gQ gD d false qs ds:=
 ⟨by simpa using (h.bv.set_ 2 (.int .i64 d)).set_ 3 (.bool false),(h.bq.far (p:=⟨bV,2,none⟩) (fun e=>h.ne.1 e.symm) _).far (p:=⟨bV,3,none⟩) (fun e=>h.ne.1 e.symm) _,(h.bd.far (p:=⟨bV,2,none⟩) (fun e=>h.ne.2.1 e.symm) _).far (p:=⟨bV,3,none⟩) (fun e=>h.ne.2.1 e.symm) _,h.ln,h.q1,fun k hk=>by
  have:=h.d1 k hk
  by_cases e:k=cl
  ·subst e;simp;exact⟨this.1,hx⟩
  ·rw [if_neg (fun h=>e h.1)] at this;simp;omega,hd,h.ne⟩
end
structure eF(w wx:World)(gs n c bV gQ gD cl:Nat)(bg:Bool)(t left:Int)(A Bg:Option Addr)(ps:List PK)(bs:List Bool)(qs ds:List Int):Prop where
 e:∃b2,SE wx gs t left A n c ps Bg bs b2
 m:fZ wx bV gQ gD cl bg qs ds
 k:KX (fun k=>k=gs\/k=bV\/k=gD) w wx
 nn:gs≠bV/\gs≠gQ/\gs≠gD
 na:∀g o,0<n->A=some ⟨g,o,none⟩->g≠bV/\g≠gD
section
variable{w wx wy:World}{gs n c bV gQ gD cl:Nat}{bg:Bool}{t left:Int}{A Bg:Option Addr}{ps:List PK}{bs:List Bool}{qs ds:List Int}
theorem eF.drewN(h:eF w wx gs n c bV gQ gD cl bg t left A Bg ps bs qs ds)(q:Nat):eF w (wx.drewN q) gs n c bV gQ gD cl bg t left A Bg ps bs qs ds:=
 ⟨by obtain⟨b2,he⟩:=h.e;exact⟨b2,he.drewN q⟩,h.m.drewN q,h.k.drewN q,h.nn,h.na⟩
theorem eF.call(h:eF w wx gs n c bV gQ gD cl bg t left A Bg ps bs qs ds){b2:Nat}(he:SE wy gs t left A n c ps Bg bs b2)(k:KX (fun k=>k=gs) wx wy):eF w wy gs n c bV gQ gD cl bg t left A Bg ps bs qs ds:=
 ⟨⟨b2,he⟩,h.m.kx k (fun e=>h.nn.1 e.symm) (fun e=>h.nn.2.1 e.symm) (fun e=>h.nn.2.2 e.symm),h.k.trans (k.mono (fun _ _ h=>.inl h)),h.nn,h.na⟩
theorem eF.set_(h:eF w wx gs n c bV gQ gD cl bg t left A Bg ps bs qs ds){p:Addr}(hp:p.block=bV\/p.block=gD)(v:Value):(∃b2,SE (wx.setCell p v) gs t left A n c ps Bg bs b2)/\KX (fun k=>k=gs\/k=bV\/k=gD) w (wx.setCell p v):=by
 obtain⟨b2,he⟩:=h.e;have kk:KX (fun k=>k=bV\/k=gD) wx (wx.setCell p v):=(KX.refl _ wx).set_ (p:=p) hp v;obtain⟨n1,n2,n3⟩:=h.nn;refine⟨⟨b2,he.kx kk (by omega) (fun g o h0 e=>by have:=h.na g o h0 e;omega) (fun g h0 e=>?_)⟩,h.k.trans (kk.mono (fun _ _ h=>.inr h))⟩
 have a1:=he.bgne h.m.bv (by decide) g h0 e;have a2:=he.bgne (show aC wx gD 3 _ from h.m.bd) (by decide) g h0 e;omega
theorem eF.setD(h:eF w wx gs n c bV gQ gD cl bg t left A Bg ps bs qs ds)(x:Int)(h0:0<=x)(h1:x<=1500+(if bg=true then 6000 else 0)):eF w (wx.setCell ⟨gD,cl,none⟩ (.int .i64 x)) gs n c bV gQ gD cl bg t left A Bg ps bs qs (ds.set cl x):=
 ⟨(h.set_ (p:=⟨gD,cl,none⟩) (.inr rfl) _).1,h.m.setD x h0 h1,(h.set_ (p:=⟨gD,cl,none⟩) (.inr rfl) _).2,h.nn,h.na⟩
theorem eF.setB(h:eF w wx gs n c bV gQ gD cl false t left A Bg ps bs qs ds):eF w (wx.setCell ⟨bV,3,none⟩ (.bool true)) gs n c bV gQ gD cl true t left A Bg ps bs qs ds:=
 ⟨(h.set_ (p:=⟨bV,3,none⟩) (.inl rfl) _).1,h.m.setB,(h.set_ (p:=⟨bV,3,none⟩) (.inl rfl) _).2,h.nn,h.na⟩
theorem eF.next(h:eF w wx gs n c bV gQ gD cl bg t left A Bg ps bs qs ds)(d:Nat)(hd:d<2)(hx:aB ds cl<=1500):eF w ((wx.setCell ⟨bV,2,none⟩ (.int .i64 d)).setCell ⟨bV,3,none⟩ (.bool false)) gs n c bV gQ gD d false t left A Bg ps bs qs ds:=by
 have h1:=h.set_ (p:=⟨bV,2,none⟩) (.inl rfl) (.int .i64 d);obtain⟨b2,he⟩:=h1.1;have kk:KX (fun k=>k=bV\/k=gD) (wx.setCell ⟨bV,2,none⟩ (.int .i64 d)) ((wx.setCell ⟨bV,2,none⟩ (.int .i64 d)).setCell ⟨bV,3,none⟩ (.bool false)):=(KX.refl _ _).set_ (p:=⟨bV,3,none⟩) (.inl rfl) _;obtain⟨n1,n2,n3⟩:=h.nn;have hm:=h.m.next d hd hx;refine⟨⟨b2,he.kx kk (by omega) (fun g o h0 e=>by have:=h.na g o h0 e;omega) (fun g h0 e=>?_)⟩,hm,h1.2.trans (kk.mono (fun _ _ h=>.inr h)),h.nn,h.na⟩
 have a1:=he.bgne (by simpa using h.m.bv.set_ 2 (.int .i64 d)) (by decide) g h0 e;have a2:=he.bgne (show aC _ gD 3 _ from h.m.bd.far (p:=⟨bV,2,none⟩) (fun e=>h.m.ne.2.1 e.symm) _) (by decide) g h0 e;omega
end
theorem R5(gs n c bV gQ gD cl:Nat)(bg:Bool)(t left:Int)(A Bg:Option Addr)(ps:List PK)(bs:List Bool)(qs ds:List Int)(w:World)(hv:aM ps)(hfl:∀x∈ps,x.fl<(2:Nat))(hV:eF w w gs n c bV gQ gD cl bg t left A Bg ps bs qs ds) :
 Calls Tryz.prog 217 #[.pointer (some ⟨bV,0,none⟩),.pointer (some ⟨gs,0,none⟩)] w fun e w'=>∃(r:Int) (ds':List Int) (v':Nat) (b':Bool),((r = -1/\ds'=ds/\v'=cl/\b'=bg/\cX ps bs t = -1)\/fA (fun c r=>cA ps bs t (c:Nat) r) (eL ps) qs ds cl bg r ds' v' b')/\e = .returned (.int .i64 r)/\eF w w' gs n c bV gQ gD v' b' t left A Bg ps bs qs ds':=by
 obtain⟨bef,h⟩:=hV.e;have HN:n<=60:=by have:=hv.len;have:=h.tr.1;omega
 have HPN:=aA (show ps.length=n from h.tr.1);have HBN:=aA h.bl;have HV:=aA hv;have HF:=aA hfl;have V:=aA hV;have HC:=aA (qI gs n c bef t left A Bg ps bs w h hv);clear h hv hfl hV;go_enter Tryz.func217,Tryz.ntmps217
 go_wp2_with fail
 refine HC.out.mono ?_;rintro e w1 ⟨rfl,he,hk⟩;replace V:=aA (V.out.call he hk);clear HC he hk;by_cases hf:cX ps bs t = -1
 case pos=>
  have HF1:=aA hf;rw [hf];clear hf;go_wp2_with fail
  go_ret
  exact⟨-1,ds,cl,bg,.inl ⟨rfl,rfl,rfl,rfl,HF1.out⟩,rfl,V.out⟩
 case neg=>
 obtain⟨hf0,i,x,h1,h2,h3⟩:=wN (by rw [HBN.out,HPN.out]) hf;have hF:x.fl.toNat<2:=by have:=HF.out x (List.mem_of_getElem? h1);omega
 obtain⟨F,hFe⟩:∃F,F=x.fl.toNat:=⟨_,rfl⟩
 rw [<- hFe] at hF;have HW0:∃zF:Int,zF<=1500/\∀r,cA ps bs t F r->r≠-1/\eL ps r=zF:=by
  have key:∀r,cA ps bs t F r->r≠-1:=fun r hr e=>by
   have gx:=(dF HV.out h1).2;rcases hr with ⟨j,_,e2,_⟩|⟨_,hr⟩
   ·omega
   ·exact hr i x h1 h2 h3 (by omega)
  by_cases hx:∃r,cA ps bs t F r
  ·obtain⟨r,hr⟩:=hx;refine⟨eL ps r,?_,fun r' hr'=>⟨key r' hr',by rw [hr'.unique hr]⟩⟩
   rcases hr with ⟨j,y,rfl,h,_⟩|⟨e,hr⟩
   ·rw [kU h];have:=HV.out.good y (List.mem_of_getElem? h)
    unfold PK.Good at this;omega
   ·exact absurd e (key r (.inr ⟨e,hr⟩))
  ·exact⟨0,by omega,fun r hr=>absurd ⟨r,hr⟩ hx⟩
 obtain⟨zF,hzF,hw⟩:=HW0;have HW:=aA hw;clear h1 h2 h3 hFe hf hw;generalize cX ps bs t=f0 at *;go_wp2_with fail
 go_loopg [] 3002 (fun gg wr=>∃(ds1:List Int) (k:Nat) (b:Bool),Hid (2*(zF-(aB ds1 F+(if k=F/\b=true then 0 else aB qs F))).toNat+(if k=F then 0 else 1)<=gg)/\Hid (eF w wr gs n c bV gQ gD k b t left A Bg ps bs qs ds1)/\Hid (∀r ds' v' b',fA (fun c r=>cA ps bs t (c:Nat) r) (eL ps) qs ds1 k b r ds' v' b'->fA (fun c r=>cA ps bs t (c:Nat) r) (eL ps) qs ds cl bg r ds' v' b'))
 case atStart=>
  refine⟨ds,cl,bg,aA ?_,V,aA (fun r ds' v' b' h=>h)⟩
  have a1:=V.out.m.d1 F hF;have a2:=V.out.m.q1 F hF;split <;> split <;> omega
 case round=>
  clear V;obtain⟨ds1,k,b,HG,V,HS⟩:=hrel;obtain⟨b2,he⟩:=V.out.e;have HC:=aA (qU gs n c b2 t left k A Bg ps bs wr he HV.out);clear he;have hcl2:=V.out.m.cl2;obtain⟨⟨v0,v1,v2,v3⟩,hlv,hlq,hld,hne1,hne2,hne3⟩:(_/\_/\_/\_)/\_/\_/\_/\_/\_/\_:=⟨⟨V.out.m.bv.cell 0,V.out.m.bv.cell 1,V.out.m.bv.cell 2,V.out.m.bv.cell 3⟩,V.out.m.bv.lt,V.out.m.bq.lt,V.out.m.bd.lt,V.out.m.ne⟩
  simp at v0 v1 v2 v3;have hdk:=V.out.m.bd.cell k (by rw [V.out.m.ln.2];exact hcl2);have hqk:=V.out.m.bq.cell k (by rw [V.out.m.ln.1];exact hcl2);have zd:=V.out.m.bd.frozen k;have z2:=V.out.m.bv.frozen 2;have z3:=V.out.m.bv.frozen 3;have hki:(k:Int)<2:=by omega
  go_wp2_with fail
  refine HC.out.mono ?_;rintro e w3 ⟨r,hr,rfl,he,hk3⟩;replace V:=aA (V.out.call he hk3);have HR:=aA hr;clear v0 v1 v2 v3 hlv hlq hld hcl2 hne1 hne2 hne3 hdk hqk zd z2 z3 hki;clear HC hk3 he hr wr;have hk2':=V.out.m.cl2;rcases HR.out.cases with rfl | ⟨i,rfl,hi⟩
  case inl=>
   have hkF:k≠F:=fun e=>by subst e;exact(HW.out (-1) HR.out).1 rfl
   have hcl2:=V.out.m.cl2;obtain⟨⟨v0,v1,v2,v3⟩,hlv,hlq,hld,hne1,hne2,hne3⟩:(_/\_/\_/\_)/\_/\_/\_/\_/\_/\_:=⟨⟨V.out.m.bv.cell 0,V.out.m.bv.cell 1,V.out.m.bv.cell 2,V.out.m.bv.cell 3⟩,V.out.m.bv.lt,V.out.m.bq.lt,V.out.m.bd.lt,V.out.m.ne⟩
   simp at v0 v1 v2 v3;have hdk:=V.out.m.bd.cell k (by rw [V.out.m.ln.2];exact hcl2);have hqk:=V.out.m.bq.cell k (by rw [V.out.m.ln.1];exact hcl2);have zd:=V.out.m.bd.frozen k;have z2:=V.out.m.bv.frozen 2;have z3:=V.out.m.bv.frozen 3;have hki:(k:Int)<2:=by omega
   go_upto_region 7 with fail
   go_quiet (fail)
   replace V:=aA (V.out.drewN nq);clear v0 v1 v2 v3 hlv hlq hld hcl2 hne1 hne2 hne3 hdk hqk zd z2 z3 hki;generalize w3.drewN nq=w4 at *;have hcl2:=V.out.m.cl2;obtain⟨⟨v0,v1,v2,v3⟩,hlv,hlq,hld,hne1,hne2,hne3⟩:(_/\_/\_/\_)/\_/\_/\_/\_/\_/\_:=⟨⟨V.out.m.bv.cell 0,V.out.m.bv.cell 1,V.out.m.bv.cell 2,V.out.m.bv.cell 3⟩,V.out.m.bv.lt,V.out.m.bq.lt,V.out.m.bd.lt,V.out.m.ne⟩
   simp at v0 v1 v2 v3;have hdk:=V.out.m.bd.cell k (by rw [V.out.m.ln.2];exact hcl2);have hqk:=V.out.m.bq.cell k (by rw [V.out.m.ln.1];exact hcl2);have zd:=V.out.m.bd.frozen k;have z2:=V.out.m.bv.frozen 2;have z3:=V.out.m.bv.frozen 3;have hki:(k:Int)<2:=by omega
   go_upto_region 11 with fail
   go_region
   have V2:=aA (show eF w ((w4.setCell ⟨gD,k,none⟩ (.int .i64 0)).drew) gs n c bV gQ gD k b t left A Bg ps bs qs (ds1.set k 0) from(V.out.setD 0 (Int.le_refl _) (by split <;> omega)).drewN 1);obtain⟨k2,hk2e⟩:∃k2:Nat,k2=(k+1) % 2:=⟨_,rfl⟩
   have hk22:k2<2:=by omega
   have HS2:=aA (show ∀r ds' v' b',fA (fun c r=>cA ps bs t (c:Nat) r) (eL ps) qs (ds1.set k 0) k2 false r ds' v' b'->fA (fun c r=>cA ps bs t (c:Nat) r) (eL ps) qs ds cl bg r ds' v' b' from fun r ds' v' b' h=>HS.out r ds' v' b' (.none ds1 k b r ds' v' b' HR.out (by rw [V.out.m.ln.1,<- hk2e];exact h)));have HX:=aA (show aB (ds1.set k 0) k<=1500 by rw [eQ _ _ _ _ (by rw [V.out.m.ln.2];exact hk2'),if_pos rfl];omega);have HG2:=aA (show 2*(zF-(aB (ds1.set k 0) F+(if k2=F/\false=true then 0 else aB qs F))).toNat+(if k2=F then 0 else 1)<gk by
    have:=HG.out
    rw [eQ _ _ _ _ (by rw [V.out.m.ln.2];exact hk2'),if_neg (Ne.symm hkF),if_neg (by simp),if_pos (by omega)];rw [if_neg (fun h=>hkF h.1),if_neg hkF] at this;omega)
   clear HG HS;clear v0 v1 v2 v3 hlv hlq hld hcl2 hne1 hne2 hne3 hdk hqk zd z2 z3 hki;clear V;have V:=V2;clear V2;generalize (w4.setCell ⟨gD,k,none⟩ (.int .i64 0)).drew=w5 at *;have hcl2:=V.out.m.cl2;obtain⟨⟨v0,v1,v2,v3⟩,hlv,hlq,hld,hne1,hne2,hne3⟩:(_/\_/\_/\_)/\_/\_/\_/\_/\_/\_:=⟨⟨V.out.m.bv.cell 0,V.out.m.bv.cell 1,V.out.m.bv.cell 2,V.out.m.bv.cell 3⟩,V.out.m.bv.lt,V.out.m.bq.lt,V.out.m.bd.lt,V.out.m.ne⟩
   simp at v0 v1 v2 v3;have hdk:=V.out.m.bd.cell k (by rw [V.out.m.ln.2];exact hcl2);have hqk:=V.out.m.bq.cell k (by rw [V.out.m.ln.1];exact hcl2);have zd:=V.out.m.bd.frozen k;have z2:=V.out.m.bv.frozen 2;have z3:=V.out.m.bv.frozen 3;have hki:(k:Int)<2:=by omega
   have ek:((k:Int)+1).tmod 2=(k2:Int):=by rw [Int.tmod_eq_emod_of_nonneg (by omega)];omega
   go_upto_region 12 with fail
   go_region
   have V3:=(V.out.next k2 hk22 HX.out).drewN 1;rw [show(k2:Int)=((k:Int)+1) % 2 by omega] at V3;replace V3:=aA V3;clear V HX;go_wp2_with fail
   go_roundg (2*(zF-(aB (ds1.set k 0) F+(if k2=F/\false=true then 0 else aB qs F))).toNat+(if k2=F then 0 else 1))
   case measure=>exact HG2.out
   case rel=>exact⟨(ds1.set k 0),k2,false,aA (Nat.le_refl _),V3,HS2⟩
  case inr=>
   have HP:=aA hi;have hcl2:=V.out.m.cl2;obtain⟨⟨v0,v1,v2,v3⟩,hlv,hlq,hld,hne1,hne2,hne3⟩:(_/\_/\_/\_)/\_/\_/\_/\_/\_/\_:=⟨⟨V.out.m.bv.cell 0,V.out.m.bv.cell 1,V.out.m.bv.cell 2,V.out.m.bv.cell 3⟩,V.out.m.bv.lt,V.out.m.bq.lt,V.out.m.bd.lt,V.out.m.ne⟩
   simp at v0 v1 v2 v3;have hdk:=V.out.m.bd.cell k (by rw [V.out.m.ln.2];exact hcl2);have hqk:=V.out.m.bq.cell k (by rw [V.out.m.ln.1];exact hcl2);have zd:=V.out.m.bd.frozen k;have z2:=V.out.m.bv.frozen 2;have z3:=V.out.m.bv.frozen 3;have hki:(k:Int)<2:=by omega
   go_upto_if 23 with fail
   go_cut [] (fun wx=>Hid (eF w wx gs n c bV gQ gD k true t left A Bg ps bs qs (iA qs ds1 k b)))
   case first=>
    cases b with
    | true=>
      go_wp2_with fail
      go_meet
      exact V
    | false=>
      have hb1:=V.out.m.d1 k hk2';have hb2:=V.out.m.q1 k hk2';simp only [Bool.false_eq_true,and_false,if_false] at hb1;have VB:=aA V.out.setB;clear V;go_upto_region 6 with fail
      generalize w3.setCell ⟨bV,3,none⟩ (.bool true)=w4 at *;have V:=VB;clear VB;clear v0 v1 v2 v3 hlv hlq hld hcl2 hne1 hne2 hne3 hdk hqk zd z2 z3 hki;have hcl2:=V.out.m.cl2;obtain⟨⟨v0,v1,v2,v3⟩,hlv,hlq,hld,hne1,hne2,hne3⟩:(_/\_/\_/\_)/\_/\_/\_/\_/\_/\_:=⟨⟨V.out.m.bv.cell 0,V.out.m.bv.cell 1,V.out.m.bv.cell 2,V.out.m.bv.cell 3⟩,V.out.m.bv.lt,V.out.m.bq.lt,V.out.m.bd.lt,V.out.m.ne⟩
      simp at v0 v1 v2 v3;have hdk:=V.out.m.bd.cell k (by rw [V.out.m.ln.2];exact hcl2);have hqk:=V.out.m.bq.cell k (by rw [V.out.m.ln.1];exact hcl2);have zd:=V.out.m.bd.frozen k;have z2:=V.out.m.bv.frozen 2;have z3:=V.out.m.bv.frozen 3;have hki:(k:Int)<2:=by omega
      have hs:IntKind.i64.wrap (aB ds1 k+aB qs k)=aB ds1 k+aB qs k:=IntWalk.i64_in _ (by omega);have HS1:=aA (show eF w ((w4.setCell ⟨gD,k,none⟩ (.int .i64 (aB ds1 k+aB qs k))).drew) gs n c bV gQ gD k true t left A Bg ps bs qs (iA qs ds1 k false) from(V.out.setD _ (by omega) (by rw [if_pos rfl];omega)).drewN 1);clear V hb1 hb2
      go_region
      go_wp2_with fail
      go_meet
      exact HS1
   case rest=>
    have V0:=V;clear V;have V:=hcut;clear hcut;obtain⟨b3,he⟩:=V.out.e;have SZ:=aA (fun q=>t7 gs n c b3 i t left A Bg ps bs (wc.drewN q) (he.drewN q) (by have:=HPN.out;omega) HN);have hz1:1<=eL ps i/\eL ps i<=1500:=by
     obtain⟨x,hx⟩:∃x,ps[i]?=some x:=⟨_,List.getElem?_eq_getElem hi⟩
     rw [kU hx];have:=HV.out.good x (List.mem_of_getElem? hx)
     unfold PK.Good at this;omega
    have hd1:=V.out.m.d1 k hk2';simp only [and_self,if_true] at hd1;obtain⟨ds2,hds2⟩:∃ds2,ds2=iA qs ds1 k b:=⟨_,rfl⟩
    have HDS:=aA hds2;have HL1:=aA (fun e=>oL (qs:=qs) (ds:=ds1) (v:=k) (b:=b) (by rw [V0.out.m.ln.2];exact hk2') e);rw [<- hds2] at V hd1;obtain⟨z,hz⟩:∃z,z=eL ps i:=⟨_,rfl⟩
    have HZ:=aA hz;rw [<- hz] at SZ hz1;obtain⟨D,hD⟩:∃D,D=aB ds2 k:=⟨_,rfl⟩
    have HD:=aA hD;rw [<- hD] at hd1;clear he hi hds2 hz hD;by_cases hzd:z<=D
    case pos=>
     have hdc:decide (z<=D)=true:=decide_eq_true hzd;have hcl2:=V.out.m.cl2;obtain⟨⟨v0,v1,v2,v3⟩,hlv,hlq,hld,hne1,hne2,hne3⟩:(_/\_/\_/\_)/\_/\_/\_/\_/\_/\_:=⟨⟨V.out.m.bv.cell 0,V.out.m.bv.cell 1,V.out.m.bv.cell 2,V.out.m.bv.cell 3⟩,V.out.m.bv.lt,V.out.m.bq.lt,V.out.m.bd.lt,V.out.m.ne⟩
     simp at v0 v1 v2 v3;have hdk:=V.out.m.bd.cell k (by rw [V.out.m.ln.2];exact hcl2);have hqk:=V.out.m.bq.cell k (by rw [V.out.m.ln.1];exact hcl2);have zd:=V.out.m.bd.frozen k;have z2:=V.out.m.bv.frozen 2;have z3:=V.out.m.bv.frozen 3;have hki:(k:Int)<2:=by omega
     rw [<- HD.out] at hdk;go_upto_region 7 with fail
     go_quiet ((go_at_call 218;exact Calls.quiet_of_same (SZ.out _)))
     have hs:IntKind.i64.wrap (D-z)=D-z:=IntWalk.i64_in _ (by omega);replace V:=aA (V.out.drewN nq);clear SZ;clear v0 v1 v2 v3 hlv hlq hld hcl2 hne1 hne2 hne3 hdk hqk zd z2 z3 hki;generalize wc.drewN nq=wd at *;obtain⟨b4,he⟩:=V.out.e;have SZ:=aA (t7 gs n c b4 i t left A Bg ps bs (wd.drewN 1) (he.drewN 1) (by have:=HPN.out;have:=HP.out;omega) HN);rw [<- HZ.out] at SZ;clear he;have hcl2:=V.out.m.cl2;obtain⟨⟨v0,v1,v2,v3⟩,hlv,hlq,hld,hne1,hne2,hne3⟩:(_/\_/\_/\_)/\_/\_/\_/\_/\_/\_:=⟨⟨V.out.m.bv.cell 0,V.out.m.bv.cell 1,V.out.m.bv.cell 2,V.out.m.bv.cell 3⟩,V.out.m.bv.lt,V.out.m.bq.lt,V.out.m.bd.lt,V.out.m.ne⟩
     simp at v0 v1 v2 v3;have hdk:=V.out.m.bd.cell k (by rw [V.out.m.ln.2];exact hcl2);have hqk:=V.out.m.bq.cell k (by rw [V.out.m.ln.1];exact hcl2);have zd:=V.out.m.bd.frozen k;have z2:=V.out.m.bv.frozen 2;have z3:=V.out.m.bv.frozen 3;have hki:(k:Int)<2:=by omega
     rw [<- HD.out] at hdk;go_upto_region 8 with fail
     go_still_tail 15,(by kernel_rfl)
     still_call (SZ.out)
     repeat still_step
     refine wpStill_nil ?_;change wpList _ _ _ _ _ wd.drew
     replace V:=aA (show eF w wd.drew gs n c bV gQ gD k true t left A Bg ps bs qs ds2 from V.out.drewN 1);clear SZ;clear v0 v1 v2 v3 hlv hlq hld hcl2 hne1 hne2 hne3 hdk hqk zd z2 z3 hki;generalize wd.drew=we at *;have hcl2:=V.out.m.cl2;obtain⟨⟨v0,v1,v2,v3⟩,hlv,hlq,hld,hne1,hne2,hne3⟩:(_/\_/\_/\_)/\_/\_/\_/\_/\_/\_:=⟨⟨V.out.m.bv.cell 0,V.out.m.bv.cell 1,V.out.m.bv.cell 2,V.out.m.bv.cell 3⟩,V.out.m.bv.lt,V.out.m.bq.lt,V.out.m.bd.lt,V.out.m.ne⟩
     simp at v0 v1 v2 v3;have hdk:=V.out.m.bd.cell k (by rw [V.out.m.ln.2];exact hcl2);have hqk:=V.out.m.bq.cell k (by rw [V.out.m.ln.1];exact hcl2);have zd:=V.out.m.bd.frozen k;have z2:=V.out.m.bv.frozen 2;have z3:=V.out.m.bv.frozen 3;have hki:(k:Int)<2:=by omega
     rw [<- HD.out] at hdk;have V2:=aA (V.out.setD (D-z) (by omega) (by rw [if_pos rfl];omega));have HA:=aA (show fA (fun c r=>cA ps bs t (c:Nat) r) (eL ps) qs ds cl bg i (ds2.set k (D-z)) k true from HS.out _ _ _ _ (by
      have:=fA.take (nx:=(fun c r=>cA ps bs t (c:Nat) r)) (sz:=eL ps) (qs:=qs) ds1 k b i HR.out (by omega) (by rw [<- HDS.out,<- HD.out,<- HZ.out];exact hzd)
      rwa [<- HDS.out,<- HD.out,<- HZ.out] at this))
     clear V;go_wp2_with fail
     go_ret
     exact⟨i,_,k,true,.inr HA.out,rfl,V2.out⟩
    case neg=>
     have hdc:decide (z<=D)=false:=decide_eq_false hzd;have hcl2:=V.out.m.cl2;obtain⟨⟨v0,v1,v2,v3⟩,hlv,hlq,hld,hne1,hne2,hne3⟩:(_/\_/\_/\_)/\_/\_/\_/\_/\_/\_:=⟨⟨V.out.m.bv.cell 0,V.out.m.bv.cell 1,V.out.m.bv.cell 2,V.out.m.bv.cell 3⟩,V.out.m.bv.lt,V.out.m.bq.lt,V.out.m.bd.lt,V.out.m.ne⟩
     simp at v0 v1 v2 v3;have hdk:=V.out.m.bd.cell k (by rw [V.out.m.ln.2];exact hcl2);have hqk:=V.out.m.bq.cell k (by rw [V.out.m.ln.1];exact hcl2);have zd:=V.out.m.bd.frozen k;have z2:=V.out.m.bv.frozen 2;have z3:=V.out.m.bv.frozen 3;have hki:(k:Int)<2:=by omega
     rw [<- HD.out] at hdk;go_upto_region 7 with fail
     go_quiet ((go_at_call 218;exact Calls.quiet_of_same (SZ.out _)))
     replace V:=aA (V.out.drewN nq);clear v0 v1 v2 v3 hlv hlq hld hcl2 hne1 hne2 hne3 hdk hqk zd z2 z3 hki;clear SZ;obtain⟨k2,hk2e⟩:∃k2:Nat,k2=(k+1) % 2:=⟨_,rfl⟩
     have hk22:k2<2:=by omega
     have HS2:=aA (show ∀r ds' v' b',fA (fun c r=>cA ps bs t (c:Nat) r) (eL ps) qs ds2 k2 false r ds' v' b'->fA (fun c r=>cA ps bs t (c:Nat) r) (eL ps) qs ds cl bg r ds' v' b' from fun r ds' v' b' h=>HS.out r ds' v' b' (.skip ds1 k b i r ds' v' b' HR.out (by omega) (by rw [<- HDS.out,<- HD.out,<- HZ.out];omega) (by rw [V.out.m.ln.1,<- hk2e,<- HDS.out];exact h)));have HX:=aA (show aB ds2 k<=1500 by rw [<- HD.out];omega);have HG2:=aA (show 2*(zF-(aB ds2 F+(if k2=F/\false=true then 0 else aB qs F))).toNat+(if k2=F then 0 else 1)<gk by
      have h1:=HG.out;have h2:=HL1.out F;have hq:=V.out.m.q1 F hF;rw [<- HDS.out] at h2;rw [if_neg (by simp)];by_cases e:k=F
      ·subst e;have h3:=(HW.out i HR.out).2;rw [<- HZ.out] at h3;rw [if_pos rfl] at h1;rw [if_neg (by omega)];rw [<- HD.out] at h2 ⊢;cases b <;> simp at h1 h2 <;> omega
      ·rw [if_neg (fun h=>e h.1),if_neg e] at h1;rw [if_neg (fun h=>e h.1.symm)] at h2;rw [if_pos (by omega)];omega)
     clear HG HS;generalize wc.drewN nq=w5 at *;have hcl2:=V.out.m.cl2;obtain⟨⟨v0,v1,v2,v3⟩,hlv,hlq,hld,hne1,hne2,hne3⟩:(_/\_/\_/\_)/\_/\_/\_/\_/\_/\_:=⟨⟨V.out.m.bv.cell 0,V.out.m.bv.cell 1,V.out.m.bv.cell 2,V.out.m.bv.cell 3⟩,V.out.m.bv.lt,V.out.m.bq.lt,V.out.m.bd.lt,V.out.m.ne⟩
     simp at v0 v1 v2 v3;have hdk:=V.out.m.bd.cell k (by rw [V.out.m.ln.2];exact hcl2);have hqk:=V.out.m.bq.cell k (by rw [V.out.m.ln.1];exact hcl2);have zd:=V.out.m.bd.frozen k;have z2:=V.out.m.bv.frozen 2;have z3:=V.out.m.bv.frozen 3;have hki:(k:Int)<2:=by omega
     have ek:((k:Int)+1).tmod 2=(k2:Int):=by rw [Int.tmod_eq_emod_of_nonneg (by omega)];omega
     go_upto_region 12 with fail
     go_region
     have V3:=(V.out.next k2 hk22 HX.out).drewN 1;rw [show(k2:Int)=((k:Int)+1) % 2 by omega] at V3;replace V3:=aA V3;clear V HX;go_wp2_with fail
     go_roundg (2*(zF-(aB ds2 F+(if k2=F/\false=true then 0 else aB qs F))).toNat+(if k2=F then 0 else 1))
     case measure=>exact HG2.out
     case rel=>exact⟨ds2,k2,false,aA (Nat.le_refl _),V3,HS2⟩
theorem wF(A:Option Addr)(n c:Nat)(ws:List Int)(w:World)(h:aE w w.heap.size A n ws)(hn:n<=6)(hw:∀k,k<n->1<=aB ws k/\aB ws k<=6000) :
 Calls Tryz.prog 216 #[.slice A n c] w fun e w'=>e = .returned (.bool true)/\Below w.heap.size w w':=by
 have HI:=aA h;have HW:=aA hw;clear h hw;go_enter Tryz.func216,Tryz.ntmps216
 go_wp2_with fail
 go_loopg [7] n (fun gg s7 wr=>∃k:Nat,k+gg=n/\s7 = .int .i64 k/\Hid (Below w.heap.size w wr))
 case atStart=>exact⟨0,by omega,rfl,aA (Below.refl _ _)⟩
 case round=>
  obtain⟨k,hkg,rfl,BW⟩:=hrel;by_cases hk:k<n
  case pos=>
   have hki:(k:Int)<n:=by omega
   obtain⟨b,o,hA,hb,hc⟩:=HI.out.2 (by omega);subst hA;have hb2:b<wr.heap.size:=by have:=BW.out.size;omega
   have hcc:=(BW.out.cell (p:=⟨b,o+k,none⟩) hb).trans (hc k hk);obtain⟨h1,h2⟩:=HW.out k hk;generalize aB ws k=v at *;have d1:decide (v<1)=false:=decide_eq_false (by omega);have d2:decide (6000<v)=false:=decide_eq_false (by omega);clear hc;go_wp2_with fail
   go_roundg (gk-1)
   case measure=>omega
   case rel=>exact⟨k+1,by omega,by go_num,BW⟩
  case neg=>
   have hki:¬(k:Int)<n:=by omega
   go_wp2_with fail
   go_ret
   exact⟨rfl,BW.out⟩
theorem R7(cap:Int)(gW:Nat)(ws:List Int)(A:Option Addr)(n c:Nat)(ps:List PK)(ticks:Nat)(w:World)(hT:bN w A n c ps)(hv:aM ps)(hfl:∀x∈ps,x.fl<(2:Nat))(hc1:1<=cap)(hc2:cap<=4000)(ht:ticks<=2000)(hG:aN w gW ws)(hlw:ws.length=2)(hw:∀k,k<2->1<=aB ws k/\aB ws k<=6000)(hA:∀g o,0<n->A=some ⟨g,o,none⟩->g<w.heap.size) :
 Calls Tryz.prog 210 #[.int .i64 cap,.slice (some ⟨gW,0,none⟩) 2 2,.slice A n c,.int .i64 ticks] w (dU n 2 ticks (dN cap 2 ps ticks (kJ ws ps) ([0,0],0,false)) w):=by
 have hn:n<=60:=by have:=hv.len;have:=hT.1;omega
 have RB:=aA (aC.new w 62 #[.slice none 0 0,.slice none 0 0]);have BW:=aA (aF w (.cells #[.slice none 0 0,.slice none 0 0] 62));have HS:=aA (show w.heap.size+1=(w.alloc (.cells #[.slice none 0 0,.slice none 0 0] 62)).heap.size by simp [World.size_alloc]);have HT:=aA (hT.below BW.out);have HV:=aA hv;have HF:=aA hfl;have HG:=aA (hG.below BW.out hG.lt);have HLW:=aA hlw;have HW:=aA hw;have HA:=aA hA;have hgw:=hG.lt;have hmi:∀w:World,(Instr.makeSlice 22 (.int .i64 2) (.int .i64 2)).run Tryz.prog w = .ok (.slice (some ⟨w.heap.size,0,none⟩) 2 2) (w.alloc (.cells (Array.replicate 2 (Value.int .i64 0)) 3)):=rD 2 (by omega);clear hT hv hfl hG hlw hw hA;go_enter Tryz.func210,Tryz.ntmps210
 go_upto_region 1 with fail
 generalize hwe:w.alloc (.cells #[.slice none 0 0,.slice none 0 0] 62)=w1 at *;clear hwe;go_wp2_with fail
 refine(kV A n c ps w1 HT.out HV.out).mono ?_;rintro e w2 ⟨rfl,hb⟩;replace HT:=aA (HT.out.below hb);replace RB:=aA (RB.out.below hb RB.out.lt);replace HG:=aA (HG.out.below hb HG.out.lt);replace BW:=aA (aD BW.out hb);replace HS:=aA (show w.heap.size+1<=w2.heap.size by have:=hb.size;have:=HS.out;omega);clear hb;go_wp2_with fail
 refine(oU A n c cap 2 ticks ps w2 HT.out hc1 hc2 (by omega) (by omega) (by omega) (by omega) HF.out hn).mono ?_;rintro e w3 ⟨rfl,hb⟩;replace HT:=aA (HT.out.below hb);replace RB:=aA (RB.out.below hb RB.out.lt);replace HG:=aA (HG.out.below hb HG.out.lt);replace BW:=aA (aD BW.out hb);replace HS:=aA (show w.heap.size+1<=w3.heap.size by have:=hb.size;have:=HS.out;omega);clear hb;go_wp2_with fail
 refine(wF (some ⟨gW,0,none⟩) 2 2 ws w3 (by have:=HG.out.ints;rwa [HLW.out] at this) (by omega) HW.out).mono ?_;rintro e w4 ⟨rfl,hb⟩;replace HT:=aA (HT.out.below hb);replace RB:=aA (RB.out.below hb RB.out.lt);replace HG:=aA (HG.out.below hb HG.out.lt);replace BW:=aA (aD BW.out hb);replace HS:=aA (show w.heap.size+1<=w4.heap.size by have:=hb.size;have:=HS.out;omega);clear hb;have B9:=aD (aF w4 (.cells (Array.replicate 2 (Value.int .i64 0)) 3)) (aF _ (.cells #[.slice (some ⟨gW,0,none⟩) 2 2,.slice (some ⟨w4.heap.size,0,none⟩) 2 2,.int .i64 0,.bool false] 249));have d9:=aA ((aN.zeros (n:=2) (aC.new w4 3 (Array.replicate 2 (Value.int .i64 0)))).alloc (.cells #[.slice (some ⟨gW,0,none⟩) 2 2,.slice (some ⟨w4.heap.size,0,none⟩) 2 2,.int .i64 0,.bool false] 249));have v9:=aC.new (w4.alloc (.cells (Array.replicate 2 (Value.int .i64 0)) 3)) 249 #[.slice (some ⟨gW,0,none⟩) 2 2,.slice (some ⟨w4.heap.size,0,none⟩) 2 2,.int .i64 0,.bool false];simp only [World.size_alloc] at v9;have VV:=aA v9;have HB:=aA B9;have HS9:=aA (show w4.heap.size+2=((w4.alloc (.cells (Array.replicate 2 (Value.int .i64 0)) 3)).alloc (.cells #[.slice (some ⟨gW,0,none⟩) 2 2,.slice (some ⟨w4.heap.size,0,none⟩) 2 2,.int .i64 0,.bool false] 249)).heap.size by simp [World.size_alloc]);clear B9 v9;go_upto_region 10 with fail
 generalize hwe:(w4.alloc (.cells (Array.replicate 2 (Value.int .i64 0)) 3)).alloc (.cells #[.slice (some ⟨gW,0,none⟩) 2 2,.slice (some ⟨w4.heap.size,0,none⟩) 2 2,.int .i64 0,.bool false] 249)=w5 at *;clear hwe;have hg5:=HG.out;replace HT:=aA (HT.out.below HB.out);replace RB:=aA (RB.out.below HB.out RB.out.lt);replace HG:=aA (HG.out.below HB.out HG.out.lt);replace BW:=aA (aD BW.out HB.out);have HS4:=aA (show w.heap.size+1<=w5.heap.size by have:=HS.out;have:=HS9.out;omega);have hs0:=HS.out;have hs9:=HS9.out;clear HB hmi;have HLT:=aA (show ∀g o,0<n->A=some ⟨g,o,none⟩->g<w.heap.size from HA.out);go_wp2_with fail
 refine(oV cap 2 A n c ps ticks 217 #[.pointer (some ⟨w4.heap.size+1,0,none⟩)] #[] (kJ ws ps) ([0,0],0,false) (fun g w'=>aC w' (w4.heap.size+1) 249 #[.slice (some ⟨gW,0,none⟩) 2 2,.slice (some ⟨w4.heap.size,0,none⟩) 2 2,.int .i64 g.2.1,.bool g.2.2]/\aN w' w4.heap.size g.1/\g.1.length=2/\g.2.1<2/\∀k,k<2->0<=aB g.1 k/\aB g.1 k<=1500+(if k=g.2.1/\g.2.2=true then 6000 else 0)) (fun k=>k=w4.heap.size+1\/k=w4.heap.size) w5 HT.out HV.out HF.out hc1 hc2 (by omega) (by omega) ht
  (aA (fun _ w w' X h k hx=>⟨h.1.kx k (hx _ (.inl rfl)),h.2.1.kx k (hx _ (.inr rfl)),h.2.2⟩)) (aA (fun k hk=>by omega)) (aA (fun g o h0 e h=>by have:=HLT.out g o h0 e;omega)) (aA ⟨VV.out,d9.out,rfl,by show 0<2;omega,fun k hk=>by rcases (show k=0\/k=1 by omega) with rfl|rfl <;> exact⟨by decide,by decide⟩⟩)
  (aA (fun gs bef Bg s w1 hm hon hnw hlf hse hhr hkx hgs=>(R5 gs n c (w4.heap.size+1) gW w4.heap.size s.sg.2.1 s.sg.2.2 s.t s.left A Bg ps s.begun ws s.sg.1 w1 HV.out HF.out ⟨⟨bef,hse⟩,⟨hhr.1,HG.out.kx hkx (by omega),hhr.2.1,⟨HLW.out,hhr.2.2.1⟩,HW.out,hhr.2.2.2.2,hhr.2.2.2.1,by omega⟩,KX.refl _ _,by omega,fun g o h0 e=>by have:=HLT.out g o h0 e;omega⟩).mono (fun e w2 h=>by
   obtain⟨r,ds',v',b',hr,rfl,hV⟩:=h;refine⟨r,(ds',v',b'),hr.imp (fun h=>⟨h.1,by rw [h.2.1,h.2.2.1,h.2.2.2.1],h.2.2.2.2⟩) id,?_,rfl,hV.e,⟨hV.m.bv,hV.m.bd,hV.m.ln.2,hV.m.cl2,hV.m.d1⟩,hV.k.mono (fun _ _ h=>h)⟩
   rcases hr with ⟨h,_⟩|h
   ·exact .inl h
   ·rcases h.nx.1.cases with h | ⟨i,h,hi⟩
    ·exact .inl h
    ·exact .inr ⟨i,h,by have:=HT.out.1;omega⟩))) (fun x w=>by kernel_rfl)).mono ?_
 rintro e w4 ⟨s,gD,gS,gcs,hm,hon,htt,rfl,hd,hsn,h1,h2,h3,hhr,hkx⟩;replace RB:=aA (RB.out.kx hkx (by omega));replace BW:=aA (mW BW.out hkx (fun k hk=>by omega) (by have:=HS4.out;omega));have F:=aA (show dN _ _ _ _ _ _ s.done s.sent from⟨s,hm,hon,htt,rfl,rfl⟩);have D:=aA hd;have SS:=aA hsn;have HH:=aA (show w.heap.size<gD/\w.heap.size<gS/\∀(c g:Nat),gcs[c]?=some g->w.heap.size<g from⟨by have:=HS4.out;omega,by have:=HS4.out;omega,fun c g hg=>by have:=h3 c g hg;have:=HS4.out;omega⟩);clear hm hd hsn h1 h2 h3 hhr hkx hon htt;obtain⟨⟨c0,c1⟩,⟨z0,z1⟩,hl0⟩:(_/\_)/\(_/\_)/\_:=⟨⟨RB.out.cell 0,RB.out.cell 1⟩,⟨RB.out.frozen 0,RB.out.frozen 1⟩,RB.out.lt⟩
 simp at c0 c1;go_wp2_with fail
 have rb:=(RB.out.set_ 0 (.slice (some ⟨gD,0,none⟩) n n)).set_ 1 (.slice (some ⟨gS,0,none⟩) 2 2);simp only [List.setIfInBounds_toArray,List.set_cons_zero,List.set_cons_succ] at rb;exact bodyPost_ret (v:=.tuple #[.agg #[.slice (some ⟨gD,0,none⟩) n n,.slice (some ⟨gS,0,none⟩) 2 2],.int .i64 0]) (by simp [results,Tryz.results210,go_sem,rb.cell]) rfl (dU.lay (cls:=2) F.out D.out SS.out (X:=w.heap.size) (by omega) HH.out BW.out)
end Go.Proofs.YtaejfleahamapaaGreat
