/- roundrobin.Run: two classes. -/
import Derived.BigQuiet
import Derived.Deep.QuietTactic
import Derived.Deep.LoopGhost
import Derived.BigRegion
import Derived.Deep.DeepCutAuto
import Derived.Test.YtaejfleahamapaaGreatPp15
import Derived.Test.YtaejfleahamapaaGreatPp10
import Derived.Test.YtaejfleahamapaaGreatPp16
import Derived.Test.YtaejfleahamapaaGreatPp13
import Derived.Test.YtaejfleahamapaaGreatPp1
namespace Go.Proofs.YtaejfleahamapaaGreat
set_option linter.unusedVariables false
set_option linter.unusedSimpArgs false
section
open Go.RowKit
theorem snd16_any(A:Option Addr)(m d gD gS cls ticks:Nat)(gcs:List Nat)(done:List Int)(sent:List (List Int))(w:World)(hs:SN w gS gcs (ticks+1) sent)(hl:sent.length=cls)(hr:∀l∈sent,l.length=ticks+1)(hc:cls≤6)(ht:ticks≤2000) :
 Calls Tryz.prog 23 #[.slice A m d,.agg #[.slice (some ⟨gD,0,none⟩) m m,.slice (some ⟨gS,0,none⟩) cls cls],.int .i64 cls,.int .i64 ticks] w fun e w'=>e = .returned (.bool true)∧Below w.heap.size w w':=by
 have BX:=hi_ (Blk.new w 62 #[.slice (some ⟨gD,0,none⟩) m m,.slice (some ⟨gS,0,none⟩) cls cls]);have BW:=hi_ (balloc w (.cells #[.slice (some ⟨gD,0,none⟩) m m,.slice (some ⟨gS,0,none⟩) cls cls] 62));have TB:=hi_ (hs.tb.alloc (.cells #[.slice (some ⟨gD,0,none⟩) m m,.slice (some ⟨gS,0,none⟩) cls cls] 62));have HLN:=hi_ hs.ln;have HL:=hi_ hl;have HR:=hi_ hr;clear hs hr;go_enter Tryz.func23,Tryz.ntmps23
 go_upto_region 1 with fail
 generalize hwe:w.alloc (.cells #[.slice (some ⟨gD,0,none⟩) m m,.slice (some ⟨gS,0,none⟩) cls cls] 62)=w1 at *;clear hwe;obtain⟨x0,x1⟩:_∧_:=⟨BX.out.cell 0,BX.out.cell 1⟩
 simp at x0 x1;have hlx:=BX.out.lt;have d0:((m:Int) != (m:Int))=false:=by simp
 have d1:((cls:Int) != (cls:Int))=false:=by simp
 go_wp2_with fail
 go_loopg [9] cls (fun gg s9 wr=>∃k:Nat,k+gg=cls∧s9 = .int .i64 k∧wr=w1)
 case atStart=>exact⟨0,by omega,rfl,rfl⟩
 case round=>
  obtain⟨k,hkg,rfl,rfl⟩:=hrel;by_cases hk:k<cls
  case pos=>
   have hki:(k:Int)<cls:=by omega
   obtain⟨l,hl'⟩:∃l,sent[k]?=some l:=⟨_,List.getElem?_eq_getElem (by omega)⟩
   obtain⟨g,hg⟩:∃g,gcs[k]?=some g:=⟨_,List.getElem?_eq_getElem (by rw [HLN.out];omega)⟩
   have c0:=TB.out.cell k;rw [List.getElem?_toArray,List.getElem?_map,(List.getElem?_zip_eq_some (z:=(g,l))).2 ⟨hg,hl'⟩] at c0;replace c0:wr.cell? ⟨gS,k,none⟩=some (.slice (some ⟨g,0,none⟩) l.length (ticks+1)):=by simpa using c0
   rw [HR.out l (List.mem_of_getElem? hl')] at c0;have hlt:=TB.out.lt;have d2:((ticks:Int)+1 != (ticks:Int)+1)=false:=by simp
   clear hl' hg;go_wp2_with fail
   go_roundg (gk-1)
   case measure=>omega
   case rel=>exact⟨k+1,by omega,by go_num,rfl⟩
  case neg=>
   have hki:¬(k:Int)<cls:=by omega
   go_wp2_with fail
   go_ret
   exact⟨rfl,BW.out⟩
def KpS(f:Cv)(fl:Int)(ps:List PK):Prop:=∀s t:Nat,s<t→t≤endN ps→aV fl ps t-aV fl ps s≤f.at (t-s)
set_option maxHeartbeats 4000000 in
theorem vio_any(B:Option Addr)(m d:Nat)(fl:Int)(ps:List PK)(A:Option Addr)(n c:Nat)(f:Cv)(w:World)(h:LsT w B m d ps)(hv:Valid ps)(hfl:0≤fl)(hA:Ints w w.heap.size A n f.vals)(hn:n≤1000)(ok:f.Ok)(hk:KpS f fl ps) :
 Calls Tryz.prog 74 #[.slice B m d,.int .i64 fl,.agg #[.slice A n c,.int .i64 f.per,.int .i64 f.inc]] w fun e w'=>e = .returned (.tuple #[.int .i64 0,.int .i64 0,.bool false,.int .i64 0])∧Below w.heap.size w w':=by
 have BX:=hi_ (Blk.new w 26 #[.slice A n c,.int .i64 f.per,.int .i64 f.inc]);have BW:=hi_ (balloc w (.cells #[.slice A n c,.int .i64 f.per,.int .i64 f.inc] 26));have HI:=hi_ (hA.alloc' (.cells #[.slice A n c,.int .i64 f.per,.int .i64 f.inc] 26));have HT:=hi_ (h.below BW.out);have HV:=hi_ hv;have OK:=hi_ ok;have HK:=hi_ hk;obtain⟨N,hN⟩:∃N,N=endN ps:=⟨_,rfl⟩
 have hN2:N≤2001:=by rw [hN];exact endN_le hv
 have HN:=hi_ hN;clear h hv hA ok hk hN;go_enter Tryz.func74,Tryz.ntmps74
 go_upto_region 1 with fail
 generalize hwe:w.alloc (.cells #[.slice A n c,.int .i64 f.per,.int .i64 f.inc] 26)=w1 at *;clear hwe;obtain⟨⟨x0,x1,x2⟩,_,hlx⟩:=BX.out.c3;go_wp2_with fail
 refine(ccheck_any B m d fl ps A n c f w1 HT.out HV.out (by omega) (by exact HI.out) hn OK.out).mono ?_;rintro e w2 ⟨rfl,hb⟩;replace BX:=hi_ (BX.out.below hb BX.out.lt);replace BW:=hi_ (bthen BW.out hb);replace HI:=hi_ (HI.out.ext hb);replace HT:=hi_ (HT.out.below hb);clear hb x0 x1 x2 hlx;go_wp2_with fail
 refine(sums_any B m d fl ps w2 HT.out HV.out).mono ?_;rintro e w3 ⟨ba,hba,rfl,hia,hb⟩;rw [← HN.out];replace BX:=hi_ (BX.out.below hb BX.out.lt);replace BW:=hi_ (bthen BW.out hb);replace HI:=hi_ (HI.out.ext hb);have IA:=hi_ hia;clear hb hia hba;obtain⟨⟨x0,x1,x2⟩,_,hlx⟩:=BX.out.c3;go_wp2_with fail
 refine(table_any A n c f.per f.inc (N+1) f.vals w3 (by exact HI.out) (by exact OK.out) (by omega)).mono ?_;rintro e w4 ⟨bt,rfl,hrt,hbt,hb⟩;replace BW:=hi_ (bthen BW.out hb);replace IA:=hi_ (IA.out.below hb IA.out.lt);have RT:=hi_ hrt;clear hrt hb hbt x0 x1 x2 hlx BX HI HT;have HA:=hi_ (show ∀t,t≤N→w4.cell? ⟨ba,t,none⟩=some (.int .i64 (aV fl ps t)) from fun t ht=>by
  have h1:=IA.out.cell t (by unfold sumsL;rw [tab_length,← HN.out];omega);rw [show nth (sumsL fl ps) t=aV fl ps t by unfold sumsL;rw [tab_nth _ _ _ _ (by rw [← HN.out];omega),Nat.zero_add]] at h1;exact h1)
 have HW:=hi_ (show ∀t,t≤N→w4.cell? ⟨bt,t,none⟩=some (.int .i64 (f.at t)) from fun t ht=>by
  have h1:=RT.out.cell t (by rw [tab_length];omega);rw [tab_nth _ _ _ _ (by omega),Nat.zero_add] at h1;exact h1)
 have hla:=IA.out.lt;have hlt:=RT.out.lt;clear IA RT;go_wp2_with fail
 go_loopg [13,14] N (fun gg s13 _ wr=>∃u:Nat,u+gg=N∧s13 = .int .i64 ((u:Int)+1)∧∃q,wr=w4.drewN q)
 case atStart=>exact⟨0,by omega,rfl,0,rfl⟩
 case round=>
  obtain⟨u,hug,rfl,q,rfl⟩:=hrel;by_cases hu:u<N
  case pos=>
   have hui:(u:Int)+1<(N:Int)+1:=by omega
   have a1:w4.cell? ⟨ba,u+1,none⟩=some (.int .i64 (aV fl ps ((u+1:Nat):Int))):=HA.out (u+1) (by omega);have a0:w4.cell? ⟨ba,u,none⟩=some (.int .i64 (aV fl ps u)):=HA.out u (by omega);obtain⟨X,hX⟩:∃X,X=aV fl ps ((u+1:Nat):Int):=⟨_,rfl⟩
   obtain⟨Y,hY⟩:∃Y,Y=aV fl ps u:=⟨_,rfl⟩
   rw [← hX] at a1;rw [← hY] at a0;have HX:=hi_ hX;have HY:=hi_ hY;have hla':ba<(w4.drewN q).heap.size:=hla;clear hX hY;have b1:((u:Int)+1).toNat=u+1:=by omega
   have b2:0≤(u:Int)+1:=by omega
   have b3:(u:Int)<(N:Int)+1:=by omega
   have b4:(u:Int)+1-1=u:=by omega
   have b5:(u:Int)<N:=by omega
   by_cases hXY:X=Y
   case pos=>
    have hd:(X == Y)=true:=by simp [hXY]
    clear hXY;go_upto_region 9 with fail
    go_quiet (fail)
    go_wp2_with fail
    go_roundg (gk-1)
    case measure=>omega
    case rel=>exact⟨u+1,by omega,by go_num,_,rfl⟩
   case neg=>
    have hd:(X == Y)=false:=by simp [hXY]
    clear hXY;go_upto_region 9 with fail
    go_quiet (fail)
    obtain⟨go,hgo⟩:∃go:Nat,go=gk:=⟨_,rfl⟩
    go_wp2_with fail
    go_loopg [14] (u+1) (fun gg s14 wr=>∃(k:Nat) (z:Int),k≤u+1∧gg=k∧s14 = .int .i64 z∧z+1=k∧∃q,wr=w4.drewN q)
    case atStart=>exact⟨u+1,u,by omega,rfl,by go_num,by omega,_,rfl⟩
    case round=>
     obtain⟨k,z,hku,hgk,rfl,hz,q,rfl⟩:=hrel;rcases k with _|k
     ·obtain rfl:z = -1:=by omega
      go_wp2_with fail
      go_roundg (go-1)
      case measure=>omega
      case rel=>exact⟨u+1,by omega,by go_num,_,rfl⟩
     ·obtain rfl:z=k:=by omega
      have a2:w4.cell? ⟨ba,k,none⟩=some (.int .i64 (aV fl ps k)):=HA.out k (by omega);have a3:w4.cell? ⟨bt,u+1-k,none⟩=some (.int .i64 (f.at (u+1-k))):=HW.out (u+1-k) (by omega);have hq:=HK.out k (u+1) (by omega) (by rw [← HN.out];omega);rw [← HX.out] at hq;have hbx:=aV_bd (fl:=fl) (t:=(k:Int)) HV.out;have hby:=aV_bd (fl:=fl) (t:=((u+1:Nat):Int)) HV.out;rw [← HX.out] at hby;obtain⟨Z,hZ⟩:∃Z,Z=aV fl ps k:=⟨_,rfl⟩
      obtain⟨V,hV⟩:∃V,V=f.at (u+1-k):=⟨_,rfl⟩
      rw [← hZ] at a2 hq hbx;rw [← hV] at a3 hq;obtain⟨dd,hdd⟩:∃dd:Nat,dd=u+1-k:=⟨_,rfl⟩
      rw [← hdd] at a3;have c1:(u:Int)+1-(k:Int)=dd:=by omega
      have c2:(dd:Int)<(N:Int)+1:=by omega
      have c3:(k:Int)<(N:Int)+1:=by omega
      have c4:(k:Int)<N:=by omega
      have c5:decide (V<X-Z)=false:=decide_eq_false (by omega);have hlt':bt<w4.heap.size:=hlt;clear hZ hV hdd hz;go_upto_region 13 with fail
      go_quiet (fail)
      go_wp2_with fail
      go_roundg (gk-1)
      case measure=>omega
      case rel=>exact⟨k,(k:Int)-1,by omega,by omega,by go_num,by omega,_,rfl⟩
  case neg=>
   have hui:¬(u:Int)+1<(N:Int)+1:=by omega
   go_wp2_with fail
   exact bodyPost_ret (v:=.tuple #[.int .i64 0,.int .i64 0,.bool false,.int .i64 0]) (by simp [results,Tryz.results74,go_sem]) rfl ⟨rfl,bdrewN BW.out⟩
theorem keeps_any(B:Option Addr)(m d:Nat)(fl:Int)(ps:List PK)(A:Option Addr)(n c:Nat)(f:Cv)(w:World)(h:LsT w B m d ps)(hv:Valid ps)(hfl:0≤fl)(hA:Ints w w.heap.size A n f.vals)(hn:n≤1000)(ok:f.Ok)(hk:KpS f fl ps) :
 Calls Tryz.prog 21 #[.slice B m d,.int .i64 fl,.agg #[.slice A n c,.int .i64 f.per,.int .i64 f.inc]] w fun e w'=>e = .returned (.bool true)∧Below w.heap.size w w':=by
 have BX:=hi_ (Blk.new w 26 #[.slice A n c,.int .i64 f.per,.int .i64 f.inc]);have BW:=hi_ (balloc w (.cells #[.slice A n c,.int .i64 f.per,.int .i64 f.inc] 26));have HI:=hi_ (hA.alloc' (.cells #[.slice A n c,.int .i64 f.per,.int .i64 f.inc] 26));have HT:=hi_ (h.below BW.out);clear h hA;go_enter Tryz.func21,Tryz.ntmps21
 go_upto_region 1 with fail
 generalize hwe:w.alloc (.cells #[.slice A n c,.int .i64 f.per,.int .i64 f.inc] 26)=w1 at *;clear hwe;obtain⟨⟨x0,x1,x2⟩,_,hlx⟩:=BX.out.c3;have HC:=hi_ (vio_any B m d fl ps A n c f w1 HT.out hv hfl (by exact HI.out) hn ok hk);clear hv ok hk;go_wp2_with fail
 refine HC.out.mono ?_;rintro e w2 ⟨rfl,hb⟩;have bw:=bthen BW.out hb;go_wp2_with fail
 go_ret
 exact⟨rfl,bw⟩
end
section
def drG(qs ds:List Int)(v:Nat)(b:Bool):List Int:=if b then ds else ds.set v (nth ds v+nth qs v)
inductive DrS (nx:Nat→Int→Prop) (sz:Int→Int) (qs:List Int):List Int→Nat→Bool→Int→List Int→Nat→Bool→Prop
 | take (ds:List Int) (v:Nat) (b:Bool) (r:Int):nx v r→0≤r→sz r≤nth (drG qs ds v b) v→DrS nx sz qs ds v b r ((drG qs ds v b).set v (nth (drG qs ds v b) v-sz r)) v true
 | skip (ds:List Int) (v:Nat) (b:Bool) (k r:Int) (ds':List Int) (v':Nat) (b':Bool):nx v k→0≤k→nth (drG qs ds v b) v<sz k→DrS nx sz qs (drG qs ds v b) ((v+1) % qs.length) false r ds' v' b'→DrS nx sz qs ds v b r ds' v' b'
 | none (ds:List Int) (v:Nat) (b:Bool) (r:Int) (ds':List Int) (v':Nat) (b':Bool):nx v (-1)→DrS nx sz qs (ds.set v 0) ((v+1) % qs.length) false r ds' v' b'→DrS nx sz qs ds v b r ds' v' b'
def szOf(ps:List PK)(r:Int):Int:=match ps[r.toNat]? with
 | some x=>x.sz
 | none=>0
theorem szOf_at{ps:List PK}{i:Nat}{x:PK}(h:ps[i]?=some x):szOf ps i=x.sz:=by
 unfold szOf;rw [Int.toNat_natCast,h]
def DrC(qs:List Int)(ps:List PK):RS (List Int × Nat × Bool)→Int→List Int × Nat × Bool→Prop:=fun s r g=>
 (r = -1∧g=s.sg∧firstV ps s.begun s.t = -1)∨DrS (fun c r=>NxS ps s.begun s.t c r) (szOf ps) qs s.sg.1 s.sg.2.1 s.sg.2.2 r g.1 g.2.1 g.2.2
theorem DrS.nx{nx:Nat→Int→Prop}{sz:Int→Int}{qs ds ds':List Int}{v v':Nat}{b b':Bool}{r:Int}(h:DrS nx sz qs ds v b r ds' v' b'):nx v' r∧0≤r:=by
 induction h with
 | take ds v b r h1 h2 h3=>exact⟨h1,h2⟩
 | skip _ _ _ _ _ _ _ _ _ _ _ _ ih=>exact ih
 | none _ _ _ _ _ _ _ _ _ ih=>exact ih
theorem dr_good{qs:List Int}{ps:List PK}(hv:Valid ps):ChGood ps (DrC qs ps):=by
 intro s r sg hl h;rcases h with ⟨h,_⟩|h
 ·exact .inl h
 ·obtain⟨i,x,h1,h2,h3,h4,h5,h6⟩:=nx_good hv hl h.nx.1 h.nx.2;exact .inr ⟨i,x,h1,h2,h4,h5,h6⟩
theorem dr_work{qs:List Int}{ps:List PK}(hv:Valid ps)(c:Int):ChWork c ps (DrC qs ps):=by
 intro s sg hl h i x hx _ ht;rcases h with ⟨_,_,h⟩|h
 ·exact first_none hv hl h i x hx ht
 ·exact absurd h.nx.2 (by omega)
theorem drG_len{qs ds:List Int}{v:Nat}{b:Bool}:(drG qs ds v b).length=ds.length:=by
 unfold drG;split
 ·rfl
 ·rw [List.length_set]
theorem drG_nth{qs ds:List Int}{v:Nat}{b:Bool}(hl:v<ds.length)(e:Nat):nth (drG qs ds v b) e=nth ds e+if e=v∧b=false then nth qs v else 0:=by
 unfold drG;cases b with
 | true=>simp
 | false=>
   simp only [Bool.false_eq_true,if_false,and_true];rw [nth_set _ _ _ _ hl];by_cases h:e=v
   ·subst h;rw [if_pos rfl,if_pos rfl]
   ·rw [if_neg h,if_neg h];omega
section
variable{cap:Int}{ps:List PK}{ticks:Nat}{qs:List Int}{c d:Nat}{s:RS (List Int × Nat × Bool)}{L M:Int}
def DrI(qs:List Int)(c d:Nat)(L M a b:Int)(g:List Int × Nat × Bool):Prop:=
 g.1.length=2∧g.2.1<2∧0≤a∧0≤b∧0≤nth g.1 c∧0≤nth g.1 d∧
  a+nth g.1 c≤L-1+(if g.2.1=c∧g.2.2=true then nth qs c else 0)∧b+nth g.1 d≤M-1+(if g.2.1=d∧g.2.2=true then nth qs d else 0)∧
  (0<a→g.2.1=c∧g.2.2=true∧b=0)∧(0<b→g.2.1=d∧g.2.2=true∧a=0)
theorem dr_step{nx:Nat→Int→Prop}{sz:Int→Int}{ds ds':List Int}{v v':Nat}{b b':Bool}{r:Int}(hc2:c<2)(hd2:d<2)(hcd:c≠d)(hl:qs.length=2)(h0:1≤nth qs 0)(h1:1≤nth qs 1)
 (hzL:∀k,0≤k→nx c k→1≤sz k∧sz k≤L) (hzM:∀k,0≤k→nx d k→1≤sz k∧sz k≤M) (hL:1≤L) (hM:1≤M)
 (h:DrS nx sz qs ds v b r ds' v' b'):DrI qs c d L M 0 0 (ds,v,b)→(v'=c∧DrI qs c d L M (sz r) 0 (ds',v',b'))∨(v'=d∧DrI qs c d L M 0 (sz r) (ds',v',b')):=by
 have hq:1≤nth qs c∧1≤nth qs d:=by
  rcases (show(c=0∧d=1)∨(c=1∧d=0) by omega) with ⟨rfl,rfl⟩|⟨rfl,rfl⟩ <;> exact⟨by assumption,by assumption⟩
 unfold DrI
 induction h with
 | take ds v b r k1 k2 k3=>
   rintro⟨g1,g2,_,_,g3,g4,g5,g6,_⟩;simp only at g1 g2 g3 g4 g5 g6
   have e:=fun e=>drG_nth (qs:=qs) (ds:=ds) (v:=v) (b:=b) (by omega) e
   have e2:=fun j x=>nth_set (drG qs ds v b) v j x (by rw [drG_len];omega)
   rcases (show(v=c∧v≠d)∨(v=d∧v≠c) by omega) with ⟨rfl,e3⟩|⟨rfl,e3⟩
   ·have:=hzL r k2 k1
    refine .inl ⟨rfl,by simp only [List.length_set,drG_len];exact g1,g2,?_⟩;cases b <;> simp only [e2,e,e3,Ne.symm e3,if_true,if_false,true_and,and_true,false_and,and_false,Bool.false_eq_true,Bool.true_eq_false,true_implies,false_implies,implies_true,Int.lt_irrefl] at g5 g6 k3 ⊢ <;> omega
   ·have:=hzM r k2 k1
    refine .inr ⟨rfl,by simp only [List.length_set,drG_len];exact g1,g2,?_⟩;cases b <;> simp only [e2,e,e3,Ne.symm e3,if_true,if_false,true_and,and_true,false_and,and_false,Bool.false_eq_true,Bool.true_eq_false,true_implies,false_implies,implies_true,Int.lt_irrefl] at g5 g6 k3 ⊢ <;> omega
 | skip ds v b k r ds' v' b' k1 k2 k3 k4 ih'=>
   have IH:=hi_ ih';clear ih';rintro⟨g1,g2,_,_,g3,g4,g5,g6,_⟩;simp only at g1 g2 g3 g4 g5 g6
   have e:=fun e=>drG_nth (qs:=qs) (ds:=ds) (v:=v) (b:=b) (by omega) e
   refine IH.out ⟨by simp only [drG_len];exact g1,by show(v+1) % qs.length<2;rw [hl];omega,?_⟩;rcases (show(v=c∧v≠d)∨(v=d∧v≠c) by omega) with ⟨rfl,e3⟩|⟨rfl,e3⟩
   ·have:=hzL k k2 k1
    cases b <;> simp only [e,e3,Ne.symm e3,if_true,if_false,true_and,and_true,false_and,and_false,Bool.false_eq_true,Bool.true_eq_false,true_implies,false_implies,implies_true,Int.lt_irrefl] at g5 g6 k3 ⊢ <;> omega
   ·have:=hzM k k2 k1
    cases b <;> simp only [e,e3,Ne.symm e3,if_true,if_false,true_and,and_true,false_and,and_false,Bool.false_eq_true,Bool.true_eq_false,true_implies,false_implies,implies_true,Int.lt_irrefl] at g5 g6 k3 ⊢ <;> omega
 | none ds v b r ds' v' b' k1 k4 ih'=>
   have IH:=hi_ ih';clear ih';rintro⟨g1,g2,_,_,g3,g4,g5,g6,_⟩;simp only at g1 g2 g3 g4 g5 g6
   have e2:=fun j=>nth_set ds v j 0 (by omega)
   refine IH.out ⟨by simp only [List.length_set];exact g1,by show(v+1) % qs.length<2;rw [hl];omega,?_⟩;rcases (show(v=c∧v≠d)∨(v=d∧v≠c) by omega) with ⟨rfl,e3⟩|⟨rfl,e3⟩
   ·simp only [e2,e3,Ne.symm e3,if_true,if_false,true_and,and_true,false_and,and_false,Bool.false_eq_true,Bool.true_eq_false,true_implies,false_implies,implies_true,Int.lt_irrefl] at g5 g6 ⊢;omega
   ·simp only [e2,e3,Ne.symm e3,if_true,if_false,true_and,and_true,false_and,and_false,Bool.false_eq_true,Bool.true_eq_false,true_implies,false_implies,implies_true,Int.lt_irrefl] at g5 g6 ⊢;omega
theorem nx_sz{σ:Type}{ps:List PK}(hv:Valid ps){s:RS σ}{e:Nat}{Z:Int}(hZ:∀x∈ps,x.fl=e→x.sz≤Z):∀k,0≤k→NxS ps s.begun s.t e k→1≤szOf ps k∧szOf ps k≤Z:=by
 intro k hk h;rcases h with ⟨i,x,rfl,h1,_,_,h2,_⟩|⟨rfl,_⟩
 ·rw [szOf_at h1];exact⟨(good_sz hv h1).1,hZ x (List.mem_of_getElem? h1) h2⟩
 ·omega
theorem dr_glob(hv:Valid ps)(hfl:∀x∈ps,x.fl<2)(hc:1≤cap)(hc2:c<2)(hd2:d<2)(hcd:c≠d)(hl:qs.length=2)(h0:1≤nth qs 0)(h1:1≤nth qs 1)(hL:1≤L)(hM:1≤M)(hLs:∀x∈ps,x.fl=c→x.sz≤L)(hMs:∀x∈ps,x.fl=d→x.sz≤M)
 (h:MRun cap 2 ps ticks (DrC qs ps) ([0,0],0,false) s):DrI qs c d L M (s.opn ps c) (s.opn ps d) s.sg:=by
 have hnn:∀e,e<2→nth ([0,0]:List Int) e=0:=fun e he=>by rcases (show e=0∨e=1 by omega) with rfl|rfl <;> rfl
 refine MRun.glob2 hv hfl hc (dr_good hv) hc2 hd2 hcd (DrI qs c d L M) ⟨rfl,by simp,Int.le_refl _,Int.le_refl _,?_⟩ ?_ ?_ ?_ ?_ h
 ·simp only [hnn c hc2,hnn d hd2,Bool.false_eq_true,and_false,if_false];omega
 ·intro s sg _ hch h;rcases hch with ⟨_,rfl,_⟩|hch
  ·exact h
  ·exact absurd hch.nx.2 (by omega)
 ·intro s sg i x _ hch hx h;rcases hch with ⟨h,_⟩|hch
  ·omega
  ·have e:=nx_class hch.nx.1 rfl hx;rcases dr_step hc2 hd2 hcd hl h0 h1 (nx_sz hv hLs) (nx_sz hv hMs) hL hM hch h with ⟨e2,k⟩|⟨e2,k⟩
   ·rw [szOf_at hx] at k;exact .inl ⟨by omega,k⟩
   ·rw [szOf_at hx] at k;exact .inr ⟨by omega,k⟩
 ·intro a b n g hn hna ⟨g1,g2,g3,g4,g5,g6,g7,g8,g9,g10⟩;exact⟨g1,g2,by omega,g4,g5,g6,by omega,g8,fun h=>g9 (by omega),fun h=>⟨(g10 h).1,(g10 h).2.1,by have:=(g10 h).2.2;omega⟩⟩
 ·intro a b n g hn hna ⟨g1,g2,g3,g4,g5,g6,g7,g8,g9,g10⟩;exact⟨g1,g2,g3,by omega,g5,g6,g7,by omega,fun h=>⟨(g9 h).1,(g9 h).2.1,by have:=(g9 h).2.2;omega⟩,fun h=>g10 (by omega)⟩
def DrQ(qs:List Int)(c d:Nat)(L M Y O a b:Int)(g:List Int × Nat × Bool):Prop:=
 g.1.length=2∧g.2.1<2∧0≤b∧0≤nth g.1 d∧∃m:Int,nth qs c*(m-1)-(L-1)≤Y∧O+b+nth g.1 d≤nth qs d*m+(M-1)∧
  (g.2.1=c→b=0∧nth g.1 d≤M-1∧nth qs c*(m-1)+(if g.2.2=true then nth qs c else 0)≤Y+a+nth g.1 c)∧
  (g.2.1=d→a=0∧nth g.1 c≤L-1∧nth qs c*(m-1)≤Y+nth g.1 c∧(g.2.2=false→O+b+nth g.1 d≤nth qs d*(m-1)+(M-1)))
theorem dr_busy{nx:Nat→Int→Prop}{sz:Int→Int}{ds ds':List Int}{v v':Nat}{b b':Bool}{r Y O:Int}(hc2:c<2)(hd2:d<2)(hcd:c≠d)(hl:qs.length=2)(h0:1≤nth qs 0)(h1:1≤nth qs 1)
 (hzL:∀k,0≤k→nx c k→1≤sz k∧sz k≤L) (hzM:∀k,0≤k→nx d k→1≤sz k∧sz k≤M) (hL:1≤L) (hM:1≤M) (hw:nx c (-1)→False)
 (h:DrS nx sz qs ds v b r ds' v' b'):DrQ qs c d L M Y O 0 0 (ds,v,b)→(v'=c∧DrQ qs c d L M Y O (sz r) 0 (ds',v',b'))∨(v'=d∧DrQ qs c d L M Y O 0 (sz r) (ds',v',b')):=by
 have hq:1≤nth qs c∧1≤nth qs d:=by
  rcases (show(c=0∧d=1)∨(c=1∧d=0) by omega) with ⟨rfl,rfl⟩|⟨rfl,rfl⟩ <;> exact⟨by assumption,by assumption⟩
 have em:∀(q m:Int),q*(m-1)=q*m-q:=fun q m=>by rw [Int.mul_sub,Int.mul_one]
 have em2:∀(q m:Int),q*(m+1)=q*m+q:=fun q m=>by rw [Int.mul_add,Int.mul_one]
 unfold DrQ
 induction h with
 | take ds v b r k1 k2 k3=>
   rintro⟨g1,g2,_,g4,m,g5,g6,g7,g8⟩;simp only at g1 g2 g4 g5 g6 g7 g8
   have e:=fun e=>drG_nth (qs:=qs) (ds:=ds) (v:=v) (b:=b) (by omega) e
   have e2:=fun j x=>nth_set (drG qs ds v b) v j x (by rw [drG_len];omega)
   rcases (show(v=c∧v≠d)∨(v=d∧v≠c) by omega) with ⟨rfl,e3⟩|⟨rfl,e3⟩
   ·have:=hzL r k2 k1
    refine .inl ⟨rfl,by simp only [List.length_set,drG_len];exact g1,g2,Int.le_refl _,?_⟩;obtain⟨_,a1,a2⟩:=g7 rfl;cases b <;> simp only [e2,e,e3,Ne.symm e3,if_true,if_false,true_and,and_true,false_and,and_false,Bool.false_eq_true,Bool.true_eq_false,true_implies,false_implies,implies_true,Int.lt_irrefl] at a2 k3 ⊢ <;> exact⟨by omega,m,by omega⟩
   ·have:=hzM r k2 k1
    refine .inr ⟨rfl,by simp only [List.length_set,drG_len];exact g1,g2,by omega,?_⟩;obtain⟨_,a1,a2,a3⟩:=g8 rfl;cases b <;> simp only [e2,e,e3,Ne.symm e3,if_true,if_false,true_and,and_true,false_and,and_false,Bool.false_eq_true,Bool.true_eq_false,true_implies,false_implies,implies_true,Int.lt_irrefl,em] at a2 a3 g5 g6 k3 ⊢ <;> exact⟨by omega,m,by omega⟩
 | skip ds v b k r ds' v' b' k1 k2 k3 k4 ih'=>
   have IH:=hi_ ih';clear ih';rintro⟨g1,g2,_,g4,m,g5,g6,g7,g8⟩;simp only at g1 g2 g4 g5 g6 g7 g8
   have e:=fun e=>drG_nth (qs:=qs) (ds:=ds) (v:=v) (b:=b) (by omega) e
   rcases (show(v=c∧v≠d)∨(v=d∧v≠c) by omega) with ⟨rfl,e3⟩|⟨rfl,e3⟩
   ·have:=hzL k k2 k1
    obtain⟨_,a1,a2⟩:=g7 rfl;have e4:(v+1) % qs.length=d:=by rw [hl];omega
    rw [e4] at IH;refine IH.out ⟨by simp only [drG_len];exact g1,hd2,Int.le_refl _,?_⟩;cases b <;> simp only [e,e3,Ne.symm e3,if_true,if_false,true_and,and_true,false_and,and_false,Bool.false_eq_true,Bool.true_eq_false,true_implies,false_implies,implies_true,Int.lt_irrefl,em] at a2 g5 g6 k3 ⊢ <;> exact⟨by omega,m+1,by rw [em2,em2];omega⟩
   ·have:=hzM k k2 k1
    obtain⟨_,a1,a2,a3⟩:=g8 rfl;have e4:(v+1) % qs.length=c:=by rw [hl];omega
    rw [e4] at IH;refine IH.out ⟨by simp only [drG_len];exact g1,hc2,Int.le_refl _,?_⟩;cases b <;> simp only [e,e3,Ne.symm e3,if_true,if_false,true_and,and_true,false_and,and_false,Bool.false_eq_true,Bool.true_eq_false,true_implies,false_implies,implies_true,Int.lt_irrefl,em] at a2 a3 g5 g6 k3 ⊢ <;> exact⟨by omega,m,by omega⟩
 | none ds v b r ds' v' b' k1 k4 ih'=>
   have IH:=hi_ ih';clear ih';rintro⟨g1,g2,_,g4,m,g5,g6,g7,g8⟩;simp only at g1 g2 g4 g5 g6 g7 g8
   have e2:=fun j=>nth_set ds v j 0 (by omega)
   rcases (show(v=c∧v≠d)∨(v=d∧v≠c) by omega) with ⟨rfl,e3⟩|⟨rfl,e3⟩
   ·exact(hw k1).elim
   ·obtain⟨_,a1,a2,a3⟩:=g8 rfl;have e4:(v+1) % qs.length=c:=by rw [hl];omega
    rw [e4] at IH;refine IH.out ⟨by simp only [List.length_set];exact g1,hc2,Int.le_refl _,?_⟩;simp only [e2,e3,Ne.symm e3,if_true,if_false,true_and,and_true,false_and,and_false,Bool.false_eq_true,Bool.true_eq_false,true_implies,false_implies,implies_true,Int.lt_irrefl];exact⟨by omega,m,by simp only [em] at *;omega⟩
theorem row_up(hv:Valid ps)(hfl:∀x∈ps,x.fl<2)(hc:1≤cap){σ:Type}{Ch:RS σ→Int→σ→Prop}{sg0:σ}{s:RS σ}(hg:ChGood ps Ch)(hc2:c<2)(h:MRun cap 2 ps ticks Ch sg0 s){t0 k:Nat}(h1:t0≤k)(h2:k≤s.t):s.row c t0≤s.row c k:=by
 have hi:=h.inv hv hfl hc hg;have hstep:∀n,t0+n≤s.t→s.row c t0≤s.row c (t0+n):=fun n=>by
  induction n with
  | zero=>intro _;exact Int.le_refl _
  | succ n ih=>intro hn;exact Int.le_trans (ih (by omega)) (hi.mono c (t0+n) hc2 (by unfold RS.cur;omega))
 have:=hstep (k-t0) (by omega)
 rwa [show t0+(k-t0)=k by omega] at this
theorem dr_serves(hv:Valid ps)(hfl:∀x∈ps,x.fl<2)(hc:1≤cap)(hc2:c<2)(hd2:d<2)(hcd:c≠d)(hl:qs.length=2)(h0:1≤nth qs 0)(h1:1≤nth qs 1)(hL:1≤L)(hM:1≤M)(hLs:∀x∈ps,x.fl=c→x.sz≤L)(hMs:∀x∈ps,x.fl=d→x.sz≤M)
 {β:Nat→Int} (hβ:∀(n:Nat) (y:Int),0≤y→cap*n≤y+nth qs d*((y+L-1) / nth qs c+1)+(M-1)→β n≤y)
 (h:MRun cap 2 ps ticks (DrC qs ps) ([0,0],0,false) s):Serves β c ps (s.row c) s.t:=by
 have hq:1≤nth qs c∧1≤nth qs d:=by
  rcases (show(c=0∧d=1)∨(c=1∧d=0) by omega) with ⟨rfl,rfl⟩|⟨rfl,rfl⟩ <;> exact⟨by assumption,by assumption⟩
 have hz:β 0≤0:=hβ 0 0 (Int.le_refl _) (by
  have:=Int.ediv_nonneg (show 0≤0+L-1 by omega) (show 0≤nth qs c by omega)
  have:=Int.mul_nonneg (show 0≤nth qs d by omega) (show 0≤(0+L-1) / nth qs c+1 by omega)
  simp only [Int.natCast_zero,Int.mul_zero];omega)
 refine serves2 hv hfl hc (dr_good hv) hc2 hz h ?_;intro s0 t0 k m0 on0 e0 htk e ha hb hr hk;have hqq:=MRun.busy2 hv hfl hc (dr_good hv) hc2 hd2 hcd (dr_work hv c) t0 (DrQ qs c d L M) ?_ ?_ ?_ ?_ m0 (by omega) ha hb
 ·obtain⟨g1,g2,g3,g4,m,g5,g6,_⟩:=hqq;have hf:=work_fulls hv hfl hc (dr_good hv) hc2 (dr_work hv c) h t0 (k-t0) (by omega) (fun j a b=>by rw [hr c hc2 j (by omega)];exact hb j a (by omega));rw [tot2 hc2 hd2 hcd,tot2 hc2 hd2 hcd,show t0+(k-t0)=k by omega] at hf;rw [e,← hr c hc2 k (Nat.le_refl _),← hr c hc2 t0 (by omega)] at g5;rw [e,← hr d hd2 k (Nat.le_refl _),← hr d hd2 t0 (by omega)] at g6;have hmono:=row_up hv hfl hc (dr_good hv) hc2 h (show t0≤k by omega) hk;have hm:m-1≤(s.row c k-s.row c t0+L-1) / nth qs c:=(Int.le_ediv_iff_mul_le (by omega)).2 (by rw [Int.mul_comm];omega);have hm2:nth qs d*m≤nth qs d*((s.row c k-s.row c t0+L-1) / nth qs c+1):=Int.mul_le_mul_of_nonneg_left (by omega) (by omega);exact hβ (k-t0) _ (by omega) (by omega)
 ·intro s m hon h4;obtain⟨g1,g2,g3,g4,g5,g6,g7,g8,g9,g10⟩:=dr_glob hv hfl hc hc2 hd2 hcd hl h0 h1 hL hM hLs hMs m;rw [h4] at g7;rcases (show(s.sg.2.1=c∧s.sg.2.1≠d)∨(s.sg.2.1=d∧s.sg.2.1≠c) by omega) with ⟨e2,e3⟩|⟨e2,e3⟩
  ·have hb0:s.opn ps d=0:=by
    rcases Int.lt_or_le 0 (s.opn ps d) with g|g
    ·exact absurd (g10 g).1 e3
    ·omega
   rw [hb0] at g8 ⊢;rw [if_neg (fun h=>e3 h.1)] at g8;refine⟨g1,g2,Int.le_refl _,g6,0,by omega,by omega,fun _=>⟨rfl,by omega,?_⟩,fun h=>absurd h e3⟩
   split <;> omega
  ·rw [if_neg (fun h=>e3 h.1)] at g7;refine⟨g1,g2,g4,g6,1,by simp;omega,?_,fun h=>absurd h e3,fun _=>⟨rfl,by omega,by simp;omega,fun h=>?_⟩⟩
   ·split at g8 <;> omega
   ·rw [if_neg (fun g=>by rw [h] at g;cases g.2)] at g8;simp;omega
 ·intro s sg i x Y O m hch hx hwt hq;rcases hch with ⟨h,_⟩|hch
  ·omega
  ·have e:=nx_class hch.nx.1 rfl hx;rcases dr_busy hc2 hd2 hcd hl h0 h1 (nx_sz hv hLs) (nx_sz hv hMs) hL hM (nx_wait hwt) hch hq with ⟨e2,k⟩|⟨e2,k⟩
   ·rw [szOf_at hx] at k;exact .inl ⟨by omega,k⟩
   ·rw [szOf_at hx] at k;exact .inr ⟨by omega,k⟩
 ·intro Y O a b n g hn hna ⟨g1,g2,g3,g4,m,g5,g6,g7,g8⟩;exact⟨g1,g2,g3,g4,m,by omega,g6,fun e=>by obtain⟨k1,k2,k3⟩:=g7 e;exact⟨k1,k2,by omega⟩,fun e=>by obtain⟨k1,k2,k3,k4⟩:=g8 e;exact⟨by omega,k2,by omega,k4⟩⟩
 ·intro Y O a b n g hn hna ⟨g1,g2,g3,g4,m,g5,g6,g7,g8⟩;exact⟨g1,g2,by omega,g4,m,g5,by omega,fun e=>by obtain⟨k1,k2,k3⟩:=g7 e;exact⟨by omega,k2,k3⟩,fun e=>by obtain⟨k1,k2,k3,k4⟩:=g8 e;exact⟨k1,k2,k3,fun h=>by have:=k4 h;omega⟩⟩
end
end
section
open Go.RowKit
theorem BBlk.ne{w:World}{g b:Nat}{bs:List Bool}{t:TypeId}{cs:Array Value}(h:BBlk w g bs)(k:Blk w b t cs)(ht:t≠4):g≠b:=by
 rintro rfl;unfold BBlk at h;unfold Blk at k;rw [h] at k
 injection k with k
 injection k with _ k
 exact ht k.symm
theorem SE.bgne{w:World}{gs n c bef b:Nat}{t left:Int}{A Bg:Option Addr}{ps:List PK}{bs:List Bool}{ty:TypeId}{cs:Array Value}(h:SE w gs t left A n c ps Bg bs bef)(k:Blk w b ty cs)(ht:ty≠4):∀g,0<n→Bg=some ⟨g,0,none⟩→¬g=b:=by
 intro g h0 e;obtain⟨gb,e2,hB,_⟩:=h.bg h0;rw [e] at e2;cases e2
 exact hB.ne k ht
structure RrM(w:World)(bC bL bW gW cl:Nat)(l:Int)(ws:List Int):Prop where
 bc:Blk w bC 3 #[.int .i64 cl]
 bl:Blk w bL 3 #[.int .i64 l]
 bw:Blk w bW 22 #[.slice (some ⟨gW,0,none⟩) 2 2]
 bg:IBlk w gW ws
 ln:ws.length=2
 w1:∀k,k<2→1≤nth ws k∧nth ws k≤20
 cl2:cl<2
 l0:0≤l∧l≤20
 ne:bC≠bL∧bC≠bW∧bC≠gW∧bL≠bW∧bL≠gW
section
variable{w w':World}{bC bL bW gW cl:Nat}{l:Int}{ws:List Int}{X:Nat→Prop}
theorem RrM.kx(h:RrM w bC bL bW gW cl l ws)(k:KX X w w')(h1:¬X bC)(h2:¬X bL)(h3:¬X bW)(h4:¬X gW):RrM w' bC bL bW gW cl l ws:=
 ⟨h.bc.kx k h1,h.bl.kx k h2,h.bw.kx k h3,h.bg.kx k h4,h.ln,h.w1,h.cl2,h.l0,h.ne⟩
theorem RrM.setC(h:RrM w bC bL bW gW cl l ws)(d:Nat)(hd:d<2):RrM (w.setCell ⟨bC,0,none⟩ (.int .i64 d)) bC bL bW gW d l ws:=
 ⟨by simpa using h.bc.set_ 0 (.int .i64 d),h.bl.far (p:=⟨bC,0,none⟩) (fun e=>h.ne.1 e.symm) _,h.bw.far (p:=⟨bC,0,none⟩) (fun e=>h.ne.2.1 e.symm) _,h.bg.far (p:=⟨bC,0,none⟩) (fun e=>h.ne.2.2.1 e.symm) _,h.ln,h.w1,hd,h.l0,h.ne⟩
theorem RrM.setL(h:RrM w bC bL bW gW cl l ws)(m:Int)(h0:0≤m)(h1:m≤20):RrM (w.setCell ⟨bL,0,none⟩ (.int .i64 m)) bC bL bW gW cl m ws:=
 ⟨h.bc.far (p:=⟨bL,0,none⟩) h.ne.1 _,by simpa using h.bl.set_ 0 (.int .i64 m),h.bw.far (p:=⟨bL,0,none⟩) (fun e=>h.ne.2.2.2.1 e.symm) _,h.bg.far (p:=⟨bL,0,none⟩) (fun e=>h.ne.2.2.2.2 e.symm) _,h.ln,h.w1,h.cl2,⟨h0,h1⟩,h.ne⟩
end
theorem first_some{ps:List PK}{bs:List Bool}{t:Int}(hl:bs.length=ps.length)(h:¬firstV ps bs t = -1):0≤firstV ps bs t∧∃(i:Nat) (x:PK),ps[i]?=some x∧bs[i]?=some false∧x.tm≤t:=by
 unfold firstV at h ⊢;cases hx:ps[fbg bs]? with
 | none=>rw [hx] at h;exact absurd rfl h
 | some x=>
   rw [hx] at h;simp only at h ⊢
   by_cases ht:x.tm≤t
   ·rw [if_pos ht];have:=(List.getElem?_eq_some_iff.1 hx).1
    exact⟨by omega,_,x,hx,fbg_false _ (by omega),ht⟩
   ·rw [if_neg ht] at h;exact absurd rfl h
set_option maxHeartbeats 4000000 in
theorem rrchoose_any(gs n c bef bC bL bW gW cl:Nat)(t left l:Int)(A Bg:Option Addr)(ps:List PK)(bs:List Bool)(ws:List Int)(w:World)(h:SE w gs t left A n c ps Bg bs bef)(hv:Valid ps)(hfl:∀x∈ps,x.fl<2)(hm:RrM w bC bL bW gW cl l ws)(hne:gs≠bC∧gs≠bL∧gs≠bW∧gs≠gW)(hA:∀g o,0<n→A=some ⟨g,o,none⟩→g≠bC∧g≠bL) :
 Calls Tryz.prog 204 (#[.pointer (some ⟨gs,0,none⟩)] ++ #[.pointer (some ⟨bC,0,none⟩),.pointer (some ⟨bL,0,none⟩),.pointer (some ⟨bW,0,none⟩)]) w fun e w'=>∃(r:Int) (cl':Nat) (l':Int),((r = -1∧cl'=cl∧l'=l∧firstV ps bs t = -1)∨RrS (fun c r=>NxS ps bs t c r) ws cl l r cl' l')∧e = .returned (.int .i64 r)∧(∃b2,SE w' gs t left A n c ps Bg bs b2)∧RrM w' bC bL bW gW cl' l' ws∧KX (fun k=>k=gs∨k=bC∨k=bL) w w':=by
 show Calls _ _ #[.pointer (some ⟨gs,0,none⟩),.pointer (some ⟨bC,0,none⟩),.pointer (some ⟨bL,0,none⟩),.pointer (some ⟨bW,0,none⟩)] _ _
 obtain⟨n1,n2,n3,n4⟩:=hne;have HN:n≤60:=by have:=hv.len;have:=h.tr.1;omega
 have E:=hi_ h;have HV:=hi_ hv;have HF:=hi_ hfl;have RM:=hi_ hm;have HA0:=hi_ hA;have HC:=hi_ (first_any gs n c bef t left A Bg ps bs w h hv);clear h hv hfl hm hA;go_enter Tryz.func204,Tryz.ntmps204
 go_wp2_with fail
 refine HC.out.mono ?_;rintro e w1 ⟨rfl,he,hk⟩;clear HC E;have E0:=hi_ (show ∃b2,SE w1 gs t left A n c ps Bg bs b2 from⟨_,he⟩);have R0:=hi_ (RM.out.kx hk (fun e=>n1 e.symm) (fun e=>n2 e.symm) (fun e=>n3 e.symm) (fun e=>n4 e.symm));have K0:=hi_ (show KX (fun k=>k=gs∨k=bC∨k=bL) w w1 from hk.mono (fun _ _ h=>.inl h));clear RM hk;by_cases hf:firstV ps bs t = -1
 case pos=>
  have HF1:=hi_ hf;rw [hf];clear hf he;go_wp2_with fail
  go_ret
  exact⟨-1,cl,l,.inl ⟨rfl,rfl,rfl,HF1.out⟩,rfl,E0.out,R0.out,K0.out⟩
 case neg=>
 obtain⟨hf0,i,x,h1,h2,h3⟩:=first_some (by rw [he.bl,he.tr.1]) hf;have hF:x.fl.toNat<2:=by have:=HF.out x (List.mem_of_getElem? h1);omega
 obtain⟨F,hFe⟩:∃F,F=x.fl.toNat:=⟨_,rfl⟩
 rw [← hFe] at hF;have HW:=hi_ (show ∀r,NxS ps bs t F r→r≠-1 from fun r hr e=>by
  have gx:=(good_sz HV.out h1).2;rcases hr with ⟨j,_,e2,_⟩|⟨_,hr⟩
  ·omega
  ·exact hr i x h1 h2 h3 (by omega))
 clear h1 h2 h3 hFe he hf;generalize firstV ps bs t=f0 at *;go_wp2_with fail
 go_loopg [] 2 (fun gg wr=>∃(k:Nat) (m:Int),(if k=F then (if 0<m then 0 else 2) else 1)≤gg∧Hid (∃b2,SE wr gs t left A n c ps Bg bs b2)∧Hid (RrM wr bC bL bW gW k m ws)∧Hid (KX (fun k=>k=gs∨k=bC∨k=bL) w wr)∧Hid (∀r c' l',RrS (fun c r=>NxS ps bs t c r) ws k m r c' l'→RrS (fun c r=>NxS ps bs t c r) ws cl l r c' l'))
 case atStart=>exact⟨cl,l,by split <;> (try split) <;> omega,E0,R0,K0,hi_ (fun r c' l' h=>h)⟩
 case round=>
  clear E0 R0 K0;obtain⟨k,m,hg,E,RM,K,HS⟩:=hrel;obtain⟨b2,he⟩:=E.out;have HC:=hi_ (next_any gs n c b2 t left k A Bg ps bs wr he HV.out);clear he E;obtain⟨⟨c0,hlc⟩,⟨l0,hll⟩,⟨q0,hlq⟩⟩:(_∧_)∧(_∧_)∧(_∧_):=⟨⟨RM.out.bc.cell 0,RM.out.bc.lt⟩,⟨RM.out.bl.cell 0,RM.out.bl.lt⟩,⟨RM.out.bw.cell 0,RM.out.bw.lt⟩⟩
  simp at c0 l0 q0;have zc:=RM.out.bc.frozen 0;have zl:=RM.out.bl.frozen 0;go_wp2_with fail
  refine HC.out.mono ?_;rintro e w3 ⟨r,hr,rfl,he,hk3⟩;have E:=hi_ (show ∃b2,SE w3 gs t left A n c ps Bg bs b2 from⟨_,he⟩);replace RM:=hi_ (RM.out.kx hk3 (fun e=>n1 e.symm) (fun e=>n2 e.symm) (fun e=>n3 e.symm) (fun e=>n4 e.symm));replace K:=hi_ (K.out.trans (show KX (fun k=>k=gs∨k=bC∨k=bL) wr w3 from hk3.mono (fun _ _ h=>.inl h)));have HR:=hi_ hr;clear HC hk3 he;clear c0 hlc l0 hll q0 hlq zc zl;obtain⟨⟨c0,hlc⟩,⟨l0,hll⟩,⟨q0,hlq⟩⟩:(_∧_)∧(_∧_)∧(_∧_):=⟨⟨RM.out.bc.cell 0,RM.out.bc.lt⟩,⟨RM.out.bl.cell 0,RM.out.bl.lt⟩,⟨RM.out.bw.cell 0,RM.out.bw.lt⟩⟩
  simp at c0 l0 q0;have zc:=RM.out.bc.frozen 0;have zl:=RM.out.bl.frozen 0;by_cases hgo:0≤r∧0<m
  case pos=>
   obtain⟨hr0,hm0⟩:=hgo;have hm1:=RM.out.l0;have HA:=hi_ (HS.out r k (m-1) (.take k m r HR.out hr0 hm0));have RM2:=hi_ (RM.out.setL (m-1) (by omega) (by omega));have K2:=hi_ (K.out.set_ (p:=⟨bL,0,none⟩) (.inr (.inr rfl)) (.int .i64 (m-1)));have E2:=hi_ (show ∃b2,SE (w3.setCell ⟨bL,0,none⟩ (.int .i64 (m-1))) gs t left A n c ps Bg bs b2 from by
    obtain⟨b3,h⟩:=E.out;exact⟨b3,h.kx ((KX.refl (fun k=>k=bL) w3).set_ (p:=⟨bL,0,none⟩) rfl _) n2 (fun g o h0 e=>(HA0.out g o h0 e).2) (h.bgne RM.out.bl (by decide))⟩)
   clear RM K E HR hr;have em:IntKind.i64.wrap (m-1)=m-1:=IntWalk.i64_in _ (by omega);go_wp2_with fail
   go_ret
   exact⟨r,k,m-1,.inr HA.out,rfl,E2.out,RM2.out,K2.out⟩
  case neg=>
   have hd:(r = -1∨m≤0)∧-1≤r:=by
    rcases HR.out with ⟨j,_,rfl,_⟩|⟨rfl,_⟩ <;> omega
   obtain⟨k2,hk2⟩:∃k2:Nat,k2=(k+1) % 2:=⟨_,rfl⟩
   have hkl:=RM.out.cl2;have hk22:k2<2:=by omega
   have hw2:=RM.out.w1 k2 hk22;obtain⟨v,hv⟩:∃v,v=nth ws k2:=⟨_,rfl⟩
   have HV2:=hi_ hv;rw [← hv] at hw2;have HS2:=hi_ (show ∀r c' l',RrS (fun c r=>NxS ps bs t c r) ws k2 v r c' l'→RrS (fun c r=>NxS ps bs t c r) ws cl l r c' l' from fun r' c' l' h=>HS.out r' c' l' (.skip k m r' c' l' (hd.1.imp (fun e=>by rw [← e];exact HR.out) id) (by rw [RM.out.ln,← hk2,← HV2.out];exact h)));have HG:=hi_ (show(if k2=F then (if 0<v then 0 else 2) else 1)<gk by
    have:=HW.out r
    by_cases e:k=F
    ·rw [if_pos e] at hg;rw [if_neg (by omega)];subst e;have:=this HR.out
     rw [if_neg (by omega)] at hg;omega
    ·rw [if_neg e] at hg;rw [if_pos (by omega),if_pos (by omega)];omega)
   have RM2:=hi_ (RM.out.setC k2 hk22);have K2:=hi_ (K.out.set_ (p:=⟨bC,0,none⟩) (.inr (.inl rfl)) (.int .i64 k2));have E2:=hi_ (show ∃b2,SE (w3.setCell ⟨bC,0,none⟩ (.int .i64 k2)) gs t left A n c ps Bg bs b2 from by
    obtain⟨b3,h⟩:=E.out;exact⟨b3,h.kx ((KX.refl (fun k=>k=bC) w3).set_ (p:=⟨bC,0,none⟩) rfl _) n1 (fun g o h0 e=>(HA0.out g o h0 e).1) (h.bgne RM.out.bc (by decide))⟩)
   have ek:((k:Int)+1).tmod 2=(k2:Int):=by rw [Int.tmod_eq_emod_of_nonneg (by omega)];omega
   obtain⟨hne1,hne2,hne3,hne4,hne5⟩:=RM.out.ne;have hlg:=RM.out.bg.lt;clear RM K E HR hr HS hk2 hv hg;have hv2:=(RM2.out.bg.cell k2 (by rw [RM2.out.ln];exact hk22))
   rw [← HV2.out,cell_set1 hne3] at hv2;have hk2i:(k2:Int)<2:=by omega
   have RM3:=hi_ (RM2.out.setL v (by omega) (by omega));have K3:=hi_ (K2.out.set_ (p:=⟨bL,0,none⟩) (.inr (.inr rfl)) (.int .i64 v));have E3:=hi_ (show ∃b2,SE ((w3.setCell ⟨bC,0,none⟩ (.int .i64 (k2:Int))).setCell ⟨bL,0,none⟩ (.int .i64 v)) gs t left A n c ps Bg bs b2 from by
    obtain⟨b3,h⟩:=E2.out;exact⟨b3,h.kx ((KX.refl (fun k=>k=bL) _).set_ (p:=⟨bL,0,none⟩) rfl _) n2 (fun g o h0 e=>(HA0.out g o h0 e).2) (h.bgne RM2.out.bl (by decide))⟩)
   clear RM2 K2 E2 HV2;go_wp2_with fail
   all_goals
    go_roundg (if k2=F then (if 0<v then 0 else 2) else 1)
    case measure=>exact HG.out
    case rel=>exact⟨k2,v,Nat.le_refl _,E3,RM3,K3,HS2⟩
-- rrweigh_any the theorem, netcalculus/roundrobin.weighed the function, 20 the bound
theorem rrweigh_any(A:Option Addr)(n c:Nat)(ws:List Int)(w:World)(h:Ints w w.heap.size A n ws)(hn:n≤6)(hw:∀k,k<n→1≤nth ws k∧nth ws k≤20) :
 Calls Tryz.prog 203 #[.slice A n c] w fun e w'=>e = .returned (.bool true)∧Below w.heap.size w w':=by
 have HI:=hi_ h;have HW:=hi_ hw;clear h hw;go_enter Tryz.func203,Tryz.ntmps203
 go_wp2_with fail
 go_loopg [7] n (fun gg s7 wr=>∃k:Nat,k+gg=n∧s7 = .int .i64 k∧Hid (Below w.heap.size w wr))
 case atStart=>exact⟨0,by omega,rfl,hi_ (Below.refl _ _)⟩
 case round=>
  obtain⟨k,hkg,rfl,BW⟩:=hrel;by_cases hk:k<n
  case pos=>
   have hki:(k:Int)<n:=by omega
   obtain⟨b,o,hA,hb,hc⟩:=HI.out.2 (by omega);subst hA;have hb2:b<wr.heap.size:=by have:=BW.out.size;omega
   have hcc:=(BW.out.cell (p:=⟨b,o+k,none⟩) hb).trans (hc k hk);obtain⟨h1,h2⟩:=HW.out k hk;generalize nth ws k=v at *;have d1:decide (v<1)=false:=decide_eq_false (by omega);have d2:decide (20<v)=false:=decide_eq_false (by omega);clear hc;go_wp2_with fail
   go_roundg (gk-1)
   case measure=>omega
   case rel=>exact⟨k+1,by omega,by go_num,BW⟩
  case neg=>
   have hki:¬(k:Int)<n:=by omega
   go_wp2_with fail
   go_ret
   exact⟨rfl,BW.out⟩
theorem twoB(w:World)(x y:Value):Blk ((w.alloc (.cells #[x] 3)).alloc (.cells #[y] 3)).drew w.heap.size 3 #[x]∧Blk ((w.alloc (.cells #[x] 3)).alloc (.cells #[y] 3)).drew (w.heap.size+1) 3 #[y]∧Below w.heap.size w ((w.alloc (.cells #[x] 3)).alloc (.cells #[y] 3)).drew:=by
 refine⟨Blk.drew ((Blk.new w 3 #[x]).alloc _),Blk.drew ?_,Below.drew (bthen (balloc w _) (balloc _ _))⟩
 have:=Blk.new (w.alloc (.cells #[x] 3)) 3 #[y]
 rwa [World.size_alloc] at this
set_option maxHeartbeats 2000000 in
theorem rrrun_any(cap:Int)(gW:Nat)(ws:List Int)(A:Option Addr)(n c:Nat)(ps:List PK)(ticks:Nat)(w:World)(hT:LsT w A n c ps)(hv:Valid ps)(hfl:∀x∈ps,x.fl<(2:Nat))(hc1:1≤cap)(hc2:cap≤4000)(ht:ticks≤2000)(hG:IBlk w gW ws)(hlw:ws.length=2)(hw:∀k,k<2→1≤nth ws k∧nth ws k≤20)(hA:∀g o,0<n→A=some ⟨g,o,none⟩→g<w.heap.size) :
 Calls Tryz.prog 194 #[.int .i64 cap,.slice (some ⟨gW,0,none⟩) 2 2,.slice A n c,.int .i64 ticks] w (RetRn n 2 ticks (RunOf cap 2 ps ticks (RrC ws ps) (0,nth ws 0)) w):=by
 have hn:n≤60:=by have:=hv.len;have:=hT.1;omega
 have CB:=hi_ ((Blk.new w 22 #[.slice (some ⟨gW,0,none⟩) 2 2]).alloc (.cells #[.slice none 0 0,.slice none 0 0] 62));have rb:=Blk.new (w.alloc (.cells #[.slice (some ⟨gW,0,none⟩) 2 2] 22)) 62 #[.slice none 0 0,.slice none 0 0];simp only [World.size_alloc] at rb;have RB:=hi_ rb;have BW:=hi_ (bthen (balloc w (.cells #[.slice (some ⟨gW,0,none⟩) 2 2] 22)) (balloc _ (.cells #[.slice none 0 0,.slice none 0 0] 62)));have HS:=hi_ (show w.heap.size+2=((w.alloc (.cells #[.slice (some ⟨gW,0,none⟩) 2 2] 22)).alloc (.cells #[.slice none 0 0,.slice none 0 0] 62)).heap.size by simp [World.size_alloc]);have HT:=hi_ (hT.below BW.out);have HV:=hi_ hv;have HF:=hi_ hfl;have HG:=hi_ (hG.below BW.out hG.lt);have HLW:=hi_ hlw;have HW:=hi_ hw;have HA:=hi_ hA;have hgw:=hG.lt;clear hT hv hfl rb hG hlw hw hA;go_enter Tryz.func194,Tryz.ntmps194
 go_upto_region 1 with fail
 generalize hwe:(w.alloc (.cells #[.slice (some ⟨gW,0,none⟩) 2 2] 22)).alloc (.cells #[.slice none 0 0,.slice none 0 0] 62)=w1 at *;clear hwe;go_wp2_with fail
 refine(validate_any A n c ps w1 HT.out HV.out).mono ?_;rintro e w2 ⟨rfl,hb⟩;replace HT:=hi_ (HT.out.below hb);replace CB:=hi_ (CB.out.below hb CB.out.lt);replace RB:=hi_ (RB.out.below hb RB.out.lt);replace HG:=hi_ (HG.out.below hb HG.out.lt);replace BW:=hi_ (bthen BW.out hb);replace HS:=hi_ (show w.heap.size+2≤w2.heap.size by have:=hb.size;have:=HS.out;omega);clear hb;have cc:=CB.out.cell 0;simp at cc;have hlc:=CB.out.lt;go_wp2_with fail
 refine(mcheck_any A n c cap 2 ticks ps w2 HT.out hc1 hc2 (by omega) (by omega) (by omega) (by omega) HF.out hn).mono ?_;rintro e w3 ⟨rfl,hb⟩;replace HT:=hi_ (HT.out.below hb);replace CB:=hi_ (CB.out.below hb CB.out.lt);replace RB:=hi_ (RB.out.below hb RB.out.lt);replace HG:=hi_ (HG.out.below hb HG.out.lt);replace BW:=hi_ (bthen BW.out hb);replace HS:=hi_ (show w.heap.size+2≤w3.heap.size by have:=hb.size;have:=HS.out;omega);clear hb cc hlc;have cc:=CB.out.cell 0;simp at cc;have hlc:=CB.out.lt;go_wp2_with fail
 refine(rrweigh_any (some ⟨gW,0,none⟩) 2 2 ws w3 (by have:=HG.out.ints;rwa [HLW.out] at this) (by omega) HW.out).mono ?_;rintro e w4 ⟨rfl,hb⟩;replace HT:=hi_ (HT.out.below hb);replace CB:=hi_ (CB.out.below hb CB.out.lt);replace RB:=hi_ (RB.out.below hb RB.out.lt);replace HG:=hi_ (HG.out.below hb HG.out.lt);replace BW:=hi_ (bthen BW.out hb);replace HS:=hi_ (show w.heap.size+2≤w4.heap.size by have:=hb.size;have:=HS.out;omega);clear hb cc hlc;have cc:=CB.out.cell 0;simp at cc;have hlc:=CB.out.lt;go_upto_region 9 with fail
 have hq:=HG.out.cell 0 (by rw [HLW.out];omega);have hlg:=HG.out.lt;have h12:=HW.out 0 (by omega);obtain⟨l,hl⟩:∃l,l=nth ws 0:=⟨_,rfl⟩
 rw [← hl] at hq h12;have HL:=hi_ hl;clear hl;go_cut [12,13] (fun s12 s13 wx=>∃bC bL:Nat,s12 = .pointer (some ⟨bC,0,none⟩)∧s13 = .pointer (some ⟨bL,0,none⟩)∧Hid (Blk wx bC 3 #[.int .i64 (0:Nat)])∧Hid (Blk wx bL 3 #[.int .i64 l])∧bC≠bL∧w4.heap.size≤bC∧w4.heap.size≤bL∧Hid (Below w4.heap.size w4 wx))
 case first=>
  go_region
  ·go_wp2_with fail
   go_meet
   exact⟨_,_,rfl,rfl,hi_ (twoB w4 _ _).1,hi_ (twoB w4 _ _).2.1,by omega,by omega,by omega,hi_ (twoB w4 _ _).2.2⟩
  ·go_wp2_with fail
   go_meet
   exact⟨_,_,rfl,rfl,hi_ (twoB w4 _ _).2.1,hi_ (twoB w4 _ _).1,by omega,by omega,by omega,hi_ (twoB w4 _ _).2.2⟩
 case rest=>
  obtain⟨bC,bL,rfl,rfl,KC,KL,hne,hbc,hbl,KB⟩:=hcut;clear hq hlg cc hlc;have hs4:=HS.out;replace HT:=hi_ (HT.out.below KB.out);replace CB:=hi_ (CB.out.below KB.out CB.out.lt);replace RB:=hi_ (RB.out.below KB.out RB.out.lt);replace HG:=hi_ (HG.out.below KB.out HG.out.lt);replace BW:=hi_ (bthen BW.out KB.out);have cc:=CB.out.cell 0;simp at cc;have hlc:=CB.out.lt;have HS4:=hi_ (show w.heap.size+2≤wc.heap.size by have:=KB.out.size;omega);have hlC:=KC.out.lt;have hlL:=KL.out.lt;clear KB;go_wp2_with fail
  refine(mrun_any cap 2 A n c ps ticks 204 #[] #[.pointer (some ⟨bC,0,none⟩),.pointer (some ⟨bL,0,none⟩),.pointer (some ⟨w.heap.size,0,none⟩)] (RrC ws ps) (0,nth ws 0) (fun g w'=>Blk w' bC 3 #[.int .i64 g.1]∧Blk w' bL 3 #[.int .i64 g.2]∧g.1<2∧0≤g.2∧g.2≤20) (fun k=>k=bC∨k=bL) wc HT.out HV.out HF.out hc1 hc2 (by omega) (by omega) ht
   (hi_ (fun _ w w' X h k hx=>⟨h.1.kx k (hx _ (.inl rfl)),h.2.1.kx k (hx _ (.inr rfl)),h.2.2⟩)) (hi_ (fun k hk=>by rcases hk with rfl|rfl <;> assumption)) (hi_ (fun g o h0 e h=>by have:=HA.out g o h0 e;omega)) (hi_ ⟨KC.out,by rw [← HL.out];exact KL.out,by show 0<2;omega,by show 0≤nth ws 0;rw [← HL.out];omega,by show nth ws 0≤20;rw [← HL.out];omega⟩)
   (hi_ (fun gs bef Bg s w1 hm hon hnw hlf hse hhr hkx hgs=>(rrchoose_any gs n c bef bC bL w.heap.size gW s.sg.1 s.t s.left s.sg.2 A Bg ps s.begun ws w1 hse HV.out HF.out ⟨hhr.1,hhr.2.1,CB.out.kx hkx (by omega),HG.out.kx hkx (by omega),HLW.out,HW.out,hhr.2.2.1,hhr.2.2.2,⟨hne,by omega,by omega,by omega,by omega⟩⟩ (by omega) (fun g o h0 e=>by have:=HA.out g o h0 e;omega)).mono (fun e w2 h=>by
    obtain⟨r,cl',l',hr,rfl,hse2,hrm,hk⟩:=h;refine⟨r,(cl',l'),hr.imp (fun h=>⟨h.1,by rw [h.2.1,h.2.2.1],h.2.2.2⟩) id,?_,rfl,hse2,⟨hrm.bc,hrm.bl,hrm.cl2,hrm.l0⟩,hk.mono (fun _ _ h=>h)⟩
    rcases hr with ⟨h,_⟩|h
    ·exact .inl h
    ·rcases h.nx.1.cases with h | ⟨i,h,hi⟩
     ·exact .inl h
     ·exact .inr ⟨i,h,by have:=HT.out.1;omega⟩))) (fun x w=>by kernel_rfl)).mono ?_
  rintro e w4 ⟨s,gD,gS,gcs,hm,hon,htt,rfl,hd,hsn,h1,h2,h3,hhr,hkx⟩;replace RB:=hi_ (RB.out.kx hkx (by omega));replace BW:=hi_ (below_kx BW.out hkx (fun k hk=>by omega) (by have:=HS4.out;omega));have F:=hi_ (show RunOf _ _ _ _ _ _ s.done s.sent from⟨s,hm,hon,htt,rfl,rfl⟩);have D:=hi_ hd;have SS:=hi_ hsn;have HH:=hi_ (show(w.heap.size+1)<gD∧(w.heap.size+1)<gS∧∀(c g:Nat),gcs[c]?=some g→(w.heap.size+1)<g from⟨by have:=HS4.out;omega,by have:=HS4.out;omega,fun c g hg=>by have:=h3 c g hg;have:=HS4.out;omega⟩);clear hm hd hsn h1 h2 h3 hhr hkx hon htt;obtain⟨⟨c0,c1⟩,⟨z0,z1⟩,hl0⟩:(_∧_)∧(_∧_)∧_:=⟨⟨RB.out.cell 0,RB.out.cell 1⟩,⟨RB.out.frozen 0,RB.out.frozen 1⟩,RB.out.lt⟩
  simp at c0 c1;go_wp2_with fail
  have rb:=(RB.out.set_ 0 (.slice (some ⟨gD,0,none⟩) n n)).set_ 1 (.slice (some ⟨gS,0,none⟩) 2 2);simp only [List.setIfInBounds_toArray,List.set_cons_zero,List.set_cons_succ] at rb;exact bodyPost_ret (v:=.tuple #[.agg #[.slice (some ⟨gD,0,none⟩) n n,.slice (some ⟨gS,0,none⟩) 2 2],.int .i64 0]) (by simp [results,Tryz.results194,go_sem,rb.cell]) rfl (RetRn.lay (cls:=2) F.out D.out SS.out (X:=(w.heap.size+1)) (by omega) HH.out BW.out)
end
end Go.Proofs.YtaejfleahamapaaGreat
