/- . -/
import Derived.Deep.OwnRows
import Derived.Test.YtaejfleahamapaaGreatTd12
import Derived.Test.YtaejfleahamapaaGreatTd13
import Derived.Test.YtaejfleahamapaaGreatTd3
namespace Go.Proofs.YtaejfleahamapaaGreat
set_option linter.unusedVariables false
set_option linter.unusedSimpArgs false
set_option maxHeartbeats 8000000
set_option maxRecDepth 100000
open Go.RowKit
theorem cK.same{σ:Type}{B g1 gD gS gs gB M:Nat}{gcs:List Nat}{A:Option Addr}{n c:Nat}{ps:List PK}{C cls:Nat}{HR:σ->World->Prop}{own:Nat->Prop}{w wr:World}{tt lf:Int}{s s':RS σ}(h:cK B g1 gD gS gs gB M gcs A n c ps C cls HR own w wr tt lf s)(e1:s'.done=s.done)(e2:s'.sent=s.sent)(e3:s'.begun=s.begun)(e4:s'.sg=s.sg):cK B g1 gD gS gs gB M gcs A n c ps C cls HR own w wr tt lf s':=
 ⟨h.d,h.lo,h.r10,h.r11,by rw [e1];exact h.dn,by rw [e2];exact h.sn,by rw [e3];exact h.se,by rw [e3];exact h.bb,by rw [e4];exact h.hr,h.kx,h.ws,h.tb⟩
theorem uA{w:World}{ops:Array Oper}{o:Oper}{a:Act}{K:Act->World->Prop}{Q:Exit->Act->World->Prop}{E:Prop}(hgd:o.guard=none)(s x:Operand)(t:TypeId)
 (ho:o.op = .call { callee:=.builtin .append,args:=#[s,x],argTypes:=#[t,t] }) (ht:Tryz.prog.underlying t=some (.slice 3))
 (g C:Nat) (l:List Int) (hs:a.eval s = .slice (some ⟨g,0,none⟩) l.length C) (hr:cV w g C l) (b m:Nat) (y:Int) (hx:a.eval x = .slice (some ⟨b,0,none⟩) 1 m) (hc:w.cell? ⟨b,0,none⟩=some (.int .i64 y)) (hroom:l.length+1<=C)
 (h:∀w',cV w' g C (l ++ [y])->KX (fun k=>k=g) w w'->K (a.put o.dst (.slice (some ⟨g,0,none⟩) (l.length+1) C)) w') :
 if Region.wanted o (yielded ops a.tmps)=true then Oper.wp Tryz.prog o a w K Q else E:=by
 have hw:Region.wanted o (yielded ops a.tmps)=true:=by simp [Region.wanted,hgd]
 rw [if_pos hw];obtain⟨i0,hi0,hz0,hz1,hz2⟩:=info_parts iE;obtain⟨w',hrun,h2,h3⟩:=run_append_fits (P:=Tryz.prog) w 0 t o.type 3 i0 1 ht hi0 hz1 g l.length C (l.map (Value.int .i64)) hr.own ⟨b,0,none⟩ 1 m [Value.int .i64 y] (by simp) (by
  intro j u hu;cases j with
  | zero=>simp at hu;subst hu;simpa [Addr.add] using hc
  | succ j=>simp at hu) (by intro u hu;simp at hu;subst hu;rfl) hroom
 unfold Oper.wp execOp;simp only [ho,resolve,invoke,builtin,Sem.run_bind,Sem.run_pure,Result.andThen_ok,List.map_toArray,List.map_cons,List.map_nil,hs,hx,hrun];refine h w' (cV.of (k:=l.length+1) (by simpa using h2) hr.2.1) ⟨h3.os,h3.tape,h3.output,h3.size,fun k hk hx=>h3.block k hk (fun e=>hx (by cases e;rfl))⟩
theorem cV.new(w:World)(C:Nat)(h1:1<=C)(h2:C<=1000000):cV (w.alloc (.cells (Array.replicate C (Value.int .i64 0)) 3)) w.heap.size C [0]:=by
 refine⟨h1,h2,_,World.alloc_heap_new w _,by simp,?_⟩
 obtain⟨D,rfl⟩:∃D,C=D+1:=⟨C-1,by omega⟩
 simp [List.replicate_succ]
theorem aN.zeros{w:World}{g n:Nat}(h:aC w g 3 (Array.replicate n (Value.int .i64 0))):aN w g (List.replicate n 0):=by
 unfold aN;rw [List.map_replicate,List.toArray_replicate];exact h
theorem X3:(Tryz.prog.info? 22).map (fun i=>(i.zero,i.size,i.bytes))=some (some (.slice none 0 0),1,24):=by kernel_rfl
theorem W9:(Tryz.prog.info? 4).map (fun i=>(i.zero,i.size,i.bytes))=some (some (.bool false),1,1):=by kernel_rfl
theorem qR(z:Value)(n:Nat):madeCells #[z] n=Array.replicate n z:=by
 apply Array.ext'
 simp [madeCells,Nat.mod_one,List.eq_replicate_iff]
theorem rD(n:Nat)(hn:n<=100000)(w:World):(Instr.makeSlice 22 (.int .i64 (n:Int)) (.int .i64 (n:Int))).run Tryz.prog w = .ok (.slice (some ⟨w.heap.size,0,none⟩) n n) (w.alloc (.cells (Array.replicate n (Value.int .i64 0)) 3)):=by
 rw [<- qR];exact run_make_row' _ _ _ 8 Tryz.underlying22 iE rfl _ _ n (by omega) (by omega) w
theorem a3c(n:Nat)(hn:n<=100000)(w:World):(Instr.makeSlice 60 (.int .i64 (n:Int)) (.int .i64 (n:Int))).run Tryz.prog w = .ok (.slice (some ⟨w.heap.size,0,none⟩) n n) (w.alloc (.cells (Array.replicate n (Value.slice none 0 0)) 22)):=by
 rw [<- qR];exact run_make_row' _ _ _ 24 Tryz.underlying60 X3 rfl _ _ n (by omega) (by omega) w
theorem a3b(n:Nat)(hn:n<=100000)(w:World):(Instr.makeSlice 176 (.int .i64 (n:Int)) (.int .i64 (n:Int))).run Tryz.prog w = .ok (.slice (some ⟨w.heap.size,0,none⟩) n n) (w.alloc (.cells (Array.replicate n (Value.bool false)) 4)):=by
 rw [<- qR];exact run_make_row' _ _ _ 1 Tryz.underlying176 W9 rfl _ _ n (by omega) (by omega) w
theorem a3e(C:Nat)(h1:1<=C)(hn:C<=100000)(w:World):(Instr.makeSlice 22 (.int .i64 1) (.int .i64 (C:Int))).run Tryz.prog w = .ok (.slice (some ⟨w.heap.size,0,none⟩) 1 C) (w.alloc (.cells (Array.replicate C (Value.int .i64 0)) 3)):=by
 rw [<- qR];obtain⟨i0,hi0,hz0,hz1,hz2⟩:=info_parts iE;have:=run_make (P:=Tryz.prog) w 22 3 i0 _ Tryz.underlying22 hi0 hz0 .i64 .i64 1 C (by omega) (by omega) (by rw [hz2];omega) (by omega)
 rw [hz1,Nat.mul_one] at this;exact this
def jE(sent:List (List Int))(t i:Nat):List (List Int):=(sent.take i).map (fun l=>l ++ [aB l t]) ++ sent.drop i
theorem a1b(sent:List (List Int))(t:Nat):jE sent t 0=sent:=by simp [jE]
theorem a1a(sent:List (List Int))(t i:Nat)(h:sent.length<=i):jE sent t i=sent.map (fun l=>l ++ [aB l t]):=by
 unfold jE;rw [List.take_of_length_le h,List.drop_eq_nil_of_le h,List.append_nil]
theorem j8{sent:List (List Int)}{t i:Nat}{l:List Int}(h:sent[i]?=some l):(jE sent t i)[i]?=some l:=by
 have hi:=(List.getElem?_eq_some_iff.1 h).1;unfold jE;rw [List.getElem?_append_right (by simp;omega)];simp [Nat.min_eq_left (Nat.le_of_lt hi),h]
theorem tF{sent:List (List Int)}{t i:Nat}{l:List Int}(h:sent[i]?=some l):(jE sent t i).set i (l ++ [aB l t])=jE sent t (i+1):=by
 have hi:=(List.getElem?_eq_some_iff.1 h).1;unfold jE;rw [List.set_append_right _ _ (by simp;omega),List.drop_eq_getElem_cons hi,List.take_add_one,h,List.map_append,List.append_assoc];have e:sent[i]=l:=(List.getElem?_eq_some_iff.1 h).2;simp [Nat.min_eq_left (Nat.le_of_lt hi)]
 rw [List.drop_eq_getElem_cons hi]
 rfl
def nJ(o:Option Nat):Int:=match o with|none=>-1|some i=>i
def uR{σ:Type}(cap:Int)(cls:Nat)(n:Nat)(ps:List PK)(ticks:Nat)(Ch:RS σ->Int->σ->Prop)(sg0:σ)(HR:σ->World->Prop)(own:Nat->Prop)(w:World)(e:Ending)(w':World):Prop:=
 ∃(s:RS σ) (gD gS:Nat) (gcs:List Nat),aQ cap cls ps ticks Ch sg0 s/\s.on=false/\s.t=ticks/\e = .returned (.agg #[.slice (some ⟨gD,0,none⟩) n n,.slice (some ⟨gS,0,none⟩) cls cls])/\aN w' gD s.done/\SN w' gS gcs (ticks+1) s.sent/\
  w.heap.size<=gD/\w.heap.size<=gS/\(∀(c g:Nat),gcs[c]?=some g->w.heap.size<=g)/\HR s.sg w'/\KX own w w'
theorem oV{σ:Type}(cap:Int)(cls:Nat)(A:Option Addr)(n c:Nat)(ps:List PK)(ticks fid:Nat)(bU caps:Array Value)(Ch:RS σ->Int->σ->Prop)(sg0:σ)(HR:σ->World->Prop)(own:Nat->Prop)(w:World)
 (hT:bN w A n c ps) (hv:aM ps) (hfl:∀x∈ps,x.fl<cls) (hc1:1<=cap) (hc2:cap<=4000) (hl1:1<=cls) (hl2:cls<=6) (ht:ticks<=2000)
 (hst:Hid (∀(sg:σ) (w w':World) (X:Nat->Prop),HR sg w->KX X w w'->(∀k,own k->¬X k)->HR sg w'))
 (hlo:Hid (∀k,own k->k<w.heap.size)) (hto:Hid (∀g o,0<n->A=some ⟨g,o,none⟩->¬own g)) (hr0:Hid (HR sg0 w))
 (hch:Hid (∀(gs bef:Nat) (Bg:Option Addr) (s:RS σ) (w1:World),aQ cap cls ps ticks Ch sg0 s->s.on=true->s.now=none->0<s.left->SE w1 gs s.t s.left A n c ps Bg s.begun bef->HR s.sg w1->KX own w w1->w.heap.size<=gs->
  Calls Tryz.prog fid (bU.push (.pointer (some ⟨gs,0,none⟩)) ++ caps) w1 fun e w2=>∃(r:Int) (sg':σ),Ch s r sg'/\(r = -1\/∃i:Nat,r=i/\i<n)/\e = .returned (.int .i64 r)/\(∃b2,SE w2 gs s.t s.left A n c ps Bg s.begun b2)/\HR sg' w2/\KX (fun k=>k=gs\/own k) w1 w2))
 (hcf:∀(x:Value) (w:World),Sem.run Tryz.prog (callFunc fid (bU.push x ++ caps)) w = .ok (.enter fid (bU.push x ++ caps)) w) :
 Calls Tryz.prog 85 #[.int .i64 cap,.int .i64 cls,.slice A n c,.int .i64 ticks,.func (.func fid) bU caps] w (uR cap cls n ps ticks Ch sg0 HR own w):=by
 have hn:n<=60:=by have:=hv.len;have:=hT.1;omega
 have HT:=aA hT;have HV:=aA hv;have HF:=aA hfl;clear hT hv hfl;have RB:=aA (aC.new w 62 #[.slice none 0 0,.slice none 0 0]);have BW:=aA (aF w (.cells #[.slice none 0 0,.slice none 0 0] 62));have hmi:=rD n (by omega);have hml:=a3c cls (by omega);go_enter Tryz.func85,Tryz.ntmps85
 go_upto_region 1 with fail
 have S0:=aA (World.size_alloc w (.cells #[.slice none 0 0,.slice none 0 0] 62));generalize hwe:w.alloc (.cells #[.slice none 0 0,.slice none 0 0] 62)=w0 at *;clear hwe
 go_cut [11] (fun s11 wx=>∃(gD gS g1:Nat),s11 = .pointer (some ⟨g1,0,none⟩)/\aC wx w.heap.size 62 #[.slice none 0 0,.slice none 0 0]/\aC wx g1 62 #[.slice (some ⟨gD,0,none⟩) n n,.slice (some ⟨gS,0,none⟩) cls cls]/\
  aN wx gD (List.replicate n 0)/\aC wx gS 22 (Array.replicate cls (Value.slice none 0 0))/\Below w.heap.size w wx/\(w.heap.size<gD/\w.heap.size<gS/\w.heap.size<g1/\gD≠gS/\gD≠g1/\gS≠g1))
 case first=>
  go_wp2_with fail
  refine wp_region_held_drew (S:=fun _=>True) (by kernel_rfl) trivial (fun hH=>?_);refine aO [0,1,3] ?_;(iterate 3 refine aK ?_);refine aP ?_;have RB:=aA RB.out.drew;have BW:=aA (show Below w.heap.size w w0.drew from cC (k:=1) BW.out);have S0:=aA (show w0.drew.heap.size=w.heap.size+1 from S0.out);generalize hwd:w0.drew=wd at *;clear hwd;refine wpAnyH_ready (rs:=[2,4,6]) (by kernel_rfl) (by simp) ?_;refine(AllReadyH.cons (by simp only [fT,fU,fV];rfl) (fun K hK=>?_) (AllReadyH.cons (by simp only [fT,fU,fV];rfl) (fun K hK=>?_) (AllReadyH.cons (by simp only [fT,fU,fV];rfl) (fun K hK=>?_) AllReadyH.nil)))
  ·rw [if_pos (by rfl)];go_simp
   have DA:=aA (aC.new wd 3 (Array.replicate n (Value.int .i64 0)));have SA:=aA (World.size_alloc wd (.cells (Array.replicate n (Value.int .i64 0)) 3));have RB:=aA (RB.out.alloc (.cells (Array.replicate n (Value.int .i64 0)) 3));have BW:=aA (BW.out.alloc BW.out.size (.cells (Array.replicate n (Value.int .i64 0)) 3))
   try (have DB:=aA (DB.out.alloc (.cells (Array.replicate n (Value.int .i64 0)) 3)))
   try (have DC:=aA (DC.out.alloc (.cells (Array.replicate n (Value.int .i64 0)) 3)))
   generalize hwx:wd.alloc (.cells (Array.replicate n (Value.int .i64 0)) 3)=wa at *;obtain⟨gD,hgD⟩:∃g,g=wd.heap.size:=⟨_,rfl⟩
   rw [<- hgD] at DA SA;simp only [<- hgD];have GA:=aA hgD;clear hwx hgD hH;refine aH hK (by trivial) (fun hH=>?_);refine eS 4 6 (fun K hK=>?_) (fun K hK=>?_)
   ·rw [if_pos (by rfl)];go_simp
    have DB:=aA (aC.new wa 22 (Array.replicate cls (Value.slice none 0 0)));have SB:=aA (World.size_alloc wa (.cells (Array.replicate cls (Value.slice none 0 0)) 22));have RB:=aA (RB.out.alloc (.cells (Array.replicate cls (Value.slice none 0 0)) 22));have BW:=aA (BW.out.alloc BW.out.size (.cells (Array.replicate cls (Value.slice none 0 0)) 22))
    try (have DA:=aA (DA.out.alloc (.cells (Array.replicate cls (Value.slice none 0 0)) 22)))
    try (have DC:=aA (DC.out.alloc (.cells (Array.replicate cls (Value.slice none 0 0)) 22)))
    generalize hwx:wa.alloc (.cells (Array.replicate cls (Value.slice none 0 0)) 22)=wb at *;obtain⟨gS,hgS⟩:∃g,g=wa.heap.size:=⟨_,rfl⟩
    rw [<- hgS] at DB SB;simp only [<- hgS];have GB:=aA hgS;clear hwx hgS hH;refine aH hK (by trivial) (fun hH=>?_);refine bD 5 ?_;refine aJ 6 (fun K hK=>?_);go_simp
    have DC:=aA (aC.new wb 62 #[.slice none 0 0,.slice none 0 0]);have SC:=aA (World.size_alloc wb (.cells #[.slice none 0 0,.slice none 0 0] 62));have RB:=aA (RB.out.alloc (.cells #[.slice none 0 0,.slice none 0 0] 62));have BW:=aA (BW.out.alloc BW.out.size (.cells #[.slice none 0 0,.slice none 0 0] 62))
    try (have DA:=aA (DA.out.alloc (.cells #[.slice none 0 0,.slice none 0 0] 62)))
    try (have DB:=aA (DB.out.alloc (.cells #[.slice none 0 0,.slice none 0 0] 62)))
    generalize hwx:wb.alloc (.cells #[.slice none 0 0,.slice none 0 0] 62)=wc at *;obtain⟨g1,hg1⟩:∃g,g=wb.heap.size:=⟨_,rfl⟩
    rw [<- hg1] at DC SC;simp only [<- hg1];have GC:=aA hg1;clear hwx hg1 hH;refine aH hK (by trivial) (fun hH=>?_);refine dA 7 (fun K hK=>?_);refine gH rfl 62 _ _ rfl rfl DC.out rfl rfl (by kernel_rfl) (by simp [Value.oneCell']) ?_;intro wz hsto rz;have hne:w.heap.size<gD/\w.heap.size<gS/\w.heap.size<g1/\gD≠gS/\gD≠g1/\gS≠g1:=by
     have h0:=S0.out;have h1:=SA.out;have h2:=SB.out;have h3:=SC.out;have h4:=GA.out;have h5:=GB.out;have h6:=GC.out;omega
    have DA:=aA (DA.out.sto hsto (by omega));have DB:=aA (DB.out.sto hsto (by omega));have RB:=aA (RB.out.sto hsto (by omega));have BW:=aA (cE BW.out hsto (by omega));have DC:=aA rz;have HNE:=aA hne;clear hsto rz hH hne;refine aH hK (by trivial) (fun hH=>?_);refine aT ?_;go_wp2_with fail
    go_meet
    exact⟨gD,gS,g1,rfl,RB.out,DC.out,aN.zeros DA.out,DB.out,BW.out,HNE.out⟩
   ·rw [if_pos (by rfl)];go_simp
    have DC:=aA (aC.new wa 62 #[.slice none 0 0,.slice none 0 0]);have SC:=aA (World.size_alloc wa (.cells #[.slice none 0 0,.slice none 0 0] 62));have RB:=aA (RB.out.alloc (.cells #[.slice none 0 0,.slice none 0 0] 62));have BW:=aA (BW.out.alloc BW.out.size (.cells #[.slice none 0 0,.slice none 0 0] 62))
    try (have DA:=aA (DA.out.alloc (.cells #[.slice none 0 0,.slice none 0 0] 62)))
    try (have DB:=aA (DB.out.alloc (.cells #[.slice none 0 0,.slice none 0 0] 62)))
    generalize hwx:wa.alloc (.cells #[.slice none 0 0,.slice none 0 0] 62)=wb at *;obtain⟨g1,hg1⟩:∃g,g=wa.heap.size:=⟨_,rfl⟩
    rw [<- hg1] at DC SC;simp only [<- hg1];have GC:=aA hg1;clear hwx hg1 hH;refine aH hK (by trivial) (fun hH=>?_);refine aJ 4 (fun K hK=>?_);go_simp
    have DB:=aA (aC.new wb 22 (Array.replicate cls (Value.slice none 0 0)));have SB:=aA (World.size_alloc wb (.cells (Array.replicate cls (Value.slice none 0 0)) 22));have RB:=aA (RB.out.alloc (.cells (Array.replicate cls (Value.slice none 0 0)) 22));have BW:=aA (BW.out.alloc BW.out.size (.cells (Array.replicate cls (Value.slice none 0 0)) 22))
    try (have DA:=aA (DA.out.alloc (.cells (Array.replicate cls (Value.slice none 0 0)) 22)))
    try (have DC:=aA (DC.out.alloc (.cells (Array.replicate cls (Value.slice none 0 0)) 22)))
    generalize hwx:wb.alloc (.cells (Array.replicate cls (Value.slice none 0 0)) 22)=wc at *;obtain⟨gS,hgS⟩:∃g,g=wb.heap.size:=⟨_,rfl⟩
    rw [<- hgS] at DB SB;simp only [<- hgS];have GB:=aA hgS;clear hwx hgS hH;refine aH hK (by trivial) (fun hH=>?_);refine bD 5 ?_;refine dA 7 (fun K hK=>?_);refine gH rfl 62 _ _ rfl rfl DC.out rfl rfl (by kernel_rfl) (by simp [Value.oneCell']) ?_;intro wz hsto rz;have hne:w.heap.size<gD/\w.heap.size<gS/\w.heap.size<g1/\gD≠gS/\gD≠g1/\gS≠g1:=by
     have h0:=S0.out;have h1:=SA.out;have h2:=SB.out;have h3:=SC.out;have h4:=GA.out;have h5:=GB.out;have h6:=GC.out;omega
    have DA:=aA (DA.out.sto hsto (by omega));have DB:=aA (DB.out.sto hsto (by omega));have RB:=aA (RB.out.sto hsto (by omega));have BW:=aA (cE BW.out hsto (by omega));have DC:=aA rz;have HNE:=aA hne;clear hsto rz hH hne;refine aH hK (by trivial) (fun hH=>?_);refine aT ?_;go_wp2_with fail
    go_meet
    exact⟨gD,gS,g1,rfl,RB.out,DC.out,aN.zeros DA.out,DB.out,BW.out,HNE.out⟩
  ·rw [if_pos (by rfl)];go_simp
   have DB:=aA (aC.new wd 22 (Array.replicate cls (Value.slice none 0 0)));have SB:=aA (World.size_alloc wd (.cells (Array.replicate cls (Value.slice none 0 0)) 22));have RB:=aA (RB.out.alloc (.cells (Array.replicate cls (Value.slice none 0 0)) 22));have BW:=aA (BW.out.alloc BW.out.size (.cells (Array.replicate cls (Value.slice none 0 0)) 22))
   try (have DA:=aA (DA.out.alloc (.cells (Array.replicate cls (Value.slice none 0 0)) 22)))
   try (have DC:=aA (DC.out.alloc (.cells (Array.replicate cls (Value.slice none 0 0)) 22)))
   generalize hwx:wd.alloc (.cells (Array.replicate cls (Value.slice none 0 0)) 22)=wa at *;obtain⟨gS,hgS⟩:∃g,g=wd.heap.size:=⟨_,rfl⟩
   rw [<- hgS] at DB SB;simp only [<- hgS];have GB:=aA hgS;clear hwx hgS hH;refine aH hK (by trivial) (fun hH=>?_);refine eS 2 6 (fun K hK=>?_) (fun K hK=>?_)
   ·rw [if_pos (by rfl)];go_simp
    have DA:=aA (aC.new wa 3 (Array.replicate n (Value.int .i64 0)));have SA:=aA (World.size_alloc wa (.cells (Array.replicate n (Value.int .i64 0)) 3));have RB:=aA (RB.out.alloc (.cells (Array.replicate n (Value.int .i64 0)) 3));have BW:=aA (BW.out.alloc BW.out.size (.cells (Array.replicate n (Value.int .i64 0)) 3))
    try (have DB:=aA (DB.out.alloc (.cells (Array.replicate n (Value.int .i64 0)) 3)))
    try (have DC:=aA (DC.out.alloc (.cells (Array.replicate n (Value.int .i64 0)) 3)))
    generalize hwx:wa.alloc (.cells (Array.replicate n (Value.int .i64 0)) 3)=wb at *;obtain⟨gD,hgD⟩:∃g,g=wa.heap.size:=⟨_,rfl⟩
    rw [<- hgD] at DA SA;simp only [<- hgD];have GA:=aA hgD;clear hwx hgD hH;refine aH hK (by trivial) (fun hH=>?_);refine bD 5 ?_;refine aJ 6 (fun K hK=>?_);go_simp
    have DC:=aA (aC.new wb 62 #[.slice none 0 0,.slice none 0 0]);have SC:=aA (World.size_alloc wb (.cells #[.slice none 0 0,.slice none 0 0] 62));have RB:=aA (RB.out.alloc (.cells #[.slice none 0 0,.slice none 0 0] 62));have BW:=aA (BW.out.alloc BW.out.size (.cells #[.slice none 0 0,.slice none 0 0] 62))
    try (have DA:=aA (DA.out.alloc (.cells #[.slice none 0 0,.slice none 0 0] 62)))
    try (have DB:=aA (DB.out.alloc (.cells #[.slice none 0 0,.slice none 0 0] 62)))
    generalize hwx:wb.alloc (.cells #[.slice none 0 0,.slice none 0 0] 62)=wc at *;obtain⟨g1,hg1⟩:∃g,g=wb.heap.size:=⟨_,rfl⟩
    rw [<- hg1] at DC SC;simp only [<- hg1];have GC:=aA hg1;clear hwx hg1 hH;refine aH hK (by trivial) (fun hH=>?_);refine dA 7 (fun K hK=>?_);refine gH rfl 62 _ _ rfl rfl DC.out rfl rfl (by kernel_rfl) (by simp [Value.oneCell']) ?_;intro wz hsto rz;have hne:w.heap.size<gD/\w.heap.size<gS/\w.heap.size<g1/\gD≠gS/\gD≠g1/\gS≠g1:=by
     have h0:=S0.out;have h1:=SA.out;have h2:=SB.out;have h3:=SC.out;have h4:=GA.out;have h5:=GB.out;have h6:=GC.out;omega
    have DA:=aA (DA.out.sto hsto (by omega));have DB:=aA (DB.out.sto hsto (by omega));have RB:=aA (RB.out.sto hsto (by omega));have BW:=aA (cE BW.out hsto (by omega));have DC:=aA rz;have HNE:=aA hne;clear hsto rz hH hne;refine aH hK (by trivial) (fun hH=>?_);refine aT ?_;go_wp2_with fail
    go_meet
    exact⟨gD,gS,g1,rfl,RB.out,DC.out,aN.zeros DA.out,DB.out,BW.out,HNE.out⟩
   ·rw [if_pos (by rfl)];go_simp
    have DC:=aA (aC.new wa 62 #[.slice none 0 0,.slice none 0 0]);have SC:=aA (World.size_alloc wa (.cells #[.slice none 0 0,.slice none 0 0] 62));have RB:=aA (RB.out.alloc (.cells #[.slice none 0 0,.slice none 0 0] 62));have BW:=aA (BW.out.alloc BW.out.size (.cells #[.slice none 0 0,.slice none 0 0] 62))
    try (have DA:=aA (DA.out.alloc (.cells #[.slice none 0 0,.slice none 0 0] 62)))
    try (have DB:=aA (DB.out.alloc (.cells #[.slice none 0 0,.slice none 0 0] 62)))
    generalize hwx:wa.alloc (.cells #[.slice none 0 0,.slice none 0 0] 62)=wb at *;obtain⟨g1,hg1⟩:∃g,g=wa.heap.size:=⟨_,rfl⟩
    rw [<- hg1] at DC SC;simp only [<- hg1];have GC:=aA hg1;clear hwx hg1 hH;refine aH hK (by trivial) (fun hH=>?_);refine aJ 2 (fun K hK=>?_);go_simp
    have DA:=aA (aC.new wb 3 (Array.replicate n (Value.int .i64 0)));have SA:=aA (World.size_alloc wb (.cells (Array.replicate n (Value.int .i64 0)) 3));have RB:=aA (RB.out.alloc (.cells (Array.replicate n (Value.int .i64 0)) 3));have BW:=aA (BW.out.alloc BW.out.size (.cells (Array.replicate n (Value.int .i64 0)) 3))
    try (have DB:=aA (DB.out.alloc (.cells (Array.replicate n (Value.int .i64 0)) 3)))
    try (have DC:=aA (DC.out.alloc (.cells (Array.replicate n (Value.int .i64 0)) 3)))
    generalize hwx:wb.alloc (.cells (Array.replicate n (Value.int .i64 0)) 3)=wc at *;obtain⟨gD,hgD⟩:∃g,g=wb.heap.size:=⟨_,rfl⟩
    rw [<- hgD] at DA SA;simp only [<- hgD];have GA:=aA hgD;clear hwx hgD hH;refine aH hK (by trivial) (fun hH=>?_);refine bD 5 ?_;refine dA 7 (fun K hK=>?_);refine gH rfl 62 _ _ rfl rfl DC.out rfl rfl (by kernel_rfl) (by simp [Value.oneCell']) ?_;intro wz hsto rz;have hne:w.heap.size<gD/\w.heap.size<gS/\w.heap.size<g1/\gD≠gS/\gD≠g1/\gS≠g1:=by
     have h0:=S0.out;have h1:=SA.out;have h2:=SB.out;have h3:=SC.out;have h4:=GA.out;have h5:=GB.out;have h6:=GC.out;omega
    have DA:=aA (DA.out.sto hsto (by omega));have DB:=aA (DB.out.sto hsto (by omega));have RB:=aA (RB.out.sto hsto (by omega));have BW:=aA (cE BW.out hsto (by omega));have DC:=aA rz;have HNE:=aA hne;clear hsto rz hH hne;refine aH hK (by trivial) (fun hH=>?_);refine aT ?_;go_wp2_with fail
    go_meet
    exact⟨gD,gS,g1,rfl,RB.out,DC.out,aN.zeros DA.out,DB.out,BW.out,HNE.out⟩
  ·rw [if_pos (by rfl)];go_simp
   have DC:=aA (aC.new wd 62 #[.slice none 0 0,.slice none 0 0]);have SC:=aA (World.size_alloc wd (.cells #[.slice none 0 0,.slice none 0 0] 62));have RB:=aA (RB.out.alloc (.cells #[.slice none 0 0,.slice none 0 0] 62));have BW:=aA (BW.out.alloc BW.out.size (.cells #[.slice none 0 0,.slice none 0 0] 62))
   try (have DA:=aA (DA.out.alloc (.cells #[.slice none 0 0,.slice none 0 0] 62)))
   try (have DB:=aA (DB.out.alloc (.cells #[.slice none 0 0,.slice none 0 0] 62)))
   generalize hwx:wd.alloc (.cells #[.slice none 0 0,.slice none 0 0] 62)=wa at *;obtain⟨g1,hg1⟩:∃g,g=wd.heap.size:=⟨_,rfl⟩
   rw [<- hg1] at DC SC;simp only [<- hg1];have GC:=aA hg1;clear hwx hg1 hH;refine aH hK (by trivial) (fun hH=>?_);refine eS 2 4 (fun K hK=>?_) (fun K hK=>?_)
   ·rw [if_pos (by rfl)];go_simp
    have DA:=aA (aC.new wa 3 (Array.replicate n (Value.int .i64 0)));have SA:=aA (World.size_alloc wa (.cells (Array.replicate n (Value.int .i64 0)) 3));have RB:=aA (RB.out.alloc (.cells (Array.replicate n (Value.int .i64 0)) 3));have BW:=aA (BW.out.alloc BW.out.size (.cells (Array.replicate n (Value.int .i64 0)) 3))
    try (have DB:=aA (DB.out.alloc (.cells (Array.replicate n (Value.int .i64 0)) 3)))
    try (have DC:=aA (DC.out.alloc (.cells (Array.replicate n (Value.int .i64 0)) 3)))
    generalize hwx:wa.alloc (.cells (Array.replicate n (Value.int .i64 0)) 3)=wb at *;obtain⟨gD,hgD⟩:∃g,g=wa.heap.size:=⟨_,rfl⟩
    rw [<- hgD] at DA SA;simp only [<- hgD];have GA:=aA hgD;clear hwx hgD hH;refine aH hK (by trivial) (fun hH=>?_);refine aJ 4 (fun K hK=>?_);go_simp
    have DB:=aA (aC.new wb 22 (Array.replicate cls (Value.slice none 0 0)));have SB:=aA (World.size_alloc wb (.cells (Array.replicate cls (Value.slice none 0 0)) 22));have RB:=aA (RB.out.alloc (.cells (Array.replicate cls (Value.slice none 0 0)) 22));have BW:=aA (BW.out.alloc BW.out.size (.cells (Array.replicate cls (Value.slice none 0 0)) 22))
    try (have DA:=aA (DA.out.alloc (.cells (Array.replicate cls (Value.slice none 0 0)) 22)))
    try (have DC:=aA (DC.out.alloc (.cells (Array.replicate cls (Value.slice none 0 0)) 22)))
    generalize hwx:wb.alloc (.cells (Array.replicate cls (Value.slice none 0 0)) 22)=wc at *;obtain⟨gS,hgS⟩:∃g,g=wb.heap.size:=⟨_,rfl⟩
    rw [<- hgS] at DB SB;simp only [<- hgS];have GB:=aA hgS;clear hwx hgS hH;refine aH hK (by trivial) (fun hH=>?_);refine bD 5 ?_;refine dA 7 (fun K hK=>?_);refine gH rfl 62 _ _ rfl rfl DC.out rfl rfl (by kernel_rfl) (by simp [Value.oneCell']) ?_;intro wz hsto rz;have hne:w.heap.size<gD/\w.heap.size<gS/\w.heap.size<g1/\gD≠gS/\gD≠g1/\gS≠g1:=by
     have h0:=S0.out;have h1:=SA.out;have h2:=SB.out;have h3:=SC.out;have h4:=GA.out;have h5:=GB.out;have h6:=GC.out;omega
    have DA:=aA (DA.out.sto hsto (by omega));have DB:=aA (DB.out.sto hsto (by omega));have RB:=aA (RB.out.sto hsto (by omega));have BW:=aA (cE BW.out hsto (by omega));have DC:=aA rz;have HNE:=aA hne;clear hsto rz hH hne;refine aH hK (by trivial) (fun hH=>?_);refine aT ?_;go_wp2_with fail
    go_meet
    exact⟨gD,gS,g1,rfl,RB.out,DC.out,aN.zeros DA.out,DB.out,BW.out,HNE.out⟩
   ·rw [if_pos (by rfl)];go_simp
    have DB:=aA (aC.new wa 22 (Array.replicate cls (Value.slice none 0 0)));have SB:=aA (World.size_alloc wa (.cells (Array.replicate cls (Value.slice none 0 0)) 22));have RB:=aA (RB.out.alloc (.cells (Array.replicate cls (Value.slice none 0 0)) 22));have BW:=aA (BW.out.alloc BW.out.size (.cells (Array.replicate cls (Value.slice none 0 0)) 22))
    try (have DA:=aA (DA.out.alloc (.cells (Array.replicate cls (Value.slice none 0 0)) 22)))
    try (have DC:=aA (DC.out.alloc (.cells (Array.replicate cls (Value.slice none 0 0)) 22)))
    generalize hwx:wa.alloc (.cells (Array.replicate cls (Value.slice none 0 0)) 22)=wb at *;obtain⟨gS,hgS⟩:∃g,g=wa.heap.size:=⟨_,rfl⟩
    rw [<- hgS] at DB SB;simp only [<- hgS];have GB:=aA hgS;clear hwx hgS hH;refine aH hK (by trivial) (fun hH=>?_);refine aJ 2 (fun K hK=>?_);go_simp
    have DA:=aA (aC.new wb 3 (Array.replicate n (Value.int .i64 0)));have SA:=aA (World.size_alloc wb (.cells (Array.replicate n (Value.int .i64 0)) 3));have RB:=aA (RB.out.alloc (.cells (Array.replicate n (Value.int .i64 0)) 3));have BW:=aA (BW.out.alloc BW.out.size (.cells (Array.replicate n (Value.int .i64 0)) 3))
    try (have DB:=aA (DB.out.alloc (.cells (Array.replicate n (Value.int .i64 0)) 3)))
    try (have DC:=aA (DC.out.alloc (.cells (Array.replicate n (Value.int .i64 0)) 3)))
    generalize hwx:wb.alloc (.cells (Array.replicate n (Value.int .i64 0)) 3)=wc at *;obtain⟨gD,hgD⟩:∃g,g=wb.heap.size:=⟨_,rfl⟩
    rw [<- hgD] at DA SA;simp only [<- hgD];have GA:=aA hgD;clear hwx hgD hH;refine aH hK (by trivial) (fun hH=>?_);refine bD 5 ?_;refine dA 7 (fun K hK=>?_);refine gH rfl 62 _ _ rfl rfl DC.out rfl rfl (by kernel_rfl) (by simp [Value.oneCell']) ?_;intro wz hsto rz;have hne:w.heap.size<gD/\w.heap.size<gS/\w.heap.size<g1/\gD≠gS/\gD≠g1/\gS≠g1:=by
     have h0:=S0.out;have h1:=SA.out;have h2:=SB.out;have h3:=SC.out;have h4:=GA.out;have h5:=GB.out;have h6:=GC.out;omega
    have DA:=aA (DA.out.sto hsto (by omega));have DB:=aA (DB.out.sto hsto (by omega));have RB:=aA (RB.out.sto hsto (by omega));have BW:=aA (cE BW.out hsto (by omega));have DC:=aA rz;have HNE:=aA hne;clear hsto rz hH hne;refine aH hK (by trivial) (fun hH=>?_);refine aT ?_;go_wp2_with fail
    go_meet
    exact⟨gD,gS,g1,rfl,RB.out,DC.out,aN.zeros DA.out,DB.out,BW.out,HNE.out⟩
 case rest=>
  clear RB BW S0 hmi hml;obtain⟨gD,gS,g1,rfl,hrb,hdc,hda,hdb,hbw,hne⟩:=hcut;have RB:=aA hrb;have DC:=aA hdc;have DA:=aA hda;have DB:=aA hdb;have BW:=aA hbw;have HNE:=aA hne;clear hrb hdc hda hdb hbw hne;have c1:=DC.out.cell 0;simp at c1;have hl1:=DC.out.lt;go_wp2_with fail
  clear c1 hl1
  go_loopg [29,12] n (fun gg s29 _ wr=>∃(k:Nat) (zs:List Int),k+gg=n/\s29 = .int .i64 k/\Hid (zs.length=n/\∀j,j<k->aB zs j = -1)/\Hid (aN wr gD zs)/\Hid (aC wr w.heap.size 62 #[.slice none 0 0,.slice none 0 0])/\Hid (aC wr g1 62 #[.slice (some ⟨gD,0,none⟩) n n,.slice (some ⟨gS,0,none⟩) cls cls])/\
   Hid (aC wr gS 22 (Array.replicate cls (Value.slice none 0 0)))/\Hid (Below w.heap.size w wr))
  case atStart=>exact⟨0,_,by omega,rfl,aA ⟨List.length_replicate ..,fun j hj=>by omega⟩,DA,RB,DC,DB,BW⟩
  case round=>
   clear RB DC DA DB BW;obtain⟨k,zs,hkg,rfl,HZ,DA,RB,DC,DB,BW⟩:=hrel;obtain⟨c0,c1⟩:_/\_:=⟨DC.out.cell 0,DC.out.cell 1⟩
   simp at c0 c1;have hl1:=DC.out.lt;rcases Nat.lt_or_ge k n with hk|hk
   ·
    have hki:(k:Int)<n:=by omega
    have cz:=DA.out.cell k (by rw [HZ.out.1];exact hk);have fz:=DA.out.frozen k;have hlz:=DA.out.lt;obtain⟨n1,n2,n3,n4,n5,n6⟩:=HNE.out;have DA2:=aA (DA.out.set_ k (-1));have RB2:=aA (RB.out.far (p:=⟨gD,k,none⟩) (by simp;omega) (.int .i64 (-1)));have DC2:=aA (DC.out.far (p:=⟨gD,k,none⟩) (by simp;omega) (.int .i64 (-1)));have DB2:=aA (DB.out.far (p:=⟨gD,k,none⟩) (by simp;omega) (.int .i64 (-1)));have BW2:=aA (BW.out.setCell (p:=⟨gD,k,none⟩) (by simp;omega) (.int .i64 (-1)));clear n1 n2 n3 n4 n5 n6;go_wp2_with fail
    go_roundg (gk-1)
    case measure=>omega
    case rel=>
     refine⟨k+1,zs.set k (-1),by omega,by go_num,aA ⟨by rw [List.length_set];exact HZ.out.1,fun j hj=>?_⟩,DA2,RB2,DC2,DB2,BW2⟩
     rw [eQ _ _ _ _ (by rw [HZ.out.1];exact hk)];by_cases e:j=k
     ·rw [if_pos e]
     ·rw [if_neg e];exact HZ.out.2 j (by omega)
   ·obtain rfl:k=n:=by omega
    have hki:¬(k:Int)<k:=by omega
    replace DA:=aA (show aN wr gD (List.replicate k (-1)) from by
     have e:zs=List.replicate k (-1):=by
      apply List.ext_getElem
      ·rw [HZ.out.1,List.length_replicate]
      ·intro i h1 h2;have:=HZ.out.2 i (by rw [<- HZ.out.1];exact h1)
       unfold aB at this
       simpa [List.getD,h1] using this
     rw [<- e];exact DA.out)
    clear HZ;go_wp2_with fail
    obtain⟨M,hM⟩:∃M,M=wr.heap.size:=⟨_,rfl⟩
    have HM:=aA (show w.heap.size<M/\gD<M/\gS<M/\g1<M from⟨by have:=RB.out.lt;omega,by have:=DA.out.lt;omega,by have:=DB.out.lt;omega,by have:=DC.out.lt;omega⟩);have hmr:∀w:World,(Instr.makeSlice 22 (.int .i64 1) (.int .i64 ((ticks:Int)+1))).run Tryz.prog w = .ok (.slice (some ⟨w.heap.size,0,none⟩) 1 (ticks+1)) (w.alloc (.cells (Array.replicate (ticks+1) (Value.int .i64 0)) 3)):=fun w=>by
     have:=a3e (ticks+1) (by omega) (by omega) w
     rw [Int.natCast_add] at this;exact this
    have HMR:=aA hmr;have HS:=aA (show M<=wr.heap.size by omega);replace DB:=aA (show aC wr gS 22 ((([]:List Nat).map (fun g=>Value.slice (some ⟨g,0,none⟩) 1 (ticks+1))) ++ List.replicate cls (Value.slice none 0 0)).toArray by simpa using DB.out);clear hmr hM c0 c1 hl1
    go_loopg [40,13] cls (fun gg s40 _ wr=>∃(j:Nat) (gcs:List Nat),j+gg=cls/\s40 = .int .i64 j/\Hid (gcs.length=j/\(∀(c g:Nat),gcs[c]?=some g->M<=g/\cV wr g (ticks+1) [0])/\(∀(c d g:Nat),gcs[c]?=some g->gcs[d]?=some g->c=d))/\
     Hid (aN wr gD (List.replicate k (-1)))/\Hid (aC wr w.heap.size 62 #[.slice none 0 0,.slice none 0 0])/\Hid (aC wr g1 62 #[.slice (some ⟨gD,0,none⟩) k k,.slice (some ⟨gS,0,none⟩) cls cls])/\
     Hid (aC wr gS 22 ((gcs.map (fun g=>Value.slice (some ⟨g,0,none⟩) 1 (ticks+1))) ++ List.replicate gg (Value.slice none 0 0)).toArray)/\Hid (Below w.heap.size w wr)/\Hid (M<=wr.heap.size))
    case atStart=>exact⟨0,[],by omega,rfl,aA ⟨rfl,fun c g h=>by simp at h,fun c d g h=>by simp at h⟩,DA,RB,DC,DB,BW,HS⟩
    case round=>
     clear DA RB DC DB BW HS;obtain⟨j,gcs,hjg,rfl,HG,DA,RB,DC,DB,BW,HS⟩:=hrel;obtain⟨c0,c1⟩:_/\_:=⟨DC.out.cell 0,DC.out.cell 1⟩
     simp at c0 c1;have hl1:=DC.out.lt;rcases Nat.lt_or_ge j cls with hj|hj
     ·
      have hji:(j:Int)<cls:=by omega
      have hmr:=HMR.out;have ew:IntKind.i64.wrap ((ticks:Int)+1)=(ticks:Int)+1:=IntWalk.i64_in _ (by omega);go_wp2_with fail
      refine wp_region_held_drew (S:=fun w'=>w'.cell? ⟨g1,1,none⟩=some (.slice (some ⟨gS,0,none⟩) cls cls)) (by kernel_rfl) c1 (fun hH=>?_);refine aO [0,1,2,3,4] ?_;(iterate 5 refine aK ?_);refine aP ?_;refine aJ 5 (fun K hK=>?_);go_simp
      have hro:cV ((wr.alloc (.cells (Array.replicate (ticks+1) (Value.int .i64 0)) 3)).drew) wr.heap.size (ticks+1) [0]:=cV.new wr (ticks+1) (by omega) (by omega);have hkx:KX (fun _=>False) wr ((wr.alloc (.cells (Array.replicate (ticks+1) (Value.int .i64 0)) 3)).drew):=((KX.refl _ wr).alloc _).drewN 1;have hsz:((wr.alloc (.cells (Array.replicate (ticks+1) (Value.int .i64 0)) 3)).drew).heap.size=wr.heap.size+1:=World.size_alloc wr _;have BW2:=aA (show Below w.heap.size w ((wr.alloc (.cells (Array.replicate (ticks+1) (Value.int .i64 0)) 3)).drew) from cC (k:=1) (BW.out.alloc BW.out.size _));generalize hwx:(wr.alloc (.cells (Array.replicate (ticks+1) (Value.int .i64 0)) 3)).drew=wx at *;obtain⟨g,hg⟩:∃g,g=wr.heap.size:=⟨_,rfl⟩
      have hro2:cV wx g (ticks+1) [0]:=by rw [hg];exact hro
      have DA2:=aA (DA.out.kx hkx (fun h=>h));have RB2:=aA (RB.out.kx hkx (fun h=>h));have DC2:=aA (DC.out.kx hkx (fun h=>h));have DB2:=aA (DB.out.kx hkx (fun h=>h));have HR2:=aA (show ∀(c g:Nat),gcs[c]?=some g->M<=g/\g<wr.heap.size/\cV wx g (ticks+1) [0] from fun c g h=>⟨(HG.out.2.1 c g h).1,(HG.out.2.1 c g h).2.lt,(HG.out.2.1 c g h).2.kx hkx (fun h=>h)⟩);have HRO:=aA hro2;have HGE:=aA hg;have HSZ:=aA hsz;simp only [<- hg];have c1':wx.cell? ⟨g1,1,none⟩=some (.slice (some ⟨gS,0,none⟩) cls cls):=by simpa using DC2.out.cell 1
      clear hro hkx hsz hwx hg hro2 hH c0 c1 hl1 hmr ew;refine aH hK (by exact c1') (fun hH=>?_);have hlS:=DB2.out.lt;have hfS:=DB2.out.frozen j;obtain⟨gg,hgg⟩:∃gg,gk=gg+1:=⟨gk-1,by omega⟩
      have hlen:(gcs.map (fun g=>Value.slice (some ⟨g,0,none⟩) 1 (ticks+1))).length=j:=by rw [List.length_map];exact HG.out.1
      have cS:wx.cell? ⟨gS,j,none⟩=some (.slice none 0 0):=by
       rw [DB2.out.cell j,List.getElem?_toArray,List.getElem?_append_right (by omega),hlen,hgg];simp
      have htb:((gcs.map (fun g=>Value.slice (some ⟨g,0,none⟩) 1 (ticks+1))) ++ List.replicate gk (Value.slice none 0 0)).set j (.slice (some ⟨g,0,none⟩) 1 (ticks+1))=(((gcs ++ [g]).map (fun g=>Value.slice (some ⟨g,0,none⟩) 1 (ticks+1))) ++ List.replicate (gk-1) (Value.slice none 0 0)):=by
       rw [List.set_append_right _ _ (by omega),hlen,Nat.sub_self,hgg,Nat.add_sub_cancel,List.replicate_succ,List.set_cons_zero,List.map_append,List.append_assoc]
       rfl
      have HTB:=aA htb;clear hlen hgg htb;refine bD 6 ?_;refine aJ 7 (fun K hK=>?_);go_simp
      obtain⟨n1,n2,n3,n4,n5,n6⟩:=HNE.out;have m1:=HM.out;have kk:=bG wx gS j (.slice (some ⟨g,0,none⟩) 1 (ticks+1));have DB3:=aA (by have h:=DB2.out.set_ j (.slice (some ⟨g,0,none⟩) 1 (ticks+1));rw [List.setIfInBounds_toArray,HTB.out] at h;exact h);have DA3:=aA (DA2.out.kx kk (by omega));have RB3:=aA (RB2.out.kx kk (by omega));have DC3:=aA (DC2.out.kx kk (by omega));have BW3:=aA (BW2.out.setCell (p:=⟨gS,j,none⟩) (by simp;omega) (.slice (some ⟨g,0,none⟩) 1 (ticks+1)));have HR3:=aA (show ∀(c g':Nat),gcs[c]?=some g'->M<=g'/\g'<g/\cV (wx.setCell ⟨gS,j,none⟩ (.slice (some ⟨g,0,none⟩) 1 (ticks+1))) g' (ticks+1) [0] from fun c g' h=>by
       obtain⟨h1,h2,h3⟩:=HR2.out c g' h;exact⟨h1,by rw [HGE.out];exact h2,h3.kx kk (by omega)⟩)
      have HRO3:=aA (HRO.out.kx kk (by have:=HGE.out;have:=HS.out;omega));have c1'':(wx.setCell ⟨gS,j,none⟩ (.slice (some ⟨g,0,none⟩) 1 (ticks+1))).cell? ⟨g1,1,none⟩=some (.slice (some ⟨gS,0,none⟩) cls cls):=by simpa using DC3.out.cell 1
      have HS3:=aA (show M<=(wx.setCell ⟨gS,j,none⟩ (.slice (some ⟨g,0,none⟩) 1 (ticks+1))).heap.size by have:=HS.out;have:=kk.size;have:=HSZ.out;omega);have HG3:=aA (show(gcs ++ [g]).length=j+1/\(∀(c g':Nat),(gcs ++ [g])[c]?=some g'->M<=g'/\cV (wx.setCell ⟨gS,j,none⟩ (.slice (some ⟨g,0,none⟩) 1 (ticks+1))) g' (ticks+1) [0])/\(∀(c d g':Nat),(gcs ++ [g])[c]?=some g'->(gcs ++ [g])[d]?=some g'->c=d) from by
       have hl:=HG.out.1;have key:∀(c g':Nat),(gcs ++ [g])[c]?=some g'->(c<j/\gcs[c]?=some g')\/(c=j/\g'=g):=fun c g' h=>by
        rcases Nat.lt_or_ge c j with h1|h1
        ·rw [List.getElem?_append_left (by omega)] at h;exact .inl ⟨h1,h⟩
        ·rw [List.getElem?_append_right (by omega),hl] at h;have h2:=(List.getElem?_eq_some_iff.1 h).1;simp at h2;have h3:c=j:=by omega
         subst h3;simp at h;exact .inr ⟨rfl,h.symm⟩
       refine⟨by rw [List.length_append,hl];rfl,fun c g' h=>?_,fun c d g' hc hd=>?_⟩
       ·rcases key c g' h with ⟨_,h1⟩|⟨_,rfl⟩
        ·exact⟨(HR3.out c g' h1).1,(HR3.out c g' h1).2.2⟩
        ·exact⟨by have:=HGE.out;have:=HS.out;omega,HRO3.out⟩
       ·rcases key c g' hc with ⟨e1,h1⟩|⟨rfl,rfl⟩ <;> rcases key d _ hd with ⟨e2,h2⟩|⟨e2,h2⟩
        ·exact HG.out.2.2 c d g' h1 h2
        ·have:=(HR3.out c g' h1).2.1;omega
        ·have:=(HR3.out d _ h2).2.1;omega
        ·omega)
      generalize wx.setCell ⟨gS,j,none⟩ (.slice (some ⟨g,0,none⟩) 1 (ticks+1))=wy at *;clear n1 n2 n3 n4 n5 n6 m1 kk hlS hfS cS c1';refine aH hK (by exact c1'') (fun hH=>?_);refine aT ?_;clear c1'' hH;go_wp2_with fail
      go_roundg (gk-1)
      case measure=>omega
      case rel=>exact⟨j+1,gcs ++ [g],by omega,by go_num,HG3,DA3,RB3,DC3,DB3,BW3,HS3⟩
     ·obtain rfl:j=cls:=by omega
      have hji:¬(j:Int)<j:=by omega
      have hmb:=a3b k (by omega);clear c0 c1 hl1;go_upto_region 13 with fail
      have hpl:ps.length=k:=HT.out.1;have e0:cK w.heap.size g1 gD gS (wr.heap.size+1) wr.heap.size M gcs A k c ps (ticks+1) j HR own w ((wr.alloc (.cells (Array.replicate k (Value.bool false)) 4)).alloc (.cells #[.int .i64 0,.int .i64 0,.slice A k c,.slice (some ⟨wr.heap.size,0,none⟩) k k,.int .i64 0] 178)) 0 0 (⟨0,false,none,0,0,List.replicate ps.length false,List.replicate ps.length (-1),List.replicate j [0],sg0⟩:RS σ):=by
       obtain⟨n1,n2,n3,n4,n5,n6⟩:=HNE.out;have m1:=HM.out;have m2:=HS.out;have hkx:KX (fun _=>False) wr ((wr.alloc (.cells (Array.replicate k (Value.bool false)) 4)).alloc (.cells #[.int .i64 0,.int .i64 0,.slice A k c,.slice (some ⟨wr.heap.size,0,none⟩) k k,.int .i64 0] 178)):=((KX.refl _ wr).alloc _).alloc _;have hkw:KX own w ((wr.alloc (.cells (Array.replicate k (Value.bool false)) 4)).alloc (.cells #[.int .i64 0,.int .i64 0,.slice A k c,.slice (some ⟨wr.heap.size,0,none⟩) k k,.int .i64 0] 178)):=(KX.of (X:=own) BW.out).trans (hkx.mono (fun _ _ h=>h.elim));have hbb:eI ((wr.alloc (.cells (Array.replicate k (Value.bool false)) 4)).alloc (.cells #[.int .i64 0,.int .i64 0,.slice A k c,.slice (some ⟨wr.heap.size,0,none⟩) k k,.int .i64 0] 178)) wr.heap.size (List.replicate ps.length false):=by
        have h:=(aC.new wr 4 (Array.replicate k (Value.bool false))).alloc (.cells #[.int .i64 0,.int .i64 0,.slice A k c,.slice (some ⟨wr.heap.size,0,none⟩) k k,.int .i64 0] 178);unfold eI;rw [List.map_replicate,List.toArray_replicate,hpl];exact h
       have hst2:=aC.new (wr.alloc (.cells (Array.replicate k (Value.bool false)) 4)) 178 #[.int .i64 0,.int .i64 0,.slice A k c,.slice (some ⟨wr.heap.size,0,none⟩) k k,.int .i64 0];rw [World.size_alloc] at hst2;refine⟨⟨⟨n1,n2,n3⟩,⟨n4,n5,n6⟩,m1.2,fun c g h=>⟨(HG.out.2.1 c g h).1,(HG.out.2.1 c g h).2.lt⟩,⟨by omega,m2⟩,HG.out.2.2⟩,hlo.out,RB.out.kx hkx (fun h=>h),DC.out.kx hkx (fun h=>h),by rw [hpl];exact DA.out.kx hkx (fun h=>h),?_,
        ⟨0,by simpa using hst2,HT.out.kx hkw (fun g o h0 e=>hto.out g o h0 e),by simp [hpl],fun h0=>⟨wr.heap.size,rfl,hbb,by omega⟩,fun g o h0 e=>?_,Nat.zero_le _⟩,hbb,hst.out _ _ _ _ hr0.out ((KX.of (X:=fun _=>False) BW.out).trans hkx) (fun _ _ h=>h),hkw,rfl,fun g o h0 e=>?_⟩
       ·have hgl:=HG.out.1;have hg0:gk=0:=by omega
        have hdb:=DB.out;rw [hg0,List.replicate_zero,List.append_nil] at hdb;have e:((gcs.zip (List.replicate j [(0:Int)])).map (fun p=>Value.slice (some ⟨p.1,0,none⟩) p.2.length (ticks+1)))=gcs.map (fun g=>Value.slice (some ⟨g,0,none⟩) 1 (ticks+1)):=by
         apply List.ext_getElem
         ·simp [hgl]
         ·intro i h1 h2;simp
        refine⟨by rw [List.length_replicate];exact hgl,by rw [e];exact hdb.kx hkx (fun h=>h),fun c g l hg hl=>?_⟩
        have:=List.eq_of_mem_replicate (List.mem_of_getElem? hl)
        rw [this];exact(HG.out.2.1 c g hg).2.kx hkx (fun h=>h)
       ·obtain⟨g',o',e',hr⟩:=HT.out.2.2 h0;rw [e] at e';cases e';have:=hr.lt;omega
       ·obtain⟨g',o',e',hr⟩:=HT.out.2.2 h0;have e2:=e;rw [e'] at e2;cases e2;exact⟨hr.lt,hto.out _ _ h0 e⟩
      have E:=aA e0;have MR:=aA (aQ.start (cap:=cap) (cls:=j) (ps:=ps) (ticks:=ticks) (Ch:=Ch) (sg0:=sg0));clear e0 hmb DA RB DC DB BW HS HG hpl;generalize hw5:(wr.alloc (.cells (Array.replicate k (Value.bool false)) 4)).alloc (.cells #[.int .i64 0,.int .i64 0,.slice A k c,.slice (some ⟨wr.heap.size,0,none⟩) k k,.int .i64 0] 178)=w5 at *;generalize hgs:wr.heap.size+1=gs at *;generalize hgb:wr.heap.size=gB at *;clear hw5 hgs hgb;go_wp2_with fail
      go_loopg [58,15,16] ticks (fun gg s58 s15 s16 wr=>∃(s:RS σ) (tt lf:Int),s.t+gg=ticks/\s.on=false/\s58 = .int .i64 s.t/\s15 = .int .i64 (nJ s.now)/\s16 = .int .i64 s.rest/\Hid (aQ cap j ps ticks Ch sg0 s)/\Hid (cK w.heap.size g1 gD gS gs gB M gcs A k c ps (ticks+1) j HR own w wr tt lf s))
      case atStart=>exact⟨_,0,0,Nat.zero_add _,rfl,rfl,rfl,rfl,MR,E⟩
      case round=>
       clear MR E;obtain⟨s,tt,lf,hts,hon,rfl,rfl,rfl,MR,E⟩:=hrel;obtain⟨go3,hgo3⟩:∃go3:Nat,go3=gk:=⟨_,rfl⟩
       rw [<- hgo3] at hts;obtain⟨c0,c1⟩:_/\_:=⟨E.out.r11.cell 0,E.out.r11.cell 1⟩
       simp at c0 c1;have hl1:=E.out.r11.lt;rcases Nat.lt_or_ge s.t ticks with hlt|hge
       ·have hti:(s.t:Int)<ticks:=by omega
        obtain⟨bef,he⟩:=E.out.se;obtain⟨d0,d1⟩:_/\_:=⟨he.st.cell 0,he.st.cell 1⟩
        simp at d0 d1;obtain⟨z0,z1⟩:_/\_:=⟨he.st.frozen 0,he.st.frozen 1⟩
        have hlg:=he.st.lt;have E1:=aA ((E.out.now_ hst.out s.t).left_ hst.out cap);clear he;go_upto_region 18 with fail
        generalize hw6:(wr.setCell ⟨gs,0,none⟩ (.int .i64 s.t)).setCell ⟨gs,1,none⟩ (.int .i64 cap)=w6 at *;clear hw6 c0 c1 hl1 d0 d1 z0 z1 hlg E;obtain⟨c0,c1⟩:_/\_:=⟨E1.out.r11.cell 0,E1.out.r11.cell 1⟩
        simp at c0 c1;have hl1:=E1.out.r11.lt;have OK:=aA (MR.out.ok HV.out hc1);have E:=aA (show cK w.heap.size g1 gD gS gs gB M gcs A k c ps (ticks+1) j HR own w w6 s.t cap { s with sent:=jE s.sent s.t 0 } by rw [a1b];exact E1.out);clear E1;go_wp2_with fail
        clear c0 c1 hl1;go_loopg [72,18] j (fun g2 s72 _ wq=>∃i:Nat,i+g2=j/\s72 = .int .i64 i/\Hid (cK w.heap.size g1 gD gS gs gB M gcs A k c ps (ticks+1) j HR own w wq s.t cap { s with sent:=jE s.sent s.t i }))
        case atStart=>exact⟨0,by omega,rfl,E⟩
        case round=>
         clear E;obtain⟨i,hig,rfl,E⟩:=hrel;have c1:wr.cell? ⟨g1,1,none⟩=some (.slice (some ⟨gS,0,none⟩) j j):=by simpa using E.out.r11.cell 1
         have hl1:=E.out.r11.lt;rcases Nat.lt_or_ge i j with hi|hi
         ·
          have hii:(i:Int)<j:=by omega
          obtain⟨l,hl⟩:∃l,s.sent[i]?=some l:=⟨_,List.getElem?_eq_getElem (by rw [OK.out.ls];exact hi)⟩
          have hll:l.length=s.t+1:=by have:=OK.out.lr i l hl;rw [hon] at this;simpa using this
          obtain⟨g,hg,hce,hro⟩:=E.out.sn.get (j8 (t:=s.t) hl);have hcc:=hro.cell (k:=s.t) (by omega);have hlS:=E.out.sn.tb.lt;have hfS:=E.out.sn.tb.frozen i;have hlg:=hro.lt;have hst0:(s.t:Int)<l.length:=by omega
          have HG2:=aA hg;have HRO:=aA hro;have HLL:=aA hll;have HL:=aA hl;obtain⟨y,hy⟩:∃y,y=aB l s.t:=⟨_,rfl⟩
          rw [<- hy] at hcc;have HY:=aA hy;clear hg hro hll hl hy;go_wp2_with fail
          refine wp_region_held_drew (S:=fun w'=>w'.cell? ⟨g1,1,none⟩=some (.slice (some ⟨gS,0,none⟩) j j)/\w'.cell? ⟨g,s.t,none⟩=some (.int .i64 y)) (by kernel_rfl) ⟨c1,hcc⟩ (fun hH=>?_);have E:=aA (show cK w.heap.size g1 gD gS gs gB M gcs A k c ps (ticks+1) j HR own w wr.drew s.t cap { s with sent:=jE s.sent s.t i } from E.out.drewN hst.out 1);have HRO:=aA (show cV wr.drew g (ticks+1) l from HRO.out.kx ((KX.refl (fun _=>False) wr).drewN 1) (fun h=>h));have c1:wr.drew.cell? ⟨g1,1,none⟩=some (.slice (some ⟨gS,0,none⟩) j j):=c1;have hcc:wr.drew.cell? ⟨g,s.t,none⟩=some (.int .i64 y):=hcc;have hce:wr.drew.cell? ⟨gS,i,none⟩=some (.slice (some ⟨g,0,none⟩) l.length (ticks+1)):=hce;generalize hwd:wr.drew=wd at *;clear hwd hl1 hlS hfS hlg;refine aO [0,1,2,3,4,5,6,8,9,10,11,13] ?_;(iterate 12 refine aK ?_);refine aP ?_;refine eS 7 12 (fun K hK=>?_) (fun K hK=>?_)
          ·rw [if_pos (by rfl)];go_simp
           refine aH hK (by exact⟨c1,hcc⟩) (fun hH=>?_);refine aJ 12 (fun K hK=>?_);go_simp
           refine aH hK (by exact⟨c1,hcc⟩) (fun hH=>?_);refine aO [14,15] ?_;(iterate 2 refine aK ?_);refine aP ?_;refine aJ 16 (fun K hK=>?_);go_simp
           have E:=aA (E.out.alloc hst.out (.cells #[.int .i64 y] 3));have DY:=aA (aC.new wd 3 #[.int .i64 y]);have HRO:=aA (HRO.out.kx (KX.of (X:=fun _=>False) (aF wd (.cells #[.int .i64 y] 3))) (fun h=>h));have c1:(wd.alloc (.cells #[.int .i64 y] 3)).cell? ⟨g1,1,none⟩=some (.slice (some ⟨gS,0,none⟩) j j):=by simpa using E.out.r11.cell 1
           have hcc:(wd.alloc (.cells #[.int .i64 y] 3)).cell? ⟨g,s.t,none⟩=some (.int .i64 y):=by
            have h:=HRO.out.cell (k:=s.t) (by have:=HLL.out;omega);rw [<- HY.out] at h;exact h
           have hce:(wd.alloc (.cells #[.int .i64 y] 3)).cell? ⟨gS,i,none⟩=some (.slice (some ⟨g,0,none⟩) l.length (ticks+1)):=by
            obtain⟨g2,hg2,h2,_⟩:=E.out.sn.get (j8 (t:=s.t) HL.out);rw [HG2.out] at hg2;cases hg2;exact h2
           generalize hwl:wd.alloc (.cells #[.int .i64 y] 3)=wl at *;obtain⟨gy,hgy⟩:∃gy,gy=wd.heap.size:=⟨_,rfl⟩
           rw [<- hgy] at DY;simp only [<- hgy];clear hwl hgy hH;refine aH hK (by exact⟨c1,hcc⟩) (fun hH=>?_);refine dA 17 (fun K hK=>?_);refine uA rfl _ _ 22 rfl Tryz.underlying22 g (ticks+1) l (by rfl) HRO.out gy 1 y (by rfl) (by simpa using DY.out.cell 0) (by have:=HLL.out;omega) ?_;intro w2 hr2 hk2;have hne:g≠g1/\gS≠g1/\g≠gS:=by
            obtain⟨a1,a2,a3,a4,a5,a6⟩:=E.out.d;have:=a4 i g HG2.out
            omega
           have c1':w2.cell? ⟨g1,1,none⟩=some (.slice (some ⟨gS,0,none⟩) j j):=by simpa using (E.out.r11.kx hk2 (fun h=>hne.1 h.symm)).cell 1
           have hcc':w2.cell? ⟨g,s.t,none⟩=some (.int .i64 y):=by
            have h:=hr2.cell (k:=s.t) (by have:=HLL.out;simp;omega);rw [lP,if_pos (by have:=HLL.out;omega),<- HY.out] at h;exact h
           have cS:w2.cell? ⟨gS,i,none⟩=some (.slice (some ⟨g,0,none⟩) l.length (ticks+1)):=by
            obtain⟨g2,hg2,h2,_⟩:=E.out.sn.get (j8 (t:=s.t) HL.out);rw [HG2.out] at hg2;cases hg2;have e:=hk2.block gS E.out.sn.tb.lt (fun h=>hne.2.2 h.symm);rw [<- h2];simp only [World.cell?,e]
           have hlS:=(E.out.sn.tb.kx hk2 (fun h=>hne.2.2 h.symm)).lt;have hfS:=(E.out.sn.tb.kx hk2 (fun h=>hne.2.2 h.symm)).frozen i;have EA:=E.out.app_ hst.out HG2.out (j8 (t:=s.t) HL.out) hk2 hr2;rw [HY.out,tF HL.out] at EA;have E:=aA EA;have HC2:=aA (show(w2.setCell ⟨gS,i,none⟩ (.slice (some ⟨g,0,none⟩) (l.length+1) (ticks+1))).cell? ⟨g,s.t,none⟩=some (.int .i64 y) by
            have h:=(hr2.kx (bG w2 gS i (.slice (some ⟨g,0,none⟩) (l.length+1) (ticks+1))) hne.2.2).cell (k:=s.t) (by have:=HLL.out;simp;omega);rw [lP,if_pos (by have:=HLL.out;omega),<- HY.out] at h;exact h)
           clear hr2 hk2 hne c1 hcc hce EA hH;refine aH hK (by exact⟨c1',hcc'⟩) (fun hH=>?_);refine bD 18 ?_;refine aJ 19 (fun K hK=>?_);go_simp
           have c1'':(w2.setCell ⟨gS,i,none⟩ (.slice (some ⟨g,0,none⟩) (l.length+1) (ticks+1))).cell? ⟨g1,1,none⟩=some (.slice (some ⟨gS,0,none⟩) j j):=by simpa using E.out.r11.cell 1
           refine aH hK (by exact⟨c1'',HC2.out⟩) (fun hH=>?_);clear HC2 c1'' c1' hcc' hlS hfS cS;generalize w2.setCell ⟨gS,i,none⟩ (.slice (some ⟨g,0,none⟩) (l.length+1) (ticks+1))=wy at *;refine aT ?_;go_wp2_with fail
           go_roundg (gk-1)
           case measure=>omega
           case rel=>exact⟨i+1,by omega,by go_num,E⟩
          ·rw [if_pos (by rfl)];go_simp
           refine aH hK (by exact⟨c1,hcc⟩) (fun hH=>?_);refine aO [14,15] ?_;(iterate 2 refine aK ?_);refine aP ?_;refine eS 7 16 (fun K hK=>?_) (fun K hK=>?_)
           ·rw [if_pos (by rfl)];go_simp
            refine aH hK (by exact⟨c1,hcc⟩) (fun hH=>?_);refine aJ 16 (fun K hK=>?_);go_simp
            have E:=aA (E.out.alloc hst.out (.cells #[.int .i64 y] 3));have DY:=aA (aC.new wd 3 #[.int .i64 y]);have HRO:=aA (HRO.out.kx (KX.of (X:=fun _=>False) (aF wd (.cells #[.int .i64 y] 3))) (fun h=>h));have c1:(wd.alloc (.cells #[.int .i64 y] 3)).cell? ⟨g1,1,none⟩=some (.slice (some ⟨gS,0,none⟩) j j):=by simpa using E.out.r11.cell 1
            have hcc:(wd.alloc (.cells #[.int .i64 y] 3)).cell? ⟨g,s.t,none⟩=some (.int .i64 y):=by
             have h:=HRO.out.cell (k:=s.t) (by have:=HLL.out;omega);rw [<- HY.out] at h;exact h
            have hce:(wd.alloc (.cells #[.int .i64 y] 3)).cell? ⟨gS,i,none⟩=some (.slice (some ⟨g,0,none⟩) l.length (ticks+1)):=by
             obtain⟨g2,hg2,h2,_⟩:=E.out.sn.get (j8 (t:=s.t) HL.out);rw [HG2.out] at hg2;cases hg2;exact h2
            generalize hwl:wd.alloc (.cells #[.int .i64 y] 3)=wl at *;obtain⟨gy,hgy⟩:∃gy,gy=wd.heap.size:=⟨_,rfl⟩
            rw [<- hgy] at DY;simp only [<- hgy];clear hwl hgy hH;refine aH hK (by exact⟨c1,hcc⟩) (fun hH=>?_);refine dA 17 (fun K hK=>?_);refine uA rfl _ _ 22 rfl Tryz.underlying22 g (ticks+1) l (by rfl) HRO.out gy 1 y (by rfl) (by simpa using DY.out.cell 0) (by have:=HLL.out;omega) ?_;intro w2 hr2 hk2;have hne:g≠g1/\gS≠g1/\g≠gS:=by
             obtain⟨a1,a2,a3,a4,a5,a6⟩:=E.out.d;have:=a4 i g HG2.out
             omega
            have c1':w2.cell? ⟨g1,1,none⟩=some (.slice (some ⟨gS,0,none⟩) j j):=by simpa using (E.out.r11.kx hk2 (fun h=>hne.1 h.symm)).cell 1
            have hcc':w2.cell? ⟨g,s.t,none⟩=some (.int .i64 y):=by
             have h:=hr2.cell (k:=s.t) (by have:=HLL.out;simp;omega);rw [lP,if_pos (by have:=HLL.out;omega),<- HY.out] at h;exact h
            have cS:w2.cell? ⟨gS,i,none⟩=some (.slice (some ⟨g,0,none⟩) l.length (ticks+1)):=by
             obtain⟨g2,hg2,h2,_⟩:=E.out.sn.get (j8 (t:=s.t) HL.out);rw [HG2.out] at hg2;cases hg2;have e:=hk2.block gS E.out.sn.tb.lt (fun h=>hne.2.2 h.symm);rw [<- h2];simp only [World.cell?,e]
            have hlS:=(E.out.sn.tb.kx hk2 (fun h=>hne.2.2 h.symm)).lt;have hfS:=(E.out.sn.tb.kx hk2 (fun h=>hne.2.2 h.symm)).frozen i;have EA:=E.out.app_ hst.out HG2.out (j8 (t:=s.t) HL.out) hk2 hr2;rw [HY.out,tF HL.out] at EA;have E:=aA EA;have HC2:=aA (show(w2.setCell ⟨gS,i,none⟩ (.slice (some ⟨g,0,none⟩) (l.length+1) (ticks+1))).cell? ⟨g,s.t,none⟩=some (.int .i64 y) by
             have h:=(hr2.kx (bG w2 gS i (.slice (some ⟨g,0,none⟩) (l.length+1) (ticks+1))) hne.2.2).cell (k:=s.t) (by have:=HLL.out;simp;omega);rw [lP,if_pos (by have:=HLL.out;omega),<- HY.out] at h;exact h)
            clear hr2 hk2 hne c1 hcc hce EA hH;refine aH hK (by exact⟨c1',hcc'⟩) (fun hH=>?_);refine bD 18 ?_;refine aJ 19 (fun K hK=>?_);go_simp
            have c1'':(w2.setCell ⟨gS,i,none⟩ (.slice (some ⟨g,0,none⟩) (l.length+1) (ticks+1))).cell? ⟨g1,1,none⟩=some (.slice (some ⟨gS,0,none⟩) j j):=by simpa using E.out.r11.cell 1
            refine aH hK (by exact⟨c1'',HC2.out⟩) (fun hH=>?_);clear HC2 c1'' c1' hcc' hlS hfS cS;generalize w2.setCell ⟨gS,i,none⟩ (.slice (some ⟨g,0,none⟩) (l.length+1) (ticks+1))=wy at *;refine aT ?_;go_wp2_with fail
            go_roundg (gk-1)
            case measure=>omega
            case rel=>exact⟨i+1,by omega,by go_num,E⟩
           ·rw [if_pos (by rfl)];go_simp
            have E:=aA (E.out.alloc hst.out (.cells #[.int .i64 y] 3));have DY:=aA (aC.new wd 3 #[.int .i64 y]);have HRO:=aA (HRO.out.kx (KX.of (X:=fun _=>False) (aF wd (.cells #[.int .i64 y] 3))) (fun h=>h));have c1:(wd.alloc (.cells #[.int .i64 y] 3)).cell? ⟨g1,1,none⟩=some (.slice (some ⟨gS,0,none⟩) j j):=by simpa using E.out.r11.cell 1
            have hcc:(wd.alloc (.cells #[.int .i64 y] 3)).cell? ⟨g,s.t,none⟩=some (.int .i64 y):=by
             have h:=HRO.out.cell (k:=s.t) (by have:=HLL.out;omega);rw [<- HY.out] at h;exact h
            have hce:(wd.alloc (.cells #[.int .i64 y] 3)).cell? ⟨gS,i,none⟩=some (.slice (some ⟨g,0,none⟩) l.length (ticks+1)):=by
             obtain⟨g2,hg2,h2,_⟩:=E.out.sn.get (j8 (t:=s.t) HL.out);rw [HG2.out] at hg2;cases hg2;exact h2
            generalize hwl:wd.alloc (.cells #[.int .i64 y] 3)=wl at *;obtain⟨gy,hgy⟩:∃gy,gy=wd.heap.size:=⟨_,rfl⟩
            rw [<- hgy] at DY;simp only [<- hgy];clear hwl hgy hH;refine aH hK (by exact⟨c1,hcc⟩) (fun hH=>?_);refine aJ 7 (fun K hK=>?_);go_simp
            refine aH hK (by exact⟨c1,hcc⟩) (fun hH=>?_);refine dA 17 (fun K hK=>?_);refine uA rfl _ _ 22 rfl Tryz.underlying22 g (ticks+1) l (by rfl) HRO.out gy 1 y (by rfl) (by simpa using DY.out.cell 0) (by have:=HLL.out;omega) ?_;intro w2 hr2 hk2;have hne:g≠g1/\gS≠g1/\g≠gS:=by
             obtain⟨a1,a2,a3,a4,a5,a6⟩:=E.out.d;have:=a4 i g HG2.out
             omega
            have c1':w2.cell? ⟨g1,1,none⟩=some (.slice (some ⟨gS,0,none⟩) j j):=by simpa using (E.out.r11.kx hk2 (fun h=>hne.1 h.symm)).cell 1
            have hcc':w2.cell? ⟨g,s.t,none⟩=some (.int .i64 y):=by
             have h:=hr2.cell (k:=s.t) (by have:=HLL.out;simp;omega);rw [lP,if_pos (by have:=HLL.out;omega),<- HY.out] at h;exact h
            have cS:w2.cell? ⟨gS,i,none⟩=some (.slice (some ⟨g,0,none⟩) l.length (ticks+1)):=by
             obtain⟨g2,hg2,h2,_⟩:=E.out.sn.get (j8 (t:=s.t) HL.out);rw [HG2.out] at hg2;cases hg2;have e:=hk2.block gS E.out.sn.tb.lt (fun h=>hne.2.2 h.symm);rw [<- h2];simp only [World.cell?,e]
            have hlS:=(E.out.sn.tb.kx hk2 (fun h=>hne.2.2 h.symm)).lt;have hfS:=(E.out.sn.tb.kx hk2 (fun h=>hne.2.2 h.symm)).frozen i;have EA:=E.out.app_ hst.out HG2.out (j8 (t:=s.t) HL.out) hk2 hr2;rw [HY.out,tF HL.out] at EA;have E:=aA EA;have HC2:=aA (show(w2.setCell ⟨gS,i,none⟩ (.slice (some ⟨g,0,none⟩) (l.length+1) (ticks+1))).cell? ⟨g,s.t,none⟩=some (.int .i64 y) by
             have h:=(hr2.kx (bG w2 gS i (.slice (some ⟨g,0,none⟩) (l.length+1) (ticks+1))) hne.2.2).cell (k:=s.t) (by have:=HLL.out;simp;omega);rw [lP,if_pos (by have:=HLL.out;omega),<- HY.out] at h;exact h)
            clear hr2 hk2 hne c1 hcc hce EA hH;refine aH hK (by exact⟨c1',hcc'⟩) (fun hH=>?_);refine bD 18 ?_;refine aJ 19 (fun K hK=>?_);go_simp
            have c1'':(w2.setCell ⟨gS,i,none⟩ (.slice (some ⟨g,0,none⟩) (l.length+1) (ticks+1))).cell? ⟨g1,1,none⟩=some (.slice (some ⟨gS,0,none⟩) j j):=by simpa using E.out.r11.cell 1
            refine aH hK (by exact⟨c1'',HC2.out⟩) (fun hH=>?_);clear HC2 c1'' c1' hcc' hlS hfS cS;generalize w2.setCell ⟨gS,i,none⟩ (.slice (some ⟨g,0,none⟩) (l.length+1) (ticks+1))=wy at *;refine aT ?_;go_wp2_with fail
            go_roundg (gk-1)
            case measure=>omega
            case rel=>exact⟨i+1,by omega,by go_num,E⟩
         ·obtain rfl:i=j:=by omega
          have hij:¬(i:Int)<i:=by omega
          have E0:=aA (show cK w.heap.size g1 gD gS gs gB M gcs A k c ps (ticks+1) i HR own w wr s.t cap { s with on:=true,left:=cap,sent:=s.sent.map (fun l=>l ++ [aB l s.t]) } from by
           have h:=E.out;rw [a1a _ _ _ (by rw [OK.out.ls];omega)] at h;exact h.same rfl rfl rfl rfl)
          have MR:=aA (aQ.tick s MR.out hon hlt);clear E c1 hl1;go_wp2_with fail
          go_loopg [15,16] cap.toNat (fun g3 s15 s16 wq=>∃(s2:RS σ),s2.on=true/\s2.t=s.t/\s2.left=g3/\s15 = .int .i64 (nJ s2.now)/\s16 = .int .i64 s2.rest/\Hid (aQ cap i ps ticks Ch sg0 s2)/\Hid (cK w.heap.size g1 gD gS gs gB M gcs A k c ps (ticks+1) i HR own w wq s.t s2.left s2))
          case atStart=>exact⟨{ s with on:=true,left:=cap,sent:=s.sent.map (fun l=>l ++ [aB l s.t]) },rfl,rfl,by show cap=_;omega,rfl,rfl,MR,E0⟩
          case round=>
           clear E0 MR OK;obtain⟨s2,hon2,ht2,hlf2,rfl,rfl,MR,E⟩:=hrel;have OK:=aA (MR.out.ok HV.out hc1);obtain⟨bef,he⟩:=E.out.se;have d1:wr.cell? ⟨gs,1,none⟩=some (.int .i64 s2.left):=by simpa using he.st.cell 1
           have hlg:=he.st.lt;have HGS:=aA (show w.heap.size<=gs by
            obtain⟨a1,a2,a3,a4,a5,a6⟩:=E.out.d;omega)
           rcases (show 0<s2.left\/s2.left<=0 by omega) with hl|hl
           ·go_upto_if 101 with fail
            go_cut [15,16] (fun s15 s16 wx=>∃(s3:RS σ) (i0:Nat) (x:PK) (z:Int) (g0 o0:Nat),A=some ⟨g0,o0,none⟩/\s15 = .int .i64 i0/\s16 = .int .i64 z/\s3.on=true/\s3.t=s.t/\0<s3.left/\s3.left=gk/\Hid (s3.now=some i0)/\Hid (s3.rest=z)/\Hid (ps[i0]?=some x)/\Hid (1<=z/\z<=1500)/\Hid (aQ cap i ps ticks Ch sg0 s3)/\Hid (cK w.heap.size g1 gD gS gs gB M gcs A k c ps (ticks+1) i HR own w wx s.t s3.left s3))
            case first=>
             rcases hnow:s2.now with _|i0
             ·
              have e15:nJ none = -1:=rfl;rw [e15];have HE:=aA he;have HNW:=aA hnow;clear e15 he hnow;go_wp2_with fail
              refine(hch.out gs bef (some ⟨gB,0,none⟩) s2 wr MR.out hon2 HNW.out hl (by rw [ht2];exact HE.out) E.out.hr E.out.kx HGS.out).mono ?_;rintro e w2 ⟨r,sg',hC,hr,rfl,⟨b2,hse⟩,hhr,hk⟩;have E3:=aA (E.out.chosen hk (by rw [ht2] at hse;exact hse) hhr);have HC:=aA hC;have HSE:=aA hse;clear hC hse hhr hk d1 hlg HE E;rcases hr with rfl | ⟨i0,rfl,hi0⟩
              ·have MR3:=aA (aQ.idle s2 sg' MR.out hon2 hl HNW.out HC.out);have E4:=aA (E3.out.same (s':={ s2 with on:=false,t:=s2.t+1,sg:=sg' }) rfl rfl rfl rfl);go_wp2_with fail
               go_roundg (go3-1)
               case measure=>omega
               case rel=>exact⟨{ s2 with on:=false,t:=s2.t+1,sg:=sg' },_,_,by show s2.t+1+(go3-1)=ticks;omega,rfl,by rw [<- ht2];go_num,by show _=Value.int .i64 (nJ s2.now);rw [HNW.out];rfl,rfl,MR3,E4⟩
              ·obtain⟨g0,o0,hA,hr0⟩:=HSE.out.tr.2.2 (by omega);subst hA;obtain⟨x,hx,x0,x1,x2⟩:=hr0.get (k:=i0) (by have:=HT.out.1;omega);have hgl:=hr0.lt;have hik:(i0:Int)<k:=by omega
               have q3:w2.cell? ⟨gs,3,none⟩=some (.slice (some ⟨gB,0,none⟩) k k):=by simpa using HSE.out.st.cell 3
               have hlg:=HSE.out.st.lt;have hlB:=E3.out.bb.lt;have hfB:=E3.out.bb.frozen i0;obtain⟨bv,hbv⟩:∃b,s2.begun[i0]?=some b:=⟨_,List.getElem?_eq_getElem (by have:=OK.out.lb;have:=HT.out.1;omega)⟩
               have cB:=E3.out.bb.cell i0 hbv;have MR3:=aA (aQ.begin_ s2 sg' i0 x MR.out hon2 hl HNW.out HC.out hx);have HX:=aA hx;obtain⟨z,hz⟩:∃z,z=x.sz:=⟨_,rfl⟩
               rw [<- hz] at x2 MR3;have HZ:=aA hz;clear hx hbv hr0 x0 x1 hz;go_wp2_with fail
               refine wp_region_held_drew (S:=fun w'=>w'.cell? ⟨gs,3,none⟩=some (.slice (some ⟨gB,0,none⟩) k k)/\w'.cell? ⟨g0,o0+i0*3+2,none⟩=some (.int .i64 z)) (by kernel_rfl) ⟨q3,x2⟩ (fun hH=>?_);have E3:=aA (show cK w.heap.size g1 gD gS gs gB M gcs (some ⟨g0,o0,none⟩) k c ps (ticks+1) i HR own w w2.drew s.t s2.left { s2 with sg:=sg' } from E3.out.drewN hst.out 1);have q3:w2.drew.cell? ⟨gs,3,none⟩=some (.slice (some ⟨gB,0,none⟩) k k):=q3;have x2:w2.drew.cell? ⟨g0,o0+i0*3+2,none⟩=some (.int .i64 z):=x2;have cB:w2.drew.cell? ⟨gB,i0,none⟩=some (.bool bv):=cB;have hlB:gB<w2.drew.heap.size:=hlB;have hfB:w2.drew.frozen? ⟨gB,i0,none⟩=false:=hfB;clear hgl hlg HSE;generalize hwd:w2.drew=wd at *;clear hwd;refine aO [0,1,2,3,4,5,6,7,8,9,10] ?_;(iterate 11 refine aK ?_);refine aP ?_;refine aJ 11 (fun K hK=>?_);go_simp
               have E4:=aA ((E3.out.begun_ hst.out i0).same (s':={ s2 with now:=some i0,rest:=z,begun:=s2.begun.set i0 true,sg:=sg' }) rfl rfl rfl rfl);have q3':(wd.setCell ⟨gB,i0,none⟩ (.bool true)).cell? ⟨gs,3,none⟩=some (.slice (some ⟨gB,0,none⟩) k k):=by
                obtain⟨b5,h5⟩:=E4.out.se
                simpa using h5.st.cell 3
               have x2':(wd.setCell ⟨gB,i0,none⟩ (.bool true)).cell? ⟨g0,o0+i0*3+2,none⟩=some (.int .i64 z):=by
                obtain⟨b5,h5⟩:=E4.out.se;obtain⟨g6,o6,h6,h7⟩:=h5.tr.2.2 (by omega);cases h6
                have:=h7.cell i0 2 x HX.out (by omega)
                rw [this,HZ.out];rfl
               clear q3 x2 hlB hfB cB hH E3;generalize wd.setCell ⟨gB,i0,none⟩ (.bool true)=wp at *;refine aH hK (by exact⟨q3',x2'⟩) (fun hH=>?_);clear q3' x2';refine bD 12 ?_;refine aT ?_;clear hH;obtain⟨s3,hs3⟩:∃s3,s3=({ s2 with now:=some i0,rest:=z,begun:=s2.begun.set i0 true,sg:=sg' }:RS σ):=⟨_,rfl⟩
               have hon3:s3.on=true:=by rw [hs3];exact hon2
               have ht3:s3.t=s.t:=by rw [hs3];exact ht2
               have hl3:0<s3.left:=by rw [hs3];exact hl
               have HN3:=aA (show s3.now=some i0 by rw [hs3]);have HR3:=aA (show s3.rest=z by rw [hs3]);have hlf3:s3.left=gk:=by rw [hs3];exact hlf2
               rw [show({ s2 with now:=some i0,rest:=z,begun:=s2.begun.set i0 true,sg:=sg' }:RS σ)=s3 from hs3.symm] at MR3 E4;rw [show s2.left=s3.left by rw [hs3]] at E4;have HZ2:=aA (show 1<=z/\z<=1500 by
                have gx:=HV.out.good x (List.mem_of_getElem? HX.out);unfold PK.Good at gx;rw [HZ.out];exact gx.2.2.2.2)
               clear hs3 MR OK HZ HC HNW HGS hon2 ht2 hlf2 hl;go_wp2_with fail
               go_meet
               exact⟨s3,i0,x,z,_,_,rfl,rfl,rfl,hon3,ht3,hl3,hlf3,HN3,HR3,HX,HZ2,MR3,E4⟩
             ·have hn0:=OK.out.nw i0 hnow;have hi0:i0<k:=by have:=HT.out.1;omega
              have hik:(i0:Int)<k:=by omega
              obtain⟨g0,o0,hA,hr0⟩:=he.tr.2.2 (by have:=HT.out.1;omega);subst hA;obtain⟨x,hx,-,-,-⟩:=hr0.get (k:=i0) hn0.2.2;have HX:=aA hx;rw [show nJ (some i0)=(i0:Int) from rfl];obtain⟨z,hz⟩:∃z,z=s2.rest:=⟨_,rfl⟩
              rw [<- hz];obtain⟨s3,hs3⟩:∃s3,s3=s2:=⟨_,rfl⟩
              rw [<- hs3] at hon2 ht2 hl hlf2 hnow hz MR E hn0;have hon3:=hon2;have ht3:=ht2;have hl3:=hl;have hlf3:=hlf2;have HN3:=aA hnow;have HR3:=aA (show s3.rest=z from hz.symm);have HZ2:=aA (show 1<=z/\z<=1500 by rw [hz];exact⟨hn0.1,hn0.2.1⟩);have MR3:=MR;have E4:=E;clear hs3 hon2 ht2 hl hlf2 hnow hz MR E hn0 OK he d1 hlg HGS hx hr0;go_wp2_with fail
              go_meet
              exact⟨s3,i0,x,z,_,_,rfl,rfl,rfl,hon3,ht3,hl3,hlf3,HN3,HR3,HX,HZ2,MR3,E4⟩
            case rest=>
             clear MR E OK he d1 hlg HGS hon2 ht2 hlf2 hl;obtain⟨s3,i0,x,z,g0,o0,hA,rfl,rfl,hon3,ht3,hl3,hlf3,HN3,HR3,HX,HZ2,MR3,E4⟩:=hcut;subst hA;have hik:(i0:Int)<k:=by have h1:=((MR3.out.ok HV.out hc1).nw i0 HN3.out).2.2;have:=HT.out.1;omega
             have hi0:i0<k:=by omega
             obtain⟨L,hL⟩:∃L,L=s3.left:=⟨_,rfl⟩
             rw [<- hL] at E4 hl3 hlf3;have HL:=aA hL;have HLF:=aA hlf3;clear hL hlf3;have OK:=aA (MR3.out.ok HV.out hc1);have hLc:L<=4000:=by have:=OK.out.lf hon3;have:=HL.out;omega
             obtain⟨bef4,he4⟩:=E4.out.se;have d1:wc.cell? ⟨gs,1,none⟩=some (.int .i64 L):=by simpa using he4.st.cell 1
             have hlg:=he4.st.lt;have HE4:=aA he4;clear he4;have hz1:1<=z:=HZ2.out.1;have hz2:z<=1500:=HZ2.out.2;obtain⟨F,hF⟩:∃F:Nat,x.fl=F:=⟨x.fl.toNat,by
              have gx:=HV.out.good x (List.mem_of_getElem? HX.out);unfold PK.Good at gx;omega⟩
             have hFi:F<i:=by have:=HF.out x (List.mem_of_getElem? HX.out);omega
             have HFF:=aA hF;clear hF;go_upto_region 28 with fail
             go_cut [19] (fun s19 wx=>∃nn:Int,s19 = .int .i64 nn/\wx=wc/\1<=nn/\nn<=z/\nn<=L/\(nn=z\/(nn=L/\L<z)))
             case first=>
              rcases (show z<=L\/L<z by omega) with hzl|hzl
              ·go_wp2_with fail
               go_meet
               exact⟨z,rfl,rfl,hz1,Int.le_refl _,hzl,.inl rfl⟩
              ·go_wp2_with fail
               go_meet
               exact⟨L,rfl,rfl,by omega,by omega,Int.le_refl _,.inr ⟨rfl,hzl⟩⟩
             case rest=>
              obtain⟨nn,rfl,hwn,hn1,hn2,hn3,hn4⟩:=hcut;subst hwn;go_wp2_with fail
              have HN4:=aA hn4;clear hn4;obtain⟨l,hl⟩:∃l,s3.sent[F]?=some l:=⟨_,List.getElem?_eq_getElem (by rw [OK.out.ls];exact hFi)⟩
              have hll:l.length=s3.t+2:=by have:=OK.out.lr F l hl;rw [hon3] at this;simpa using this
              obtain⟨T,hT⟩:∃T,T=s3.t+1:=⟨_,rfl⟩
              obtain⟨y,hy⟩:∃y,y=aB l T:=⟨_,rfl⟩
              have hyb:0<=y/\y<=8004000:=by
               have h:=OK.out.bd F l T hl;rw [<- hy,hon3] at h;simp only [if_true] at h;have h2:=OK.out.lf hon3;have h3:cap*s3.t<=4000*2000:=Int.mul_le_mul hc2 (by have:=OK.out.tt.1;omega) (by omega) (by omega);omega
              obtain⟨v,hv⟩:∃v,v=y+nn:=⟨_,rfl⟩
              have ewv:IntKind.i64.wrap (y+nn)=v:=by rw [hv];exact IntWalk.i64_in _ (by omega)
              have ewT:IntKind.i64.wrap ((s.t:Int)+1)=(T:Int):=by rw [hT,ht3];exact IntWalk.i64_in _ (by omega)
              obtain⟨g,hg,hce,hro⟩:=E4.out.sn.get hl;have hcc:=hro.cell (k:=T) (by omega);rw [<- hy] at hcc;have c1:wc.cell? ⟨g1,1,none⟩=some (.slice (some ⟨gS,0,none⟩) i i):=by simpa using E4.out.r11.cell 1
              obtain⟨g6,o6,h6,h7⟩:=HE4.out.tr.2.2 (by omega);have xf:wc.cell? ⟨g0,o0+i0*3,none⟩=some (.int .i64 F):=by
               cases h6
               have:=h7.cell i0 0 x HX.out (by omega)
               rw [<- HFF.out];exact this
              have hgl:g0<wc.heap.size:=by cases h6;exact h7.lt
              have hne:g≠g1/\g≠gS/\g≠g0:=by
               obtain⟨a1,a2,a3,a4,a5,a6⟩:=E4.out.d;have:=a4 F g hg
               have:=(E4.out.tb g0 o0 (by omega) rfl).1
               omega
              have hlS:=E4.out.sn.tb.lt;have hlG:=hro.lt;have hfG:=hro.frozen T;have hTl:(T:Int)<l.length:=by omega
              have hFii:(F:Int)<i:=by omega
              have HT2:=aA hT;have HY:=aA hy;have HVV:=aA hv;have HLL:=aA hll;have HSL:=aA hl;have HG2:=aA hg;have HRO:=aA hro;have HNE2:=aA hne;clear hT hy hv hll hl hg hro h6 h7 hne d1 hlg HE4;refine wp_region_held_drew (S:=fun w'=>w'.cell? ⟨g1,1,none⟩=some (.slice (some ⟨gS,0,none⟩) i i)/\w'.cell? ⟨gS,F,none⟩=some (.slice (some ⟨g,0,none⟩) l.length (ticks+1))/\w'.cell? ⟨g0,o0+i0*3,none⟩=some (.int .i64 F)) (by kernel_rfl) ⟨c1,hce,xf⟩ (fun hH=>?_);have E4:=aA (show cK w.heap.size g1 gD gS gs gB M gcs (some ⟨g0,o0,none⟩) k c ps (ticks+1) i HR own w wc.drew s.t L s3 from E4.out.drewN hst.out 1);have c1:wc.drew.cell? ⟨g1,1,none⟩=some (.slice (some ⟨gS,0,none⟩) i i):=c1;have hce:wc.drew.cell? ⟨gS,F,none⟩=some (.slice (some ⟨g,0,none⟩) l.length (ticks+1)):=hce;have xf:wc.drew.cell? ⟨g0,o0+i0*3,none⟩=some (.int .i64 F):=xf;have hcc:wc.drew.cell? ⟨g,T,none⟩=some (.int .i64 y):=hcc;have hlG:g<wc.drew.heap.size:=hlG;have hfG:wc.drew.frozen? ⟨g,T,none⟩=false:=hfG;clear hgl hlS HRO;generalize hwd:wc.drew=wd at *;clear hwd;refine aO [0,1,2,3,4,5,6,7,8,9,10,11,13] ?_;(iterate 13 refine aK ?_);refine aP ?_;refine aJ 12 (fun K hK=>?_);go_simp
              refine aH hK (by exact⟨c1,hce,xf⟩) (fun hH=>?_);refine aO [14,15] ?_;(iterate 2 refine aK ?_);refine aP ?_;refine aJ 16 (fun K hK=>?_);go_simp
              have E5:=aA (E4.out.sent_ hst.out HG2.out HSL.out (k:=T) (by have:=HLL.out;have:=HT2.out;omega) v);have kk:=bG wd g T (.int .i64 v);have c1':(wd.setCell ⟨g,T,none⟩ (.int .i64 v)).cell? ⟨g1,1,none⟩=some (.slice (some ⟨gS,0,none⟩) i i):=by simpa using E5.out.r11.cell 1
              have hce':(wd.setCell ⟨g,T,none⟩ (.int .i64 v)).cell? ⟨gS,F,none⟩=some (.slice (some ⟨g,0,none⟩) l.length (ticks+1)):=by
               rw [<- hce];simp only [World.cell?,kk.block gS E4.out.sn.tb.lt (fun e=>HNE2.out.2.1 e.symm)]
              have xf':(wd.setCell ⟨g,T,none⟩ (.int .i64 v)).cell? ⟨g0,o0+i0*3,none⟩=some (.int .i64 F):=by
               have hlt:g0<wd.heap.size:=by
                obtain⟨a1,a2,a3,a4,a5,a6⟩:=E4.out.d;have:=(E4.out.tb g0 o0 (by omega) rfl).1
                have:=E4.out.r10.lt
                omega
               rw [<- xf];simp only [World.cell?,kk.block g0 hlt (fun e=>HNE2.out.2.2 e.symm)]
              clear c1 hce xf hcc hlG hfG kk hH E4;generalize wd.setCell ⟨g,T,none⟩ (.int .i64 v)=wv at *;refine aH hK (by exact⟨c1',hce',xf'⟩) (fun hH=>?_);clear c1' hce' xf';refine aT ?_;clear hH;have hst1:s3.t+1=T:=HT2.out.symm;have ES:=aA (show s3.sent.set F (l.set T v)=cM s3.sent x.fl.toNat (s3.t+1) nn by
               unfold cM;rw [HFF.out,HVV.out,HY.out,hst1];simp [List.getD,HSL.out])
              rw [ES.out] at E5;clear hst1 ES HT2 HY HVV HLL HSL HG2 HNE2 ewv ewT hTl hFii hyb;rcases HN4.out with e | ⟨e,hzl⟩
              ·subst e;have hzl:=hn3;obtain⟨d,hd⟩:∃d,d=L-nn:=⟨_,rfl⟩
               have hd0:0<=d:=by omega
               have ew:IntKind.i64.wrap (L-nn)=d:=by rw [hd];exact IntWalk.i64_in _ (by omega)
               have HD:=aA hd;clear hd;have MR4:=aA (aQ.fin s3 i0 x MR3.out hon3 (by rw [<- HL.out];exact hl3) HN3.out HX.out (by rw [HR3.out,<- HL.out];exact hzl));rw [HR3.out,<- HL.out,HD.out.symm] at MR4;obtain⟨bef5,he5⟩:=E5.out.se;have d1:wv.cell? ⟨gs,1,none⟩=some (.int .i64 L):=by simpa using he5.st.cell 1
               have hlg:=he5.st.lt;have hfg:=he5.st.frozen 1;have E6:=aA (E5.out.left_ hst.out d);clear he5 E5;go_upto_region 33 with fail
               generalize wv.setCell ⟨gs,1,none⟩ (.int .i64 d)=wu at *;clear d1 hlg hfg;have d2:wu.cell? ⟨g1,0,none⟩=some (.slice (some ⟨gD,0,none⟩) k k):=by simpa using E6.out.r11.cell 0
               have hl1:=E6.out.r11.lt;have hlD:=E6.out.dn.lt;have hfD:=E6.out.dn.frozen i0;have hik:(i0:Int)<k:=by have h1:=(OK.out.nw i0 HN3.out).2.2;have:=HT.out.1;omega
               have cD:=E6.out.dn.cell i0 (by show i0<s3.done.length;rw [OK.out.ld];have:=(OK.out.nw i0 HN3.out).2.2;omega);have E7:=aA ((E6.out.done_ hst.out i0 s3.t).same (s':={ s3 with now:=none,rest:=0,left:=d,sent:=cM s3.sent x.fl.toNat (s3.t+1) nn,done:=s3.done.set i0 s3.t }) rfl rfl rfl rfl);clear E6;go_wp2_with fail
               go_roundg d.toNat
               case measure=>have:=HLF.out;have:=HD.out;omega
               case rel=>
                exact⟨{ s3 with now:=none,rest:=0,left:=d,sent:=cM s3.sent x.fl.toNat (s3.t+1) nn,done:=s3.done.set i0 s3.t },hon3,ht3,by show d=_;omega,rfl,by show _=Value.int .i64 0;go_num,MR4,by rw [ht3] at E7;rw [ht3];exact E7⟩
              ·have e2:=e.symm;subst e2;obtain⟨d,hd⟩:∃d,d=z-L:=⟨_,rfl⟩
               have hd0:0<d:=by omega
               have ew:IntKind.i64.wrap (z-L)=d:=by rw [hd];exact IntWalk.i64_in _ (by omega)
               have HD:=aA hd;clear hd;have MR4:=aA (aQ.send s3 i0 x MR3.out hon3 (by rw [<- HL.out];exact hl3) HN3.out HX.out (by rw [HR3.out,<- HL.out];exact hzl));rw [HR3.out,<- HL.out,HD.out.symm] at MR4;obtain⟨bef5,he5⟩:=E5.out.se;have d1:wv.cell? ⟨gs,1,none⟩=some (.int .i64 L):=by simpa using he5.st.cell 1
               have hlg:=he5.st.lt;have hfg:=he5.st.frozen 1;have E7:=aA ((E5.out.left_ hst.out 0).same (s':={ s3 with rest:=d,left:=0,sent:=cM s3.sent x.fl.toNat (s3.t+1) L }) rfl rfl rfl rfl);clear he5 E5;have e0:IntKind.i64.wrap (L-L)=0:=by rw [Int.sub_self];rfl
               have hdn:¬d=0:=by omega
               go_wp2_with fail
               go_roundg 0
               case measure=>have:=HLF.out;omega
               case rel=>
                exact⟨{ s3 with rest:=d,left:=0,sent:=cM s3.sent x.fl.toNat (s3.t+1) L },hon3,ht3,rfl,by show _=Value.int .i64 (nJ s3.now);rw [HN3.out];rfl,rfl,MR4,E7⟩
           ·have hl0:s2.left=0:=by have:=OK.out.lf hon2;omega
            have hld:¬(0:Int)<s2.left:=by omega
            have MR3:=aA (aQ.close s2 MR.out hon2 hl);have E4:=aA (E.out.same (s':={ s2 with on:=false,t:=s2.t+1 }) rfl rfl rfl rfl);clear he;go_wp2_with fail
            go_roundg (go3-1)
            case measure=>omega
            case rel=>exact⟨{ s2 with on:=false,t:=s2.t+1 },_,_,by show s2.t+1+(go3-1)=ticks;omega,rfl,by rw [<- ht2];go_num,rfl,rfl,MR3,E4⟩
       ·have hte:s.t=ticks:=by omega
        have hti:¬(s.t:Int)<ticks:=by omega
        obtain⟨d0,d1⟩:_/\_:=⟨E.out.r10.cell 0,E.out.r10.cell 1⟩
        simp at d0 d1;obtain⟨z0,z1⟩:_/\_:=⟨E.out.r10.frozen 0,E.out.r10.frozen 1⟩
        have hl0:=E.out.r10.lt;have HTE:=aA hte;clear hte;go_wp2_with fail
        have kk:=(bG wr w.heap.size 0 (.slice (some ⟨gD,0,none⟩) k k)).trans (bG _ w.heap.size 1 (.slice (some ⟨gS,0,none⟩) j j));obtain⟨a1,a2,a3,a4,a5,a6⟩:=E.out.d;have rb:=(E.out.r10.set_ 0 (.slice (some ⟨gD,0,none⟩) k k)).set_ 1 (.slice (some ⟨gS,0,none⟩) j j);simp only [List.setIfInBounds_toArray,List.set_cons_zero,List.set_cons_succ] at rb;have hR:uR cap j k ps ticks Ch sg0 HR own w (.returned (.agg #[.slice (some ⟨gD,0,none⟩) k k,.slice (some ⟨gS,0,none⟩) j j])) ((wr.setCell ⟨w.heap.size,0,none⟩ (.slice (some ⟨gD,0,none⟩) k k)).setCell ⟨w.heap.size,1,none⟩ (.slice (some ⟨gS,0,none⟩) j j)):=
         ⟨s,gD,gS,gcs,MR.out,hon,HTE.out,rfl,E.out.dn.kx kk (by omega),E.out.sn.kx kk (by omega) (fun c g hg=>by have:=a4 c g hg;omega),by omega,by omega,fun c g hg=>by have:=a4 c g hg;omega,
          hst.out _ _ _ _ E.out.hr kk (fun q hq=>by have:=hlo.out q hq;omega),nD E.out.kx (Nat.le_refl _) kk⟩
        exact bodyPost_ret (v:=.agg #[.slice (some ⟨gD,0,none⟩) k k,.slice (some ⟨gS,0,none⟩) j j]) (by simp [results,Tryz.results85,go_sem,rb.cell]) rfl hR
end Go.Proofs.YtaejfleahamapaaGreat
