/- . -/
import Derived.OrdersHeld
import Derived.Deep.RegionHeld
namespace Go.Proofs.YtaejfleahamapaaGreat
set_option linter.unusedVariables false
set_option linter.unusedSimpArgs false
section
open Go
section
variable{P:Program}{ops:Array Oper}{Q:Exit->Act->World->Prop}{md:Region.Mode}{F G:World->Prop}{m:Nat}
def HT(F G:World->Prop)(m:Nat)(listed:Array Bool)(w:World):Prop:=F w/\(listed.getD m true=false->G w)
def fG(P:Program)(md:Region.Mode)(ops:Array Oper)(Q:Exit->Act->World->Prop)(F G:World->Prop)(m:Nat):Nat->Array Bool->Act->World->Prop
 | 0,listed,a,w=>Region.ready md ops listed = []/\Q .normal a w
 | fuel+1,listed,a,w=>
   (Region.ready md ops listed = []->Q .normal a w)/\
   ∀i∈Region.ready md ops listed,wpOp P ops Q i (fun a' w'=>HT F G m (listed.setIfInBounds i true) w'/\fG P md ops Q F G m fuel (listed.setIfInBounds i true) a' w') a w
theorem zY:∀(fuel:Nat) (listed:Array Bool) (a:Act) (w:World),fG P md ops Q F G m fuel listed a w->wpAny P md ops Q fuel listed a w
 | 0,_,_,_,h=>h
 | fuel+1,_,_,_,h=>⟨h.1,fun i hi=>wpOp_mono (fun a' w' h'=>zY fuel _ a' w' h'.2) (h.2 i hi)⟩
theorem oP{listed:Array Bool}{i j:Nat}(h:i≠j):(listed.setIfInBounds i true).getD j true=listed.getD j true:=by
 rw [getD_set_ne true h]
theorem zX{i:Nat}{oi:Oper}{v:Value}(b:Bool)(hi:ops[i]?=some oi)(hsel:∀(j:Nat) (o:Oper) cs b,ops[j]?=some o->o.op≠.select cs b)
 (hQ:∀c a w,Q (.panic c) (a.put oi.dst v) w->Q (.panic c) a w) (him:i≠m) (hdep:b=true->∀om,ops[m]?=some om->∃e∈om.after,Region.binds md e=true/\e.on=i) :
 ∀(fuel:Nat) (listed:Array Bool) (a:Act) (w:World),
  (b=true->listed.getD m true=false)->
  (∀j oj,ops[j]?=some oj->j≠i->listed.getD j true=false->(∀e∈oj.after,Region.binds md e=true->e.on≠i)->oi.apart ops oj=true)->
  i∈Region.ready md ops listed->YieldsIf P ops (fun w=>F w/\(b=true->G w)) oi v a->HT F G m listed w->
  fG P md ops Q F G m fuel (listed.setIfInBounds i true) (a.put oi.dst v) w->fG P md ops Q F G m (fuel+1) listed a w:=by
 intro fuel;have same:∀(listed:Array Bool) w,HT F G m listed w->HT F G m (listed.setIfInBounds i true) w:=fun listed w h=>⟨h.1,fun h'=>h.2 (by rw [<- oP him];exact h')⟩
 have back:∀(listed:Array Bool) w,HT F G m (listed.setIfInBounds i true) w->HT F G m listed w:=fun listed w h=>⟨h.1,fun h'=>h.2 (by rw [oP him];exact h')⟩
 induction fuel with
 | zero=>
   intro listed a w hm _ hr hy hS H;refine⟨fun h=>(by rw [h] at hr;cases hr),fun j hj=>?_⟩
   by_cases hji:j=i
   ·subst hji;exact hy.wpOp hi ⟨hS.1,fun hb=>hS.2 (hm hb)⟩ ⟨same _ _ hS,H⟩
   ·have:=ready_mono hj hji
    rw [H.1] at this;cases this
 | succ fuel ih=>
   intro listed a w hm hfree hr hy hS H;refine⟨fun h=>(by rw [h] at hr;cases hr),fun j hj=>?_⟩
   by_cases hji:j=i
   ·subst hji;exact hy.wpOp hi ⟨hS.1,fun hb=>hS.2 (hm hb)⟩ ⟨same _ _ hS,H⟩
   ·have h1:=H.2 j (ready_mono hj hji);obtain⟨hjun,oj,hoj,hall⟩:=mem_ready.1 hj;have hnot:∀e∈oj.after,Region.binds md e=true->e.on≠i:=fun e he hb heq=>by
     have h1:=hall e he hb;have h0:=(mem_ready.1 hr).1;rw [heq] at h1;rcases Nat.lt_or_ge i listed.size with h'|h'
     ·simp [h'] at h0 h1;rw [h0] at h1;cases h1
     ·simp [Array.getElem?_eq_none h'] at h1
    have h2:=wpOp_putIf hoj (hfree j oj hoj hji hjun hnot) (fun cs b=>hsel i oi cs b hi) (fun cs b=>hsel j oj cs b hoj) hQ hy h1;have hfree':∀k ok,ops[k]?=some ok->k≠i->(listed.setIfInBounds j true).getD k true=false->
     (∀e∈ok.after,Region.binds md e=true->e.on≠i)->oi.apart ops ok=true:=fun k ok hk hki hun hno=>by
     refine hfree k ok hk hki ?_ hno;by_cases hjk:j=k
     ·subst hjk;exact hjun
     ·rw [getD_set_ne true hjk] at hun;exact hun
    have hm':b=true->(listed.setIfInBounds j true).getD m true=false:=fun hb=>by
     by_cases hjm:j=m
     ·subst hjm;obtain⟨e,he,h3,h4⟩:=hdep hb oj hoj;exact absurd h4 (hnot e he h3)
     ·rw [oP hjm];exact hm hb
    refine wpOp_mono (fun a' w' h3=>?_) h2;have hS':HT F G m (listed.setIfInBounds j true) w':=by
     have h4:=h3.2.1;rw [Array.setIfInBounds_comm _ _ (Ne.symm hji)] at h4;exact back _ _ h4
    refine⟨hS',ih (listed.setIfInBounds j true) a' w' hm' hfree' (ready_mono hr (Ne.symm hji)) h3.1 hS' ?_⟩
    rw [Array.setIfInBounds_comm _ _ hji];exact h3.2.2
def rN(md:Region.Mode)(ops:Array Oper)(m i:Nat):Bool:=match ops[m]? with
 | none=>false
 | some om=>om.after.any fun e=>Region.binds md e && e.on == i
theorem a5j{i:Nat}(h:rN md ops m i=true):∀om,ops[m]?=some om->∃e∈om.after,Region.binds md e=true/\e.on=i:=by
 intro om ho;unfold rN at h;rw [ho] at h;obtain⟨e,he,hb⟩:=Array.any_eq_true'.1 h;simp only [Bool.and_eq_true,beq_iff_eq] at hb;exact⟨e,he,hb.1,hb.2⟩
theorem a5m{i:Nat}{oi:Oper}{v:Value}{fuel:Nat}{listed:Array Bool}{a:Act}{w:World}(hi:ops[i]?=some oi)
 (hs:Region.noSelect ops=true) (hf:Region.free md ops listed i=true) (hr:(Region.ready md ops listed).contains i=true) (him:(i == m)=false)
 (hQ:∀c a w,Q (.panic c) (a.put oi.dst v) w->Q (.panic c) a w) (hy:YieldsIf P ops F oi v a) (hS:HT F G m listed w)
 (h:HT F G m (listed.setIfInBounds i true) w->fG P md ops Q F G m fuel (listed.setIfInBounds i true) (a.put oi.dst v) w):fG P md ops Q F G m (fuel+1) listed a w:=
 have him':i≠m:=by simpa using him
 zX false hi (Region.noSelect_spec hs) hQ him' (fun h=>by cases h) fuel listed a w (fun h=>by cases h) (Region.free_spec hi hf) (by simpa using hr)
  (by rcases hy with ⟨h1,h2⟩|⟨h1,h2⟩
      ·exact .inl ⟨h1,fun w h=>h2 w h.1⟩
      ·exact .inr ⟨h1,h2⟩) hS (h ⟨hS.1,fun h'=>hS.2 (by rw [<- oP him'];exact h')⟩)
theorem a5n{i:Nat}{oi:Oper}{v:Value}{fuel:Nat}{listed:Array Bool}{a:Act}{w:World}(hi:ops[i]?=some oi)
 (hs:Region.noSelect ops=true) (hf:Region.free md ops listed i=true) (hr:(Region.ready md ops listed).contains i=true) (him:(i == m)=false) (hw:rN md ops m i=true) (hm:listed.getD m true=false)
 (hQ:∀c a w,Q (.panic c) (a.put oi.dst v) w->Q (.panic c) a w) (hy:YieldsIf P ops (fun w=>F w/\G w) oi v a) (hS:HT F G m listed w)
 (h:HT F G m (listed.setIfInBounds i true) w->fG P md ops Q F G m fuel (listed.setIfInBounds i true) (a.put oi.dst v) w):fG P md ops Q F G m (fuel+1) listed a w:=
 have him':i≠m:=by simpa using him
 zX true hi (Region.noSelect_spec hs) hQ him' (fun _=>a5j hw) fuel listed a w (fun _=>hm) (Region.free_spec hi hf) (by simpa using hr)
  (by rcases hy with ⟨h1,h2⟩|⟨h1,h2⟩
      ·exact .inl ⟨h1,fun w h=>h2 w ⟨h.1,h.2 rfl⟩⟩
      ·exact .inr ⟨h1,h2⟩) hS (h ⟨hS.1,fun h'=>hS.2 (by rw [<- oP him'];exact h')⟩)
def gV(P:Program)(md:Region.Mode)(ops:Array Oper)(Q:Exit->Act->World->Prop)(F G:World->Prop)(m:Nat)(fuel:Nat)(listed:Array Bool)(a:Act)(w:World)(rs:List Nat):Prop:=
 ∀i∈rs,wpOp P ops Q i (fun a' w'=>HT F G m (listed.setIfInBounds i true) w'/\fG P md ops Q F G m fuel (listed.setIfInBounds i true) a' w') a w
theorem gV.nil{fuel:Nat}{listed:Array Bool}{a:Act}{w:World}:gV P md ops Q F G m fuel listed a w []:=fun _ h=>by cases h
theorem gV.cons{fuel:Nat}{listed:Array Bool}{a:Act}{w:World}{i:Nat}{o:Oper}{rs:List Nat}(ho:ops[i]?=some o)
 (h:∀K':Act->World->Prop,Shut (∀a w,HT F G m (listed.setIfInBounds i true) w->(HT F G m (listed.setIfInBounds i true) w->fG P md ops Q F G m fuel (listed.setIfInBounds i true) a w)->K' a w)->if Region.wanted o (yielded ops a.tmps)=true then Oper.wp P o a w K' Q else K' (a.put o.dst undef) w)
 (hs:gV P md ops Q F G m fuel listed a w rs):gV P md ops Q F G m fuel listed a w (i :: rs):=fun j hj=>by
 rcases List.mem_cons.1 hj with rfl|hj
 ·exact wpOp_step ho (fun K' hK=>h K' (fun a w hS hW=>hK a w ⟨hS,hW hS⟩))
 ·exact hs j hj
theorem uH{rs:List Nat}{fuel:Nat}{listed:Array Bool}{a:Act}{w:World}(hr:Region.ready md ops listed=rs)(hne:rs≠[])
 (h:gV P md ops Q F G m fuel listed a w rs):fG P md ops Q F G m (fuel+1) listed a w:=⟨fun h0=>absurd (hr ▸ h0) hne,hr ▸ h⟩
theorem uG{listed:Array Bool}{a:Act}{w:World}(hr:Region.ready md ops listed = [])(h:Q .normal a w):∀fuel,fG P md ops Q F G m fuel listed a w
 | 0=>⟨hr,h⟩
 | _+1=>⟨fun _=>h,by rw [hr];simp⟩
theorem a5o{id:Nat}{a:Act}{w:World}(F G:World->Prop)(m:Nat)(hm:P.follows .mixedOrders=true)(hF:F w.drew)(hG:G w.drew)
 (h:HT F G m (Array.replicate ops.size false) w.drew->fG P .any ops Q F G m ops.size (Array.replicate ops.size false) a w.drew):(Code.region id ops true).wp P Q a w:=
 wp_region_any hm (zY _ _ _ _ (h ⟨hF,fun _=>hG⟩))
end
end
end Go.Proofs.YtaejfleahamapaaGreat
