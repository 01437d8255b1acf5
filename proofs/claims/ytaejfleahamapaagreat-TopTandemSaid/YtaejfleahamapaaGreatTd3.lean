/- . -/
import Derived.Deep.RegionHeld
import Derived.KernelRfl
import Derived.BigRegion
import Derived.Test.YtaejfleahamapaaGreatTd2
namespace Go.Proofs.YtaejfleahamapaaGreat
set_option linter.unusedVariables false
set_option linter.unusedSimpArgs false
section
open Go
section
variable{P:Program}{md:Region.Mode}{ops:Array Oper}{Q:Exit->Act->World->Prop}{S:World->Prop}{i:Nat}{oi:Oper}{v:Value}{fuel:Nat}{listed:Array Bool}{a a':Act}{w:World}{is:List Nat}
def TK(P:Program)(md:Region.Mode)(ops:Array Oper)(Q:Exit->Act->World->Prop)(S:World->Prop)(is:List Nat)(fuel:Nat)(listed:Array Bool)(a:Act)(w:World):Prop:=wpAnyH P md ops Q S fuel listed a w
theorem aO(is:List Nat)(h:TK P md ops Q S is fuel listed a w):wpAnyH P md ops Q S fuel listed a w:=h
theorem aP(h:wpAnyH P md ops Q S fuel listed a w):TK P md ops Q S [] fuel listed a w:=h
theorem aK(h:TK P md ops Q S is fuel (listed.setIfInBounds i true) a' w)(hi:ops[i]?=some oi:=by simp only [fT,fU,fV];rfl)(hw:Region.wanted oi (yielded ops a.tmps)=true:=by rfl)
 (hy:∀w,S w->(execOp a.eval oi).run P w = .ok (.value v) w:=by intro w hSw;(try dsimp only at hSw);go_simp;try with_reducible rfl) (ha:a.put oi.dst v=a':=by(try simp only [Act.put]);(try simp only [dC,dD,dE]);rfl)
 (hs:Region.noSelect ops=true:=by kernel_rfl) (hf:Region.free md ops listed i=true:=by kernel_rfl) (hr:(Region.ready md ops listed).contains i=true:=by kernel_rfl)
 (hQ:∀c a w,Q (.panic c) (a.put oi.dst v) w->Q (.panic c) a w:=by exact fun _ _ _ h=>h) (hS:S w:=by first|assumption|trivial):TK P md ops Q S (i :: is) (fuel+1) listed a w:=
 wpAnyH_take hi hs hf hr hQ (.inl ⟨hw,hy⟩) hS (ha ▸ h)
theorem gU(h:TK P md ops Q S is fuel (listed.setIfInBounds i true) a' w)(hi:ops[i]?=some oi:=by simp only [fT,fU,fV];rfl)(hw:Region.wanted oi (yielded ops a.tmps)=false:=by rfl)
 (ha:a.put oi.dst undef=a':=by(try simp only [Act.put]);(try simp only [dC,dD,dE]);rfl)
 (hs:Region.noSelect ops=true:=by kernel_rfl) (hf:Region.free md ops listed i=true:=by kernel_rfl) (hr:(Region.ready md ops listed).contains i=true:=by kernel_rfl)
 (hQ:∀c a w,Q (.panic c) (a.put oi.dst undef) w->Q (.panic c) a w:=by exact fun _ _ _ h=>h) (hS:S w:=by first|assumption|trivial):TK P md ops Q S (i :: is) (fuel+1) listed a w:=
 wpAnyH_take hi hs hf hr hQ (.inr ⟨hw,rfl⟩) hS (ha ▸ h)
theorem bD(i:Nat){oi:Oper}(h:wpAnyH P md ops Q S fuel (listed.setIfInBounds i true) a' w)(hi:ops[i]?=some oi:=by simp only [fT,fU,fV];rfl)(hw:Region.wanted oi (yielded ops a.tmps)=true:=by rfl)
 (hy:∀w,S w->(execOp a.eval oi).run P w = .ok (.value v) w:=by intro w hSw;(try dsimp only at hSw);go_simp;try with_reducible rfl) (ha:a.put oi.dst v=a':=by(try simp only [Act.put]);(try simp only [dC,dD,dE]);rfl)
 (hs:Region.noSelect ops=true:=by kernel_rfl) (hf:Region.free md ops listed i=true:=by kernel_rfl) (hr:(Region.ready md ops listed).contains i=true:=by kernel_rfl)
 (hQ:∀c a w,Q (.panic c) (a.put oi.dst v) w->Q (.panic c) a w:=by exact fun _ _ _ h=>h) (hS:S w:=by first|assumption|trivial):wpAnyH P md ops Q S (fuel+1) listed a w:=
 wpAnyH_take hi hs hf hr hQ (.inl ⟨hw,hy⟩) hS (ha ▸ h)
theorem dA(i:Nat){oi:Oper}(h:∀K':Act->World->Prop,Shut (∀a w,S w->(S w->wpAnyH P md ops Q S fuel (listed.setIfInBounds i true) a w)->K' a w)->if Region.wanted oi (yielded ops a.tmps)=true then Oper.wp P oi a w K' Q else K' (a.put oi.dst undef) w)
 (hi:ops[i]?=some oi:=by simp only [fT,fU,fV];rfl) (hr:Region.ready md ops listed = [i]:=by kernel_rfl):wpAnyH P md ops Q S (fuel+1) listed a w:=
 wpAnyH_ready hr (by simp) (AllReadyH.cons hi h AllReadyH.nil)
theorem aJ(i:Nat){oi:Oper}(h:∀K':Act->World->Prop,Shut (∀a w,S w->(S w->wpAnyH P md ops Q S fuel (listed.setIfInBounds i true) a w)->K' a w)->Oper.wp P oi a w K' Q)
 (hi:ops[i]?=some oi:=by simp only [fT,fU,fV];rfl) (hr:Region.ready md ops listed = [i]:=by kernel_rfl) (hw:Region.wanted oi (yielded ops a.tmps)=true:=by rfl):wpAnyH P md ops Q S (fuel+1) listed a w:=
 wpAnyH_ready hr (by simp) (AllReadyH.cons hi (fun K' hK=>by rw [if_pos hw];exact h K' hK) AllReadyH.nil)
theorem eS(i j:Nat){oi oj:Oper}(h:∀K':Act->World->Prop,Shut (∀a w,S w->(S w->wpAnyH P md ops Q S fuel (listed.setIfInBounds i true) a w)->K' a w)->if Region.wanted oi (yielded ops a.tmps)=true then Oper.wp P oi a w K' Q else K' (a.put oi.dst undef) w)
 (h2:∀K':Act->World->Prop,Shut (∀a w,S w->(S w->wpAnyH P md ops Q S fuel (listed.setIfInBounds j true) a w)->K' a w)->if Region.wanted oj (yielded ops a.tmps)=true then Oper.wp P oj a w K' Q else K' (a.put oj.dst undef) w)
 (hi:ops[i]?=some oi:=by simp only [fT,fU,fV];rfl) (hj:ops[j]?=some oj:=by simp only [fT,fU,fV];rfl) (hr:Region.ready md ops listed = [i,j]:=by kernel_rfl):wpAnyH P md ops Q S (fuel+1) listed a w:=
 wpAnyH_ready hr (by simp) (AllReadyH.cons hi h (AllReadyH.cons hj h2 AllReadyH.nil))
theorem aT(h:Q .normal a w)(hr:Region.ready md ops listed = []:=by kernel_rfl):wpAnyH P md ops Q S fuel listed a w:=wpAnyH_done hr h _
theorem aH{R K:Act->World->Prop}(hK:Shut (∀a w,S w->(S w->R a w)->K a w))(hS:S w)(h:S w->R a' w)(ha:a=a':=by(try simp only [Act.put]);(try simp only [dC,dD,dE]);rfl):K a w:=
 hK.out _ _ hS (fun hs=>ha ▸ h hs)
end
end
end Go.Proofs.YtaejfleahamapaaGreat
