/- . -/
import Derived.Test.YtaejfleahamapaaGreatTd4
import Derived.Test.YtaejfleahamapaaGreatTd3
namespace Go.Proofs.YtaejfleahamapaaGreat
set_option linter.unusedVariables false
set_option linter.unusedSimpArgs false
section
open Go
section
variable{P:Program}{md:Region.Mode}{ops:Array Oper}{Q:Exit->Act->World->Prop}{F G:World->Prop}{m:Nat}{v:Value}{fuel:Nat}{listed:Array Bool}{a a':Act}{w:World}
theorem gK(i:Nat){oi:Oper}(h:fG P md ops Q F G m fuel (listed.setIfInBounds i true) a' w)(hi:ops[i]?=some oi:=by simp only [fT,fU,fV];rfl)(hw:Region.wanted oi (yielded ops a.tmps)=true:=by rfl)
 (hy:∀w,F w->(execOp a.eval oi).run P w = .ok (.value v) w:=by intro w hSw;(try dsimp only at hSw);go_simp;try with_reducible rfl) (ha:a.put oi.dst v=a':=by(try simp only [Act.put]);(try simp only [dC,dD,dE]);rfl)
 (hs:Region.noSelect ops=true:=by kernel_rfl) (hf:Region.free md ops listed i=true:=by kernel_rfl) (hr:(Region.ready md ops listed).contains i=true:=by kernel_rfl) (him:(i == m)=false:=by rfl)
 (hQ:∀c a w,Q (.panic c) (a.put oi.dst v) w->Q (.panic c) a w:=by exact fun _ _ _ h=>h) (hS:HT F G m listed w:=by first|exact⟨by assumption,fun _=>by assumption⟩|exact⟨by assumption,fun h=>Bool.noConfusion (show true=false from h)⟩):fG P md ops Q F G m (fuel+1) listed a w:=
 a5m hi hs hf hr him hQ (.inl ⟨hw,hy⟩) hS (fun _=>ha ▸ h)
theorem ttG(i:Nat){oi:Oper}(h:fG P md ops Q F G m fuel (listed.setIfInBounds i true) a' w)(hi:ops[i]?=some oi:=by simp only [fT,fU,fV];rfl)(hw:Region.wanted oi (yielded ops a.tmps)=true:=by rfl)
 (hy:∀w,F w/\G w->(execOp a.eval oi).run P w = .ok (.value v) w:=by intro w hSw;(try dsimp only at hSw);go_simp;try with_reducible rfl) (ha:a.put oi.dst v=a':=by(try simp only [Act.put]);(try simp only [dC,dD,dE]);rfl)
 (hs:Region.noSelect ops=true:=by kernel_rfl) (hf:Region.free md ops listed i=true:=by kernel_rfl) (hr:(Region.ready md ops listed).contains i=true:=by kernel_rfl) (him:(i == m)=false:=by rfl) (hwf:rN md ops m i=true:=by kernel_rfl) (hm:listed.getD m true=false:=by kernel_rfl)
 (hQ:∀c a w,Q (.panic c) (a.put oi.dst v) w->Q (.panic c) a w:=by exact fun _ _ _ h=>h) (hS:HT F G m listed w:=by exact⟨by assumption,fun _=>by assumption⟩):fG P md ops Q F G m (fuel+1) listed a w:=
 a5n hi hs hf hr him hwf hm hQ (.inl ⟨hw,hy⟩) hS (fun _=>ha ▸ h)
theorem kA(i:Nat){oi:Oper}(h:∀K':Act->World->Prop,Shut (∀a w,HT F G m (listed.setIfInBounds i true) w->(HT F G m (listed.setIfInBounds i true) w->fG P md ops Q F G m fuel (listed.setIfInBounds i true) a w)->K' a w)->if Region.wanted oi (yielded ops a.tmps)=true then Oper.wp P oi a w K' Q else K' (a.put oi.dst undef) w)
 (hi:ops[i]?=some oi:=by simp only [fT,fU,fV];rfl) (hr:Region.ready md ops listed = [i]:=by kernel_rfl):fG P md ops Q F G m (fuel+1) listed a w:=
 uH hr (by simp) (gV.cons hi h gV.nil)
end
end
end Go.Proofs.YtaejfleahamapaaGreat
