/- Through two lines of any kinds, with other traffic at both, a packet is sent by the second line at the latest when the convolution of the hop curve of the first line and the curve of the second one says. No condition. -/
import Derived.Test.YtaejfleahamapaaGreatRows
import Derived.ProofKit
import Derived.OpenShut
import Derived.ShutString
import Derived.ChangeOld
import Derived.Below
import Derived.Test.YtaejfleahamapaaGreatTd51
namespace Go.Proofs.YtaejfleahamapaaGreat.topTandem
open Go.ChangeShapes Go.WideShapes Go.ChangeAt Go.RowKit
open Go.ChangeMaps (open_string shut_string)
set_option linter.unusedVariables false
theorem own:ownKnob Tryz.prog.godebug=none:=by kernel_rfl
theorem Y5:laidOutB Tryz.prog=true:=by kernel_rfl
def rS(k:IntKind)(w:World)(a:Option Addr)(len cap:Nat)(zs:List Int):Prop:=
 (a=none/\len=0/\cap=0/\zs = [])\/
 ∃x,a=some x/\len<=cap/\cap<=maxLen/\zs.length=cap/\(∀i,i<zs.length->w.cell? (x.add i)=some (.int k (zs.getD i 0)))/\∀n∈zs,(Lit.int k n).wf=true
theorem X9{w:World}{a:Option Addr}{len cap:Nat}{zs:List Int}(h:rS .i64 w a len cap zs):aE w w.heap.size a len (zs.take len)/\len<=cap/\(len:Int)<=9223372036854775807:=by
 rcases h with ⟨rfl,rfl,rfl,rfl⟩|⟨x,rfl,h1,h2,h3,h4,_⟩
 ·exact⟨aE.none_,Nat.le_refl _,by omega⟩
 ·refine⟨⟨by simp;omega,fun hn=>?_⟩,h1,by unfold maxLen at h2;omega⟩
  have h0:=h4 0 (by omega);have hx:x.add 0=x:=by simp [Addr.add]
  rw [hx] at h0;obtain⟨b,off,spot⟩:=x;have hs:spot=none:=by
   cases spot with
   | none=>rfl
   | some s=>exfalso;unfold World.cell? at h0;split at h0 <;> simp at h0
  subst hs;refine⟨b,off,rfl,World.block_lt_of_cell? w _ h0,fun j hj=>?_⟩
  have hj':=h4 j (by omega);rw [oZ _ _ _ hj];have hadd:(Addr.add ⟨b,off,none⟩ j)=⟨b,off+j,none⟩:=by
   unfold Addr.add;split
   ·rename_i h;subst h;rfl
   ·rfl
  rw [hadd] at hj';exact hj'
theorem a5k(a0:Option Addr)(len0 cap0:Nat)(z0:List Int)(w:World)(w0:rS .i64 w a0 len0 cap0 z0) :
 Calls Tryz.prog 6 #[.slice a0 len0 cap0] w fun e w'=>e = .returned (.bool true)/\Below w.heap.size w w':=by
 obtain⟨h0a,h0b,h0c⟩:=X9 w0;exact a42 a0 len0 cap0 _ w h0a h0b h0c
set_option maxRecDepth 100000 in
theorem Z9(os:Os)(started:os.Started)(H:Type)(enc:TypeId × Value->H) :
 ReturnsInHanded {} Tryz.checked os 6 .any (Rows.topTandemSpec.pre6 enc Tryz.prog Tryz.f6 Rows.topTandemRow.domain false) (Rows.topTandemSpec.post enc Tryz.prog Tryz.f6 false true false false):=by
 refine returnsInHanded_of_change (C:=Tryz.checked) own started (by kernel_rfl) Tryz.func6
  (ChangeSpec.witness6 (enc:=enc) (C:=Tryz.checked) false ⟨#[],#[.slice none 0 0],[]⟩ 8 (by kernel_rfl) (by kernel_rfl) (by kernel_rfl) (by kernel_rfl)) ?_
 intro W base args ds gs before hval0 hW hcnd _;have hval:∀(j:Nat) t v,Tryz.f6.params[j]?=some t->args[j]?=some v->Value.okWide Tryz.prog W .any base t v:=hval0;have hW':=hW;obtain⟨p,q,hA0,hV,rfl,hfz,hnd⟩:=hW;have hA:DataW.TrodAll enc Tryz.prog W 0 (fun _=>true) true Tryz.f6.params.toList args.toList ds p:=hA0;rw [Tryz.params6] at hA hval;obtain⟨v0,vs0,d0,ds0,p0,q0,hargs,rfl,rfl,h0,r0⟩:=trodAll_cons hA;obtain⟨rfl,rfl,rfl⟩:=trodAll_nil r0;obtain rfl:args=#[v0]:=by cases args;simp_all
 obtain⟨rfl,rfl⟩:=trodVars_none hV;obtain⟨a0,len0,cap0,rfl⟩:=okWide_slice Tryz.underlying22 (hval 0 22 v0 rfl rfl);have k0:=h0;have lt0:∀x∈p0,x.block<W.heap.size:=by obtain⟨m,hm⟩:=k0;exact DataW.trod_lt m _ _ _ hm
 obtain⟨z0,w0⟩:∃zs,rS .i64 W a0 len0 cap0 zs:=by
  obtain⟨fuel,hf⟩:=h0;rcases open_ints Tryz.underlying22 Tryz.underlying3 (by kernel_rfl) hf with ⟨hcs,_⟩|⟨x,l,c,zs,hcs,_,hl,hm,hz,_,hcell,hwz⟩
  ·simp [Value.cells] at hcs
   obtain⟨rfl,rfl,rfl⟩:=hcs;exact⟨[],.inl ⟨rfl,rfl,rfl,rfl⟩⟩
  ·simp [Value.cells] at hcs
   obtain⟨rfl,rfl,rfl⟩:=hcs;exact⟨zs,.inr ⟨_,rfl,hl,hm,by simpa using hz,hcell,hwz⟩⟩
 clear hA0 hval0;refine(a5k a0 len0 cap0 z0 W w0).mono fun e W' ⟨he,bel⟩=>?_
 subst he;exact⟨_,rfl,_,_,_,[],_,[],hW',trodAll_mk1 (shut_bool Tryz.underlying4 _),(trodAll_cons_mk (Below.trod Y5 (by kernel_rfl) (of_decide_eq_true (by kernel_rfl)) k0 bel lt0) trodAll_mk0),rfl,bel.frame _,fun h=>by cases h⟩
theorem jA:(Rows.topTandemRow.inPlace == Tryz.pinned.checked.prog.inPlace 6)=true:=by kernel_rfl
theorem jB:(Rows.topTandemRow.unfollowed == Tryz.pinned.checked.prog.unfollowed 6)=true:=by kernel_rfl
theorem jC:(Rows.topTandemRow.recurses == Tryz.pinned.checked.prog.recurses 6)=true:=by kernel_rfl
theorem jD:(Rows.topTandemRow.named == Tryz.pinned.checked.prog.varsNamed 6)=true:=by kernel_rfl
theorem Y3:joinedFacts Tryz.pinned.checked.prog 6 Tryz.f6 Rows.topTandemSpec Rows.topTandemRow=true:=by
 unfold joinedFacts;rw [jA,jB,jC,jD]
 kernel_rfl
theorem over:Rows.topTandemRow.holds Tryz.pinned (OpenSpec.ofChange Rows.topTandemSpec):=
 OpenClaim.holds_of_wide 6 Tryz.f6 rfl rfl rfl rfl rfl rfl rfl ⟨rfl,rfl,rfl,rfl,rfl⟩ rfl rfl rfl rfl rfl (by kernel_rfl) Tryz.func6 Y3
  (of_decide_eq_true (by kernel_rfl)) (by unfold Func.isWrapper;first|(rw [if_pos (by decide +kernel)];kernel_rfl)|(rw [if_neg (by decide +kernel)];exact⟨rfl,rfl⟩))
  (fun os started H enc _=>Z9 os started H enc)
theorem proved:Rows.TopTandemSaid:=over
end Go.Proofs.YtaejfleahamapaaGreat.topTandem
