/- The delay that a line of any kind promises holds (plain). -/
import Derived.Test.YtaejfleahamapaaGreatPp33
import Derived.Test.YtaejfleahamapaaGreatPp37
namespace Go.Proofs.YtaejfleahamapaaGreat
set_option linter.unusedVariables false
set_option linter.unusedSimpArgs false
section
open Go.RowKit
theorem MsS.imp{S T:Cv→Int→Prop}{al:Cv}{i:Bool}{v A er:Int}(h:MsS S al i v A er)(k:∀f e,S f e→T f e):MsS T al i v A er:=by
 obtain⟨f,e,hS,r⟩:=h;exact⟨f,e,k _ _ hS,r⟩
theorem z2_zs2:Z2 zs2:=by
 refine⟨rfl,fun x hx=>?_,fun j hj=>?_⟩
 ·simp [zs2] at hx
  subst hx;unfold SZ.Good;decide
 ·rcases (show j=0∨j=1 by omega) with rfl|rfl
  ·decide
  ·decide
theorem dlK{w:World}{B:Nat}{k cap:Int}{AW AS:Option Addr}{nW cW nS cS:Nat}{ws tb:List Int}{ps:List PK}{done:List Int}{sent:List (List Int)}{c:Nat}{al f0 f1:Cv}{i:Bool}{v A er:Int}
 (h:LnO w B k cap AW AS nW cW nS cS ws tb) (hv:Valid ps) (hfl:∀x∈ps,x.fl<2) (hsz:∀x∈ps,5≤x.sz∧x.sz≤20) (o0:f0.Fin) (o1:f1.Fin) (a0:AvS f0 (0:Nat) ps) (a1:AvS f1 (1:Nat) ps) (hc2:c<2) (hal:al.Fin) (ha:AvS al c ps)
 (hr:RunK k cap ws tb ps 200 done sent) (hd:DlK k cap ws tb c [f0,f1] zs2 al i v A er):DlG ps done c i v er:=by
 have hc:=h.c1;rcases hr with ⟨rfl,hr⟩|⟨rfl,hr⟩|⟨rfl,hr⟩|⟨rfl,hr⟩|⟨rfl,hr⟩
 ·rcases hd with ⟨_,hd⟩|⟨hd,_⟩
  ·exact dl1 hv hfl (by omega) (by omega) o0 o1 a0 a1 hc2 hr hd
  ·exact absurd rfl hd
 all_goals
  rcases hd with ⟨hd,_⟩|⟨_,hd⟩
  ·omega
 ·exact dl2 hv hfl (by omega) (by omega) o0 a0 hsz hc2 hal ha hr (hd.imp (fun f e h=>by
   rcases h with ⟨_,h⟩|⟨h,_⟩|⟨h,_⟩|⟨h,_⟩
   ·exact h
   all_goals omega))
 ·obtain⟨_,_,_,⟨a,b,rfl,a1,a2,b1,b2⟩,_⟩:=h.h3 rfl;exact dl3 (ws:=[a,b]) hv hfl hsz (by omega) hc2 hal ha rfl (by show 1≤a;omega) (by show 1≤b;omega) hr (hd.imp (fun f e h=>by
   rcases h with ⟨h,_⟩|⟨_,h⟩|⟨h,_⟩|⟨h,_⟩
   ·omega
   ·exact h
   all_goals omega))
 ·obtain⟨_,_,_,⟨a,b,rfl,a1,a2,b1,b2⟩,_⟩:=h.h4 rfl;exact dl4 (ws:=[a,b]) hv hfl hsz (by omega) hc2 hal ha rfl (by show 1≤a;omega) (by show 1≤b;omega) hr (hd.imp (fun f e h=>by
   rcases h with ⟨h,_⟩|⟨h,_⟩|⟨_,h⟩|⟨h,_⟩
   ·omega
   ·omega
   ·exact h
   ·omega))
 ·obtain⟨_,_,_,⟨q,rfl,_⟩,_⟩:=h.h5 rfl;exact dl5 (tb:=[0,0,1,q]) hv hfl hsz (by omega) hc2 hal ha (by show 1≤4;omega) hr (hd.imp (fun f e h=>by
   rcases h with ⟨h,_⟩|⟨h,_⟩|⟨h,_⟩|⟨_,h⟩
   ·omega
   ·omega
   ·omega
   ·exact h))
end
end Go.Proofs.YtaejfleahamapaaGreat
