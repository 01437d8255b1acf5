/- . -/
import Derived.Deep.RegionLaw
import Derived.Deep.RegionWith
import Derived.Test.YtaejfleahamapaaGreatTd20
namespace Go.Proofs.YtaejfleahamapaaGreat
set_option linter.unusedVariables false
set_option linter.unusedSimpArgs false
open Go.RowKit
def eE(f:Cv)(c:Int)(ps:List PK):Prop:=∀a b:Nat,a<=b->aV c ps b-aV c ps a<=f.at (b-a)
theorem vB{c:Int}(h0:0<=c)(x:PK)(t:Int):∀(ks:List PK),aV c (ks ++ [x]) t=aV c ks t+(if x.fl=c/\x.tm<t then x.sz else 0)
 | []=>by rw [List.nil_append,jN h0];simp [aV,aX,eY]
 | y :: ks=>by rw [List.cons_append,jN h0,jN h0,vB h0 x t ks];omega
section
variable{f:Cv}{c:Int}{ps ks:List PK}{i:Nat}
end
end Go.Proofs.YtaejfleahamapaaGreat
