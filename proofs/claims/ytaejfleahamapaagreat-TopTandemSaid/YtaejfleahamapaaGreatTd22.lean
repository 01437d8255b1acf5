/- . -/
import Derived.Deep.LoopGhost
import Derived.Test.YtaejfleahamapaaGreatTd13
namespace Go.Proofs.YtaejfleahamapaaGreat
set_option linter.unusedVariables false
set_option linter.unusedSimpArgs false
set_option maxHeartbeats 1000000
open Go.RowKit
def D1(Q:Prop)(I:Int->Int->Prop)(w:World)(e:Ending)(w':World):Prop:=
 (Q/\e = .returned (.agg #[.bool true,.int .i64 0,.int .i64 0])/\Below w.heap.size w w')\/(∃v A,I v A/\e = .returned (.agg #[.bool false,.int .i64 v,.int .i64 A])/\Below w.heap.size w w')
def uP(R:Int->Bool->Prop)(w:World)(e:Ending)(w':World):Prop:=∃d ok,R d ok/\e = .returned (.tuple #[.int .i64 d,.bool ok])/\Below w.heap.size w w'
structure GB(w wx:World)(v A:Int):Prop where
 rb:aC wx w.heap.size 35 #[.bool false,.int .i64 0,.int .i64 0]
 bb:aC wx (w.heap.size+1) 35 #[.bool false,.int .i64 v,.int .i64 A]
 bw:Below w.heap.size w wx
theorem GB.below{w wx wy:World}{v A:Int}(h:GB w wx v A)(hb:Below wx.heap.size wx wy):GB w wy v A:=⟨h.rb.below hb h.rb.lt,h.bb.below hb h.bb.lt,aD h.bw hb⟩
theorem GB.new(w:World):GB w ((w.alloc (.cells #[.bool false,.int .i64 0,.int .i64 0] 35)).alloc (.cells #[.bool false,.int .i64 0,.int .i64 0] 35)) 0 0:=
 ⟨(aC.new w _ _).alloc _,by have:=aC.new (w.alloc (.cells #[.bool false,.int .i64 0,.int .i64 0] 35)) 35 #[.bool false,.int .i64 0,.int .i64 0];rwa [World.size_alloc] at this,aD (aF w _) (aF _ _)⟩
theorem GB.cells{w wx:World}{v A:Int}(h:GB w wx v A):wx.cell? ⟨w.heap.size+1,0,none⟩=some (.bool false)/\wx.cell? ⟨w.heap.size+1,1,none⟩=some (.int .i64 v)/\wx.cell? ⟨w.heap.size+1,2,none⟩=some (.int .i64 A)/\
 wx.frozen? ⟨w.heap.size+1,1,none⟩=false/\wx.frozen? ⟨w.heap.size+1,2,none⟩=false/\w.heap.size+1<wx.heap.size:=by
 have q0:=h.bb.cell 0;have q1:=h.bb.cell 1;have q2:=h.bb.cell 2;simp at q0 q1 q2;exact⟨q0,q1,q2,h.bb.frozen 1,h.bb.frozen 2,h.bb.lt⟩
theorem GB.rcells{w wx:World}{v A:Int}(h:GB w wx v A):wx.cell? ⟨w.heap.size,0,none⟩=some (.bool false)/\wx.cell? ⟨w.heap.size,1,none⟩=some (.int .i64 0)/\wx.cell? ⟨w.heap.size,2,none⟩=some (.int .i64 0)/\
 wx.frozen? ⟨w.heap.size,0,none⟩=false/\wx.frozen? ⟨w.heap.size,1,none⟩=false/\wx.frozen? ⟨w.heap.size,2,none⟩=false:=by
 have q0:=h.rb.cell 0;have q1:=h.rb.cell 1;have q2:=h.rb.cell 2;simp at q0 q1 q2;exact⟨q0,q1,q2,h.rb.frozen 0,h.rb.frozen 1,h.rb.frozen 2⟩
theorem GB.set{w wx:World}{v A:Int}(h:GB w wx v A)(d k:Int):GB w ((wx.setCell ⟨w.heap.size+1,1,none⟩ (.int .i64 d)).setCell ⟨w.heap.size+1,2,none⟩ (.int .i64 k)) d k:=
 ⟨(h.rb.far (p:=⟨w.heap.size+1,1,none⟩) (by simp) _).far (p:=⟨w.heap.size+1,2,none⟩) (by simp) _,(h.bb.set_ 1 _).set_ 2 _,(h.bw.setCell (by simp) _).setCell (by simp) _⟩
theorem mV{w w1:World}{g:Nat}{x y z:Value}(bw:Below w.heap.size w w1)(h0:w.heap.size<=g):Below w.heap.size w (((w1.setCell ⟨g,0,none⟩ x).setCell ⟨g,1,none⟩ y).setCell ⟨g,2,none⟩ z):=
 ((bw.setCell (by simpa using h0) _).setCell (by simpa using h0) _).setCell (by simpa using h0) _
theorem V1(fid:Nat)(caps:Array Value)(T:Nat)(R:Nat->Int->Bool->Prop)(I:Nat->Int->Int->Prop)(Q:Prop)(w:World)(hT:T<=1000)
 (h0:I 0 0 0) (hstep:Hid (∀k v A d,k<T->I k v A->R k d true->(v<d->I (k+1) d k)/\(¬v<d->I (k+1) v A))) (hbad:Hid (∀k d,k<T->R k d false->Q))
 (hat:Hid (∀(t:Nat) (w1:World),t<T->Below w.heap.size w w1->Calls Tryz.prog fid (#[.int .i64 t] ++ caps) w1 (uP (R t) w1)))
 (hcf:∀(x:Value) (w:World),Sem.run Tryz.prog (callFunc fid (#[x] ++ caps)) w = .ok (.enter fid (#[x] ++ caps)) w) :
 Calls Tryz.prog 49 #[.int .i64 T,.func (.func fid) #[] caps] w (D1 Q (I T) w):=by
 have E:=aA (GB.new w);have H0:=aA h0;clear h0;go_enter Tryz.func49,Tryz.ntmps49
 go_wp2_with fail
 go_loopg [10] T (fun gg s10 wx=>∃(k:Nat) (v A:Int),k+gg=T/\s10 = .int .i64 k/\Hid (I k v A)/\GB w wx v A)
 case atStart=>exact⟨0,0,0,by omega,rfl,H0,E.out⟩
 case round=>
  clear E H0;obtain⟨k,v,A,hkg,rfl,hI,hE⟩:=hrel;have E:=aA hE;have HI:=aA hI.out;clear hE hI;by_cases hk:k<T
  ·have hki:(k:Int)<T:=by omega
   obtain⟨q0,q1,q2,v1,v2,hlq⟩:=E.out.cells;go_wp2_with fail
   refine(hat.out k _ hk E.out.bw).mono ?_;rintro e wq ⟨d,ok,hR,rfl,hbq⟩;have HR:=aA hR;have E:=aA (E.out.below hbq);clear hbq hR;clear q0 q1 q2 v1 v2 hlq;obtain⟨q0,q1,q2,v1,v2,hlq⟩:=E.out.cells;cases ok
   case false=>
    have F:=aA (hbad.out k d hk HR.out);obtain⟨r0,r1,r2,z0,z1,z2⟩:=E.out.rcells;clear HR hk hkg;go_wp2_with fail
    have rb:=E.out.rb.store3 (.bool true) (.int .i64 0) (.int .i64 0);exact bodyPost_ret (v:=.agg #[.bool true,.int .i64 0,.int .i64 0]) (by simp [results,Tryz.results49,go_sem,rb.cell]) rfl (.inl ⟨F.out,rfl,mV E.out.bw (Nat.le_refl _)⟩)
   case true=>
    have F:=aA (hstep.out k v A d hk HI.out HR.out);clear HR;by_cases hvd:v<d
    ·have HI2:=aA (F.out.1 hvd);have d1:decide (v<d)=true:=by simpa using hvd
     clear hvd F;go_wp2_with fail
     go_roundg (gk-1)
     case measure=>omega
     case rel=>exact⟨k+1,d,k,by omega,by go_num,HI2,E.out.set d k⟩
    ·have HI2:=aA (F.out.2 (by omega));have d1:decide (v<d)=false:=by simpa using hvd
     clear hvd F;go_wp2_with fail
     go_roundg (gk-1)
     case measure=>omega
     case rel=>exact⟨k+1,v,A,by omega,by go_num,HI2,E.out⟩
  ·have hkT:k=T:=by omega
   subst hkT;clear hk hkg;obtain⟨q0,q1,q2,v1,v2,hlq⟩:=E.out.cells;obtain⟨r0,r1,r2,z0,z1,z2⟩:=E.out.rcells;go_wp2_with fail
   have rb:=E.out.rb.store3 (.bool false) (.int .i64 v) (.int .i64 A);exact bodyPost_ret (v:=.agg #[.bool false,.int .i64 v,.int .i64 A]) (by simp [results,Tryz.results49,go_sem,rb.cell]) rfl (.inr ⟨v,A,HI.out,rfl,mV E.out.bw (Nat.le_refl _)⟩)
end Go.Proofs.YtaejfleahamapaaGreat
