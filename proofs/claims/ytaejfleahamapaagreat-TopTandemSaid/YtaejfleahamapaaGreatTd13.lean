/- . -/
import Derived.Deep.MidRow
import Derived.Laws.Rows
import Derived.Test.YtaejfleahamapaaGreatTd7
namespace Go.Proofs.YtaejfleahamapaaGreat
set_option linter.unusedVariables false
set_option linter.unusedSimpArgs false
open Go.RowKit
structure aR(g:Nat)(w w':World):Prop where
 os:w'.os=w.os
 tape:w'.tape=w.tape
 output:w'.output=w.output
 size:w'.heap.size=w.heap.size
 block:∀k,k≠g->w'.heap[k]?=w.heap[k]?
section
variable{w w':World}{g h:Nat}
theorem aR.refl(g:Nat)(w:World):aR g w w:=⟨rfl,rfl,rfl,rfl,fun _ _=>rfl⟩
theorem aR.set(s:aR g w w')(i:Nat)(u:Value):aR g w (w'.setCell ⟨g,i,none⟩ u):=
 ⟨s.os,s.tape,s.output,(by simpa [World.setCell] using s.size),fun k hk=>(heap_setCell_other w' ⟨g,i,none⟩ k u hk).trans (s.block k hk)⟩
theorem aC.sto{t:TypeId}{cs:Array Value}(H:aC w h t cs)(s:aR g w w')(hne:h≠g):aC w' h t cs:=(s.block h hne).trans H
theorem aE.sto{n:Nat}{A:Option Addr}{zs:List Int}(H:aE w w.heap.size A n zs)(s:aR g w w')(hne:∀b off o,A=some ⟨b,off,o⟩->b≠g):aE w' w'.heap.size A n zs:=by
 rw [s.size];exact⟨H.1,fun hn=>by
  obtain⟨b,off,e,hb,hc⟩:=H.2 hn;exact⟨b,off,e,hb,fun j hj=>(World.cell?_of_block (a:=⟨b,off+j,none⟩) (s.block b (hne b off none e))).trans (hc j hj)⟩⟩
theorem cE{B:Nat}{w0:World}(H:Below B w0 w)(s:aR g w w')(hg:B<=g):Below B w0 w':=
 H.trans ⟨s.os,s.tape,s.output,Nat.le_of_eq s.size.symm,fun k hk=>s.block k (by omega)⟩
end
theorem yW(b:Nat)(t:TypeId):∀(vs bU post:List Value) (w:World),aC w b t (bU ++ post).toArray->post.length=vs.length->aC (w.setCells b bU.length vs) b t (bU ++ vs).toArray
 | [],bU,post,w,h,hl=>by
   have:post = []:=List.eq_nil_of_length_eq_zero hl
   subst this;exact h
 | v :: r,bU,[],w,h,hl=>by cases hl
 | v :: r,bU,p0 :: post,w,h,hl=>by
   have h1:=h.set_ bU.length v;have e:(bU ++ p0 :: post).toArray.setIfInBounds bU.length v=((bU ++ [v]) ++ post).toArray:=by simp
   rw [e] at h1;have h2:=yW b t r (bU ++ [v]) post _ h1 (by simpa using hl);simp only [List.length_append,List.length_cons,List.length_nil,Nat.zero_add,List.append_assoc,List.singleton_append] at h2;exact h2
theorem aC.setCells{w:World}{g:Nat}{t:TypeId}{cs cs':Array Value}(h:aC w g t cs)(hs:cs'.size=cs.size):aC (w.setCells g 0 cs'.toList) g t cs':=by
 have:=yW g t cs'.toList [] cs.toList w (by simpa using h) (by simp [hs])
 simpa using this
theorem aR.cells{g:Nat}{w:World}:∀(vs:List Value) (o:Nat) (w':World),aR g w w'->aR g w (w'.setCells g o vs)
 | [],_,_,s=>s
 | v :: r,o,w',s=>aR.cells r (o+1) _ (s.set o v)
theorem zP{w:World}{g:Nat}{t:TypeId}{cs:Array Value}(h:aC w g t cs){n:Nat}(hn:n=cs.size):w.there g 0 n:=by
 subst hn;intro j hj;rw [Nat.zero_add];refine⟨?_,h.frozen j⟩
 rw [h.cell j];simp [hj]
theorem aC.c3{w:World}{g:Nat}{t:TypeId}{x y z:Value}(h:aC w g t #[x,y,z]):(w.cell? ⟨g,0,none⟩=some x/\w.cell? ⟨g,1,none⟩=some y/\w.cell? ⟨g,2,none⟩=some z)/\
 (w.frozen? ⟨g,0,none⟩=false/\w.frozen? ⟨g,1,none⟩=false/\w.frozen? ⟨g,2,none⟩=false)/\g<w.heap.size:=by
 have q0:=h.cell 0;have q1:=h.cell 1;have q2:=h.cell 2;simp at q0 q1 q2;exact⟨⟨q0,q1,q2⟩,⟨h.frozen 0,h.frozen 1,h.frozen 2⟩,h.lt⟩
theorem aR.three(g:Nat)(w:World)(x y z:Value):aR g w (((w.setCell ⟨g,0,none⟩ x).setCell ⟨g,1,none⟩ y).setCell ⟨g,2,none⟩ z):=(((aR.refl g w).set 0 x).set 1 y).set 2 z
theorem cO{B:Nat}{w0 w:World}(h:Below B w0 w){g:Nat}(hg:B<=g)(x y z:Value):Below B w0 (((w.setCell ⟨g,0,none⟩ x).setCell ⟨g,1,none⟩ y).setCell ⟨g,2,none⟩ z):=cE h (aR.three g w x y z) hg
theorem iK{w:World}{ops:Array Oper}{rest:List Oper}{o:Oper}{a:Act}{Q:Exit->Act->World->Prop}(hgd:o.guard=none)(T:TypeId)(s x:Operand)(ho:o.op = .store T s x)
 {g:Nat} (hs:a.eval s = .pointer (some ⟨g,0,none⟩)) {t:TypeId} {cs cs':Array Value} (hB:aC w g t cs) (hx:a.eval x = .agg cs') (hsz:cs'.size=cs.size) (hi:(Tryz.prog.info? T).map (·.size)=some cs'.size) (h1:cs'.all (·.oneCell')=true)
 (h:∀w',aR g w w'->aC w' g t cs'->wpList Tryz.prog ops Q rest (a.put o.dst undef) w'):wpList Tryz.prog ops Q (o :: rest) a w:=
 wpList_store_mid hgd T s x ho g 0 cs' hs hx (zP hB hsz) hi h1 (h _ (aR.cells _ _ _ (aR.refl g w)) (hB.setCells hsz))
theorem gH{w:World}{ops:Array Oper}{o:Oper}{a:Act}{K:Act->World->Prop}{Q:Exit->Act->World->Prop}{E:Prop}(hgd:o.guard=none)(T:TypeId)(s x:Operand)(ho:o.op = .store T s x)
 {g:Nat} (hs:a.eval s = .pointer (some ⟨g,0,none⟩)) {t:TypeId} {cs cs':Array Value} (hB:aC w g t cs) (hx:a.eval x = .agg cs') (hsz:cs'.size=cs.size) (hi:(Tryz.prog.info? T).map (·.size)=some cs'.size) (h1:cs'.all (·.oneCell')=true)
 (h:∀w',aR g w w'->aC w' g t cs'->K (a.put o.dst undef) w'):if Region.wanted o (yielded ops a.tmps)=true then Oper.wp Tryz.prog o a w K Q else E:=by
 have hw:Region.wanted o (yielded ops a.tmps)=true:=by simp [Region.wanted,hgd]
 rw [if_pos hw];exact wp_store_mid T s x ho g 0 cs' hs hx (zP hB hsz) hi h1 (h _ (aR.cells _ _ _ (aR.refl g w)) (hB.setCells hsz))
structure L1(w wx:World)(A:Option Addr)(n c:Nat)(p i:Int)(zs:List Int):Prop where
 fb:aC wx w.heap.size 26 #[.slice A n c,.int .i64 p,.int .i64 i]
 ib:aE wx w.heap.size A n zs
 bw:Below w.heap.size w wx
section
variable{w wx wy:World}{A:Option Addr}{n c:Nat}{p i:Int}{zs:List Int}
theorem L1.new(hA:aE w w.heap.size A n zs):L1 w (w.alloc (.cells #[.slice A n c,.int .i64 p,.int .i64 i] 26)) A n c p i zs:=
 ⟨aC.new w _ _,hA.alloc (Nat.le_refl _) _,aF w _⟩
theorem L1.ints(h:L1 w wx A n c p i zs):aE wx wx.heap.size A n zs:=h.ib.more h.bw.size
theorem L1.below(h:L1 w wx A n c p i zs)(hb:Below wx.heap.size wx wy):L1 w wy A n c p i zs:=⟨h.fb.below hb h.fb.lt,h.ib.below (hb.mono h.bw.size),aD h.bw hb⟩
theorem L1.alloc(h:L1 w wx A n c p i zs)(o:Obj):L1 w (wx.alloc o) A n c p i zs:=h.below (aF wx o)
theorem L1.drewN{k:Nat}(h:L1 w wx A n c p i zs):L1 w (wx.drewN k) A n c p i zs:=⟨h.fb,h.ib,cC h.bw⟩
theorem L1.cells(h:L1 w wx A n c p i zs):wx.cell? ⟨w.heap.size,0,none⟩=some (.slice A n c)/\wx.cell? ⟨w.heap.size,1,none⟩=some (.int .i64 p)/\wx.cell? ⟨w.heap.size,2,none⟩=some (.int .i64 i)/\w.heap.size<wx.heap.size:=by
 have q0:=h.fb.cell 0;have q1:=h.fb.cell 1;have q2:=h.fb.cell 2;simp at q0 q1 q2;exact⟨q0,q1,q2,h.fb.lt⟩
end
section
variable{w wx wy:World}{A B:Option Addr}{F G n c m d:Nat}{f g:Cv}
end
end Go.Proofs.YtaejfleahamapaaGreat
