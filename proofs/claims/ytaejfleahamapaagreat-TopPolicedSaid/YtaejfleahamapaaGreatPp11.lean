/- Stores of whole structs, and what a region's single steps do: make, append, store, load. -/
import Derived.Deep.MidRow
import Derived.Laws.Rows
import Derived.Test.YtaejfleahamapaaGreatPp6
namespace Go.Proofs.YtaejfleahamapaaGreat
set_option linter.unusedVariables false
set_option linter.unusedSimpArgs false
section
open Go.RowKit
structure Sto(g:Nat)(w w':World):Prop where
 os:w'.os=w.os
 tape:w'.tape=w.tape
 output:w'.output=w.output
 size:w'.heap.size=w.heap.size
 block:∀k,k≠g→w'.heap[k]?=w.heap[k]?
section
variable{w w':World}{g h:Nat}
theorem Sto.refl(g:Nat)(w:World):Sto g w w:=⟨rfl,rfl,rfl,rfl,fun _ _=>rfl⟩
theorem Sto.set(s:Sto g w w')(i:Nat)(u:Value):Sto g w (w'.setCell ⟨g,i,none⟩ u):=
 ⟨s.os,s.tape,s.output,(by simpa [World.setCell] using s.size),fun k hk=>(heap_setCell_other w' ⟨g,i,none⟩ k u hk).trans (s.block k hk)⟩
theorem Blk.sto{t:TypeId}{cs:Array Value}(H:Blk w h t cs)(s:Sto g w w')(hne:h≠g):Blk w' h t cs:=(s.block h hne).trans H
theorem Ints.sto{n:Nat}{A:Option Addr}{zs:List Int}(H:Ints w w.heap.size A n zs)(s:Sto g w w')(hne:∀b off o,A=some ⟨b,off,o⟩→b≠g):Ints w' w'.heap.size A n zs:=by
 rw [s.size];exact⟨H.1,fun hn=>by
  obtain⟨b,off,e,hb,hc⟩:=H.2 hn;exact⟨b,off,e,hb,fun j hj=>(World.cell?_of_block (a:=⟨b,off+j,none⟩) (s.block b (hne b off none e))).trans (hc j hj)⟩⟩
theorem bsto{B:Nat}{w0:World}(H:Below B w0 w)(s:Sto g w w')(hg:B≤g):Below B w0 w':=
 H.trans ⟨s.os,s.tape,s.output,Nat.le_of_eq s.size.symm,fun k hk=>s.block k (by omega)⟩
end
theorem setCells_go(b:Nat)(t:TypeId):∀(vs pre post:List Value) (w:World),Blk w b t (pre ++ post).toArray→post.length=vs.length→Blk (w.setCells b pre.length vs) b t (pre ++ vs).toArray
 | [],pre,post,w,h,hl=>by
   have:post = []:=List.eq_nil_of_length_eq_zero hl
   subst this;exact h
 | v :: r,pre,[],w,h,hl=>by cases hl
 | v :: r,pre,p0 :: post,w,h,hl=>by
   have h1:=h.set_ pre.length v;have e:(pre ++ p0 :: post).toArray.setIfInBounds pre.length v=((pre ++ [v]) ++ post).toArray:=by simp
   rw [e] at h1;have h2:=setCells_go b t r (pre ++ [v]) post _ h1 (by simpa using hl);simp only [List.length_append,List.length_cons,List.length_nil,Nat.zero_add,List.append_assoc,List.singleton_append] at h2;exact h2
theorem Blk.setCells{w:World}{g:Nat}{t:TypeId}{cs cs':Array Value}(h:Blk w g t cs)(hs:cs'.size=cs.size):Blk (w.setCells g 0 cs'.toList) g t cs':=by
 have:=setCells_go g t cs'.toList [] cs.toList w (by simpa using h) (by simp [hs])
 simpa using this
theorem Sto.cells{g:Nat}{w:World}:∀(vs:List Value) (o:Nat) (w':World),Sto g w w'→Sto g w (w'.setCells g o vs)
 | [],_,_,s=>s
 | v :: r,o,w',s=>Sto.cells r (o+1) _ (s.set o v)
theorem there_of{w:World}{g:Nat}{t:TypeId}{cs:Array Value}(h:Blk w g t cs){n:Nat}(hn:n=cs.size):w.there g 0 n:=by
 subst hn;intro j hj;rw [Nat.zero_add];refine⟨?_,h.frozen j⟩
 rw [h.cell j];simp [hj]
theorem Blk.c3{w:World}{g:Nat}{t:TypeId}{x y z:Value}(h:Blk w g t #[x,y,z]):(w.cell? ⟨g,0,none⟩=some x∧w.cell? ⟨g,1,none⟩=some y∧w.cell? ⟨g,2,none⟩=some z)∧
 (w.frozen? ⟨g,0,none⟩=false∧w.frozen? ⟨g,1,none⟩=false∧w.frozen? ⟨g,2,none⟩=false)∧g<w.heap.size:=by
 have q0:=h.cell 0;have q1:=h.cell 1;have q2:=h.cell 2;simp at q0 q1 q2;exact⟨⟨q0,q1,q2⟩,⟨h.frozen 0,h.frozen 1,h.frozen 2⟩,h.lt⟩
theorem Sto.three(g:Nat)(w:World)(x y z:Value):Sto g w (((w.setCell ⟨g,0,none⟩ x).setCell ⟨g,1,none⟩ y).setCell ⟨g,2,none⟩ z):=(((Sto.refl g w).set 0 x).set 1 y).set 2 z
theorem bst3{B:Nat}{w0 w:World}(h:Below B w0 w){g:Nat}(hg:B≤g)(x y z:Value):Below B w0 (((w.setCell ⟨g,0,none⟩ x).setCell ⟨g,1,none⟩ y).setCell ⟨g,2,none⟩ z):=bsto h (Sto.three g w x y z) hg
theorem wpList_storeN{w:World}{ops:Array Oper}{rest:List Oper}{o:Oper}{a:Act}{Q:Exit→Act→World→Prop}(hgd:o.guard=none)(T:TypeId)(s x:Operand)(ho:o.op = .store T s x)
 {g:Nat} (hs:a.eval s = .pointer (some ⟨g,0,none⟩)) {t:TypeId} {cs cs':Array Value} (hB:Blk w g t cs) (hx:a.eval x = .agg cs') (hsz:cs'.size=cs.size) (hi:(Tryz.prog.info? T).map (·.size)=some cs'.size) (h1:cs'.all (·.oneCell')=true)
 (h:∀w',Sto g w w'→Blk w' g t cs'→wpList Tryz.prog ops Q rest (a.put o.dst undef) w'):wpList Tryz.prog ops Q (o :: rest) a w:=
 wpList_store_mid hgd T s x ho g 0 cs' hs hx (there_of hB hsz) hi h1 (h _ (Sto.cells _ _ _ (Sto.refl g w)) (hB.setCells hsz))
theorem step_storeN{w:World}{ops:Array Oper}{o:Oper}{a:Act}{K:Act→World→Prop}{Q:Exit→Act→World→Prop}{E:Prop}(hgd:o.guard=none)(T:TypeId)(s x:Operand)(ho:o.op = .store T s x)
 {g:Nat} (hs:a.eval s = .pointer (some ⟨g,0,none⟩)) {t:TypeId} {cs cs':Array Value} (hB:Blk w g t cs) (hx:a.eval x = .agg cs') (hsz:cs'.size=cs.size) (hi:(Tryz.prog.info? T).map (·.size)=some cs'.size) (h1:cs'.all (·.oneCell')=true)
 (h:∀w',Sto g w w'→Blk w' g t cs'→K (a.put o.dst undef) w'):if Region.wanted o (yielded ops a.tmps)=true then Oper.wp Tryz.prog o a w K Q else E:=by
 have hw:Region.wanted o (yielded ops a.tmps)=true:=by simp [Region.wanted,hgd]
 rw [if_pos hw];exact wp_store_mid T s x ho g 0 cs' hs hx (there_of hB hsz) hi h1 (h _ (Sto.cells _ _ _ (Sto.refl g w)) (hB.setCells hsz))
end
section
open Go.RowKit
structure L1(w wx:World)(A:Option Addr)(n c:Nat)(p i:Int)(zs:List Int):Prop where
 fb:Blk wx w.heap.size 26 #[.slice A n c,.int .i64 p,.int .i64 i]
 ib:Ints wx w.heap.size A n zs
 bw:Below w.heap.size w wx
section
variable{w wx wy:World}{A:Option Addr}{n c:Nat}{p i:Int}{zs:List Int}
theorem L1.new(hA:Ints w w.heap.size A n zs):L1 w (w.alloc (.cells #[.slice A n c,.int .i64 p,.int .i64 i] 26)) A n c p i zs:=
 ⟨Blk.new w _ _,hA.alloc (Nat.le_refl _) _,balloc w _⟩
theorem L1.ints(h:L1 w wx A n c p i zs):Ints wx wx.heap.size A n zs:=h.ib.more h.bw.size
theorem L1.below(h:L1 w wx A n c p i zs)(hb:Below wx.heap.size wx wy):L1 w wy A n c p i zs:=⟨h.fb.below hb h.fb.lt,h.ib.below (hb.mono h.bw.size),bthen h.bw hb⟩
theorem L1.alloc(h:L1 w wx A n c p i zs)(o:Obj):L1 w (wx.alloc o) A n c p i zs:=h.below (balloc wx o)
theorem L1.drewN{k:Nat}(h:L1 w wx A n c p i zs):L1 w (wx.drewN k) A n c p i zs:=⟨h.fb,h.ib,bdrewN h.bw⟩
theorem L1.cells(h:L1 w wx A n c p i zs):wx.cell? ⟨w.heap.size,0,none⟩=some (.slice A n c)∧wx.cell? ⟨w.heap.size,1,none⟩=some (.int .i64 p)∧wx.cell? ⟨w.heap.size,2,none⟩=some (.int .i64 i)∧w.heap.size<wx.heap.size:=by
 have q0:=h.fb.cell 0;have q1:=h.fb.cell 1;have q2:=h.fb.cell 2;simp at q0 q1 q2;exact⟨q0,q1,q2,h.fb.lt⟩
end
end
section
open Go.RowKit
section
variable{w wx wy:World}{A B:Option Addr}{F G n c m d:Nat}{f g:Cv}
end
end
end Go.Proofs.YtaejfleahamapaaGreat
