/- . -/
import Derived.Test.YtaejfleahamapaaGreatProg
import Derived.WalkKit
import Derived.WalkSpells
import Derived.WalkLawsBesides
import Derived.Deep.Draws
import Derived.Maps.AppendAt
import Derived.Deep.AppendLies
import Derived.RegionTactic
import Derived.OwnWalk
import Derived.MapKept
import Derived.Test.YtaejfleahamapaaGreatTd2
import Derived.Test.YtaejfleahamapaaGreatTd1
namespace Go.Proofs.YtaejfleahamapaaGreat
set_option linter.unusedVariables false
set_option linter.unusedSimpArgs false
set_option maxHeartbeats 1000000
set_option maxRecDepth 100000
open Go.RowKit
def aE(w:World)(B:Nat)(A:Option Addr)(n:Nat)(zs:List Int):Prop:=
 zs.length=n/\(0<n->∃b off,A=some ⟨b,off,none⟩/\b<B/\∀j,j<n->w.cell? ⟨b,off+j,none⟩=some (.int .i64 (aB zs j)))
theorem l6{B:Nat}{W w1:World}(hb:Below B W w1):(∀b o,b<B->w1.cell? ⟨b,o,none⟩=W.cell? ⟨b,o,none⟩)/\(∀b o,b<B->w1.frozen? ⟨b,o,none⟩=W.frozen? ⟨b,o,none⟩):=
 ⟨fun b o h=>hb.cell (p:=⟨b,o,none⟩) h,fun b o h=>hb.frozen (p:=⟨b,o,none⟩) h⟩
section
variable{w w':World}{B B' n:Nat}{A:Option Addr}{zs:List Int}
theorem aE.none_:aE w B A 0 []:=⟨by simp,fun h=>absurd h (by omega)⟩
theorem aE.keep(h:aE w B A n zs)(hk:∀p:Addr,p.block<B->w'.cell? p=w.cell? p):aE w' B A n zs:=
 ⟨h.1,fun hn=>by
  obtain⟨b,off,e,hb,hc⟩:=h.2 hn;exact⟨b,off,e,hb,fun j hj=>(hk ⟨b,off+j,none⟩ hb).trans (hc j hj)⟩⟩
theorem aE.more(h:aE w B A n zs)(hB:B<=B'):aE w B' A n zs:=
 ⟨h.1,fun hn=>by
  obtain⟨b,off,e,hb,hc⟩:=h.2 hn;exact⟨b,off,e,by omega,hc⟩⟩
theorem aE.below(h:aE w B A n zs)(hb:Below B w w'):aE w' B A n zs:=h.keep fun _ hp=>hb.cell hp
theorem aE.drew(h:aE w B A n zs):aE w.drew B A n zs:=h
theorem aE.drewN(h:aE w B A n zs)(k:Nat):aE (w.drewN k) B A n zs:=h
theorem aE.alloc(h:aE w B A n zs)(hB:B<=w.heap.size)(o:Obj):aE (w.alloc o) B A n zs:=h.keep fun p hp=>World.cell?_alloc_lt w o p (by omega)
end
theorem aE.alloc'{w:World}{n:Nat}{A:Option Addr}{zs:List Int}(h:aE w w.heap.size A n zs)(o:Obj):aE (w.alloc o) (w.alloc o).heap.size A n zs:=(h.alloc (Nat.le_refl _) o).more (by simp)
theorem aE.ext{w w':World}{n:Nat}{A:Option Addr}{zs:List Int}(h:aE w w.heap.size A n zs)(hb:Below w.heap.size w w'):aE w' w'.heap.size A n zs:=(h.below hb).more hb.size
theorem aE.setCell{w:World}{B n:Nat}{A:Option Addr}{zs:List Int}(h:aE w B A n zs){p:Addr}(hne:∀b off s,A=some ⟨b,off,s⟩->b≠p.block)(u:Value):aE (w.setCell p u) B A n zs:=
 ⟨h.1,fun hn=>by
  obtain⟨b,off,e,hb,hc⟩:=h.2 hn;exact⟨b,off,e,hb,fun j hj=>(World.cell?_setCell_other w p ⟨b,off+j,none⟩ u (fun e'=>by subst e';exact hne _ _ _ e rfl)).trans (hc j hj)⟩⟩
theorem aF(w:World)(o:Obj):Below w.heap.size w (w.alloc o):=(Below.refl _ _).alloc (Nat.le_refl _) o
theorem aD{w w1 w2:World}(h:Below w.heap.size w w1)(k:Below w1.heap.size w1 w2):Below w.heap.size w w2:=h.trans (k.mono h.size)
theorem lH{B:Nat}{w w':World}(h:Below B w.drew w'):Below B w w':=⟨h.os,h.tape,h.output,h.size,h.block⟩
theorem cC{B k:Nat}{w w':World}(h:Below B w w'):Below B w (w'.drewN k):=⟨h.os,h.tape,h.output,h.size,h.block⟩
theorem j5{w:World}{g b o:Nat}{x y z:Value}(h:g≠b):(((w.setCell ⟨g,0,none⟩ x).setCell ⟨g,1,none⟩ y).setCell ⟨g,2,none⟩ z).cell? ⟨b,o,none⟩=w.cell? ⟨b,o,none⟩:=by
 rw [World.cell?_setCell_other _ _ _ _ (fun e=>by injection e with e;exact h e),World.cell?_setCell_other _ _ _ _ (fun e=>by injection e with e;exact h e),World.cell?_setCell_other _ _ _ _ (fun e=>by injection e with e;exact h e)]
theorem fD{w:World}{g b o o':Nat}{x:Value}(h:g≠b):(w.setCell ⟨g,o',none⟩ x).cell? ⟨b,o,none⟩=w.cell? ⟨b,o,none⟩:=
 World.cell?_setCell_other _ _ _ _ (fun e=>by injection e with e;exact h e)
def aC(w:World)(g:Nat)(t:TypeId)(cs:Array Value):Prop:=w.heap[g]?=some (.cells cs t (0,0))
section
variable{w w':World}{g:Nat}{t:TypeId}{cs:Array Value}
theorem aC.lt(h:aC w g t cs):g<w.heap.size:=by
 rcases Nat.lt_or_ge g w.heap.size with hlt|hge
 ·exact hlt
 ·unfold aC at h;rw [Array.getElem?_eq_none hge] at h;cases h
theorem aC.cell(h:aC w g t cs)(i:Nat):w.cell? ⟨g,i,none⟩=cs[i]?:=by
 unfold aC at h;simp only [World.cell?,h,Option.isSome_none,Bool.false_eq_true,if_false]
theorem aC.frozen(h:aC w g t cs)(i:Nat):w.frozen? ⟨g,i,none⟩=false:=by
 unfold aC at h;simp [World.frozen?,h]
theorem aC.new(w:World)(t:TypeId)(cs:Array Value):aC (w.alloc (.cells cs t)) w.heap.size t cs:=heap_alloc_new w _
theorem aC.drew(h:aC w g t cs):aC w.drew g t cs:=h
theorem aC.drewN(h:aC w g t cs)(n:Nat):aC (w.drewN n) g t cs:=h
theorem aC.alloc(h:aC w g t cs)(o:Obj):aC (w.alloc o) g t cs:=(Below.heap_alloc w o g h.lt).trans h
theorem aC.set_(h:aC w g t cs)(i:Nat)(u:Value):aC (w.setCell ⟨g,i,none⟩ u) g t (cs.setIfInBounds i u):=by
 unfold aC at h ⊢;simp [World.setCell,Array.getElem?_modify,h]
theorem aC.far(h:aC w g t cs){p:Addr}(hp:g≠p.block)(u:Value):aC (w.setCell p u) g t cs:=(Below.heap_setCell w p u g hp).trans h
theorem aC.below{B:Nat}(h:aC w g t cs)(hb:Below B w w')(hg:g<B):aC w' g t cs:=(hb.block g hg).trans h
theorem aC.store3{a b c:Value}(h:aC w g t #[a,b,c])(x y z:Value):aC (((w.setCell ⟨g,0,none⟩ x).setCell ⟨g,1,none⟩ y).setCell ⟨g,2,none⟩ z) g t #[x,y,z]:=
 ((h.set_ 0 x).set_ 1 y).set_ 2 z
theorem aC.grown{row:Option Nat}(h:aC w g t cs)(hb:w.grownBy w' row)(hg:some g≠row):aC w' g t cs:=(hb.block g h.lt hg).trans h
end
def aN(w:World)(g:Nat)(zs:List Int):Prop:=w.heap[g]?=some (.cells (zs.map (Value.int .i64)).toArray 3 (0,0))
theorem a0v(zs:List Int)(k:Nat)(h:k<zs.length):(zs.map (Value.int .i64)).toArray[k]?=some (.int .i64 (aB zs k)):=by
 simp [aB,h]
section
variable{w w':World}{g:Nat}{zs:List Int}
theorem aN.lt(h:aN w g zs):g<w.heap.size:=by
 rcases Nat.lt_or_ge g w.heap.size with hlt|hge
 ·exact hlt
 ·unfold aN at h;rw [Array.getElem?_eq_none hge] at h;cases h
theorem aN.cell(h:aN w g zs)(i:Nat)(hi:i<zs.length):w.cell? ⟨g,i,none⟩=some (.int .i64 (aB zs i)):=by
 unfold aN at h;simp only [World.cell?,h,Option.isSome_none,Bool.false_eq_true,if_false];exact a0v zs i hi
theorem aN.frozen(h:aN w g zs)(i:Nat):w.frozen? ⟨g,i,none⟩=false:=by
 unfold aN at h;simp [World.frozen?,h]
theorem aN.drew(h:aN w g zs):aN w.drew g zs:=h
theorem aN.drewN(h:aN w g zs)(n:Nat):aN (w.drewN n) g zs:=h
theorem aN.alloc(h:aN w g zs)(o:Obj):aN (w.alloc o) g zs:=(Below.heap_alloc w o g h.lt).trans h
theorem aN.set_(h:aN w g zs)(i:Nat)(x:Int):aN (w.setCell ⟨g,i,none⟩ (.int .i64 x)) g (zs.set i x):=by
 unfold aN at h ⊢;simp [World.setCell,Array.getElem?_modify,h,List.map_set]
theorem aN.far(h:aN w g zs){p:Addr}(hp:g≠p.block)(u:Value):aN (w.setCell p u) g zs:=(Below.heap_setCell w p u g hp).trans h
theorem aN.below{B:Nat}(h:aN w g zs)(hb:Below B w w')(hg:g<B):aN w' g zs:=(hb.block g hg).trans h
theorem aN.ints(h:aN w g zs):aE w w.heap.size (some ⟨g,0,none⟩) zs.length zs:=
 ⟨rfl,fun _=>⟨g,0,rfl,h.lt,fun j hj=>by rw [Nat.zero_add];exact h.cell j hj⟩⟩
theorem aN.part(h:aN w g zs)(s n:Nat)(hn:s+n<=zs.length):aE w w.heap.size (some ⟨g,s,none⟩) n ((zs.drop s).take n):=
 ⟨by simp;omega,fun _=>⟨g,s,rfl,h.lt,fun j hj=>by
  rw [h.cell _ (by omega)];simp [aB,hj]⟩⟩
theorem aN.made{base:Nat}{n:Nat}(h:w.ownsRow base 3 1 (.slice (some ⟨g,0,none⟩) n n) n (madeCells (Value.int .i64 0).cells (n*1)).toList)(hn:0<n):aN w g (List.replicate n 0):=by
 obtain⟨_,h2⟩:=h;rcases h2 with ⟨h2,_⟩|⟨g',cap,cur,hv,_,hh,_,_,hcs,hcur⟩
 ·cases h2
 ·injection hv with h1 h3 h4
  injection h1 with h1
  injection h1 with h1
  subst h1 h4;unfold aN;rw [hh]
  congr 2
  rw [List.take_of_length_le (by simp [hcs])] at hcur;apply Array.ext'
  rw [hcur];simp [madeCells,Value.cells,Nat.mod_one,List.eq_replicate_iff]
end
theorem iE:(Tryz.prog.info? 3).map (fun i=>(i.zero,i.size,i.bytes))=some (some (.int .i64 0),1,8):=by kernel_rfl
def Own(w:World)(base:Nat)(v:Value)(n:Nat)(xs:List Int):Prop:=w.ownsRow base 3 1 v n (xs.map (Value.int .i64))
section
variable{w w':World}{base n:Nat}{v:Value}{xs:List Int}
theorem Own.nil_(w:World)(base:Nat):Own w base (.slice none 0 0) 0 []:=⟨by simp,.inl ⟨rfl,rfl⟩⟩
theorem Own.empty_(w:World){base:Nat}(hb:base<=w.heap.size):Own (w.alloc (.cells #[] 3)) base (.slice (some ⟨w.heap.size,0,none⟩) 0 0) 0 []:=
 ⟨by simp,.inr ⟨w.heap.size,0,#[],rfl,hb,heap_alloc_new w _,Nat.le_refl _,by unfold maxLen;omega,rfl,rfl⟩⟩
theorem Own.len(h:Own w base v n xs):xs.length=n:=by simpa [Own,World.ownsRow] using h.1
theorem Own.ints(h:Own w base v n xs):∃A c,v = .slice A n c/\n<=c/\aE w w.heap.size A n xs/\(∀b off s,A=some ⟨b,off,s⟩->base<=b):=by
 have hl:=h.len;obtain⟨h1,h2⟩:=h;rcases h2 with ⟨rfl,rfl⟩|⟨g,cap,cur,rfl,hb,hh,hnc,hcm,hcs,hcur⟩
 ·exact⟨none,0,rfl,Nat.le_refl _,⟨hl,fun h=>absurd h (by omega)⟩,by intro b off s h;cases h⟩
 ·refine⟨_,_,rfl,hnc,⟨hl,fun hn=>⟨g,0,rfl,?_,fun j hj=>?_⟩⟩,?_⟩
  ·rcases Nat.lt_or_ge g w.heap.size with hlt|hge
   ·exact hlt
   ·rw [Array.getElem?_eq_none hge] at hh;cases hh
  ·simp only [World.cell?,hh,Option.isSome_none,Bool.false_eq_true,if_false,Nat.zero_add];have:(cur.toList.take (n*1))[j]?=some (.int .i64 (aB xs j)):=by
    rw [hcur];simp [aB,hl,hj]
   rw [List.getElem?_take,if_pos (by omega)] at this
   simpa using this
  ·intro b off s h
   injection h with h
   injection h with h
   omega
theorem Own.blk_lt(h:Own w base v n xs)(g:Nat)(hg:v.ownBlock=some g):base<=g/\g<w.heap.size:=by
 rcases h.2 with ⟨rfl,_⟩|⟨g',cap,cur,rfl,hb,hh,_⟩
 ·cases hg
 ·have:g'=g:=by simpa [Value.ownBlock] using hg
  subst this;refine⟨hb,?_⟩
  rcases Nat.lt_or_ge g' w.heap.size with hlt|hge
  ·exact hlt
  ·rw [Array.getElem?_eq_none hge] at hh;cases hh
theorem a29(t ty:TypeId)(ht:Tryz.prog.underlying t=some (.slice 3))(h:Own w base v n xs)(c:Nat):(Builtin.append_ #[t,t] ty #[v,.slice none 0 c]).run Tryz.prog w = .ok v w:=by
 obtain⟨i0,hi0,hz0,hz1,hz2⟩:=info_parts iE;rcases h.2 with ⟨rfl,rfl⟩|⟨g,cap,cur,rfl,_,_,hnc,_⟩
 ·simp [Builtin.append_,run_underlying ht,sizeOf,typeInfo,hi0,Builtin.lenOf,Builtin.firstCells]
 ·simp [Builtin.append_,run_underlying ht,sizeOf,typeInfo,hi0,Builtin.lenOf,Builtin.firstCells,hnc,storeCells]
theorem tM(t ty:TypeId)(ht:Tryz.prog.underlying t=some (.slice 3))(h:Own w base v n xs){B m:Nat}{A:Option Addr}{zs:List Int}(c:Nat)(hr:aE w B A m zs)
 (h63:n+m<=100000000) (hbase:base<=w.heap.size) :
 ∃v' w',(Builtin.append_ #[t,t] ty #[v,.slice A m c]).run Tryz.prog w = .ok v' w'/\Own w' base v' (n+m) (xs ++ zs)/\w.grownBy w' v.ownBlock/\(v'.ownBlock=v.ownBlock\/v'.ownBlock=some w.heap.size):=by
 obtain⟨i0,hi0,hz0,hz1,hz2⟩:=info_parts iE;have hzl:=hr.1;rcases A with _|ad
 ·have hm:m=0:=by
   rcases Nat.eq_zero_or_pos m with h0|h0
   ·exact h0
   ·obtain⟨b,off,e,_⟩:=hr.2 h0;cases e
  subst hm;have hn:zs = []:=List.eq_nil_of_length_eq_zero hzl;subst hn;exact⟨v,w,a29 t ty ht h c,by simpa using h,World.grownBy.refl w _,.inl rfl⟩
 ·obtain⟨v',w',hrun,h2,h3,_,h5⟩:=run_append_own_at (P:=Tryz.prog) w base t ty 3 i0 (.int .i64 0) 1 8 ht hi0 hz0 hz1 hz2 rfl (by omega) v n _ h ad m c (zs.map (Value.int .i64)) (by simp [hzl])
   (by
    intro j u hu;have hj:j<m:=by
     rcases Nat.lt_or_ge j m with hj|hj
     ·exact hj
     ·rw [List.getElem?_eq_none (by simp [hzl];exact hj)] at hu;cases hu
    obtain⟨b,off,e,_,hc⟩:=hr.2 (by omega)
    injection e with e
    subst e;have hcell:=hc j hj;have hu':u = .int .i64 (aB zs j):=by
     rw [List.getElem?_map] at hu;have h3:zs[j]?=some zs[j]:=List.getElem?_eq_getElem (by omega);rw [h3] at hu;simp at hu;rw [<- hu];simp [aB,h3]
    subst hu';unfold Addr.add;split
    ·rename_i h0;subst h0;simpa using hcell
    ·exact hcell)
   (by intro u hu;simp at hu;obtain⟨x,_,rfl⟩:=hu;rfl) (by unfold maxLen;omega) (by omega) hbase
  exact⟨v',w',hrun,by rw [Own,List.map_append];exact h2,h3,h5⟩
end
def F5(args:Array Value):Sem Value:=Builtin.append_ #[22,22] 22 args
theorem a5q(args:Array Value):Builtin.append_ #[22,22] 22 args=F5 args:=rfl
theorem t8{w:World}{ops:Array Oper}{o:Oper}{a:Act}{K:Act->World->Prop}{Q:Exit->Act->World->Prop}{E:Prop}(hgd:o.guard=none)(s x:Operand)(t:TypeId)
 (ho:o.op = .call { callee:=.builtin .append,args:=#[s,x],argTypes:=#[t,t] }) (ht:Tryz.prog.underlying t=some (.slice 3))
 (base:Nat) (v:Value) (n:Nat) (xs:List Int) (hs:a.eval s=v) (hown:Own w base v n xs)
 (B:Nat) (A:Option Addr) (m c:Nat) (zs:List Int) (hx:a.eval x = .slice A m c) (hr:aE w B A m zs)
 (h63:n+m<=100000000) (hbase:base<=w.heap.size)
 (h:∀v' w',Own w' base v' (n+m) (xs ++ zs)->w.grownBy w' v.ownBlock->(v'.ownBlock=v.ownBlock\/v'.ownBlock=some w.heap.size)->K (a.put o.dst v') w') :
 if Region.wanted o (yielded ops a.tmps)=true then Oper.wp Tryz.prog o a w K Q else E:=by
 have hw:Region.wanted o (yielded ops a.tmps)=true:=by simp [Region.wanted,hgd]
 rw [if_pos hw];obtain⟨v',w',hrun,h2,h3,h4⟩:=tM t o.type ht hown c hr h63 hbase;unfold Oper.wp execOp;simp only [ho,resolve,invoke,builtin,Sem.run_bind,Sem.run_pure,Result.andThen_ok,List.map_toArray,List.map_cons,List.map_nil,hs,hx,hrun];exact h v' w' h2 h3 h4
theorem zZ{w:World}{ops:Array Oper}{rest:List Oper}{o:Oper}{a:Act}{Q:Exit->Act->World->Prop}(hgd:o.guard=none)(s x:Operand)(t:TypeId)
 (ho:o.op = .call { callee:=.builtin .append,args:=#[s,x],argTypes:=#[t,t] }) (ht:Tryz.prog.underlying t=some (.slice 3))
 (base:Nat) (v:Value) (n:Nat) (xs:List Int) (hs:a.eval s=v) (hown:Own w base v n xs)
 (B:Nat) (A:Option Addr) (m c:Nat) (zs:List Int) (hx:a.eval x = .slice A m c) (hr:aE w B A m zs)
 (h63:n+m<=100000000) (hbase:base<=w.heap.size)
 (h:∀v' w',Own w' base v' (n+m) (xs ++ zs)->w.grownBy w' v.ownBlock->(v'.ownBlock=v.ownBlock\/v'.ownBlock=some w.heap.size)->wpList Tryz.prog ops Q rest (a.put o.dst v') w'):wpList Tryz.prog ops Q (o :: rest) a w:=
 wpList_plain hgd fun K hK=>by
  obtain⟨v',w',hrun,h2,h3,h4⟩:=tM t o.type ht hown c hr h63 hbase;unfold Oper.wp execOp;simp only [ho,resolve,invoke,builtin,Sem.run_bind,Sem.run_pure,Result.andThen_ok,List.map_toArray,List.map_cons,List.map_nil,hs,hx,hrun];exact hK _ _ (h v' w' h2 h3 h4)
def D2(x:Int)(w:World)(e:Ending)(w':World):Prop:=e = .returned (.int .i64 x)/\w=w'
theorem pB(x y:Int)(w:World)(hx0:0<=x)(hx:x=aG\/x<=1152921504606846976)(hy0:0<=y)(hy:y=aG\/y<=1152921504606846976) :
 Calls Tryz.prog 44 #[.int .i64 x,.int .i64 y] w (D2 (pl x y) w):=by
 by_cases h1:x=aG
 ·have fin:pl x y=aG:=by unfold pl;rw [if_pos (.inl h1)]
  rw [fin];subst h1;clear fin hx hx0 hy hy0;unfold aG;go_enter Tryz.func44,Tryz.ntmps44
  go_wp2_with fail
  go_ret
  exact⟨rfl,rfl⟩
 ·have hx':=hx.resolve_left h1;have d1:(x == 4611686018427387904)=false:=by simp only [beq_eq_false_iff_ne];exact h1
  by_cases h2:y=aG
  ·have fin:pl x y=aG:=by unfold pl;rw [if_pos (.inr h2)]
   rw [fin];have d2:(y == 4611686018427387904)=true:=by rw [h2];rfl
   clear fin hx hx0 hy hy0 h1 h2 hx';unfold aG;go_enter Tryz.func44,Tryz.ntmps44
   go_wp2_with fail
   go_ret
   exact⟨rfl,rfl⟩
  ·have hy':=hy.resolve_left h2;have d2:(y == 4611686018427387904)=false:=by simp only [beq_eq_false_iff_ne];exact h2
   have fin:pl x y=x+y:=by unfold pl;rw [if_neg (by rintro (h|h);exact h1 h;exact h2 h)]
   rw [fin];clear fin hx hy h1 h2;go_enter Tryz.func44,Tryz.ntmps44
   go_wp2_with fail
   go_ret
   exact⟨rfl,rfl⟩
theorem a3g{P:Program}{T kt et:TypeId}{r clock:Nat}{es:Array MapEntry}{k:Int}{val:Value}{w:World}(hm:P.underlying T=some (.map kt et))(hk:P.underlying kt=some (.int .i64))(hb:w.heap[r]?=some (.map es clock))(hf:Instr.findNow (.int .i64) (.int .i64 k) es.toList 0=some none) :
 (Instr.mapUpdate T (.map (some r)) (.int .i64 k) val).run P w = .ok () { w with heap:=w.heap.setIfInBounds r (.map (es.push { key:=.int .i64 k,val:=val,born:=clock }) (clock+1)) }:=by
 have hc:(Instr.checkKey false 10000 kt (.int .i64 k)).run P w = .ok () w:=MapKept.run_checkKey (k:=.int .i64 k) hk (by simp [MapKept.IsKey]) false 9999;simp [Instr.mapUpdate,run_underlying hm,MapKept.run_getObj_map hb,hc,MapKept.run_findKey hk hf,MapKept.run_setObj_map _ hb,Result.andThen]
theorem a3a{P:Program}{T kt et:TypeId}{r clock i:Nat}{es:Array MapEntry}{k:Int}{val:Value}{w:World}(hm:P.underlying T=some (.map kt et))(hk:P.underlying kt=some (.int .i64))(hb:w.heap[r]?=some (.map es clock))(hf:Instr.findNow (.int .i64) (.int .i64 k) es.toList 0=some (some (i,val))) :
 (Instr.lookup T (.map (some r)) (.int .i64 k) true).run P w = .ok (.tuple #[val,.bool true]) w:=by
 have hc:∀e,(Instr.checkKey e 10000 kt (.int .i64 k)).run P w = .ok () w:=fun e=>MapKept.run_checkKey (k:=.int .i64 k) hk (by simp [MapKept.IsKey]) e 9999
 simp [Instr.lookup,run_underlying hm,MapKept.run_getObj_map hb,hc,MapKept.run_findKey hk hf,Result.andThen]
theorem G6{B:Nat}{w w':World}(h:Below B w w'){r:Nat}(hr:B<=r)(o:Obj):Below B w { w' with heap:=w'.heap.setIfInBounds r o }:=
 h.trans ⟨rfl,rfl,rfl,by simp,fun k hk=>by simp [Array.getElem?_setIfInBounds_ne (show r≠k by omega)]⟩
structure pM(w0 w:World)(r:Nat)(es:Array MapEntry)(clock:Nat):Prop where
 at_:w.heap[r]?=some (.map es clock)
 bw:Below w0.heap.size w0 w
 hr:w0.heap.size<=r
theorem pM.next{w0 w:World}{r clock:Nat}{es:Array MapEntry}(h:pM w0 w r es clock)(k:Int)(val:Value)(hf:Instr.findNow (.int .i64) (.int .i64 k) es.toList 0=some none) :
 ∃w',(Instr.mapUpdate 167 (.map (some r)) (.int .i64 k) val).run Tryz.prog w = .ok () w'/\pM w0 w' r (es.push { key:=.int .i64 k,val:=val,born:=clock }) (clock+1):=
 ⟨_,a3g Tryz.underlying167 Tryz.underlying3 h.at_ hf,by
  have hlt:r<w.heap.size:=(Array.getElem?_eq_some_iff.1 h.at_).1;simp [hlt],G6 h.bw h.hr _,h.hr⟩
def eU:Int->Value
 | 1=>.iface 162 (.agg #[])
 | 2=>.iface 163 (.agg #[])
 | 3=>.iface 164 (.agg #[])
 | 4=>.iface 165 (.agg #[])
 | _=>.iface 166 (.agg #[])
theorem oT(k:Int)(h1:1<=k)(h2:k<=5)(w:World) :
 Calls Tryz.prog 76 #[.int .i64 k] w fun e w'=>e = .returned (.tuple #[eU k,.bool true])/\Below w.heap.size w w':=by
 have hmm:=@run_makeMap Tryz.prog;have M0:pM w (w.alloc (.map #[] 0)) w.heap.size #[] 0:=⟨heap_alloc_new w _,aF w _,Nat.le_refl _⟩
 obtain⟨w1,u1,M1⟩:=M0.next 1 (eU 1) rfl;obtain⟨w2,u2,M2⟩:=M1.next 2 (eU 2) rfl;obtain⟨w3,u3,M3⟩:=M2.next 3 (eU 3) rfl;obtain⟨w4,u4,M4⟩:=M3.next 4 (eU 4) rfl;obtain⟨w5,u5,M5⟩:=M4.next 5 (eU 5) rfl;have BW:=aA M5.bw;have LK:∀(j:Int) (i:Nat) (v:Value),Instr.findNow (.int .i64) (.int .i64 (j:Int)) _ 0=some (some (i,v))->_:=fun j i v hf=>a3a Tryz.underlying167 Tryz.underlying3 M5.at_ hf
 clear M0 M1 M2 M3 M4 M5;simp only [eU] at u1 u2 u3 u4 u5;rcases (show k=1\/k=2\/k=3\/k=4\/k=5 by omega) with rfl|rfl|rfl|rfl|rfl
 ·have lk:=LK 1 0 (eU 1) rfl;simp only [eU] at lk ⊢;clear LK h1 h2;go_enter Tryz.func76,Tryz.ntmps76
  go_wp2_with fail
  exact bodyPost_ret (v:=.tuple #[.iface 162 (.agg #[]),.bool true]) (by simp [results,Tryz.results76,go_sem]) rfl ⟨rfl,BW.out⟩
 ·have lk:=LK 2 1 (eU 2) rfl;simp only [eU] at lk ⊢;clear LK h1 h2;go_enter Tryz.func76,Tryz.ntmps76
  go_wp2_with fail
  exact bodyPost_ret (v:=.tuple #[.iface 163 (.agg #[]),.bool true]) (by simp [results,Tryz.results76,go_sem]) rfl ⟨rfl,BW.out⟩
 ·have lk:=LK 3 2 (eU 3) rfl;simp only [eU] at lk ⊢;clear LK h1 h2;go_enter Tryz.func76,Tryz.ntmps76
  go_wp2_with fail
  exact bodyPost_ret (v:=.tuple #[.iface 164 (.agg #[]),.bool true]) (by simp [results,Tryz.results76,go_sem]) rfl ⟨rfl,BW.out⟩
 ·have lk:=LK 4 3 (eU 4) rfl;simp only [eU] at lk ⊢;clear LK h1 h2;go_enter Tryz.func76,Tryz.ntmps76
  go_wp2_with fail
  exact bodyPost_ret (v:=.tuple #[.iface 165 (.agg #[]),.bool true]) (by simp [results,Tryz.results76,go_sem]) rfl ⟨rfl,BW.out⟩
 ·have lk:=LK 5 4 (eU 5) rfl;simp only [eU] at lk ⊢;clear LK h1 h2;go_enter Tryz.func76,Tryz.ntmps76
  go_wp2_with fail
  exact bodyPost_ret (v:=.tuple #[.iface 166 (.agg #[]),.bool true]) (by simp [results,Tryz.results76,go_sem]) rfl ⟨rfl,BW.out⟩
end Go.Proofs.YtaejfleahamapaaGreat
