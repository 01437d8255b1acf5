/- What Police lets pass keeps the curve (plain). -/
import Derived.Test.YtaejfleahamapaaGreatPp17
import Derived.Test.YtaejfleahamapaaGreatPp13
import Derived.Test.YtaejfleahamapaaGreatPp18
namespace Go.Proofs.YtaejfleahamapaaGreat
set_option linter.unusedVariables false
set_option linter.unusedSimpArgs false
section
open Go.RowKit
def AvS(f:Cv)(c:Int)(ps:List PK):Prop:=∀a b:Nat,a≤b→aV c ps b-aV c ps a≤f.at (b-a)
def pr2(x:PK):Int × Int:=(x.tm,x.sz)
def tS(s:Int):List (Int × Int)→Int
 | []=>0
 | p :: l=>(if s≤p.1 then p.2 else 0)+tS s l
theorem tS_snoc(s:Int)(p:Int × Int):∀l,tS s (l ++ [p])=tS s l+(if s≤p.1 then p.2 else 0)
 | []=>by simp [tS]
 | q :: l=>by rw [List.cons_append,tS,tS_snoc s p l,tS];omega
theorem tS_zero{s:Int}:∀{l:List (Int × Int)},(∀p∈l,p.1<s)→tS s l=0
 | [],_=>rfl
 | p :: l,h=>by
   have:=h p (List.mem_cons_self ..)
   rw [tS,if_neg (by omega),tS_zero (fun q hq=>h q (List.mem_cons_of_mem _ hq))]
   rfl
def Dsc:List (Int × Int)→Prop
 | []=>True
 | p :: l=>(∀q∈l,q.1≤p.1)∧Dsc l
theorem tS_at{s:Int}:∀{l:List (Int × Int)},Dsc l→tS s l=0∨∃(i:Nat) (p:Int × Int),l[i]?=some p∧s≤p.1∧tS s l=ssum l i
 | [],_=>.inl rfl
 | p :: l,h=>by
   by_cases hs:s≤p.1
   ·refine .inr ?_;rcases tS_at (s:=s) h.2 with h0 | ⟨i,q,h1,h2,h3⟩
    ·exact⟨0,p,rfl,hs,by rw [tS,if_pos hs,h0,ssum,Int.add_zero]⟩
    ·exact⟨i+1,q,by simpa using h1,h2,by rw [tS,if_pos hs,h3,ssum]⟩
   ·exact .inl (by rw [tS,if_neg hs,tS_zero (fun q hq=>by have:=h.1 q hq;omega)];rfl)
theorem Dsc_snoc{p:Int × Int}:∀{l:List (Int × Int)},Dsc l→(∀q∈l,p.1≤q.1)→Dsc (l ++ [p])
 | [],_,_=>⟨fun q hq=>(by cases hq),trivial⟩
 | q :: l,h,hp=>by
   refine⟨fun r hr=>?_,Dsc_snoc h.2 (fun r hr=>hp r (List.mem_cons_of_mem _ hr))⟩
   rcases List.mem_append.1 hr with h1|h1
   ·exact h.1 r h1
   ·rw [List.mem_singleton] at h1;subst h1;exact hp q (List.mem_cons_self ..)
theorem zip_pr(l:List PK):(l.map PK.tm).zip (l.map PK.sz)=l.map pr2:=by
 induction l with
 | nil=>rfl
 | cons x l ih=>simp only [List.map_cons,List.zip_cons_cons,ih];rfl
def Srt:List PK→Prop
 | []=>True
 | x :: l=>(∀y∈l,x.tm≤y.tm)∧Srt l
theorem rsOf_cons(c:Int)(x:PK)(ks:List PK):rsOf c (x :: ks)=if x.fl=c then x :: rsOf c ks else rsOf c ks:=by
 unfold rsOf;rw [List.filter_cons];by_cases h:x.fl=c
 ·rw [if_pos h,if_pos (by simpa using h)]
 ·rw [if_neg h,if_neg (by simpa using h)]
theorem rs_Dsc{c:Int}:∀{ks:List PK},Srt ks→Dsc ((rsOf c ks).map pr2).reverse
 | [],_=>trivial
 | x :: ks,h=>by
   rw [rsOf_cons];split
   ·rw [List.map_cons,List.reverse_cons];refine Dsc_snoc (rs_Dsc h.2) (fun q hq=>?_);rw [List.mem_reverse] at hq;obtain⟨y,hy,rfl⟩:=List.mem_map.1 hq;exact h.1 y (List.mem_filter.1 hy).1
   ·exact rs_Dsc h.2
theorem aV_tS{c:Int}(h0:0≤c){T s:Int}(hsT:s≤T):∀{ks:List PK},(∀y∈ks,y.tm<T)→aV c ks T-aV c ks s=tS s ((rsOf c ks).map pr2).reverse
 | [],_=>by simp [aV,selT,bytesV,rsOf,tS]
 | x :: ks,h=>by
   have ih:=aV_tS h0 hsT (ks:=ks) (fun y hy=>h y (List.mem_cons_of_mem _ hy));have hx:=h x (List.mem_cons_self ..);rw [aV_cons h0,aV_cons h0,rsOf_cons];by_cases hc:x.fl=c
   ·rw [if_pos hc,if_pos ⟨hc,hx⟩,List.map_cons,List.reverse_cons,tS_snoc,← ih];show _=_+(if s≤x.tm then x.sz else 0)
    by_cases hs:s≤x.tm
    ·rw [if_pos hs,if_neg (by omega)];omega
    ·rw [if_neg hs,if_pos ⟨hc,by omega⟩];omega
   ·rw [if_neg hc,if_neg (fun h=>hc h.1),if_neg (fun h=>hc h.1),← ih];omega
theorem aV_snoc{c:Int}(h0:0≤c)(x:PK)(t:Int):∀(ks:List PK),aV c (ks ++ [x]) t=aV c ks t+(if x.fl=c∧x.tm<t then x.sz else 0)
 | []=>by rw [List.nil_append,aV_cons h0];simp [aV,selT,bytesV]
 | y :: ks=>by rw [List.cons_append,aV_cons h0,aV_cons h0,aV_snoc h0 x t ks];omega
theorem Srt_snoc{x:PK}:∀{ks:List PK},Srt ks→(∀y∈ks,y.tm≤x.tm)→Srt (ks ++ [x])
 | [],_,_=>⟨fun y hy=>(by cases hy),trivial⟩
 | z :: ks,h,hx=>by
   refine⟨fun y hy=>?_,Srt_snoc h.2 (fun y hy=>hx y (List.mem_cons_of_mem _ hy))⟩
   rcases List.mem_append.1 hy with h1|h1
   ·exact h.1 y h1
   ·rw [List.mem_singleton] at h1;subst h1;exact hx z (List.mem_cons_self ..)
section
variable{f:Cv}{c:Int}{ps ks:List PK}{i:Nat}
theorem PoS.before(hv:Valid ps)(h:PoS f c ps i ks):Srt ks∧∀y∈ks,∀(j:Nat) (x:PK),i≤j→ps[j]?=some x→y.tm≤x.tm:=by
 induction h with
 | nil=>exact⟨trivial,fun y hy=>by cases hy⟩
 | other h hx hf ih=>
   refine⟨Srt_snoc ih.1 (fun y hy=>ih.2 y hy _ _ (Nat.le_refl _) hx),fun y hy j z hj hz=>?_⟩
   rcases List.mem_append.1 hy with h1|h1
   ·exact ih.2 y h1 j z (by omega) hz
   ·rw [List.mem_singleton] at h1;subst h1;exact hv.sorted _ j _ z (by omega) hx hz
 | drop h hx hf he ho ih=>exact⟨ih.1,fun y hy j z hj hz=>ih.2 y hy j z (by omega) hz⟩
 | keep h hx hf he ho ih=>
   refine⟨Srt_snoc ih.1 (fun y hy=>ih.2 y hy _ _ (Nat.le_refl _) hx),fun y hy j z hj hz=>?_⟩
   rcases List.mem_append.1 hy with h1|h1
   ·exact ih.2 y h1 j z (by omega) hz
   ·rw [List.mem_singleton] at h1;subst h1;exact hv.sorted _ j _ z (by omega) hx hz
theorem PoS.keeps(hv:Valid ps)(h0:0≤c)(hf:∀n,¬f.infAt n)(hm:∀a b,a≤b→f.at a≤f.at b)(hz:0≤f.at 0)(h:PoS f c ps i ks):AvS f c ks:=by
 induction h with
 | nil=>
   intro a b hab;have:=hm 0 (b-a) (by omega)
   simp [aV,selT,bytesV]
   omega
 | other h hx hfl ih=>
   intro a b hab;rw [aV_snoc h0,aV_snoc h0,if_neg (fun h=>hfl h.1),if_neg (fun h=>hfl h.1)];have:=ih a b hab
   omega
 | drop h hx hfl he ho ih=>exact ih
 | @keep i ks x t h hx hfl he ht ih=>
   intro a b hab;have hb:=PoS.before hv h;rw [aV_snoc h0,aV_snoc h0];by_cases h1:x.tm<b
   ·by_cases h2:x.tm<a
    ·rw [if_pos ⟨hfl,h1⟩,if_pos ⟨hfl,h2⟩];have:=ih a b hab
     omega
    ·rw [if_pos ⟨hfl,h1⟩,if_neg (fun h=>h2 h.2)];have hlt:∀y∈ks,y.tm<(b:Int):=fun y hy=>by have:=hb.2 y hy i x (Nat.le_refl _) hx;omega
     have e1:=aV_tS h0 (T:=(b:Int)) (s:=(a:Int)) (by omega) hlt;rw [zip_pr] at he;have hg:=hv.good x (List.mem_of_getElem? hx);unfold PK.Good at hg;obtain⟨T,hT⟩:=Int.eq_ofNat_of_zero_le hg.2.2.1;rcases he with ⟨_,_,h⟩|⟨hs1,he⟩
     ·cases h
     ·obtain⟨h3,h4⟩:=ear_true hf he;rcases tS_at (s:=(a:Int)) (rs_Dsc (c:=c) hb.1) with h5 | ⟨j,p,h5,h6,h7⟩
      ·have:=hm 1 (b-a) (by omega)
       omega
      ·obtain⟨h8,u,h9,h10⟩:=h4 j p h5;have:=hm u (b-a) (by omega)
       have:=h9.1
       omega
   ·rw [if_neg (fun h=>h1 h.2),if_neg (fun h=>h1 (by omega))];have:=ih a b hab
    omega
theorem AvS.kp(h:AvS f c ks):KpS f c ks:=fun s t hst _=>h s t (by omega)
theorem PoS.others(h:PoS f c ps i ks){e:Int}(he:0≤e)(hne:e≠c)(t:Int):aV e ks t=aV e (ps.take i) t:=by
 induction h with
 | nil=>rfl
 | @other i ks x h hx hfl ih=>
   rw [aV_snoc he,ih,List.take_add_one,hx];exact(aV_snoc he x t _).symm
 | @drop i ks x t' ok h hx hfl he' ho ih=>
   rw [ih,List.take_add_one,hx];refine Eq.trans ?_ (aV_snoc he x t _).symm;rw [if_neg (fun h=>hne (h.1.symm.trans hfl))];omega
 | @keep i ks x t' h hx hfl he' ht ih=>
   rw [aV_snoc he,ih,List.take_add_one,hx];exact(aV_snoc he x t _).symm
theorem PoS.valid(hv:Valid ps)(h:PoS f c ps i ks)(hi:i≤ps.length):Valid ks:=by
 have hb:=PoS.before hv h;have key:∀(l:List PK),Srt l→∀(k j:Nat) (x y:PK),k≤j→l[k]?=some x→l[j]?=some y→x.tm≤y.tm:=by
  intro l
  induction l with
  | nil=>intro _ k j x y _ h;simp at h
  | cons z l ih=>
    intro hs k j x y hkj hx hy;rcases k with _|k
    ·simp at hx;subst hx;rcases j with _|j
     ·simp at hy;subst hy;exact Int.le_refl _
     ·simp at hy;exact hs.1 y (List.mem_of_getElem? hy)
    ·rcases j with _|j
     ·omega
     ·simp at hx hy;exact ih hs.2 k j x y (by omega) hx hy
 exact⟨by have:=h.len;have:=hv.len;omega,fun x hx=>hv.good x (h.mem x hx),key ks hb.1⟩
end
end
end Go.Proofs.YtaejfleahamapaaGreat
