/- . -/
import Derived.Shelf.SlSortCmp.InsertionK
import Derived.Test.YtaejfleahamapaaGreatTd6
import Derived.Test.YtaejfleahamapaaGreatTd10
namespace Go.Proofs.YtaejfleahamapaaGreat
set_option linter.unusedVariables false
set_option linter.unusedSimpArgs false
section
open Go.RowKit Go.Shelf Go.Sort
structure AR where
 p:PK
 ix:Int
def AR.cells(x:AR):List Value:=[.int .i64 x.p.fl,.int .i64 x.p.tm,.int .i64 x.p.sz,.int .i64 x.ix]
abbrev KQ:Type:={ x:PK // 0<=x.tm/\x.tm<=5000 }
abbrev AQ:Type:={ x:AR // 0<=x.p.tm/\x.p.tm<=5000 }
instance:Inhabited KQ:=⟨⟨⟨0,0,0⟩,by decide⟩⟩
instance:Inhabited AQ:=⟨⟨⟨⟨0,0,0⟩,0⟩,by decide⟩⟩
def iC(x:KQ):List Value:=x.1.cells
def iB(x:AQ):List Value:=x.1.cells
def e8(x y:KQ):Int:=if x.1.tm<y.1.tm then -1 else if y.1.tm<x.1.tm then 1 else 0
def hU(x y:AQ):Int:=x.1.p.tm-y.1.p.tm
theorem xK(x y:KQ):ltOf e8 x y=decide (x.1.tm<y.1.tm):=by
 unfold ltOf e8;by_cases h:x.1.tm<y.1.tm
 ·rw [if_pos h];simp [h]
 ·rw [if_neg h];by_cases h2:y.1.tm<x.1.tm
  ·rw [if_pos h2];simp [h]
  ·rw [if_neg h2];simp [h]
theorem xJ(x y:AQ):ltOf hU x y=decide (x.1.p.tm<y.1.p.tm):=by
 unfold ltOf hU;by_cases h:x.1.p.tm<y.1.p.tm
 ·simp [h];omega
 ·simp [h];omega
theorem uC{α:Type}(key:α->Int)(lt:α->α->Bool)(h:∀x y,lt x y=decide (key x<key y)):SWO lt:=by
 refine⟨fun x=>by rw [h];simp,fun x y z h1 h2=>?_,fun x y z h1 h2=>?_⟩
 ·rw [h] at h1 h2 ⊢;have h1:=of_decide_eq_true h1;have h2:=of_decide_eq_true h2;exact decide_eq_true (by omega)
 ·rw [h] at h1 h2 ⊢;have h1:=of_decide_eq_false h1;have h2:=of_decide_eq_false h2;exact decide_eq_false (by omega)
def a2b:Ren:=⟨fun n=>match n with|20=>150|n=>n,fun t=>match t with|22=>46|24=>71|25=>198|t=>t,fun g=>g⟩
def a2a:Ren:=⟨fun n=>match n with|20=>144|n=>n,fun t=>match t with|22=>183|24=>185|25=>187|t=>t,fun g=>g⟩
theorem Y8:SlLaysF0.n20 Tryz.prog a2b:=
 { mixed:=by kernel_rfl,f20:=⟨Tryz.f150.name,by kernel_rfl,by kernel_rfl⟩,t0:=by kernel_rfl,a0:=Tryz.isAgg0,z0:=Tryz.sizeOf0,v0:=Tryz.zeroValue0,t3:=by kernel_rfl,a3:=Tryz.isAgg3,z3:=Tryz.sizeOf3,v3:=Tryz.zeroValue3,t4:=by kernel_rfl,a4:=Tryz.isAgg4,z4:=Tryz.sizeOf4,v4:=Tryz.zeroValue4,t22:=by kernel_rfl,a22:=Tryz.isAgg46,z22:=Tryz.sizeOf46,v22:=Tryz.zeroValue46,t25:=by kernel_rfl,a25:=Tryz.isAgg198,z25:=Tryz.sizeOf198,v25:=Tryz.zeroValue198 }
theorem Y7:SlLaysF0.n20 Tryz.prog a2a:=
 { mixed:=by kernel_rfl,f20:=⟨Tryz.f144.name,by kernel_rfl,by kernel_rfl⟩,t0:=by kernel_rfl,a0:=Tryz.isAgg0,z0:=Tryz.sizeOf0,v0:=Tryz.zeroValue0,t3:=by kernel_rfl,a3:=Tryz.isAgg3,z3:=Tryz.sizeOf3,v3:=Tryz.zeroValue3,t4:=by kernel_rfl,a4:=Tryz.isAgg4,z4:=Tryz.sizeOf4,v4:=Tryz.zeroValue4,t22:=by kernel_rfl,a22:=Tryz.isAgg183,z22:=Tryz.sizeOf183,v22:=Tryz.zeroValue183,t25:=by kernel_rfl,a25:=Tryz.isAgg187,z25:=Tryz.sizeOf187,v25:=Tryz.zeroValue187 }
theorem iD(w:World)(a b:Obj):∃q os,(w.alloc a).alloc b=grow (w.drewN q) os:=⟨0,#[a,b],by rw [alloc_eq_grow,alloc_eq_grow,grow_grow];rfl⟩
theorem I8(x y:KQ)(w:World):Calls Tryz.prog 137 (#[.agg (iC x).toArray,.agg (iC y).toArray] ++ #[]) w fun e w'=>e = .returned (.int .i64 (e8 x y))/\∃q os,w'=grow (w.drewN q) os:=by
 show Calls _ _ #[.agg #[.int .i64 x.1.fl,.int .i64 x.1.tm,.int .i64 x.1.sz],.agg #[.int .i64 y.1.fl,.int .i64 y.1.tm,.int .i64 y.1.sz]] _ _
 have F:=aA (iD w (.cells #[.int .i64 x.1.fl,.int .i64 x.1.tm,.int .i64 x.1.sz] 71) (.cells #[.int .i64 y.1.fl,.int .i64 y.1.tm,.int .i64 y.1.sz] 71));have C:=aA (show e8 x y=_ from rfl);by_cases h:x.1.tm<y.1.tm
 ·replace C:=aA (show e8 x y = -1 by unfold e8;rw [if_pos h]);go_enter Tryz.func137,Tryz.ntmps137
  go_wp2_with fail
  go_ret
  exact⟨by rw [C.out];rfl,F.out⟩
 ·by_cases h2:y.1.tm<x.1.tm
  ·replace C:=aA (show e8 x y=1 by unfold e8;rw [if_neg h,if_pos h2]);go_enter Tryz.func137,Tryz.ntmps137
   go_wp2_with fail
   go_ret
   exact⟨by rw [C.out];rfl,F.out⟩
  ·replace C:=aA (show e8 x y=0 by unfold e8;rw [if_neg h,if_neg h2]);go_enter Tryz.func137,Tryz.ntmps137
   go_wp2_with fail
   go_ret
   exact⟨by rw [C.out];rfl,F.out⟩
theorem I7(x y:AQ)(w:World):Calls Tryz.prog 118 (#[.agg (iB x).toArray,.agg (iB y).toArray] ++ #[]) w fun e w'=>e = .returned (.int .i64 (hU x y))/\∃q os,w'=grow (w.drewN q) os:=by
 show Calls _ _ #[.agg #[.int .i64 x.1.p.fl,.int .i64 x.1.p.tm,.int .i64 x.1.p.sz,.int .i64 x.1.ix],.agg #[.int .i64 y.1.p.fl,.int .i64 y.1.p.tm,.int .i64 y.1.p.sz,.int .i64 y.1.ix]] _ _
 have F:=aA (iD w (.cells #[.int .i64 x.1.p.fl,.int .i64 x.1.p.tm,.int .i64 x.1.p.sz,.int .i64 x.1.ix] 185) (.cells #[.int .i64 y.1.p.fl,.int .i64 y.1.p.tm,.int .i64 y.1.p.sz,.int .i64 y.1.ix] 185));have hx:=x.2;have hy:=y.2;have C:=aA (show hU x y=x.1.p.tm-y.1.p.tm from rfl);have ew:IntKind.i64.wrap (x.1.p.tm-y.1.p.tm)=x.1.p.tm-y.1.p.tm:=IntWalk.i64_in _ (by omega);go_enter Tryz.func118,Tryz.ntmps118
 go_wp2_with fail
 go_ret
 exact⟨by rw [C.out];rfl,F.out⟩
theorem a01(x:KQ):∀v∈iC x,v.oneCell'=true:=by
 intro v hv;simp only [iC,PK.cells,List.mem_cons,List.not_mem_nil,or_false] at hv;rcases hv with rfl|rfl|rfl <;> rfl
theorem a00(x:AQ):∀v∈iB x,v.oneCell'=true:=by
 intro v hv;simp only [iB,AR.cells,List.mem_cons,List.not_mem_nil,or_false] at hv;rcases hv with rfl|rfl|rfl|rfl <;> rfl
theorem a4i(blk off cap:Nat)(d:Array KQ)(w:World)(hH:HoldsK iC 3 w blk off d)(hblk:blk<w.heap.size)(hn:d.size<=19) :
 Calls Tryz.prog 146 #[.slice (some ⟨blk,off,none⟩) d.size cap,.int .i64 d.size,.func (.func 137) #[] #[]] w fun e w'=>e = .returned (.tuple #[])/\∃n os,w'=sortWorldK iC 3 w blk off n (insertionSort (ltOf e8) d 0 d.size) os:=by
 have H:=aA hH;clear hH;have HN:=aA hn;obtain⟨N,hN⟩:∃N,N=d.size:=⟨_,rfl⟩
 have hN2:N<=19:=by omega
 have c1:¬(20:Int)<=N:=by omega
 have c2:¬(20:Int)<N:=by omega
 have HE:=aA hN;rw [<- hN];clear hN hn;go_enter Tryz.func146,Tryz.ntmps146
 go_wp2_with fail
 go_loopg [7,8,11] 0 (fun gg s7 s8 _ wr=>s7 = .int .i64 0/\s8 = .int .i64 20/\wr=w)
 case atStart=>exact⟨rfl,rfl,rfl⟩
 case round=>
  obtain⟨rfl,rfl,rfl⟩:=hrel;go_wp2_with fail
  have hH:=H.out;have hn:=HE.out;have hcal:=AnyQ.insertionSortCmpFunc Y8 3 Tryz.isAgg71 Tryz.sizeOf71 iC (fun x=>rfl) a01 e8 137 #[] blk off cap 0 d.size d wr (enters_of Tryz.func137 (by kernel_rfl) rfl) (fun m os dk hdk x y=>I8 x y _) hH hblk (Nat.zero_le _) (Nat.le_refl _) (by omega);rw [<- hn] at hcal;have hcal:Calls Tryz.prog 150 #[.slice (some ⟨blk,off,none⟩) N cap,.int .i64 0,.int .i64 N,.func (.func 137) #[] #[]] wr _:=hcal;refine hcal.mono ?_;rintro e wx ⟨rfl,hx⟩;have HX:=aA hx;clear hx hH hcal;go_wp2_with fail
  go_loopg [6,28] 0 (fun gg s6 _ wq=>s6 = .int .i64 20/\wq=wx)
  case atStart=>exact⟨rfl,rfl⟩
  case round=>
   obtain⟨rfl,rfl⟩:=hrel;go_wp2_with fail
   exact bodyPost_end (v:=.tuple #[]) (by simp [results,Tryz.results146,go_sem]) rfl ⟨rfl,HX.out⟩
theorem a4g(blk off cap:Nat)(d:Array KQ)(w:World)(hH:HoldsK iC 3 w blk off d)(hblk:blk<w.heap.size)(hn:d.size<=19) :
 Calls Tryz.prog 136 #[.slice (some ⟨blk,off,none⟩) d.size cap,.func (.func 137) #[] #[]] w fun e w'=>e = .returned (.tuple #[])/\∃n os,w'=sortWorldK iC 3 w blk off n (insertionSort (ltOf e8) d 0 d.size) os:=by
 have H:=aA hH;clear hH;go_enter Tryz.func136,Tryz.ntmps136
 go_wp2_with fail
 refine(a4i blk off cap d w H.out hblk hn).mono ?_;rintro e wx ⟨rfl,hx⟩;have HX:=aA hx;clear hx;go_wp2_with fail
 exact bodyPost_end (v:=.tuple #[]) (by simp [results,Tryz.results136,go_sem]) rfl ⟨rfl,HX.out⟩
theorem a38(w:World):Calls Tryz.prog 136 #[.slice none 0 0,.func (.func 137) #[] #[]] w fun e w'=>e = .returned (.tuple #[])/\w'=w:=by
 have hi:Calls Tryz.prog 150 #[.slice none 0 0,.int .i64 0,.int .i64 0,.func (.func 137) #[] #[]] w fun e w'=>e = .returned (.tuple #[])/\w'=w:=by
  go_enter Tryz.func150,Tryz.ntmps150
  go_wp2_with fail
  go_loopg [8] 0 (fun gg s8 wr=>s8 = .int .i64 1/\wr=w)
  case atStart=>exact⟨rfl,rfl⟩
  case round=>
   obtain⟨rfl,rfl⟩:=hrel;go_wp2_with fail
   exact bodyPost_end (v:=.tuple #[]) (by simp [results,Tryz.results150,go_sem]) rfl ⟨rfl,rfl⟩
 have hs:Calls Tryz.prog 146 #[.slice none 0 0,.int .i64 0,.func (.func 137) #[] #[]] w fun e w'=>e = .returned (.tuple #[])/\w'=w:=by
  have HI:=aA hi;clear hi;go_enter Tryz.func146,Tryz.ntmps146
  go_wp2_with fail
  go_loopg [7,8,11] 0 (fun gg s7 s8 _ wr=>s7 = .int .i64 0/\s8 = .int .i64 20/\wr=w)
  case atStart=>exact⟨rfl,rfl,rfl⟩
  case round=>
   obtain⟨rfl,rfl,rfl⟩:=hrel;go_wp2_with fail
   refine HI.out.mono ?_;rintro e wx ⟨rfl,rfl⟩;go_wp2_with fail
   go_loopg [6,28] 0 (fun gg s6 _ wq=>s6 = .int .i64 20/\wq=wx)
   case atStart=>exact⟨rfl,rfl⟩
   case round=>
    obtain⟨rfl,rfl⟩:=hrel;go_wp2_with fail
    exact bodyPost_end (v:=.tuple #[]) (by simp [results,Tryz.results146,go_sem]) rfl ⟨rfl,rfl⟩
 have HS:=aA hs;clear hi hs;go_enter Tryz.func136,Tryz.ntmps136
 go_wp2_with fail
 refine HS.out.mono ?_;rintro e wx ⟨rfl,rfl⟩;go_wp2_with fail
 exact bodyPost_end (v:=.tuple #[]) (by simp [results,Tryz.results136,go_sem]) rfl ⟨rfl,rfl⟩
theorem a4h(blk off cap:Nat)(d:Array AQ)(w:World)(hH:HoldsK iB 4 w blk off d)(hblk:blk<w.heap.size)(hn:d.size<=19) :
 Calls Tryz.prog 135 #[.slice (some ⟨blk,off,none⟩) d.size cap,.int .i64 d.size,.func (.func 118) #[] #[]] w fun e w'=>e = .returned (.tuple #[])/\∃n os,w'=sortWorldK iB 4 w blk off n (insertionSort (ltOf hU) d 0 d.size) os:=by
 have H:=aA hH;clear hH;have HN:=aA hn;obtain⟨N,hN⟩:∃N,N=d.size:=⟨_,rfl⟩
 have hN2:N<=19:=by omega
 have c1:¬(20:Int)<=N:=by omega
 have c2:¬(20:Int)<N:=by omega
 have HE:=aA hN;rw [<- hN];clear hN hn;go_enter Tryz.func135,Tryz.ntmps135
 go_wp2_with fail
 go_loopg [7,8,11] 0 (fun gg s7 s8 _ wr=>s7 = .int .i64 0/\s8 = .int .i64 20/\wr=w)
 case atStart=>exact⟨rfl,rfl,rfl⟩
 case round=>
  obtain⟨rfl,rfl,rfl⟩:=hrel;go_wp2_with fail
  have hH:=H.out;have hn:=HE.out;have hcal:=AnyQ.insertionSortCmpFunc Y7 4 Tryz.isAgg185 Tryz.sizeOf185 iB (fun x=>rfl) a00 hU 118 #[] blk off cap 0 d.size d wr (enters_of Tryz.func118 (by kernel_rfl) rfl) (fun m os dk hdk x y=>I7 x y _) hH hblk (Nat.zero_le _) (Nat.le_refl _) (by omega);rw [<- hn] at hcal;have hcal:Calls Tryz.prog 144 #[.slice (some ⟨blk,off,none⟩) N cap,.int .i64 0,.int .i64 N,.func (.func 118) #[] #[]] wr _:=hcal;refine hcal.mono ?_;rintro e wx ⟨rfl,hx⟩;have HX:=aA hx;clear hx hH hcal;go_wp2_with fail
  go_loopg [6,28] 0 (fun gg s6 _ wq=>s6 = .int .i64 20/\wq=wx)
  case atStart=>exact⟨rfl,rfl⟩
  case round=>
   obtain⟨rfl,rfl⟩:=hrel;go_wp2_with fail
   exact bodyPost_end (v:=.tuple #[]) (by simp [results,Tryz.results135,go_sem]) rfl ⟨rfl,HX.out⟩
theorem a4f(blk off cap:Nat)(d:Array AQ)(w:World)(hH:HoldsK iB 4 w blk off d)(hblk:blk<w.heap.size)(hn:d.size<=19) :
 Calls Tryz.prog 117 #[.slice (some ⟨blk,off,none⟩) d.size cap,.func (.func 118) #[] #[]] w fun e w'=>e = .returned (.tuple #[])/\∃n os,w'=sortWorldK iB 4 w blk off n (insertionSort (ltOf hU) d 0 d.size) os:=by
 have H:=aA hH;clear hH;go_enter Tryz.func117,Tryz.ntmps117
 go_wp2_with fail
 refine(a4h blk off cap d w H.out hblk hn).mono ?_;rintro e wx ⟨rfl,hx⟩;have HX:=aA hx;clear hx;go_wp2_with fail
 exact bodyPost_end (v:=.tuple #[]) (by simp [results,Tryz.results117,go_sem]) rfl ⟨rfl,HX.out⟩
theorem a37(w:World):Calls Tryz.prog 117 #[.slice none 0 0,.func (.func 118) #[] #[]] w fun e w'=>e = .returned (.tuple #[])/\w'=w:=by
 have hi:Calls Tryz.prog 144 #[.slice none 0 0,.int .i64 0,.int .i64 0,.func (.func 118) #[] #[]] w fun e w'=>e = .returned (.tuple #[])/\w'=w:=by
  go_enter Tryz.func144,Tryz.ntmps144
  go_wp2_with fail
  go_loopg [8] 0 (fun gg s8 wr=>s8 = .int .i64 1/\wr=w)
  case atStart=>exact⟨rfl,rfl⟩
  case round=>
   obtain⟨rfl,rfl⟩:=hrel;go_wp2_with fail
   exact bodyPost_end (v:=.tuple #[]) (by simp [results,Tryz.results144,go_sem]) rfl ⟨rfl,rfl⟩
 have hs:Calls Tryz.prog 135 #[.slice none 0 0,.int .i64 0,.func (.func 118) #[] #[]] w fun e w'=>e = .returned (.tuple #[])/\w'=w:=by
  have HI:=aA hi;clear hi;go_enter Tryz.func135,Tryz.ntmps135
  go_wp2_with fail
  go_loopg [7,8,11] 0 (fun gg s7 s8 _ wr=>s7 = .int .i64 0/\s8 = .int .i64 20/\wr=w)
  case atStart=>exact⟨rfl,rfl,rfl⟩
  case round=>
   obtain⟨rfl,rfl,rfl⟩:=hrel;go_wp2_with fail
   refine HI.out.mono ?_;rintro e wx ⟨rfl,rfl⟩;go_wp2_with fail
   go_loopg [6,28] 0 (fun gg s6 _ wq=>s6 = .int .i64 20/\wq=wx)
   case atStart=>exact⟨rfl,rfl⟩
   case round=>
    obtain⟨rfl,rfl⟩:=hrel;go_wp2_with fail
    exact bodyPost_end (v:=.tuple #[]) (by simp [results,Tryz.results135,go_sem]) rfl ⟨rfl,rfl⟩
 have HS:=aA hs;clear hi hs;go_enter Tryz.func117,Tryz.ntmps117
 go_wp2_with fail
 refine HS.out.mono ?_;rintro e wx ⟨rfl,rfl⟩;go_wp2_with fail
 exact bodyPost_end (v:=.tuple #[]) (by simp [results,Tryz.results117,go_sem]) rfl ⟨rfl,rfl⟩
end
section
open Go.RowKit Go.Shelf Go.Sort
structure f9{α:Type}(key:α->Int)(xs ys:List α):Prop where
 p:ys.Perm xs
 s:∀(i j:Nat) (a b:α),i<j->ys[i]?=some a->ys[j]?=some b->key a<=key b
 f:∀p:α->Bool,(xs.filter p).Pairwise (fun a b=>key a<=key b)->ys.filter p=xs.filter p
theorem sK{α:Type}{P:α->Prop}:∀(xs:List α),(∀x∈xs,P x)->∃ys:List { x // P x },ys.map Subtype.val=xs
 | [],_=>⟨[],rfl⟩
 | x :: xs,h=>by
   obtain⟨ys,hy⟩:=sK xs (fun y hy=>h y (List.mem_cons_of_mem _ hy));exact⟨⟨x,h x (List.mem_cons_self ..)⟩ :: ys,by rw [List.map_cons,hy]⟩
theorem zJ{α:Type}{P:α->Prop} [Inhabited { x // P x }](key:α->Int)(lt:{ x // P x }->{ x // P x }->Bool)(hlt:∀x y,lt x y=decide (key x.1<key y.1))(ys:List { x // P x }) :
 f9 key (ys.map Subtype.val) ((insertionSort lt ys.toArray 0 ys.toArray.size).toList.map Subtype.val):=by
 obtain⟨h1,h2,h3⟩:=sU (uC (fun x=>key x.1) lt hlt) ys.toArray;refine⟨h1.map _,fun i j a b hij ha hb=>?_,fun p hp=>?_⟩
 ·rw [List.getElem?_map] at ha hb;obtain⟨a',ha',rfl⟩:=Option.map_eq_some_iff.1 ha;obtain⟨b',hb',rfl⟩:=Option.map_eq_some_iff.1 hb;have hj:j<(insertionSort lt ys.toArray 0 ys.toArray.size).size:=by
   have:=(List.getElem?_eq_some_iff.1 hb').1
   simpa using this
  have h:=h3 i j hij (by rw [<- h2];exact hj);rw [getElem!_pos _ j hj,getElem!_pos _ i (by omega),hlt] at h;have ea:(insertionSort lt ys.toArray 0 ys.toArray.size)[i]'(by omega)=a':=by
   have:=(List.getElem?_eq_some_iff.1 ha').2
   simpa using this
  have eb:(insertionSort lt ys.toArray 0 ys.toArray.size)[j]'hj=b':=by
   have:=(List.getElem?_eq_some_iff.1 hb').2
   simpa using this
  rw [ea,eb] at h;have:=of_decide_eq_false h
  omega
 ·have hq:(ys.toArray.toList.filter (fun x=>p x.1)).Pairwise (fun a b=>lt b a=false):=by
   show(ys.filter (fun x=>p x.1)).Pairwise _
   rw [List.filter_map,List.pairwise_map] at hp;refine hp.imp (fun {a b} h=>?_);rw [hlt];exact decide_eq_false (by omega)
  have h:=Y2 (p:=fun x=>p x.1) ys.toArray hq;rw [List.filter_map,List.filter_map];exact congrArg (List.map Subtype.val) h
section
variable{α:Type} [Inhabited α](enc:α->List Value)(k:Nat)
theorem wV(hk:0<k){w:World}{g:Nat}{d:Array α}(hc:∀i,i<d.size->∀c,c<k->w.cell? ⟨g,i*k+c,none⟩=some (enc d[i]!)[c]!)(hf:∀j,w.frozen? ⟨g,j,none⟩=false):HoldsK enc k w g 0 d:=by
 intro j hj;rw [size_flatK] at hj;rw [get_flatK _ _ _ _ hj,Nat.zero_add];refine⟨?_,hf j⟩
 have h1:j / k<d.size:=Nat.div_lt_of_lt_mul (by rw [Nat.mul_comm];exact hj);have h2:=hc (j / k) h1 (j % k) (Nat.mod_lt _ hk)
 rwa [Nat.div_add_mod'] at h2
theorem zC(w:World)(g n:Nat)(d:Array α)(os:Array Obj):KX (fun k=>k=g) w (sortWorldK enc k w g 0 n d os):=by
 refine⟨rfl,rfl,rfl,size_sortWorldK_c enc k w g 0 n d os,fun j hj hx=>?_⟩
 unfold sortWorldK grow putRowK putRow mapBlock;show(Array.modify w.heap g _ ++ os)[j]?=_
 rw [Array.getElem?_append_left (by simpa using hj),Array.getElem?_modify,if_neg (fun e=>hx e.symm)]
end
theorem a4b{w:World}{base g c:Nat}{xs:List PK}(h:a8 w base (.slice (some ⟨g,0,none⟩) xs.length c) xs.length xs)(hb:∀x∈xs,0<=x.tm/\x.tm<=5000)(hn:xs.length<=19) :
 Calls Tryz.prog 136 #[.slice (some ⟨g,0,none⟩) xs.length c,.func (.func 137) #[] #[]] w fun e w'=>e = .returned (.tuple #[])/\∃ys,f9 PK.tm xs ys/\bN w' (some ⟨g,0,none⟩) xs.length c ys/\KX (fun k=>k=g) w w':=by
 obtain⟨ys,hys⟩:=sK xs hb;have hl:ys.length=xs.length:=by rw [<- hys,List.length_map]
 obtain⟨A',c',e,hls,_⟩:=h.lst;cases e
 have hg:=(h.blk g rfl).2;have hcell:∀(i j:Nat) (x:KQ),ys[i]?=some x->j<3->w.cell? ⟨g,i*3+j,none⟩=x.1.cells[j]?:=fun i j x hx hj=>by
  have hx2:xs[i]?=some x.1:=by rw [<- hys,List.getElem?_map,hx];rfl
  obtain⟨g',o',e,hr⟩:=hls.2.2 (by have:=(List.getElem?_eq_some_iff.1 hx2).1;omega);cases e
  have:=hr.cell i j x.1 hx2 hj
  rwa [Nat.zero_add] at this
 have hH:HoldsK iC 3 w g 0 (ys.toArray:Array KQ):=by
  refine wV iC 3 (by omega) (fun i hi c hc=>?_) (fun j=>World.ownsRow.frozenAt h j);have hi:i<ys.length:=by simpa using hi
  rw [hcell i c ys[i] (List.getElem?_eq_getElem hi) hc,getElem!_pos _ i (by simpa using hi)];have e:(ys.toArray:Array KQ)[i]'(by simpa using hi)=ys[i]:=by simp
  rw [e];rcases (show c=0\/c=1\/c=2 by omega) with rfl|rfl|rfl <;> rfl
 have hs:(ys.toArray:Array KQ).size=xs.length:=by simpa using hl
 have hcal:=a4g g 0 c (ys.toArray:Array KQ) w hH hg (by rw [hs];exact hn);rw [hs] at hcal;refine hcal.mono ?_;rintro e w' ⟨rfl,n,os,rfl⟩;have hS:=zJ PK.tm (ltOf e8) xK ys;have hz:(insertionSort (ltOf e8) (ys.toArray:Array KQ) 0 (ys.toArray:Array KQ).size).size=xs.length:=by rw [(sU (uC (fun x:KQ=>x.1.tm) (ltOf e8) xK) (ys.toArray:Array KQ)).2.1,hs]
 rw [hs,hys] at hS;rw [hs] at hz;have hh:=holdsK_sortWorldK_c iC 3 w g 0 (ys.toArray:Array KQ) (insertionSort (ltOf e8) (ys.toArray:Array KQ) 0 xs.length) n os hH hg (by rw [hz,hs]);have hsz:=size_sortWorldK_c iC 3 w g 0 n (insertionSort (ltOf e8) (ys.toArray:Array KQ) 0 xs.length) os;refine⟨rfl,_,hS,⟨by rw [List.length_map];simpa using hz,hls.2.1,fun h0=>⟨g,0,rfl,by omega,fun i j x hx hj=>?_⟩⟩,zC iC 3 w g n _ os⟩
 rw [List.getElem?_map] at hx;obtain⟨x',hx',rfl⟩:=Option.map_eq_some_iff.1 hx;have hi:i<(insertionSort (ltOf e8) (ys.toArray:Array KQ) 0 xs.length).size:=by
  have:=(List.getElem?_eq_some_iff.1 hx').1
  simpa using this
 have h1:=(hh.cell hi hj).1;have e:(insertionSort (ltOf e8) (ys.toArray:Array KQ) 0 xs.length)[i]! = x':=by
  rw [getElem!_pos _ i hi];have:=(List.getElem?_eq_some_iff.1 hx').2
  simpa using this
 rw [e] at h1;rw [h1];rcases (show j=0\/j=1\/j=2 by omega) with rfl|rfl|rfl <;> rfl
theorem f9.nil_{α:Type}(key:α->Int):f9 key [] []:=⟨List.Perm.refl _,fun i j a b _ h=>by simp at h,fun p _=>rfl⟩
theorem a4c{w:World}{base:Nat}{v:Value}{xs:List PK}(h:a8 w base v xs.length xs)(hb:∀x∈xs,0<=x.tm/\x.tm<=5000)(hn:xs.length<=19) :
 Calls Tryz.prog 136 #[v,.func (.func 137) #[] #[]] w fun e w'=>e = .returned (.tuple #[])/\∃ys A c,v = .slice A xs.length c/\f9 PK.tm xs ys/\bN w' A xs.length c ys/\KX (fun k=>some k=v.ownBlock) w w':=by
 rcases id h.2 with ⟨rfl,h0⟩|⟨g,cap,cur,rfl,_⟩
 ·obtain rfl:=List.eq_nil_of_length_eq_zero h0;refine(a38 w).mono ?_;rintro e w' ⟨rfl,rfl⟩;exact⟨rfl,[],none,0,rfl,f9.nil_ _,⟨rfl,Nat.le_refl _,fun h=>by cases h⟩,KX.refl _ _⟩
 ·refine(a4b h hb hn).mono ?_;rintro e w' ⟨rfl,ys,hs,hl,hk⟩;exact⟨rfl,ys,_,_,rfl,hs,hl,hk.mono (fun k _ e=>by subst e;rfl)⟩
end
section
open Go.RowKit Go.Shelf Go.Sort
structure pQ(w:World)(b o:Nat)(xs:List AR):Prop where
 lt:b<w.heap.size
 cell:∀(k j:Nat) (x:AR),xs[k]?=some x->j<4->w.cell? ⟨b,o+k*4+j,none⟩=x.cells[j]?
def mO(w:World)(A:Option Addr)(n c:Nat)(xs:List AR):Prop:=xs.length=n/\n<=c/\(0<n->∃g o,A=some ⟨g,o,none⟩/\pQ w g o xs)
theorem W5:(Tryz.prog.info? 185).map (fun i=>(i.zero,i.size,i.bytes))=some (some (.agg #[.int .i64 0,.int .i64 0,.int .i64 0,.int .i64 0]),4,32):=by kernel_rfl
def eV(w:World)(base:Nat)(v:Value)(n:Nat)(xs:List AR):Prop:=w.ownsRow base 185 4 v n (xs.flatMap AR.cells)
section
variable{w w':World}{base n:Nat}{v:Value}{xs:List AR}
theorem eV.nil_(w:World)(base:Nat):eV w base (.slice none 0 0) 0 []:=⟨by simp,.inl ⟨rfl,rfl⟩⟩
theorem U3(xs:List AR):(xs.flatMap AR.cells).length=xs.length*4:=by
 induction xs with
 | nil=>rfl
 | cons x xs ih=>
   rw [List.flatMap_cons,List.length_append,ih,List.length_cons];have:x.cells.length=4:=rfl
   omega
theorem wP:∀(xs:List AR) (k j:Nat) (x:AR),xs[k]?=some x->j<4->(xs.flatMap AR.cells)[k*4+j]?=x.cells[j]?
 | [],k,j,x,hk,hj=>by simp at hk
 | y :: xs,0,j,x,hk,hj=>by
   simp at hk;subst hk;rw [List.flatMap_cons,Nat.zero_mul,Nat.zero_add,List.getElem?_append_left (by show j<4;exact hj)]
 | y :: xs,k+1,j,x,hk,hj=>by
   simp at hk;have e:y.cells.length=4:=rfl;rw [List.flatMap_cons,List.getElem?_append_right (by rw [e];omega),e,show(k+1)*4+j-4=k*4+j by omega];exact wP xs k j x hk hj
theorem eV.len(h:eV w base v n xs):xs.length=n:=by
 have h1:(xs.flatMap AR.cells).length=n*4:=h.1;rw [U3] at h1;omega
theorem eV.lst(h:eV w base v n xs):∃A c,v = .slice A n c/\mO w A n c xs/\∀b off s,A=some ⟨b,off,s⟩->base<=b:=by
 have hl:=h.len;obtain⟨h1,h2⟩:=h;rcases h2 with ⟨rfl,h2⟩|⟨g,cap,cur,rfl,hb,hh,hnc,hcm,hcs,hcur⟩
 ·subst h2;exact⟨none,0,rfl,⟨hl,Nat.le_refl _,fun h=>by omega⟩,fun b off s h=>by cases h⟩
 ·refine⟨some ⟨g,0,none⟩,cap,rfl,⟨hl,hnc,fun h0=>⟨g,0,rfl,?_,fun k j x hk hj=>?_⟩⟩,fun b off s h=>by cases h;exact hb⟩
  ·rcases Nat.lt_or_ge g w.heap.size with hlt|hge
   ·exact hlt
   ·rw [Array.getElem?_eq_none hge] at hh;cases hh
  ·have hkn:=(List.getElem?_eq_some_iff.1 hk).1;have h3:=wP xs k j x hk hj;rw [<- hcur,List.getElem?_take,if_pos (by omega)] at h3;simp only [World.cell?,hh,Option.isSome_none,Bool.false_eq_true,if_false];rw [<- h3,Array.getElem?_toList,Nat.zero_add]
theorem eV.kx{X:Nat->Prop}(h:eV w base v n xs)(k:KX X w w')(hx:∀g,v.ownBlock=some g->¬X g):eV w' base v n xs:=by
 obtain⟨h1,h2⟩:=h;refine⟨h1,?_⟩
 rcases h2 with h2 | ⟨g,cap,cur,rfl,hg,hh,r⟩
 ·exact .inl h2
 ·refine .inr ⟨g,cap,cur,rfl,hg,?_,r⟩;rw [k.block g ?_ (hx g rfl)]
  ·exact hh
  ·rcases Nat.lt_or_ge g w.heap.size with hlt|hge
   ·exact hlt
   ·rw [Array.getElem?_eq_none hge] at hh;cases hh
theorem eV.blk(h:eV w base v n xs)(g:Nat)(hg:v.ownBlock=some g):base<=g/\g<w.heap.size:=by
 rcases h.2 with ⟨rfl,_⟩|⟨g',cap,cur,rfl,hb,hh,_⟩
 ·cases hg
 ·have:g'=g:=by simpa [Value.ownBlock] using hg
  subst this;refine⟨hb,?_⟩
  rcases Nat.lt_or_ge g' w.heap.size with hlt|hge
  ·exact hlt
  ·rw [Array.getElem?_eq_none hge] at hh;cases hh
def vF(args:Array Value):Sem Value:=Builtin.append_ #[183,183] 183 args
theorem F7(args:Array Value):Builtin.append_ #[183,183] 183 args=vF args:=rfl
theorem a27(h:eV w base v n xs)(x:AR)(hbase:base<=w.heap.size)(hn:n<=10000) :
 ∃v' w',Sem.run Tryz.prog (vF #[v,.slice (some ⟨w.heap.size,0,none⟩) 1 1]) (w.alloc (.cells #[.int .i64 x.p.fl,.int .i64 x.p.tm,.int .i64 x.p.sz,.int .i64 x.ix] 185)) = .ok v' w'/\eV w' base v' (n+1) (xs ++ [x])/\KX (fun k=>some k=v.ownBlock) w w'/\(v'.ownBlock=v.ownBlock\/∃b,v'.ownBlock=some b/\w.heap.size<=b):=by
 obtain⟨i0,hi0,hz0,hz1,hz2⟩:=info_parts W5;have hal:eV (w.alloc (.cells #[.int .i64 x.p.fl,.int .i64 x.p.tm,.int .i64 x.p.sz,.int .i64 x.ix] 185)) base v n xs:=h.kx (X:=fun _=>False) (KX.of (aF w _)) (fun _ _ h=>h);obtain⟨v',w',hrun,h2,h3,_,h5⟩:=run_append_own_at (P:=Tryz.prog) (w:=w.alloc (.cells #[.int .i64 x.p.fl,.int .i64 x.p.tm,.int .i64 x.p.sz,.int .i64 x.ix] 185)) base 183 183 185 i0 (.agg #[.int .i64 0,.int .i64 0,.int .i64 0,.int .i64 0]) 4 32 Tryz.underlying183 hi0 hz0 hz1 hz2 rfl (by omega) v n _ hal ⟨w.heap.size,0,none⟩ 1 1 x.cells rfl (by
  intro j u hu;have hj:j<4:=by
   rcases Nat.lt_or_ge j 4 with h'|h'
   ·exact h'
   ·rw [List.getElem?_eq_none (by exact h')] at hu;cases hu
  have hb:=(aC.new w 185 #[.int .i64 x.p.fl,.int .i64 x.p.tm,.int .i64 x.p.sz,.int .i64 x.ix]).cell j;have e:(Addr.add ⟨w.heap.size,0,none⟩ j)=⟨w.heap.size,j,none⟩:=by
   unfold Addr.add;split
   ·rename_i h0;subst h0;rfl
   ·simp
  rw [e,hb,<- hu];have:j=0\/j=1\/j=2\/j=3:=by omega
  rcases this with rfl|rfl|rfl|rfl <;> rfl) (by
  intro u hu;simp only [AR.cells,List.mem_cons,List.not_mem_nil,or_false] at hu;rcases hu with rfl|rfl|rfl|rfl <;> rfl) (by unfold maxLen;omega) (by omega) (by simp;omega)
 refine⟨v',w',hrun,?_,?_,?_⟩
 ·unfold eV;rw [List.flatMap_append,List.flatMap_cons,List.flatMap_nil,List.append_nil];exact h2
 ·exact(KX.of (aF w _)).trans (KX.grown h3)
 ·rcases h5 with h5|h5
  ·exact .inl h5
  ·exact .inr ⟨_,h5,by simp⟩
end
theorem a39{w:World}{base g c:Nat}{xs:List AR}(h:eV w base (.slice (some ⟨g,0,none⟩) xs.length c) xs.length xs)(hb:∀x∈xs,0<=x.p.tm/\x.p.tm<=5000)(hn:xs.length<=19) :
 Calls Tryz.prog 117 #[.slice (some ⟨g,0,none⟩) xs.length c,.func (.func 118) #[] #[]] w fun e w'=>e = .returned (.tuple #[])/\∃ys,f9 (fun x:AR=>x.p.tm) xs ys/\mO w' (some ⟨g,0,none⟩) xs.length c ys/\KX (fun k=>k=g) w w':=by
 obtain⟨ys,hys⟩:=sK xs hb;have hl:ys.length=xs.length:=by rw [<- hys,List.length_map]
 obtain⟨A',c',e,hls,_⟩:=h.lst;cases e
 have hg:=(h.blk g rfl).2;have hcell:∀(i j:Nat) (x:AQ),ys[i]?=some x->j<4->w.cell? ⟨g,i*4+j,none⟩=x.1.cells[j]?:=fun i j x hx hj=>by
  have hx2:xs[i]?=some x.1:=by rw [<- hys,List.getElem?_map,hx];rfl
  obtain⟨g',o',e,hr⟩:=hls.2.2 (by have:=(List.getElem?_eq_some_iff.1 hx2).1;omega);cases e
  have:=hr.cell i j x.1 hx2 hj
  rwa [Nat.zero_add] at this
 have hH:HoldsK iB 4 w g 0 (ys.toArray:Array AQ):=by
  refine wV iB 4 (by omega) (fun i hi c hc=>?_) (fun j=>World.ownsRow.frozenAt h j);have hi:i<ys.length:=by simpa using hi
  rw [hcell i c ys[i] (List.getElem?_eq_getElem hi) hc,getElem!_pos _ i (by simpa using hi)];have e:(ys.toArray:Array AQ)[i]'(by simpa using hi)=ys[i]:=by simp
  rw [e];rcases (show c=0\/c=1\/c=2\/c=3 by omega) with rfl|rfl|rfl|rfl <;> rfl
 have hs:(ys.toArray:Array AQ).size=xs.length:=by simpa using hl
 have hcal:=a4f g 0 c (ys.toArray:Array AQ) w hH hg (by rw [hs];exact hn);rw [hs] at hcal;refine hcal.mono ?_;rintro e w' ⟨rfl,n,os,rfl⟩;have hS:=zJ (fun x:AR=>x.p.tm) (ltOf hU) xJ ys;have hz:(insertionSort (ltOf hU) (ys.toArray:Array AQ) 0 (ys.toArray:Array AQ).size).size=xs.length:=by rw [(sU (uC (fun x:AQ=>x.1.p.tm) (ltOf hU) xJ) (ys.toArray:Array AQ)).2.1,hs]
 rw [hs,hys] at hS;rw [hs] at hz;have hh:=holdsK_sortWorldK_c iB 4 w g 0 (ys.toArray:Array AQ) (insertionSort (ltOf hU) (ys.toArray:Array AQ) 0 xs.length) n os hH hg (by rw [hz,hs]);have hsz:=size_sortWorldK_c iB 4 w g 0 n (insertionSort (ltOf hU) (ys.toArray:Array AQ) 0 xs.length) os;refine⟨rfl,_,hS,⟨by rw [List.length_map];simpa using hz,hls.2.1,fun h0=>⟨g,0,rfl,by omega,fun i j x hx hj=>?_⟩⟩,zC iB 4 w g n _ os⟩
 rw [List.getElem?_map] at hx;obtain⟨x',hx',rfl⟩:=Option.map_eq_some_iff.1 hx;have hi:i<(insertionSort (ltOf hU) (ys.toArray:Array AQ) 0 xs.length).size:=by
  have:=(List.getElem?_eq_some_iff.1 hx').1
  simpa using this
 have h1:=(hh.cell hi hj).1;have e:(insertionSort (ltOf hU) (ys.toArray:Array AQ) 0 xs.length)[i]! = x':=by
  rw [getElem!_pos _ i hi];have:=(List.getElem?_eq_some_iff.1 hx').2
  simpa using this
 rw [e] at h1;rw [h1];rcases (show j=0\/j=1\/j=2\/j=3 by omega) with rfl|rfl|rfl|rfl <;> rfl
theorem a4a{w:World}{base:Nat}{v:Value}{xs:List AR}(h:eV w base v xs.length xs)(hb:∀x∈xs,0<=x.p.tm/\x.p.tm<=5000)(hn:xs.length<=19) :
 Calls Tryz.prog 117 #[v,.func (.func 118) #[] #[]] w fun e w'=>e = .returned (.tuple #[])/\∃ys A c,v = .slice A xs.length c/\f9 (fun x:AR=>x.p.tm) xs ys/\mO w' A xs.length c ys/\KX (fun k=>some k=v.ownBlock) w w':=by
 rcases id h.2 with ⟨rfl,h0⟩|⟨g,cap,cur,rfl,_⟩
 ·obtain rfl:=List.eq_nil_of_length_eq_zero h0;refine(a37 w).mono ?_;rintro e w' ⟨rfl,rfl⟩;exact⟨rfl,[],none,0,rfl,f9.nil_ _,⟨rfl,Nat.le_refl _,fun h=>by cases h⟩,KX.refl _ _⟩
 ·refine(a39 h hb hn).mono ?_;rintro e w' ⟨rfl,ys,hs,hl,hk⟩;exact⟨rfl,ys,_,_,rfl,hs,hl,hk.mono (fun k _ e=>by subst e;rfl)⟩
end
end Go.Proofs.YtaejfleahamapaaGreat
