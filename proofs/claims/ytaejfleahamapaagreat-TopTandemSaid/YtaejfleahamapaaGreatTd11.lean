/- . -/
import Derived.Shelf.SlSortCmp.InsertionK
import Derived.Test.YtaejfleahamapaaGreatTd6
import Derived.Test.YtaejfleahamapaaGreatTd10
namespace Go.Proofs.YtaejfleahamapaaGreat
set_option linter.unusedVariables false
set_option linter.unusedSimpArgs false
section
open Go.RowKit Go.Shelf Go.Sort
structure AR where
 p:PK
 ix:Int
def AR.cells(x:AR):List Value:=[.int .i64 x.p.fl,.int .i64 x.p.tm,.int .i64 x.p.sz,.int .i64 x.ix]
abbrev KQ:Type:={ x:PK // 0<=x.tm/\x.tm<=5000 }
abbrev AQ:Type:={ x:AR // 0<=x.p.tm/\x.p.tm<=5000 }
instance:Inhabited KQ:=⟨⟨⟨0,0,0⟩,by decide⟩⟩
instance:Inhabited AQ:=⟨⟨⟨⟨0,0,0⟩,0⟩,by decide⟩⟩
def iJ(x:KQ):List Value:=x.1.cells
def iE(x:AQ):List Value:=x.1.cells
def e8(x y:KQ):Int:=if x.1.tm<y.1.tm then -1 else if y.1.tm<x.1.tm then 1 else 0
def iK(x y:AQ):Int:=x.1.p.tm-y.1.p.tm
theorem vN(x y:KQ):ltOf e8 x y=decide (x.1.tm<y.1.tm):=by
 unfold ltOf e8;by_cases h:x.1.tm<y.1.tm
 ·rw [if_pos h];simp [h]
 ·rw [if_neg h];by_cases h2:y.1.tm<x.1.tm
  ·rw [if_pos h2];simp [h]
  ·rw [if_neg h2];simp [h]
theorem z6(x y:AQ):ltOf iK x y=decide (x.1.p.tm<y.1.p.tm):=by
 unfold ltOf iK;by_cases h:x.1.p.tm<y.1.p.tm
 ·simp [h];omega
 ·simp [h];omega
theorem tO{α:Type}(key:α->Int)(lt:α->α->Bool)(h:∀x y,lt x y=decide (key x<key y)):SWO lt:=by
 refine⟨λx=>by rw [h];simp,λx y z h1 h2=>?_,λx y z h1 h2=>?_⟩
 ·rw [h] at h1 h2 ⊢;have h1:=of_decide_eq_true h1;have h2:=of_decide_eq_true h2;exact decide_eq_true (by omega)
 ·rw [h] at h1 h2 ⊢;have h1:=of_decide_eq_false h1;have h2:=of_decide_eq_false h2;exact decide_eq_false (by omega)
def ML:Ren:=⟨λn=>match n with|20=>150|n=>n,λt=>match t with|22=>46|24=>71|25=>198|t=>t,λg=>g⟩
def L5:Ren:=⟨λn=>match n with|20=>144|n=>n,λt=>match t with|22=>183|24=>185|25=>187|t=>t,λg=>g⟩
theorem GP:SlLaysF0.n20 Tryz.prog ML:=
 {mixed:=by kernel_rfl,f20:=⟨Tryz.f150.name,by kernel_rfl,by kernel_rfl⟩,t0:=by kernel_rfl,a0:=Tryz.isAgg0,z0:=Tryz.sizeOf0,v0:=Tryz.zeroValue0,t3:=by kernel_rfl,a3:=Tryz.isAgg3,z3:=Tryz.sizeOf3,v3:=Tryz.zeroValue3,t4:=by kernel_rfl,a4:=Tryz.isAgg4,z4:=Tryz.sizeOf4,v4:=Tryz.zeroValue4,t22:=by kernel_rfl,a22:=Tryz.isAgg46,z22:=Tryz.sizeOf46,v22:=Tryz.zeroValue46,t25:=by kernel_rfl,a25:=Tryz.isAgg198,z25:=Tryz.sizeOf198,v25:=Tryz.zeroValue198}
theorem C1:SlLaysF0.n20 Tryz.prog L5:=
 {mixed:=by kernel_rfl,f20:=⟨Tryz.f144.name,by kernel_rfl,by kernel_rfl⟩,t0:=by kernel_rfl,a0:=Tryz.isAgg0,z0:=Tryz.sizeOf0,v0:=Tryz.zeroValue0,t3:=by kernel_rfl,a3:=Tryz.isAgg3,z3:=Tryz.sizeOf3,v3:=Tryz.zeroValue3,t4:=by kernel_rfl,a4:=Tryz.isAgg4,z4:=Tryz.sizeOf4,v4:=Tryz.zeroValue4,t22:=by kernel_rfl,a22:=Tryz.isAgg183,z22:=Tryz.sizeOf183,v22:=Tryz.zeroValue183,t25:=by kernel_rfl,a25:=Tryz.isAgg187,z25:=Tryz.sizeOf187,v25:=Tryz.zeroValue187}
theorem iB(w:World)(a b:Obj):∃q os,(w.alloc a).alloc b=grow (w.drewN q) os:=⟨0,#[a,b],by rw [alloc_eq_grow,alloc_eq_grow,grow_grow];rfl⟩
theorem AF(x y:KQ)(w:World):Calls Tryz.prog 137 (#[.agg (iJ x).toArray,.agg (iJ y).toArray] ++ #[]) w λe w'=>e = .returned (.int .i64 (e8 x y))/\∃q os,w'=grow (w.drewN q) os:=by
 show Calls _ _ #[.agg #[.int .i64 x.1.fl,.int .i64 x.1.tm,.int .i64 x.1.sz],.agg #[.int .i64 y.1.fl,.int .i64 y.1.tm,.int .i64 y.1.sz]] _ _
 have F:=aA (iB w (.cells #[.int .i64 x.1.fl,.int .i64 x.1.tm,.int .i64 x.1.sz] 71) (.cells #[.int .i64 y.1.fl,.int .i64 y.1.tm,.int .i64 y.1.sz] 71));have C:=aA (show e8 x y=_ from rfl);by_cases h:x.1.tm<y.1.tm
 ·replace C:=aA (show e8 x y = -1 by unfold e8;rw [if_pos h]);go_enter Tryz.func137,Tryz.ntmps137
  go_wp2_with fail
  go_ret
  exact⟨by rw [C.out];rfl,F.out⟩
 ·by_cases h2:y.1.tm<x.1.tm
  ·replace C:=aA (show e8 x y=1 by unfold e8;rw [if_neg h,if_pos h2]);go_enter Tryz.func137,Tryz.ntmps137
   go_wp2_with fail
   go_ret
   exact⟨by rw [C.out];rfl,F.out⟩
  ·replace C:=aA (show e8 x y=0 by unfold e8;rw [if_neg h,if_neg h2]);go_enter Tryz.func137,Tryz.ntmps137
   go_wp2_with fail
   go_ret
   exact⟨by rw [C.out];rfl,F.out⟩
theorem DH(x y:AQ)(w:World):Calls Tryz.prog 118 (#[.agg (iE x).toArray,.agg (iE y).toArray] ++ #[]) w λe w'=>e = .returned (.int .i64 (iK x y))/\∃q os,w'=grow (w.drewN q) os:=by
 show Calls _ _ #[.agg #[.int .i64 x.1.p.fl,.int .i64 x.1.p.tm,.int .i64 x.1.p.sz,.int .i64 x.1.ix],.agg #[.int .i64 y.1.p.fl,.int .i64 y.1.p.tm,.int .i64 y.1.p.sz,.int .i64 y.1.ix]] _ _
 have F:=aA (iB w (.cells #[.int .i64 x.1.p.fl,.int .i64 x.1.p.tm,.int .i64 x.1.p.sz,.int .i64 x.1.ix] 185) (.cells #[.int .i64 y.1.p.fl,.int .i64 y.1.p.tm,.int .i64 y.1.p.sz,.int .i64 y.1.ix] 185));have hx:=x.2;have hy:=y.2;have C:=aA (show iK x y=x.1.p.tm-y.1.p.tm from rfl);have ew:IntKind.i64.wrap (x.1.p.tm-y.1.p.tm)=x.1.p.tm-y.1.p.tm:=IntWalk.i64_in _ (by omega);go_enter Tryz.func118,Tryz.ntmps118
 go_wp2_with fail
 go_ret
 exact⟨by rw [C.out];rfl,F.out⟩
theorem BB(x:KQ):∀v∈iJ x,v.oneCell'=true:=by
 intro v hv;simp only [iJ,PK.cells,List.mem_cons,List.not_mem_nil,or_false] at hv;rcases hv with rfl|rfl|rfl <;> rfl
theorem OS(x:AQ):∀v∈iE x,v.oneCell'=true:=by
 intro v hv;simp only [iE,AR.cells,List.mem_cons,List.not_mem_nil,or_false] at hv;rcases hv with rfl|rfl|rfl|rfl <;> rfl
theorem AV(blk off cap:Nat)(d:Array KQ)(w:World)(hH:HoldsK iJ 3 w blk off d)(hblk:blk<w.heap.size)(hn:d.size<=19) :
 Calls Tryz.prog 146 #[.slice (some ⟨blk,off,none⟩) d.size cap,.int .i64 d.size,.func (.func 137) #[] #[]] w λe w'=>e = .returned (.tuple #[])/\∃n os,w'=sortWorldK iJ 3 w blk off n (insertionSort (ltOf e8) d 0 d.size) os:=by
 have H:=aA hH;clear hH;have HN:=aA hn;obtain⟨N,hN⟩:∃N,N=d.size:=⟨_,rfl⟩
 have hN2:N<=19:=by omega
 have c1:¬(20:Int)<=N:=by omega
 have c2:¬(20:Int)<N:=by omega
 have HE:=aA hN;rw [<- hN];clear hN hn;go_enter Tryz.func146,Tryz.ntmps146
 go_wp2_with fail
 go_loopg [7,8,11] 0 (λgg s7 s8 _ wr=>s7 = .int .i64 0/\s8 = .int .i64 20/\wr=w)
 case atStart=>exact⟨rfl,rfl,rfl⟩
 case round=>
  obtain⟨rfl,rfl,rfl⟩:=hrel;go_wp2_with fail
  have hH:=H.out;have hn:=HE.out;have hcal:=AnyQ.insertionSortCmpFunc GP 3 Tryz.isAgg71 Tryz.sizeOf71 iJ (λx=>rfl) BB e8 137 #[] blk off cap 0 d.size d wr (enters_of Tryz.func137 (by kernel_rfl) rfl) (λm os dk hdk x y=>AF x y _) hH hblk (Nat.zero_le _) (Nat.le_refl _) (by omega);rw [<- hn] at hcal;have hcal:Calls Tryz.prog 150 #[.slice (some ⟨blk,off,none⟩) N cap,.int .i64 0,.int .i64 N,.func (.func 137) #[] #[]] wr _:=hcal;refine hcal.mono ?_;rintro e wx ⟨rfl,hx⟩;have HX:=aA hx;clear hx hH hcal;go_wp2_with fail
  go_loopg [6,28] 0 (λgg s6 _ wq=>s6 = .int .i64 20/\wq=wx)
  case atStart=>exact⟨rfl,rfl⟩
  case round=>
   obtain⟨rfl,rfl⟩:=hrel;go_wp2_with fail
   exact bodyPost_end (v:=.tuple #[]) (by simp [results,Tryz.results146,go_sem]) rfl ⟨rfl,HX.out⟩
theorem K6(blk off cap:Nat)(d:Array KQ)(w:World)(hH:HoldsK iJ 3 w blk off d)(hblk:blk<w.heap.size)(hn:d.size<=19) :
 Calls Tryz.prog 136 #[.slice (some ⟨blk,off,none⟩) d.size cap,.func (.func 137) #[] #[]] w λe w'=>e = .returned (.tuple #[])/\∃n os,w'=sortWorldK iJ 3 w blk off n (insertionSort (ltOf e8) d 0 d.size) os:=by
 have H:=aA hH;clear hH;go_enter Tryz.func136,Tryz.ntmps136
 go_wp2_with fail
 refine(AV blk off cap d w H.out hblk hn).mono ?_;rintro e wx ⟨rfl,hx⟩;have HX:=aA hx;clear hx;go_wp2_with fail
 exact bodyPost_end (v:=.tuple #[]) (by simp [results,Tryz.results136,go_sem]) rfl ⟨rfl,HX.out⟩
theorem O0(w:World):Calls Tryz.prog 136 #[.slice none 0 0,.func (.func 137) #[] #[]] w λe w'=>e = .returned (.tuple #[])/\w'=w:=by
 have hi:Calls Tryz.prog 150 #[.slice none 0 0,.int .i64 0,.int .i64 0,.func (.func 137) #[] #[]] w λe w'=>e = .returned (.tuple #[])/\w'=w:=by
  go_enter Tryz.func150,Tryz.ntmps150
  go_wp2_with fail
  go_loopg [8] 0 (λgg s8 wr=>s8 = .int .i64 1/\wr=w)
  case atStart=>exact⟨rfl,rfl⟩
  case round=>
   obtain⟨rfl,rfl⟩:=hrel;go_wp2_with fail
   exact bodyPost_end (v:=.tuple #[]) (by simp [results,Tryz.results150,go_sem]) rfl ⟨rfl,rfl⟩
 have hs:Calls Tryz.prog 146 #[.slice none 0 0,.int .i64 0,.func (.func 137) #[] #[]] w λe w'=>e = .returned (.tuple #[])/\w'=w:=by
  have HI:=aA hi;clear hi;go_enter Tryz.func146,Tryz.ntmps146
  go_wp2_with fail
  go_loopg [7,8,11] 0 (λgg s7 s8 _ wr=>s7 = .int .i64 0/\s8 = .int .i64 20/\wr=w)
  case atStart=>exact⟨rfl,rfl,rfl⟩
  case round=>
   obtain⟨rfl,rfl,rfl⟩:=hrel;go_wp2_with fail
   refine HI.out.mono ?_;rintro e wx ⟨rfl,rfl⟩;go_wp2_with fail
   go_loopg [6,28] 0 (λgg s6 _ wq=>s6 = .int .i64 20/\wq=wx)
   case atStart=>exact⟨rfl,rfl⟩
   case round=>
    obtain⟨rfl,rfl⟩:=hrel;go_wp2_with fail
    exact bodyPost_end (v:=.tuple #[]) (by simp [results,Tryz.results146,go_sem]) rfl ⟨rfl,rfl⟩
 have HS:=aA hs;clear hi hs;go_enter Tryz.func136,Tryz.ntmps136
 go_wp2_with fail
 refine HS.out.mono ?_;rintro e wx ⟨rfl,rfl⟩;go_wp2_with fail
 exact bodyPost_end (v:=.tuple #[]) (by simp [results,Tryz.results136,go_sem]) rfl ⟨rfl,rfl⟩
theorem MP(blk off cap:Nat)(d:Array AQ)(w:World)(hH:HoldsK iE 4 w blk off d)(hblk:blk<w.heap.size)(hn:d.size<=19) :
 Calls Tryz.prog 135 #[.slice (some ⟨blk,off,none⟩) d.size cap,.int .i64 d.size,.func (.func 118) #[] #[]] w λe w'=>e = .returned (.tuple #[])/\∃n os,w'=sortWorldK iE 4 w blk off n (insertionSort (ltOf iK) d 0 d.size) os:=by
 have H:=aA hH;clear hH;have HN:=aA hn;obtain⟨N,hN⟩:∃N,N=d.size:=⟨_,rfl⟩
 have hN2:N<=19:=by omega
 have c1:¬(20:Int)<=N:=by omega
 have c2:¬(20:Int)<N:=by omega
 have HE:=aA hN;rw [<- hN];clear hN hn;go_enter Tryz.func135,Tryz.ntmps135
 go_wp2_with fail
 go_loopg [7,8,11] 0 (λgg s7 s8 _ wr=>s7 = .int .i64 0/\s8 = .int .i64 20/\wr=w)
 case atStart=>exact⟨rfl,rfl,rfl⟩
 case round=>
  obtain⟨rfl,rfl,rfl⟩:=hrel;go_wp2_with fail
  have hH:=H.out;have hn:=HE.out;have hcal:=AnyQ.insertionSortCmpFunc C1 4 Tryz.isAgg185 Tryz.sizeOf185 iE (λx=>rfl) OS iK 118 #[] blk off cap 0 d.size d wr (enters_of Tryz.func118 (by kernel_rfl) rfl) (λm os dk hdk x y=>DH x y _) hH hblk (Nat.zero_le _) (Nat.le_refl _) (by omega);rw [<- hn] at hcal;have hcal:Calls Tryz.prog 144 #[.slice (some ⟨blk,off,none⟩) N cap,.int .i64 0,.int .i64 N,.func (.func 118) #[] #[]] wr _:=hcal;refine hcal.mono ?_;rintro e wx ⟨rfl,hx⟩;have HX:=aA hx;clear hx hH hcal;go_wp2_with fail
  go_loopg [6,28] 0 (λgg s6 _ wq=>s6 = .int .i64 20/\wq=wx)
  case atStart=>exact⟨rfl,rfl⟩
  case round=>
   obtain⟨rfl,rfl⟩:=hrel;go_wp2_with fail
   exact bodyPost_end (v:=.tuple #[]) (by simp [results,Tryz.results135,go_sem]) rfl ⟨rfl,HX.out⟩
theorem C6(blk off cap:Nat)(d:Array AQ)(w:World)(hH:HoldsK iE 4 w blk off d)(hblk:blk<w.heap.size)(hn:d.size<=19) :
 Calls Tryz.prog 117 #[.slice (some ⟨blk,off,none⟩) d.size cap,.func (.func 118) #[] #[]] w λe w'=>e = .returned (.tuple #[])/\∃n os,w'=sortWorldK iE 4 w blk off n (insertionSort (ltOf iK) d 0 d.size) os:=by
 have H:=aA hH;clear hH;go_enter Tryz.func117,Tryz.ntmps117
 go_wp2_with fail
 refine(MP blk off cap d w H.out hblk hn).mono ?_;rintro e wx ⟨rfl,hx⟩;have HX:=aA hx;clear hx;go_wp2_with fail
 exact bodyPost_end (v:=.tuple #[]) (by simp [results,Tryz.results117,go_sem]) rfl ⟨rfl,HX.out⟩
theorem ND(w:World):Calls Tryz.prog 117 #[.slice none 0 0,.func (.func 118) #[] #[]] w λe w'=>e = .returned (.tuple #[])/\w'=w:=by
 have hi:Calls Tryz.prog 144 #[.slice none 0 0,.int .i64 0,.int .i64 0,.func (.func 118) #[] #[]] w λe w'=>e = .returned (.tuple #[])/\w'=w:=by
  go_enter Tryz.func144,Tryz.ntmps144
  go_wp2_with fail
  go_loopg [8] 0 (λgg s8 wr=>s8 = .int .i64 1/\wr=w)
  case atStart=>exact⟨rfl,rfl⟩
  case round=>
   obtain⟨rfl,rfl⟩:=hrel;go_wp2_with fail
   exact bodyPost_end (v:=.tuple #[]) (by simp [results,Tryz.results144,go_sem]) rfl ⟨rfl,rfl⟩
 have hs:Calls Tryz.prog 135 #[.slice none 0 0,.int .i64 0,.func (.func 118) #[] #[]] w λe w'=>e = .returned (.tuple #[])/\w'=w:=by
  have HI:=aA hi;clear hi;go_enter Tryz.func135,Tryz.ntmps135
  go_wp2_with fail
  go_loopg [7,8,11] 0 (λgg s7 s8 _ wr=>s7 = .int .i64 0/\s8 = .int .i64 20/\wr=w)
  case atStart=>exact⟨rfl,rfl,rfl⟩
  case round=>
   obtain⟨rfl,rfl,rfl⟩:=hrel;go_wp2_with fail
   refine HI.out.mono ?_;rintro e wx ⟨rfl,rfl⟩;go_wp2_with fail
   go_loopg [6,28] 0 (λgg s6 _ wq=>s6 = .int .i64 20/\wq=wx)
   case atStart=>exact⟨rfl,rfl⟩
   case round=>
    obtain⟨rfl,rfl⟩:=hrel;go_wp2_with fail
    exact bodyPost_end (v:=.tuple #[]) (by simp [results,Tryz.results135,go_sem]) rfl ⟨rfl,rfl⟩
 have HS:=aA hs;clear hi hs;go_enter Tryz.func117,Tryz.ntmps117
 go_wp2_with fail
 refine HS.out.mono ?_;rintro e wx ⟨rfl,rfl⟩;go_wp2_with fail
 exact bodyPost_end (v:=.tuple #[]) (by simp [results,Tryz.results117,go_sem]) rfl ⟨rfl,rfl⟩
end
section
open Go.RowKit Go.Shelf Go.Sort
structure gK{α:Type}(key:α->Int)(xs ys:List α):Prop where
 p:ys.Perm xs
 s:∀(i j:Nat) (a b:α),i<j->ys[i]?=some a->ys[j]?=some b->key a<=key b
 f:∀p:α->Bool,(xs.filter p).Pairwise (λa b=>key a<=key b)->ys.filter p=xs.filter p
theorem tE{α:Type}{P:α->Prop}:∀(xs:List α),(∀x∈xs,P x)->∃ys:List { x // P x },ys.map Subtype.val=xs
 | [],_=>⟨[],rfl⟩
 | x :: xs,h=>by
   obtain⟨ys,hy⟩:=tE xs (λy hy=>h y (List.mem_cons_of_mem _ hy));exact⟨⟨x,h x (List.mem_cons_self ..)⟩ :: ys,by rw [List.map_cons,hy]⟩
theorem xL{α:Type}{P:α->Prop} [Inhabited { x // P x }](key:α->Int)(lt:{ x // P x }->{ x // P x }->Bool)(hlt:∀x y,lt x y=decide (key x.1<key y.1))(ys:List { x // P x }) :
 gK key (ys.map Subtype.val) ((insertionSort lt ys.toArray 0 ys.toArray.size).toList.map Subtype.val):=by
 obtain⟨h1,h2,h3⟩:=rX (tO (λx=>key x.1) lt hlt) ys.toArray;refine⟨h1.map _,λi j a b hij ha hb=>?_,λp hp=>?_⟩
 ·rw [List.getElem?_map] at ha hb;obtain⟨a',ha',rfl⟩:=Option.map_eq_some_iff.1 ha;obtain⟨b',hb',rfl⟩:=Option.map_eq_some_iff.1 hb;have hj:j<(insertionSort lt ys.toArray 0 ys.toArray.size).size:=by
   have:=(List.getElem?_eq_some_iff.1 hb').1
   simpa using this
  have h:=h3 i j hij (by rw [<- h2];exact hj);rw [getElem!_pos _ j hj,getElem!_pos _ i (by omega),hlt] at h;have ea:(insertionSort lt ys.toArray 0 ys.toArray.size)[i]'(by omega)=a':=by
   have:=(List.getElem?_eq_some_iff.1 ha').2
   simpa using this
  have eb:(insertionSort lt ys.toArray 0 ys.toArray.size)[j]'hj=b':=by
   have:=(List.getElem?_eq_some_iff.1 hb').2
   simpa using this
  rw [ea,eb] at h;have:=of_decide_eq_false h
  omega
 ·have hq:(ys.toArray.toList.filter (λx=>p x.1)).Pairwise (λa b=>lt b a=false):=by
   show(ys.filter (λx=>p x.1)).Pairwise _
   rw [List.filter_map,List.pairwise_map] at hp;refine hp.imp (λ{a b} h=>?_);rw [hlt];exact decide_eq_false (by omega)
  have h:=NC (p:=λx=>p x.1) ys.toArray hq;rw [List.filter_map,List.filter_map];exact congrArg (List.map Subtype.val) h
section
variable{α:Type} [Inhabited α](enc:α->List Value)(k:Nat)
theorem y6(hk:0<k){w:World}{g:Nat}{d:Array α}(hc:∀i,i<d.size->∀c,c<k->w.cell? ⟨g,i*k+c,none⟩=some (enc d[i]!)[c]!)(hf:∀j,w.frozen? ⟨g,j,none⟩=false):HoldsK enc k w g 0 d:=by
 intro j hj;rw [size_flatK] at hj;rw [get_flatK _ _ _ _ hj,Nat.zero_add];refine⟨?_,hf j⟩
 have h1:j / k<d.size:=Nat.div_lt_of_lt_mul (by rw [Nat.mul_comm];exact hj);have h2:=hc (j / k) h1 (j % k) (Nat.mod_lt _ hk)
 rwa [Nat.div_add_mod'] at h2
theorem zC(w:World)(g n:Nat)(d:Array α)(os:Array Obj):KX (λk=>k=g) w (sortWorldK enc k w g 0 n d os):=by
 refine⟨rfl,rfl,rfl,size_sortWorldK_c enc k w g 0 n d os,λj hj hx=>?_⟩
 unfold sortWorldK grow putRowK putRow mapBlock;show(Array.modify w.heap g _ ++ os)[j]?=_
 rw [Array.getElem?_append_left (by simpa using hj),Array.getElem?_modify,if_neg (λe=>hx e.symm)]
end
theorem A9{w:World}{base g c:Nat}{xs:List PK}(h:a8 w base (.slice (some ⟨g,0,none⟩) xs.length c) xs.length xs)(hb:∀x∈xs,0<=x.tm/\x.tm<=5000)(hn:xs.length<=19) :
 Calls Tryz.prog 136 #[.slice (some ⟨g,0,none⟩) xs.length c,.func (.func 137) #[] #[]] w λe w'=>e = .returned (.tuple #[])/\∃ys,gK PK.tm xs ys/\bN w' (some ⟨g,0,none⟩) xs.length c ys/\KX (λk=>k=g) w w':=by
 obtain⟨ys,hys⟩:=tE xs hb;have hl:ys.length=xs.length:=by rw [<- hys,List.length_map]
 obtain⟨A',c',e,hls,_⟩:=h.lst;cases e
 have hg:=(h.blk g rfl).2;have hcell:∀(i j:Nat) (x:KQ),ys[i]?=some x->j<3->w.cell? ⟨g,i*3+j,none⟩=x.1.cells[j]?:=λi j x hx hj=>by
  have hx2:xs[i]?=some x.1:=by rw [<- hys,List.getElem?_map,hx];rfl
  obtain⟨g',o',e,hr⟩:=hls.2.2 (by have:=(List.getElem?_eq_some_iff.1 hx2).1;omega);cases e
  have:=hr.cell i j x.1 hx2 hj
  rwa [Nat.zero_add] at this
 have hH:HoldsK iJ 3 w g 0 (ys.toArray:Array KQ):=by
  refine y6 iJ 3 (by omega) (λi hi c hc=>?_) (λj=>World.ownsRow.frozenAt h j);have hi:i<ys.length:=by simpa using hi
  rw [hcell i c ys[i] (List.getElem?_eq_getElem hi) hc,getElem!_pos _ i (by simpa using hi)];have e:(ys.toArray:Array KQ)[i]'(by simpa using hi)=ys[i]:=by simp
  rw [e];rcases (show c=0\/c=1\/c=2 by omega) with rfl|rfl|rfl <;> rfl
 have hs:(ys.toArray:Array KQ).size=xs.length:=by simpa using hl
 have hcal:=K6 g 0 c (ys.toArray:Array KQ) w hH hg (by rw [hs];exact hn);rw [hs] at hcal;refine hcal.mono ?_;rintro e w' ⟨rfl,n,os,rfl⟩;have hS:=xL PK.tm (ltOf e8) vN ys;have hz:(insertionSort (ltOf e8) (ys.toArray:Array KQ) 0 (ys.toArray:Array KQ).size).size=xs.length:=by rw [(rX (tO (λx:KQ=>x.1.tm) (ltOf e8) vN) (ys.toArray:Array KQ)).2.1,hs]
 rw [hs,hys] at hS;rw [hs] at hz;have hh:=holdsK_sortWorldK_c iJ 3 w g 0 (ys.toArray:Array KQ) (insertionSort (ltOf e8) (ys.toArray:Array KQ) 0 xs.length) n os hH hg (by rw [hz,hs]);have hsz:=size_sortWorldK_c iJ 3 w g 0 n (insertionSort (ltOf e8) (ys.toArray:Array KQ) 0 xs.length) os;refine⟨rfl,_,hS,⟨by rw [List.length_map];simpa using hz,hls.2.1,λh0=>⟨g,0,rfl,by omega,λi j x hx hj=>?_⟩⟩,zC iJ 3 w g n _ os⟩
 rw [List.getElem?_map] at hx;obtain⟨x',hx',rfl⟩:=Option.map_eq_some_iff.1 hx;have hi:i<(insertionSort (ltOf e8) (ys.toArray:Array KQ) 0 xs.length).size:=by
  have:=(List.getElem?_eq_some_iff.1 hx').1
  simpa using this
 have h1:=(hh.cell hi hj).1;have e:(insertionSort (ltOf e8) (ys.toArray:Array KQ) 0 xs.length)[i]! = x':=by
  rw [getElem!_pos _ i hi];have:=(List.getElem?_eq_some_iff.1 hx').2
  simpa using this
 rw [e] at h1;rw [h1];rcases (show j=0\/j=1\/j=2 by omega) with rfl|rfl|rfl <;> rfl
theorem gK.nil_{α:Type}(key:α->Int):gK key [] []:=⟨List.Perm.refl _,λi j a b _ h=>by simp at h,λp _=>rfl⟩
theorem K9{w:World}{base:Nat}{v:Value}{xs:List PK}(h:a8 w base v xs.length xs)(hb:∀x∈xs,0<=x.tm/\x.tm<=5000)(hn:xs.length<=19) :
 Calls Tryz.prog 136 #[v,.func (.func 137) #[] #[]] w λe w'=>e = .returned (.tuple #[])/\∃ys A c,v = .slice A xs.length c/\gK PK.tm xs ys/\bN w' A xs.length c ys/\KX (λk=>some k=v.ownBlock) w w':=by
 rcases id h.2 with ⟨rfl,h0⟩|⟨g,cap,cur,rfl,_⟩
 ·obtain rfl:=List.eq_nil_of_length_eq_zero h0;refine(O0 w).mono ?_;rintro e w' ⟨rfl,rfl⟩;exact⟨rfl,[],none,0,rfl,gK.nil_ _,⟨rfl,Nat.le_refl _,λh=>by cases h⟩,KX.refl _ _⟩
 ·refine(A9 h hb hn).mono ?_;rintro e w' ⟨rfl,ys,hs,hl,hk⟩;exact⟨rfl,ys,_,_,rfl,hs,hl,hk.mono (λk _ e=>by subst e;rfl)⟩
end
section
open Go.RowKit Go.Shelf Go.Sort
structure pJ(w:World)(b o:Nat)(xs:List AR):Prop where
 lt:b<w.heap.size
 cell:∀(k j:Nat) (x:AR),xs[k]?=some x->j<4->w.cell? ⟨b,o+k*4+j,none⟩=x.cells[j]?
def m8(w:World)(A:Option Addr)(n c:Nat)(xs:List AR):Prop:=xs.length=n/\n<=c/\(0<n->∃g o,A=some ⟨g,o,none⟩/\pJ w g o xs)
theorem KZ:(Tryz.prog.info? 185).map (λi=>(i.zero,i.size,i.bytes))=some (some (.agg #[.int .i64 0,.int .i64 0,.int .i64 0,.int .i64 0]),4,32):=by kernel_rfl
def eW(w:World)(base:Nat)(v:Value)(n:Nat)(xs:List AR):Prop:=w.ownsRow base 185 4 v n (xs.flatMap AR.cells)
section
variable{w w':World}{base n:Nat}{v:Value}{xs:List AR}
theorem eW.nil_(w:World)(base:Nat):eW w base (.slice none 0 0) 0 []:=⟨by simp,.inl ⟨rfl,rfl⟩⟩
theorem GU(xs:List AR):(xs.flatMap AR.cells).length=xs.length*4:=by
 induction xs with
 | nil=>rfl
 | cons x xs ih=>
   rw [List.flatMap_cons,List.length_append,ih,List.length_cons];have:x.cells.length=4:=rfl
   omega
theorem vT:∀(xs:List AR) (k j:Nat) (x:AR),xs[k]?=some x->j<4->(xs.flatMap AR.cells)[k*4+j]?=x.cells[j]?
 | [],k,j,x,hk,hj=>by simp at hk
 | y :: xs,0,j,x,hk,hj=>by
   simp at hk;subst hk;rw [List.flatMap_cons,Nat.zero_mul,Nat.zero_add,List.getElem?_append_left (by show j<4;exact hj)]
 | y :: xs,k+1,j,x,hk,hj=>by
   simp at hk;have e:y.cells.length=4:=rfl;rw [List.flatMap_cons,List.getElem?_append_right (by rw [e];omega),e,show(k+1)*4+j-4=k*4+j by omega];exact vT xs k j x hk hj
theorem eW.len(h:eW w base v n xs):xs.length=n:=by
 have h1:(xs.flatMap AR.cells).length=n*4:=h.1;rw [GU] at h1;omega
theorem eW.lst(h:eW w base v n xs):∃A c,v = .slice A n c/\m8 w A n c xs/\∀b off s,A=some ⟨b,off,s⟩->base<=b:=by
 have hl:=h.len;obtain⟨h1,h2⟩:=h;rcases h2 with ⟨rfl,h2⟩|⟨g,cap,cur,rfl,hb,hh,hnc,hcm,hcs,hcur⟩
 ·subst h2;exact⟨none,0,rfl,⟨hl,Nat.le_refl _,λh=>by omega⟩,λb off s h=>by cases h⟩
 ·refine⟨some ⟨g,0,none⟩,cap,rfl,⟨hl,hnc,λh0=>⟨g,0,rfl,?_,λk j x hk hj=>?_⟩⟩,λb off s h=>by cases h;exact hb⟩
  ·rcases Nat.lt_or_ge g w.heap.size with hlt|hge
   ·exact hlt
   ·rw [Array.getElem?_eq_none hge] at hh;cases hh
  ·have hkn:=(List.getElem?_eq_some_iff.1 hk).1;have h3:=vT xs k j x hk hj;rw [<- hcur,List.getElem?_take,if_pos (by omega)] at h3;simp only [World.cell?,hh,Option.isSome_none,Bool.false_eq_true,if_false];rw [<- h3,Array.getElem?_toList,Nat.zero_add]
theorem eW.kx{X:Nat->Prop}(h:eW w base v n xs)(k:KX X w w')(hx:∀g,v.ownBlock=some g->¬X g):eW w' base v n xs:=by
 obtain⟨h1,h2⟩:=h;refine⟨h1,?_⟩
 rcases h2 with h2 | ⟨g,cap,cur,rfl,hg,hh,r⟩
 ·exact .inl h2
 ·refine .inr ⟨g,cap,cur,rfl,hg,?_,r⟩;rw [k.block g ?_ (hx g rfl)]
  ·exact hh
  ·rcases Nat.lt_or_ge g w.heap.size with hlt|hge
   ·exact hlt
   ·rw [Array.getElem?_eq_none hge] at hh;cases hh
theorem eW.blk(h:eW w base v n xs)(g:Nat)(hg:v.ownBlock=some g):base<=g/\g<w.heap.size:=by
 rcases h.2 with ⟨rfl,_⟩|⟨g',cap,cur,rfl,hb,hh,_⟩
 ·cases hg
 ·have:g'=g:=by simpa [Value.ownBlock] using hg
  subst this;refine⟨hb,?_⟩
  rcases Nat.lt_or_ge g' w.heap.size with hlt|hge
  ·exact hlt
  ·rw [Array.getElem?_eq_none hge] at hh;cases hh
def vC(args:Array Value):Sem Value:=Builtin.append_ #[183,183] 183 args
theorem DK(args:Array Value):Builtin.append_ #[183,183] 183 args=vC args:=rfl
theorem G1(h:eW w base v n xs)(x:AR)(hbase:base<=w.heap.size)(hn:n<=10000) :
 ∃v' w',Sem.run Tryz.prog (vC #[v,.slice (some ⟨w.heap.size,0,none⟩) 1 1]) (w.alloc (.cells #[.int .i64 x.p.fl,.int .i64 x.p.tm,.int .i64 x.p.sz,.int .i64 x.ix] 185)) = .ok v' w'/\eW w' base v' (n+1) (xs ++ [x])/\KX (λk=>some k=v.ownBlock) w w'/\(v'.ownBlock=v.ownBlock\/∃b,v'.ownBlock=some b/\w.heap.size<=b):=by
 obtain⟨i0,hi0,hz0,hz1,hz2⟩:=info_parts KZ;have hal:eW (w.alloc (.cells #[.int .i64 x.p.fl,.int .i64 x.p.tm,.int .i64 x.p.sz,.int .i64 x.ix] 185)) base v n xs:=h.kx (X:=λ_=>False) (KX.of (aF w _)) (λ_ _ h=>h);obtain⟨v',w',hrun,h2,h3,_,h5⟩:=run_append_own_at (P:=Tryz.prog) (w:=w.alloc (.cells #[.int .i64 x.p.fl,.int .i64 x.p.tm,.int .i64 x.p.sz,.int .i64 x.ix] 185)) base 183 183 185 i0 (.agg #[.int .i64 0,.int .i64 0,.int .i64 0,.int .i64 0]) 4 32 Tryz.underlying183 hi0 hz0 hz1 hz2 rfl (by omega) v n _ hal ⟨w.heap.size,0,none⟩ 1 1 x.cells rfl (by
  intro j u hu;have hj:j<4:=by
   rcases Nat.lt_or_ge j 4 with h'|h'
   ·exact h'
   ·rw [List.getElem?_eq_none (by exact h')] at hu;cases hu
  have hb:=(aC.new w 185 #[.int .i64 x.p.fl,.int .i64 x.p.tm,.int .i64 x.p.sz,.int .i64 x.ix]).cell j;have e:(Addr.add ⟨w.heap.size,0,none⟩ j)=⟨w.heap.size,j,none⟩:=by
   unfold Addr.add;split
   ·rename_i h0;subst h0;rfl
   ·simp
  rw [e,hb,<- hu];have:j=0\/j=1\/j=2\/j=3:=by omega
  rcases this with rfl|rfl|rfl|rfl <;> rfl) (by
  intro u hu;simp only [AR.cells,List.mem_cons,List.not_mem_nil,or_false] at hu;rcases hu with rfl|rfl|rfl|rfl <;> rfl) (by unfold maxLen;omega) (by omega) (by simp;omega)
 refine⟨v',w',hrun,?_,?_,?_⟩
 ·unfold eW;rw [List.flatMap_append,List.flatMap_cons,List.flatMap_nil,List.append_nil];exact h2
 ·exact(KX.of (aF w _)).trans (KX.grown h3)
 ·rcases h5 with h5|h5
  ·exact .inl h5
  ·exact .inr ⟨_,h5,by simp⟩
end
theorem KK{w:World}{base g c:Nat}{xs:List AR}(h:eW w base (.slice (some ⟨g,0,none⟩) xs.length c) xs.length xs)(hb:∀x∈xs,0<=x.p.tm/\x.p.tm<=5000)(hn:xs.length<=19) :
 Calls Tryz.prog 117 #[.slice (some ⟨g,0,none⟩) xs.length c,.func (.func 118) #[] #[]] w λe w'=>e = .returned (.tuple #[])/\∃ys,gK (λx:AR=>x.p.tm) xs ys/\m8 w' (some ⟨g,0,none⟩) xs.length c ys/\KX (λk=>k=g) w w':=by
 obtain⟨ys,hys⟩:=tE xs hb;have hl:ys.length=xs.length:=by rw [<- hys,List.length_map]
 obtain⟨A',c',e,hls,_⟩:=h.lst;cases e
 have hg:=(h.blk g rfl).2;have hcell:∀(i j:Nat) (x:AQ),ys[i]?=some x->j<4->w.cell? ⟨g,i*4+j,none⟩=x.1.cells[j]?:=λi j x hx hj=>by
  have hx2:xs[i]?=some x.1:=by rw [<- hys,List.getElem?_map,hx];rfl
  obtain⟨g',o',e,hr⟩:=hls.2.2 (by have:=(List.getElem?_eq_some_iff.1 hx2).1;omega);cases e
  have:=hr.cell i j x.1 hx2 hj
  rwa [Nat.zero_add] at this
 have hH:HoldsK iE 4 w g 0 (ys.toArray:Array AQ):=by
  refine y6 iE 4 (by omega) (λi hi c hc=>?_) (λj=>World.ownsRow.frozenAt h j);have hi:i<ys.length:=by simpa using hi
  rw [hcell i c ys[i] (List.getElem?_eq_getElem hi) hc,getElem!_pos _ i (by simpa using hi)];have e:(ys.toArray:Array AQ)[i]'(by simpa using hi)=ys[i]:=by simp
  rw [e];rcases (show c=0\/c=1\/c=2\/c=3 by omega) with rfl|rfl|rfl|rfl <;> rfl
 have hs:(ys.toArray:Array AQ).size=xs.length:=by simpa using hl
 have hcal:=C6 g 0 c (ys.toArray:Array AQ) w hH hg (by rw [hs];exact hn);rw [hs] at hcal;refine hcal.mono ?_;rintro e w' ⟨rfl,n,os,rfl⟩;have hS:=xL (λx:AR=>x.p.tm) (ltOf iK) z6 ys;have hz:(insertionSort (ltOf iK) (ys.toArray:Array AQ) 0 (ys.toArray:Array AQ).size).size=xs.length:=by rw [(rX (tO (λx:AQ=>x.1.p.tm) (ltOf iK) z6) (ys.toArray:Array AQ)).2.1,hs]
 rw [hs,hys] at hS;rw [hs] at hz;have hh:=holdsK_sortWorldK_c iE 4 w g 0 (ys.toArray:Array AQ) (insertionSort (ltOf iK) (ys.toArray:Array AQ) 0 xs.length) n os hH hg (by rw [hz,hs]);have hsz:=size_sortWorldK_c iE 4 w g 0 n (insertionSort (ltOf iK) (ys.toArray:Array AQ) 0 xs.length) os;refine⟨rfl,_,hS,⟨by rw [List.length_map];simpa using hz,hls.2.1,λh0=>⟨g,0,rfl,by omega,λi j x hx hj=>?_⟩⟩,zC iE 4 w g n _ os⟩
 rw [List.getElem?_map] at hx;obtain⟨x',hx',rfl⟩:=Option.map_eq_some_iff.1 hx;have hi:i<(insertionSort (ltOf iK) (ys.toArray:Array AQ) 0 xs.length).size:=by
  have:=(List.getElem?_eq_some_iff.1 hx').1
  simpa using this
 have h1:=(hh.cell hi hj).1;have e:(insertionSort (ltOf iK) (ys.toArray:Array AQ) 0 xs.length)[i]! = x':=by
  rw [getElem!_pos _ i hi];have:=(List.getElem?_eq_some_iff.1 hx').2
  simpa using this
 rw [e] at h1;rw [h1];rcases (show j=0\/j=1\/j=2\/j=3 by omega) with rfl|rfl|rfl|rfl <;> rfl
theorem J4{w:World}{base:Nat}{v:Value}{xs:List AR}(h:eW w base v xs.length xs)(hb:∀x∈xs,0<=x.p.tm/\x.p.tm<=5000)(hn:xs.length<=19) :
 Calls Tryz.prog 117 #[v,.func (.func 118) #[] #[]] w λe w'=>e = .returned (.tuple #[])/\∃ys A c,v = .slice A xs.length c/\gK (λx:AR=>x.p.tm) xs ys/\m8 w' A xs.length c ys/\KX (λk=>some k=v.ownBlock) w w':=by
 rcases id h.2 with ⟨rfl,h0⟩|⟨g,cap,cur,rfl,_⟩
 ·obtain rfl:=List.eq_nil_of_length_eq_zero h0;refine(ND w).mono ?_;rintro e w' ⟨rfl,rfl⟩;exact⟨rfl,[],none,0,rfl,gK.nil_ _,⟨rfl,Nat.le_refl _,λh=>by cases h⟩,KX.refl _ _⟩
 ·refine(KK h hb hn).mono ?_;rintro e w' ⟨rfl,ys,hs,hl,hk⟩;exact⟨rfl,ys,_,_,rfl,hs,hl,hk.mono (λk _ e=>by subst e;rfl)⟩
end
end Go.Proofs.YtaejfleahamapaaGreat
