/- . -/
import Derived.Sort.LotA
namespace Go.Proofs.YtaejfleahamapaaGreat
set_option linter.unusedVariables false
set_option linter.unusedSimpArgs false
section
open Go.Sort
section
variable{α:Type} [Inhabited α]{lt:α->α->Bool}{p:α->Bool}
theorem a4u(A B:List α)(x y:α):(swp (A ++ x :: y :: B).toArray (A.length+1) A.length).toList=A ++ y :: x :: B:=by
 unfold swp;have e1:(A ++ x :: y :: B).toArray[A.length]! = x:=by simp
 have e2:(A ++ x :: y :: B).toArray[A.length+1]! = y:=by
  rw [getElem!_pos _ _ (by simp)];simp
 rw [e1,e2];simp
theorem a5b(d:Array α){j:Nat}(hj:j+1<d.size):∃A B,A.length=j/\d=(A ++ d[j]! :: d[j+1]! :: B).toArray:=by
 refine⟨d.toList.take j,d.toList.drop (j+2),by simp;omega,?_⟩
 apply Array.toList_inj.1
 have h1:j<d.toList.length:=by simp;omega
 have h2:j+1<d.toList.length:=by simp;omega
 have e1:d[j]! = d.toList[j]:=by rw [getElem!_pos d j (by omega)];simp
 have e2:d[j+1]! = d.toList[j+1]:=by rw [getElem!_pos d (j+1) (by omega)];simp
 rw [e1,e2];show d.toList=d.toList.take j ++ d.toList[j] :: d.toList[j+1] :: d.toList.drop (j+2)
 rw [<- List.drop_eq_getElem_cons h2,<- List.drop_eq_getElem_cons h1,List.take_append_drop]
theorem xB{L:List α}(hL:L.Pairwise (fun a b=>lt b a=false))(a:Nat):∀(j:Nat) (d:Array α),j<d.size->d.toList.filter p=L->(insInner lt a j d).toList.filter p=L/\(insInner lt a j d).size=d.size
 | 0,d,_,h=>⟨h,rfl⟩
 | j+1,d,hj,h=>by
   unfold insInner;by_cases hc:(decide (j+1>a) && lt d[j+1]! d[j]!)=true
   ·rw [if_pos hc];have hlt:lt d[j+1]! d[j]! = true:=by
     rw [Bool.and_eq_true] at hc;exact hc.2
    obtain⟨A,B,hA,hd⟩:=a5b d hj;generalize d[j]! = x at *;generalize d[j+1]! = y at *;have hs:(swp d (j+1) j).toList=A ++ y :: x :: B:=by
     rw [hd,<- hA];exact a4u A B x y
    have hz:(swp d (j+1) j).size=d.size:=by
     have h1:(swp d (j+1) j).size=(swp d (j+1) j).toList.length:=by simp
     have h2:d.size=d.toList.length:=by simp
     rw [h1,hs,h2,hd];simp
    have hf:(swp d (j+1) j).toList.filter p=L:=by
     rw [hs,<- h,hd];show _=(A ++ x :: y :: B).filter p
     rw [List.filter_append,List.filter_append]
     congr 1
     by_cases px:p x=true
     ·by_cases py:p y=true
      ·exfalso
       rw [hd] at h;have h:(A ++ x :: y :: B).filter p=L:=h;rw [List.filter_append,List.filter_cons_of_pos px,List.filter_cons_of_pos py] at h;rw [<- h,List.pairwise_append] at hL;have:=(List.pairwise_cons.1 hL.2.1).1 y (List.mem_cons_self ..)
       rw [hlt] at this;cases this
      ·rw [List.filter_cons_of_neg py,List.filter_cons_of_pos px,List.filter_cons_of_pos px,List.filter_cons_of_neg py]
     ·by_cases py:p y=true
      ·rw [List.filter_cons_of_pos py,List.filter_cons_of_neg px,List.filter_cons_of_neg px,List.filter_cons_of_pos py]
      ·rw [List.filter_cons_of_neg py,List.filter_cons_of_neg px,List.filter_cons_of_neg px,List.filter_cons_of_neg py]
    obtain⟨r1,r2⟩:=xB hL a j (swp d (j+1) j) (by omega) hf;exact⟨r1,by rw [r2,hz]⟩
   ·rw [if_neg hc];exact⟨h,rfl⟩
theorem xW{L:List α}(hL:L.Pairwise (fun a b=>lt b a=false))(a b:Nat):∀(n i:Nat) (d:Array α),n=b-i->b<=d.size->d.toList.filter p=L->(insOuter lt a b i d).toList.filter p=L
 | 0,i,d,hn,hb,h=>by
   unfold insOuter;rw [if_neg (by omega)];exact h
 | n+1,i,d,hn,hb,h=>by
   unfold insOuter;rw [if_pos (by omega)];obtain⟨r1,r2⟩:=xB hL a i d (by omega) h;exact xW hL a b n (i+1) _ (by omega) (by omega) r1
theorem Y2(d:Array α)(hL:(d.toList.filter p).Pairwise (fun a b=>lt b a=false)):(insertionSort lt d 0 d.size).toList.filter p=d.toList.filter p:=
 xW hL 0 d.size _ _ d rfl (Nat.le_refl _) rfl
theorem sU(h:SWO lt)(d:Array α):(insertionSort lt d 0 d.size).toList.Perm d.toList/\(insertionSort lt d 0 d.size).size=d.size/\∀i j,i<j->j<d.size->lt (insertionSort lt d 0 d.size)[j]! (insertionSort lt d 0 d.size)[i]! = false:=by
 obtain⟨⟨h1,h2,h3⟩,h4⟩:=insertionSort_holds h d 0 d.size (Nat.zero_le _) (Nat.le_refl _);refine⟨?_,h1,fun i j hij hj=>h4 i j (Nat.zero_le _) hij hj⟩
 rw [Array.extract_size] at h3;have e0:∀a:Array α,a.extract 0 a.size=a:=fun a=>Array.extract_size
 have e:=e0 (insertionSort lt d 0 d.size);rw [h1] at e
 rwa [e] at h3
end
end
end Go.Proofs.YtaejfleahamapaaGreat
