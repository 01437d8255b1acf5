/- . -/
import Derived.Test.YtaejfleahamapaaGreatTd17
import Derived.Test.YtaejfleahamapaaGreatTd19
namespace Go.Proofs.YtaejfleahamapaaGreat
set_option linter.unusedVariables false
set_option linter.unusedSimpArgs false
open Go.RowKit
theorem zB(A:Option Addr)(m d gD gS cls ticks:Nat)(gcs:List Nat)(done:List Int)(sent:List (List Int))(w:World)(hs:SN w gS gcs (ticks+1) sent)(hl:sent.length=cls)(hr:∀l∈sent,l.length=ticks+1)(hc:cls<=6)(ht:ticks<=2000) :
 Calls Tryz.prog 23 #[.slice A m d,.agg #[.slice (some ⟨gD,0,none⟩) m m,.slice (some ⟨gS,0,none⟩) cls cls],.int .i64 cls,.int .i64 ticks] w fun e w'=>e = .returned (.bool true)/\Below w.heap.size w w':=by
 have BX:=aA (aC.new w 62 #[.slice (some ⟨gD,0,none⟩) m m,.slice (some ⟨gS,0,none⟩) cls cls]);have BW:=aA (aF w (.cells #[.slice (some ⟨gD,0,none⟩) m m,.slice (some ⟨gS,0,none⟩) cls cls] 62));have TB:=aA (hs.tb.alloc (.cells #[.slice (some ⟨gD,0,none⟩) m m,.slice (some ⟨gS,0,none⟩) cls cls] 62));have HLN:=aA hs.ln;have HL:=aA hl;have HR:=aA hr;clear hs hr;go_enter Tryz.func23,Tryz.ntmps23
 go_upto_region 1 with fail
 generalize hwe:w.alloc (.cells #[.slice (some ⟨gD,0,none⟩) m m,.slice (some ⟨gS,0,none⟩) cls cls] 62)=w1 at *;clear hwe;obtain⟨x0,x1⟩:_/\_:=⟨BX.out.cell 0,BX.out.cell 1⟩
 simp at x0 x1;have hlx:=BX.out.lt;have d0:((m:Int) != (m:Int))=false:=by simp
 have d1:((cls:Int) != (cls:Int))=false:=by simp
 go_wp2_with fail
 go_loopg [9] cls (fun gg s9 wr=>∃k:Nat,k+gg=cls/\s9 = .int .i64 k/\wr=w1)
 case atStart=>exact⟨0,by omega,rfl,rfl⟩
 case round=>
  obtain⟨k,hkg,rfl,rfl⟩:=hrel;by_cases hk:k<cls
  case pos=>
   have hki:(k:Int)<cls:=by omega
   obtain⟨l,hl'⟩:∃l,sent[k]?=some l:=⟨_,List.getElem?_eq_getElem (by omega)⟩
   obtain⟨g,hg⟩:∃g,gcs[k]?=some g:=⟨_,List.getElem?_eq_getElem (by rw [HLN.out];omega)⟩
   have c0:=TB.out.cell k;rw [List.getElem?_toArray,List.getElem?_map,(List.getElem?_zip_eq_some (z:=(g,l))).2 ⟨hg,hl'⟩] at c0;replace c0:wr.cell? ⟨gS,k,none⟩=some (.slice (some ⟨g,0,none⟩) l.length (ticks+1)):=by simpa using c0
   rw [HR.out l (List.mem_of_getElem? hl')] at c0;have hlt:=TB.out.lt;have d2:((ticks:Int)+1 != (ticks:Int)+1)=false:=by simp
   clear hl' hg;go_wp2_with fail
   go_roundg (gk-1)
   case measure=>omega
   case rel=>exact⟨k+1,by omega,by go_num,rfl⟩
  case neg=>
   have hki:¬(k:Int)<cls:=by omega
   go_wp2_with fail
   go_ret
   exact⟨rfl,BW.out⟩
end Go.Proofs.YtaejfleahamapaaGreat
