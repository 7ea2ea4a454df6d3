/- Contracts of functions of the program, for all arguments that they name. -/
import Derived.Test.YtoeeppojakbciaaGreatK32
namespace Go.Proofs.YtoeeppojakbciaaGreat
set_option linter.unusedVariables false
section
open Go.RowKit
set_option maxHeartbeats 2000000
attribute [local simp] qae qaJ qal qaF qa2
theorem qrv:∀n:Nat,(List.range n).Pairwise fun a b=>a<b:=fun n=>List.pairwise_lt_range
theorem qml {A:List Lm}(hs:A.Pairwise fun a b=>qbR a b<0):(outF A).Pairwise fun a b=>qbR a b<0:=by
 rw[outF,outP,List.pairwise_map]
 refine List.Pairwise.imp_of_mem (R:=fun a b=>a<b) (fun {a b} ha hb hlt=>?_) ((qrv _).filter _)
 have h1:=List.mem_range.1 (List.mem_filter.1 ha).1
 have h2:=List.mem_range.1 (List.mem_filter.1 hb).1
 have:=List.pairwise_iff_getElem.1 hs a b h1 h2 hlt
 simpa [List.getD_eq_getElem?_getD,h1,h2] using this
theorem qrj (A:List Lm):(outF A).length≤A.length:=qmm A A.length
theorem ql9 (t:List Nn):(limF t).length≤t.length:=by
 have h1:=qrj (qcs (t.map nLm))
 have h2:=qdn (qbp (t.map nLm))
 have h3:=qhV (t.map nLm)
 rw[List.length_map] at h3
 rw[limF];unfold qcs at h1 ⊢;omega
theorem qeV {N:Nat}{t:List Nn}(hG:TreeG N t){x:Lm}(hx:x∈limF t):VecOk N x.vec:=by
 obtain⟨j,hj,rfl⟩:=qma hx
 exact hG.vec j hj
theorem qq2 {N:Nat}{t:List Nn}(hG:TreeG N t)(i:Nat)(hi:i<(limF t).length)(k:Nat)(hk:k<(limF t).length)(hne:i≠k)(hst:((limF t).getD i default).st=((limF t).getD k default).st):vLe ((limF t).getD i default).vec ((limF t).getD k default).vec=false:=by
 have has:(limF t).Pairwise fun a b=>qbR a b<0:=qml (qgf (t.map nLm))
 have gi:(limF t).getD i default=(limF t)[i]:=by simp[List.getD_eq_getElem?_getD,hi]
 have gk:(limF t).getD k default=(limF t)[k]:=by simp[List.getD_eq_getElem?_getD,hk]
 rw[gi,gk] at hst ⊢
 obtain⟨i',a1,a2,a3⟩:=qf3.1 (List.getElem_mem hi)
 obtain⟨k',b1,b2,b3⟩:=qf3.1 (List.getElem_mem hk)
 have hn:(limF t)[i]≠(limF t)[k]:=by
  intro e
  rcases Nat.lt_or_gt_of_ne hne with hlt | hlt
  ·have:qbR (limF t)[i] (limF t)[k]<0:=List.pairwise_iff_getElem.1 has i k hi hk hlt
   rw[e,qdW] at this;omega
  ·have:qbR (limF t)[k] (limF t)[i]<0:=List.pairwise_iff_getElem.1 has k i hk hi hlt
   rw[e,qdW] at this;omega
 rw[wthA,List.any_eq_false] at a2
 have:=a2 k' (List.mem_range.2 b1)
 rw[wth,a3,b3] at this
 have hk':(k' != i')=true:=by
  rw[bne_iff_ne];intro e
  rw[e,a3] at b3;exact hn b3
 have hs':((limF t)[i].st==(limF t)[k].st)=true:=by rw[beq_iff_eq];exact hst
 rw[hk',hs',Bool.true_and,Bool.true_and,Bool.not_eq_true] at this
 exact this
theorem qqu {a b:Lm}(h:qbR a b<0):a.st≤b.st∧(a.st=b.st→vCmp a.vec b.vec<0):=by
 rw[qbR] at h
 by_cases e:a.st=b.st
 ·rw[if_pos (qcC.2 e)] at h
  exact⟨by omega,fun _=>h⟩
 ·rw[if_neg (fun hn=>e (qcC.1 hn))] at h
  have:a.st<b.st:=ordI_neg'.1 h
  exact⟨by omega,fun he=>absurd he e⟩
theorem qq3 (t:List Nn)(i:Nat)(hi:i+1<(limF t).length):((limF t).getD i default).st≤((limF t).getD (i+1) default).st∧(((limF t).getD i default).st=((limF t).getD (i+1) default).st→vCmp ((limF t).getD i default).vec ((limF t).getD (i+1) default).vec<0):=by
 have has:(limF t).Pairwise fun a b=>qbR a b<0:=qml (qgf (t.map nLm))
 have gi:(limF t).getD i default=(limF t)[i]:=by simp[List.getD_eq_getElem?_getD,show i<(limF t).length by omega]
 have gk:(limF t).getD (i+1) default=(limF t)[i+1]:=by simp[List.getD_eq_getElem?_getD,hi]
 rw[gi,gk]
 exact qqu (List.pairwise_iff_getElem.1 has i (i+1) (by omega) hi (by omega))
set_option maxHeartbeats 8000000 in
theorem qn8 (s:List Int)(hs:∀j,0≤s.getD j 0∧s.getD j 0≤255)(hsl:s.length≤9223372036854775807):TP Tryz.prog 5 [.list (qb3 s)] (.bool true):=by
 have hnew:=qk0 s hsl
 have hd:=qkR hs
 generalize newD s=d at*
 have hct:=qfk d hd
 have hok:=qqB hd
 obtain⟨o1,o2,o3,o4,o5,o6,o7,o8⟩:=hok
 generalize qfl d=m at*
 generalize (ctD d).2=d1 at*
 generalize (ctD d).1.2.2.2=v at*
 generalize (ctD d).1.2.1=a2 at*
 have hst:=qf8 m o1 o3 0 v o5 (by have:=o6.len;omega)
 have hrn:=qij m o1 o3 (1+a2) (by omega) (by omega) o4 60 (by omega) [qdf 0 v] 0 (qdN o6)
 obtain⟨hI,hk⟩:=TInv.run o4 60 [qdf 0 v] 0 0 (TInv.start (m:=m) o6) rfl
 obtain⟨R,hR⟩:∃R,runM m 60 [qdf 0 v] 0 0=R:=⟨_,rfl⟩
 rw[hR] at hrn hI hk
 obtain⟨t,k,n,e⟩:=R
 simp only at hI hk
 subst hk
 have hgd:=hI.good
 have hll:=hgd.ok.len
 have hz:((0:Int) != 0)=false:=rfl
 by_cases he:e=0
 ·subst he
  have hdn:=qia t k
  by_cases hdd:(k:Int)≥t.length
  ·have hdb:decide ((k:Int)≥t.length)=true:=decide_eq_true hdd
   rw[hdb] at hdn
   have hlm:=qgV t k (fun h=>absurd hI.pos (by rw[h];exact Nat.lt_irrefl 0)) (by omega) (fun j hj=>by
    have:=hgd.ok.vec j hj
    exact⟨fun h=>by rw[h,List.length_nil] at this;omega,by omega⟩)
   have hlen:=ql9 t
   have hcl:=fun x hx r hr hf hc=>qeW (by omega) o4 hI (by omega) (x:=x) hx (r:=r) hr hf hc
   have hL:=fun Q h=>qn5 m (by have:=o1.rules;omega) t k d1 (limF t) (by omega) (fun x hx=>by have:=(qeV hgd hx).len;omega) (fun x hx r hr=>o4.room (qeV hgd hx) hr) (fun i hi k hk hne hst=>qq2 hgd i hi k hk hne hst) (qq3 t) hcl Q h (limF t).length 0 (by omega)
   have hcv:=qiN (N:=1+a2) (by omega) hgd hI.pos (hgd.vec 0 hI.pos) ((qeD (by omega) (hgd.vec 0 hI.pos) (hgd.vec 0 hI.pos)).2 fun j=>Int.le_refl _)
   have hne:decide (((qaA (limF t)).length:Int) > 0)=true:=by
    rw[covL,List.any_eq_true] at hcv
    obtain⟨x,hx,_⟩:=hcv
    rw[qaZ,decide_eq_true_eq]
    have:=List.length_pos_of_mem hx
    omega
   generalize limF t=L at*
   simp only[qas,qbs,grC,runT,c0E,c0H,sMg,mdC,List.cons_append,List.nil_append] at hct hst hrn hL hdn hlm
   have fX:=(cJ2 @hz @hne)
   refine qah fn5 (by simp) ?_
   unfold i5
   simp only[argL]
   refine wR0 0 [0] fX ?_
   refine wRn 100 [0,18] fX ?_
   refine rC fX ?_
   refine⟨_,qex,rE fX ?_⟩
   refine wF fX ?_
   refine wRn 300 [3] fX ?_
   refine rU [] [(99999,dcB d)] fX ?_
   refine⟨_,hnew,rE fX ?_⟩
   refine wRn 400 [4] fX ?_
   refine rU [(99999,dcB d)] [(99999,dcB d1)] fX ?_
   refine⟨_,hct.fulD,rE fX ?_⟩
   refine wRn 500 [4,5,6] fX ?_
   refine rC fX ?_
   refine⟨_,hst,rE fX ?_⟩
   refine wR0 600 [4,5,29] fX ?_
   refine wF @hz ?_
   refine wRn 800 [4,5,6] fX ?_
   refine rC fX ?_
   refine⟨_,hrn,rE fX ?_⟩
   refine wRn 900 [4,5,43] fX ?_
   refine rC fX ?_
   refine⟨_,hdn,rE fX ?_⟩
   refine wF fX ?_
   refine wRn 1100 [4,7] fX ?_
   refine rC fX ?_
   refine⟨_,hlm,rE fX ?_⟩
   refine wR0 1200 [4,7,46,47,48] fX ?_
   refine wL ?_
   refine hL _ ?_
   ·intro j
    refine wN ?_
    refine wR0 3200 [2] fX ?_
    refine wP ?_
    exact .same rfl
  ·have hdb:decide ((k:Int)≥t.length)=false:=decide_eq_false hdd
   rw[hdb] at hdn
   simp only[qas,qbs,grC,runT,mdC] at hct hst hrn hdn
   have fX:=@hz
   refine qah fn5 (by simp) ?_
   unfold i5
   simp only[argL]
   refine wR0 0 [0] fX ?_
   refine wRn 100 [0,18] fX ?_
   refine rC fX ?_
   refine⟨_,qex,rE fX ?_⟩
   refine wF fX ?_
   refine wRn 300 [3] fX ?_
   refine rU [] [(99999,dcB d)] fX ?_
   refine⟨_,hnew,rE fX ?_⟩
   refine wRn 400 [4] fX ?_
   refine rU [(99999,dcB d)] [(99999,dcB d1)] fX ?_
   refine⟨_,hct.fulD,rE fX ?_⟩
   refine wRn 500 [4,5,6] fX ?_
   refine rC fX ?_
   refine⟨_,hst,rE fX ?_⟩
   refine wR0 600 [4,5,29] fX ?_
   refine wF @hz ?_
   refine wRn 800 [4,5,6] fX ?_
   refine rC fX ?_
   refine⟨_,hrn,rE fX ?_⟩
   refine wRn 900 [4,5,43] fX ?_
   refine rC fX ?_
   refine⟨_,hdn,rE fX ?_⟩
   refine wT fX ?_
   refine wR0 1000 [2] fX ?_
   refine wP ?_
   exact .same rfl
 ·have hze:(e != 0)=true:=by simpa using he
  simp only[qas,qbs,grC,runT,mdC] at hct hst hrn
  have fX:=(cJ2 @hz @hze)
  refine qah fn5 (by simp) ?_
  unfold i5
  simp only[argL]
  refine wR0 0 [0] fX ?_
  refine wRn 100 [0,18] fX ?_
  refine rC fX ?_
  refine⟨_,qex,rE fX ?_⟩
  refine wF fX ?_
  refine wRn 300 [3] fX ?_
  refine rU [] [(99999,dcB d)] fX ?_
  refine⟨_,hnew,rE fX ?_⟩
  refine wRn 400 [4] fX ?_
  refine rU [(99999,dcB d)] [(99999,dcB d1)] fX ?_
  refine⟨_,hct.fulD,rE fX ?_⟩
  refine wRn 500 [4,5,6] fX ?_
  refine rC fX ?_
  refine⟨_,hst,rE fX ?_⟩
  refine wR0 600 [4,5,29] fX ?_
  refine wF @hz ?_
  refine wRn 800 [4,5,6] fX ?_
  refine rC fX ?_
  refine⟨_,hrn,rE fX ?_⟩
  refine wR0 900 [4,5,43] fX ?_
  refine wT fX ?_
  refine wR0 1000 [2] fX ?_
  refine wP ?_
  exact .same rfl
end
end Go.Proofs.YtoeeppojakbciaaGreat
