/- Contracts of functions of the program, for all arguments that they name. -/
import Derived.Test.YtpplncjaihgimaaGreatK44
namespace Go.Proofs.YtpplncjaihgimaaGreat
set_option linter.unusedVariables false
section
open Go.RowKit
set_option maxHeartbeats 2000000
attribute [local simp] qay qae qai
theorem qkk (l:List V):(0<(qaV (qbu l)).length)↔0<l.length:=by
 have h:∀l:List V,0<(qaV l).length↔0<l.length:=fun l=>by cases l<;>simp[qaV]
 rw[h,qcJ]
theorem qpy (m:Md)(r:Rl)(l:List Nd):qa7 m r r.from_ l=([],1)∨(∃xs:List V,qa7 m r r.from_ l=(xs,0)∧(0<xs.length↔0<cntF l r.path)∧xs.length≤cntF l r.path):=by
 rw[qa7,if_neg (by simp)]
 split
 ·exact .inl rfl
 ·refine .inr ⟨_,rfl,?_,?_⟩
  ·rw[qkk,List.length_map,qcw]
  ·have:=qdh (qbu ((qa4 l r.path).map fun p=>(outN m r l p).1))
   rw[qcJ,List.length_map,qcw] at this
   exact this
set_option maxHeartbeats 20000000 in
theorem qpZ (l:List Int):TP Tryz.prog 5 [.list (qab l)] (.bool true):=by
 have hfew:=qm3 l
 by_cases hl:l.length≤400
 ·have hb:decide (l.length≤400)=true:=decide_eq_true hl
  rw[hb] at hfew
  have hnew:=qnx l
  obtain⟨m,d1,g,hk,hd1,hM⟩:=qfQ (dk0 l) (qm2 hl)
  have hmc:∀D,clL D (mdC m)=true:=fun D=>by simp
  have hmo:=qco m
  have hz:((0:Int) != 0)=false:=rfl
  simp only[qax] at hM
  by_cases hr0:m.rules.length=0
  ·have hrl0:((m.rules.length:Int)==0)=true:=by simp[hr0]
   have fX:=(cJ2 @qaB @hrl0)
   refine qan fn5 (by simp) ?_
   unfold i5
   simp only[argL]
   refine wR0 0 [0] fX ?_
   refine wRn 100 [0,20] fX ?_
   refine rC fX ?_
   refine⟨_,qbj,rN fX ?_⟩
   refine rC fX ?_
   refine⟨_,hfew,rE fX ?_⟩
   refine wF fX ?_
   refine wRn 300 [3] fX ?_
   refine rU [] [(99999,dkB (dk0 l))] fX ?_
   refine⟨_,hnew,rE fX ?_⟩
   refine wRn 400 [3,4] (cJ2 @mdC.eq_1 fX) ?_
   refine rU [(99999,dkB (dk0 l))] [(99999,dkB d1)] (cJ2 @mdC.eq_1 fX) ?_
   refine⟨_,hM.full1,rE (cJ2 @mdC.eq_1 fX) ?_⟩
   refine wR0 500 [3,4,29] (cJ2 @mdC.eq_1 fX) ?_
   refine wT fX ?_
   refine wR0 600 [2] fX ?_
   refine wP ?_
   exact .same rfl
  ·have hrl0:((m.rules.length:Int)==0)=false:=by rw[beq_eq_false_iff_ne];omega
   obtain⟨i,d2,hib',hd2,hR⟩:=qbC d1 m.rules.length hd1
   obtain⟨i,rfl⟩:=Int.eq_ofNat_of_zero_le hib'.1
   have hi:i<m.rules.length:=by have:=hib'.2.2 (by omega);omega
   obtain⟨s,c,d3,o,hd3,hC⟩:=qhe g d2 hd2
   have hrm:=qdO hi
   obtain⟨r1,r2,r3,r4,r5,r6,r7⟩:=qdF hk g.check hrm
   obtain⟨_,o1⟩:=qda hk g.check o (qaA m i).from_ r1.1 r1.2
   obtain⟨c',d4,o2,hsub,hd4,hU⟩:=qkc g o1 d3 hd3
   have hA:=qdE m g.fit hk g.check i hi o1
   have hN1:=qcG m g.fit hk g.check o1 (qaA m i).path r3
   have hN2:=qcG m g.fit hk g.check o2 (qaA m i).path r3
   have hle:=qut hsub (qaA m i).path
   have hkn:decide ((cntF c' (qaA m i).path:Int)<(cntF c (qaA m i).path:Int))=false:=decide_eq_false (by omega)
   have hib:(i:Int)<((qaN m.rules).length:Int):=by rw[qaB];omega
   have hg:(qaN m.rules).getD (i:Int).toNat .undef=.agg (rlC (qaA m i)):=qhk m i (by omega)
   rcases qpy m (qaA m i) c with ha | ⟨xs,ha,hx1,hx2⟩
   ·rw[ha] at hA
    have h11:((1:Int)==1)=true:=rfl
    simp only[qax,cfgN,bagV,encV] at hR hC hU hA hN1 hN2
    have fX:=(cJ6 @hz @qaB @hrl0 @hg @hib @h11)
    refine qan fn5 (by simp) ?_
    unfold i5
    simp only[argL]
    refine wR0 0 [0] fX ?_
    refine wRn 100 [0,20] fX ?_
    refine rC fX ?_
    refine⟨_,qbj,rN fX ?_⟩
    refine rC fX ?_
    refine⟨_,hfew,rE fX ?_⟩
    refine wF fX ?_
    refine wRn 300 [3] fX ?_
    refine rU [] [(99999,dkB (dk0 l))] fX ?_
    refine⟨_,hnew,rE fX ?_⟩
    refine wRn 400 [3,4] (cJ2 @mdC.eq_1 fX) ?_
    refine rU [(99999,dkB (dk0 l))] [(99999,dkB d1)] (cJ2 @mdC.eq_1 fX) ?_
    refine⟨_,hM.full1,rE (cJ2 @mdC.eq_1 fX) ?_⟩
    refine wR0 500 [3,4,29] fX ?_
    refine wF @hrl0 ?_
    refine wRn 700 [3,4,5] (cJ2 @mdC.eq_1 fX) ?_
    refine rU [(99999,dkB d1)] [(99999,dkB d2)] (cJ2 @mdC.eq_1 fX) ?_
    refine⟨_,hR.full1,rE (cJ2 @mdC.eq_1 fX) ?_⟩
    refine wRn 800 [3,4,5,6] (cJ2 @mdC.eq_1 fX) ?_
    refine rU [(99999,dkB d2)] [(99999,dkB d3),(409,rB [.int .i64 s,.list [],.int .i64 0,.list (qac (bN m c))])] (cJ2 @mdC.eq_1 fX) ?_
    refine⟨_,hC.fullL (by simp) (by simp[qbD,qaL,qa0,qbm]),rE (cJ2 @mdC.eq_1 fX) ?_⟩
    refine wR0 900 [3,4,5,6] (cJ3 @mdC.eq_1 @rlC.eq_1 fX) ?_
    simp only[thn]
    refine qbW (l':=[(3,dkR),(4,.ref 402 10 0),(5,.int .i64 i),(6,.ref 803 2 0)]) (hl':=[(99999,dkB d3),(402,sM m),(409,.dead),(803,sVN m (qaA m i).from_ c)]) [99999,402,803] (.cons (.same rfl) (.cons (.same rfl) (.cons (.same rfl) (.cons (.same rfl) .nil)))) (.keep rfl (qaT _) (.keep rfl (.liveS (hmc _) hmo) (.dead rfl (fun h=>by cases h) (.keep rfl (.liveL (.cons (.same rfl) (.cons (qiy rfl rfl (.same (by simp[T.cl]))) .nil)) rfl) .nil)))) ?_
    refine wRn 1000 [4,5,6,7] (cJ2 @mdC.eq_1 fX) ?_
    refine rU [(99999,dkB d3)] [(99999,dkB d4)] (cJ2 @mdC.eq_1 fX) ?_
    refine⟨_,hU.full1,rE (cJ2 @mdC.eq_1 fX) ?_⟩
    refine wRn 1100 [4,5,6,7,8,9] (cJ2 @mdC.eq_1 fX) ?_
    refine rC (cJ2 @mdC.eq_1 fX) ?_
    refine⟨_,hA,rE (cJ2 @mdC.eq_1 fX) ?_⟩
    refine wRn 1200 [4,5,7,8,9,10,11] (cJ3 @mdC.eq_1 @rlC.eq_1 fX) ?_
    refine rC (cJ3 @mdC.eq_1 @rlC.eq_1 fX) ?_
    refine⟨_,hN1,rE (cJ3 @mdC.eq_1 @rlC.eq_1 fX) ?_⟩
    refine wRn 1300 [8,9,10,11,12,13] (cJ3 @mdC.eq_1 @rlC.eq_1 fX) ?_
    refine rC (cJ3 @mdC.eq_1 @rlC.eq_1 fX) ?_
    refine⟨_,hN2,rE (cJ3 @mdC.eq_1 @rlC.eq_1 fX) ?_⟩
    refine wR0 1400 [8,9,10,93] fX ?_
    refine wF (cJ2 @hz @hkn) ?_
    refine wR0 1600 [2] fX ?_
    refine wP ?_
    exact .same rfl
   ·rw[ha] at hA
    simp only[qax,cfgN,bagV,encV] at hR hC hU hA hN1 hN2
    have h01:((0:Int)==1)=false:=rfl
    have h00:((0:Int)==0)=true:=rfl
    have hxl:(qac xs).length=xs.length:=qag xs
    have hc3:decide ((xs.length:Int)≤(cntF c (qaA m i).path:Int))=true:=decide_eq_true (by omega)
    have hc4:(decide ((xs.length:Int) > 0)==decide ((cntF c (qaA m i).path:Int) > 0))=true:=by
     rw[beq_iff_eq,decide_eq_decide];omega
    have fX:=(cJ8 @hz @qaB @hrl0 @hg @hib @h01 @h00 (cJ3 @hxl @hc3 @hc4))
    refine qan fn5 (by simp) ?_
    unfold i5
    simp only[argL]
    refine wR0 0 [0] fX ?_
    refine wRn 100 [0,20] fX ?_
    refine rC fX ?_
    refine⟨_,qbj,rN fX ?_⟩
    refine rC fX ?_
    refine⟨_,hfew,rE fX ?_⟩
    refine wF fX ?_
    refine wRn 300 [3] fX ?_
    refine rU [] [(99999,dkB (dk0 l))] fX ?_
    refine⟨_,hnew,rE fX ?_⟩
    refine wRn 400 [3,4] (cJ2 @mdC.eq_1 fX) ?_
    refine rU [(99999,dkB (dk0 l))] [(99999,dkB d1)] (cJ2 @mdC.eq_1 fX) ?_
    refine⟨_,hM.full1,rE (cJ2 @mdC.eq_1 fX) ?_⟩
    refine wR0 500 [3,4,29] fX ?_
    refine wF @hrl0 ?_
    refine wRn 700 [3,4,5] (cJ2 @mdC.eq_1 fX) ?_
    refine rU [(99999,dkB d1)] [(99999,dkB d2)] (cJ2 @mdC.eq_1 fX) ?_
    refine⟨_,hR.full1,rE (cJ2 @mdC.eq_1 fX) ?_⟩
    refine wRn 800 [3,4,5,6] (cJ2 @mdC.eq_1 fX) ?_
    refine rU [(99999,dkB d2)] [(99999,dkB d3),(409,rB [.int .i64 s,.list [],.int .i64 0,.list (qac (bN m c))])] (cJ2 @mdC.eq_1 fX) ?_
    refine⟨_,hC.fullL (by simp) (by simp[qbD,qaL,qa0,qbm]),rE (cJ2 @mdC.eq_1 fX) ?_⟩
    refine wR0 900 [3,4,5,6] (cJ3 @mdC.eq_1 @rlC.eq_1 fX) ?_
    simp only[thn]
    refine qbW (l':=[(3,dkR),(4,.ref 402 10 0),(5,.int .i64 i),(6,.ref 803 2 0)]) (hl':=[(99999,dkB d3),(402,sM m),(409,.dead),(803,sVN m (qaA m i).from_ c)]) [99999,402,803] (.cons (.same rfl) (.cons (.same rfl) (.cons (.same rfl) (.cons (.same rfl) .nil)))) (.keep rfl (qaT _) (.keep rfl (.liveS (hmc _) hmo) (.dead rfl (fun h=>by cases h) (.keep rfl (.liveL (.cons (.same rfl) (.cons (qiy rfl rfl (.same (by simp[T.cl]))) .nil)) rfl) .nil)))) ?_
    refine wRn 1000 [4,5,6,7] (cJ2 @mdC.eq_1 fX) ?_
    refine rU [(99999,dkB d3)] [(99999,dkB d4)] (cJ2 @mdC.eq_1 fX) ?_
    refine⟨_,hU.full1,rE (cJ2 @mdC.eq_1 fX) ?_⟩
    refine wRn 1100 [4,5,6,7,8,9] (cJ2 @mdC.eq_1 fX) ?_
    refine rC (cJ2 @mdC.eq_1 fX) ?_
    refine⟨_,hA,rE (cJ2 @mdC.eq_1 fX) ?_⟩
    refine wRn 1200 [4,5,7,8,9,10,11] (cJ3 @mdC.eq_1 @rlC.eq_1 fX) ?_
    refine rC (cJ3 @mdC.eq_1 @rlC.eq_1 fX) ?_
    refine⟨_,hN1,rE (cJ3 @mdC.eq_1 @rlC.eq_1 fX) ?_⟩
    refine wRn 1300 [8,9,10,11,12,13] (cJ3 @mdC.eq_1 @rlC.eq_1 fX) ?_
    refine rC (cJ3 @mdC.eq_1 @rlC.eq_1 fX) ?_
    refine⟨_,hN2,rE (cJ3 @mdC.eq_1 @rlC.eq_1 fX) ?_⟩
    refine wR0 1400 [8,9,10,93] fX ?_
    refine wF (cJ2 @hz @hkn) ?_
    refine wR0 1600 [2] fX ?_
    refine wP ?_
    exact .same rfl
 ·have hb:decide (l.length≤400)=false:=decide_eq_false hl
  rw[hb] at hfew
  refine qan fn5 (by simp) ?_
  unfold i5
  simp only[argL]
  refine wR0 0 [0] cJ0 ?_
  refine wRn 100 [0,20] cJ0 ?_
  refine rC cJ0 ?_
  refine⟨_,qbj,rN cJ0 ?_⟩
  refine rC cJ0 ?_
  refine⟨_,hfew,rE cJ0 ?_⟩
  refine wT cJ0 ?_
  refine wRn 200 [2] cJ0 ?_
  refine rC cJ0 ?_
  refine⟨_,qbj,rE cJ0 ?_⟩
  refine wP ?_
  exact .same rfl
end
end Go.Proofs.YtpplncjaihgimaaGreat
