/- Contracts of functions of the program, for all arguments that they name. -/
import Derived.Test.YtkbjpglehdhjfaaGreatDoorK09
import Derived.Test.YtkbjpglehdhjfaaGreatDoorK33
namespace Go.Proofs.YtkbjpglehdhjfaaGreatDoor
set_option linter.unusedVariables false
section
open Go.RowKit
set_option maxHeartbeats 2000000
theorem qfw (m:Md)(c:List T)(hcd:c=[T.int .i64 4,.int .i64 0,.list [],.list [.agg [.int .i64 2,.int .i64 m.letters.length,.list [],.list []]]])(kb2:(m.kind==2)=true)(kb3:(m.kind==3)=false)(S:Int)(hl:m.places.length≤1000)(hr:m.ranks.length≤1000000)  (Q:IExit→(Nat→T)→Heap→Prop):∀(n j:Nat),j+n=m.places.length→
 (∀i:Int,Q (.exit 1) (ofL [(1,.ref 0 10 0),(2,.ref 1 4 0),(3,.sl 104 ((m.places.length+1)*4) 4 0 (m.places.length+1)),(14,.int .i64 (qaq m.places).length),(15,.int .i64 i),(16,.bool false)]) (hpL [(0,.live ⟨37,mdC m⟩),(1,.live ⟨45,[.int .i64 0,.int .i64 0,.nil,.nil]⟩),(104,.live ⟨45,rowC (labC S) c m.places.length⟩)]))→
 WL Tryz.prog 70 qdv (ofL [(1,.ref 0 10 0),(2,.ref 1 4 0),(3,.sl 104 ((j+1)*4) 4 0 (j+1)),(14,.int .i64 (qaq m.places).length),(15,.int .i64 j)]) (hpL [(0,.live ⟨37,mdC m⟩),(1,.live ⟨45,[.int .i64 0,.int .i64 0,.nil,.nil]⟩),(104,.live ⟨45,rowC (labC S) c j⟩)]) Q:=by
 have hlc:c.length=4:=by rw[hcd];rfl
 simp only[mdC]
 intro n
 induction n with
 | zero=>
  intro j hj hQ
  have hd:decide ((j:Int)<((qaq m.places).length:Int))=false:=by simp[qai];omega
  have hjn:j=m.places.length:=by omega
  subst hjn
  have fX:=@hd
  refine qaa qdv.eq_1 ?_
  refine wR0 800 [1,2,3,14,15,16] fX ?_
  refine wF @hd ?_
  refine wX ?_
  refine wN ?_
  exact hQ _
 | succ n ih=>
  intro j hj hQ
  have hlt:(j:Int)<((qaq m.places).length:Int):=by simp[qai];omega
  have hd:decide ((j:Int)<((qaq m.places).length:Int))=true:=decide_eq_true hlt
  have hw:IntKind.wrap .i64 ((j:Int)+1)=(j:Int)+1:=wrap64 (by omega) (by omega)
  have hlen:(rowC (labC S) c j).length=(j+1)*4:=qcW _ _ rfl hlc j
  have hj4:j+1≤1001:=by omega
  have hcl:∀D,clL D (rowC (labC S) c j)=true:=fun D=>qfq rfl (by rw[hcd];simp[clL,T.cl]) j
  have h1:=qdH (m.letters.length:Int);have h2:=qg0 4 2 (m.letters.length:Int) [] [];simp only[qaU,qbI,qaz,qaw,qam] at h1 h2;have hsl:=qai m.letters
  have fX:=(cJ7 @hd @hw @kb2 @kb3 @hlen @qb0 @hsl)
  refine qaa qdv.eq_1 ?_
  refine W_gc ?_
  refine wR0 800 [1,2,3,14,15,16] fX ?_
  refine wT @hd ?_
  refine wR0 900 [1,2,3,4,14,15] fX ?_
  refine wR0 1000 [1,2,3,4,14,15,19] fX ?_
  refine wR0 1100 [1,2,3,4,14,15,19,20] fX ?_
  refine wT fX ?_
  refine wRn 1200 [1,2,3,4,14,15] fX ?_
  refine rC fX ?_
  refine⟨_,h1,rN fX ?_⟩
  refine rC fX ?_
  refine⟨_,h2,rE fX ?_⟩
  refine wR0 1500 [1,2,3,14,15] fX ?_
  refine wR0 1600 [1,2,3,14,15] fX ?_
  refine wN ?_
  refine qay [0,1,104] (by simp[inL]) (by simp[inL,T.cl]) (by simp[qaf,inL,Slot.cl,T.cl,clL,qab,hcl]) ?_
  have:=ih (j+1) (by omega) hQ
  have hm:(j+1+1)*4=(j+1)*4+4:=(by omega)
  simp only[rowC,hm] at this
  rw[show rowC (labC S) c j++c=rowC (labC S) c j++[T.int .i64 4,.int .i64 0,.list [],.list [.agg [.int .i64 2,.int .i64 m.letters.length,.list [],.list []]]] from by rw[←hcd]] at this
  simpa [qaf,inL] using this
theorem qfx (m:Md)(c:List T)(hcd:c=[T.int .i64 7,.int .i64 m.letters.length,.list (qad m.ranks),.nil])(kb2:(m.kind==2)=false)(kb3:(m.kind==3)=true)(S:Int)(hl:m.places.length≤1000)(hr:m.ranks.length≤1000000)(hne:m.ranks≠[])(Q:IExit→(Nat→T)→Heap→Prop):∀(n j:Nat),j+n=m.places.length→
 (∀i:Int,Q (.exit 1) (ofL [(1,.ref 0 10 0),(2,.ref 1 4 0),(3,.sl 104 ((m.places.length+1)*4) 4 0 (m.places.length+1)),(14,.int .i64 (qaq m.places).length),(15,.int .i64 i),(16,.bool false)]) (hpL [(0,.live ⟨37,mdC m⟩),(1,.live ⟨45,[.int .i64 0,.int .i64 0,.nil,.nil]⟩),(104,.live ⟨45,rowC (labC S) c m.places.length⟩)]))→
 WL Tryz.prog 70 qdv (ofL [(1,.ref 0 10 0),(2,.ref 1 4 0),(3,.sl 104 ((j+1)*4) 4 0 (j+1)),(14,.int .i64 (qaq m.places).length),(15,.int .i64 j)]) (hpL [(0,.live ⟨37,mdC m⟩),(1,.live ⟨45,[.int .i64 0,.int .i64 0,.nil,.nil]⟩),(104,.live ⟨45,rowC (labC S) c j⟩)]) Q:=by
 have hlc:c.length=4:=by rw[hcd];rfl
 simp only[mdC]
 intro n
 induction n with
 | zero=>
  intro j hj hQ
  have hd:decide ((j:Int)<((qaq m.places).length:Int))=false:=by simp[qai];omega
  have hjn:j=m.places.length:=by omega
  subst hjn
  have fX:=@hd
  refine qaa qdv.eq_1 ?_
  refine wR0 800 [1,2,3,14,15,16] fX ?_
  refine wF @hd ?_
  refine wX ?_
  refine wN ?_
  exact hQ _
 | succ n ih=>
  intro j hj hQ
  have hlt:(j:Int)<((qaq m.places).length:Int):=by simp[qai];omega
  have hd:decide ((j:Int)<((qaq m.places).length:Int))=true:=decide_eq_true hlt
  have hw:IntKind.wrap .i64 ((j:Int)+1)=(j:Int)+1:=wrap64 (by omega) (by omega)
  have hlen:(rowC (labC S) c j).length=(j+1)*4:=qcW _ _ rfl hlc j
  have hj4:j+1≤1001:=by omega
  have hcl:∀D,clL D (rowC (labC S) c j)=true:=fun D=>qfq rfl (by rw[hcd];simp[clL,T.cl]) j
  have hsl:=qai m.letters;have h3:TP Tryz.prog 75 [.list (qad m.ranks)] (.list (qad m.ranks)):=(by obtain⟨x,r,hx⟩:=List.exists_cons_of_ne_nil hne;rw[hx] at hr ⊢;exact qpI x r hr)
  have fX:=(cJ7 @hd @hw @kb2 @kb3 @hlen @qb0 @hsl)
  refine qaa qdv.eq_1 ?_
  refine W_gc ?_
  refine wR0 800 [1,2,3,14,15,16] fX ?_
  refine wT @hd ?_
  refine wR0 900 [1,2,3,4,14,15] fX ?_
  refine wR0 1000 [1,2,3,4,14,15,19] fX ?_
  refine wR0 1100 [1,2,3,4,14,15,19,20] fX ?_
  refine wF fX ?_
  refine wR0 1300 [1,2,3,4,14,15,27] fX ?_
  refine wT fX ?_
  refine wRn 1400 [1,2,3,4,14,15] fX ?_
  refine rC fX ?_
  refine⟨_,h3,rE fX ?_⟩
  refine wR0 1500 [1,2,3,14,15] fX ?_
  refine wR0 1600 [1,2,3,14,15] fX ?_
  refine wN ?_
  refine qay [0,1,104] (by simp[inL]) (by simp[inL,T.cl]) (by simp[qaf,inL,Slot.cl,T.cl,clL,qab,hcl]) ?_
  have:=ih (j+1) (by omega) hQ
  have hm:(j+1+1)*4=(j+1)*4+4:=(by omega)
  simp only[rowC,hm] at this
  rw[show rowC (labC S) c j++c=rowC (labC S) c j++[T.int .i64 7,.int .i64 m.letters.length,.list (qad m.ranks),.nil] from by rw[←hcd]] at this
  simpa [qaf,inL] using this
theorem qfv (m:Md)(c:List T)(hcd:c=[T.int .i64 1,.int .i64 0,.nil,.nil])(kb2:(m.kind==2)=false)(kb3:(m.kind==3)=false)(S:Int)(hl:m.places.length≤1000)(hr:m.ranks.length≤1000000)  (Q:IExit→(Nat→T)→Heap→Prop):∀(n j:Nat),j+n=m.places.length→
 (∀i:Int,Q (.exit 1) (ofL [(1,.ref 0 10 0),(2,.ref 1 4 0),(3,.sl 104 ((m.places.length+1)*4) 4 0 (m.places.length+1)),(14,.int .i64 (qaq m.places).length),(15,.int .i64 i),(16,.bool false)]) (hpL [(0,.live ⟨37,mdC m⟩),(1,.live ⟨45,[.int .i64 0,.int .i64 0,.nil,.nil]⟩),(104,.live ⟨45,rowC (labC S) c m.places.length⟩)]))→
 WL Tryz.prog 70 qdv (ofL [(1,.ref 0 10 0),(2,.ref 1 4 0),(3,.sl 104 ((j+1)*4) 4 0 (j+1)),(14,.int .i64 (qaq m.places).length),(15,.int .i64 j)]) (hpL [(0,.live ⟨37,mdC m⟩),(1,.live ⟨45,[.int .i64 0,.int .i64 0,.nil,.nil]⟩),(104,.live ⟨45,rowC (labC S) c j⟩)]) Q:=by
 have hlc:c.length=4:=by rw[hcd];rfl
 simp only[mdC]
 intro n
 induction n with
 | zero=>
  intro j hj hQ
  have hd:decide ((j:Int)<((qaq m.places).length:Int))=false:=by simp[qai];omega
  have hjn:j=m.places.length:=by omega
  subst hjn
  have fX:=@hd
  refine qaa qdv.eq_1 ?_
  refine wR0 800 [1,2,3,14,15,16] fX ?_
  refine wF @hd ?_
  refine wX ?_
  refine wN ?_
  exact hQ _
 | succ n ih=>
  intro j hj hQ
  have hlt:(j:Int)<((qaq m.places).length:Int):=by simp[qai];omega
  have hd:decide ((j:Int)<((qaq m.places).length:Int))=true:=decide_eq_true hlt
  have hw:IntKind.wrap .i64 ((j:Int)+1)=(j:Int)+1:=wrap64 (by omega) (by omega)
  have hlen:(rowC (labC S) c j).length=(j+1)*4:=qcW _ _ rfl hlc j
  have hj4:j+1≤1001:=by omega
  have hcl:∀D,clL D (rowC (labC S) c j)=true:=fun D=>qfq rfl (by rw[hcd];simp[clL,T.cl]) j
  have hsl:=qai m.letters
  have fX:=(cJ7 @hd @hw @kb2 @kb3 @hlen @qb0 @hsl)
  refine qaa qdv.eq_1 ?_
  refine W_gc ?_
  refine wR0 800 [1,2,3,14,15,16] fX ?_
  refine wT @hd ?_
  refine wR0 900 [1,2,3,4,14,15] fX ?_
  refine wR0 1000 [1,2,3,4,14,15,19] fX ?_
  refine wR0 1100 [1,2,3,4,14,15,19,20] fX ?_
  refine wF fX ?_
  refine wR0 1300 [1,2,3,4,14,15,27] fX ?_
  refine wF fX ?_
  refine wR0 1500 [1,2,3,14,15] fX ?_
  refine wR0 1600 [1,2,3,14,15] fX ?_
  refine wN ?_
  refine qay [0,1,104] (by simp[inL]) (by simp[inL,T.cl]) (by simp[qaf,inL,Slot.cl,T.cl,clL,qab,hcl]) ?_
  have:=ih (j+1) (by omega) hQ
  have hm:(j+1+1)*4=(j+1)*4+4:=(by omega)
  simp only[rowC,hm] at this
  rw[show rowC (labC S) c j++c=rowC (labC S) c j++[T.int .i64 1,.int .i64 0,.nil,.nil] from by rw[←hcd]] at this
  simpa [qaf,inL] using this
set_option maxHeartbeats 8000000 in
theorem qnA (m:Md)(hm:m.sane):TP Tryz.prog 115 [qaA m] (qaz (qa9 m)):=by
 have tk:∀(c:Int),(m.kind==c)=true→m.kind=c:=fun c h=>by simpa using h
 have fk:∀(c:Int),(m.kind==c)=false→m.kind≠c:=fun c h=>by simpa using h
 have ha:=hm.age
 have hw:IntKind.wrap .i64 (m.age+2)=m.age+2:=wrap64 (by omega) (by omega)
 have hl1:=qdH (m.states.length:Int)
 have hl2:=qdH (m.places.length:Int)
 have hl3:=qdH (m.age+2)
 have hn1:=qiM (m.letters.length:Int)
 have hn2:=qnY (m.letters.length:Int)
 have hb:=qg0 5 3 0 [] [qaU m.places.length,qaU (m.age+2)]
 simp only[qb9,qcl,qaU,qbI,qaz,qaw,qam] at hl1 hl2 hl3 hn1 hn2 hb
 have e4:m.kind=4→qa9 m=qbf [qaU m.states.length,qev m.letters.length m.levels]:=fun h=>by rw[qa9,if_pos h]
 have e5:m.kind=5→qa9 m=qbf [qaU m.states.length,qbI 5 (.mk 3 0 [] [qaU m.places.length,qaU (m.age+2)])]:=fun h=>by rw[qa9,if_neg (by omega),if_pos h]
 have eo:m.kind≠4→m.kind≠5→qa9 m=qbf (qfu (qaU m.states.length) (qex m) m.places.length):=fun h h'=>by rw[qa9,if_neg h,if_neg h']
 have hkc:m.kind≠4→m.kind≠5→m.kind=2∨m.kind=3∨(m.kind≠2∧m.kind≠3):=fun _ _=>by omega
 have fX:=(cJ3 @hw @qb0 @qkV)
 refine qag fn115 (by simp) ?_
 unfold i115
 simp only[argL,qaA,mdC]
 refine wR0 0 [1,2] fX ?_
 refine wRn 100 [1,2,3] (cJ2 @qai fX) ?_
 refine rC (cJ2 @qai fX) ?_
 refine⟨_,hl1,rE (cJ2 @qai fX) ?_⟩
 refine wR0 200 [1,2,3,11] fX ?_
 refine wR0 300 [1,2,3,11,41] fX ?_
 refine wS cJ0 (fun hc300=>?_) (fun hc300=>?_)
 ·skip
  refine wN ?_
  rcases hm.lev (tk _ hc300) with hlev | hlev
  ·skip
   refine wRn 400 [2,3] (cJ3 @hlev @qai fX) ?_
   refine rC (cJ3 @hlev @qai fX) ?_
   refine⟨_,(by first | exact hn1 | exact hn2),rE (cJ3 @hlev @qai fX) ?_⟩
   refine wR0 1700 [2] fX ?_
   refine wP ?_
   first | (rw[e4 (tk _ hc300),hlev];refine eG ?_;(try simp only[qb9,qaU,qbI,qbf,qaz,qam,qaw]);(first | exact fF | exact fZt);done) | (rw[e5 (tk _ hc500)];refine eG ?_;(try simp only[qaU,qbI,qbf,qaz,qam,qaw]);(first | exact fF | exact fZt);done) | (rw[eo (fk _ hc300) (fk _ hc500)];refine eG ?_;(try simp only[qbf,qaz,qaw]);exact Frz.aggL (FrzL.cons (.same rfl) (FrzL.cons (.same rfl) (FrzL.cons .nil (FrzL.cons (qcw _ rfl rfl rfl rfl (qdK m) (qeY _) (qdJ m)) FrzL.nil)))) (by rfl))
  ·skip
   refine wRn 400 [2,3] (cJ3 @hlev @qai fX) ?_
   refine rC (cJ3 @hlev @qai fX) ?_
   refine⟨_,(by first | exact hn1 | exact hn2),rE (cJ3 @hlev @qai fX) ?_⟩
   refine wR0 1700 [2] fX ?_
   refine wP ?_
   first | (rw[e4 (tk _ hc300),hlev];refine eG ?_;(try simp only[qcl,qaU,qbI,qbf,qaz,qam,qaw]);(first | exact fF | exact fZt);done) | (rw[e5 (tk _ hc500)];refine eG ?_;(try simp only[qaU,qbI,qbf,qaz,qam,qaw]);(first | exact fF | exact fZt);done) | (rw[eo (fk _ hc300) (fk _ hc500)];refine eG ?_;(try simp only[qbf,qaz,qaw]);exact Frz.aggL (FrzL.cons (.same rfl) (FrzL.cons (.same rfl) (FrzL.cons .nil (FrzL.cons (qcw _ rfl rfl rfl rfl (qdK m) (qeY _) (qdJ m)) FrzL.nil)))) (by rfl))
 ·skip
  refine wR0 500 [1,2,3,52] fX ?_
  refine wS cJ0 (fun hc500=>?_) (fun hc500=>?_)
  ·skip
   refine wRn 600 [2,3] (cJ2 @qai fX) ?_
   refine rC (cJ2 @qai fX) ?_
   refine⟨_,hl2,rN (cJ2 @qai fX) ?_⟩
   refine rC (cJ2 @qai fX) ?_
   refine⟨_,hl3,rN (cJ2 @qai fX) ?_⟩
   refine rG [(609,.live ⟨_,_⟩)] (cJ2 @qai fX) ?_
   refine⟨_,_,hb,(by ((try simp only[qaU,qbI,qaz,qam,qaw]);(first | exact fF | exact fZt))),rE (cJ2 @qai fX) ?_⟩
   refine wR0 1700 [2] fX ?_
   refine wP ?_
   first | (rw[e4 (tk _ hc300),hlev];refine eG ?_;(try simp only[qb9,qcl,qaU,qbI,qbf,qaz,qam,qaw]);(first | exact fF | exact fZt);done) | (rw[e5 (tk _ hc500)];refine eG ?_;(try simp only[qaU,qbI,qbf,qaz,qam,qaw]);(first | exact fF | exact fZt);done) | (rw[eo (fk _ hc300) (fk _ hc500)];refine eG ?_;(try simp only[qbf,qaz,qaw]);exact Frz.aggL (FrzL.cons (.same rfl) (FrzL.cons (.same rfl) (FrzL.cons .nil (FrzL.cons (qcw _ rfl rfl rfl rfl (qdK m) (qeY _) (qdJ m)) FrzL.nil)))) (by rfl))
  ·skip
   refine wN ?_
   rcases hkc (fk _ hc300) (fk _ hc500) with h2 | h2 | h2
   ·skip
    refine wR0 700 [1,2,3,14,15] fX ?_
    refine wL ?_
    first | (have q2:m.kind=2:=h2;refine qfw m _ (show qdg m=_ from by simp[qdg,h2]) (by simp[h2]) (by simp[h2]) (m.states.length:Int) hm.fit.places hm.fit.ranks _ m.places.length 0 (by omega) ?_) | (have q2:m.kind=3:=h2;refine qfx m _ (show qdg m=_ from by simp[qdg,h2]) (by simp[h2]) (by simp[h2]) (m.states.length:Int) hm.fit.places hm.fit.ranks (hm.rank h2) _ m.places.length 0 (by omega) ?_) | (have q2:m.kind≠2∧m.kind≠3:=h2;refine qfv m _ (show qdg m=_ from by simp[qdg,h2]) (by simp[h2]) (by simp[h2]) (m.states.length:Int) hm.fit.places hm.fit.ranks _ m.places.length 0 (by omega) ?_)
    ·intro i
     refine wN ?_
     refine wR0 1700 [2] fX ?_
     refine wP ?_
     first | (rw[e4 (tk _ hc300),hlev];refine eG ?_;(try simp only[qb9,qcl,qaU,qbI,qbf,qaz,qam,qaw]);(first | exact fF | exact fZt);done) | (rw[e5 (tk _ hc500)];refine eG ?_;(try simp only[qaU,qbI,qbf,qaz,qam,qaw]);(first | exact fF | exact fZt);done) | (rw[eo (fk _ hc300) (fk _ hc500)];refine eG ?_;(try simp only[qbf,qaz,qaw]);exact Frz.aggL (FrzL.cons (.same rfl) (FrzL.cons (.same rfl) (FrzL.cons .nil (FrzL.cons (qcw _ rfl rfl rfl rfl (qdK m) (qeY _) (qdJ m)) FrzL.nil)))) (by rfl))
   ·skip
    refine wR0 700 [1,2,3,14,15] fX ?_
    refine wL ?_
    first | (have q2:m.kind=2:=h2;refine qfw m _ (show qdg m=_ from by simp[qdg,h2]) (by simp[h2]) (by simp[h2]) (m.states.length:Int) hm.fit.places hm.fit.ranks _ m.places.length 0 (by omega) ?_) | (have q2:m.kind=3:=h2;refine qfx m _ (show qdg m=_ from by simp[qdg,h2]) (by simp[h2]) (by simp[h2]) (m.states.length:Int) hm.fit.places hm.fit.ranks (hm.rank h2) _ m.places.length 0 (by omega) ?_) | (have q2:m.kind≠2∧m.kind≠3:=h2;refine qfv m _ (show qdg m=_ from by simp[qdg,h2]) (by simp[h2]) (by simp[h2]) (m.states.length:Int) hm.fit.places hm.fit.ranks _ m.places.length 0 (by omega) ?_)
    ·intro i
     refine wN ?_
     refine wR0 1700 [2] fX ?_
     refine wP ?_
     first | (rw[e4 (tk _ hc300),hlev];refine eG ?_;(try simp only[qb9,qcl,qaU,qbI,qbf,qaz,qam,qaw]);(first | exact fF | exact fZt);done) | (rw[e5 (tk _ hc500)];refine eG ?_;(try simp only[qaU,qbI,qbf,qaz,qam,qaw]);(first | exact fF | exact fZt);done) | (rw[eo (fk _ hc300) (fk _ hc500)];refine eG ?_;(try simp only[qbf,qaz,qaw]);exact Frz.aggL (FrzL.cons (.same rfl) (FrzL.cons (.same rfl) (FrzL.cons .nil (FrzL.cons (qcw _ rfl rfl rfl rfl (qdK m) (qeY _) (qdJ m)) FrzL.nil)))) (by rfl))
   ·skip
    refine wR0 700 [1,2,3,14,15] fX ?_
    refine wL ?_
    first | (have q2:m.kind=2:=h2;refine qfw m _ (show qdg m=_ from by simp[qdg,h2]) (by simp[h2]) (by simp[h2]) (m.states.length:Int) hm.fit.places hm.fit.ranks _ m.places.length 0 (by omega) ?_) | (have q2:m.kind=3:=h2;refine qfx m _ (show qdg m=_ from by simp[qdg,h2]) (by simp[h2]) (by simp[h2]) (m.states.length:Int) hm.fit.places hm.fit.ranks (hm.rank h2) _ m.places.length 0 (by omega) ?_) | (have q2:m.kind≠2∧m.kind≠3:=h2;refine qfv m _ (show qdg m=_ from by simp[qdg,h2]) (by simp[h2]) (by simp[h2]) (m.states.length:Int) hm.fit.places hm.fit.ranks _ m.places.length 0 (by omega) ?_)
    ·intro i
     refine wN ?_
     refine wR0 1700 [2] fX ?_
     refine wP ?_
     first | (rw[e4 (tk _ hc300),hlev];refine eG ?_;(try simp only[qb9,qcl,qaU,qbI,qbf,qaz,qam,qaw]);(first | exact fF | exact fZt);done) | (rw[e5 (tk _ hc500)];refine eG ?_;(try simp only[qaU,qbI,qbf,qaz,qam,qaw]);(first | exact fF | exact fZt);done) | (rw[eo (fk _ hc300) (fk _ hc500)];refine eG ?_;(try simp only[qbf,qaz,qaw]);exact Frz.aggL (FrzL.cons (.same rfl) (FrzL.cons (.same rfl) (FrzL.cons .nil (FrzL.cons (qcw _ rfl rfl rfl rfl (qdK m) (qeY _) (qdJ m)) FrzL.nil)))) (by rfl))
theorem qrZ (n:Nat)(hn:0<n)(hl:n≤1000000):TC Tryz.prog 227 [.nil,.int .i64 n] (hpL []) (.sl 508 0 0 0 0) (hpL [(505,.dead),(508,.live ⟨9,[]⟩)]):=by
 have h1:decide ((n:Int)<0)=false:=decide_eq_false (by omega)
 have h2:decide ((n:Int) > 0)=true:=decide_eq_true (by omega)
 have hw:IntKind.wrap .i64 ((n:Int) - 0)=(n:Int):=by rw[Int.sub_zero];exact wrap64 (by omega) (by omega)
 have hw2:IntKind.wrap .i64 ((0:Int) - 0)=0:=rfl
 have fX:=(cJ4 @h1 @h2 @hw @hw2)
 refine qi2 fn227 (by simp) ?_
 unfold i227
 simp only[argL]
 refine wR0 0 [0,1] fX ?_
 refine wR0 100 [0,1,6] fX ?_
 refine wF @h1 ?_
 refine wR0 300 [0,1] fX ?_
 refine wR0 400 [0,1,16] fX ?_
 refine wT @h2 ?_
 refine wR 500 [0] ?_
 refine rN1 fX ?_
 refine rN1 fX ?_
 refine rN1 fX ?_
 refine rN1 fX ?_
 refine rN1 fX ?_
 refine rN1 fX ?_
 refine rN1 fX ?_
 refine rN1 fX ?_
 refine rCut fX ?_
 refine rE fX ?_
 refine wR0 600 [4] fX ?_
 refine wE ?_
 refine wN ?_
 first | exact⟨by simp,rfl,rfl⟩ | exact⟨by simp,rfl,trivial⟩
theorem qt6 (n:Nat)(hn:0<n)(hl:n≤1000000):TC Tryz.prog 227 [.nil,.int .i64 n] (hpL []) (.sl 508 0 0 0 0) (hpL [(508,.live ⟨9,[]⟩)]):=
 ql8 [508] (qrZ n hn hl) (by simp) (by simp[T.cl,inL]) (by simp[qaf,inL,Slot.cl,clL])
def llsS (xss:List (List ByteArray)):List T:=xss.map fun l=>.list (qaq l)
theorem qmQ (pre:List (List ByteArray))(l:List ByteArray)(rest:List (List ByteArray)):(llsS (pre++l::rest)).getD pre.length .undef=.list (qaq l):=by simp[llsS,List.getD_eq_getElem?_getD]
theorem qgY (xss:List (List ByteArray)):(llsS xss).length=xss.length:=by simp[llsS]
theorem qtN (xss:List (List ByteArray))(hs:xss.flatten.length≤1000000)(hl:xss.length≤1000000)(Q:IExit→(Nat→T)→Heap→Prop):∀(rest pre:List (List ByteArray)) (i:Nat),xss=pre++rest→pre.length=i→
 (∀i:Int,Q (.exit 0) (ofL [(0,.list (llsS xss)),(3,.int .i64 xss.flatten.length),(9,.list (llsS xss)),(10,.int .i64 (llsS xss).length),(11,.int .i64 i),(12,.bool false)]) (hpL []))→
 WL Tryz.prog 36 qjz (ofL [(0,.list (llsS xss)),(3,.int .i64 pre.flatten.length),(9,.list (llsS xss)),(10,.int .i64 (llsS xss).length),(11,.int .i64 i)]) (hpL []) Q:=by
 intro rest
 induction rest with
 | nil=>
  intro pre i he hn hQ
  have hd:decide ((i:Int)<((llsS xss).length:Int))=false:=by simp[qgY,he,hn]
  simp only[List.append_nil] at he
  subst he
  have fX:=@hd
  refine qaa qjz.eq_1 ?_
  refine wR0 300 [0,3,9,10,11,12] fX ?_
  refine wF @hd ?_
  refine wX ?_
  refine wN ?_
  exact hQ _
 | cons k rest ih=>
  intro pre i he hn hQ
  have hlt:(i:Int)<((llsS xss).length:Int):=by simp[qgY,he];omega
  have hlb:i≤1000000:=by rw[he] at hl;simp at hl;omega
  have hd:decide ((i:Int)<((llsS xss).length:Int))=true:=decide_eq_true hlt
  have hg:(llsS xss).getD (i:Int).toNat .undef=.list (qaq k):=by rw[Int.toNat_natCast,he,←hn];exact qmQ _ k _
  have hw:IntKind.wrap .i64 ((i:Int)+1)=(i:Int)+1:=wrap64 (by omega) (by omega)
  have hsum:(pre++[k]).flatten.length≤1000000:=by rw[he] at hs;simp at hs ⊢;omega
  have hw2:IntKind.wrap .i64 ((pre.flatten.length:Int)+((qaq k).length:Int))=((pre++[k]).flatten.length:Int):=by rw[qai];simp at hsum ⊢;exact wrap64 (by omega) (by omega)
  have hd2:decide (((pre++[k]).flatten.length:Int)<0)=false:=decide_eq_false (by omega)
  have fX:=(cJ5 @hd @hg @hw @hw2 @hd2)
  refine qaa qjz.eq_1 ?_
  refine wR0 300 [0,3,9,10,11,12] fX ?_
  refine wT @hd ?_
  refine wR0 400 [0,3,5,9,10,11] fX ?_
  refine wR0 500 [0,3,9,10,11] fX ?_
  refine wR0 600 [0,3,9,10,11,20] fX ?_
  refine wF @hd2 ?_
  refine wR0 800 [0,3,9,10,11] fX ?_
  refine wN ?_
  exact ih (pre++[k]) (i+1) (by simp[he]) (by simp;omega) hQ
theorem qtO (xss:List (List ByteArray))(hs:xss.flatten.length≤1000000)(hl:xss.length≤1000000)(Q:IExit→(Nat→T)→Heap→Prop):∀(rest pre:List (List ByteArray)) (i:Nat) (done:List ByteArray),xss=pre++rest→pre.length=i→pre.flatten=done→
 (∀(i:Int) (done:List ByteArray),done=xss.flatten→Q (.exit 2) (ofL [(6,.sl 508 (done.length) 0 0 done.length),(25,.list (llsS xss)),(26,.int .i64 (llsS xss).length),(27,.int .i64 i),(28,.bool false)]) (hpL [(508,.live ⟨9,qaq done⟩)]))→
 WL Tryz.prog 36 qhy (ofL [(6,.sl 508 (done.length) 0 0 done.length),(25,.list (llsS xss)),(26,.int .i64 (llsS xss).length),(27,.int .i64 i)]) (hpL [(508,.live ⟨9,qaq done⟩)]) Q:=by
 intro rest
 induction rest with
 | nil=>
  intro pre i done he hn hdn hQ
  have hd:decide ((i:Int)<((llsS xss).length:Int))=false:=by simp[qgY,he,hn]
  simp only[List.append_nil] at he
  have fX:=@hd
  refine qaa qhy.eq_1 ?_
  refine wR0 1100 [6,25,26,27,28] fX ?_
  refine wF @hd ?_
  refine wX ?_
  refine wN ?_
  exact hQ _ done (by rw[he,hdn])
 | cons k rest ih=>
  intro pre i done he hn hdn hQ
  have hlt:(i:Int)<((llsS xss).length:Int):=by simp[qgY,he];omega
  have hlb:i≤1000000:=by rw[he] at hl;simp at hl;omega
  have hd:decide ((i:Int)<((llsS xss).length:Int))=true:=decide_eq_true hlt
  have hg:(llsS xss).getD (i:Int).toNat .undef=.list (qaq k):=by rw[Int.toNat_natCast,he,←hn];exact qmQ _ k _
  have hw:IntKind.wrap .i64 ((i:Int)+1)=(i:Int)+1:=wrap64 (by omega) (by omega)
  have hsum:done.length+k.length≤1000000:=by rw[he] at hs;rw[←hdn];simp at hs ⊢;omega
  cases k with
  | nil=>
   have hg':(llsS xss).getD (i:Int).toNat .undef=.list []:=hg
   have fX:=(cJ3 @hd @hg' @hw)
   refine qaa qhy.eq_1 ?_
   refine wR0 1100 [6,25,26,27,28] fX ?_
   refine wT @hd ?_
   refine wR0 1200 [6,8,25,26,27] fX ?_
   refine wR0 1300 [6,25,26,27] fX ?_
   refine wR0 1400 [6,25,26,27] fX ?_
   refine wN ?_
   exact ih (pre++[[]]) (i+1) done (by simp[he]) (by simp;omega) (by simp[hdn]) hQ
  | cons y k=>
   have hne:qaq (y::k)≠[]:=by simp[qaq]
   have hszd:=qdU (y::k)
   have hlen:(qaq done).length=done.length:=qai _
   have hkl:=qai (y::k)
   have hkf:flat (qaq (y::k))=qaq (y::k):=qb5 _
   have hkfl:(qaq (y::k)).length=(y::k).length:=qai _
   have hsum':done.length+(y::k).length≤1000000000:=by omega
   have hpos:0<(y::k).length:=by simp
   generalize hyk:y::k=yk at*
   have fX:=(cJ8 @hd @hg @hw @hne @hszd @hlen @hkl (cJ6 @hkf @hkfl @ne_eq.{1} @not_false_eq_true @true_and @and_true))
   refine qaa qhy.eq_1 ?_
   refine wR0 1100 [6,25,26,27,28] fX ?_
   refine wT @hd ?_
   refine wR0 1200 [6,8,25,26,27] fX ?_
   refine wR0 1300 [6,25,26,27] fX ?_
   refine wR0 1400 [6,25,26,27] fX ?_
   refine wN ?_
   have:=ih (pre++[yk]) (i+1) (done++yk) (by simp[he]) (by simp;omega) (by simp[hdn]) hQ
   rw[qcO] at this
   simp only[List.length_append] at this
   try simp only[Nat.add_mul] at this
   exact this
theorem qtP (xss:List (List ByteArray))(hs:xss.flatten.length≤1000000)(hl:xss.length≤1000000)(hne:xss.flatten≠[]):TC Tryz.prog 194 [.list (llsS xss)] (hpL []) (.sl 508 ((qaq xss.flatten).length) 0 0 xss.flatten.length) (hpL [(508,.live ⟨9,qaq xss.flatten⟩)]):=by
 have hpos:0<xss.flatten.length:=by cases h:xss.flatten with | nil=>exact absurd h hne | cons _ _=>simp
 have hg:=qt6 xss.flatten.length hpos hs
 refine qi2 fn194 (by simp) ?_
 unfold i194
 simp only[argL]
 refine wR0 0 [0] cJ0 ?_
 refine wR0 100 [0,3] cJ0 ?_
 refine wR0 200 [0,3,9,10,11] cJ0 ?_
 refine wL ?_
 refine qtN xss hs hl _ xss [] 0 rfl rfl ?_
 ·intro i
  refine wN ?_
  refine wRn 900 [0,6] cJ0 ?_
  refine rU [] [(508,.live ⟨9,[]⟩)] cJ0 ?_
  refine⟨_,hg,rE cJ0 ?_⟩
  refine wR0 1000 [6,25,26,27] cJ0 ?_
  refine wL ?_
  refine qtO xss hs hl _ xss [] 0 [] rfl rfl rfl ?_
  ·intro i dn hdn
   refine wN ?_
   refine wR0 1500 [2] cJ0 ?_
   refine wE ?_
   refine wN ?_
   exact⟨by simp,by subst hdn;simp only[qai];rfl,by subst hdn;rfl⟩
theorem qsk (m:Md)(hl:m.rules.length≤1000)(mm:Slot)(Q:IExit→(Nat→T)→Heap→Prop):∀(rest pre:List Rl) (i:Nat) (done:List ByteArray),m.rules=pre++rest→pre.length=i→done.length≤10000+i→
 (∀(i:Int),Q (.exit 0) (ofL [(3,.mp 100),(4,.sl 508 (done++rest.map (·.name)).length 0 0 (done++rest.map (·.name)).length),(19,.list (qaR m.rules)),(20,.int .i64 (qaR m.rules).length),(21,.int .i64 i),(22,.bool false)]) (hpL [(0,.live ⟨37,mdC m⟩),(100,.map []),(206,.dead),(508,.live ⟨9,qaq (done++rest.map (·.name))⟩)]))→
 WL Tryz.prog 52 qjw (ofL [(3,.mp 100),(4,.sl 508 done.length 0 0 done.length),(19,.list (qaR m.rules)),(20,.int .i64 (qaR m.rules).length),(21,.int .i64 i)]) (hpL [(0,.live ⟨37,mdC m⟩),(100,.map []),(206,.dead),(508,.live ⟨9,qaq done⟩)]) Q:=by
 have hmc:∀D,clL D (mdC m)=true:=fun D=>by simp
 intro rest
 induction rest with
 | nil=>
  intro pre i done he hn hdn hQ
  have hd:decide ((i:Int)<((qaR m.rules).length:Int))=false:=by simp[qaS,he,hn]
  simp only[List.map_nil,List.append_nil] at hQ
  have fX:=@hd
  refine qaa qjw.eq_1 ?_
  refine wR0 400 [3,4,19,20,21,22] fX ?_
  refine wF @hd ?_
  refine wX ?_
  refine wN ?_
  exact hQ _
 | cons k rest ih=>
  intro pre i done he hn hdn hQ
  have hlt:(i:Int)<((qaR m.rules).length:Int):=by simp[qaS,he];omega
  have hlb:i≤1000:=by rw[he] at hl;simp at hl;omega
  have hd:decide ((i:Int)<((qaR m.rules).length:Int))=true:=decide_eq_true hlt
  have hg:(qaR m.rules).getD (i:Int).toNat .undef=.agg (rlC k):=by rw[Int.toNat_natCast,he,←hn];exact qeO _ k _
  have hw:IntKind.wrap .i64 ((i:Int)+1)=(i:Int)+1:=wrap64 (by omega) (by omega)
  have hlen:(qaq done).length=done.length:=qai _
  have hdn':done.length≤20000:=by omega
  simp only[rlC] at hg
  have fX:=(cJ5 @hd @hg @hw @hlen @qb0)
  refine qaa qjw.eq_1 ?_
  refine W_gc ?_
  refine wR0 400 [3,4,19,20,21,22] fX ?_
  refine wT @hd ?_
  refine wR0 500 [3,4,6,19,20,21] fX ?_
  refine wR0 600 [3,4,19,20,21] fX ?_
  refine wR0 700 [3,4,19,20,21] fX ?_
  refine wN ?_
  refine qay [0,100,206,508] (by simp[inL]) (by simp[inL,T.cl]) (by simp[qaf,inL,Slot.cl,T.cl,clL,qab,hmc]) ?_
  have:=ih (pre++[k]) (i+1) (done++[k.name]) (by simp[he]) (by simp;omega) (by simp;omega) (by simpa using hQ)
  simpa [qaf,inL,qaq] using this
theorem qsl (s0:Slot)(xs:List ByteArray)(hl:xs.length≤1000000)(hz:∀s∈xs,s.size≤1000000)(Q:IExit→(Nat→T)→Heap→Prop):∀(rest pre:List ByteArray) (i:Nat),xs=pre++rest→pre.length=i→
 (newS pre rest=true→∀(i:Int) l,Q (.exit 2) (ofL [(3,.mp 100),(31,.list (qaq xs)),(32,.int .i64 (qaq xs).length),(33,.int .i64 i),(34,.bool false)]) (hpL l))→
 (newS pre rest=false→∀l,Q .ret (ofL [(2,.bool false)]) (hpL l))→
 WL Tryz.prog 52 qhx (ofL [(3,.mp 100),(31,.list (qaq xs)),(32,.int .i64 (qaq xs).length),(33,.int .i64 i)]) (hpL [(0,s0),(100,.map (mapE pre)),(206,.dead),(508,.dead)]) Q:=by
 intro rest
 induction rest with
 | nil=>
  intro pre i he hn hQ0 hQ1
  have hd:decide ((i:Int)<((qaq xs).length:Int))=false:=by simp[qai,he,hn]
  have fX:=@hd
  refine qaa qhx.eq_1 ?_
  refine wR0 900 [3,31,32,33,34] fX ?_
  refine wF @hd ?_
  refine wX ?_
  refine wN ?_
  exact hQ0 rfl _ _
 | cons s rest ih=>
  intro pre i he hn hQ0 hQ1
  have hlt:(i:Int)<((qaq xs).length:Int):=by simp[qai,he];omega
  have hlb:i≤1000000:=by rw[he] at hl;simp at hl;omega
  have hd:decide ((i:Int)<((qaq xs).length:Int))=true:=decide_eq_true hlt
  have hg:(qaq xs).getD (i:Int).toNat .undef=.str s:=by rw[Int.toNat_natCast,he,←hn];exact qdB _ s _
  have hw:IntKind.wrap .i64 ((i:Int)+1)=(i:Int)+1:=wrap64 (by omega) (by omega)
  have hsz:s.size≤1000000:=hz s (by rw[he];simp)
  have hf:=qtZ s pre
  have hk:isKind true (.str s)=true:=rfl
  rcases hin:inS s pre with _ | _
  ·rw[hin] at hf
   have hm:=qui s pre hin
   simp only[Bool.false_eq_true,if_false] at hf
   have fX:=(cJ8 @hd @hg @hw @hf @hk @hm @Req.run.eq_1 (cJ4 @Req.run.eq_8 @Req.run.eq_9 @Req.run.eq_10 @Req.run.eq_11))
   refine qaa qhx.eq_1 ?_
   refine wR0 900 [3,31,32,33,34] fX ?_
   refine wT @hd ?_
   refine wR0 1000 [3,8,31,32,33] fX ?_
   refine wRn 1100 [3,8,31,32,33,48] fX ?_
   refine rC fX ?_
   refine⟨_,ql4 s hsz,rN fX ?_⟩
   refine rCi fX ?_
   refine⟨_,fun hw=>qiJ s,rE fX ?_⟩
   refine wS cJ0 (fun hc1100=>?_) (fun hc1100=>?_)
   ·skip
    refine wR0 1200 [2] fX ?_
    refine wE ?_
    refine wN ?_
    exact hQ1 (by simp at hc1100;rw[newS,hin];cases h1:qdQ s<;>simp_all) _
   ·skip
    refine wR0 1300 [3,31,32,33] fX ?_
    refine wR0 1400 [3,31,32,33] fX ?_
    refine wN ?_
    have e:newS pre (s::rest)=newS (pre++[s]) rest:=(by simp at hc1100;rw[newS,hin];simp[hc1100])
    rw[e] at hQ0 hQ1
    exact ih (pre++[s]) (i+1) (by simp[he]) (by simp;omega) hQ0 hQ1
  ·rw[hin] at hf
   simp only[if_true] at hf
   have e:newS pre (s::rest)=false:=by rw[newS,hin];simp
   have fX:=(cJ8 @hd @hg @hw @hf @hk @Req.run.eq_1 @Req.run.eq_8 (cJ3 @Req.run.eq_9 @Req.run.eq_10 @Req.run.eq_11))
   refine qaa qhx.eq_1 ?_
   refine wR0 900 [3,31,32,33,34] fX ?_
   refine wT @hd ?_
   refine wR0 1000 [3,8,31,32,33] fX ?_
   refine wRn 1100 [3,8,31,32,33,48] fX ?_
   refine rC fX ?_
   refine⟨_,ql4 s hsz,rN fX ?_⟩
   refine rCi fX ?_
   refine⟨_,fun hw=>qiJ s,rE fX ?_⟩
   refine wT @Bool.or_true ?_
   refine wR0 1200 [2] fX ?_
   refine wE ?_
   refine wN ?_
   exact hQ1 e _
set_option maxHeartbeats 2000000 in
theorem qsm (m:Md)(hm:m.fit)(hne:m.states≠[]):TP Tryz.prog 162 [qaA m] (.bool (qhR m)):=by
 have h1:=hm.states
 have h2:=hm.places
 have h3:=hm.letters
 have h4:=hm.rules
 have hf:[m.states,m.places,m.letters].flatten=m.states++m.places++m.letters:=by simp
 have hc:=qtP [m.states,m.places,m.letters] (by rw[hf];simp;omega) (by simp) (by rw[hf];simp[hne])
 rw[hf,qai] at hc
 simp only[llsS,List.map_cons,List.map_nil] at hc
 have hmc:∀D,clL D (mdC m)=true:=fun D=>by simp
 have hmo:=qd0 m
 have hnl:(qbz m).length≤1000000:=by simp[qbz];omega
 have hnz:∀s∈qbz m,s.size≤1000000:=by
  intro s hs
  rcases List.mem_append.1 hs with hs | hs
  ·exact hm.names s hs
  ·obtain⟨r,hr,rfl⟩:=List.mem_map.1 hs
   exact (hm.rule r hr).name
 have fX:=@repl3
 refine qag fn162 (by simp) ?_
 unfold i162
 simp only[argL,qaA,mdC]
 refine wR0 0 [1] fX ?_
 refine wR0 100 [1,3] fX ?_
 refine wRn 200 [1,3,4] fX ?_
 refine rGc [(206,.live ⟨_,_⟩)] [(508,.live ⟨9,qaq (m.states++m.places++m.letters)⟩)] fX ?_
 refine⟨_,_,hc,fZt,rE fX ?_⟩
 refine wR0 300 [3,4,19,20,21] fX ?_
 refine wL ?_
 refine qsk m h4 .free _ m.rules [] 0 (m.states++m.places++m.letters) rfl rfl (by simp;omega) ?_
 ·intro i
  refine wN ?_
  refine wR0 800 [3,31,32,33] fX ?_
  simp only[thn]
  have hnm:m.states++m.places++m.letters++m.rules.map (·.name)=qbz m:=rfl
  rw[hnm]
  refine qbZ (l':=[(3,.mp 100),(31,.list (qaq (qbz m))),(32,.int .i64 (qbz m).length),(33,.int .i64 0)]) (hl':=[(0,.live ⟨37,mdC m⟩),(100,.map []),(206,.dead),(508,.dead)]) [0,100] (.cons (.same rfl) (.cons (qgf (ty:=9) (qbz m) rfl rfl rfl rfl) (.cons (.same rfl) (.cons (.same rfl) .nil)))) (.keep rfl (.liveS (hmc _) hmo) (.keep rfl (.map (fun e he=>by cases he)) (.dead rfl (fun h=>by cases h) (.dead rfl (fun h=>by cases h) .nil)))) ?_
  rw[show ((qbz m).length:Int)=((qaq (qbz m)).length:Int) from by rw[qai]]
  refine wL ?_
  refine qsl _ (qbz m) hnl hnz _ (qbz m) [] 0 rfl rfl ?_ ?_
  ·intro h i l
   refine wN ?_
   refine wR0 1500 [2] fX ?_
   refine wP ?_
   exact qac h.symm
  ·intro h l
   refine wN ?_
   exact⟨by simp,_,rfl,by exact qac h.symm⟩
end
end Go.Proofs.YtkbjpglehdhjfaaGreatDoor
