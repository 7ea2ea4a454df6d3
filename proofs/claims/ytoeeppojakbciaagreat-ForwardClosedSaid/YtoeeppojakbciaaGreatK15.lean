/- Contracts of functions of the program, for all arguments that they name. -/
import Derived.Test.YtoeeppojakbciaaGreatK14
namespace Go.Proofs.YtoeeppojakbciaaGreat
set_option linter.unusedVariables false
section
open Go.RowKit
set_option maxHeartbeats 2000000
theorem qeA (m:Md)(c:List T)(hcd:c=[T.int .i64 4,.int .i64 0,.list [],.list [.agg [.int .i64 2,.int .i64 m.letters.length,.list [],.list []]]])(kb2:(m.kind==2)=true)(kb3:(m.kind==3)=false)(S:Int)(hl:m.places.length≤1000)(hr:m.ranks.length≤1000000)  (Q:IExit→(Nat→T)→Heap→Prop):∀(n j:Nat),j+n=m.places.length→
 (∀i:Int,Q (.exit 1) (ofL [(1,.ref 0 10 0),(2,.ref 1 4 0),(3,.sl 104 ((m.places.length+1)*4) 4 0 (m.places.length+1)),(14,.int .i64 (qau m.places).length),(15,.int .i64 i),(16,.bool false)]) (hpL [(0,.live ⟨33,mdC m⟩),(1,.live ⟨107,[.int .i64 0,.int .i64 0,.nil,.nil]⟩),(104,.live ⟨107,rowC (labC S) c m.places.length⟩)]))→
 WL Tryz.prog 70 qcW (ofL [(1,.ref 0 10 0),(2,.ref 1 4 0),(3,.sl 104 ((j+1)*4) 4 0 (j+1)),(14,.int .i64 (qau m.places).length),(15,.int .i64 j)]) (hpL [(0,.live ⟨33,mdC m⟩),(1,.live ⟨107,[.int .i64 0,.int .i64 0,.nil,.nil]⟩),(104,.live ⟨107,rowC (labC S) c j⟩)]) Q:=by
 have hlc:c.length=4:=by rw[hcd];rfl
 simp only[mdC]
 intro n
 induction n with
 | zero=>
  intro j hj hQ
  have hd:decide ((j:Int)<((qau m.places).length:Int))=false:=by simp[qaf];omega
  have hjn:j=m.places.length:=by omega
  subst hjn
  have fX:=@hd
  refine qaa qcW.eq_1 ?_
  refine wR0 800 [1,2,3,14,15,16] fX ?_
  refine wF @hd ?_
  refine wX ?_
  refine wN ?_
  exact hQ _
 | succ n ih=>
  intro j hj hQ
  have hlt:(j:Int)<((qau m.places).length:Int):=by simp[qaf];omega
  have hd:decide ((j:Int)<((qau m.places).length:Int))=true:=decide_eq_true hlt
  have hw:IntKind.wrap .i64 ((j:Int)+1)=(j:Int)+1:=wrap64 (by omega) (by omega)
  have hlen:(rowC (labC S) c j).length=(j+1)*4:=qcu _ _ rfl hlc j
  have hj4:j+1≤1001:=by omega
  have hcl:∀D,clL D (rowC (labC S) c j)=true:=fun D=>qev rfl (by rw[hcd];simp[clL,T.cl]) j
  have h1:=qc9 (m.letters.length:Int);have h2:=qfY 4 2 (m.letters.length:Int) [] [];simp only[qaM,qbf,qax,qaw,qaj] at h1 h2;have hsl:=qaf m.letters
  have fX:=(cJ7 @hd @hw @kb2 @kb3 @hlen @qee @hsl)
  refine qaa qcW.eq_1 ?_
  refine W_gc ?_
  refine wR0 800 [1,2,3,14,15,16] fX ?_
  refine wT @hd ?_
  refine wR0 900 [1,2,3,4,14,15] fX ?_
  refine wR0 1000 [1,2,3,4,14,15,19] fX ?_
  refine wR0 1100 [1,2,3,4,14,15,19,20] fX ?_
  refine wT fX ?_
  refine wRn 1200 [1,2,3,4,14,15] fX ?_
  refine rC fX ?_
  refine⟨_,h1,rN fX ?_⟩
  refine rC fX ?_
  refine⟨_,h2,rE fX ?_⟩
  refine wR0 1500 [1,2,3,14,15] fX ?_
  refine wR0 1600 [1,2,3,14,15] fX ?_
  refine wN ?_
  refine qaP [0,1,104] (by simp[inL]) (by simp[inL,T.cl]) (by simp[qan,inL,Slot.cl,T.cl,clL,qap,hcl]) ?_
  have:=ih (j+1) (by omega) hQ
  have hm:(j+1+1)*4=(j+1)*4+4:=(by omega)
  simp only[rowC,hm] at this
  rw[show rowC (labC S) c j++c=rowC (labC S) c j++[T.int .i64 4,.int .i64 0,.list [],.list [.agg [.int .i64 2,.int .i64 m.letters.length,.list [],.list []]]] from by rw[←hcd]] at this
  simpa [qan,inL] using this
theorem qeB (m:Md)(c:List T)(hcd:c=[T.int .i64 7,.int .i64 m.letters.length,.list (qac m.ranks),.nil])(kb2:(m.kind==2)=false)(kb3:(m.kind==3)=true)(S:Int)(hl:m.places.length≤1000)(hr:m.ranks.length≤1000000)(hne:m.ranks≠[])(Q:IExit→(Nat→T)→Heap→Prop):∀(n j:Nat),j+n=m.places.length→
 (∀i:Int,Q (.exit 1) (ofL [(1,.ref 0 10 0),(2,.ref 1 4 0),(3,.sl 104 ((m.places.length+1)*4) 4 0 (m.places.length+1)),(14,.int .i64 (qau m.places).length),(15,.int .i64 i),(16,.bool false)]) (hpL [(0,.live ⟨33,mdC m⟩),(1,.live ⟨107,[.int .i64 0,.int .i64 0,.nil,.nil]⟩),(104,.live ⟨107,rowC (labC S) c m.places.length⟩)]))→
 WL Tryz.prog 70 qcW (ofL [(1,.ref 0 10 0),(2,.ref 1 4 0),(3,.sl 104 ((j+1)*4) 4 0 (j+1)),(14,.int .i64 (qau m.places).length),(15,.int .i64 j)]) (hpL [(0,.live ⟨33,mdC m⟩),(1,.live ⟨107,[.int .i64 0,.int .i64 0,.nil,.nil]⟩),(104,.live ⟨107,rowC (labC S) c j⟩)]) Q:=by
 have hlc:c.length=4:=by rw[hcd];rfl
 simp only[mdC]
 intro n
 induction n with
 | zero=>
  intro j hj hQ
  have hd:decide ((j:Int)<((qau m.places).length:Int))=false:=by simp[qaf];omega
  have hjn:j=m.places.length:=by omega
  subst hjn
  have fX:=@hd
  refine qaa qcW.eq_1 ?_
  refine wR0 800 [1,2,3,14,15,16] fX ?_
  refine wF @hd ?_
  refine wX ?_
  refine wN ?_
  exact hQ _
 | succ n ih=>
  intro j hj hQ
  have hlt:(j:Int)<((qau m.places).length:Int):=by simp[qaf];omega
  have hd:decide ((j:Int)<((qau m.places).length:Int))=true:=decide_eq_true hlt
  have hw:IntKind.wrap .i64 ((j:Int)+1)=(j:Int)+1:=wrap64 (by omega) (by omega)
  have hlen:(rowC (labC S) c j).length=(j+1)*4:=qcu _ _ rfl hlc j
  have hj4:j+1≤1001:=by omega
  have hcl:∀D,clL D (rowC (labC S) c j)=true:=fun D=>qev rfl (by rw[hcd];simp[clL,T.cl]) j
  have hsl:=qaf m.letters;have h3:TP Tryz.prog 32 [.list (qac m.ranks)] (.list (qac m.ranks)):=(by obtain⟨x,r,hx⟩:=List.exists_cons_of_ne_nil hne;rw[hx] at hr ⊢;exact qjT x r hr)
  have fX:=(cJ7 @hd @hw @kb2 @kb3 @hlen @qee @hsl)
  refine qaa qcW.eq_1 ?_
  refine W_gc ?_
  refine wR0 800 [1,2,3,14,15,16] fX ?_
  refine wT @hd ?_
  refine wR0 900 [1,2,3,4,14,15] fX ?_
  refine wR0 1000 [1,2,3,4,14,15,19] fX ?_
  refine wR0 1100 [1,2,3,4,14,15,19,20] fX ?_
  refine wF fX ?_
  refine wR0 1300 [1,2,3,4,14,15,27] fX ?_
  refine wT fX ?_
  refine wRn 1400 [1,2,3,4,14,15] fX ?_
  refine rC fX ?_
  refine⟨_,h3,rE fX ?_⟩
  refine wR0 1500 [1,2,3,14,15] fX ?_
  refine wR0 1600 [1,2,3,14,15] fX ?_
  refine wN ?_
  refine qaP [0,1,104] (by simp[inL]) (by simp[inL,T.cl]) (by simp[qan,inL,Slot.cl,T.cl,clL,qap,hcl]) ?_
  have:=ih (j+1) (by omega) hQ
  have hm:(j+1+1)*4=(j+1)*4+4:=(by omega)
  simp only[rowC,hm] at this
  rw[show rowC (labC S) c j++c=rowC (labC S) c j++[T.int .i64 7,.int .i64 m.letters.length,.list (qac m.ranks),.nil] from by rw[←hcd]] at this
  simpa [qan,inL] using this
theorem qez (m:Md)(c:List T)(hcd:c=[T.int .i64 1,.int .i64 0,.nil,.nil])(kb2:(m.kind==2)=false)(kb3:(m.kind==3)=false)(S:Int)(hl:m.places.length≤1000)(hr:m.ranks.length≤1000000)  (Q:IExit→(Nat→T)→Heap→Prop):∀(n j:Nat),j+n=m.places.length→
 (∀i:Int,Q (.exit 1) (ofL [(1,.ref 0 10 0),(2,.ref 1 4 0),(3,.sl 104 ((m.places.length+1)*4) 4 0 (m.places.length+1)),(14,.int .i64 (qau m.places).length),(15,.int .i64 i),(16,.bool false)]) (hpL [(0,.live ⟨33,mdC m⟩),(1,.live ⟨107,[.int .i64 0,.int .i64 0,.nil,.nil]⟩),(104,.live ⟨107,rowC (labC S) c m.places.length⟩)]))→
 WL Tryz.prog 70 qcW (ofL [(1,.ref 0 10 0),(2,.ref 1 4 0),(3,.sl 104 ((j+1)*4) 4 0 (j+1)),(14,.int .i64 (qau m.places).length),(15,.int .i64 j)]) (hpL [(0,.live ⟨33,mdC m⟩),(1,.live ⟨107,[.int .i64 0,.int .i64 0,.nil,.nil]⟩),(104,.live ⟨107,rowC (labC S) c j⟩)]) Q:=by
 have hlc:c.length=4:=by rw[hcd];rfl
 simp only[mdC]
 intro n
 induction n with
 | zero=>
  intro j hj hQ
  have hd:decide ((j:Int)<((qau m.places).length:Int))=false:=by simp[qaf];omega
  have hjn:j=m.places.length:=by omega
  subst hjn
  have fX:=@hd
  refine qaa qcW.eq_1 ?_
  refine wR0 800 [1,2,3,14,15,16] fX ?_
  refine wF @hd ?_
  refine wX ?_
  refine wN ?_
  exact hQ _
 | succ n ih=>
  intro j hj hQ
  have hlt:(j:Int)<((qau m.places).length:Int):=by simp[qaf];omega
  have hd:decide ((j:Int)<((qau m.places).length:Int))=true:=decide_eq_true hlt
  have hw:IntKind.wrap .i64 ((j:Int)+1)=(j:Int)+1:=wrap64 (by omega) (by omega)
  have hlen:(rowC (labC S) c j).length=(j+1)*4:=qcu _ _ rfl hlc j
  have hj4:j+1≤1001:=by omega
  have hcl:∀D,clL D (rowC (labC S) c j)=true:=fun D=>qev rfl (by rw[hcd];simp[clL,T.cl]) j
  have hsl:=qaf m.letters
  have fX:=(cJ7 @hd @hw @kb2 @kb3 @hlen @qee @hsl)
  refine qaa qcW.eq_1 ?_
  refine W_gc ?_
  refine wR0 800 [1,2,3,14,15,16] fX ?_
  refine wT @hd ?_
  refine wR0 900 [1,2,3,4,14,15] fX ?_
  refine wR0 1000 [1,2,3,4,14,15,19] fX ?_
  refine wR0 1100 [1,2,3,4,14,15,19,20] fX ?_
  refine wF fX ?_
  refine wR0 1300 [1,2,3,4,14,15,27] fX ?_
  refine wF fX ?_
  refine wR0 1500 [1,2,3,14,15] fX ?_
  refine wR0 1600 [1,2,3,14,15] fX ?_
  refine wN ?_
  refine qaP [0,1,104] (by simp[inL]) (by simp[inL,T.cl]) (by simp[qan,inL,Slot.cl,T.cl,clL,qap,hcl]) ?_
  have:=ih (j+1) (by omega) hQ
  have hm:(j+1+1)*4=(j+1)*4+4:=(by omega)
  simp only[rowC,hm] at this
  rw[show rowC (labC S) c j++c=rowC (labC S) c j++[T.int .i64 1,.int .i64 0,.nil,.nil] from by rw[←hcd]] at this
  simpa [qan,inL] using this
structure Md.sane (m:Md):Prop where
 fit:m.fit
 kind:btw m.kind 1 6=true
 lev:m.kind=4→m.levels=1∨m.levels=2
 age:0≤m.age∧m.age≤1000
 rank:m.kind=3→m.ranks≠[]
set_option maxHeartbeats 8000000 in
theorem qr3 (m:Md)(hm:m.sane):TP Tryz.prog 149 [qas m] (qax (qbb m)):=by
 have tk:∀(c:Int),(m.kind==c)=true→m.kind=c:=fun c h=>by simpa using h
 have fk:∀(c:Int),(m.kind==c)=false→m.kind≠c:=fun c h=>by simpa using h
 have ha:=hm.age
 have hw:IntKind.wrap .i64 (m.age+2)=m.age+2:=wrap64 (by omega) (by omega)
 have hl1:=qc9 (m.states.length:Int)
 have hl2:=qc9 (m.places.length:Int)
 have hl3:=qc9 (m.age+2)
 have hn1:=qhK (m.letters.length:Int)
 have hn2:=qnf (m.letters.length:Int)
 have hb:=qfY 5 3 0 [] [qaM m.places.length,qaM (m.age+2)]
 simp only[qbE,qbP,qaM,qbf,qax,qaw,qaj] at hl1 hl2 hl3 hn1 hn2 hb
 have e4:m.kind=4→qbb m=qaS [qaM m.states.length,qdJ m.letters.length m.levels]:=fun h=>by rw[qbb,if_pos h]
 have e5:m.kind=5→qbb m=qaS [qaM m.states.length,qbf 5 (.mk 3 0 [] [qaM m.places.length,qaM (m.age+2)])]:=fun h=>by rw[qbb,if_neg (by omega),if_pos h]
 have eo:m.kind≠4→m.kind≠5→qbb m=qaS (qdC (qaM m.states.length) (qdy m) m.places.length):=fun h h'=>by rw[qbb,if_neg h,if_neg h']
 have hkc:m.kind≠4→m.kind≠5→m.kind=2∨m.kind=3∨(m.kind≠2∧m.kind≠3):=fun _ _=>by omega
 have fX:=(cJ3 @hw @qee @qhd)
 refine qah fn149 (by simp) ?_
 unfold i149
 simp only[argL,qas,mdC]
 refine wR0 0 [1,2] fX ?_
 refine wRn 100 [1,2,3] (cJ2 @qaf fX) ?_
 refine rC (cJ2 @qaf fX) ?_
 refine⟨_,hl1,rE (cJ2 @qaf fX) ?_⟩
 refine wR0 200 [1,2,3,11] fX ?_
 refine wR0 300 [1,2,3,11,41] fX ?_
 refine wS cJ0 (fun hc300=>?_) (fun hc300=>?_)
 ·skip
  refine wN ?_
  rcases hm.lev (tk _ hc300) with hlev | hlev
  ·skip
   refine wRn 400 [2,3] (cJ3 @hlev @qaf fX) ?_
   refine rC (cJ3 @hlev @qaf fX) ?_
   refine⟨_,(by first | exact hn1 | exact hn2),rE (cJ3 @hlev @qaf fX) ?_⟩
   refine wR0 1700 [2] fX ?_
   refine wP ?_
   first | (rw[e4 (tk _ hc300),hlev];refine eG ?_;(try simp only[qbE,qaM,qbf,qaS,qax,qaj,qaw]);(first | exact fF | exact fZt);done) | (rw[e5 (tk _ hc500)];refine eG ?_;(try simp only[qaM,qbf,qaS,qax,qaj,qaw]);(first | exact fF | exact fZt);done) | (rw[eo (fk _ hc300) (fk _ hc500)];refine eG ?_;(try simp only[qaS,qax,qaw]);exact Frz.aggL (FrzL.cons (.same rfl) (FrzL.cons (.same rfl) (FrzL.cons .nil (FrzL.cons (qbY _ rfl rfl rfl rfl (qdc m) (qd5 _) (qdb m)) FrzL.nil)))) (by rfl))
  ·skip
   refine wRn 400 [2,3] (cJ3 @hlev @qaf fX) ?_
   refine rC (cJ3 @hlev @qaf fX) ?_
   refine⟨_,(by first | exact hn1 | exact hn2),rE (cJ3 @hlev @qaf fX) ?_⟩
   refine wR0 1700 [2] fX ?_
   refine wP ?_
   first | (rw[e4 (tk _ hc300),hlev];refine eG ?_;(try simp only[qbP,qaM,qbf,qaS,qax,qaj,qaw]);(first | exact fF | exact fZt);done) | (rw[e5 (tk _ hc500)];refine eG ?_;(try simp only[qaM,qbf,qaS,qax,qaj,qaw]);(first | exact fF | exact fZt);done) | (rw[eo (fk _ hc300) (fk _ hc500)];refine eG ?_;(try simp only[qaS,qax,qaw]);exact Frz.aggL (FrzL.cons (.same rfl) (FrzL.cons (.same rfl) (FrzL.cons .nil (FrzL.cons (qbY _ rfl rfl rfl rfl (qdc m) (qd5 _) (qdb m)) FrzL.nil)))) (by rfl))
 ·skip
  refine wR0 500 [1,2,3,52] fX ?_
  refine wS cJ0 (fun hc500=>?_) (fun hc500=>?_)
  ·skip
   refine wRn 600 [2,3] (cJ2 @qaf fX) ?_
   refine rC (cJ2 @qaf fX) ?_
   refine⟨_,hl2,rN (cJ2 @qaf fX) ?_⟩
   refine rC (cJ2 @qaf fX) ?_
   refine⟨_,hl3,rN (cJ2 @qaf fX) ?_⟩
   refine rG [(609,.live ⟨_,_⟩)] (cJ2 @qaf fX) ?_
   refine⟨_,_,hb,(by ((try simp only[qaM,qbf,qax,qaj,qaw]);(first | exact fF | exact fZt))),rE (cJ2 @qaf fX) ?_⟩
   refine wR0 1700 [2] fX ?_
   refine wP ?_
   first | (rw[e4 (tk _ hc300),hlev];refine eG ?_;(try simp only[qbE,qbP,qaM,qbf,qaS,qax,qaj,qaw]);(first | exact fF | exact fZt);done) | (rw[e5 (tk _ hc500)];refine eG ?_;(try simp only[qaM,qbf,qaS,qax,qaj,qaw]);(first | exact fF | exact fZt);done) | (rw[eo (fk _ hc300) (fk _ hc500)];refine eG ?_;(try simp only[qaS,qax,qaw]);exact Frz.aggL (FrzL.cons (.same rfl) (FrzL.cons (.same rfl) (FrzL.cons .nil (FrzL.cons (qbY _ rfl rfl rfl rfl (qdc m) (qd5 _) (qdb m)) FrzL.nil)))) (by rfl))
  ·skip
   refine wN ?_
   rcases hkc (fk _ hc300) (fk _ hc500) with h2 | h2 | h2
   ·skip
    refine wR0 700 [1,2,3,14,15] fX ?_
    refine wL ?_
    first | (have q2:m.kind=2:=h2;refine qeA m _ (show qcL m=_ from by simp[qcL,h2]) (by simp[h2]) (by simp[h2]) (m.states.length:Int) hm.fit.places hm.fit.ranks _ m.places.length 0 (by omega) ?_) | (have q2:m.kind=3:=h2;refine qeB m _ (show qcL m=_ from by simp[qcL,h2]) (by simp[h2]) (by simp[h2]) (m.states.length:Int) hm.fit.places hm.fit.ranks (hm.rank h2) _ m.places.length 0 (by omega) ?_) | (have q2:m.kind≠2∧m.kind≠3:=h2;refine qez m _ (show qcL m=_ from by simp[qcL,h2]) (by simp[h2]) (by simp[h2]) (m.states.length:Int) hm.fit.places hm.fit.ranks _ m.places.length 0 (by omega) ?_)
    ·intro i
     refine wN ?_
     refine wR0 1700 [2] fX ?_
     refine wP ?_
     first | (rw[e4 (tk _ hc300),hlev];refine eG ?_;(try simp only[qbE,qbP,qaM,qbf,qaS,qax,qaj,qaw]);(first | exact fF | exact fZt);done) | (rw[e5 (tk _ hc500)];refine eG ?_;(try simp only[qaM,qbf,qaS,qax,qaj,qaw]);(first | exact fF | exact fZt);done) | (rw[eo (fk _ hc300) (fk _ hc500)];refine eG ?_;(try simp only[qaS,qax,qaw]);exact Frz.aggL (FrzL.cons (.same rfl) (FrzL.cons (.same rfl) (FrzL.cons .nil (FrzL.cons (qbY _ rfl rfl rfl rfl (qdc m) (qd5 _) (qdb m)) FrzL.nil)))) (by rfl))
   ·skip
    refine wR0 700 [1,2,3,14,15] fX ?_
    refine wL ?_
    first | (have q2:m.kind=2:=h2;refine qeA m _ (show qcL m=_ from by simp[qcL,h2]) (by simp[h2]) (by simp[h2]) (m.states.length:Int) hm.fit.places hm.fit.ranks _ m.places.length 0 (by omega) ?_) | (have q2:m.kind=3:=h2;refine qeB m _ (show qcL m=_ from by simp[qcL,h2]) (by simp[h2]) (by simp[h2]) (m.states.length:Int) hm.fit.places hm.fit.ranks (hm.rank h2) _ m.places.length 0 (by omega) ?_) | (have q2:m.kind≠2∧m.kind≠3:=h2;refine qez m _ (show qcL m=_ from by simp[qcL,h2]) (by simp[h2]) (by simp[h2]) (m.states.length:Int) hm.fit.places hm.fit.ranks _ m.places.length 0 (by omega) ?_)
    ·intro i
     refine wN ?_
     refine wR0 1700 [2] fX ?_
     refine wP ?_
     first | (rw[e4 (tk _ hc300),hlev];refine eG ?_;(try simp only[qbE,qbP,qaM,qbf,qaS,qax,qaj,qaw]);(first | exact fF | exact fZt);done) | (rw[e5 (tk _ hc500)];refine eG ?_;(try simp only[qaM,qbf,qaS,qax,qaj,qaw]);(first | exact fF | exact fZt);done) | (rw[eo (fk _ hc300) (fk _ hc500)];refine eG ?_;(try simp only[qaS,qax,qaw]);exact Frz.aggL (FrzL.cons (.same rfl) (FrzL.cons (.same rfl) (FrzL.cons .nil (FrzL.cons (qbY _ rfl rfl rfl rfl (qdc m) (qd5 _) (qdb m)) FrzL.nil)))) (by rfl))
   ·skip
    refine wR0 700 [1,2,3,14,15] fX ?_
    refine wL ?_
    first | (have q2:m.kind=2:=h2;refine qeA m _ (show qcL m=_ from by simp[qcL,h2]) (by simp[h2]) (by simp[h2]) (m.states.length:Int) hm.fit.places hm.fit.ranks _ m.places.length 0 (by omega) ?_) | (have q2:m.kind=3:=h2;refine qeB m _ (show qcL m=_ from by simp[qcL,h2]) (by simp[h2]) (by simp[h2]) (m.states.length:Int) hm.fit.places hm.fit.ranks (hm.rank h2) _ m.places.length 0 (by omega) ?_) | (have q2:m.kind≠2∧m.kind≠3:=h2;refine qez m _ (show qcL m=_ from by simp[qcL,h2]) (by simp[h2]) (by simp[h2]) (m.states.length:Int) hm.fit.places hm.fit.ranks _ m.places.length 0 (by omega) ?_)
    ·intro i
     refine wN ?_
     refine wR0 1700 [2] fX ?_
     refine wP ?_
     first | (rw[e4 (tk _ hc300),hlev];refine eG ?_;(try simp only[qbE,qbP,qaM,qbf,qaS,qax,qaj,qaw]);(first | exact fF | exact fZt);done) | (rw[e5 (tk _ hc500)];refine eG ?_;(try simp only[qaM,qbf,qaS,qax,qaj,qaw]);(first | exact fF | exact fZt);done) | (rw[eo (fk _ hc300) (fk _ hc500)];refine eG ?_;(try simp only[qaS,qax,qaw]);exact Frz.aggL (FrzL.cons (.same rfl) (FrzL.cons (.same rfl) (FrzL.cons .nil (FrzL.cons (qbY _ rfl rfl rfl rfl (qdc m) (qd5 _) (qdb m)) FrzL.nil)))) (by rfl))
end
end Go.Proofs.YtoeeppojakbciaaGreat
