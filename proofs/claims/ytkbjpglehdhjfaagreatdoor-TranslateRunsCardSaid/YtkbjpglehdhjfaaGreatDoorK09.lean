/- Contracts of functions of the program, for all arguments that they name. -/
import Derived.Test.YtkbjpglehdhjfaaGreatDoorK08
namespace Go.Proofs.YtkbjpglehdhjfaaGreatDoor
set_option linter.unusedVariables false
section
open Go.RowKit
set_option maxHeartbeats 2000000
theorem SlotFz.liveA {H:Heap}{D:Nat→Bool}{ty:TypeId}{cs:List T}(h:clL D cs=true)(h1:(cs.all T.one)=true):SlotFz H D (.live ⟨ty,cs⟩) (.live ⟨ty,cs⟩):=.liveS h fun c hc=>List.all_eq_true.1 h1 c hc
theorem qd0 (m:Md):Ones (mdC m):=fun c hc=>List.all_eq_true.1 (show ((mdC m).all T.one)=true from rfl) c hc
def labN (n:Int):List T:=[.int .i64 2,.int .i64 n,.nil,.nil]
theorem qjJ {H:Heap}(n:Int):FrzL H (labN n) (qaz (qaU n)).cells:=by
 simp only[labN,qaU,qaz,qam,qaw,T.cells]
 (first | exact fF | exact fZt)
theorem qhM (n:Int):Ones (labN n):=fun c hc=>List.all_eq_true.1 (show ((labN n).all T.one)=true from rfl) c hc
def qdh (m:Md):List T:=if m.kind=2 then [.int .i64 4,.int .i64 0,.nil,.list [.agg [.int .i64 2,.int .i64 m.letters.length,.list [],.list []]]] else if m.kind=3 then [.int .i64 7,.int .i64 m.letters.length,.list (qad m.ranks),.nil] else [.int .i64 1,.int .i64 0,.nil,.nil]
theorem qhX (m:Md):(qdh m).length=4:=by unfold qdh;(repeat' split)<;>rfl
theorem qhW {H:Heap}(m:Md):FrzL H (qdh m) (qaz (qex m)).cells:=by
 unfold qdh qex
 split
 ·simp only[qbI,qaU,qaz,qam,qaw,T.cells]
  (first | exact fF | exact fZt)
 ·split
  ·simp only[qaz,qam,T.cells]
   (first | exact fF | exact fZt)
  ·simp only[qaz,qam,qaw,T.cells]
   (first | exact fF | exact fZt)
theorem qeH (m:Md)(c:List T)(hcd:c=[T.int .i64 4,.int .i64 0,.nil,.list [.agg [.int .i64 2,.int .i64 m.letters.length,.list [],.list []]]])(kb2:(m.kind==2)=true)(kb3:(m.kind==3)=false)(S L:Int)(hL:L=m.letters.length)(hl:m.places.length≤1000)(hr:m.ranks.length≤1000000)(Q:IExit→(Nat→T)→Heap→Prop):∀(n j:Nat),j+n=m.places.length→
 (∀i:Int,Q (.exit 1) (ofL [(1,.ref 0 10 0),(2,.ref 1 4 0),(3,.ref 106 4 0),(4,.ref 204 4 0),(8,.int .i64 i),(26,.bool false)]) (hpL [(0,.live ⟨37,mdC m⟩),(1,.live ⟨45,[.int .i64 0,.int .i64 0,.nil,.nil]⟩),(104,.live ⟨45,rowC (labN S) c m.places.length⟩),(106,.live ⟨45,[.int .i64 3,.int .i64 0,.nil,.sl 104 ((m.places.length+1)*4) 4 0 (m.places.length+1)]⟩),(204,.live ⟨45,[.int .i64 2,.int .i64 L,.nil,.nil]⟩)]))→
 WL Tryz.prog 96 qfa (ofL [(1,.ref 0 10 0),(2,.ref 1 4 0),(3,.ref 106 4 0),(4,.ref 204 4 0),(8,.int .i64 j)]) (hpL [(0,.live ⟨37,mdC m⟩),(1,.live ⟨45,[.int .i64 0,.int .i64 0,.nil,.nil]⟩),(104,.live ⟨45,rowC (labN S) c j⟩),(106,.live ⟨45,[.int .i64 3,.int .i64 0,.nil,.sl 104 ((j+1)*4) 4 0 (j+1)]⟩),(204,.live ⟨45,[.int .i64 2,.int .i64 L,.nil,.nil]⟩)]) Q:=by
 have hlc:c.length=4:=by rw[hcd];rfl
 have hmo:=qd0 m
 have hmc:∀D,clL D (mdC m)=true:=fun D=>by simp
 simp only[mdC] at hmo hmc ⊢
 intro n
 induction n with
 | zero=>
  intro j hj hQ
  have hd:decide ((j:Int)<((qaq m.places).length:Int))=false:=by simp[qai];omega
  have hjn:j=m.places.length:=by omega
  subst hjn
  have fX:=@hd
  refine qaa qfa.eq_1 ?_
  refine wR0 1500 [1,2,3,4,8,26] fX ?_
  refine wF @hd ?_
  refine wX ?_
  refine wN ?_
  exact hQ _
 | succ n ih=>
  intro j hj hQ
  have hlt:(j:Int)<((qaq m.places).length:Int):=by simp[qai];omega
  have hd:decide ((j:Int)<((qaq m.places).length:Int))=true:=decide_eq_true hlt
  have hw:IntKind.wrap .i64 ((j:Int)+1)=(j:Int)+1:=wrap64 (by omega) (by omega)
  have hlen:(rowC (labN S) c j).length=(j+1)*4:=qcW _ _ rfl hlc j
  have hj4:j+1≤1001:=by omega
  have hcl:∀D,clL D (rowC (labN S) c j)=true:=fun D=>qfq rfl (by rw[hcd];simp[clL,T.cl]) j
  have hon:Ones (rowC (labN S) c j):=qeE (qhM S) (by rw[hcd];exact fun c hc=>List.all_eq_true.1 (show (([T.int .i64 4,.int .i64 0,.nil,.list [.agg [.int .i64 2,.int .i64 m.letters.length,.list [],.list []]]]:List T).all T.one)=true from rfl) c hc) j
  have hsl:=qai m.letters
  have hrc:=qj1 m.ranks hr
  have fX:=(cJ7 @hd @hw @kb2 @kb3 @hlen @qb0 @hsl)
  refine qaa qfa.eq_1 ?_
  refine W_gc ?_
  refine wR0 1500 [1,2,3,4,8,26] fX ?_
  refine wT @hd ?_
  refine wR0 1600 [1,2,3,4,8,9] fX ?_
  refine wR0 1700 [1,2,3,4,8,9,32] fX ?_
  refine wT fX ?_
  refine wR0 1800 [1,2,3,4,8,9] fX ?_
  simp only[thn]
  rw[hL];refine qbZ (l':=[(1,.ref 0 10 0),(2,.ref 1 4 0),(3,.ref 106 4 0),(4,.ref 204 4 0),(8,.int .i64 j),(9,.ref 1601 4 0)]) (hl':=[(0,_),(1,_),(104,_),(106,_),(204,_),(1601,.live ⟨45,[T.int .i64 4,.int .i64 0,.nil,.list [.agg [.int .i64 2,.int .i64 m.letters.length,.list [],.list []]]]⟩),(1801,.dead)]) [0,1,104,106,204,1601] (.cons (.same rfl) (.cons (.same rfl) (.cons (.same rfl) (.cons (.same rfl) (.cons (.same rfl) (.cons (.same rfl) .nil)))))) (.keep rfl (.liveS (hmc _) hmo) (.keep rfl (.liveA rfl rfl) (.keep rfl (.liveS (hcl _) hon) (.keep rfl (.liveA rfl rfl) (.keep rfl (.liveA rfl rfl) (.keep rfl (.liveL (.cons (.same rfl) (.cons (.same rfl) (.cons (.same rfl) (.cons (.slL rfl rfl rfl rfl rfl rfl rfl (.cons (.same rfl) (.cons (.same rfl) (.cons .nil (.cons .nil .nil))))) .nil)))) rfl) (.dead rfl (fun h=>by cases h) .nil))))))) ?_
  refine wR0 1900 [1,2,3,4,8,9,38] fX ?_
  refine wF fX ?_
  refine wR0 2100 [1,2,3,4,8] fX ?_
  refine wR0 2200 [1,2,3,4,8] fX ?_
  refine wN ?_
  refine qay [0,1,104,106,204] (by simp[inL]) (by simp[inL,T.cl]) (by simp[qaf,inL,Slot.cl,T.cl,clL,qab,hcl]) ?_
  have:=ih (j+1) (by omega) hQ
  have hm:(j+1+1)*4=(j+1)*4+4:=(by omega)
  simp only[rowC,hm] at this
  rw[show rowC (labN S) c j++c=rowC (labN S) c j++[T.int .i64 4,.int .i64 0,.nil,.list [.agg [.int .i64 2,.int .i64 m.letters.length,.list [],.list []]]] from by rw[←hcd]] at this
  simpa [qaf,inL,hL] using this
theorem qeI (m:Md)(c:List T)(hcd:c=[T.int .i64 7,.int .i64 m.letters.length,.list (qad m.ranks),.nil])(kb2:(m.kind==2)=false)(kb3:(m.kind==3)=true)(S L:Int)(hL:L=m.letters.length)(hl:m.places.length≤1000)(hr:m.ranks.length≤1000000)(Q:IExit→(Nat→T)→Heap→Prop):∀(n j:Nat),j+n=m.places.length→
 (∀i:Int,Q (.exit 1) (ofL [(1,.ref 0 10 0),(2,.ref 1 4 0),(3,.ref 106 4 0),(4,.ref 204 4 0),(8,.int .i64 i),(26,.bool false)]) (hpL [(0,.live ⟨37,mdC m⟩),(1,.live ⟨45,[.int .i64 0,.int .i64 0,.nil,.nil]⟩),(104,.live ⟨45,rowC (labN S) c m.places.length⟩),(106,.live ⟨45,[.int .i64 3,.int .i64 0,.nil,.sl 104 ((m.places.length+1)*4) 4 0 (m.places.length+1)]⟩),(204,.live ⟨45,[.int .i64 2,.int .i64 L,.nil,.nil]⟩)]))→
 WL Tryz.prog 96 qfa (ofL [(1,.ref 0 10 0),(2,.ref 1 4 0),(3,.ref 106 4 0),(4,.ref 204 4 0),(8,.int .i64 j)]) (hpL [(0,.live ⟨37,mdC m⟩),(1,.live ⟨45,[.int .i64 0,.int .i64 0,.nil,.nil]⟩),(104,.live ⟨45,rowC (labN S) c j⟩),(106,.live ⟨45,[.int .i64 3,.int .i64 0,.nil,.sl 104 ((j+1)*4) 4 0 (j+1)]⟩),(204,.live ⟨45,[.int .i64 2,.int .i64 L,.nil,.nil]⟩)]) Q:=by
 have hlc:c.length=4:=by rw[hcd];rfl
 have hmo:=qd0 m
 have hmc:∀D,clL D (mdC m)=true:=fun D=>by simp
 simp only[mdC] at hmo hmc ⊢
 intro n
 induction n with
 | zero=>
  intro j hj hQ
  have hd:decide ((j:Int)<((qaq m.places).length:Int))=false:=by simp[qai];omega
  have hjn:j=m.places.length:=by omega
  subst hjn
  have fX:=@hd
  refine qaa qfa.eq_1 ?_
  refine wR0 1500 [1,2,3,4,8,26] fX ?_
  refine wF @hd ?_
  refine wX ?_
  refine wN ?_
  exact hQ _
 | succ n ih=>
  intro j hj hQ
  have hlt:(j:Int)<((qaq m.places).length:Int):=by simp[qai];omega
  have hd:decide ((j:Int)<((qaq m.places).length:Int))=true:=decide_eq_true hlt
  have hw:IntKind.wrap .i64 ((j:Int)+1)=(j:Int)+1:=wrap64 (by omega) (by omega)
  have hlen:(rowC (labN S) c j).length=(j+1)*4:=qcW _ _ rfl hlc j
  have hj4:j+1≤1001:=by omega
  have hcl:∀D,clL D (rowC (labN S) c j)=true:=fun D=>qfq rfl (by rw[hcd];simp[clL,T.cl]) j
  have hon:Ones (rowC (labN S) c j):=qeE (qhM S) (by rw[hcd];exact fun c hc=>List.all_eq_true.1 (show (([T.int .i64 7,.int .i64 m.letters.length,.list (qad m.ranks),.nil]:List T).all T.one)=true from rfl) c hc) j
  have hsl:=qai m.letters
  have hrc:=qj1 m.ranks hr
  have fX:=(cJ7 @hd @hw @kb2 @kb3 @hlen @qb0 @hsl)
  refine qaa qfa.eq_1 ?_
  refine W_gc ?_
  refine wR0 1500 [1,2,3,4,8,26] fX ?_
  refine wT @hd ?_
  refine wR0 1600 [1,2,3,4,8,9] fX ?_
  refine wR0 1700 [1,2,3,4,8,9,32] fX ?_
  refine wF fX ?_
  refine wR0 1900 [1,2,3,4,8,9,38] fX ?_
  refine wT fX ?_
  refine wRn 2000 [1,2,3,4,8,9] fX ?_
  refine rC fX ?_
  refine⟨_,hrc,rE fX ?_⟩
  refine wR0 2100 [1,2,3,4,8] fX ?_
  refine wR0 2200 [1,2,3,4,8] fX ?_
  refine wN ?_
  refine qay [0,1,104,106,204] (by simp[inL]) (by simp[inL,T.cl]) (by simp[qaf,inL,Slot.cl,T.cl,clL,qab,hcl]) ?_
  have:=ih (j+1) (by omega) hQ
  have hm:(j+1+1)*4=(j+1)*4+4:=(by omega)
  simp only[rowC,hm] at this
  rw[show rowC (labN S) c j++c=rowC (labN S) c j++[T.int .i64 7,.int .i64 m.letters.length,.list (qad m.ranks),.nil] from by rw[←hcd]] at this
  simpa [qaf,inL,hL] using this
theorem qeG (m:Md)(c:List T)(hcd:c=[T.int .i64 1,.int .i64 0,.nil,.nil])(kb2:(m.kind==2)=false)(kb3:(m.kind==3)=false)(S L:Int)(hL:L=m.letters.length)(hl:m.places.length≤1000)(hr:m.ranks.length≤1000000)(Q:IExit→(Nat→T)→Heap→Prop):∀(n j:Nat),j+n=m.places.length→
 (∀i:Int,Q (.exit 1) (ofL [(1,.ref 0 10 0),(2,.ref 1 4 0),(3,.ref 106 4 0),(4,.ref 204 4 0),(8,.int .i64 i),(26,.bool false)]) (hpL [(0,.live ⟨37,mdC m⟩),(1,.live ⟨45,[.int .i64 0,.int .i64 0,.nil,.nil]⟩),(104,.live ⟨45,rowC (labN S) c m.places.length⟩),(106,.live ⟨45,[.int .i64 3,.int .i64 0,.nil,.sl 104 ((m.places.length+1)*4) 4 0 (m.places.length+1)]⟩),(204,.live ⟨45,[.int .i64 2,.int .i64 L,.nil,.nil]⟩)]))→
 WL Tryz.prog 96 qfa (ofL [(1,.ref 0 10 0),(2,.ref 1 4 0),(3,.ref 106 4 0),(4,.ref 204 4 0),(8,.int .i64 j)]) (hpL [(0,.live ⟨37,mdC m⟩),(1,.live ⟨45,[.int .i64 0,.int .i64 0,.nil,.nil]⟩),(104,.live ⟨45,rowC (labN S) c j⟩),(106,.live ⟨45,[.int .i64 3,.int .i64 0,.nil,.sl 104 ((j+1)*4) 4 0 (j+1)]⟩),(204,.live ⟨45,[.int .i64 2,.int .i64 L,.nil,.nil]⟩)]) Q:=by
 have hlc:c.length=4:=by rw[hcd];rfl
 have hmo:=qd0 m
 have hmc:∀D,clL D (mdC m)=true:=fun D=>by simp
 simp only[mdC] at hmo hmc ⊢
 intro n
 induction n with
 | zero=>
  intro j hj hQ
  have hd:decide ((j:Int)<((qaq m.places).length:Int))=false:=by simp[qai];omega
  have hjn:j=m.places.length:=by omega
  subst hjn
  have fX:=@hd
  refine qaa qfa.eq_1 ?_
  refine wR0 1500 [1,2,3,4,8,26] fX ?_
  refine wF @hd ?_
  refine wX ?_
  refine wN ?_
  exact hQ _
 | succ n ih=>
  intro j hj hQ
  have hlt:(j:Int)<((qaq m.places).length:Int):=by simp[qai];omega
  have hd:decide ((j:Int)<((qaq m.places).length:Int))=true:=decide_eq_true hlt
  have hw:IntKind.wrap .i64 ((j:Int)+1)=(j:Int)+1:=wrap64 (by omega) (by omega)
  have hlen:(rowC (labN S) c j).length=(j+1)*4:=qcW _ _ rfl hlc j
  have hj4:j+1≤1001:=by omega
  have hcl:∀D,clL D (rowC (labN S) c j)=true:=fun D=>qfq rfl (by rw[hcd];simp[clL,T.cl]) j
  have hon:Ones (rowC (labN S) c j):=qeE (qhM S) (by rw[hcd];exact fun c hc=>List.all_eq_true.1 (show (([T.int .i64 1,.int .i64 0,.nil,.nil]:List T).all T.one)=true from rfl) c hc) j
  have hsl:=qai m.letters
  have hrc:=qj1 m.ranks hr
  have fX:=(cJ7 @hd @hw @kb2 @kb3 @hlen @qb0 @hsl)
  refine qaa qfa.eq_1 ?_
  refine W_gc ?_
  refine wR0 1500 [1,2,3,4,8,26] fX ?_
  refine wT @hd ?_
  refine wR0 1600 [1,2,3,4,8,9] fX ?_
  refine wR0 1700 [1,2,3,4,8,9,32] fX ?_
  refine wF fX ?_
  refine wR0 1900 [1,2,3,4,8,9,38] fX ?_
  refine wF fX ?_
  refine wR0 2100 [1,2,3,4,8] fX ?_
  refine wR0 2200 [1,2,3,4,8] fX ?_
  refine wN ?_
  refine qay [0,1,104,106,204] (by simp[inL]) (by simp[inL,T.cl]) (by simp[qaf,inL,Slot.cl,T.cl,clL,qab,hcl]) ?_
  have:=ih (j+1) (by omega) hQ
  have hm:(j+1+1)*4=(j+1)*4+4:=(by omega)
  simp only[rowC,hm] at this
  rw[show rowC (labN S) c j++c=rowC (labN S) c j++[T.int .i64 1,.int .i64 0,.nil,.nil] from by rw[←hcd]] at this
  simpa [qaf,inL,hL] using this
set_option maxHeartbeats 8000000 in
theorem qid (m:Md)(hm:m.sane):TP Tryz.prog 48 [qaA m] (qaz (qa9 m)):=by
 have tk:∀(c:Int),(m.kind==c)=true→m.kind=c:=fun c h=>by simpa using h
 have fk:∀(c:Int),(m.kind==c)=false→m.kind≠c:=fun c h=>by simpa using h
 have ha:=hm.age
 have hw:IntKind.wrap .i64 (m.age+2)=m.age+2:=wrap64 (by omega) (by omega)
 have e4:m.kind=4→qa9 m=qbf [qaU m.states.length,qev m.letters.length m.levels]:=fun h=>by rw[qa9,if_pos h]
 have e5:m.kind=5→qa9 m=qbf [qaU m.states.length,qbI 5 (.mk 3 0 [] [qaU m.places.length,qaU (m.age+2)])]:=fun h=>by rw[qa9,if_neg (by omega),if_pos h]
 have eo:m.kind≠4→m.kind≠5→qa9 m=qbf (qfu (qaU m.states.length) (qex m) m.places.length):=fun h h'=>by rw[qa9,if_neg h,if_neg h']
 have hkc:m.kind≠4→m.kind≠5→m.kind=2∨m.kind=3∨(m.kind≠2∧m.kind≠3):=fun _ _=>by omega
 have hs1:=qai m.states
 have hs2:=qai m.letters
 have hw1:IntKind.wrap .i64 ((1:Int)+1)=2:=rfl
 have hd11:decide ((1:Int)<1)=false:=rfl
 have hd12:decide ((1:Int)<2)=true:=rfl
 have hd22:decide ((2:Int)<2)=false:=rfl
 by_cases k4:m.kind=4
 ·have k4b:(m.kind==4)=true:=by simp[k4]
  rcases hm.lev k4 with hlev | hlev
  ·have fX:=(cJ8 @hw @qb0 @qkV @hs1 @hs2 @k4b @hlev @hd11)
   refine qag fn48 (by simp) ?_
   unfold i48
   simp only[argL,qaA,mdC]
   refine wR0 0 [1,2] fX ?_
   refine wR0 100 [1,2,3] fX ?_
   refine wR0 200 [1,2,3,4] fX ?_
   refine wR0 300 [1,2,3,4,21] fX ?_
   refine wR0 400 [1,2,3,4,21,52] fX ?_
   refine wT fX ?_
   refine wR0 500 [1,2,3,4,5] fX ?_
   refine wR0 600 [1,2,3,4,5,6] fX ?_
   refine wL ?_
   refine qaa qmz.eq_1 ?_
   refine wR0 700 [1,2,3,4,5,6,58] fX ?_
   refine wF fX ?_
   refine wX ?_
   refine wR0 1000 [2,3] fX ?_
   refine wR0 2300 [2] fX ?_
   refine wP ?_
   rw[e4 k4,hlev];refine eG ?_;(try simp only[qb9,qaU,qbI,qbf,qaz,qam,qaw]);(first | exact fF | exact fZt)
  ·have fX:=(cJ8 @hw @qb0 @qkV @hs1 @hs2 @k4b @hlev (cJ3 @hd12 @hd22 @hw1))
   refine qag fn48 (by simp) ?_
   unfold i48
   simp only[argL,qaA,mdC]
   refine wR0 0 [1,2] fX ?_
   refine wR0 100 [1,2,3] fX ?_
   refine wR0 200 [1,2,3,4] fX ?_
   refine wR0 300 [1,2,3,4,21] fX ?_
   refine wR0 400 [1,2,3,4,21,52] fX ?_
   refine wT fX ?_
   refine wR0 500 [1,2,3,4,5] fX ?_
   refine wR0 600 [1,2,3,4,5,6] fX ?_
   refine wL ?_
   refine qaa qmz.eq_1 ?_
   refine wR0 700 [1,2,3,4,5,6,58] fX ?_
   refine wT fX ?_
   refine wR0 800 [1,2,3,4,5,6] fX ?_
   refine wR0 900 [1,2,3,4,5,6] fX ?_
   refine wN ?_
   refine qaa qmz.eq_1 ?_
   refine wR0 700 [1,2,3,4,5,6,58] fX ?_
   refine wF fX ?_
   refine wX ?_
   refine wR0 1000 [2,3] fX ?_
   refine wR0 2300 [2] fX ?_
   refine wP ?_
   rw[e4 k4,hlev];refine eG ?_;(try simp only[qcl,qaU,qbI,qbf,qaz,qam,qaw]);(first | exact fF | exact fZt)
 ·have k4b:(m.kind==4)=false:=by simp[k4]
  by_cases k5:m.kind=5
  ·have k5b:(m.kind==5)=true:=by simp[k5]
   have hs3:=qai m.places
   have fX:=(cJ8 @hw @qb0 @qkV @hs1 @hs2 @hs3 @k4b @k5b)
   refine qag fn48 (by simp) ?_
   unfold i48
   simp only[argL,qaA,mdC]
   refine wR0 0 [1,2] fX ?_
   refine wR0 100 [1,2,3] fX ?_
   refine wR0 200 [1,2,3,4] fX ?_
   refine wR0 300 [1,2,3,4,21] fX ?_
   refine wR0 400 [1,2,3,4,21,52] fX ?_
   refine wF fX ?_
   refine wR0 1100 [1,2,3,4,75] fX ?_
   refine wT fX ?_
   refine wR0 1200 [2,3,7] fX ?_
   refine wR0 1300 [2,3] fX ?_
   refine wR0 2300 [2] fX ?_
   refine wP ?_
   rw[e5 k5];refine eG ?_;(try simp only[qaU,qbI,qbf,qaz,qam,qaw]);(first | exact fF | exact fZt)
  ·have k5b:(m.kind==5)=false:=by simp[k5]
   have fX:=(cJ7 @hw @qb0 @qkV @hs1 @hs2 @k4b @k5b)
   refine qag fn48 (by simp) ?_
   unfold i48
   simp only[argL,qaA,mdC]
   refine wR0 0 [1,2] fX ?_
   refine wR0 100 [1,2,3] fX ?_
   refine wR0 200 [1,2,3,4] fX ?_
   refine wR0 300 [1,2,3,4,21] fX ?_
   refine wR0 400 [1,2,3,4,21,52] fX ?_
   refine wF fX ?_
   refine wR0 1100 [1,2,3,4,75] fX ?_
   refine wF fX ?_
   refine wN ?_
   rcases hkc k4 k5 with h2 | h2 | h2
   ·skip
    refine wR0 1400 [1,2,3,4,8] fX ?_
    refine wL ?_
    first | (have q2:m.kind=2:=h2;refine qeH m _ (show qdh m=_ from by simp[qdh,h2]) (by simp[h2]) (by simp[h2]) (m.states.length:Int) (m.letters.length:Int) rfl hm.fit.places hm.fit.ranks _ m.places.length 0 (by omega) ?_) | (have q2:m.kind=3:=h2;refine qeI m _ (show qdh m=_ from by simp[qdh,h2]) (by simp[h2]) (by simp[h2]) (m.states.length:Int) (m.letters.length:Int) rfl hm.fit.places hm.fit.ranks _ m.places.length 0 (by omega) ?_) | (have q2:m.kind≠2∧m.kind≠3:=h2;refine qeG m _ (show qdh m=_ from by simp[qdh,h2]) (by simp[h2]) (by simp[h2]) (m.states.length:Int) (m.letters.length:Int) rfl hm.fit.places hm.fit.ranks _ m.places.length 0 (by omega) ?_)
    ·intro i
     refine wN ?_
     refine wR0 2300 [2] fX ?_
     refine wP ?_
     rw[eo k4 k5];refine eG ?_;(try simp only[qbf,qaz,qaw]);exact Frz.aggL (FrzL.cons (.same rfl) (FrzL.cons (.same rfl) (FrzL.cons .nil (FrzL.cons (qcw _ rfl rfl rfl rfl (qhX m) (qjJ _) (qhW m)) FrzL.nil)))) (by rfl)
   ·skip
    refine wR0 1400 [1,2,3,4,8] fX ?_
    refine wL ?_
    first | (have q2:m.kind=2:=h2;refine qeH m _ (show qdh m=_ from by simp[qdh,h2]) (by simp[h2]) (by simp[h2]) (m.states.length:Int) (m.letters.length:Int) rfl hm.fit.places hm.fit.ranks _ m.places.length 0 (by omega) ?_) | (have q2:m.kind=3:=h2;refine qeI m _ (show qdh m=_ from by simp[qdh,h2]) (by simp[h2]) (by simp[h2]) (m.states.length:Int) (m.letters.length:Int) rfl hm.fit.places hm.fit.ranks _ m.places.length 0 (by omega) ?_) | (have q2:m.kind≠2∧m.kind≠3:=h2;refine qeG m _ (show qdh m=_ from by simp[qdh,h2]) (by simp[h2]) (by simp[h2]) (m.states.length:Int) (m.letters.length:Int) rfl hm.fit.places hm.fit.ranks _ m.places.length 0 (by omega) ?_)
    ·intro i
     refine wN ?_
     refine wR0 2300 [2] fX ?_
     refine wP ?_
     rw[eo k4 k5];refine eG ?_;(try simp only[qbf,qaz,qaw]);exact Frz.aggL (FrzL.cons (.same rfl) (FrzL.cons (.same rfl) (FrzL.cons .nil (FrzL.cons (qcw _ rfl rfl rfl rfl (qhX m) (qjJ _) (qhW m)) FrzL.nil)))) (by rfl)
   ·skip
    refine wR0 1400 [1,2,3,4,8] fX ?_
    refine wL ?_
    first | (have q2:m.kind=2:=h2;refine qeH m _ (show qdh m=_ from by simp[qdh,h2]) (by simp[h2]) (by simp[h2]) (m.states.length:Int) (m.letters.length:Int) rfl hm.fit.places hm.fit.ranks _ m.places.length 0 (by omega) ?_) | (have q2:m.kind=3:=h2;refine qeI m _ (show qdh m=_ from by simp[qdh,h2]) (by simp[h2]) (by simp[h2]) (m.states.length:Int) (m.letters.length:Int) rfl hm.fit.places hm.fit.ranks _ m.places.length 0 (by omega) ?_) | (have q2:m.kind≠2∧m.kind≠3:=h2;refine qeG m _ (show qdh m=_ from by simp[qdh,h2]) (by simp[h2]) (by simp[h2]) (m.states.length:Int) (m.letters.length:Int) rfl hm.fit.places hm.fit.ranks _ m.places.length 0 (by omega) ?_)
    ·intro i
     refine wN ?_
     refine wR0 2300 [2] fX ?_
     refine wP ?_
     rw[eo k4 k5];refine eG ?_;(try simp only[qbf,qaz,qaw]);exact Frz.aggL (FrzL.cons (.same rfl) (FrzL.cons (.same rfl) (FrzL.cons .nil (FrzL.cons (qcw _ rfl rfl rfl rfl (qhX m) (qjJ _) (qhW m)) FrzL.nil)))) (by rfl)
def qbz (m:Md):List ByteArray:=m.states++m.places++m.letters++m.rules.map (·.name)
def newS (seen:List ByteArray):List ByteArray→Bool
 | []=>true
 | s::l=>(qdQ s&&!kwS s&&!inS s seen)&&newS (seen++[s]) l
def qhR (m:Md):Bool:=newS [] (qbz m)
def mapE (l:List ByteArray):List (T×T):=l.map fun s=>(.str s,.bool true)
theorem qtZ (s:ByteArray):∀l,qkn (.str s) (mapE l)=some (if inS s l=true then some (.bool true) else none)
 | []=>rfl
 | k::l=>by
  have ih:=qtZ s l
  simp only[mapE,List.map_cons,qkn,qnU,inS,List.any_cons] at ih ⊢
  rw[beq_toListBytes]
  by_cases hk:(s.toList==k.toList)=true
  ·simp only[hk,Bool.true_or,if_true]
  ·rw[Bool.not_eq_true] at hk
   simp only[hk,Bool.false_or];exact ih
theorem qui (s:ByteArray):∀l,inS s l=false→qjR (.str s) (.bool true) (mapE l)=mapE (l++[s])
 | [],_=>rfl
 | k::l,h=>by
  simp only[inS,List.any_cons,Bool.or_eq_false_iff] at h
  have ih:=qui s l h.2
  simp only[mapE,List.map_cons,List.cons_append,qjR,qnU] at ih ⊢
  rw[beq_toListBytes,h.1]
  simp only[ih]
theorem qts (s:ByteArray)(l:List ByteArray):inS s l=l.any fun k=>k.toList==s.toList:=by
 unfold inS
 congr 1
 funext k
 rw[Bool.eq_iff_iff,beq_iff_eq,beq_iff_eq];exact eq_comm
theorem qfW (m:Md)(hl:m.rules.length≤1000)(P1 P2:List T)(hP1:∀D,clL D P1=true)(hP2:∀D,clL D P2=true)(Q:IExit→(Nat→T)→Heap→Prop):∀(rest pre:List Rl) (i N:Nat) (C:List T) (done:List ByteArray),N=done.length→C=qaq done→m.rules=pre++rest→pre.length=i→done.length≤10000+i→
 (∀(i:Int),Q (.exit 0) (ofL [(1,.ref 0 10 0),(3,.sl 102 (done++rest.map (·.name)).length 0 0 (done++rest.map (·.name)).length),(4,.int .i64 i),(20,.bool false)]) (hpL [(0,.live ⟨37,[.int .i64 m.kind,.list (qaq m.states),.list P1,.list P2,.list (qad m.ranks),.int .i64 m.levels,.int .i64 m.age,.list (qaR m.rules),.int .i64 m.start.n,.list (qaj m.start.kids)]⟩),(102,.live ⟨9,qaq (done++rest.map (·.name))⟩)]))→
 WL Tryz.prog 65 qmJ (ofL [(1,.ref 0 10 0),(3,.sl 102 N 0 0 N),(4,.int .i64 i)]) (hpL [(0,.live ⟨37,[.int .i64 m.kind,.list (qaq m.states),.list P1,.list P2,.list (qad m.ranks),.int .i64 m.levels,.int .i64 m.age,.list (qaR m.rules),.int .i64 m.start.n,.list (qaj m.start.kids)]⟩),(102,.live ⟨9,C⟩)]) Q:=by
 intro rest
 induction rest with
 | nil=>
  intro pre i N C done hN hC he hn hdn hQ
  subst hN hC
  have hd:decide ((i:Int)<((qaR m.rules).length:Int))=false:=by simp[qaS,he,hn]
  simp only[List.map_nil,List.append_nil] at hQ
  have fX:=@hd
  refine qaa qmJ.eq_1 ?_
  refine wR0 300 [1,3,4,20] fX ?_
  refine wF @hd ?_
  refine wX ?_
  refine wN ?_
  exact hQ _
 | cons k rest ih=>
  intro pre i N C done hN hC he hn hdn hQ
  subst hN hC
  have hlt:(i:Int)<((qaR m.rules).length:Int):=by simp[qaS,he];omega
  have hlb:i≤1000:=by rw[he] at hl;simp at hl;omega
  have hd:decide ((i:Int)<((qaR m.rules).length:Int))=true:=decide_eq_true hlt
  have hg:(qaR m.rules).getD (i:Int).toNat .undef=.agg (rlC k):=by rw[Int.toNat_natCast,he,←hn];exact qeO _ k _
  have hw:IntKind.wrap .i64 ((i:Int)+1)=(i:Int)+1:=wrap64 (by omega) (by omega)
  have hlen:(qaq done).length=done.length:=qai _
  have hdn':done.length≤20000:=by omega
  simp only[rlC] at hg
  have fX:=(cJ5 @hd @hg @hw @hlen @qb0)
  refine qaa qmJ.eq_1 ?_
  refine W_gc ?_
  refine wR0 300 [1,3,4,20] fX ?_
  refine wT @hd ?_
  refine wR0 400 [1,3,4] fX ?_
  refine wR0 500 [1,3,4] fX ?_
  refine wN ?_
  refine qay [0,102] (by simp[inL]) (by simp[inL,T.cl]) (by simp[qaf,inL,Slot.cl,T.cl,clL,qab,hP1,hP2]) ?_
  have:=ih (pre++[k]) (i+1) _ _ (done++[k.name]) rfl rfl (by simp[he]) (by simp;omega) (by simp;omega) (by simpa using hQ)
  simpa [qaf,inL,qaq] using this
theorem qqu (xs:List ByteArray)(hl:xs.length≤1000000)(hh:List (Nat×Slot))(pre:List ByteArray)(s:ByteArray)(tl:List ByteArray)(i:Nat)(he:xs=pre++s::tl)(hi:pre.length=i)(Q:IExit→(Nat→T)→Heap→Prop):∀(q p1:List ByteArray) (k:Nat),pre=p1++q→p1.length=k→
 ((q.any fun k=>k.toList==s.toList)=false→∀(k:Int),Q (.exit 4) (ofL [(3,.list (qaq xs)),(5,.int .i64 i),(6,.int .i64 k),(53,.bool false)]) (hpL hh))→
 ((q.any fun k=>k.toList==s.toList)=true→Q .ret (ofL [(2,.bool false)]) (hpL hh))→
 WL Tryz.prog 65 qmL (ofL [(3,.list (qaq xs)),(5,.int .i64 i),(6,.int .i64 k)]) (hpL hh) Q:=by
 have hlti:(i:Int)<((qaq xs).length:Int):=by simp[qai,he];omega
 have hlb:i≤1000000:=by rw[he] at hl;simp at hl;omega
 have hgi:(qaq xs).getD (i:Int).toNat .undef=.str s:=by rw[Int.toNat_natCast,he,←hi];exact qdB _ s _
 intro q
 induction q with
 | nil=>
  intro p1 k hp hk hQ0 hQ1
  have hki:k=i:=by rw[←hk,←hi,hp];simp
  subst hki
  have hd:decide ((k:Int)<(k:Int))=false:=by simp
  have fX:=@hd
  refine qaa qmL.eq_1 ?_
  refine wR0 1100 [3,5,6,53] fX ?_
  refine wF @hd ?_
  refine wX ?_
  refine wN ?_
  exact hQ0 rfl _
 | cons x q ih=>
  intro p1 k hp hk hQ0 hQ1
  have hki:k<i:=by rw[←hk,←hi,hp];simp
  have hltk:(k:Int)<((qaq xs).length:Int):=by omega
  have hd:decide ((k:Int)<(i:Int))=true:=decide_eq_true (by omega)
  have hgk:(qaq xs).getD (k:Int).toNat .undef=.str x:=by
   have h:=qdB p1 x (q++s::tl)
   rw[Int.toNat_natCast,he,hp,←hk];simpa using h
  have hw:IntKind.wrap .i64 ((k:Int)+1)=(k:Int)+1:=wrap64 (by omega) (by omega)
  have fX:=(cJ7 @hd @hgi @hgk @hw @binS.eq_1 @binS.eq_2 @binS.eq_3)
  refine qaa qmL.eq_1 ?_
  refine wR0 1100 [3,5,6,53] fX ?_
  refine wT @hd ?_
  refine wR0 1200 [3,5,6,64] fX ?_
  refine wS cJ0 (fun hc1200=>?_) (fun hc1200=>?_)
  ·skip
   refine wR0 1300 [2] fX ?_
   refine wE ?_
   refine wN ?_
   exact hQ1 (by rw[List.any_cons,hc1200,Bool.true_or])
  ·skip
   refine wR0 1400 [3,5,6] fX ?_
   refine wN ?_
   have e:((x::q).any fun k=>k.toList==s.toList)=(q.any fun k=>k.toList==s.toList):=(by rw[List.any_cons,hc1200,Bool.false_or])
   rw[e] at hQ0 hQ1
   exact ih (p1++[x]) (k+1) (by simp[hp]) (by simp;omega) hQ0 hQ1
theorem qfX (hh:List (Nat×Slot))(xs:List ByteArray)(hl:xs.length≤1000000)(hz:∀s∈xs,s.size≤1000000)(Q:IExit→(Nat→T)→Heap→Prop):∀(rest pre:List ByteArray) (i:Nat),xs=pre++rest→pre.length=i→
 (newS pre rest=true→∀(i:Int),Q (.exit 2) (ofL [(3,.list (qaq xs)),(5,.int .i64 i),(35,.bool false)]) (hpL hh))→
 (newS pre rest=false→Q .ret (ofL [(2,.bool false)]) (hpL hh))→
 WL Tryz.prog 65 qmK (ofL [(3,.list (qaq xs)),(5,.int .i64 i)]) (hpL hh) Q:=by
 intro rest
 induction rest with
 | nil=>
  intro pre i he hn hQ0 hQ1
  have hd:decide ((i:Int)<((qaq xs).length:Int))=false:=by simp[qai,he,hn]
  have fX:=@hd
  refine qaa qmK.eq_1 ?_
  refine wR0 700 [3,5,35] fX ?_
  refine wF @hd ?_
  refine wX ?_
  refine wN ?_
  exact hQ0 rfl _
 | cons s rest ih=>
  intro pre i he hn hQ0 hQ1
  have hlt:(i:Int)<((qaq xs).length:Int):=by simp[qai,he];omega
  have hlb:i≤1000000:=by rw[he] at hl;simp at hl;omega
  have hd:decide ((i:Int)<((qaq xs).length:Int))=true:=decide_eq_true hlt
  have hg:(qaq xs).getD (i:Int).toNat .undef=.str s:=by rw[Int.toNat_natCast,he,←hn];exact qdB _ s _
  have hw:IntKind.wrap .i64 ((i:Int)+1)=(i:Int)+1:=wrap64 (by omega) (by omega)
  have hsz:s.size≤1000000:=hz s (by rw[he];simp)
  have fX:=(cJ3 @hd @hg @hw)
  refine qaa qmK.eq_1 ?_
  refine wR0 700 [3,5,35] fX ?_
  refine wT @hd ?_
  refine wRn 800 [3,5,50] fX ?_
  refine rC fX ?_
  refine⟨_,qnk s hsz,rN fX ?_⟩
  refine rCi fX ?_
  refine⟨_,fun hw=>qlV s,rE fX ?_⟩
  refine wS cJ0 (fun hc800=>?_) (fun hc800=>?_)
  ·skip
   refine wR0 900 [2] fX ?_
   refine wE ?_
   refine wN ?_
   exact hQ1 (by simp at hc800;rw[newS];cases h1:qdQ s<;>simp_all)
  ·skip
   refine wR0 1000 [3,5,6] fX ?_
   refine wL ?_
   refine qqu xs hl hh pre s rest i he hn _ pre [] 0 rfl rfl ?_ ?_
   ·intro h2 k
    refine wN ?_
    refine wR0 1500 [3,5] fX ?_
    refine wN ?_
    have e:newS pre (s::rest)=newS (pre++[s]) rest:=(by rw[←qts] at h2;simp at hc800;rw[newS,h2];simp[hc800])
    rw[e] at hQ0 hQ1
    exact ih (pre++[s]) (i+1) (by simp[he]) (by simp;omega) hQ0 hQ1
   ·intro h2
    refine wN ?_
    exact hQ1 (by rw[←qts] at h2;rw[newS,h2];simp)
theorem len0 {l:List ByteArray}(h:qaq l=[]):l.length=0:=by rw[←qai,h];rfl
set_option maxHeartbeats 4000000 in
theorem qqv (m:Md)(hm:m.fit)(hne:m.states≠[]):TP Tryz.prog 86 [qaA m] (.bool (qhR m)):=by
 have h1:=hm.states
 have h2:=hm.places
 have h3:=hm.letters
 have h4:=hm.rules
 have hmc:∀D,clL D (mdC m)=true:=fun D=>by simp
 have hmo:=qd0 m
 have hnl:(qbz m).length≤1000000:=by simp[qbz];omega
 have hnz:∀s∈qbz m,s.size≤1000000:=by
  intro s hs
  rcases List.mem_append.1 hs with hs | hs
  ·exact hm.names s hs
  ·obtain⟨r,hr,rfl⟩:=List.mem_map.1 hs
   exact (hm.rule r hr).name
 have he0:qaq m.states≠[]:=by simpa [qaq] using hne
 have hpos:0<m.states.length:=List.length_pos_iff.2 hne
 have hcs:((qaq m.places=[]∧m.places.length=0)∨(qaq m.places≠[]∧0<m.places.length))∧((qaq m.letters=[]∧m.letters.length=0)∨(qaq m.letters≠[]∧0<m.letters.length)):=by
  constructor
  ·cases m.places<;>simp[qaq]
  ·cases m.letters<;>simp[qaq]
 have hs1:=qdU m.states
 have hs2:=qdU m.places
 have hs3:=qdU m.letters
 have hb1:m.states.length≤1000000000:=by omega
 refine qag fn86 (by simp) ?_
 unfold i86
 simp only[argL,qaA,mdC]
 refine wR0 0 [1] cJ0 ?_
 refine wN ?_
 rcases hcs with⟨⟨hp,hp0⟩ | ⟨hp,hp0⟩,⟨hq,hq0⟩ | ⟨hq,hq0⟩⟩
 ·skip
  refine wR0 100 [1,3] (cJ8 @he0 @hp @hq @hs1 @hs2 @hs3 @qb5 (cJ6 @qai @List.length_append.{0} @ne_eq.{1} @not_false_eq_true @true_and @and_true)) ?_
  refine wR0 200 [1,3,4] cJ0 ?_
  refine wL ?_
  refine qfW m h4 _ _ (fun D=>by simp[clL]) (fun D=>by simp[clL]) _ m.rules [] 0 _ _ (m.states++m.places++m.letters) (by simp only[List.length_append];try omega) (by simp[qcO,hp,hq]) rfl rfl (by simp;omega) ?_
  ·intro i
   refine wN ?_
   refine wR0 600 [3,5] cJ0 ?_
   simp only[thn]
   refine qbZ (l':=[(3,.list (qaq (qbz m))),(5,.int .i64 0)]) (hl':=[(0,_),(102,.dead)]) [0] (.cons (qgf (ty:=9) (qbz m) rfl rfl rfl rfl) (.cons (.same rfl) .nil)) (.keep rfl (.liveA (by simp[clL,T.cl]) rfl) (.dead rfl (fun h=>by cases h) .nil)) ?_
   refine wL ?_
   refine qfX _ (qbz m) hnl hnz _ (qbz m) [] 0 rfl rfl ?_ ?_
   ·intro h i
    refine wN ?_
    refine wR0 1600 [2] cJ0 ?_
    refine wP ?_
    exact qac h.symm
   ·intro h
    refine wN ?_
    exact⟨by simp,_,rfl,by exact qac h.symm⟩
 ·skip
  refine wR0 100 [1,3] (cJ8 @he0 @hp @hq @hs1 @hs2 @hs3 @qb5 (cJ6 @qai @List.length_append.{0} @ne_eq.{1} @not_false_eq_true @true_and @and_true)) ?_
  refine wR0 200 [1,3,4] cJ0 ?_
  refine wL ?_
  refine qfW m h4 _ _ (fun D=>by simp[clL]) (fun D=>by simp) _ m.rules [] 0 _ _ (m.states++m.places++m.letters) (by simp only[List.length_append];try omega) (by simp[qcO,hp]) rfl rfl (by simp;omega) ?_
  ·intro i
   refine wN ?_
   refine wR0 600 [3,5] cJ0 ?_
   simp only[thn]
   refine qbZ (l':=[(3,.list (qaq (qbz m))),(5,.int .i64 0)]) (hl':=[(0,_),(102,.dead)]) [0] (.cons (qgf (ty:=9) (qbz m) rfl rfl rfl rfl) (.cons (.same rfl) .nil)) (.keep rfl (.liveA (by simp[clL,T.cl]) rfl) (.dead rfl (fun h=>by cases h) .nil)) ?_
   refine wL ?_
   refine qfX _ (qbz m) hnl hnz _ (qbz m) [] 0 rfl rfl ?_ ?_
   ·intro h i
    refine wN ?_
    refine wR0 1600 [2] cJ0 ?_
    refine wP ?_
    exact qac h.symm
   ·intro h
    refine wN ?_
    exact⟨by simp,_,rfl,by exact qac h.symm⟩
 ·skip
  refine wR0 100 [1,3] (cJ8 @he0 @hp @hq @hs1 @hs2 @hs3 @qb5 (cJ6 @qai @List.length_append.{0} @ne_eq.{1} @not_false_eq_true @true_and @and_true)) ?_
  refine wR0 200 [1,3,4] cJ0 ?_
  refine wL ?_
  refine qfW m h4 _ _ (fun D=>by simp) (fun D=>by simp[clL]) _ m.rules [] 0 _ _ (m.states++m.places++m.letters) (by simp only[List.length_append];try omega) (by simp[qcO,hq]) rfl rfl (by simp;omega) ?_
  ·intro i
   refine wN ?_
   refine wR0 600 [3,5] cJ0 ?_
   simp only[thn]
   refine qbZ (l':=[(3,.list (qaq (qbz m))),(5,.int .i64 0)]) (hl':=[(0,_),(102,.dead)]) [0] (.cons (qgf (ty:=9) (qbz m) rfl rfl rfl rfl) (.cons (.same rfl) .nil)) (.keep rfl (.liveA (by simp[clL,T.cl]) rfl) (.dead rfl (fun h=>by cases h) .nil)) ?_
   refine wL ?_
   refine qfX _ (qbz m) hnl hnz _ (qbz m) [] 0 rfl rfl ?_ ?_
   ·intro h i
    refine wN ?_
    refine wR0 1600 [2] cJ0 ?_
    refine wP ?_
    exact qac h.symm
   ·intro h
    refine wN ?_
    exact⟨by simp,_,rfl,by exact qac h.symm⟩
 ·skip
  refine wR0 100 [1,3] (cJ8 @he0 @hp @hq @hs1 @hs2 @hs3 @qb5 (cJ6 @qai @List.length_append.{0} @ne_eq.{1} @not_false_eq_true @true_and @and_true)) ?_
  refine wR0 200 [1,3,4] cJ0 ?_
  refine wL ?_
  refine qfW m h4 _ _ (fun D=>by simp) (fun D=>by simp) _ m.rules [] 0 _ _ (m.states++m.places++m.letters) (by simp only[List.length_append];try omega) (by simp[qcO]) rfl rfl (by simp;omega) ?_
  ·intro i
   refine wN ?_
   refine wR0 600 [3,5] cJ0 ?_
   simp only[thn]
   refine qbZ (l':=[(3,.list (qaq (qbz m))),(5,.int .i64 0)]) (hl':=[(0,_),(102,.dead)]) [0] (.cons (qgf (ty:=9) (qbz m) rfl rfl rfl rfl) (.cons (.same rfl) .nil)) (.keep rfl (.liveA (by simp[clL,T.cl]) rfl) (.dead rfl (fun h=>by cases h) .nil)) ?_
   refine wL ?_
   refine qfX _ (qbz m) hnl hnz _ (qbz m) [] 0 rfl rfl ?_ ?_
   ·intro h i
    refine wN ?_
    refine wR0 1600 [2] cJ0 ?_
    refine wP ?_
    exact qac h.symm
   ·intro h
    refine wN ?_
    exact⟨by simp,_,rfl,by exact qac h.symm⟩
end
end Go.Proofs.YtkbjpglehdhjfaaGreatDoor
