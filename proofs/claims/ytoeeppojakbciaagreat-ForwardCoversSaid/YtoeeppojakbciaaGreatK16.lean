/- Contracts of functions of the program, for all arguments that they name. -/
import Derived.Test.YtoeeppojakbciaaGreatK15
namespace Go.Proofs.YtoeeppojakbciaaGreat
set_option linter.unusedVariables false
section
open Go.RowKit
set_option maxHeartbeats 2000000
theorem SlotFz.liveA {H:Heap}{D:Nat→Bool}{ty:TypeId}{cs:List T}(h:clL D cs=true)(h1:(cs.all T.one)=true):SlotFz H D (.live ⟨ty,cs⟩) (.live ⟨ty,cs⟩):=.liveS h fun c hc=>List.all_eq_true.1 h1 c hc
theorem qce (m:Md):Ones (mdC m):=fun c hc=>List.all_eq_true.1 (show ((mdC m).all T.one)=true from rfl) c hc
def labN (n:Int):List T:=[.int .i64 2,.int .i64 n,.nil,.nil]
theorem qiM {H:Heap}(n:Int):FrzL H (labN n) (qax (qaM n)).cells:=by
 simp only[labN,qaM,qax,qaj,qaw,T.cells]
 (first | exact fF | exact fZt)
theorem qgS (n:Int):Ones (labN n):=fun c hc=>List.all_eq_true.1 (show ((labN n).all T.one)=true from rfl) c hc
def qcM (m:Md):List T:=if m.kind=2 then [.int .i64 4,.int .i64 0,.nil,.list [.agg [.int .i64 2,.int .i64 m.letters.length,.list [],.list []]]] else if m.kind=3 then [.int .i64 7,.int .i64 m.letters.length,.list (qac m.ranks),.nil] else [.int .i64 1,.int .i64 0,.nil,.nil]
theorem qg4 (m:Md):(qcM m).length=4:=by unfold qcM;(repeat' split)<;>rfl
theorem qg3 {H:Heap}(m:Md):FrzL H (qcM m) (qax (qdy m)).cells:=by
 unfold qcM qdy
 split
 ·simp only[qbf,qaM,qax,qaj,qaw,T.cells]
  (first | exact fF | exact fZt)
 ·split
  ·simp only[qax,qaj,T.cells]
   (first | exact fF | exact fZt)
  ·simp only[qax,qaj,qaw,T.cells]
   (first | exact fF | exact fZt)
theorem qdR (m:Md)(c:List T)(hcd:c=[T.int .i64 4,.int .i64 0,.nil,.list [.agg [.int .i64 2,.int .i64 m.letters.length,.list [],.list []]]])(kb2:(m.kind==2)=true)(kb3:(m.kind==3)=false)(S L:Int)(hL:L=m.letters.length)(hl:m.places.length≤1000)(hr:m.ranks.length≤1000000)(Q:IExit→(Nat→T)→Heap→Prop):∀(n j:Nat),j+n=m.places.length→
 (∀i:Int,Q (.exit 1) (ofL [(1,.ref 0 10 0),(2,.ref 1 4 0),(3,.ref 106 4 0),(4,.ref 204 4 0),(8,.int .i64 i),(26,.bool false)]) (hpL [(0,.live ⟨33,mdC m⟩),(1,.live ⟨107,[.int .i64 0,.int .i64 0,.nil,.nil]⟩),(104,.live ⟨107,rowC (labN S) c m.places.length⟩),(106,.live ⟨107,[.int .i64 3,.int .i64 0,.nil,.sl 104 ((m.places.length+1)*4) 4 0 (m.places.length+1)]⟩),(204,.live ⟨107,[.int .i64 2,.int .i64 L,.nil,.nil]⟩)]))→
 WL Tryz.prog 96 qeg (ofL [(1,.ref 0 10 0),(2,.ref 1 4 0),(3,.ref 106 4 0),(4,.ref 204 4 0),(8,.int .i64 j)]) (hpL [(0,.live ⟨33,mdC m⟩),(1,.live ⟨107,[.int .i64 0,.int .i64 0,.nil,.nil]⟩),(104,.live ⟨107,rowC (labN S) c j⟩),(106,.live ⟨107,[.int .i64 3,.int .i64 0,.nil,.sl 104 ((j+1)*4) 4 0 (j+1)]⟩),(204,.live ⟨107,[.int .i64 2,.int .i64 L,.nil,.nil]⟩)]) Q:=by
 have hlc:c.length=4:=by rw[hcd];rfl
 have hmo:=qce m
 have hmc:∀D,clL D (mdC m)=true:=fun D=>by simp
 simp only[mdC] at hmo hmc ⊢
 intro n
 induction n with
 | zero=>
  intro j hj hQ
  have hd:decide ((j:Int)<((qau m.places).length:Int))=false:=by simp[qaf];omega
  have hjn:j=m.places.length:=by omega
  subst hjn
  have fX:=@hd
  refine qaa qeg.eq_1 ?_
  refine wR0 1500 [1,2,3,4,8,26] fX ?_
  refine wF @hd ?_
  refine wX ?_
  refine wN ?_
  exact hQ _
 | succ n ih=>
  intro j hj hQ
  have hlt:(j:Int)<((qau m.places).length:Int):=by simp[qaf];omega
  have hd:decide ((j:Int)<((qau m.places).length:Int))=true:=decide_eq_true hlt
  have hw:IntKind.wrap .i64 ((j:Int)+1)=(j:Int)+1:=wrap64 (by omega) (by omega)
  have hlen:(rowC (labN S) c j).length=(j+1)*4:=qcu _ _ rfl hlc j
  have hj4:j+1≤1001:=by omega
  have hcl:∀D,clL D (rowC (labN S) c j)=true:=fun D=>qev rfl (by rw[hcd];simp[clL,T.cl]) j
  have hon:Ones (rowC (labN S) c j):=qdO (qgS S) (by rw[hcd];exact fun c hc=>List.all_eq_true.1 (show (([T.int .i64 4,.int .i64 0,.nil,.list [.agg [.int .i64 2,.int .i64 m.letters.length,.list [],.list []]]]:List T).all T.one)=true from rfl) c hc) j
  have hsl:=qaf m.letters
  have hrc:=qiT m.ranks hr
  have fX:=(cJ7 @hd @hw @kb2 @kb3 @hlen @qee @hsl)
  refine qaa qeg.eq_1 ?_
  refine W_gc ?_
  refine wR0 1500 [1,2,3,4,8,26] fX ?_
  refine wT @hd ?_
  refine wR0 1600 [1,2,3,4,8,9] fX ?_
  refine wR0 1700 [1,2,3,4,8,9,32] fX ?_
  refine wT fX ?_
  refine wR0 1800 [1,2,3,4,8,9] fX ?_
  simp only[thn]
  rw[hL];refine qfP (l':=[(1,.ref 0 10 0),(2,.ref 1 4 0),(3,.ref 106 4 0),(4,.ref 204 4 0),(8,.int .i64 j),(9,.ref 1601 4 0)]) (hl':=[(0,_),(1,_),(104,_),(106,_),(204,_),(1601,.live ⟨107,[T.int .i64 4,.int .i64 0,.nil,.list [.agg [.int .i64 2,.int .i64 m.letters.length,.list [],.list []]]]⟩),(1801,.dead)]) [0,1,104,106,204,1601] (.cons (.same rfl) (.cons (.same rfl) (.cons (.same rfl) (.cons (.same rfl) (.cons (.same rfl) (.cons (.same rfl) .nil)))))) (.keep rfl (.liveS (hmc _) hmo) (.keep rfl (.liveA rfl rfl) (.keep rfl (.liveS (hcl _) hon) (.keep rfl (.liveA rfl rfl) (.keep rfl (.liveA rfl rfl) (.keep rfl (.liveL (.cons (.same rfl) (.cons (.same rfl) (.cons (.same rfl) (.cons (.slL rfl rfl rfl rfl rfl rfl rfl (.cons (.same rfl) (.cons (.same rfl) (.cons .nil (.cons .nil .nil))))) .nil)))) rfl) (.dead rfl (fun h=>by cases h) .nil))))))) ?_
  refine wR0 1900 [1,2,3,4,8,9,38] fX ?_
  refine wF fX ?_
  refine wR0 2100 [1,2,3,4,8] fX ?_
  refine wR0 2200 [1,2,3,4,8] fX ?_
  refine wN ?_
  refine qaP [0,1,104,106,204] (by simp[inL]) (by simp[inL,T.cl]) (by simp[qan,inL,Slot.cl,T.cl,clL,qap,hcl]) ?_
  have:=ih (j+1) (by omega) hQ
  have hm:(j+1+1)*4=(j+1)*4+4:=(by omega)
  simp only[rowC,hm] at this
  rw[show rowC (labN S) c j++c=rowC (labN S) c j++[T.int .i64 4,.int .i64 0,.nil,.list [.agg [.int .i64 2,.int .i64 m.letters.length,.list [],.list []]]] from by rw[←hcd]] at this
  simpa [qan,inL,hL] using this
theorem qdS (m:Md)(c:List T)(hcd:c=[T.int .i64 7,.int .i64 m.letters.length,.list (qac m.ranks),.nil])(kb2:(m.kind==2)=false)(kb3:(m.kind==3)=true)(S L:Int)(hL:L=m.letters.length)(hl:m.places.length≤1000)(hr:m.ranks.length≤1000000)(Q:IExit→(Nat→T)→Heap→Prop):∀(n j:Nat),j+n=m.places.length→
 (∀i:Int,Q (.exit 1) (ofL [(1,.ref 0 10 0),(2,.ref 1 4 0),(3,.ref 106 4 0),(4,.ref 204 4 0),(8,.int .i64 i),(26,.bool false)]) (hpL [(0,.live ⟨33,mdC m⟩),(1,.live ⟨107,[.int .i64 0,.int .i64 0,.nil,.nil]⟩),(104,.live ⟨107,rowC (labN S) c m.places.length⟩),(106,.live ⟨107,[.int .i64 3,.int .i64 0,.nil,.sl 104 ((m.places.length+1)*4) 4 0 (m.places.length+1)]⟩),(204,.live ⟨107,[.int .i64 2,.int .i64 L,.nil,.nil]⟩)]))→
 WL Tryz.prog 96 qeg (ofL [(1,.ref 0 10 0),(2,.ref 1 4 0),(3,.ref 106 4 0),(4,.ref 204 4 0),(8,.int .i64 j)]) (hpL [(0,.live ⟨33,mdC m⟩),(1,.live ⟨107,[.int .i64 0,.int .i64 0,.nil,.nil]⟩),(104,.live ⟨107,rowC (labN S) c j⟩),(106,.live ⟨107,[.int .i64 3,.int .i64 0,.nil,.sl 104 ((j+1)*4) 4 0 (j+1)]⟩),(204,.live ⟨107,[.int .i64 2,.int .i64 L,.nil,.nil]⟩)]) Q:=by
 have hlc:c.length=4:=by rw[hcd];rfl
 have hmo:=qce m
 have hmc:∀D,clL D (mdC m)=true:=fun D=>by simp
 simp only[mdC] at hmo hmc ⊢
 intro n
 induction n with
 | zero=>
  intro j hj hQ
  have hd:decide ((j:Int)<((qau m.places).length:Int))=false:=by simp[qaf];omega
  have hjn:j=m.places.length:=by omega
  subst hjn
  have fX:=@hd
  refine qaa qeg.eq_1 ?_
  refine wR0 1500 [1,2,3,4,8,26] fX ?_
  refine wF @hd ?_
  refine wX ?_
  refine wN ?_
  exact hQ _
 | succ n ih=>
  intro j hj hQ
  have hlt:(j:Int)<((qau m.places).length:Int):=by simp[qaf];omega
  have hd:decide ((j:Int)<((qau m.places).length:Int))=true:=decide_eq_true hlt
  have hw:IntKind.wrap .i64 ((j:Int)+1)=(j:Int)+1:=wrap64 (by omega) (by omega)
  have hlen:(rowC (labN S) c j).length=(j+1)*4:=qcu _ _ rfl hlc j
  have hj4:j+1≤1001:=by omega
  have hcl:∀D,clL D (rowC (labN S) c j)=true:=fun D=>qev rfl (by rw[hcd];simp[clL,T.cl]) j
  have hon:Ones (rowC (labN S) c j):=qdO (qgS S) (by rw[hcd];exact fun c hc=>List.all_eq_true.1 (show (([T.int .i64 7,.int .i64 m.letters.length,.list (qac m.ranks),.nil]:List T).all T.one)=true from rfl) c hc) j
  have hsl:=qaf m.letters
  have hrc:=qiT m.ranks hr
  have fX:=(cJ7 @hd @hw @kb2 @kb3 @hlen @qee @hsl)
  refine qaa qeg.eq_1 ?_
  refine W_gc ?_
  refine wR0 1500 [1,2,3,4,8,26] fX ?_
  refine wT @hd ?_
  refine wR0 1600 [1,2,3,4,8,9] fX ?_
  refine wR0 1700 [1,2,3,4,8,9,32] fX ?_
  refine wF fX ?_
  refine wR0 1900 [1,2,3,4,8,9,38] fX ?_
  refine wT fX ?_
  refine wRn 2000 [1,2,3,4,8,9] fX ?_
  refine rC fX ?_
  refine⟨_,hrc,rE fX ?_⟩
  refine wR0 2100 [1,2,3,4,8] fX ?_
  refine wR0 2200 [1,2,3,4,8] fX ?_
  refine wN ?_
  refine qaP [0,1,104,106,204] (by simp[inL]) (by simp[inL,T.cl]) (by simp[qan,inL,Slot.cl,T.cl,clL,qap,hcl]) ?_
  have:=ih (j+1) (by omega) hQ
  have hm:(j+1+1)*4=(j+1)*4+4:=(by omega)
  simp only[rowC,hm] at this
  rw[show rowC (labN S) c j++c=rowC (labN S) c j++[T.int .i64 7,.int .i64 m.letters.length,.list (qac m.ranks),.nil] from by rw[←hcd]] at this
  simpa [qan,inL,hL] using this
theorem qdQ (m:Md)(c:List T)(hcd:c=[T.int .i64 1,.int .i64 0,.nil,.nil])(kb2:(m.kind==2)=false)(kb3:(m.kind==3)=false)(S L:Int)(hL:L=m.letters.length)(hl:m.places.length≤1000)(hr:m.ranks.length≤1000000)(Q:IExit→(Nat→T)→Heap→Prop):∀(n j:Nat),j+n=m.places.length→
 (∀i:Int,Q (.exit 1) (ofL [(1,.ref 0 10 0),(2,.ref 1 4 0),(3,.ref 106 4 0),(4,.ref 204 4 0),(8,.int .i64 i),(26,.bool false)]) (hpL [(0,.live ⟨33,mdC m⟩),(1,.live ⟨107,[.int .i64 0,.int .i64 0,.nil,.nil]⟩),(104,.live ⟨107,rowC (labN S) c m.places.length⟩),(106,.live ⟨107,[.int .i64 3,.int .i64 0,.nil,.sl 104 ((m.places.length+1)*4) 4 0 (m.places.length+1)]⟩),(204,.live ⟨107,[.int .i64 2,.int .i64 L,.nil,.nil]⟩)]))→
 WL Tryz.prog 96 qeg (ofL [(1,.ref 0 10 0),(2,.ref 1 4 0),(3,.ref 106 4 0),(4,.ref 204 4 0),(8,.int .i64 j)]) (hpL [(0,.live ⟨33,mdC m⟩),(1,.live ⟨107,[.int .i64 0,.int .i64 0,.nil,.nil]⟩),(104,.live ⟨107,rowC (labN S) c j⟩),(106,.live ⟨107,[.int .i64 3,.int .i64 0,.nil,.sl 104 ((j+1)*4) 4 0 (j+1)]⟩),(204,.live ⟨107,[.int .i64 2,.int .i64 L,.nil,.nil]⟩)]) Q:=by
 have hlc:c.length=4:=by rw[hcd];rfl
 have hmo:=qce m
 have hmc:∀D,clL D (mdC m)=true:=fun D=>by simp
 simp only[mdC] at hmo hmc ⊢
 intro n
 induction n with
 | zero=>
  intro j hj hQ
  have hd:decide ((j:Int)<((qau m.places).length:Int))=false:=by simp[qaf];omega
  have hjn:j=m.places.length:=by omega
  subst hjn
  have fX:=@hd
  refine qaa qeg.eq_1 ?_
  refine wR0 1500 [1,2,3,4,8,26] fX ?_
  refine wF @hd ?_
  refine wX ?_
  refine wN ?_
  exact hQ _
 | succ n ih=>
  intro j hj hQ
  have hlt:(j:Int)<((qau m.places).length:Int):=by simp[qaf];omega
  have hd:decide ((j:Int)<((qau m.places).length:Int))=true:=decide_eq_true hlt
  have hw:IntKind.wrap .i64 ((j:Int)+1)=(j:Int)+1:=wrap64 (by omega) (by omega)
  have hlen:(rowC (labN S) c j).length=(j+1)*4:=qcu _ _ rfl hlc j
  have hj4:j+1≤1001:=by omega
  have hcl:∀D,clL D (rowC (labN S) c j)=true:=fun D=>qev rfl (by rw[hcd];simp[clL,T.cl]) j
  have hon:Ones (rowC (labN S) c j):=qdO (qgS S) (by rw[hcd];exact fun c hc=>List.all_eq_true.1 (show (([T.int .i64 1,.int .i64 0,.nil,.nil]:List T).all T.one)=true from rfl) c hc) j
  have hsl:=qaf m.letters
  have hrc:=qiT m.ranks hr
  have fX:=(cJ7 @hd @hw @kb2 @kb3 @hlen @qee @hsl)
  refine qaa qeg.eq_1 ?_
  refine W_gc ?_
  refine wR0 1500 [1,2,3,4,8,26] fX ?_
  refine wT @hd ?_
  refine wR0 1600 [1,2,3,4,8,9] fX ?_
  refine wR0 1700 [1,2,3,4,8,9,32] fX ?_
  refine wF fX ?_
  refine wR0 1900 [1,2,3,4,8,9,38] fX ?_
  refine wF fX ?_
  refine wR0 2100 [1,2,3,4,8] fX ?_
  refine wR0 2200 [1,2,3,4,8] fX ?_
  refine wN ?_
  refine qaP [0,1,104,106,204] (by simp[inL]) (by simp[inL,T.cl]) (by simp[qan,inL,Slot.cl,T.cl,clL,qap,hcl]) ?_
  have:=ih (j+1) (by omega) hQ
  have hm:(j+1+1)*4=(j+1)*4+4:=(by omega)
  simp only[rowC,hm] at this
  rw[show rowC (labN S) c j++c=rowC (labN S) c j++[T.int .i64 1,.int .i64 0,.nil,.nil] from by rw[←hcd]] at this
  simpa [qan,inL,hL] using this
set_option maxHeartbeats 8000000 in
theorem qkp (m:Md)(hm:m.sane):TP Tryz.prog 65 [qas m] (qax (qbb m)):=by
 have tk:∀(c:Int),(m.kind==c)=true→m.kind=c:=fun c h=>by simpa using h
 have fk:∀(c:Int),(m.kind==c)=false→m.kind≠c:=fun c h=>by simpa using h
 have ha:=hm.age
 have hw:IntKind.wrap .i64 (m.age+2)=m.age+2:=wrap64 (by omega) (by omega)
 have e4:m.kind=4→qbb m=qaS [qaM m.states.length,qdJ m.letters.length m.levels]:=fun h=>by rw[qbb,if_pos h]
 have e5:m.kind=5→qbb m=qaS [qaM m.states.length,qbf 5 (.mk 3 0 [] [qaM m.places.length,qaM (m.age+2)])]:=fun h=>by rw[qbb,if_neg (by omega),if_pos h]
 have eo:m.kind≠4→m.kind≠5→qbb m=qaS (qdC (qaM m.states.length) (qdy m) m.places.length):=fun h h'=>by rw[qbb,if_neg h,if_neg h']
 have hkc:m.kind≠4→m.kind≠5→m.kind=2∨m.kind=3∨(m.kind≠2∧m.kind≠3):=fun _ _=>by omega
 have hs1:=qaf m.states
 have hs2:=qaf m.letters
 have hw1:IntKind.wrap .i64 ((1:Int)+1)=2:=rfl
 have hd11:decide ((1:Int)<1)=false:=rfl
 have hd12:decide ((1:Int)<2)=true:=rfl
 have hd22:decide ((2:Int)<2)=false:=rfl
 by_cases k4:m.kind=4
 ·have k4b:(m.kind==4)=true:=by simp[k4]
  rcases hm.lev k4 with hlev | hlev
  ·have fX:=(cJ8 @hw @qee @qhd @hs1 @hs2 @k4b @hlev @hd11)
   refine qah fn65 (by simp) ?_
   unfold i65
   simp only[argL,qas,mdC]
   refine wR0 0 [1,2] fX ?_
   refine wR0 100 [1,2,3] fX ?_
   refine wR0 200 [1,2,3,4] fX ?_
   refine wR0 300 [1,2,3,4,21] fX ?_
   refine wR0 400 [1,2,3,4,21,52] fX ?_
   refine wT fX ?_
   refine wR0 500 [1,2,3,4,5] fX ?_
   refine wR0 600 [1,2,3,4,5,6] fX ?_
   refine wL ?_
   refine qaa ql4.eq_1 ?_
   refine wR0 700 [1,2,3,4,5,6,58] fX ?_
   refine wF fX ?_
   refine wX ?_
   refine wR0 1000 [2,3] fX ?_
   refine wR0 2300 [2] fX ?_
   refine wP ?_
   rw[e4 k4,hlev];refine eG ?_;(try simp only[qbE,qaM,qbf,qaS,qax,qaj,qaw]);(first | exact fF | exact fZt)
  ·have fX:=(cJ8 @hw @qee @qhd @hs1 @hs2 @k4b @hlev (cJ3 @hd12 @hd22 @hw1))
   refine qah fn65 (by simp) ?_
   unfold i65
   simp only[argL,qas,mdC]
   refine wR0 0 [1,2] fX ?_
   refine wR0 100 [1,2,3] fX ?_
   refine wR0 200 [1,2,3,4] fX ?_
   refine wR0 300 [1,2,3,4,21] fX ?_
   refine wR0 400 [1,2,3,4,21,52] fX ?_
   refine wT fX ?_
   refine wR0 500 [1,2,3,4,5] fX ?_
   refine wR0 600 [1,2,3,4,5,6] fX ?_
   refine wL ?_
   refine qaa ql4.eq_1 ?_
   refine wR0 700 [1,2,3,4,5,6,58] fX ?_
   refine wT fX ?_
   refine wR0 800 [1,2,3,4,5,6] fX ?_
   refine wR0 900 [1,2,3,4,5,6] fX ?_
   refine wN ?_
   refine qaa ql4.eq_1 ?_
   refine wR0 700 [1,2,3,4,5,6,58] fX ?_
   refine wF fX ?_
   refine wX ?_
   refine wR0 1000 [2,3] fX ?_
   refine wR0 2300 [2] fX ?_
   refine wP ?_
   rw[e4 k4,hlev];refine eG ?_;(try simp only[qbP,qaM,qbf,qaS,qax,qaj,qaw]);(first | exact fF | exact fZt)
 ·have k4b:(m.kind==4)=false:=by simp[k4]
  by_cases k5:m.kind=5
  ·have k5b:(m.kind==5)=true:=by simp[k5]
   have hs3:=qaf m.places
   have fX:=(cJ8 @hw @qee @qhd @hs1 @hs2 @hs3 @k4b @k5b)
   refine qah fn65 (by simp) ?_
   unfold i65
   simp only[argL,qas,mdC]
   refine wR0 0 [1,2] fX ?_
   refine wR0 100 [1,2,3] fX ?_
   refine wR0 200 [1,2,3,4] fX ?_
   refine wR0 300 [1,2,3,4,21] fX ?_
   refine wR0 400 [1,2,3,4,21,52] fX ?_
   refine wF fX ?_
   refine wR0 1100 [1,2,3,4,75] fX ?_
   refine wT fX ?_
   refine wR0 1200 [2,3,7] fX ?_
   refine wR0 1300 [2,3] fX ?_
   refine wR0 2300 [2] fX ?_
   refine wP ?_
   rw[e5 k5];refine eG ?_;(try simp only[qaM,qbf,qaS,qax,qaj,qaw]);(first | exact fF | exact fZt)
  ·have k5b:(m.kind==5)=false:=by simp[k5]
   have fX:=(cJ7 @hw @qee @qhd @hs1 @hs2 @k4b @k5b)
   refine qah fn65 (by simp) ?_
   unfold i65
   simp only[argL,qas,mdC]
   refine wR0 0 [1,2] fX ?_
   refine wR0 100 [1,2,3] fX ?_
   refine wR0 200 [1,2,3,4] fX ?_
   refine wR0 300 [1,2,3,4,21] fX ?_
   refine wR0 400 [1,2,3,4,21,52] fX ?_
   refine wF fX ?_
   refine wR0 1100 [1,2,3,4,75] fX ?_
   refine wF fX ?_
   refine wN ?_
   rcases hkc k4 k5 with h2 | h2 | h2
   ·skip
    refine wR0 1400 [1,2,3,4,8] fX ?_
    refine wL ?_
    first | (have q2:m.kind=2:=h2;refine qdR m _ (show qcM m=_ from by simp[qcM,h2]) (by simp[h2]) (by simp[h2]) (m.states.length:Int) (m.letters.length:Int) rfl hm.fit.places hm.fit.ranks _ m.places.length 0 (by omega) ?_) | (have q2:m.kind=3:=h2;refine qdS m _ (show qcM m=_ from by simp[qcM,h2]) (by simp[h2]) (by simp[h2]) (m.states.length:Int) (m.letters.length:Int) rfl hm.fit.places hm.fit.ranks _ m.places.length 0 (by omega) ?_) | (have q2:m.kind≠2∧m.kind≠3:=h2;refine qdQ m _ (show qcM m=_ from by simp[qcM,h2]) (by simp[h2]) (by simp[h2]) (m.states.length:Int) (m.letters.length:Int) rfl hm.fit.places hm.fit.ranks _ m.places.length 0 (by omega) ?_)
    ·intro i
     refine wN ?_
     refine wR0 2300 [2] fX ?_
     refine wP ?_
     rw[eo k4 k5];refine eG ?_;(try simp only[qaS,qax,qaw]);exact Frz.aggL (FrzL.cons (.same rfl) (FrzL.cons (.same rfl) (FrzL.cons .nil (FrzL.cons (qbY _ rfl rfl rfl rfl (qg4 m) (qiM _) (qg3 m)) FrzL.nil)))) (by rfl)
   ·skip
    refine wR0 1400 [1,2,3,4,8] fX ?_
    refine wL ?_
    first | (have q2:m.kind=2:=h2;refine qdR m _ (show qcM m=_ from by simp[qcM,h2]) (by simp[h2]) (by simp[h2]) (m.states.length:Int) (m.letters.length:Int) rfl hm.fit.places hm.fit.ranks _ m.places.length 0 (by omega) ?_) | (have q2:m.kind=3:=h2;refine qdS m _ (show qcM m=_ from by simp[qcM,h2]) (by simp[h2]) (by simp[h2]) (m.states.length:Int) (m.letters.length:Int) rfl hm.fit.places hm.fit.ranks _ m.places.length 0 (by omega) ?_) | (have q2:m.kind≠2∧m.kind≠3:=h2;refine qdQ m _ (show qcM m=_ from by simp[qcM,h2]) (by simp[h2]) (by simp[h2]) (m.states.length:Int) (m.letters.length:Int) rfl hm.fit.places hm.fit.ranks _ m.places.length 0 (by omega) ?_)
    ·intro i
     refine wN ?_
     refine wR0 2300 [2] fX ?_
     refine wP ?_
     rw[eo k4 k5];refine eG ?_;(try simp only[qaS,qax,qaw]);exact Frz.aggL (FrzL.cons (.same rfl) (FrzL.cons (.same rfl) (FrzL.cons .nil (FrzL.cons (qbY _ rfl rfl rfl rfl (qg4 m) (qiM _) (qg3 m)) FrzL.nil)))) (by rfl)
   ·skip
    refine wR0 1400 [1,2,3,4,8] fX ?_
    refine wL ?_
    first | (have q2:m.kind=2:=h2;refine qdR m _ (show qcM m=_ from by simp[qcM,h2]) (by simp[h2]) (by simp[h2]) (m.states.length:Int) (m.letters.length:Int) rfl hm.fit.places hm.fit.ranks _ m.places.length 0 (by omega) ?_) | (have q2:m.kind=3:=h2;refine qdS m _ (show qcM m=_ from by simp[qcM,h2]) (by simp[h2]) (by simp[h2]) (m.states.length:Int) (m.letters.length:Int) rfl hm.fit.places hm.fit.ranks _ m.places.length 0 (by omega) ?_) | (have q2:m.kind≠2∧m.kind≠3:=h2;refine qdQ m _ (show qcM m=_ from by simp[qcM,h2]) (by simp[h2]) (by simp[h2]) (m.states.length:Int) (m.letters.length:Int) rfl hm.fit.places hm.fit.ranks _ m.places.length 0 (by omega) ?_)
    ·intro i
     refine wN ?_
     refine wR0 2300 [2] fX ?_
     refine wP ?_
     rw[eo k4 k5];refine eG ?_;(try simp only[qaS,qax,qaw]);exact Frz.aggL (FrzL.cons (.same rfl) (FrzL.cons (.same rfl) (FrzL.cons .nil (FrzL.cons (qbY _ rfl rfl rfl rfl (qg4 m) (qiM _) (qg3 m)) FrzL.nil)))) (by rfl)
end
end Go.Proofs.YtoeeppojakbciaaGreat
