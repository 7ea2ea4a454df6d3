/- Contracts of functions of the program, for all arguments that they name. -/
import Derived.Test.YtncpdpbpcnoeeaaGreatK16
namespace Go.Proofs.YtncpdpbpcnoeeaaGreat
set_option linter.unusedVariables false
section
open Go.RowKit
set_option maxHeartbeats 2000000
attribute [local simp] qaW qae qaV
theorem eqi_l (a b:List Int)(hl:a.length≤1000000)(hab:a.length=b.length)(Q:IExit→(Nat→T)→Heap→Prop):∀(k i:Nat),i+k=a.length→
 (allI (fun j=>decide (a.getD j 0=b.getD j 0)) i k=true→∀j:Int,Q (.exit 0) (ofL [(0,.list (qab a)),(1,.list (qab b)),(12,.int .i64 (qab a).length),(13,.int .i64 j),(14,.bool false)]) (hpL []))→
 (allI (fun j=>decide (a.getD j 0=b.getD j 0)) i k=false→Q .ret (ofL [(4,.bool false)]) (hpL []))→
 WL Tryz.prog 26 qfo (ofL [(0,.list (qab a)),(1,.list (qab b)),(12,.int .i64 (qab a).length),(13,.int .i64 i)]) (hpL []) Q:=by
 skip
 intro k
 induction k with
 | zero=>
  intro i hk hQ0 hQ1
  have hd:decide ((i:Int)<((qab a).length:Int))=false:=decide_eq_false (by rw[qac];omega)
  have fX:=@hd
  refine qaa qfo.eq_1 ?_
  refine wR0 400 [0,1,12,13,14] fX ?_
  refine wF @hd ?_
  refine wX ?_
  refine wN ?_
  exact hQ0 rfl _
 | succ k ih=>
  intro i hk hQ0 hQ1
  have hlt:(i:Int)<((qab a).length:Int):=by rw[qac];omega
  have hd:decide ((i:Int)<((qab a).length:Int))=true:=decide_eq_true hlt
  have hw:IntKind.wrap .i64 ((i:Int)+1)=((i+1:Nat):Int):=by rw[wrap64 (by omega) (by omega)];rfl
  have hga:=qaE a i (by omega);have hgb:=qaE b i (by omega);have hlb:(i:Int)<((qab b).length:Int):=by rw[qac];omega
  have fX:=(cJ4 @hd @hw @hga @hgb)
  refine qaa qfo.eq_1 ?_
  refine wR0 400 [0,1,12,13,14] fX ?_
  refine wT @hd ?_
  refine wR0 500 [0,1,5,12,13] fX ?_
  refine wR0 600 [0,1,12,13,24] fX ?_
  refine wS cJ0 (fun hc600=>?_) (fun hc600=>?_)
  ·skip
   refine wR0 700 [4] fX ?_
   refine wE ?_
   refine wN ?_
   simp at hc600
   exact hQ1 (by simp[allI,hc600])
  ·skip
   refine wR0 800 [0,1,12,13] fX ?_
   refine wN ?_
   simp at hc600
   have e:allI (fun j=>decide (a.getD j 0=b.getD j 0)) i (k+1)=allI (fun j=>decide (a.getD j 0=b.getD j 0)) (i+1) k:=(by simp[allI,hc600])
   rw[e] at hQ0 hQ1
   exact ih (i+1) (by omega) hQ0 hQ1
theorem qpA (a b:List Int)(h:a.length=b.length):allI (fun j=>decide (a.getD j 0=b.getD j 0)) 0 a.length=decide (a=b):=by
 rw[Bool.eq_iff_iff,qbC]
 simp only[decide_eq_true_eq]
 constructor
 ·intro hh
  apply List.ext_getElem h
  intro i h1 h2
  have:=hh i (Nat.zero_le _) (by omega)
  simpa [List.getD_eq_getElem?_getD,h1,h2] using this
 ·rintro rfl _ _ _;rfl
theorem qp5 (a b:List Int)(hl:a.length≤1000000)(hm:b.length≤1000000):TP Tryz.prog 90 [.list (qab a),.list (qab b)] (.bool (decide (a=b))):=by
 have ha:=qac a
 have hb:=qac b
 by_cases hab:a.length=b.length
 ·have e:=qpA a b hab
  have hd:(!decide (((qab a).length:Int)=((qab b).length:Int)))=false:=by rw[ha,hb,hab];simp
  have fX:=@hd
  refine qai fn90 (by simp) ?_
  unfold i90
  simp only[argL]
  refine wR0 0 [0,1] fX ?_
  refine wR0 100 [0,1,10] fX ?_
  refine wF @hd ?_
  refine wR0 300 [0,1,12,13] fX ?_
  refine wL ?_
  refine eqi_l a b hl hab _ a.length 0 (by omega) ?_ ?_
  ·intro h i
   refine wN ?_
   refine wR0 900 [4] fX ?_
   refine wP ?_
   exact qad (by rw[←e];exact h.symm)
  ·intro h
   refine wN ?_
   exact⟨by simp,_,rfl,by exact qad (by rw[←e];exact h.symm)⟩
 ·have hd:(!decide (((qab a).length:Int)=((qab b).length:Int)))=true:=by rw[ha,hb];simp;omega
  have fX:=@hd
  refine qai fn90 (by simp) ?_
  unfold i90
  simp only[argL]
  refine wR0 0 [0,1] fX ?_
  refine wR0 100 [0,1,10] fX ?_
  refine wT @hd ?_
  refine wR0 200 [4] fX ?_
  refine wP ?_
  exact qad (by rw[decide_eq_false];intro h;exact hab (by rw[h]))
abbrev sMg (m:Md):Slot:=.live ⟨33,mdC m⟩
abbrev sGr (l:List Nn)(next:Int):Slot:=.live ⟨37,grT 700 l next⟩
abbrev gwH (m:Md)(l:List Nn)(next:Int):List (Nat×Slot):=[(700,sG l),(702,sGr l next),(0,sMg m),(1,.live ⟨38,[.int .i64 0]⟩)]
abbrev gwN (m:Md)(l:List Nn)(next:Int)(n:Nn):List (Nat×Slot):=gwH m l next++[(7,.live ⟨55,nnC n⟩)]
abbrev gwE (m:Md)(x5 x6 x8 x38 x40:T):List (Nat×T):=[(0,qaA m),(1,.ref 702 2 0),(2,.ref 0 10 0),(4,.ref 1 1 0),(5,x5),(6,x6),(8,x8),(38,x38),(40,x40)]
theorem qpK (m:Md)(l:List Nn)(next:Int)(Q:IExit→(Nat→T)→Heap→Prop)(hQ:Q .normal (ofL (gwE m .undef .undef .undef .undef .undef)) (hpL (gwH m l next))) :
 W Tryz.prog 101 qpW (ofL (argL 0 [qaA m,.ref 702 2 0])) (hpL [(700,sG l),(702,sGr l next)]) Q:=by
 simp only[argL,gwE,gwH,qaA,mdC] at hQ ⊢
 unfold qpW
 refine wR0 0 [0,1,2,4,5,6,8,38,40] cJ0 ?_
 refine wN ?_
 exact hQ
theorem qpL (m:Md)(l:List Nn)(next:Int)(x5 x6 x8 x38 x40:T)(Q:IExit→(Nat→T)→Heap→Prop)(hQ:Q .normal (ofL (gwE m (.int .i64 next) x6 x8 x38 x40)) (hpL (gwH m l next))) :
 W Tryz.prog 101 qpX (ofL (gwE m x5 x6 x8 x38 x40)) (hpL (gwH m l next)) Q:=by
 simp only[gwE,gwH,qaA,mdC] at hQ ⊢
 unfold qpX
 refine wR0 0 [0,1,2,4,5,6,8,38,40] cJ0 ?_
 refine wN ?_
 exact hQ
theorem qku (l:List Nn)(j:Nat)(h:j<l.length):List.take 4 (List.drop (j*4) (qb6 l))=nnC (l.getD j default):=by
 have hl:=qbU l
 apply List.ext_getElem
 ·simp[hl,nnC];omega
 ·intro k h1 h2
  have hk:k<4:=by simpa [nnC] using h2
  have:=qfg l j k h hk
  rw[List.getD_eq_getElem?_getD,List.getD_eq_getElem?_getD (l:=nnC _),List.getElem?_eq_getElem (by omega),List.getElem?_eq_getElem h2] at this
  simp only[Option.getD_some] at this
  rw[←this]
  simp
theorem qpM (m:Md)(l:List Nn)(j:Nat)(hj:j<l.length)(x6 x8 x38 x40:T)(Q:IExit→(Nat→T)→Heap→Prop)(hQ:Q .normal (ofL (gwE m (.int .i64 j) (.ref 7 4 0) x8 x38 x40)) (hpL (gwN m l j (l.getD j default)))) :
 W Tryz.prog 101 qpY (ofL (gwE m (.int .i64 j) x6 x8 x38 x40)) (hpL (gwH m l j)) Q:=by
 have hlt:(j:Int)<(l.length:Int):=by omega
 have hlen:=qbU l
 have hr:=qku l j hj
 have hj4:((j:Nat):Int).toNat*4=j*4:=by simp
 simp only[gwE,gwH,gwN,nnC,qaA,mdC,List.cons_append,List.nil_append] at hQ hr ⊢
 have fX:=(cJ4 @hlt @hlen @hr @hj4)
 unfold qpY
 refine wR0 0 [0,1,2,4,5,6,8,38,40] fX ?_
 refine wN ?_
 exact hQ
theorem qpN (m:Md)(l:List Nn)(j:Nat)(hj:j<100000)(n:Nn)(x8 x38 x40:T)(Q:IExit→(Nat→T)→Heap→Prop)(hQ:Q .normal (ofL (gwE m (.int .i64 j) (.ref 7 4 0) x8 x38 x40)) (hpL (gwN m l (j+1:Nat) n))) :
 W Tryz.prog 101 qpZ (ofL (gwE m (.int .i64 j) (.ref 7 4 0) x8 x38 x40)) (hpL (gwN m l j n)) Q:=by
 have hw:IntKind.wrap .i64 ((j:Int)+1)=((j+1:Nat):Int):=by rw[wrap64 (by omega) (by omega)];rfl
 simp only[gwE,gwH,gwN,nnC,qaA,mdC,List.cons_append,List.nil_append] at hQ ⊢
 have fX:=@hw
 unfold qpZ
 refine wR0 0 [0,1,2,4,5,6,8,38,40] fX ?_
 refine wN ?_
 exact hQ
theorem qpO (m:Md)(l:List Nn)(next:Int)(j:Int)(n:Nn)(x8 x38 x40:T)(Q:IExit→(Nat→T)→Heap→Prop)(hQ:Q .normal (ofL (gwE m (.int .i64 j) (.ref 7 4 0) x8 (.fn 151 (qeB 700 l next n.par n.st)) x40)) (hpL (gwN m l next n))) :
 W Tryz.prog 101 qp0 (ofL (gwE m (.int .i64 j) (.ref 7 4 0) x8 x38 x40)) (hpL (gwN m l next n)) Q:=by
 simp only[gwE,gwH,gwN,nnC,qaA,mdC,List.cons_append,List.nil_append] at hQ ⊢
 unfold qp0
 refine wRn 0 [0,1,2,4,5,6,8,38,40] cJ0 ?_
 refine rU [(700,sG l)] [(700,sG l)] cJ0 ?_
 refine⟨_,TC.full1 (up_tc l next n.par n.st),rE cJ0 ?_⟩
 refine wN ?_
 exact hQ
theorem qpP (m:Md)(l:List Nn)(next:Int)(j:Int)(n:Nn)(x8 x38 x40:T)(Q:IExit→(Nat→T)→Heap→Prop)(hQ:Q .normal (ofL (gwE m (.int .i64 j) (.ref 7 4 0) x40 x38 x40)) (hpL (gwN m l next n))) :
 W Tryz.prog 101 qp1 (ofL (gwE m (.int .i64 j) (.ref 7 4 0) x8 x38 x40)) (hpL (gwN m l next n)) Q:=by
 simp only[gwE,gwH,gwN,nnC,qaA,mdC,List.cons_append,List.nil_append] at hQ ⊢
 unfold qp1
 refine wR0 0 [0,1,2,4,5,6,8,38,40] cJ0 ?_
 refine wN ?_
 exact hQ
theorem qpQ (m:Md)(l:List Nn)(next:Int)(j:Int)(n:Nn)(a:List Int)(ha:a.length≤1000000)(hn:n.vec.length≤1000000)(x38 x40:T)(Q:IExit→(Nat→T)→Heap→Prop)
 (hQ0:a≠n.vec→∀env,Q .normal env (hpL (gwN m l next n))) (hQ1:a=n.vec→Q .ret (ofL [(4,.ref 1 1 0)]) (hpL (gwN m l next n))) :
 W Tryz.prog 101 qnQ (ofL (gwE m (.int .i64 j) (.ref 7 4 0) (.list (qab a)) x38 x40)) (hpL (gwN m l next n)) Q:=by
 have he:=qp5 a n.vec ha hn
 simp only[gwE,gwH,gwN,nnC,qaA,mdC,List.cons_append,List.nil_append] at hQ0 hQ1 ⊢
 by_cases h:a=n.vec
 ·have hb:decide (a=n.vec)=true:=decide_eq_true h
  rw[hb] at he
  unfold qnQ
  refine wRn 0 [0,1,2,4,5,6,8,38,40,44] cJ0 ?_
  refine rC cJ0 ?_
  refine⟨_,he,rE cJ0 ?_⟩
  refine wT cJ0 ?_
  refine wR0 100 [4] cJ0 ?_
  refine wE ?_
  refine wN ?_
  exact hQ1 h
 ·have hb:decide (a=n.vec)=false:=decide_eq_false h
  rw[hb] at he
  unfold qnQ
  refine wRn 0 [0,1,2,4,5,6,8,38,40,44] cJ0 ?_
  refine rC cJ0 ?_
  refine⟨_,he,rE cJ0 ?_⟩
  refine wF cJ0 ?_
  refine wN ?_
  exact hQ0 h _
end
section
open Go.RowKit
set_option maxHeartbeats 2000000
attribute [local simp] qaW qae qaV
theorem qhy (l:List Nn)(x:Nn):qb6 l++nnC x=qb6 (l++[x]):=by simp[qb6]
theorem Par.app {l:List Nn}(h:Par l)(x:Nn)(h1:-1≤x.par)(h2:x.par<l.length):Par (l++[x]):=by
 intro j hj
 rw[List.length_append,List.length_singleton] at hj
 by_cases hjl:j<l.length
 ·have e:(l++[x]).getD j default=l.getD j default:=by simp[List.getD_eq_getElem?_getD,List.getElem?_append_left hjl]
  rw[e];exact h j hjl
 ·have hjl:j=l.length:=by omega
  subst hjl
  have e:(l++[x]).getD l.length default=x:=by simp[List.getD_eq_getElem?_getD]
  rw[e];exact⟨h1,h2⟩
def qbv (at_:Nat)(s:Int)(v:List Int):List Rl→Nat→List Nn→Int×List Nn
 | [],_,l=>(0,l)
 | r::rs,i,l=>if qdS r s v=true then (if aftO r v=true∧l.length<256 then qbv at_ s v rs (i+1) (l++[⟨r.to_,qaZ (upV l r.to_ at_) (aftR r v),at_,i⟩]) else (1,l)) else qbv at_ s v rs (i+1) l
structure TreeOk (n:Nat) (l:List Nn):Prop where
 par:Par l
 len:l.length≤256
 vec:∀j,j<l.length→(l.getD j default).vec.length=n
theorem TreeOk.app {n:Nat}{l:List Nn}(h:TreeOk n l)(x:Nn)(h1:-1≤x.par)(h2:x.par<l.length)(h3:l.length<256)(h4:x.vec.length=n):TreeOk n (l++[x]):=by
 refine⟨h.par.app x h1 h2,by simp;omega,fun j hj=>?_⟩
 rw[List.length_append,List.length_singleton] at hj
 by_cases hjl:j<l.length
 ·have e:(l++[x]).getD j default=l.getD j default:=by simp[List.getD_eq_getElem?_getD,List.getElem?_append_left hjl]
  rw[e];exact h.vec j hjl
 ·have hjl:j=l.length:=by omega
  subst hjl
  have e:(l++[x]).getD l.length default=x:=by simp[List.getD_eq_getElem?_getD]
  rw[e];exact h4
theorem qkG (vs:List (List Int))(v:List Int):(qaZ vs v).length=v.length:=qgj vs _ v
abbrev gwL (m:Md)(l:List Nn)(next:Int)(n:Nn)(e:Int):List (Nat×Slot):=[(700,sG l),(702,sGr l next),(0,sMg m),(1,.live ⟨38,[.int .i64 e]⟩),(7,.live ⟨55,nnC n⟩)]
abbrev gwF (m:Md)(at_:Nat)(i:Int):List (Nat×T):=[(1,.ref 702 2 0),(4,.ref 1 1 0),(5,.int .i64 at_),(6,.ref 7 4 0),(46,.list (qaC m.rules)),(47,.int .i64 (qaC m.rules).length),(48,.int .i64 i)]
theorem qoq (r:Rl):Ones (rlC r):=fun c hc=>by
 simp only[rlC,List.mem_cons,List.not_mem_nil,or_false] at hc
 rcases hc with rfl | rfl | rfl | rfl | rfl | rfl | rfl | rfl | rfl | rfl | rfl | rfl | rfl | rfl<;>rfl
set_option maxHeartbeats 8000000 in
theorem qpJ (m:Md)(hm:m.rules.length≤1000000)(at_:Nat)(next:Int)(n:Nn)(hv:n.vec≠[])(hvl:n.vec.length≤1000000)(hr:∀r∈m.rules,RoomR r n.vec)(R:Int×List Nn)(Q:IExit→(Nat→T)→Heap→Prop)
 (hQ0:R.1=0→∀j:Int,Q (.exit 2) (ofL (gwF m at_ j++[(49,.bool false)])) (hpL (gwL m R.2 next n 0)))
 (hQ1:R.1=1→Q .ret (ofL [(4,.ref 1 1 0)]) (hpL (gwL m R.2 next n 1++[(203,.dead),(701,.dead)]))) :
 ∀(rs pre:List Rl) (l:List Nn),m.rules=pre++rs→TreeOk n.vec.length l→at_<l.length→qbv at_ n.st n.vec rs pre.length l=R→
 WL Tryz.prog 101 qcG (ofL (gwF m at_ pre.length)) (hpL (gwL m l next n 0)) Q:=by
 simp only[gwF,gwL,nnC,List.cons_append,List.nil_append] at hQ0 hQ1 ⊢
 intro rs
 induction rs with
 | nil=>
  intro pre l hp ht hat hR
  have hd:decide ((pre.length:Int)<((qaC m.rules).length:Int))=false:=decide_eq_false (by rw[qbo,hp];simp)
  rw[qbv] at hR
  subst hR
  have fX:=@hd
  refine qaa qcG.eq_1 ?_
  refine wR0 100 [1,4,5,6,46,47,48,49] fX ?_
  refine wF @hd ?_
  refine wX ?_
  refine wN ?_
  exact hQ0 rfl _
 | cons r rs ih=>
  intro pre l hp ht hat hR
  have hlt:(pre.length:Int)<((qaC m.rules).length:Int):=by rw[qbo,hp];simp;omega
  have hd:decide ((pre.length:Int)<((qaC m.rules).length:Int))=true:=decide_eq_true hlt
  have hpl:pre.length≤1000000:=by rw[hp] at hm;simp at hm;omega
  have hw:IntKind.wrap .i64 ((pre.length:Int)+1)=((pre.length+1:Nat):Int):=by rw[wrap64 (by omega) (by omega)];rfl
  have hg:(qaC m.rules).getD ((pre.length:Int)).toNat .undef=qaU r:=by rw[hp];exact qeh pre r rs
  have hrr:=hr r (by rw[hp];simp)
  have hft:=qpF r n.st n.vec hrr.need hvl
  have haf:=qnq r n.vec hv hvl hrr
  rw[qbv] at hR
  have hih:=fun l=>ih (pre++[r]) l (by rw[hp];simp)
  simp only[List.length_append,List.length_singleton] at hih
  cases hf:qdS r n.st n.vec with
  | false=>
   rw[hf] at hft
   rw[hf,if_neg (by simp)] at hR
   have hQ':=hih l ht hat hR
   simp only[qaU,rlC] at hg hft haf
   have fX:=(cJ3 @hd @hw @hg)
   refine qaa qcG.eq_1 ?_
   refine W_gc ?_
   refine wR0 100 [1,4,5,6,46,47,48,49] fX ?_
   refine wT @hd ?_
   refine wR0 200 [1,4,5,6,9,10,46,47,48] fX ?_
   refine wRn 300 [1,4,5,6,9,10,46,47,48,59] fX ?_
   refine rC fX ?_
   refine⟨_,hft,rE fX ?_⟩
   refine wT fX ?_
   refine wX ?_
   refine wR0 900 [1,4,5,6,46,47,48] fX ?_
   refine wN ?_
   refine qaT [700,702,0,1,7] (by simp[inL]) (by simp[inL,T.cl,qaV]) (by simp[qak,inL,Slot.cl,T.cl,clL,qaW,qae]) ?_
   simpa [qak,inL] using hQ'
  | true=>
   rw[hf] at hft
   rw[hf,if_pos rfl] at hR
   have hwl:(aftR r n.vec).length=n.vec.length:=qbB _ _
   rw[←hwl] at haf
   by_cases hc:aftO r n.vec=true∧l.length<256
   ·rw[if_pos hc] at hR
    have hap:=qhy l ⟨r.to_,qaZ (upV l r.to_ at_) (aftR r n.vec),at_,pre.length⟩
    have hlen:=qbU l
    have hrl:=qkG (upV l r.to_ at_) (aftR r n.vec)
    have hQ':=hih _ (ht.app ⟨r.to_,qaZ (upV l r.to_ at_) (aftR r n.vec),at_,pre.length⟩ (by simp) (by simpa using hat) hc.2 (by simp only;omega)) (by simp;omega) hR
    have hrc:=qok l ht.par (by intro e;rw[e] at hat;simp at hat) (by have:=ht.len;omega) next at_ r.to_ ⟨by omega,by omega⟩ (aftR r n.vec) (by omega) (fun j hj=>by rw[ht.vec j hj];omega)
    have hdc:decide ((l.length:Int)≥256)=false:=decide_eq_false (by omega)
    have hno:Ones [.int .i64 n.st,.list (qab n.vec),.int .i64 n.par,.int .i64 n.rule]:=fun c hc=>by simp only[List.mem_cons,List.not_mem_nil,or_false] at hc;rcases hc with rfl | rfl | rfl | rfl<;>rfl
    have hro:=qoq r
    generalize hW:qaZ (upV l r.to_ at_) (aftR r n.vec)=W at*
    rw[hc.1] at haf
    simp only[qaU,rlC,nnC] at hg hft haf hap hro
    have fX:=(cJ7 @hd @hw @hg @hdc @hap @qaK @hlen)
    refine qaa qcG.eq_1 ?_
    refine W_gc ?_
    refine wR0 100 [1,4,5,6,46,47,48,49] fX ?_
    refine wT @hd ?_
    refine wR0 200 [1,4,5,6,9,10,46,47,48] fX ?_
    refine wRn 300 [1,4,5,6,9,10,46,47,48,59] fX ?_
    refine rC fX ?_
    refine⟨_,hft,rE fX ?_⟩
    refine wF fX ?_
    refine wRn 400 [1,4,5,6,9,10,11,12,46,47,48] fX ?_
    refine rU [] [(701,sVv (aftR r n.vec))] fX ?_
    refine⟨_,haf,rE fX ?_⟩
    refine wR0 500 [1,4,5,6,9,10,11,46,47,48,76] fX ?_
    refine wF fX ?_
    refine wRn 700 [1,4,5,6,9,10,11,46,47,48] fX ?_
    refine rU [(700,sG l),(701,sVv (aftR r n.vec))] [(700,sG l),(701,sVv W)] fX ?_
    refine⟨_,TC.full2 hrc (by decide),rE fX ?_⟩
    simp only[thn]
    refine qkg (l':=[(1,.ref 702 2 0),(4,.ref 1 1 0),(5,.int .i64 at_),(6,.ref 7 4 0),(9,.int .i64 pre.length),(10,.ref 203 14 0),(11,.list (qab W)),(46,.list (qaC m.rules)),(47,.int .i64 (qaC m.rules).length),(48,.int .i64 pre.length)]) (hl':=[(700,sG l),(702,sGr l next),(0,sMg m),(1,_),(7,_),(203,_),(701,.dead)]) [700,702,0,1,7,203] (.cons (.same rfl) (.cons (.same rfl) (.cons (.same rfl) (.cons (.same rfl) (.cons (.same rfl) (.cons (.same rfl) (.cons (qlW W rfl rfl (by omega) (by omega)) (.cons (.same (by simp[T.cl])) (.cons (.same rfl) (.cons (.same rfl) .nil)))))))))) (.keep rfl (qoA l) (.keep rfl (.liveA rfl rfl) (.keep rfl (.liveS (qjJ _ m) (qdh m)) (.keep rfl (.liveA rfl rfl) (.keep rfl (.liveS (by simp[clL,T.cl]) hno) (.keep rfl (.liveS (by simp[clL,T.cl]) hro) (.dead rfl (fun h=>by cases h) .nil))))))) ?_
    refine wR0 800 [1,4,5,6,46,47,48] fX ?_
    refine wR0 900 [1,4,5,6,46,47,48] fX ?_
    refine wN ?_
    refine qaT [700,702,0,1,7] (by simp[inL]) (by simp[inL,T.cl,qaV]) (by simp[qak,inL,Slot.cl,T.cl,clL,qaW,qae]) ?_
    simpa [qak,inL,sGr,grT,Nat.add_mul] using hQ'
   ·rw[if_neg hc] at hR
    subst hR
    cases ok:aftO r n.vec with
    | false=>
     rw[ok] at haf
     have hno:Ones [.int .i64 n.st,.list (qab n.vec),.int .i64 n.par,.int .i64 n.rule]:=fun c hc=>by simp only[List.mem_cons,List.not_mem_nil,or_false] at hc;rcases hc with rfl | rfl | rfl | rfl<;>rfl
     simp only[qaU,rlC] at hg hft haf
     have fX:=(cJ3 @hd @hw @hg)
     refine qaa qcG.eq_1 ?_
     refine W_gc ?_
     refine wR0 100 [1,4,5,6,46,47,48,49] fX ?_
     refine wT @hd ?_
     refine wR0 200 [1,4,5,6,9,10,46,47,48] fX ?_
     refine wRn 300 [1,4,5,6,9,10,46,47,48,59] fX ?_
     refine rC fX ?_
     refine⟨_,hft,rE fX ?_⟩
     refine wF fX ?_
     refine wRn 400 [1,4,5,6,9,10,11,12,46,47,48] fX ?_
     refine rU [] [(701,sVv (aftR r n.vec))] fX ?_
     refine⟨_,haf,rE fX ?_⟩
     refine wR0 500 [1,4,5,6,9,10,11,46,47,48,76] fX ?_
     refine wT fX ?_
     refine wN ?_
     refine qkg (l':=[(1,.undef),(4,.ref 1 1 0),(5,.undef),(6,.undef),(9,.undef),(10,.undef),(11,.undef),(46,.undef),(47,.undef),(48,.undef),(76,.undef)]) (hl':=[(700,sG l),(702,sGr l next),(0,sMg m),(1,_),(7,_),(203,.dead),(701,.dead)]) [700,702,0,1,7] (.drop (.cons (.same rfl) (.drop (.drop (.drop (.drop (.drop (.drop (.drop (.drop (.drop .nil))))))))))) (.keep rfl (qoA l) (.keep rfl (.liveA rfl rfl) (.keep rfl (.liveS (qjJ _ m) (qdh m)) (.keep rfl (.liveA rfl rfl) (.keep rfl (.liveS (by simp[clL,T.cl]) hno) (.dead rfl (fun h=>by cases h) (.dead rfl (fun h=>by cases h) .nil))))))) ?_
     refine wR0 600 [4] fX ?_
     refine wE ?_
     refine wN ?_
     exact hQ1 rfl
    | true=>
     have hdc:decide ((l.length:Int)≥256)=true:=decide_eq_true (by have:¬l.length<256:=fun h=>hc ⟨ok,h⟩;omega)
     rw[ok] at haf
     have hno:Ones [.int .i64 n.st,.list (qab n.vec),.int .i64 n.par,.int .i64 n.rule]:=fun c hc=>by simp only[List.mem_cons,List.not_mem_nil,or_false] at hc;rcases hc with rfl | rfl | rfl | rfl<;>rfl
     simp only[qaU,rlC] at hg hft haf
     have fX:=(cJ4 @hd @hw @hg @hdc)
     refine qaa qcG.eq_1 ?_
     refine W_gc ?_
     refine wR0 100 [1,4,5,6,46,47,48,49] fX ?_
     refine wT @hd ?_
     refine wR0 200 [1,4,5,6,9,10,46,47,48] fX ?_
     refine wRn 300 [1,4,5,6,9,10,46,47,48,59] fX ?_
     refine rC fX ?_
     refine⟨_,hft,rE fX ?_⟩
     refine wF fX ?_
     refine wRn 400 [1,4,5,6,9,10,11,12,46,47,48] fX ?_
     refine rU [] [(701,sVv (aftR r n.vec))] fX ?_
     refine⟨_,haf,rE fX ?_⟩
     refine wR0 500 [1,4,5,6,9,10,11,46,47,48,76] fX ?_
     refine wT fX ?_
     refine wN ?_
     refine qkg (l':=[(1,.undef),(4,.ref 1 1 0),(5,.undef),(6,.undef),(9,.undef),(10,.undef),(11,.undef),(46,.undef),(47,.undef),(48,.undef),(76,.undef)]) (hl':=[(700,sG l),(702,sGr l next),(0,sMg m),(1,_),(7,_),(203,.dead),(701,.dead)]) [700,702,0,1,7] (.drop (.cons (.same rfl) (.drop (.drop (.drop (.drop (.drop (.drop (.drop (.drop (.drop .nil))))))))))) (.keep rfl (qoA l) (.keep rfl (.liveA rfl rfl) (.keep rfl (.liveS (qjJ _ m) (qdh m)) (.keep rfl (.liveA rfl rfl) (.keep rfl (.liveS (by simp[clL,T.cl]) hno) (.dead rfl (fun h=>by cases h) (.dead rfl (fun h=>by cases h) .nil))))))) ?_
     refine wR0 600 [4] fX ?_
     refine wE ?_
     refine wN ?_
     exact hQ1 rfl
end
end Go.Proofs.YtncpdpbpcnoeeaaGreat
