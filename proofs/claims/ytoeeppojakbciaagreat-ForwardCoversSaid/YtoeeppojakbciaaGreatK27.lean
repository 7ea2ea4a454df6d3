/- Contracts of functions of the program, for all arguments that they name. -/
import Derived.Test.YtoeeppojakbciaaGreatK25
import Derived.Test.YtoeeppojakbciaaGreatK26
namespace Go.Proofs.YtoeeppojakbciaaGreat
set_option linter.unusedVariables false
section
open Go.RowKit
set_option maxHeartbeats 2000000
attribute [local simp] qcl qae qa2 qaJ
def qcZ (id:Nat)(l:List Lm):T:=match l with
 | []=>.nil
 | _::l=>.sl id ((l.length+1)*2) 2 0 (l.length+1)
def qcY (id:Nat)(l:List Lm):List (Nat×Slot):=match l with
 | []=>[]
 | x::l=>[(id,.live ⟨62,qay (x::l)⟩)]
theorem qgE (ks:List Lm)(k:Lm):qay (ks++[k])=qay ks++[.int .i64 k.st,.list (qac k.vec)]:=by rw[qbC];rfl
def nLm (n:Nn):Lm:=⟨n.st,n.vec⟩
def wth (L:List Lm)(i k:Nat):Bool:=(k != i)&&((L.getD i default).st==(L.getD k default).st)&&vLe (L.getD i default).vec (L.getD k default).vec
def wthA (L:List Lm)(i:Nat):Bool:=(List.range L.length).any (wth L i)
def outP (L:List Lm)(n:Nat):List Lm:=((List.range n).filter fun i=>!wthA L i).map fun i=>L.getD i default
def outF (L:List Lm):List Lm:=outP L L.length
def limF (l:List Nn):List Lm:=outF (qcs (l.map nLm))
theorem qb8 (l:List Lm)(i:Nat)(h:i<l.length):(qaA l).getD (i:Int).toNat .undef=.agg [.int .i64 (l.getD i default).st,.list (qac (l.getD i default).vec)]:=by
 simp[qaA,List.getD_eq_getElem?_getD,h,qcp,lmC]
set_option maxHeartbeats 4000000 in
theorem lim_l0 (l:List Nn)(next:Int)(hl:l.length≤100000)(hv:∀j,j<l.length→(l.getD j default).vec≠[]∧(l.getD j default).vec.length≤1000000)(Q:IExit→(Nat→T)→Heap→Prop)
 (hQ:∀j:Int,Q (.exit 0) (ofL [(3,qcZ 508 (l.map nLm)),(4,.nil),(13,.list (qbj l)),(14,.int .i64 (qbj l).length),(15,.int .i64 j),(16,.bool false)]) (hpL ([(0,.live ⟨37,grC l next⟩)]++qcY 508 (l.map nLm)))) :
 ∀(f i:Nat) (done:List Lm),i+f=l.length→done=(l.take i).map nLm→
 WL Tryz.prog 76 qjy (ofL [(3,qcZ 508 done),(4,.nil),(13,.list (qbj l)),(14,.int .i64 (qbj l).length),(15,.int .i64 i)]) (hpL ([(0,.live ⟨37,grC l next⟩)]++qcY 508 done)) Q:=by
 simp only[grC,List.cons_append,List.nil_append] at hQ ⊢
 intro f
 induction f with
 | zero=>
  intro i done hk hdn
  have hd:decide ((i:Int)<((qbj l).length:Int))=false:=decide_eq_false (by rw[qby];omega)
  have e:done=l.map nLm:=by rw[hdn,List.take_of_length_le (by omega)]
  subst e
  have fX:=@hd
  refine qaa qjy.eq_1 ?_
  refine wR0 300 [3,4,13,14,15,16] fX ?_
  refine wF @hd ?_
  refine wX ?_
  refine wN ?_
  exact hQ _
 | succ f ih=>
  intro i done hk hdn
  have hil:i<l.length:=by omega
  have hlt:(i:Int)<((qbj l).length:Int):=by rw[qby];omega
  have hd:decide ((i:Int)<((qbj l).length:Int))=true:=decide_eq_true hlt
  have hw:IntKind.wrap .i64 ((i:Int)+1)=((i+1:Nat):Int):=by rw[wrap64 (by omega) (by omega)];rfl
  have hg:=qeN l i hil
  have hdl:done.length=i:=by rw[hdn,List.length_map,List.length_take];omega
  have hQ':=ih (i+1) (done++[nLm (l.getD i default)]) (by omega) (by rw[hdn,List.take_add_one,List.getElem?_eq_getElem hil];simp only[List.getD_eq_getElem?_getD,List.getElem?_eq_getElem hil,Option.getD_some,Option.toList_some,List.map_append,List.map_cons,List.map_nil])
  have hvi:=hv i hil
  generalize l.getD i default=n at*
  have hcl:=qmc n.vec hvi.1 hvi.2
  simp only[encN,nnC] at hg
  cases done with
  | nil=>
   simp only[qcZ,qcY,List.nil_append,nLm,qay,List.length_nil] at hQ' ⊢
   have fX:=(cJ4 @hd @hw @hg @qaK)
   refine qaa qjy.eq_1 ?_
   refine W_gc ?_
   refine wR0 300 [3,4,13,14,15,16] fX ?_
   refine wT @hd ?_
   refine wR0 400 [3,4,6,13,14,15] fX ?_
   refine wRn 500 [3,4,13,14,15] fX ?_
   refine rC fX ?_
   refine⟨_,hcl,rE fX ?_⟩
   refine wR0 600 [3,4,13,14,15] fX ?_
   refine wN ?_
   refine qaP [0,508] (by simp[inL]) (by simp[inL,T.cl]) (by simp[qan,inL,Slot.cl,T.cl,clL]) ?_
   simpa [qan,inL] using hQ'
  | cons z zs=>
   have hs:=qgE (z::zs) (nLm n)
   have hz:(qay (z::zs)).length=(zs.length+1)*2:=by rw[qa8];rfl
   have hzl:zs.length+1≤100000:=by simp at hdl;omega
   have hm2:(zs.length+1+1)*2=(zs.length+1)*2+2:=by omega
   simp only[qcZ,qcY,List.cons_append,List.length_append,List.length_cons,List.length_nil,Nat.zero_add] at hQ' hs ⊢
   rw[hs] at hQ'
   simp only[nLm,hm2] at hQ'
   have fX:=(cJ5 @hd @hw @hg @qaK @hz)
   refine qaa qjy.eq_1 ?_
   refine W_gc ?_
   refine wR0 300 [3,4,13,14,15,16] fX ?_
   refine wT @hd ?_
   refine wR0 400 [3,4,6,13,14,15] fX ?_
   refine wRn 500 [3,4,13,14,15] fX ?_
   refine rC fX ?_
   refine⟨_,hcl,rE fX ?_⟩
   refine wR0 600 [3,4,13,14,15] fX ?_
   refine wN ?_
   refine qaP [0,508] (by simp[inL]) (by simp[inL,T.cl]) (by simp[qan,inL,Slot.cl,T.cl,clL,qap]) ?_
   simpa [qan,inL] using hQ'
abbrev l2E (L:List Lm)(o4:T)(i:Nat)(b:Bool)(k:Int):List (Nat×T):=[(3,.list (qaA L)),(4,o4),(7,.int .i64 i),(8,.ref 1103 2 0),(9,.bool b),(33,.list (qaA L)),(34,.int .i64 (qaA L).length),(35,.int .i64 i),(40,.list (qaA L)),(41,.int .i64 (qaA L).length),(42,.int .i64 k)]
set_option maxHeartbeats 8000000 in
theorem lim_l2 (L:List Lm)(hL:L.length≤100000)(hv:∀j,j<L.length→(L.getD j default).vec.length≤1000000)(out:List Lm)(i:Nat)(hi:i<L.length)(Q:IExit→(Nat→T)→Heap→Prop)
 (hQ:∀k:Int,Q (.exit 4) (ofL (l2E L (qcZ 1903 out) i (wthA L i) k++[(43,.bool false)])) (hpL ([(0,.dead),(508,.dead)]++qcY 1903 out++[(1103,.live ⟨62,lmC (L.getD i default)⟩)]))) :
 ∀(f k:Nat) (b:Bool),k+f=L.length→b=(List.range k).any (wth L i)→
 WL Tryz.prog 76 qcR (ofL (l2E L (qcZ 1903 out) i b k)) (hpL ([(0,.dead),(508,.dead)]++qcY 1903 out++[(1103,.live ⟨62,lmC (L.getD i default)⟩)])) Q:=by
 have hva:=hv i hi
 obtain⟨a,ha⟩:∃a,L.getD i default=a:=⟨_,rfl⟩
 rw[ha] at hva hQ ⊢
 cases out with
 | nil=>
  simp only[l2E,qcZ,qcY,lmC,List.cons_append,List.nil_append,List.append_nil] at hQ ⊢
  intro f
  induction f with
  | zero=>
   intro k b hk hb
   have hd:decide ((k:Int)<((qaA L).length:Int))=false:=decide_eq_false (by rw[qaZ];omega)
   have e:b=wthA L i:=by rw[hb,wthA,show k=L.length by omega]
   rw[e]
   have fX:=@hd
   refine qaa qcR.eq_1 ?_
   refine wR0 1400 [3,4,7,8,9,33,34,35,40,41,42,43] fX ?_
   refine wF @hd ?_
   refine wX ?_
   refine wN ?_
   exact hQ _
  | succ f ih=>
   intro k b hk hb
   have hil:k<L.length:=by omega
   have hlt:(k:Int)<((qaA L).length:Int):=by rw[qaZ];omega
   have hd:decide ((k:Int)<((qaA L).length:Int))=true:=decide_eq_true hlt
   have hw:IntKind.wrap .i64 ((k:Int)+1)=((k+1:Nat):Int):=by rw[wrap64 (by omega) (by omega)];rfl
   have hg:=qb8 L k hil
   have hany:(List.range (k+1)).any (wth L i)=((List.range k).any (wth L i) || wth L i k):=by rw[List.range_succ,List.any_append];simp
   have hkn:(k != i)=((k:Int) != (i:Int)):=by rw[Bool.eq_iff_iff];simp;omega
   obtain⟨c,hc⟩:∃c,L.getD k default=c:=⟨_,rfl⟩
   have hvc:=hv k hil
   rw[hc] at hg hvc
   have hle:=qi5 a.vec c.vec hva hvc
   cases b with
   | true=>
    have hQ':=ih (k+1) true (by omega) (by rw[hany,←hb];rfl)
    rcases hki:((k:Int) != (i:Int)) with _ | _
    ·have fX:=(cJ4 @hd @hw @hg @hki)
     refine qaa qcR.eq_1 ?_
     refine W_gc ?_
     refine wR0 1400 [3,4,7,8,9,33,34,35,40,41,42,43] fX ?_
     refine wT @hd ?_
     refine wR0 1500 [3,4,7,8,9,10,11,33,34,35,40,41,42] fX ?_
     refine wR0 1600 [3,4,7,8,9,33,34,35,40,41,42] fX ?_
     refine wR0 1700 [3,4,7,8,9,33,34,35,40,41,42] fX ?_
     refine wN ?_
     refine qaP [0,508,1103] (by simp[inL]) (by simp[inL,T.cl]) (by simp[qan,inL,Slot.cl,T.cl,clL]) ?_
     simpa [qan,inL] using hQ'
    ·have fX:=(cJ4 @hd @hw @hg @hki)
     refine qaa qcR.eq_1 ?_
     refine W_gc ?_
     refine wR0 1400 [3,4,7,8,9,33,34,35,40,41,42,43] fX ?_
     refine wT @hd ?_
     refine wR0 1500 [3,4,7,8,9,10,11,33,34,35,40,41,42] fX ?_
     refine wR0 1600 [3,4,7,8,9,33,34,35,40,41,42] fX ?_
     refine wR0 1700 [3,4,7,8,9,33,34,35,40,41,42] fX ?_
     refine wN ?_
     refine qaP [0,508,1103] (by simp[inL]) (by simp[inL,T.cl]) (by simp[qan,inL,Slot.cl,T.cl,clL]) ?_
     simpa [qan,inL] using hQ'
   | false=>
    rcases hki:((k:Int) != (i:Int)) with _ | _
    ·have hQ':=ih (k+1) false (by omega) (by rw[hany,←hb,wth,hkn,hki];rfl)
     have fX:=(cJ4 @hd @hw @hg @hki)
     refine qaa qcR.eq_1 ?_
     refine W_gc ?_
     refine wR0 1400 [3,4,7,8,9,33,34,35,40,41,42,43] fX ?_
     refine wT @hd ?_
     refine wR0 1500 [3,4,7,8,9,10,11,33,34,35,40,41,42] fX ?_
     refine wR0 1600 [3,4,7,8,9,33,34,35,40,41,42] fX ?_
     refine wR0 1700 [3,4,7,8,9,33,34,35,40,41,42] fX ?_
     refine wN ?_
     refine qaP [0,508,1103] (by simp[inL]) (by simp[inL,T.cl]) (by simp[qan,inL,Slot.cl,T.cl,clL]) ?_
     simpa [qan,inL] using hQ'
    ·rcases hse:(a.st==c.st) with _ | _
     ·have hQ':=ih (k+1) false (by omega) (by rw[hany,←hb,wth,hkn,hki,ha,hc,hse];rfl)
      have fX:=(cJ5 @hd @hw @hg @hki @hse)
      refine qaa qcR.eq_1 ?_
      refine W_gc ?_
      refine wR0 1400 [3,4,7,8,9,33,34,35,40,41,42,43] fX ?_
      refine wT @hd ?_
      refine wR0 1500 [3,4,7,8,9,10,11,33,34,35,40,41,42] fX ?_
      refine wR0 1600 [3,4,7,8,9,33,34,35,40,41,42] fX ?_
      refine wR0 1700 [3,4,7,8,9,33,34,35,40,41,42] fX ?_
      refine wN ?_
      refine qaP [0,508,1103] (by simp[inL]) (by simp[inL,T.cl]) (by simp[qan,inL,Slot.cl,T.cl,clL]) ?_
      simpa [qan,inL] using hQ'
     ·have hQ':=ih (k+1) (vLe a.vec c.vec) (by omega) (by rw[hany,←hb,wth,hkn,hki,ha,hc,hse];rfl)
      have fX:=(cJ5 @hd @hw @hg @hki @hse)
      refine qaa qcR.eq_1 ?_
      refine W_gc ?_
      refine wR0 1400 [3,4,7,8,9,33,34,35,40,41,42,43] fX ?_
      refine wT @hd ?_
      refine wR0 1500 [3,4,7,8,9,10,11,33,34,35,40,41,42] fX ?_
      refine wRn 1600 [3,4,7,8,9,33,34,35,40,41,42] fX ?_
      refine rC fX ?_
      refine⟨_,hle,rE fX ?_⟩
      refine wR0 1700 [3,4,7,8,9,33,34,35,40,41,42] fX ?_
      refine wN ?_
      refine qaP [0,508,1103] (by simp[inL]) (by simp[inL,T.cl]) (by simp[qan,inL,Slot.cl,T.cl,clL]) ?_
      simpa [qan,inL] using hQ'
 | cons z zs=>
  simp only[l2E,qcZ,qcY,lmC,List.cons_append,List.nil_append] at hQ ⊢
  intro f
  induction f with
  | zero=>
   intro k b hk hb
   have hd:decide ((k:Int)<((qaA L).length:Int))=false:=decide_eq_false (by rw[qaZ];omega)
   have e:b=wthA L i:=by rw[hb,wthA,show k=L.length by omega]
   rw[e]
   have fX:=@hd
   refine qaa qcR.eq_1 ?_
   refine wR0 1400 [3,4,7,8,9,33,34,35,40,41,42,43] fX ?_
   refine wF @hd ?_
   refine wX ?_
   refine wN ?_
   exact hQ _
  | succ f ih=>
   intro k b hk hb
   have hil:k<L.length:=by omega
   have hlt:(k:Int)<((qaA L).length:Int):=by rw[qaZ];omega
   have hd:decide ((k:Int)<((qaA L).length:Int))=true:=decide_eq_true hlt
   have hw:IntKind.wrap .i64 ((k:Int)+1)=((k+1:Nat):Int):=by rw[wrap64 (by omega) (by omega)];rfl
   have hg:=qb8 L k hil
   have hany:(List.range (k+1)).any (wth L i)=((List.range k).any (wth L i) || wth L i k):=by rw[List.range_succ,List.any_append];simp
   have hkn:(k != i)=((k:Int) != (i:Int)):=by rw[Bool.eq_iff_iff];simp;omega
   obtain⟨c,hc⟩:∃c,L.getD k default=c:=⟨_,rfl⟩
   have hvc:=hv k hil
   rw[hc] at hg hvc
   have hle:=qi5 a.vec c.vec hva hvc
   cases b with
   | true=>
    have hQ':=ih (k+1) true (by omega) (by rw[hany,←hb];rfl)
    rcases hki:((k:Int) != (i:Int)) with _ | _
    ·have fX:=(cJ4 @hd @hw @hg @hki)
     refine qaa qcR.eq_1 ?_
     refine W_gc ?_
     refine wR0 1400 [3,4,7,8,9,33,34,35,40,41,42,43] fX ?_
     refine wT @hd ?_
     refine wR0 1500 [3,4,7,8,9,10,11,33,34,35,40,41,42] fX ?_
     refine wR0 1600 [3,4,7,8,9,33,34,35,40,41,42] fX ?_
     refine wR0 1700 [3,4,7,8,9,33,34,35,40,41,42] fX ?_
     refine wN ?_
     refine qaP [0,508,1903,1103] (by simp[inL]) (by simp[inL,T.cl]) (by simp[qan,inL,Slot.cl,T.cl,clL]) ?_
     simpa [qan,inL] using hQ'
    ·have fX:=(cJ4 @hd @hw @hg @hki)
     refine qaa qcR.eq_1 ?_
     refine W_gc ?_
     refine wR0 1400 [3,4,7,8,9,33,34,35,40,41,42,43] fX ?_
     refine wT @hd ?_
     refine wR0 1500 [3,4,7,8,9,10,11,33,34,35,40,41,42] fX ?_
     refine wR0 1600 [3,4,7,8,9,33,34,35,40,41,42] fX ?_
     refine wR0 1700 [3,4,7,8,9,33,34,35,40,41,42] fX ?_
     refine wN ?_
     refine qaP [0,508,1903,1103] (by simp[inL]) (by simp[inL,T.cl]) (by simp[qan,inL,Slot.cl,T.cl,clL]) ?_
     simpa [qan,inL] using hQ'
   | false=>
    rcases hki:((k:Int) != (i:Int)) with _ | _
    ·have hQ':=ih (k+1) false (by omega) (by rw[hany,←hb,wth,hkn,hki];rfl)
     have fX:=(cJ4 @hd @hw @hg @hki)
     refine qaa qcR.eq_1 ?_
     refine W_gc ?_
     refine wR0 1400 [3,4,7,8,9,33,34,35,40,41,42,43] fX ?_
     refine wT @hd ?_
     refine wR0 1500 [3,4,7,8,9,10,11,33,34,35,40,41,42] fX ?_
     refine wR0 1600 [3,4,7,8,9,33,34,35,40,41,42] fX ?_
     refine wR0 1700 [3,4,7,8,9,33,34,35,40,41,42] fX ?_
     refine wN ?_
     refine qaP [0,508,1903,1103] (by simp[inL]) (by simp[inL,T.cl]) (by simp[qan,inL,Slot.cl,T.cl,clL]) ?_
     simpa [qan,inL] using hQ'
    ·rcases hse:(a.st==c.st) with _ | _
     ·have hQ':=ih (k+1) false (by omega) (by rw[hany,←hb,wth,hkn,hki,ha,hc,hse];rfl)
      have fX:=(cJ5 @hd @hw @hg @hki @hse)
      refine qaa qcR.eq_1 ?_
      refine W_gc ?_
      refine wR0 1400 [3,4,7,8,9,33,34,35,40,41,42,43] fX ?_
      refine wT @hd ?_
      refine wR0 1500 [3,4,7,8,9,10,11,33,34,35,40,41,42] fX ?_
      refine wR0 1600 [3,4,7,8,9,33,34,35,40,41,42] fX ?_
      refine wR0 1700 [3,4,7,8,9,33,34,35,40,41,42] fX ?_
      refine wN ?_
      refine qaP [0,508,1903,1103] (by simp[inL]) (by simp[inL,T.cl]) (by simp[qan,inL,Slot.cl,T.cl,clL]) ?_
      simpa [qan,inL] using hQ'
     ·have hQ':=ih (k+1) (vLe a.vec c.vec) (by omega) (by rw[hany,←hb,wth,hkn,hki,ha,hc,hse];rfl)
      have fX:=(cJ5 @hd @hw @hg @hki @hse)
      refine qaa qcR.eq_1 ?_
      refine W_gc ?_
      refine wR0 1400 [3,4,7,8,9,33,34,35,40,41,42,43] fX ?_
      refine wT @hd ?_
      refine wR0 1500 [3,4,7,8,9,10,11,33,34,35,40,41,42] fX ?_
      refine wRn 1600 [3,4,7,8,9,33,34,35,40,41,42] fX ?_
      refine rC fX ?_
      refine⟨_,hle,rE fX ?_⟩
      refine wR0 1700 [3,4,7,8,9,33,34,35,40,41,42] fX ?_
      refine wN ?_
      refine qaP [0,508,1903,1103] (by simp[inL]) (by simp[inL,T.cl]) (by simp[qan,inL,Slot.cl,T.cl,clL]) ?_
      simpa [qan,inL] using hQ'
end
section
open Go.RowKit
set_option maxHeartbeats 2000000
attribute [local simp] qcl qae qa2 qaJ
theorem qpb (L:List Lm)(n:Nat):outP L (n+1)=outP L n++if wthA L n=true then [] else [L.getD n default]:=by
 rw[outP,outP,List.range_succ,List.filter_append,List.map_append]
 congr 1
 cases h:wthA L n<;>simp[h]
theorem qmm (L:List Lm)(n:Nat):(outP L n).length≤n:=by
 rw[outP,List.length_map]
 exact Nat.le_trans (List.length_filter_le _ _) (by simp)
set_option maxHeartbeats 8000000 in
theorem lim_l1 (L:List Lm)(hL:L.length≤100000)(hv:∀j,j<L.length→(L.getD j default).vec.length≤1000000)(Q:IExit→(Nat→T)→Heap→Prop)
 (hQ:∀k:Int,Q (.exit 2) (ofL [(3,.list (qaA L)),(4,qcZ 1903 (outF L)),(33,.list (qaA L)),(34,.int .i64 (qaA L).length),(35,.int .i64 k),(36,.bool false)]) (hpL ([(0,.dead),(508,.dead)]++qcY 1903 (outF L)))) :
 ∀(f i:Nat) (out:List Lm),i+f=L.length→out=outP L i→
 WL Tryz.prog 76 qgI (ofL [(3,.list (qaA L)),(4,qcZ 1903 out),(33,.list (qaA L)),(34,.int .i64 (qaA L).length),(35,.int .i64 i)]) (hpL ([(0,.dead),(508,.dead)]++qcY 1903 out)) Q:=by
 simp only[List.cons_append,List.nil_append] at hQ ⊢
 intro f
 induction f with
 | zero=>
  intro i out hk ho
  have hd:decide ((i:Int)<((qaA L).length:Int))=false:=decide_eq_false (by rw[qaZ];omega)
  have e:out=outF L:=by rw[ho,outF,show i=L.length by omega]
  subst e
  have fX:=@hd
  refine qaa qgI.eq_1 ?_
  refine wR0 1000 [3,4,33,34,35,36] fX ?_
  refine wF @hd ?_
  refine wX ?_
  refine wN ?_
  exact hQ _
 | succ f ih=>
  intro i out hk ho
  have hil:i<L.length:=by omega
  have hlt:(i:Int)<((qaA L).length:Int):=by rw[qaZ];omega
  have hd:decide ((i:Int)<((qaA L).length:Int))=true:=decide_eq_true hlt
  have hw:IntKind.wrap .i64 ((i:Int)+1)=((i+1:Nat):Int):=by rw[wrap64 (by omega) (by omega)];rfl
  have hg:=qb8 L i hil
  have hol:out.length≤i:=by rw[ho];exact qmm L i
  have hs:=qpb L i
  rw[←ho] at hs
  obtain⟨a,ha⟩:∃a,L.getD i default=a:=⟨_,rfl⟩
  rw[ha] at hg hs
  have hL2:=fun out Q h=>lim_l2 L hL hv out i hil Q h L.length 0 false (by omega) rfl
  cases hwt:wthA L i with
  | true=>
   rw[hwt,if_pos rfl,List.append_nil] at hs
   have hQ':=ih (i+1) out (by omega) hs.symm
   cases out with
   | nil=>
    simp only[qcZ,qcY] at hQ' ⊢
    have h2:=hL2 []
    simp only[l2E,qcZ,qcY,ha,hwt,lmC,List.cons_append,List.nil_append,List.append_nil] at h2
    have fX:=(cJ4 @hd @hw @hg @qaK)
    refine qaa qgI.eq_1 ?_
    refine W_gc ?_
    refine wR0 1000 [3,4,33,34,35,36] fX ?_
    refine wT @hd ?_
    refine wR0 1100 [3,4,7,8,33,34,35] fX ?_
    refine wR0 1200 [3,4,7,8,9,33,34,35] fX ?_
    refine wR0 1300 [3,4,7,8,9,33,34,35,40,41,42] fX ?_
    refine wL ?_
    refine h2 _ ?_
    ·intro k
     refine wN ?_
     refine wR0 1800 [3,4,8,33,34,35,69] fX ?_
     refine wF fX ?_
     refine wR0 2000 [3,4,33,34,35] fX ?_
     refine wN ?_
     refine qaP [0,508] (by simp[inL]) (by simp[T.cl]) (by simp[qan,inL,Slot.cl]) ?_
     simpa [qan,inL] using hQ'
   | cons z zs=>
    simp only[qcZ,qcY] at hQ' ⊢
    have h2:=hL2 (z::zs)
    simp only[l2E,qcZ,qcY,ha,hwt,lmC,List.cons_append,List.nil_append] at h2
    have fX:=(cJ4 @hd @hw @hg @qaK)
    refine qaa qgI.eq_1 ?_
    refine W_gc ?_
    refine wR0 1000 [3,4,33,34,35,36] fX ?_
    refine wT @hd ?_
    refine wR0 1100 [3,4,7,8,33,34,35] fX ?_
    refine wR0 1200 [3,4,7,8,9,33,34,35] fX ?_
    refine wR0 1300 [3,4,7,8,9,33,34,35,40,41,42] fX ?_
    refine wL ?_
    refine h2 _ ?_
    ·intro k
     refine wN ?_
     refine wR0 1800 [3,4,8,33,34,35,69] fX ?_
     refine wF fX ?_
     refine wR0 2000 [3,4,33,34,35] fX ?_
     refine wN ?_
     refine qaP [0,508,1903] (by simp[inL]) (by simp[inL,T.cl]) (by simp[qan,inL,Slot.cl]) ?_
     simpa [qan,inL] using hQ'
  | false=>
   rw[hwt,if_neg (by simp)] at hs
   have hQ':=ih (i+1) (out++[a]) (by omega) hs.symm
   cases out with
   | nil=>
    simp only[qcZ,qcY,List.nil_append,qay,List.length_nil] at hQ' ⊢
    have h2:=hL2 []
    simp only[l2E,qcZ,qcY,ha,hwt,lmC,List.cons_append,List.nil_append,List.append_nil] at h2
    have fX:=(cJ4 @hd @hw @hg @qaK)
    refine qaa qgI.eq_1 ?_
    refine W_gc ?_
    refine wR0 1000 [3,4,33,34,35,36] fX ?_
    refine wT @hd ?_
    refine wR0 1100 [3,4,7,8,33,34,35] fX ?_
    refine wR0 1200 [3,4,7,8,9,33,34,35] fX ?_
    refine wR0 1300 [3,4,7,8,9,33,34,35,40,41,42] fX ?_
    refine wL ?_
    refine h2 _ ?_
    ·intro k
     refine wN ?_
     refine wR0 1800 [3,4,8,33,34,35,69] fX ?_
     refine wT fX ?_
     refine wR0 1900 [3,4,33,34,35] fX ?_
     refine wR0 2000 [3,4,33,34,35] fX ?_
     refine wN ?_
     refine qaP [0,508,1903] (by simp[inL]) (by simp[inL,T.cl]) (by simp[qan,inL,Slot.cl,T.cl,clL]) ?_
     simpa [qan,inL] using hQ'
   | cons z zs=>
    have hsn:=qgE (z::zs) a
    have hz:(qay (z::zs)).length=(zs.length+1)*2:=by rw[qa8];rfl
    have hzl:zs.length+1≤100000:=by simp at hol;omega
    have hm2:(zs.length+1+1)*2=(zs.length+1)*2+2:=by omega
    simp only[qcZ,qcY,List.cons_append,List.length_append,List.length_cons,List.length_nil,Nat.zero_add] at hQ' hsn ⊢
    rw[hsn] at hQ'
    simp only[hm2] at hQ'
    have h2:=hL2 (z::zs)
    simp only[l2E,qcZ,qcY,ha,hwt,lmC,List.cons_append,List.nil_append] at h2
    have fX:=(cJ5 @hd @hw @hg @qaK @hz)
    refine qaa qgI.eq_1 ?_
    refine W_gc ?_
    refine wR0 1000 [3,4,33,34,35,36] fX ?_
    refine wT @hd ?_
    refine wR0 1100 [3,4,7,8,33,34,35] fX ?_
    refine wR0 1200 [3,4,7,8,9,33,34,35] fX ?_
    refine wR0 1300 [3,4,7,8,9,33,34,35,40,41,42] fX ?_
    refine wL ?_
    refine h2 _ ?_
    ·intro k
     refine wN ?_
     refine wR0 1800 [3,4,8,33,34,35,69] fX ?_
     refine wT fX ?_
     refine wR0 1900 [3,4,33,34,35] fX ?_
     refine wR0 2000 [3,4,33,34,35] fX ?_
     refine wN ?_
     refine qaP [0,508,1903] (by simp[inL]) (by simp[inL,T.cl]) (by simp[qan,inL,Slot.cl,T.cl,clL,qap]) ?_
     simpa [qan,inL] using hQ'
theorem qp6 (D:Nat→Bool)(xs:List Lm):clL D (qcI xs)=true:=by
 rw[qcI]
 generalize xs.length - (qa1 xs).length=n
 induction n with
 | zero=>rfl
 | succ n ih=>simp[repl] at ih ⊢;exact ih
theorem qqM {H:Heap}{D:Nat→Bool}{id ty tot n:Nat}(ks:List Lm)(z:List T)(hb:H id=.live ⟨ty,qay ks++z⟩)(hd:D id=false)(ht:(qay ks++z).length=tot)(hn:n=ks.length):Fz H D (.sl id tot 2 0 n) (.list (qaA ks)):=by
 subst hn
 have hl:=qa8 ks
 refine Fz.sl hb hd ht (by rw[←ht,List.length_append,hl];simp[esz]) (qaZ ks) (qeM ks) (by rw[←qcA];exact qer ks) fun k hk=>?_
 rw[←qcA,Nat.zero_add]
 simp only
 have hk':k<(qay ks).length:=by rw[hl];simpa [esz] using hk
 rw[List.getD_eq_getElem?_getD,List.getElem?_append_left hk',←List.getD_eq_getElem?_getD]
 exact .same (qa5 (qcl _ ks) k)
set_option maxHeartbeats 8000000 in
theorem qgV (l:List Nn)(next:Int)(hne:l≠[])(hl:l.length≤100000)(hv:∀j,j<l.length→(l.getD j default).vec≠[]∧(l.getD j default).vec.length≤1000000):TP Tryz.prog 12 [qbs l next] (.list (qaA (limF l))):=by
 have hL0:=fun Q h=>lim_l0 l next hl hv Q h l.length 0 [] (by omega) rfl
 obtain⟨xs,hxs⟩:∃xs,l.map nLm=xs:=⟨_,rfl⟩
 have hxl:xs.length=l.length:=by rw[←hxs,List.length_map]
 have hfit:∀x∈xs,x.fit:=fun x hx=>by
  rw[←hxs] at hx
  obtain⟨n,hn,rfl⟩:=List.mem_map.1 hx
  obtain⟨j,hj,rfl⟩:=List.getElem_of_mem hn
  have:=(hv j hj).2
  simpa [nLm,Lm.fit,List.getD_eq_getElem?_getD,hj] using this
 rw[hxs] at hL0
 have hxne:xs≠[]:=by intro e;rw[e] at hxl;simp at hxl;exact hne (List.eq_nil_of_length_eq_zero hxl.symm)
 have hso:=qp0 508 62 xs hxne (by omega) hfit
 have hfs:∀x∈qbp xs,x.fit:=fun x hx=>hfit x ((qhj xs).mem_iff.1 hx)
 have hsl:=qhV xs
 have hsne:qbp xs≠[]:=by intro e;rw[e] at hsl;simp at hsl;exact hxne (List.eq_nil_of_length_eq_zero hsl.symm)
 have hco:TC Tryz.prog 35 [.sl 508 (xs.length*2) 2 0 xs.length,.fn 36 []] (hpL [(508,.live ⟨62,qay (qbp xs)⟩)]) (.sl 508 (xs.length*2) 2 0 (qcs xs).length) (hpL [(508,.live ⟨62,qay (qcs xs)++qcI (qbp xs)⟩)]):=by
  have h9:=qkN 36 (qbp xs) hsne (by omega) hfs qqK
  rw[hsl] at h9
  have r5:∀σ:Nat→Nat,renL σ (qay (qbp xs))=qay (qbp xs):=fun σ=>qbF _ (qcl _ _)
  have r6:∀σ:Nat→Nat,renL σ (qay (qa1 (qbp xs))++qcI (qbp xs))=qay (qa1 (qbp xs))++qcI (qbp xs):=fun σ=>qbF _ (by show clL _ _=true;rw[qap,qcl,qp6];rfl)
  refine qi6 [(700,508)] h9 ?_ ?_ ?_ ?_
  all_goals simp[renL,T.ren,Slot.ren,swps,swp,r5,r6,qcs]
 have htl:(qay (qcs xs)++qcI (qbp xs)).length=xs.length*2:=by have:=qnP (qbp xs);rw[hsl] at this;exact this
 have hal:(qcs xs).length≤xs.length:=by have:=qdn (qbp xs);rw[hsl] at this;exact this
 have hav:∀j,j<(qcs xs).length→((qcs xs).getD j default).vec.length≤1000000:=fun j hj=>by
  have:=hfit _ ((qeE xs _).1 (List.getElem_mem hj))
  simpa [List.getD_eq_getElem?_getD,hj,Lm.fit] using this
 have hlim:limF l=outF (qcs xs):=by rw[limF,hxs]
 have hL1:=fun Q h=>lim_l1 (qcs xs) (by omega) hav Q h (qcs xs).length 0 [] (by omega) rfl
 rw[hlim]
 generalize outF (qcs xs)=O at*
 obtain⟨z,zs,rfl⟩:∃z zs,xs=z::zs:=by
  cases xs with
  | nil=>exact absurd rfl hxne
  | cons z zs=>exact⟨z,zs,rfl⟩
 simp only[qcZ,qcY,grC,List.cons_append,List.nil_append,List.length_cons] at hL0 hL1 hso hco htl ⊢
 refine qah fn12 (by simp) ?_
 unfold i12
 simp only[argL,qbs,grC]
 refine wR0 0 [1] cJ0 ?_
 refine wR0 100 [1,3,4] cJ0 ?_
 refine wR0 200 [3,4,13,14,15] cJ0 ?_
 refine wL ?_
 refine hL0 _ ?_
 ·intro j
  refine wN ?_
  refine wRn 700 [3,4] cJ0 ?_
  refine rU [(508,.live ⟨62,qay (z::zs)⟩)] [(508,.live ⟨62,qay (qbp (z::zs))⟩)] cJ0 ?_
  refine⟨_,hso.full1,rE cJ0 ?_⟩
  refine wRn 800 [3,4] cJ0 ?_
  refine rU [(508,.live ⟨62,qay (qbp (z::zs))⟩)] [(508,.live ⟨62,qay (qcs (z::zs))++qcI (qbp (z::zs))⟩)] cJ0 ?_
  refine⟨_,hco.full1,rE cJ0 ?_⟩
  simp only[thn]
  refine qfP (l':=[(3,.list (qaA (qcs (z::zs)))),(4,.nil)]) (hl':=[(0,.dead),(508,.dead)]) [] (.cons (qqM _ _ rfl rfl htl rfl) (.cons (.same rfl) .nil)) (.dead rfl (fun h=>by cases h) (.dead rfl (fun h=>by cases h) .nil)) ?_
  refine wR0 900 [3,4,33,34,35] cJ0 ?_
  refine wL ?_
  refine hL1 _ ?_
  ·intro k
   refine wN ?_
   refine wN ?_
   rcases O with _ | ⟨x,O⟩
   ·skip
    refine wN ?_
    (try simp only[qcZ,qcY,List.cons_append,List.nil_append])
    refine wR0 2100 [2] cJ0 ?_
    refine wP ?_
    first | exact .nil | exact qlM (x::O) rfl rfl rfl
   ·skip
    refine wN ?_
    (try simp only[qcZ,qcY,List.cons_append,List.nil_append])
    refine wR0 2100 [2] cJ0 ?_
    refine wP ?_
    first | exact .nil | exact qlM (x::O) rfl rfl rfl
end
end Go.Proofs.YtoeeppojakbciaaGreat
