/- Contracts of functions of the program, for all arguments that they name. -/
import Derived.Test.YtncpdpbpcnoeeaaGreatK18
import Derived.Test.YtncpdpbpcnoeeaaGreatK20
namespace Go.Proofs.YtncpdpbpcnoeeaaGreat
set_option linter.unusedVariables false
section
open Go.RowKit
set_option maxHeartbeats 2000000
attribute [local simp] qbG qae qdO qbb
def qck (id:Nat)(l:List Lm):T:=match l with
 | []=>.nil
 | _::l=>.sl id ((l.length+1)*2) 2 0 (l.length+1)
def qcj (id:Nat)(l:List Lm):List (Nat×Slot):=match l with
 | []=>[]
 | x::l=>[(id,.live ⟨62,qam (x::l)⟩)]
theorem qfi (ks:List Lm)(k:Lm):qam (ks++[k])=qam ks++[.int .i64 k.st,.list (qab k.vec)]:=by rw[qbc];rfl
def nLm (n:Nn):Lm:=⟨n.st,n.vec⟩
def wth (L:List Lm)(i k:Nat):Bool:=(k != i)&&((L.getD i default).st==(L.getD k default).st)&&vLe (L.getD i default).vec (L.getD k default).vec
def wthA (L:List Lm)(i:Nat):Bool:=(List.range L.length).any (wth L i)
def outP (L:List Lm)(n:Nat):List Lm:=((List.range n).filter fun i=>!wthA L i).map fun i=>L.getD i default
def outF (L:List Lm):List Lm:=outP L L.length
def limF (l:List Nn):List Lm:=outF (qcR (l.map nLm))
theorem qda (l:List Lm)(i:Nat)(h:i<l.length):(qay l).getD (i:Int).toNat .undef=.agg [.int .i64 (l.getD i default).st,.list (qab (l.getD i default).vec)]:=by
 simp[qay,List.getD_eq_getElem?_getD,h,qbI,lmC]
set_option maxHeartbeats 4000000 in
theorem lim_l0 (l:List Nn)(next:Int)(hl:l.length≤100000)(hv:∀j,j<l.length→(l.getD j default).vec≠[]∧(l.getD j default).vec.length≤1000000)(Q:IExit→(Nat→T)→Heap→Prop)
 (hQ:∀j:Int,Q (.exit 0) (ofL [(3,qck 508 (l.map nLm)),(4,.nil),(13,.list (qa0 l)),(14,.int .i64 (qa0 l).length),(15,.int .i64 j),(16,.bool false)]) (hpL ([(0,.live ⟨37,grC l next⟩)]++qcj 508 (l.map nLm)))) :
 ∀(f i:Nat) (done:List Lm),i+f=l.length→done=(l.take i).map nLm→
 WL Tryz.prog 76 qhG (ofL [(3,qck 508 done),(4,.nil),(13,.list (qa0 l)),(14,.int .i64 (qa0 l).length),(15,.int .i64 i)]) (hpL ([(0,.live ⟨37,grC l next⟩)]++qcj 508 done)) Q:=by
 simp only[grC,List.cons_append,List.nil_append] at hQ ⊢
 intro f
 induction f with
 | zero=>
  intro i done hk hdn
  have hd:decide ((i:Int)<((qa0 l).length:Int))=false:=decide_eq_false (by rw[qa7];omega)
  have e:done=l.map nLm:=by rw[hdn,List.take_of_length_le (by omega)]
  subst e
  have fX:=@hd
  refine qaa qhG.eq_1 ?_
  refine wR0 300 [3,4,13,14,15,16] fX ?_
  refine wF @hd ?_
  refine wX ?_
  refine wN ?_
  exact hQ _
 | succ f ih=>
  intro i done hk hdn
  have hil:i<l.length:=by omega
  have hlt:(i:Int)<((qa0 l).length:Int):=by rw[qa7];omega
  have hd:decide ((i:Int)<((qa0 l).length:Int))=true:=decide_eq_true hlt
  have hw:IntKind.wrap .i64 ((i:Int)+1)=((i+1:Nat):Int):=by rw[wrap64 (by omega) (by omega)];rfl
  have hg:=qc1 l i hil
  have hdl:done.length=i:=by rw[hdn,List.length_map,List.length_take];omega
  have hQ':=ih (i+1) (done++[nLm (l.getD i default)]) (by omega) (by rw[hdn,List.take_add_one,List.getElem?_eq_getElem hil];simp only[List.getD_eq_getElem?_getD,List.getElem?_eq_getElem hil,Option.getD_some,Option.toList_some,List.map_append,List.map_cons,List.map_nil])
  have hvi:=hv i hil
  generalize l.getD i default=n at*
  have hcl:=qjI n.vec hvi.1 hvi.2
  simp only[encN,nnC] at hg
  cases done with
  | nil=>
   simp only[qck,qcj,List.nil_append,nLm,qam,List.length_nil] at hQ' ⊢
   have fX:=(cJ4 @hd @hw @hg @qaK)
   refine qaa qhG.eq_1 ?_
   refine W_gc ?_
   refine wR0 300 [3,4,13,14,15,16] fX ?_
   refine wT @hd ?_
   refine wR0 400 [3,4,6,13,14,15] fX ?_
   refine wRn 500 [3,4,13,14,15] fX ?_
   refine rC fX ?_
   refine⟨_,hcl,rE fX ?_⟩
   refine wR0 600 [3,4,13,14,15] fX ?_
   refine wN ?_
   refine qaT [0,508] (by simp[inL]) (by simp[inL,T.cl]) (by simp[qak,inL,Slot.cl,T.cl,clL]) ?_
   simpa [qak,inL] using hQ'
  | cons z zs=>
   have hs:=qfi (z::zs) (nLm n)
   have hz:(qam (z::zs)).length=(zs.length+1)*2:=by rw[qaN];rfl
   have hzl:zs.length+1≤100000:=by simp at hdl;omega
   have hm2:(zs.length+1+1)*2=(zs.length+1)*2+2:=by omega
   simp only[qck,qcj,List.cons_append,List.length_append,List.length_cons,List.length_nil,Nat.zero_add] at hQ' hs ⊢
   rw[hs] at hQ'
   simp only[nLm,hm2] at hQ'
   have fX:=(cJ5 @hd @hw @hg @qaK @hz)
   refine qaa qhG.eq_1 ?_
   refine W_gc ?_
   refine wR0 300 [3,4,13,14,15,16] fX ?_
   refine wT @hd ?_
   refine wR0 400 [3,4,6,13,14,15] fX ?_
   refine wRn 500 [3,4,13,14,15] fX ?_
   refine rC fX ?_
   refine⟨_,hcl,rE fX ?_⟩
   refine wR0 600 [3,4,13,14,15] fX ?_
   refine wN ?_
   refine qaT [0,508] (by simp[inL]) (by simp[inL,T.cl]) (by simp[qak,inL,Slot.cl,T.cl,clL,qan]) ?_
   simpa [qak,inL] using hQ'
abbrev l2E (L:List Lm)(o4:T)(i:Nat)(b:Bool)(k:Int):List (Nat×T):=[(3,.list (qay L)),(4,o4),(7,.int .i64 i),(8,.ref 1103 2 0),(9,.bool b),(33,.list (qay L)),(34,.int .i64 (qay L).length),(35,.int .i64 i),(40,.list (qay L)),(41,.int .i64 (qay L).length),(42,.int .i64 k)]
set_option maxHeartbeats 8000000 in
theorem lim_l2 (L:List Lm)(hL:L.length≤100000)(hv:∀j,j<L.length→(L.getD j default).vec.length≤1000000)(out:List Lm)(i:Nat)(hi:i<L.length)(Q:IExit→(Nat→T)→Heap→Prop)
 (hQ:∀k:Int,Q (.exit 4) (ofL (l2E L (qck 1903 out) i (wthA L i) k++[(43,.bool false)])) (hpL ([(0,.dead),(508,.dead)]++qcj 1903 out++[(1103,.live ⟨62,lmC (L.getD i default)⟩)]))) :
 ∀(f k:Nat) (b:Bool),k+f=L.length→b=(List.range k).any (wth L i)→
 WL Tryz.prog 76 qcc (ofL (l2E L (qck 1903 out) i b k)) (hpL ([(0,.dead),(508,.dead)]++qcj 1903 out++[(1103,.live ⟨62,lmC (L.getD i default)⟩)])) Q:=by
 have hva:=hv i hi
 obtain⟨a,ha⟩:∃a,L.getD i default=a:=⟨_,rfl⟩
 rw[ha] at hva hQ ⊢
 cases out with
 | nil=>
  simp only[l2E,qck,qcj,lmC,List.cons_append,List.nil_append,List.append_nil] at hQ ⊢
  intro f
  induction f with
  | zero=>
   intro k b hk hb
   have hd:decide ((k:Int)<((qay L).length:Int))=false:=decide_eq_false (by rw[qa8];omega)
   have e:b=wthA L i:=by rw[hb,wthA,show k=L.length by omega]
   rw[e]
   have fX:=@hd
   refine qaa qcc.eq_1 ?_
   refine wR0 1400 [3,4,7,8,9,33,34,35,40,41,42,43] fX ?_
   refine wF @hd ?_
   refine wX ?_
   refine wN ?_
   exact hQ _
  | succ f ih=>
   intro k b hk hb
   have hil:k<L.length:=by omega
   have hlt:(k:Int)<((qay L).length:Int):=by rw[qa8];omega
   have hd:decide ((k:Int)<((qay L).length:Int))=true:=decide_eq_true hlt
   have hw:IntKind.wrap .i64 ((k:Int)+1)=((k+1:Nat):Int):=by rw[wrap64 (by omega) (by omega)];rfl
   have hg:=qda L k hil
   have hany:(List.range (k+1)).any (wth L i)=((List.range k).any (wth L i) || wth L i k):=by rw[List.range_succ,List.any_append];simp
   have hkn:(k != i)=((k:Int) != (i:Int)):=by rw[Bool.eq_iff_iff];simp;omega
   obtain⟨c,hc⟩:∃c,L.getD k default=c:=⟨_,rfl⟩
   have hvc:=hv k hil
   rw[hc] at hg hvc
   have hle:=qhd a.vec c.vec hva hvc
   cases b with
   | true=>
    have hQ':=ih (k+1) true (by omega) (by rw[hany,←hb];rfl)
    rcases hki:((k:Int) != (i:Int)) with _ | _
    ·have fX:=(cJ4 @hd @hw @hg @hki)
     refine qaa qcc.eq_1 ?_
     refine W_gc ?_
     refine wR0 1400 [3,4,7,8,9,33,34,35,40,41,42,43] fX ?_
     refine wT @hd ?_
     refine wR0 1500 [3,4,7,8,9,10,11,33,34,35,40,41,42] fX ?_
     refine wR0 1600 [3,4,7,8,9,33,34,35,40,41,42] fX ?_
     refine wR0 1700 [3,4,7,8,9,33,34,35,40,41,42] fX ?_
     refine wN ?_
     refine qaT [0,508,1103] (by simp[inL]) (by simp[inL,T.cl]) (by simp[qak,inL,Slot.cl,T.cl,clL]) ?_
     simpa [qak,inL] using hQ'
    ·have fX:=(cJ4 @hd @hw @hg @hki)
     refine qaa qcc.eq_1 ?_
     refine W_gc ?_
     refine wR0 1400 [3,4,7,8,9,33,34,35,40,41,42,43] fX ?_
     refine wT @hd ?_
     refine wR0 1500 [3,4,7,8,9,10,11,33,34,35,40,41,42] fX ?_
     refine wR0 1600 [3,4,7,8,9,33,34,35,40,41,42] fX ?_
     refine wR0 1700 [3,4,7,8,9,33,34,35,40,41,42] fX ?_
     refine wN ?_
     refine qaT [0,508,1103] (by simp[inL]) (by simp[inL,T.cl]) (by simp[qak,inL,Slot.cl,T.cl,clL]) ?_
     simpa [qak,inL] using hQ'
   | false=>
    rcases hki:((k:Int) != (i:Int)) with _ | _
    ·have hQ':=ih (k+1) false (by omega) (by rw[hany,←hb,wth,hkn,hki];rfl)
     have fX:=(cJ4 @hd @hw @hg @hki)
     refine qaa qcc.eq_1 ?_
     refine W_gc ?_
     refine wR0 1400 [3,4,7,8,9,33,34,35,40,41,42,43] fX ?_
     refine wT @hd ?_
     refine wR0 1500 [3,4,7,8,9,10,11,33,34,35,40,41,42] fX ?_
     refine wR0 1600 [3,4,7,8,9,33,34,35,40,41,42] fX ?_
     refine wR0 1700 [3,4,7,8,9,33,34,35,40,41,42] fX ?_
     refine wN ?_
     refine qaT [0,508,1103] (by simp[inL]) (by simp[inL,T.cl]) (by simp[qak,inL,Slot.cl,T.cl,clL]) ?_
     simpa [qak,inL] using hQ'
    ·rcases hse:(a.st==c.st) with _ | _
     ·have hQ':=ih (k+1) false (by omega) (by rw[hany,←hb,wth,hkn,hki,ha,hc,hse];rfl)
      have fX:=(cJ5 @hd @hw @hg @hki @hse)
      refine qaa qcc.eq_1 ?_
      refine W_gc ?_
      refine wR0 1400 [3,4,7,8,9,33,34,35,40,41,42,43] fX ?_
      refine wT @hd ?_
      refine wR0 1500 [3,4,7,8,9,10,11,33,34,35,40,41,42] fX ?_
      refine wR0 1600 [3,4,7,8,9,33,34,35,40,41,42] fX ?_
      refine wR0 1700 [3,4,7,8,9,33,34,35,40,41,42] fX ?_
      refine wN ?_
      refine qaT [0,508,1103] (by simp[inL]) (by simp[inL,T.cl]) (by simp[qak,inL,Slot.cl,T.cl,clL]) ?_
      simpa [qak,inL] using hQ'
     ·have hQ':=ih (k+1) (vLe a.vec c.vec) (by omega) (by rw[hany,←hb,wth,hkn,hki,ha,hc,hse];rfl)
      have fX:=(cJ5 @hd @hw @hg @hki @hse)
      refine qaa qcc.eq_1 ?_
      refine W_gc ?_
      refine wR0 1400 [3,4,7,8,9,33,34,35,40,41,42,43] fX ?_
      refine wT @hd ?_
      refine wR0 1500 [3,4,7,8,9,10,11,33,34,35,40,41,42] fX ?_
      refine wRn 1600 [3,4,7,8,9,33,34,35,40,41,42] fX ?_
      refine rC fX ?_
      refine⟨_,hle,rE fX ?_⟩
      refine wR0 1700 [3,4,7,8,9,33,34,35,40,41,42] fX ?_
      refine wN ?_
      refine qaT [0,508,1103] (by simp[inL]) (by simp[inL,T.cl]) (by simp[qak,inL,Slot.cl,T.cl,clL]) ?_
      simpa [qak,inL] using hQ'
 | cons z zs=>
  simp only[l2E,qck,qcj,lmC,List.cons_append,List.nil_append] at hQ ⊢
  intro f
  induction f with
  | zero=>
   intro k b hk hb
   have hd:decide ((k:Int)<((qay L).length:Int))=false:=decide_eq_false (by rw[qa8];omega)
   have e:b=wthA L i:=by rw[hb,wthA,show k=L.length by omega]
   rw[e]
   have fX:=@hd
   refine qaa qcc.eq_1 ?_
   refine wR0 1400 [3,4,7,8,9,33,34,35,40,41,42,43] fX ?_
   refine wF @hd ?_
   refine wX ?_
   refine wN ?_
   exact hQ _
  | succ f ih=>
   intro k b hk hb
   have hil:k<L.length:=by omega
   have hlt:(k:Int)<((qay L).length:Int):=by rw[qa8];omega
   have hd:decide ((k:Int)<((qay L).length:Int))=true:=decide_eq_true hlt
   have hw:IntKind.wrap .i64 ((k:Int)+1)=((k+1:Nat):Int):=by rw[wrap64 (by omega) (by omega)];rfl
   have hg:=qda L k hil
   have hany:(List.range (k+1)).any (wth L i)=((List.range k).any (wth L i) || wth L i k):=by rw[List.range_succ,List.any_append];simp
   have hkn:(k != i)=((k:Int) != (i:Int)):=by rw[Bool.eq_iff_iff];simp;omega
   obtain⟨c,hc⟩:∃c,L.getD k default=c:=⟨_,rfl⟩
   have hvc:=hv k hil
   rw[hc] at hg hvc
   have hle:=qhd a.vec c.vec hva hvc
   cases b with
   | true=>
    have hQ':=ih (k+1) true (by omega) (by rw[hany,←hb];rfl)
    rcases hki:((k:Int) != (i:Int)) with _ | _
    ·have fX:=(cJ4 @hd @hw @hg @hki)
     refine qaa qcc.eq_1 ?_
     refine W_gc ?_
     refine wR0 1400 [3,4,7,8,9,33,34,35,40,41,42,43] fX ?_
     refine wT @hd ?_
     refine wR0 1500 [3,4,7,8,9,10,11,33,34,35,40,41,42] fX ?_
     refine wR0 1600 [3,4,7,8,9,33,34,35,40,41,42] fX ?_
     refine wR0 1700 [3,4,7,8,9,33,34,35,40,41,42] fX ?_
     refine wN ?_
     refine qaT [0,508,1903,1103] (by simp[inL]) (by simp[inL,T.cl]) (by simp[qak,inL,Slot.cl,T.cl,clL]) ?_
     simpa [qak,inL] using hQ'
    ·have fX:=(cJ4 @hd @hw @hg @hki)
     refine qaa qcc.eq_1 ?_
     refine W_gc ?_
     refine wR0 1400 [3,4,7,8,9,33,34,35,40,41,42,43] fX ?_
     refine wT @hd ?_
     refine wR0 1500 [3,4,7,8,9,10,11,33,34,35,40,41,42] fX ?_
     refine wR0 1600 [3,4,7,8,9,33,34,35,40,41,42] fX ?_
     refine wR0 1700 [3,4,7,8,9,33,34,35,40,41,42] fX ?_
     refine wN ?_
     refine qaT [0,508,1903,1103] (by simp[inL]) (by simp[inL,T.cl]) (by simp[qak,inL,Slot.cl,T.cl,clL]) ?_
     simpa [qak,inL] using hQ'
   | false=>
    rcases hki:((k:Int) != (i:Int)) with _ | _
    ·have hQ':=ih (k+1) false (by omega) (by rw[hany,←hb,wth,hkn,hki];rfl)
     have fX:=(cJ4 @hd @hw @hg @hki)
     refine qaa qcc.eq_1 ?_
     refine W_gc ?_
     refine wR0 1400 [3,4,7,8,9,33,34,35,40,41,42,43] fX ?_
     refine wT @hd ?_
     refine wR0 1500 [3,4,7,8,9,10,11,33,34,35,40,41,42] fX ?_
     refine wR0 1600 [3,4,7,8,9,33,34,35,40,41,42] fX ?_
     refine wR0 1700 [3,4,7,8,9,33,34,35,40,41,42] fX ?_
     refine wN ?_
     refine qaT [0,508,1903,1103] (by simp[inL]) (by simp[inL,T.cl]) (by simp[qak,inL,Slot.cl,T.cl,clL]) ?_
     simpa [qak,inL] using hQ'
    ·rcases hse:(a.st==c.st) with _ | _
     ·have hQ':=ih (k+1) false (by omega) (by rw[hany,←hb,wth,hkn,hki,ha,hc,hse];rfl)
      have fX:=(cJ5 @hd @hw @hg @hki @hse)
      refine qaa qcc.eq_1 ?_
      refine W_gc ?_
      refine wR0 1400 [3,4,7,8,9,33,34,35,40,41,42,43] fX ?_
      refine wT @hd ?_
      refine wR0 1500 [3,4,7,8,9,10,11,33,34,35,40,41,42] fX ?_
      refine wR0 1600 [3,4,7,8,9,33,34,35,40,41,42] fX ?_
      refine wR0 1700 [3,4,7,8,9,33,34,35,40,41,42] fX ?_
      refine wN ?_
      refine qaT [0,508,1903,1103] (by simp[inL]) (by simp[inL,T.cl]) (by simp[qak,inL,Slot.cl,T.cl,clL]) ?_
      simpa [qak,inL] using hQ'
     ·have hQ':=ih (k+1) (vLe a.vec c.vec) (by omega) (by rw[hany,←hb,wth,hkn,hki,ha,hc,hse];rfl)
      have fX:=(cJ5 @hd @hw @hg @hki @hse)
      refine qaa qcc.eq_1 ?_
      refine W_gc ?_
      refine wR0 1400 [3,4,7,8,9,33,34,35,40,41,42,43] fX ?_
      refine wT @hd ?_
      refine wR0 1500 [3,4,7,8,9,10,11,33,34,35,40,41,42] fX ?_
      refine wRn 1600 [3,4,7,8,9,33,34,35,40,41,42] fX ?_
      refine rC fX ?_
      refine⟨_,hle,rE fX ?_⟩
      refine wR0 1700 [3,4,7,8,9,33,34,35,40,41,42] fX ?_
      refine wN ?_
      refine qaT [0,508,1903,1103] (by simp[inL]) (by simp[inL,T.cl]) (by simp[qak,inL,Slot.cl,T.cl,clL]) ?_
      simpa [qak,inL] using hQ'
end
end Go.Proofs.YtncpdpbpcnoeeaaGreat
