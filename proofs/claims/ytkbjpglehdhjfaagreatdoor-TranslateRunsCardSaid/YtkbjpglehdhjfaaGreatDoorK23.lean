/- Contracts of functions of the program, for all arguments that they name. -/
import Derived.Test.YtkbjpglehdhjfaaGreatDoorK22
namespace Go.Proofs.YtkbjpglehdhjfaaGreatDoor
set_option linter.unusedVariables false
section
open Go.RowKit
set_option maxHeartbeats 2000000
attribute [local simp] qau qav qaD qaJ qa1 qbo qaB qah qaT
set_option maxHeartbeats 16000000 in
theorem pqb_l1 (z:Th)(vals nt k:Nat)(hv:1≤vals∧vals≤2)(hnt:1≤nt∧nt≤2)(hk:k≤3)(s:ByteArray)(c NUM:Int)(R:List Lne×Dc)(Q:IExit→(Nat→T)→Heap→Prop)
 (hQ:∀j:Int,Q (.exit 2) (ofL (pqE nt k NUM j c++[(36,.bool false)])) (hpL (pqB z vals R.2 s R.1))) :
 ∀(f i:Nat) (num:Int) (d:Dc) (done:List Lne),d.ok→i+f=k→done.length=i→0≤num→num+f≤1000→num+f=NUM→(done++(qby vals nt k f num d).1,(qby vals nt k f num d).2)=R→
 WL Tryz.prog 86 qbp (ofL (pqE nt k num i c)) (hpL (pqB z vals d s done)) Q:=by
 simp only[pqE,pqB,List.cons_append,List.nil_append] at hQ ⊢
 intro f
 induction f with
 | zero=>
  intro i num d done hok hi hdn h0 h1 hN hR
  have hd:decide ((i:Int)<(k:Int))=false:=decide_eq_false (by omega)
  simp only[qby,List.append_nil] at hR
  have eN:num=NUM:=by simpa using hN
  subst hR eN
  have fX:=@hd
  refine qaa qbp.eq_1 ?_
  refine wR0 1100 [0,2,3,4,5,8,9,10,21,22,23,36] fX ?_
  refine wF @hd ?_
  refine wX ?_
  refine wN ?_
  exact hQ _
 | succ f ih=>
  intro i num d done hok hi hdn h0 h1 hN hR
  have hd:decide ((i:Int)<(k:Int))=true:=decide_eq_true (by omega)
  have hw:IntKind.wrap .i64 ((i:Int)+1)=((i+1:Nat):Int):=by rw[wrap64 (by omega) (by omega)];rfl
  have hw1:IntKind.wrap .i64 (num+1)=num+1:=wrap64 (by omega) (by omega)
  have hpk:=qbN d hok 7 (by omega)
  have hr:=qa6 hok (n:=7) (by omega)
  have hok2:=qaL hok 7
  rw[qby] at hR
  simp only at hR
  have hln:∀(l:Lne) (d':Dc),d'.ok→qih vals nt k (num+1) d=(l,d')→WL Tryz.prog 86 qbp (ofL (pqE nt k (num+1) ((i+1:Nat):Int) c)) (hpL (pqB z vals d' s (done++[l]))) Q:=fun l d' hok' e=>by
   rw[e] at hR
   have:=ih (i+1) (num+1) d' (done++[l]) hok' (by omega) (by simp[hdn]) (by omega) (by omega) (by omega) (by rw[←hR];simp)
   simpa only [pqE,pqB,List.cons_append,List.nil_append] using this
  clear hR ih hQ
  simp only[qih] at hln
  obtain⟨x,hx⟩:∃x,(qao d 7).1=x:=⟨_,rfl⟩
  obtain⟨e,he⟩:∃e,(qao d 7).2=e:=⟨_,rfl⟩
  rw[hx,he] at hpk hln
  rw[hx] at hr
  rw[he] at hok2
  obtain⟨kk,hkk⟩:∃kk,1+x=kk:=⟨_,rfl⟩
  have hwk:IntKind.wrap .i64 (1+x)=kk:=by rw[wrap64 (by omega) (by omega),hkk]
  rw[hkk] at hln
  have hp1:=qbN e hok2 vals (by omega)
  have ho1:=qaL hok2 vals
  have hp2:=qbN e hok2 k (by omega)
  have ho2:=qaL hok2 k
  have hp3:=qbN e hok2 nt (by omega)
  have ho3:=qaL hok2 nt
  have hcs:kk=1∨kk=2∨kk=3∨kk=4∨kk=5∨kk=6∨kk=7:=by omega
  rcases hcs with rfl | rfl | rfl | rfl | rfl | rfl | rfl
  ·have hQ':=hln _ _ ho1 (if_pos (.inl rfl))
   clear hln
   cases done with
   | nil=>
    simp only[qck,qcj,List.nil_append,List.append_nil,List.cons_append,List.length_nil,List.flatMap_cons,List.flatMap_nil,Nat.zero_add] at hQ' ⊢
    have fX:=(cJ5 @hd @hw @hw1 @hwk @qaF)
    refine qaa qbp.eq_1 ?_
    refine W_gc ?_
    refine wR0 1100 [0,2,3,4,5,8,9,10,21,22,23,36] fX ?_
    refine wT @hd ?_
    refine wR0 1200 [0,2,3,4,5,8,9,10,21,22,23] fX ?_
    refine wRn 1300 [0,2,3,4,5,8,9,10,11,21,22,23] fX ?_
    refine rU [(99999,dcB d)] [(99999,dcB e)] fX ?_
    refine⟨_,hpk.fulD,rE fX ?_⟩
    refine wR0 1400 [0,2,3,4,5,8,9,10,11,21,22,23,47] fX ?_
    refine wR0 1500 [0,2,3,4,5,8,9,10,11,21,22,23,47,48] fX ?_
    refine wT fX ?_
    refine wT fX ?_
    refine wRn 1700 [0,2,3,4,5,8,9,10,11,21,22,23] fX ?_
    refine rU [(99999,dcB e)] [(99999,dcB (qao e vals).2)] fX ?_
    refine⟨_,hp1.fulD,rE fX ?_⟩
    refine wR0 2300 [0,2,3,4,5,8,9,10,21,22,23] fX ?_
    refine wR0 2400 [0,2,3,4,5,8,9,10,21,22,23] fX ?_
    refine wN ?_
    refine qay [99999,0,104,200,2604,702,2304] (by simp[inL]) (by simp[inL,T.cl]) (by simp[qaf,inL,Slot.cl,T.cl,clL]) ?_
    simpa [qaf,inL,lnC] using hQ'
   | cons z zs=>
    have hsn:∀c:Lne,(z::(zs++[c])).flatMap lnC=(z::zs).flatMap lnC++lnC c:=fun c=>by simp[List.flatMap_append]
    have hm2:(zs.length+1+1)*3=(zs.length+1)*3+3:=by omega
    have hfl:((z::zs).flatMap lnC).length=(zs.length+1)*3:=qch lnC 3 (fun _=>rfl) _
    have hzb:zs.length+1≤100000:=by simp at hdn;omega
    simp only[qck,qcj,List.cons_append,List.nil_append,List.length_append,List.length_cons,List.length_nil,Nat.zero_add,hsn,hm2] at hQ' ⊢
    have fX:=(cJ6 @hd @hw @hw1 @hwk @qaF @hfl)
    refine qaa qbp.eq_1 ?_
    refine W_gc ?_
    refine wR0 1100 [0,2,3,4,5,8,9,10,21,22,23,36] fX ?_
    refine wT @hd ?_
    refine wR0 1200 [0,2,3,4,5,8,9,10,21,22,23] fX ?_
    refine wRn 1300 [0,2,3,4,5,8,9,10,11,21,22,23] fX ?_
    refine rU [(99999,dcB d)] [(99999,dcB e)] fX ?_
    refine⟨_,hpk.fulD,rE fX ?_⟩
    refine wR0 1400 [0,2,3,4,5,8,9,10,11,21,22,23,47] fX ?_
    refine wR0 1500 [0,2,3,4,5,8,9,10,11,21,22,23,47,48] fX ?_
    refine wT fX ?_
    refine wT fX ?_
    refine wRn 1700 [0,2,3,4,5,8,9,10,11,21,22,23] fX ?_
    refine rU [(99999,dcB e)] [(99999,dcB (qao e vals).2)] fX ?_
    refine⟨_,hp1.fulD,rE fX ?_⟩
    refine wR0 2300 [0,2,3,4,5,8,9,10,21,22,23] fX ?_
    refine wR0 2400 [0,2,3,4,5,8,9,10,21,22,23] fX ?_
    refine wN ?_
    refine qay [99999,0,104,200,2604,702,2304] (by simp[inL]) (by simp[inL,T.cl]) (by simp[qaf,inL,Slot.cl,T.cl,clL,qab,qbL,lnC]) ?_
    simpa [qaf,inL,lnC] using hQ'
  ·have hQ':=hln _ _ ho1 (if_pos (.inr rfl))
   clear hln
   cases done with
   | nil=>
    simp only[qck,qcj,List.nil_append,List.append_nil,List.cons_append,List.length_nil,List.flatMap_cons,List.flatMap_nil,Nat.zero_add] at hQ' ⊢
    have fX:=(cJ5 @hd @hw @hw1 @hwk @qaF)
    refine qaa qbp.eq_1 ?_
    refine W_gc ?_
    refine wR0 1100 [0,2,3,4,5,8,9,10,21,22,23,36] fX ?_
    refine wT @hd ?_
    refine wR0 1200 [0,2,3,4,5,8,9,10,21,22,23] fX ?_
    refine wRn 1300 [0,2,3,4,5,8,9,10,11,21,22,23] fX ?_
    refine rU [(99999,dcB d)] [(99999,dcB e)] fX ?_
    refine⟨_,hpk.fulD,rE fX ?_⟩
    refine wR0 1400 [0,2,3,4,5,8,9,10,11,21,22,23,47] fX ?_
    refine wR0 1500 [0,2,3,4,5,8,9,10,11,21,22,23,47,48] fX ?_
    refine wF fX ?_
    refine wR0 1600 [0,2,3,4,5,8,9,10,11,21,22,23,47,48] fX ?_
    refine wT fX ?_
    refine wRn 1700 [0,2,3,4,5,8,9,10,11,21,22,23] fX ?_
    refine rU [(99999,dcB e)] [(99999,dcB (qao e vals).2)] fX ?_
    refine⟨_,hp1.fulD,rE fX ?_⟩
    refine wR0 2300 [0,2,3,4,5,8,9,10,21,22,23] fX ?_
    refine wR0 2400 [0,2,3,4,5,8,9,10,21,22,23] fX ?_
    refine wN ?_
    refine qay [99999,0,104,200,2604,702,2304] (by simp[inL]) (by simp[inL,T.cl]) (by simp[qaf,inL,Slot.cl,T.cl,clL]) ?_
    simpa [qaf,inL,lnC] using hQ'
   | cons z zs=>
    have hsn:∀c:Lne,(z::(zs++[c])).flatMap lnC=(z::zs).flatMap lnC++lnC c:=fun c=>by simp[List.flatMap_append]
    have hm2:(zs.length+1+1)*3=(zs.length+1)*3+3:=by omega
    have hfl:((z::zs).flatMap lnC).length=(zs.length+1)*3:=qch lnC 3 (fun _=>rfl) _
    have hzb:zs.length+1≤100000:=by simp at hdn;omega
    simp only[qck,qcj,List.cons_append,List.nil_append,List.length_append,List.length_cons,List.length_nil,Nat.zero_add,hsn,hm2] at hQ' ⊢
    have fX:=(cJ6 @hd @hw @hw1 @hwk @qaF @hfl)
    refine qaa qbp.eq_1 ?_
    refine W_gc ?_
    refine wR0 1100 [0,2,3,4,5,8,9,10,21,22,23,36] fX ?_
    refine wT @hd ?_
    refine wR0 1200 [0,2,3,4,5,8,9,10,21,22,23] fX ?_
    refine wRn 1300 [0,2,3,4,5,8,9,10,11,21,22,23] fX ?_
    refine rU [(99999,dcB d)] [(99999,dcB e)] fX ?_
    refine⟨_,hpk.fulD,rE fX ?_⟩
    refine wR0 1400 [0,2,3,4,5,8,9,10,11,21,22,23,47] fX ?_
    refine wR0 1500 [0,2,3,4,5,8,9,10,11,21,22,23,47,48] fX ?_
    refine wF fX ?_
    refine wR0 1600 [0,2,3,4,5,8,9,10,11,21,22,23,47,48] fX ?_
    refine wT fX ?_
    refine wRn 1700 [0,2,3,4,5,8,9,10,11,21,22,23] fX ?_
    refine rU [(99999,dcB e)] [(99999,dcB (qao e vals).2)] fX ?_
    refine⟨_,hp1.fulD,rE fX ?_⟩
    refine wR0 2300 [0,2,3,4,5,8,9,10,21,22,23] fX ?_
    refine wR0 2400 [0,2,3,4,5,8,9,10,21,22,23] fX ?_
    refine wN ?_
    refine qay [99999,0,104,200,2604,702,2304] (by simp[inL]) (by simp[inL,T.cl]) (by simp[qaf,inL,Slot.cl,T.cl,clL,qab,qbL,lnC]) ?_
    simpa [qaf,inL,lnC] using hQ'
  ·have hQ':=hln _ _ ho2 ((if_neg (by omega)).trans (if_pos (.inl rfl)))
   clear hln
   cases done with
   | nil=>
    simp only[qck,qcj,List.nil_append,List.append_nil,List.cons_append,List.length_nil,List.flatMap_cons,List.flatMap_nil,Nat.zero_add] at hQ' ⊢
    have fX:=(cJ5 @hd @hw @hw1 @hwk @qaF)
    refine qaa qbp.eq_1 ?_
    refine W_gc ?_
    refine wR0 1100 [0,2,3,4,5,8,9,10,21,22,23,36] fX ?_
    refine wT @hd ?_
    refine wR0 1200 [0,2,3,4,5,8,9,10,21,22,23] fX ?_
    refine wRn 1300 [0,2,3,4,5,8,9,10,11,21,22,23] fX ?_
    refine rU [(99999,dcB d)] [(99999,dcB e)] fX ?_
    refine⟨_,hpk.fulD,rE fX ?_⟩
    refine wR0 1400 [0,2,3,4,5,8,9,10,11,21,22,23,47] fX ?_
    refine wR0 1500 [0,2,3,4,5,8,9,10,11,21,22,23,47,48] fX ?_
    refine wF fX ?_
    refine wR0 1600 [0,2,3,4,5,8,9,10,11,21,22,23,47,48] fX ?_
    refine wF fX ?_
    refine wR0 1800 [0,2,3,4,5,8,9,10,11,21,22,23,47,56] fX ?_
    refine wT fX ?_
    refine wT fX ?_
    refine wRn 2000 [0,2,3,4,5,8,9,10,11,21,22,23] fX ?_
    refine rU [(99999,dcB e)] [(99999,dcB (qao e k).2)] fX ?_
    refine⟨_,hp2.fulD,rE fX ?_⟩
    refine wR0 2300 [0,2,3,4,5,8,9,10,21,22,23] fX ?_
    refine wR0 2400 [0,2,3,4,5,8,9,10,21,22,23] fX ?_
    refine wN ?_
    refine qay [99999,0,104,200,2604,702,2304] (by simp[inL]) (by simp[inL,T.cl]) (by simp[qaf,inL,Slot.cl,T.cl,clL]) ?_
    simpa [qaf,inL,lnC] using hQ'
   | cons z zs=>
    have hsn:∀c:Lne,(z::(zs++[c])).flatMap lnC=(z::zs).flatMap lnC++lnC c:=fun c=>by simp[List.flatMap_append]
    have hm2:(zs.length+1+1)*3=(zs.length+1)*3+3:=by omega
    have hfl:((z::zs).flatMap lnC).length=(zs.length+1)*3:=qch lnC 3 (fun _=>rfl) _
    have hzb:zs.length+1≤100000:=by simp at hdn;omega
    simp only[qck,qcj,List.cons_append,List.nil_append,List.length_append,List.length_cons,List.length_nil,Nat.zero_add,hsn,hm2] at hQ' ⊢
    have fX:=(cJ6 @hd @hw @hw1 @hwk @qaF @hfl)
    refine qaa qbp.eq_1 ?_
    refine W_gc ?_
    refine wR0 1100 [0,2,3,4,5,8,9,10,21,22,23,36] fX ?_
    refine wT @hd ?_
    refine wR0 1200 [0,2,3,4,5,8,9,10,21,22,23] fX ?_
    refine wRn 1300 [0,2,3,4,5,8,9,10,11,21,22,23] fX ?_
    refine rU [(99999,dcB d)] [(99999,dcB e)] fX ?_
    refine⟨_,hpk.fulD,rE fX ?_⟩
    refine wR0 1400 [0,2,3,4,5,8,9,10,11,21,22,23,47] fX ?_
    refine wR0 1500 [0,2,3,4,5,8,9,10,11,21,22,23,47,48] fX ?_
    refine wF fX ?_
    refine wR0 1600 [0,2,3,4,5,8,9,10,11,21,22,23,47,48] fX ?_
    refine wF fX ?_
    refine wR0 1800 [0,2,3,4,5,8,9,10,11,21,22,23,47,56] fX ?_
    refine wT fX ?_
    refine wT fX ?_
    refine wRn 2000 [0,2,3,4,5,8,9,10,11,21,22,23] fX ?_
    refine rU [(99999,dcB e)] [(99999,dcB (qao e k).2)] fX ?_
    refine⟨_,hp2.fulD,rE fX ?_⟩
    refine wR0 2300 [0,2,3,4,5,8,9,10,21,22,23] fX ?_
    refine wR0 2400 [0,2,3,4,5,8,9,10,21,22,23] fX ?_
    refine wN ?_
    refine qay [99999,0,104,200,2604,702,2304] (by simp[inL]) (by simp[inL,T.cl]) (by simp[qaf,inL,Slot.cl,T.cl,clL,qab,qbL,lnC]) ?_
    simpa [qaf,inL,lnC] using hQ'
  ·have hQ':=hln _ _ ho2 ((if_neg (by omega)).trans (if_pos (.inr rfl)))
   clear hln
   cases done with
   | nil=>
    simp only[qck,qcj,List.nil_append,List.append_nil,List.cons_append,List.length_nil,List.flatMap_cons,List.flatMap_nil,Nat.zero_add] at hQ' ⊢
    have fX:=(cJ5 @hd @hw @hw1 @hwk @qaF)
    refine qaa qbp.eq_1 ?_
    refine W_gc ?_
    refine wR0 1100 [0,2,3,4,5,8,9,10,21,22,23,36] fX ?_
    refine wT @hd ?_
    refine wR0 1200 [0,2,3,4,5,8,9,10,21,22,23] fX ?_
    refine wRn 1300 [0,2,3,4,5,8,9,10,11,21,22,23] fX ?_
    refine rU [(99999,dcB d)] [(99999,dcB e)] fX ?_
    refine⟨_,hpk.fulD,rE fX ?_⟩
    refine wR0 1400 [0,2,3,4,5,8,9,10,11,21,22,23,47] fX ?_
    refine wR0 1500 [0,2,3,4,5,8,9,10,11,21,22,23,47,48] fX ?_
    refine wF fX ?_
    refine wR0 1600 [0,2,3,4,5,8,9,10,11,21,22,23,47,48] fX ?_
    refine wF fX ?_
    refine wR0 1800 [0,2,3,4,5,8,9,10,11,21,22,23,47,56] fX ?_
    refine wF fX ?_
    refine wR0 1900 [0,2,3,4,5,8,9,10,11,21,22,23,47,56] fX ?_
    refine wT fX ?_
    refine wRn 2000 [0,2,3,4,5,8,9,10,11,21,22,23] fX ?_
    refine rU [(99999,dcB e)] [(99999,dcB (qao e k).2)] fX ?_
    refine⟨_,hp2.fulD,rE fX ?_⟩
    refine wR0 2300 [0,2,3,4,5,8,9,10,21,22,23] fX ?_
    refine wR0 2400 [0,2,3,4,5,8,9,10,21,22,23] fX ?_
    refine wN ?_
    refine qay [99999,0,104,200,2604,702,2304] (by simp[inL]) (by simp[inL,T.cl]) (by simp[qaf,inL,Slot.cl,T.cl,clL]) ?_
    simpa [qaf,inL,lnC] using hQ'
   | cons z zs=>
    have hsn:∀c:Lne,(z::(zs++[c])).flatMap lnC=(z::zs).flatMap lnC++lnC c:=fun c=>by simp[List.flatMap_append]
    have hm2:(zs.length+1+1)*3=(zs.length+1)*3+3:=by omega
    have hfl:((z::zs).flatMap lnC).length=(zs.length+1)*3:=qch lnC 3 (fun _=>rfl) _
    have hzb:zs.length+1≤100000:=by simp at hdn;omega
    simp only[qck,qcj,List.cons_append,List.nil_append,List.length_append,List.length_cons,List.length_nil,Nat.zero_add,hsn,hm2] at hQ' ⊢
    have fX:=(cJ6 @hd @hw @hw1 @hwk @qaF @hfl)
    refine qaa qbp.eq_1 ?_
    refine W_gc ?_
    refine wR0 1100 [0,2,3,4,5,8,9,10,21,22,23,36] fX ?_
    refine wT @hd ?_
    refine wR0 1200 [0,2,3,4,5,8,9,10,21,22,23] fX ?_
    refine wRn 1300 [0,2,3,4,5,8,9,10,11,21,22,23] fX ?_
    refine rU [(99999,dcB d)] [(99999,dcB e)] fX ?_
    refine⟨_,hpk.fulD,rE fX ?_⟩
    refine wR0 1400 [0,2,3,4,5,8,9,10,11,21,22,23,47] fX ?_
    refine wR0 1500 [0,2,3,4,5,8,9,10,11,21,22,23,47,48] fX ?_
    refine wF fX ?_
    refine wR0 1600 [0,2,3,4,5,8,9,10,11,21,22,23,47,48] fX ?_
    refine wF fX ?_
    refine wR0 1800 [0,2,3,4,5,8,9,10,11,21,22,23,47,56] fX ?_
    refine wF fX ?_
    refine wR0 1900 [0,2,3,4,5,8,9,10,11,21,22,23,47,56] fX ?_
    refine wT fX ?_
    refine wRn 2000 [0,2,3,4,5,8,9,10,11,21,22,23] fX ?_
    refine rU [(99999,dcB e)] [(99999,dcB (qao e k).2)] fX ?_
    refine⟨_,hp2.fulD,rE fX ?_⟩
    refine wR0 2300 [0,2,3,4,5,8,9,10,21,22,23] fX ?_
    refine wR0 2400 [0,2,3,4,5,8,9,10,21,22,23] fX ?_
    refine wN ?_
    refine qay [99999,0,104,200,2604,702,2304] (by simp[inL]) (by simp[inL,T.cl]) (by simp[qaf,inL,Slot.cl,T.cl,clL,qab,qbL,lnC]) ?_
    simpa [qaf,inL,lnC] using hQ'
  ·have hQ':=hln _ _ ho3 ((if_neg (by omega)).trans ((if_neg (by omega)).trans (if_pos rfl)))
   clear hln
   cases done with
   | nil=>
    simp only[qck,qcj,List.nil_append,List.append_nil,List.cons_append,List.length_nil,List.flatMap_cons,List.flatMap_nil,Nat.zero_add] at hQ' ⊢
    have fX:=(cJ5 @hd @hw @hw1 @hwk @qaF)
    refine qaa qbp.eq_1 ?_
    refine W_gc ?_
    refine wR0 1100 [0,2,3,4,5,8,9,10,21,22,23,36] fX ?_
    refine wT @hd ?_
    refine wR0 1200 [0,2,3,4,5,8,9,10,21,22,23] fX ?_
    refine wRn 1300 [0,2,3,4,5,8,9,10,11,21,22,23] fX ?_
    refine rU [(99999,dcB d)] [(99999,dcB e)] fX ?_
    refine⟨_,hpk.fulD,rE fX ?_⟩
    refine wR0 1400 [0,2,3,4,5,8,9,10,11,21,22,23,47] fX ?_
    refine wR0 1500 [0,2,3,4,5,8,9,10,11,21,22,23,47,48] fX ?_
    refine wF fX ?_
    refine wR0 1600 [0,2,3,4,5,8,9,10,11,21,22,23,47,48] fX ?_
    refine wF fX ?_
    refine wR0 1800 [0,2,3,4,5,8,9,10,11,21,22,23,47,56] fX ?_
    refine wF fX ?_
    refine wR0 1900 [0,2,3,4,5,8,9,10,11,21,22,23,47,56] fX ?_
    refine wF fX ?_
    refine wR0 2100 [0,2,3,4,5,8,9,10,11,21,22,23,63] fX ?_
    refine wT fX ?_
    refine wRn 2200 [0,2,3,4,5,8,9,10,11,21,22,23] fX ?_
    refine rU [(99999,dcB e)] [(99999,dcB (qao e nt).2)] fX ?_
    refine⟨_,hp3.fulD,rE fX ?_⟩
    refine wR0 2300 [0,2,3,4,5,8,9,10,21,22,23] fX ?_
    refine wR0 2400 [0,2,3,4,5,8,9,10,21,22,23] fX ?_
    refine wN ?_
    refine qay [99999,0,104,200,2604,702,2304] (by simp[inL]) (by simp[inL,T.cl]) (by simp[qaf,inL,Slot.cl,T.cl,clL]) ?_
    simpa [qaf,inL,lnC] using hQ'
   | cons z zs=>
    have hsn:∀c:Lne,(z::(zs++[c])).flatMap lnC=(z::zs).flatMap lnC++lnC c:=fun c=>by simp[List.flatMap_append]
    have hm2:(zs.length+1+1)*3=(zs.length+1)*3+3:=by omega
    have hfl:((z::zs).flatMap lnC).length=(zs.length+1)*3:=qch lnC 3 (fun _=>rfl) _
    have hzb:zs.length+1≤100000:=by simp at hdn;omega
    simp only[qck,qcj,List.cons_append,List.nil_append,List.length_append,List.length_cons,List.length_nil,Nat.zero_add,hsn,hm2] at hQ' ⊢
    have fX:=(cJ6 @hd @hw @hw1 @hwk @qaF @hfl)
    refine qaa qbp.eq_1 ?_
    refine W_gc ?_
    refine wR0 1100 [0,2,3,4,5,8,9,10,21,22,23,36] fX ?_
    refine wT @hd ?_
    refine wR0 1200 [0,2,3,4,5,8,9,10,21,22,23] fX ?_
    refine wRn 1300 [0,2,3,4,5,8,9,10,11,21,22,23] fX ?_
    refine rU [(99999,dcB d)] [(99999,dcB e)] fX ?_
    refine⟨_,hpk.fulD,rE fX ?_⟩
    refine wR0 1400 [0,2,3,4,5,8,9,10,11,21,22,23,47] fX ?_
    refine wR0 1500 [0,2,3,4,5,8,9,10,11,21,22,23,47,48] fX ?_
    refine wF fX ?_
    refine wR0 1600 [0,2,3,4,5,8,9,10,11,21,22,23,47,48] fX ?_
    refine wF fX ?_
    refine wR0 1800 [0,2,3,4,5,8,9,10,11,21,22,23,47,56] fX ?_
    refine wF fX ?_
    refine wR0 1900 [0,2,3,4,5,8,9,10,11,21,22,23,47,56] fX ?_
    refine wF fX ?_
    refine wR0 2100 [0,2,3,4,5,8,9,10,11,21,22,23,63] fX ?_
    refine wT fX ?_
    refine wRn 2200 [0,2,3,4,5,8,9,10,11,21,22,23] fX ?_
    refine rU [(99999,dcB e)] [(99999,dcB (qao e nt).2)] fX ?_
    refine⟨_,hp3.fulD,rE fX ?_⟩
    refine wR0 2300 [0,2,3,4,5,8,9,10,21,22,23] fX ?_
    refine wR0 2400 [0,2,3,4,5,8,9,10,21,22,23] fX ?_
    refine wN ?_
    refine qay [99999,0,104,200,2604,702,2304] (by simp[inL]) (by simp[inL,T.cl]) (by simp[qaf,inL,Slot.cl,T.cl,clL,qab,qbL,lnC]) ?_
    simpa [qaf,inL,lnC] using hQ'
  ·have hQ':=hln _ _ hok2 ((if_neg (by omega)).trans ((if_neg (by omega)).trans (if_neg (by omega))))
   clear hln
   cases done with
   | nil=>
    simp only[qck,qcj,List.nil_append,List.append_nil,List.cons_append,List.length_nil,List.flatMap_cons,List.flatMap_nil,Nat.zero_add] at hQ' ⊢
    have fX:=(cJ5 @hd @hw @hw1 @hwk @qaF)
    refine qaa qbp.eq_1 ?_
    refine W_gc ?_
    refine wR0 1100 [0,2,3,4,5,8,9,10,21,22,23,36] fX ?_
    refine wT @hd ?_
    refine wR0 1200 [0,2,3,4,5,8,9,10,21,22,23] fX ?_
    refine wRn 1300 [0,2,3,4,5,8,9,10,11,21,22,23] fX ?_
    refine rU [(99999,dcB d)] [(99999,dcB e)] fX ?_
    refine⟨_,hpk.fulD,rE fX ?_⟩
    refine wR0 1400 [0,2,3,4,5,8,9,10,11,21,22,23,47] fX ?_
    refine wR0 1500 [0,2,3,4,5,8,9,10,11,21,22,23,47,48] fX ?_
    refine wF fX ?_
    refine wR0 1600 [0,2,3,4,5,8,9,10,11,21,22,23,47,48] fX ?_
    refine wF fX ?_
    refine wR0 1800 [0,2,3,4,5,8,9,10,11,21,22,23,47,56] fX ?_
    refine wF fX ?_
    refine wR0 1900 [0,2,3,4,5,8,9,10,11,21,22,23,47,56] fX ?_
    refine wF fX ?_
    refine wR0 2100 [0,2,3,4,5,8,9,10,11,21,22,23,63] fX ?_
    refine wF fX ?_
    refine wR0 2300 [0,2,3,4,5,8,9,10,21,22,23] fX ?_
    refine wR0 2400 [0,2,3,4,5,8,9,10,21,22,23] fX ?_
    refine wN ?_
    refine qay [99999,0,104,200,2604,702,2304] (by simp[inL]) (by simp[inL,T.cl]) (by simp[qaf,inL,Slot.cl,T.cl,clL]) ?_
    simpa [qaf,inL,lnC] using hQ'
   | cons z zs=>
    have hsn:∀c:Lne,(z::(zs++[c])).flatMap lnC=(z::zs).flatMap lnC++lnC c:=fun c=>by simp[List.flatMap_append]
    have hm2:(zs.length+1+1)*3=(zs.length+1)*3+3:=by omega
    have hfl:((z::zs).flatMap lnC).length=(zs.length+1)*3:=qch lnC 3 (fun _=>rfl) _
    have hzb:zs.length+1≤100000:=by simp at hdn;omega
    simp only[qck,qcj,List.cons_append,List.nil_append,List.length_append,List.length_cons,List.length_nil,Nat.zero_add,hsn,hm2] at hQ' ⊢
    have fX:=(cJ6 @hd @hw @hw1 @hwk @qaF @hfl)
    refine qaa qbp.eq_1 ?_
    refine W_gc ?_
    refine wR0 1100 [0,2,3,4,5,8,9,10,21,22,23,36] fX ?_
    refine wT @hd ?_
    refine wR0 1200 [0,2,3,4,5,8,9,10,21,22,23] fX ?_
    refine wRn 1300 [0,2,3,4,5,8,9,10,11,21,22,23] fX ?_
    refine rU [(99999,dcB d)] [(99999,dcB e)] fX ?_
    refine⟨_,hpk.fulD,rE fX ?_⟩
    refine wR0 1400 [0,2,3,4,5,8,9,10,11,21,22,23,47] fX ?_
    refine wR0 1500 [0,2,3,4,5,8,9,10,11,21,22,23,47,48] fX ?_
    refine wF fX ?_
    refine wR0 1600 [0,2,3,4,5,8,9,10,11,21,22,23,47,48] fX ?_
    refine wF fX ?_
    refine wR0 1800 [0,2,3,4,5,8,9,10,11,21,22,23,47,56] fX ?_
    refine wF fX ?_
    refine wR0 1900 [0,2,3,4,5,8,9,10,11,21,22,23,47,56] fX ?_
    refine wF fX ?_
    refine wR0 2100 [0,2,3,4,5,8,9,10,11,21,22,23,63] fX ?_
    refine wF fX ?_
    refine wR0 2300 [0,2,3,4,5,8,9,10,21,22,23] fX ?_
    refine wR0 2400 [0,2,3,4,5,8,9,10,21,22,23] fX ?_
    refine wN ?_
    refine qay [99999,0,104,200,2604,702,2304] (by simp[inL]) (by simp[inL,T.cl]) (by simp[qaf,inL,Slot.cl,T.cl,clL,qab,qbL,lnC]) ?_
    simpa [qaf,inL,lnC] using hQ'
  ·have hQ':=hln _ _ hok2 ((if_neg (by omega)).trans ((if_neg (by omega)).trans (if_neg (by omega))))
   clear hln
   cases done with
   | nil=>
    simp only[qck,qcj,List.nil_append,List.append_nil,List.cons_append,List.length_nil,List.flatMap_cons,List.flatMap_nil,Nat.zero_add] at hQ' ⊢
    have fX:=(cJ5 @hd @hw @hw1 @hwk @qaF)
    refine qaa qbp.eq_1 ?_
    refine W_gc ?_
    refine wR0 1100 [0,2,3,4,5,8,9,10,21,22,23,36] fX ?_
    refine wT @hd ?_
    refine wR0 1200 [0,2,3,4,5,8,9,10,21,22,23] fX ?_
    refine wRn 1300 [0,2,3,4,5,8,9,10,11,21,22,23] fX ?_
    refine rU [(99999,dcB d)] [(99999,dcB e)] fX ?_
    refine⟨_,hpk.fulD,rE fX ?_⟩
    refine wR0 1400 [0,2,3,4,5,8,9,10,11,21,22,23,47] fX ?_
    refine wR0 1500 [0,2,3,4,5,8,9,10,11,21,22,23,47,48] fX ?_
    refine wF fX ?_
    refine wR0 1600 [0,2,3,4,5,8,9,10,11,21,22,23,47,48] fX ?_
    refine wF fX ?_
    refine wR0 1800 [0,2,3,4,5,8,9,10,11,21,22,23,47,56] fX ?_
    refine wF fX ?_
    refine wR0 1900 [0,2,3,4,5,8,9,10,11,21,22,23,47,56] fX ?_
    refine wF fX ?_
    refine wR0 2100 [0,2,3,4,5,8,9,10,11,21,22,23,63] fX ?_
    refine wF fX ?_
    refine wR0 2300 [0,2,3,4,5,8,9,10,21,22,23] fX ?_
    refine wR0 2400 [0,2,3,4,5,8,9,10,21,22,23] fX ?_
    refine wN ?_
    refine qay [99999,0,104,200,2604,702,2304] (by simp[inL]) (by simp[inL,T.cl]) (by simp[qaf,inL,Slot.cl,T.cl,clL]) ?_
    simpa [qaf,inL,lnC] using hQ'
   | cons z zs=>
    have hsn:∀c:Lne,(z::(zs++[c])).flatMap lnC=(z::zs).flatMap lnC++lnC c:=fun c=>by simp[List.flatMap_append]
    have hm2:(zs.length+1+1)*3=(zs.length+1)*3+3:=by omega
    have hfl:((z::zs).flatMap lnC).length=(zs.length+1)*3:=qch lnC 3 (fun _=>rfl) _
    have hzb:zs.length+1≤100000:=by simp at hdn;omega
    simp only[qck,qcj,List.cons_append,List.nil_append,List.length_append,List.length_cons,List.length_nil,Nat.zero_add,hsn,hm2] at hQ' ⊢
    have fX:=(cJ6 @hd @hw @hw1 @hwk @qaF @hfl)
    refine qaa qbp.eq_1 ?_
    refine W_gc ?_
    refine wR0 1100 [0,2,3,4,5,8,9,10,21,22,23,36] fX ?_
    refine wT @hd ?_
    refine wR0 1200 [0,2,3,4,5,8,9,10,21,22,23] fX ?_
    refine wRn 1300 [0,2,3,4,5,8,9,10,11,21,22,23] fX ?_
    refine rU [(99999,dcB d)] [(99999,dcB e)] fX ?_
    refine⟨_,hpk.fulD,rE fX ?_⟩
    refine wR0 1400 [0,2,3,4,5,8,9,10,11,21,22,23,47] fX ?_
    refine wR0 1500 [0,2,3,4,5,8,9,10,11,21,22,23,47,48] fX ?_
    refine wF fX ?_
    refine wR0 1600 [0,2,3,4,5,8,9,10,11,21,22,23,47,48] fX ?_
    refine wF fX ?_
    refine wR0 1800 [0,2,3,4,5,8,9,10,11,21,22,23,47,56] fX ?_
    refine wF fX ?_
    refine wR0 1900 [0,2,3,4,5,8,9,10,11,21,22,23,47,56] fX ?_
    refine wF fX ?_
    refine wR0 2100 [0,2,3,4,5,8,9,10,11,21,22,23,63] fX ?_
    refine wF fX ?_
    refine wR0 2300 [0,2,3,4,5,8,9,10,21,22,23] fX ?_
    refine wR0 2400 [0,2,3,4,5,8,9,10,21,22,23] fX ?_
    refine wN ?_
    refine qay [99999,0,104,200,2604,702,2304] (by simp[inL]) (by simp[inL,T.cl]) (by simp[qaf,inL,Slot.cl,T.cl,clL,qab,qbL,lnC]) ?_
    simpa [qaf,inL,lnC] using hQ'
end
section
open Go.RowKit
set_option maxHeartbeats 2000000
attribute [local simp] qau qav qaD qaJ qa1 qbo qaB qah qaT
theorem qcx {cs:List T}(h:cs.all T.one=true):Ones cs:=fun c hc=>List.all_eq_true.1 h c hc
abbrev prE (nt:Nat)(num i:Int):List (Nat×T):=[(0,dcR),(2,.ref 0 2 0),(3,.ref 104 2 0),(4,.sl 200 2 0 0 nt),(5,.int .i64 num),(21,.sl 200 2 0 0 nt),(22,.int .i64 (nt:Int)),(23,.int .i64 i)]
abbrev prH0 (vals:Int)(d:Dc):List (Nat×Slot):=[(99999,dcB d),(0,.live ⟨28,[.int .i64 0,.nil]⟩),(104,.live ⟨28,[.int .i64 vals,.nil]⟩),(200,qq2 ⟨#[109,97,105,110]⟩ ⟨#[119,111,114,107]⟩)]
abbrev prH1 (z:Th)(vals:Int)(d:Dc):List (Nat×Slot):=[(99999,dcB d),(0,.live ⟨28,[.int .i64 0,.nil]⟩),(104,.live ⟨28,[.int .i64 vals,.sl 2604 2 2 0 1]⟩),(200,qq2 ⟨#[109,97,105,110]⟩ ⟨#[119,111,114,107]⟩),(2604,.live ⟨88,thC z⟩)]
abbrev prH2 (z w:Th)(vals:Int)(d:Dc):List (Nat×Slot):=[(99999,dcB d),(0,.live ⟨28,[.int .i64 0,.nil]⟩),(104,.live ⟨28,[.int .i64 vals,.sl 2604 4 2 0 2]⟩),(200,qq2 ⟨#[109,97,105,110]⟩ ⟨#[119,111,114,107]⟩),(2604,.live ⟨88,thC z++thC w⟩)]
theorem qeZ {vals nt n:Nat}:∀(f:Nat) (num:Int) (d:Dc),(qby vals nt n f num d).1.length=f
 | 0,_,_=>rfl
 | f+1,num,d=>by rw[qby];simp only[List.length_cons];rw[qeZ f]
set_option maxHeartbeats 8000000 in
theorem pra  (vals nt:Nat)(hv:1≤vals∧vals≤2)(hnt:1≤nt∧nt≤2)(num:Int)(h0:0≤num∧num≤100)(d:Dc)(hok:d.ok)(L:List Lne)(d':Dc)(hLD:qby vals nt (cntD d) (cntD d) (num+1) (qao d 3).2=(L,d'))(Q:IExit→(Nat→T)→Heap→Prop)
 (hQ:WL Tryz.prog 86 qep (ofL (prE nt (num+1+cntD d+1) 1)) (hpL (prH1 ⟨⟨#[109,97,105,110]⟩,L⟩ vals d')) Q) :
 WL Tryz.prog 86 qep (ofL (prE nt num 0)) (hpL (prH0 vals d)) Q:=by
 have hpk:=qbN d hok 3 (by omega)
 have hr:=qa6 hok (n:=3) (by omega)
 have hok2:=qaL hok 3
 have hkk:(cntD d:Int)=1+(qao d 3).1:=by rw[cntD];omega
 have hlen:=qeZ (vals:=vals) (nt:=nt) (n:=cntD d) (cntD d) (num+1) (qao d 3).2
 rw[hLD] at hlen
 have hk3:cntD d≤3:=by omega
 have hk1:1≤cntD d:=by omega
 have hL:=fun Q a=>pqa_l1 vals nt (cntD d) hv (by omega) hk3 ⟨#[109,97,105,110]⟩ 0 (num+1+cntD d) (L,d') Q a (cntD d) 0 (num+1) (qao d 3).2 [] hok2 (by omega) rfl (by omega) (by omega) (by omega) (by rw[List.nil_append,hLD])
 have hwk:IntKind.wrap .i64 (1+(qao d 3).1)=(cntD d:Int):=by rw[wrap64 (by omega) (by omega),hkk]
 have hd:decide (0<(nt:Int))=true:=decide_eq_true (by omega)
 have hlt:0<(nt:Int):=by omega
 have hw:IntKind.wrap .i64 (0+1)=1:=rfl
 have hw1:IntKind.wrap .i64 (num+1)=num+1:=wrap64 (by omega) (by omega)
 have hw2:IntKind.wrap .i64 (num+1+cntD d+1)=num+1+cntD d+1:=wrap64 (by omega) (by omega)
 have hnm:List.take 1 (List.drop ((0:Int).toNat*1) [T.str ⟨#[109,97,105,110]⟩,.str ⟨#[119,111,114,107]⟩])=[.str ⟨#[109,97,105,110]⟩]:=rfl
 clear hkk hLD hr hok2
 generalize (qao d 3).1=x at*
 generalize (qao d 3).2=e at*
 generalize cntD d=k at*
 simp only at hlen
 cases L with
 | nil=>simp at hlen;omega
 | cons y ys=>
  simp only[prE,prH0,prH1,pqA,qck,qcj,List.cons_append,List.nil_append,List.append_nil,Int.natCast_zero] at hL hQ ⊢
  have fX:=(cJ7 @hd @hw @hw1 @hw2 @hwk @hnm @qaF)
  refine qaa qep.eq_1 ?_
  refine W_gc ?_
  refine wR0 500 [0,2,3,4,5,21,22,23,24] fX ?_
  refine wT @hd ?_
  refine wR0 600 [0,2,3,4,5,7,21,22,23] fX ?_
  refine wR0 700 [0,2,3,4,5,8,21,22,23] fX ?_
  refine wR0 800 [0,2,3,4,5,8,21,22,23] fX ?_
  refine wRn 900 [0,2,3,4,5,8,9,21,22,23] fX ?_
  refine rU [(99999,dcB d)] [(99999,dcB e)] fX ?_
  refine⟨_,hpk.fulD,rE fX ?_⟩
  refine wR0 1000 [0,2,3,4,5,8,9,10,21,22,23] fX ?_
  refine wL ?_
  refine hL _ ?_
  ·intro j
   refine wN ?_
   refine wR0 2500 [0,2,3,4,5,8,21,22,23] fX ?_
   simp only[thn]
   refine qbZ (l':=[(0,dcR),(2,.ref 0 2 0),(3,.ref 104 2 0),(4,.sl 200 2 0 0 nt),(5,.int .i64 (num+1+k+1)),(8,.ref 702 2 0),(21,.sl 200 2 0 0 nt),(22,.int .i64 (nt:Int)),(23,.int .i64 0)]) (hl':=prH0 vals d'++[(702,.live ⟨88,[.str ⟨#[109,97,105,110]⟩,.list (qa7 (y::ys))]⟩),(2304,.dead)]) [99999,0,104,200,2604,702] (.cons (.same rfl) (.cons (.same rfl) (.cons (.same rfl) (.cons (.same rfl) (.cons (.same rfl) (.cons (.same rfl) (.cons (.same rfl) (.cons (.same rfl) (.cons (.same rfl) .nil))))))))) (.keep rfl (qe8 _) (.keep rfl (.liveS rfl (qcx rfl)) (.keep rfl (.liveS rfl (qcx rfl)) (.keep rfl (.liveS rfl (qcx rfl)) ((.keep rfl (SlotFz.liveL (.cons (.same rfl) (.cons (qto (y::ys) rfl rfl) .nil)) rfl) (.dead rfl (fun h=>by cases h) .nil))))))) ?_
   simp only[prH0,List.cons_append,List.nil_append]
   refine wR0 2600 [0,2,3,4,5,21,22,23] fX ?_
   refine wR0 2700 [0,2,3,4,5,21,22,23] fX ?_
   refine wN ?_
   refine qay [99999,0,104,200,2604] (by simp[inL]) (by simp[inL,T.cl]) (by simp[qaf,inL,Slot.cl,T.cl,clL]) ?_
   simpa [qaf,inL,thC] using hQ
end
end Go.Proofs.YtkbjpglehdhjfaaGreatDoor
