/- Contracts of functions of the program, for all arguments that they name. -/
import Derived.Test.YtkbjpglehdhjfaaGreatDoorK17
namespace Go.Proofs.YtkbjpglehdhjfaaGreatDoor
set_option linter.unusedVariables false
section
open Go.RowKit
set_option maxHeartbeats 2000000
attribute [local simp] qau qav qaD qaJ qa1 qbo qaB qah qaT
theorem qbL (D:Nat→Bool)(l:List Lne):clL D (l.flatMap lnC)=true:=by
 induction l with
 | nil=>rfl
 | cons x l ih=>rw[List.flatMap_cons,qab,qa1,ih];rfl
theorem qto {H:Heap}{D:Nat→Bool}{id ty:Nat}(l:List Lne)(hd:D id=false)(hb:H id=.live ⟨ty,l.flatMap lnC⟩):Fz H D (.sl id (l.length*3) 3 0 l.length) (.list (qa7 l)):=
 qgW (x0:=default) (H:=H) (D:=D) lnC lnC 3 id ty (by omega) (fun _=>rfl) (fun _=>rfl) (fun c=>qbR c) l hd (fun c k hk=>.same (qbk (qa1 _ c) k)) hb
theorem qtp {H:Heap}{D:Nat→Bool}{id ty:Nat}(l:List Th)(hd:D id=false)(hb:H id=.live ⟨ty,l.flatMap thC⟩):Fz H D (.sl id (l.length*2) 2 0 l.length) (.list (qa4 l)):=
 qgW (x0:=default) (H:=H) (D:=D) thC thC 2 id ty (by omega) (fun _=>rfl) (fun _=>rfl) (fun c=>by intro x hx;simp only[thC,List.mem_cons,List.not_mem_nil,or_false] at hx;rcases hx with rfl | rfl<;>rfl) l hd (fun c k hk=>.same (qbk (qaJ _ c) k)) hb
def qck (id:Nat)(done:List Lne):T:=match done with
 | []=>.nil
 | d::ds=>.sl id ((ds.length+1)*3) 3 0 (ds.length+1)
def qcj (id ty:Nat)(done:List Lne):List (Nat×Slot):=match done with
 | []=>[]
 | d::ds=>[(id,.live ⟨ty,(d::ds).flatMap lnC⟩)]
abbrev pqE (nt k:Nat)(num i c:Int):List (Nat×T):=[(0,dcR),(2,.ref 0 2 0),(3,.ref 104 2 0),(4,.sl 200 2 0 0 nt),(5,.int .i64 num),(8,.ref 702 2 0),(9,.int .i64 (k:Int)),(10,.int .i64 i),(21,.sl 200 2 0 0 nt),(22,.int .i64 (nt:Int)),(23,.int .i64 c)]
abbrev pqA (vals:Int)(d:Dc)(s:ByteArray)(l:List Lne):List (Nat×Slot):=[(99999,dcB d),(0,.live ⟨28,[.int .i64 0,.nil]⟩),(104,.live ⟨28,[.int .i64 vals,.nil]⟩),(200,qq2 ⟨#[109,97,105,110]⟩ ⟨#[119,111,114,107]⟩),(702,.live ⟨88,[.str s,qck 2304 l]⟩)]++qcj 2304 85 l
abbrev pqB (z:Th)(vals:Int)(d:Dc)(s:ByteArray)(l:List Lne):List (Nat×Slot):=[(99999,dcB d),(0,.live ⟨28,[.int .i64 0,.nil]⟩),(104,.live ⟨28,[.int .i64 vals,.sl 2604 2 2 0 1]⟩),(200,qq2 ⟨#[109,97,105,110]⟩ ⟨#[119,111,114,107]⟩),(2604,.live ⟨88,thC z⟩),(702,.live ⟨88,[.str s,qck 2304 l]⟩)]++qcj 2304 85 l
set_option maxHeartbeats 16000000 in
theorem pqa_l1  (vals nt k:Nat)(hv:1≤vals∧vals≤2)(hnt:1≤nt∧nt≤2)(hk:k≤3)(s:ByteArray)(c NUM:Int)(R:List Lne×Dc)(Q:IExit→(Nat→T)→Heap→Prop)
 (hQ:∀j:Int,Q (.exit 2) (ofL (pqE nt k NUM j c++[(36,.bool false)])) (hpL (pqA vals R.2 s R.1))) :
 ∀(f i:Nat) (num:Int) (d:Dc) (done:List Lne),d.ok→i+f=k→done.length=i→0≤num→num+f≤1000→num+f=NUM→(done++(qby vals nt k f num d).1,(qby vals nt k f num d).2)=R→
 WL Tryz.prog 86 qbp (ofL (pqE nt k num i c)) (hpL (pqA vals d s done)) Q:=by
 simp only[pqE,pqA,List.cons_append,List.nil_append] at hQ ⊢
 intro f
 induction f with
 | zero=>
  intro i num d done hok hi hdn h0 h1 hN hR
  have hd:decide ((i:Int)<(k:Int))=false:=decide_eq_false (by omega)
  simp only[qby,List.append_nil] at hR
  have eN:num=NUM:=by simpa using hN
  subst hR eN
  have fX:=@hd
  refine qaa qbp.eq_1 ?_
  refine wR0 1100 [0,2,3,4,5,8,9,10,21,22,23,36] fX ?_
  refine wF @hd ?_
  refine wX ?_
  refine wN ?_
  exact hQ _
 | succ f ih=>
  intro i num d done hok hi hdn h0 h1 hN hR
  have hd:decide ((i:Int)<(k:Int))=true:=decide_eq_true (by omega)
  have hw:IntKind.wrap .i64 ((i:Int)+1)=((i+1:Nat):Int):=by rw[wrap64 (by omega) (by omega)];rfl
  have hw1:IntKind.wrap .i64 (num+1)=num+1:=wrap64 (by omega) (by omega)
  have hpk:=qbN d hok 7 (by omega)
  have hr:=qa6 hok (n:=7) (by omega)
  have hok2:=qaL hok 7
  rw[qby] at hR
  simp only at hR
  have hln:∀(l:Lne) (d':Dc),d'.ok→qih vals nt k (num+1) d=(l,d')→WL Tryz.prog 86 qbp (ofL (pqE nt k (num+1) ((i+1:Nat):Int) c)) (hpL (pqA vals d' s (done++[l]))) Q:=fun l d' hok' e=>by
   rw[e] at hR
   have:=ih (i+1) (num+1) d' (done++[l]) hok' (by omega) (by simp[hdn]) (by omega) (by omega) (by omega) (by rw[←hR];simp)
   simpa only [pqE,pqA,List.cons_append,List.nil_append] using this
  clear hR ih hQ
  simp only[qih] at hln
  obtain⟨x,hx⟩:∃x,(qao d 7).1=x:=⟨_,rfl⟩
  obtain⟨e,he⟩:∃e,(qao d 7).2=e:=⟨_,rfl⟩
  rw[hx,he] at hpk hln
  rw[hx] at hr
  rw[he] at hok2
  obtain⟨kk,hkk⟩:∃kk,1+x=kk:=⟨_,rfl⟩
  have hwk:IntKind.wrap .i64 (1+x)=kk:=by rw[wrap64 (by omega) (by omega),hkk]
  rw[hkk] at hln
  have hp1:=qbN e hok2 vals (by omega)
  have ho1:=qaL hok2 vals
  have hp2:=qbN e hok2 k (by omega)
  have ho2:=qaL hok2 k
  have hp3:=qbN e hok2 nt (by omega)
  have ho3:=qaL hok2 nt
  have hcs:kk=1∨kk=2∨kk=3∨kk=4∨kk=5∨kk=6∨kk=7:=by omega
  rcases hcs with rfl | rfl | rfl | rfl | rfl | rfl | rfl
  ·have hQ':=hln _ _ ho1 (if_pos (.inl rfl))
   clear hln
   cases done with
   | nil=>
    simp only[qck,qcj,List.nil_append,List.append_nil,List.cons_append,List.length_nil,List.flatMap_cons,List.flatMap_nil,Nat.zero_add] at hQ' ⊢
    have fX:=(cJ5 @hd @hw @hw1 @hwk @qaF)
    refine qaa qbp.eq_1 ?_
    refine W_gc ?_
    refine wR0 1100 [0,2,3,4,5,8,9,10,21,22,23,36] fX ?_
    refine wT @hd ?_
    refine wR0 1200 [0,2,3,4,5,8,9,10,21,22,23] fX ?_
    refine wRn 1300 [0,2,3,4,5,8,9,10,11,21,22,23] fX ?_
    refine rU [(99999,dcB d)] [(99999,dcB e)] fX ?_
    refine⟨_,hpk.fulD,rE fX ?_⟩
    refine wR0 1400 [0,2,3,4,5,8,9,10,11,21,22,23,47] fX ?_
    refine wR0 1500 [0,2,3,4,5,8,9,10,11,21,22,23,47,48] fX ?_
    refine wT fX ?_
    refine wT fX ?_
    refine wRn 1700 [0,2,3,4,5,8,9,10,11,21,22,23] fX ?_
    refine rU [(99999,dcB e)] [(99999,dcB (qao e vals).2)] fX ?_
    refine⟨_,hp1.fulD,rE fX ?_⟩
    refine wR0 2300 [0,2,3,4,5,8,9,10,21,22,23] fX ?_
    refine wR0 2400 [0,2,3,4,5,8,9,10,21,22,23] fX ?_
    refine wN ?_
    refine qay [99999,0,104,200,2604,702,2304] (by simp[inL]) (by simp[inL,T.cl]) (by simp[qaf,inL,Slot.cl,T.cl,clL]) ?_
    simpa [qaf,inL,lnC] using hQ'
   | cons z zs=>
    have hsn:∀c:Lne,(z::(zs++[c])).flatMap lnC=(z::zs).flatMap lnC++lnC c:=fun c=>by simp[List.flatMap_append]
    have hm2:(zs.length+1+1)*3=(zs.length+1)*3+3:=by omega
    have hfl:((z::zs).flatMap lnC).length=(zs.length+1)*3:=qch lnC 3 (fun _=>rfl) _
    have hzb:zs.length+1≤100000:=by simp at hdn;omega
    simp only[qck,qcj,List.cons_append,List.nil_append,List.length_append,List.length_cons,List.length_nil,Nat.zero_add,hsn,hm2] at hQ' ⊢
    have fX:=(cJ6 @hd @hw @hw1 @hwk @qaF @hfl)
    refine qaa qbp.eq_1 ?_
    refine W_gc ?_
    refine wR0 1100 [0,2,3,4,5,8,9,10,21,22,23,36] fX ?_
    refine wT @hd ?_
    refine wR0 1200 [0,2,3,4,5,8,9,10,21,22,23] fX ?_
    refine wRn 1300 [0,2,3,4,5,8,9,10,11,21,22,23] fX ?_
    refine rU [(99999,dcB d)] [(99999,dcB e)] fX ?_
    refine⟨_,hpk.fulD,rE fX ?_⟩
    refine wR0 1400 [0,2,3,4,5,8,9,10,11,21,22,23,47] fX ?_
    refine wR0 1500 [0,2,3,4,5,8,9,10,11,21,22,23,47,48] fX ?_
    refine wT fX ?_
    refine wT fX ?_
    refine wRn 1700 [0,2,3,4,5,8,9,10,11,21,22,23] fX ?_
    refine rU [(99999,dcB e)] [(99999,dcB (qao e vals).2)] fX ?_
    refine⟨_,hp1.fulD,rE fX ?_⟩
    refine wR0 2300 [0,2,3,4,5,8,9,10,21,22,23] fX ?_
    refine wR0 2400 [0,2,3,4,5,8,9,10,21,22,23] fX ?_
    refine wN ?_
    refine qay [99999,0,104,200,2604,702,2304] (by simp[inL]) (by simp[inL,T.cl]) (by simp[qaf,inL,Slot.cl,T.cl,clL,qab,qbL,lnC]) ?_
    simpa [qaf,inL,lnC] using hQ'
  ·have hQ':=hln _ _ ho1 (if_pos (.inr rfl))
   clear hln
   cases done with
   | nil=>
    simp only[qck,qcj,List.nil_append,List.append_nil,List.cons_append,List.length_nil,List.flatMap_cons,List.flatMap_nil,Nat.zero_add] at hQ' ⊢
    have fX:=(cJ5 @hd @hw @hw1 @hwk @qaF)
    refine qaa qbp.eq_1 ?_
    refine W_gc ?_
    refine wR0 1100 [0,2,3,4,5,8,9,10,21,22,23,36] fX ?_
    refine wT @hd ?_
    refine wR0 1200 [0,2,3,4,5,8,9,10,21,22,23] fX ?_
    refine wRn 1300 [0,2,3,4,5,8,9,10,11,21,22,23] fX ?_
    refine rU [(99999,dcB d)] [(99999,dcB e)] fX ?_
    refine⟨_,hpk.fulD,rE fX ?_⟩
    refine wR0 1400 [0,2,3,4,5,8,9,10,11,21,22,23,47] fX ?_
    refine wR0 1500 [0,2,3,4,5,8,9,10,11,21,22,23,47,48] fX ?_
    refine wF fX ?_
    refine wR0 1600 [0,2,3,4,5,8,9,10,11,21,22,23,47,48] fX ?_
    refine wT fX ?_
    refine wRn 1700 [0,2,3,4,5,8,9,10,11,21,22,23] fX ?_
    refine rU [(99999,dcB e)] [(99999,dcB (qao e vals).2)] fX ?_
    refine⟨_,hp1.fulD,rE fX ?_⟩
    refine wR0 2300 [0,2,3,4,5,8,9,10,21,22,23] fX ?_
    refine wR0 2400 [0,2,3,4,5,8,9,10,21,22,23] fX ?_
    refine wN ?_
    refine qay [99999,0,104,200,2604,702,2304] (by simp[inL]) (by simp[inL,T.cl]) (by simp[qaf,inL,Slot.cl,T.cl,clL]) ?_
    simpa [qaf,inL,lnC] using hQ'
   | cons z zs=>
    have hsn:∀c:Lne,(z::(zs++[c])).flatMap lnC=(z::zs).flatMap lnC++lnC c:=fun c=>by simp[List.flatMap_append]
    have hm2:(zs.length+1+1)*3=(zs.length+1)*3+3:=by omega
    have hfl:((z::zs).flatMap lnC).length=(zs.length+1)*3:=qch lnC 3 (fun _=>rfl) _
    have hzb:zs.length+1≤100000:=by simp at hdn;omega
    simp only[qck,qcj,List.cons_append,List.nil_append,List.length_append,List.length_cons,List.length_nil,Nat.zero_add,hsn,hm2] at hQ' ⊢
    have fX:=(cJ6 @hd @hw @hw1 @hwk @qaF @hfl)
    refine qaa qbp.eq_1 ?_
    refine W_gc ?_
    refine wR0 1100 [0,2,3,4,5,8,9,10,21,22,23,36] fX ?_
    refine wT @hd ?_
    refine wR0 1200 [0,2,3,4,5,8,9,10,21,22,23] fX ?_
    refine wRn 1300 [0,2,3,4,5,8,9,10,11,21,22,23] fX ?_
    refine rU [(99999,dcB d)] [(99999,dcB e)] fX ?_
    refine⟨_,hpk.fulD,rE fX ?_⟩
    refine wR0 1400 [0,2,3,4,5,8,9,10,11,21,22,23,47] fX ?_
    refine wR0 1500 [0,2,3,4,5,8,9,10,11,21,22,23,47,48] fX ?_
    refine wF fX ?_
    refine wR0 1600 [0,2,3,4,5,8,9,10,11,21,22,23,47,48] fX ?_
    refine wT fX ?_
    refine wRn 1700 [0,2,3,4,5,8,9,10,11,21,22,23] fX ?_
    refine rU [(99999,dcB e)] [(99999,dcB (qao e vals).2)] fX ?_
    refine⟨_,hp1.fulD,rE fX ?_⟩
    refine wR0 2300 [0,2,3,4,5,8,9,10,21,22,23] fX ?_
    refine wR0 2400 [0,2,3,4,5,8,9,10,21,22,23] fX ?_
    refine wN ?_
    refine qay [99999,0,104,200,2604,702,2304] (by simp[inL]) (by simp[inL,T.cl]) (by simp[qaf,inL,Slot.cl,T.cl,clL,qab,qbL,lnC]) ?_
    simpa [qaf,inL,lnC] using hQ'
  ·have hQ':=hln _ _ ho2 ((if_neg (by omega)).trans (if_pos (.inl rfl)))
   clear hln
   cases done with
   | nil=>
    simp only[qck,qcj,List.nil_append,List.append_nil,List.cons_append,List.length_nil,List.flatMap_cons,List.flatMap_nil,Nat.zero_add] at hQ' ⊢
    have fX:=(cJ5 @hd @hw @hw1 @hwk @qaF)
    refine qaa qbp.eq_1 ?_
    refine W_gc ?_
    refine wR0 1100 [0,2,3,4,5,8,9,10,21,22,23,36] fX ?_
    refine wT @hd ?_
    refine wR0 1200 [0,2,3,4,5,8,9,10,21,22,23] fX ?_
    refine wRn 1300 [0,2,3,4,5,8,9,10,11,21,22,23] fX ?_
    refine rU [(99999,dcB d)] [(99999,dcB e)] fX ?_
    refine⟨_,hpk.fulD,rE fX ?_⟩
    refine wR0 1400 [0,2,3,4,5,8,9,10,11,21,22,23,47] fX ?_
    refine wR0 1500 [0,2,3,4,5,8,9,10,11,21,22,23,47,48] fX ?_
    refine wF fX ?_
    refine wR0 1600 [0,2,3,4,5,8,9,10,11,21,22,23,47,48] fX ?_
    refine wF fX ?_
    refine wR0 1800 [0,2,3,4,5,8,9,10,11,21,22,23,47,56] fX ?_
    refine wT fX ?_
    refine wT fX ?_
    refine wRn 2000 [0,2,3,4,5,8,9,10,11,21,22,23] fX ?_
    refine rU [(99999,dcB e)] [(99999,dcB (qao e k).2)] fX ?_
    refine⟨_,hp2.fulD,rE fX ?_⟩
    refine wR0 2300 [0,2,3,4,5,8,9,10,21,22,23] fX ?_
    refine wR0 2400 [0,2,3,4,5,8,9,10,21,22,23] fX ?_
    refine wN ?_
    refine qay [99999,0,104,200,2604,702,2304] (by simp[inL]) (by simp[inL,T.cl]) (by simp[qaf,inL,Slot.cl,T.cl,clL]) ?_
    simpa [qaf,inL,lnC] using hQ'
   | cons z zs=>
    have hsn:∀c:Lne,(z::(zs++[c])).flatMap lnC=(z::zs).flatMap lnC++lnC c:=fun c=>by simp[List.flatMap_append]
    have hm2:(zs.length+1+1)*3=(zs.length+1)*3+3:=by omega
    have hfl:((z::zs).flatMap lnC).length=(zs.length+1)*3:=qch lnC 3 (fun _=>rfl) _
    have hzb:zs.length+1≤100000:=by simp at hdn;omega
    simp only[qck,qcj,List.cons_append,List.nil_append,List.length_append,List.length_cons,List.length_nil,Nat.zero_add,hsn,hm2] at hQ' ⊢
    have fX:=(cJ6 @hd @hw @hw1 @hwk @qaF @hfl)
    refine qaa qbp.eq_1 ?_
    refine W_gc ?_
    refine wR0 1100 [0,2,3,4,5,8,9,10,21,22,23,36] fX ?_
    refine wT @hd ?_
    refine wR0 1200 [0,2,3,4,5,8,9,10,21,22,23] fX ?_
    refine wRn 1300 [0,2,3,4,5,8,9,10,11,21,22,23] fX ?_
    refine rU [(99999,dcB d)] [(99999,dcB e)] fX ?_
    refine⟨_,hpk.fulD,rE fX ?_⟩
    refine wR0 1400 [0,2,3,4,5,8,9,10,11,21,22,23,47] fX ?_
    refine wR0 1500 [0,2,3,4,5,8,9,10,11,21,22,23,47,48] fX ?_
    refine wF fX ?_
    refine wR0 1600 [0,2,3,4,5,8,9,10,11,21,22,23,47,48] fX ?_
    refine wF fX ?_
    refine wR0 1800 [0,2,3,4,5,8,9,10,11,21,22,23,47,56] fX ?_
    refine wT fX ?_
    refine wT fX ?_
    refine wRn 2000 [0,2,3,4,5,8,9,10,11,21,22,23] fX ?_
    refine rU [(99999,dcB e)] [(99999,dcB (qao e k).2)] fX ?_
    refine⟨_,hp2.fulD,rE fX ?_⟩
    refine wR0 2300 [0,2,3,4,5,8,9,10,21,22,23] fX ?_
    refine wR0 2400 [0,2,3,4,5,8,9,10,21,22,23] fX ?_
    refine wN ?_
    refine qay [99999,0,104,200,2604,702,2304] (by simp[inL]) (by simp[inL,T.cl]) (by simp[qaf,inL,Slot.cl,T.cl,clL,qab,qbL,lnC]) ?_
    simpa [qaf,inL,lnC] using hQ'
  ·have hQ':=hln _ _ ho2 ((if_neg (by omega)).trans (if_pos (.inr rfl)))
   clear hln
   cases done with
   | nil=>
    simp only[qck,qcj,List.nil_append,List.append_nil,List.cons_append,List.length_nil,List.flatMap_cons,List.flatMap_nil,Nat.zero_add] at hQ' ⊢
    have fX:=(cJ5 @hd @hw @hw1 @hwk @qaF)
    refine qaa qbp.eq_1 ?_
    refine W_gc ?_
    refine wR0 1100 [0,2,3,4,5,8,9,10,21,22,23,36] fX ?_
    refine wT @hd ?_
    refine wR0 1200 [0,2,3,4,5,8,9,10,21,22,23] fX ?_
    refine wRn 1300 [0,2,3,4,5,8,9,10,11,21,22,23] fX ?_
    refine rU [(99999,dcB d)] [(99999,dcB e)] fX ?_
    refine⟨_,hpk.fulD,rE fX ?_⟩
    refine wR0 1400 [0,2,3,4,5,8,9,10,11,21,22,23,47] fX ?_
    refine wR0 1500 [0,2,3,4,5,8,9,10,11,21,22,23,47,48] fX ?_
    refine wF fX ?_
    refine wR0 1600 [0,2,3,4,5,8,9,10,11,21,22,23,47,48] fX ?_
    refine wF fX ?_
    refine wR0 1800 [0,2,3,4,5,8,9,10,11,21,22,23,47,56] fX ?_
    refine wF fX ?_
    refine wR0 1900 [0,2,3,4,5,8,9,10,11,21,22,23,47,56] fX ?_
    refine wT fX ?_
    refine wRn 2000 [0,2,3,4,5,8,9,10,11,21,22,23] fX ?_
    refine rU [(99999,dcB e)] [(99999,dcB (qao e k).2)] fX ?_
    refine⟨_,hp2.fulD,rE fX ?_⟩
    refine wR0 2300 [0,2,3,4,5,8,9,10,21,22,23] fX ?_
    refine wR0 2400 [0,2,3,4,5,8,9,10,21,22,23] fX ?_
    refine wN ?_
    refine qay [99999,0,104,200,2604,702,2304] (by simp[inL]) (by simp[inL,T.cl]) (by simp[qaf,inL,Slot.cl,T.cl,clL]) ?_
    simpa [qaf,inL,lnC] using hQ'
   | cons z zs=>
    have hsn:∀c:Lne,(z::(zs++[c])).flatMap lnC=(z::zs).flatMap lnC++lnC c:=fun c=>by simp[List.flatMap_append]
    have hm2:(zs.length+1+1)*3=(zs.length+1)*3+3:=by omega
    have hfl:((z::zs).flatMap lnC).length=(zs.length+1)*3:=qch lnC 3 (fun _=>rfl) _
    have hzb:zs.length+1≤100000:=by simp at hdn;omega
    simp only[qck,qcj,List.cons_append,List.nil_append,List.length_append,List.length_cons,List.length_nil,Nat.zero_add,hsn,hm2] at hQ' ⊢
    have fX:=(cJ6 @hd @hw @hw1 @hwk @qaF @hfl)
    refine qaa qbp.eq_1 ?_
    refine W_gc ?_
    refine wR0 1100 [0,2,3,4,5,8,9,10,21,22,23,36] fX ?_
    refine wT @hd ?_
    refine wR0 1200 [0,2,3,4,5,8,9,10,21,22,23] fX ?_
    refine wRn 1300 [0,2,3,4,5,8,9,10,11,21,22,23] fX ?_
    refine rU [(99999,dcB d)] [(99999,dcB e)] fX ?_
    refine⟨_,hpk.fulD,rE fX ?_⟩
    refine wR0 1400 [0,2,3,4,5,8,9,10,11,21,22,23,47] fX ?_
    refine wR0 1500 [0,2,3,4,5,8,9,10,11,21,22,23,47,48] fX ?_
    refine wF fX ?_
    refine wR0 1600 [0,2,3,4,5,8,9,10,11,21,22,23,47,48] fX ?_
    refine wF fX ?_
    refine wR0 1800 [0,2,3,4,5,8,9,10,11,21,22,23,47,56] fX ?_
    refine wF fX ?_
    refine wR0 1900 [0,2,3,4,5,8,9,10,11,21,22,23,47,56] fX ?_
    refine wT fX ?_
    refine wRn 2000 [0,2,3,4,5,8,9,10,11,21,22,23] fX ?_
    refine rU [(99999,dcB e)] [(99999,dcB (qao e k).2)] fX ?_
    refine⟨_,hp2.fulD,rE fX ?_⟩
    refine wR0 2300 [0,2,3,4,5,8,9,10,21,22,23] fX ?_
    refine wR0 2400 [0,2,3,4,5,8,9,10,21,22,23] fX ?_
    refine wN ?_
    refine qay [99999,0,104,200,2604,702,2304] (by simp[inL]) (by simp[inL,T.cl]) (by simp[qaf,inL,Slot.cl,T.cl,clL,qab,qbL,lnC]) ?_
    simpa [qaf,inL,lnC] using hQ'
  ·have hQ':=hln _ _ ho3 ((if_neg (by omega)).trans ((if_neg (by omega)).trans (if_pos rfl)))
   clear hln
   cases done with
   | nil=>
    simp only[qck,qcj,List.nil_append,List.append_nil,List.cons_append,List.length_nil,List.flatMap_cons,List.flatMap_nil,Nat.zero_add] at hQ' ⊢
    have fX:=(cJ5 @hd @hw @hw1 @hwk @qaF)
    refine qaa qbp.eq_1 ?_
    refine W_gc ?_
    refine wR0 1100 [0,2,3,4,5,8,9,10,21,22,23,36] fX ?_
    refine wT @hd ?_
    refine wR0 1200 [0,2,3,4,5,8,9,10,21,22,23] fX ?_
    refine wRn 1300 [0,2,3,4,5,8,9,10,11,21,22,23] fX ?_
    refine rU [(99999,dcB d)] [(99999,dcB e)] fX ?_
    refine⟨_,hpk.fulD,rE fX ?_⟩
    refine wR0 1400 [0,2,3,4,5,8,9,10,11,21,22,23,47] fX ?_
    refine wR0 1500 [0,2,3,4,5,8,9,10,11,21,22,23,47,48] fX ?_
    refine wF fX ?_
    refine wR0 1600 [0,2,3,4,5,8,9,10,11,21,22,23,47,48] fX ?_
    refine wF fX ?_
    refine wR0 1800 [0,2,3,4,5,8,9,10,11,21,22,23,47,56] fX ?_
    refine wF fX ?_
    refine wR0 1900 [0,2,3,4,5,8,9,10,11,21,22,23,47,56] fX ?_
    refine wF fX ?_
    refine wR0 2100 [0,2,3,4,5,8,9,10,11,21,22,23,63] fX ?_
    refine wT fX ?_
    refine wRn 2200 [0,2,3,4,5,8,9,10,11,21,22,23] fX ?_
    refine rU [(99999,dcB e)] [(99999,dcB (qao e nt).2)] fX ?_
    refine⟨_,hp3.fulD,rE fX ?_⟩
    refine wR0 2300 [0,2,3,4,5,8,9,10,21,22,23] fX ?_
    refine wR0 2400 [0,2,3,4,5,8,9,10,21,22,23] fX ?_
    refine wN ?_
    refine qay [99999,0,104,200,2604,702,2304] (by simp[inL]) (by simp[inL,T.cl]) (by simp[qaf,inL,Slot.cl,T.cl,clL]) ?_
    simpa [qaf,inL,lnC] using hQ'
   | cons z zs=>
    have hsn:∀c:Lne,(z::(zs++[c])).flatMap lnC=(z::zs).flatMap lnC++lnC c:=fun c=>by simp[List.flatMap_append]
    have hm2:(zs.length+1+1)*3=(zs.length+1)*3+3:=by omega
    have hfl:((z::zs).flatMap lnC).length=(zs.length+1)*3:=qch lnC 3 (fun _=>rfl) _
    have hzb:zs.length+1≤100000:=by simp at hdn;omega
    simp only[qck,qcj,List.cons_append,List.nil_append,List.length_append,List.length_cons,List.length_nil,Nat.zero_add,hsn,hm2] at hQ' ⊢
    have fX:=(cJ6 @hd @hw @hw1 @hwk @qaF @hfl)
    refine qaa qbp.eq_1 ?_
    refine W_gc ?_
    refine wR0 1100 [0,2,3,4,5,8,9,10,21,22,23,36] fX ?_
    refine wT @hd ?_
    refine wR0 1200 [0,2,3,4,5,8,9,10,21,22,23] fX ?_
    refine wRn 1300 [0,2,3,4,5,8,9,10,11,21,22,23] fX ?_
    refine rU [(99999,dcB d)] [(99999,dcB e)] fX ?_
    refine⟨_,hpk.fulD,rE fX ?_⟩
    refine wR0 1400 [0,2,3,4,5,8,9,10,11,21,22,23,47] fX ?_
    refine wR0 1500 [0,2,3,4,5,8,9,10,11,21,22,23,47,48] fX ?_
    refine wF fX ?_
    refine wR0 1600 [0,2,3,4,5,8,9,10,11,21,22,23,47,48] fX ?_
    refine wF fX ?_
    refine wR0 1800 [0,2,3,4,5,8,9,10,11,21,22,23,47,56] fX ?_
    refine wF fX ?_
    refine wR0 1900 [0,2,3,4,5,8,9,10,11,21,22,23,47,56] fX ?_
    refine wF fX ?_
    refine wR0 2100 [0,2,3,4,5,8,9,10,11,21,22,23,63] fX ?_
    refine wT fX ?_
    refine wRn 2200 [0,2,3,4,5,8,9,10,11,21,22,23] fX ?_
    refine rU [(99999,dcB e)] [(99999,dcB (qao e nt).2)] fX ?_
    refine⟨_,hp3.fulD,rE fX ?_⟩
    refine wR0 2300 [0,2,3,4,5,8,9,10,21,22,23] fX ?_
    refine wR0 2400 [0,2,3,4,5,8,9,10,21,22,23] fX ?_
    refine wN ?_
    refine qay [99999,0,104,200,2604,702,2304] (by simp[inL]) (by simp[inL,T.cl]) (by simp[qaf,inL,Slot.cl,T.cl,clL,qab,qbL,lnC]) ?_
    simpa [qaf,inL,lnC] using hQ'
  ·have hQ':=hln _ _ hok2 ((if_neg (by omega)).trans ((if_neg (by omega)).trans (if_neg (by omega))))
   clear hln
   cases done with
   | nil=>
    simp only[qck,qcj,List.nil_append,List.append_nil,List.cons_append,List.length_nil,List.flatMap_cons,List.flatMap_nil,Nat.zero_add] at hQ' ⊢
    have fX:=(cJ5 @hd @hw @hw1 @hwk @qaF)
    refine qaa qbp.eq_1 ?_
    refine W_gc ?_
    refine wR0 1100 [0,2,3,4,5,8,9,10,21,22,23,36] fX ?_
    refine wT @hd ?_
    refine wR0 1200 [0,2,3,4,5,8,9,10,21,22,23] fX ?_
    refine wRn 1300 [0,2,3,4,5,8,9,10,11,21,22,23] fX ?_
    refine rU [(99999,dcB d)] [(99999,dcB e)] fX ?_
    refine⟨_,hpk.fulD,rE fX ?_⟩
    refine wR0 1400 [0,2,3,4,5,8,9,10,11,21,22,23,47] fX ?_
    refine wR0 1500 [0,2,3,4,5,8,9,10,11,21,22,23,47,48] fX ?_
    refine wF fX ?_
    refine wR0 1600 [0,2,3,4,5,8,9,10,11,21,22,23,47,48] fX ?_
    refine wF fX ?_
    refine wR0 1800 [0,2,3,4,5,8,9,10,11,21,22,23,47,56] fX ?_
    refine wF fX ?_
    refine wR0 1900 [0,2,3,4,5,8,9,10,11,21,22,23,47,56] fX ?_
    refine wF fX ?_
    refine wR0 2100 [0,2,3,4,5,8,9,10,11,21,22,23,63] fX ?_
    refine wF fX ?_
    refine wR0 2300 [0,2,3,4,5,8,9,10,21,22,23] fX ?_
    refine wR0 2400 [0,2,3,4,5,8,9,10,21,22,23] fX ?_
    refine wN ?_
    refine qay [99999,0,104,200,2604,702,2304] (by simp[inL]) (by simp[inL,T.cl]) (by simp[qaf,inL,Slot.cl,T.cl,clL]) ?_
    simpa [qaf,inL,lnC] using hQ'
   | cons z zs=>
    have hsn:∀c:Lne,(z::(zs++[c])).flatMap lnC=(z::zs).flatMap lnC++lnC c:=fun c=>by simp[List.flatMap_append]
    have hm2:(zs.length+1+1)*3=(zs.length+1)*3+3:=by omega
    have hfl:((z::zs).flatMap lnC).length=(zs.length+1)*3:=qch lnC 3 (fun _=>rfl) _
    have hzb:zs.length+1≤100000:=by simp at hdn;omega
    simp only[qck,qcj,List.cons_append,List.nil_append,List.length_append,List.length_cons,List.length_nil,Nat.zero_add,hsn,hm2] at hQ' ⊢
    have fX:=(cJ6 @hd @hw @hw1 @hwk @qaF @hfl)
    refine qaa qbp.eq_1 ?_
    refine W_gc ?_
    refine wR0 1100 [0,2,3,4,5,8,9,10,21,22,23,36] fX ?_
    refine wT @hd ?_
    refine wR0 1200 [0,2,3,4,5,8,9,10,21,22,23] fX ?_
    refine wRn 1300 [0,2,3,4,5,8,9,10,11,21,22,23] fX ?_
    refine rU [(99999,dcB d)] [(99999,dcB e)] fX ?_
    refine⟨_,hpk.fulD,rE fX ?_⟩
    refine wR0 1400 [0,2,3,4,5,8,9,10,11,21,22,23,47] fX ?_
    refine wR0 1500 [0,2,3,4,5,8,9,10,11,21,22,23,47,48] fX ?_
    refine wF fX ?_
    refine wR0 1600 [0,2,3,4,5,8,9,10,11,21,22,23,47,48] fX ?_
    refine wF fX ?_
    refine wR0 1800 [0,2,3,4,5,8,9,10,11,21,22,23,47,56] fX ?_
    refine wF fX ?_
    refine wR0 1900 [0,2,3,4,5,8,9,10,11,21,22,23,47,56] fX ?_
    refine wF fX ?_
    refine wR0 2100 [0,2,3,4,5,8,9,10,11,21,22,23,63] fX ?_
    refine wF fX ?_
    refine wR0 2300 [0,2,3,4,5,8,9,10,21,22,23] fX ?_
    refine wR0 2400 [0,2,3,4,5,8,9,10,21,22,23] fX ?_
    refine wN ?_
    refine qay [99999,0,104,200,2604,702,2304] (by simp[inL]) (by simp[inL,T.cl]) (by simp[qaf,inL,Slot.cl,T.cl,clL,qab,qbL,lnC]) ?_
    simpa [qaf,inL,lnC] using hQ'
  ·have hQ':=hln _ _ hok2 ((if_neg (by omega)).trans ((if_neg (by omega)).trans (if_neg (by omega))))
   clear hln
   cases done with
   | nil=>
    simp only[qck,qcj,List.nil_append,List.append_nil,List.cons_append,List.length_nil,List.flatMap_cons,List.flatMap_nil,Nat.zero_add] at hQ' ⊢
    have fX:=(cJ5 @hd @hw @hw1 @hwk @qaF)
    refine qaa qbp.eq_1 ?_
    refine W_gc ?_
    refine wR0 1100 [0,2,3,4,5,8,9,10,21,22,23,36] fX ?_
    refine wT @hd ?_
    refine wR0 1200 [0,2,3,4,5,8,9,10,21,22,23] fX ?_
    refine wRn 1300 [0,2,3,4,5,8,9,10,11,21,22,23] fX ?_
    refine rU [(99999,dcB d)] [(99999,dcB e)] fX ?_
    refine⟨_,hpk.fulD,rE fX ?_⟩
    refine wR0 1400 [0,2,3,4,5,8,9,10,11,21,22,23,47] fX ?_
    refine wR0 1500 [0,2,3,4,5,8,9,10,11,21,22,23,47,48] fX ?_
    refine wF fX ?_
    refine wR0 1600 [0,2,3,4,5,8,9,10,11,21,22,23,47,48] fX ?_
    refine wF fX ?_
    refine wR0 1800 [0,2,3,4,5,8,9,10,11,21,22,23,47,56] fX ?_
    refine wF fX ?_
    refine wR0 1900 [0,2,3,4,5,8,9,10,11,21,22,23,47,56] fX ?_
    refine wF fX ?_
    refine wR0 2100 [0,2,3,4,5,8,9,10,11,21,22,23,63] fX ?_
    refine wF fX ?_
    refine wR0 2300 [0,2,3,4,5,8,9,10,21,22,23] fX ?_
    refine wR0 2400 [0,2,3,4,5,8,9,10,21,22,23] fX ?_
    refine wN ?_
    refine qay [99999,0,104,200,2604,702,2304] (by simp[inL]) (by simp[inL,T.cl]) (by simp[qaf,inL,Slot.cl,T.cl,clL]) ?_
    simpa [qaf,inL,lnC] using hQ'
   | cons z zs=>
    have hsn:∀c:Lne,(z::(zs++[c])).flatMap lnC=(z::zs).flatMap lnC++lnC c:=fun c=>by simp[List.flatMap_append]
    have hm2:(zs.length+1+1)*3=(zs.length+1)*3+3:=by omega
    have hfl:((z::zs).flatMap lnC).length=(zs.length+1)*3:=qch lnC 3 (fun _=>rfl) _
    have hzb:zs.length+1≤100000:=by simp at hdn;omega
    simp only[qck,qcj,List.cons_append,List.nil_append,List.length_append,List.length_cons,List.length_nil,Nat.zero_add,hsn,hm2] at hQ' ⊢
    have fX:=(cJ6 @hd @hw @hw1 @hwk @qaF @hfl)
    refine qaa qbp.eq_1 ?_
    refine W_gc ?_
    refine wR0 1100 [0,2,3,4,5,8,9,10,21,22,23,36] fX ?_
    refine wT @hd ?_
    refine wR0 1200 [0,2,3,4,5,8,9,10,21,22,23] fX ?_
    refine wRn 1300 [0,2,3,4,5,8,9,10,11,21,22,23] fX ?_
    refine rU [(99999,dcB d)] [(99999,dcB e)] fX ?_
    refine⟨_,hpk.fulD,rE fX ?_⟩
    refine wR0 1400 [0,2,3,4,5,8,9,10,11,21,22,23,47] fX ?_
    refine wR0 1500 [0,2,3,4,5,8,9,10,11,21,22,23,47,48] fX ?_
    refine wF fX ?_
    refine wR0 1600 [0,2,3,4,5,8,9,10,11,21,22,23,47,48] fX ?_
    refine wF fX ?_
    refine wR0 1800 [0,2,3,4,5,8,9,10,11,21,22,23,47,56] fX ?_
    refine wF fX ?_
    refine wR0 1900 [0,2,3,4,5,8,9,10,11,21,22,23,47,56] fX ?_
    refine wF fX ?_
    refine wR0 2100 [0,2,3,4,5,8,9,10,11,21,22,23,63] fX ?_
    refine wF fX ?_
    refine wR0 2300 [0,2,3,4,5,8,9,10,21,22,23] fX ?_
    refine wR0 2400 [0,2,3,4,5,8,9,10,21,22,23] fX ?_
    refine wN ?_
    refine qay [99999,0,104,200,2604,702,2304] (by simp[inL]) (by simp[inL,T.cl]) (by simp[qaf,inL,Slot.cl,T.cl,clL,qab,qbL,lnC]) ?_
    simpa [qaf,inL,lnC] using hQ'
end
end Go.Proofs.YtkbjpglehdhjfaaGreatDoor
