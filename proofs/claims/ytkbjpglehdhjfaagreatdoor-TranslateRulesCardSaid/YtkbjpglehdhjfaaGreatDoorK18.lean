/- Contracts of functions of the program, for all arguments that they name. -/
import Derived.Test.YtkbjpglehdhjfaaGreatDoorK17
namespace Go.Proofs.YtkbjpglehdhjfaaGreatDoor
set_option linter.unusedVariables false
section
open Go.RowKit
set_option maxHeartbeats 2000000
attribute [local simp] qau qav qaD qaJ qa1 qbo qaB qah qa5 qaI qdX
theorem qsx (s:ByteArray)(hs:s.size≤1000000):TP Tryz.prog 89 [.str s] (.bool (qcr s)):=by
 have hw:=qnk s hs
 have fX:=(cJ3 @binS.eq_1 @binS.eq_2 @binS.eq_3)
 refine qag fn89 (by simp) ?_
 unfold i89
 simp only[argL]
 refine wR0 0 [0] fX ?_
 refine wRn 100 [2] fX ?_
 refine rC fX ?_
 refine⟨_,hw,rE fX ?_⟩
 refine wP ?_
 exact qac (by rw[qcr,inS,rsvS];simp only[List.any_cons,List.any_nil,Bool.or_false,Bool.not_or,Bool.and_assoc])
abbrev rckE (p:Pg)(ln num:Int)(i:Int):List (Nat×T):=[(1,.ref 0 2 0),(3,.int .i64 ln),(4,.int .i64 num),(5,.int .i64 i)]
abbrev rckH (p:Pg)(t:Th):List (Nat×Slot):=[(0,.live ⟨28,pgC p⟩),(605,.live ⟨88,thC t⟩)]
theorem qnw (p:Pg)(k:Nat)(hk:k<p.ths.length):(qa4 p.ths).getD (k:Int).toNat .undef=.agg [.str (p.ths.getD k default).name,.list (qa7 (p.ths.getD k default).lines)]:=qeQ p.ths k hk
set_option maxHeartbeats 8000000 in
theorem quu (p:Pg)(t:Th)(ln num:Int)(i:Nat)(hi:i≤1000)(hl:i≤p.ths.length)(hne:∀k,k<i→((p.ths.getD k default).name.toList==t.name.toList)=false)(Q:IExit→(Nat→T)→Heap→Prop)
 (hQ:∀j:Int,Q (.exit 2) (ofL (rckE p ln num i++[(6,.ref 605 2 0),(7,.int .i64 j),(55,.bool false)])) (hpL (rckH p t))):∀(f k:Nat),k+f=i→
 WL Tryz.prog 125 qmB (ofL (rckE p ln num i++[(6,.ref 605 2 0),(7,.int .i64 k)])) (hpL (rckH p t)) Q:=by
 simp only[rckE,rckH,thC,pgC,List.cons_append,List.nil_append] at hQ ⊢
 intro f
 induction f with
 | zero=>
  intro k hk
  have hd:decide ((k:Int)<(i:Int))=false:=decide_eq_false (by omega)
  have fX:=@hd
  refine qaa qmB.eq_1 ?_
  refine wR0 1000 [1,3,4,5,6,7,55] fX ?_
  refine wF @hd ?_
  refine wX ?_
  refine wN ?_
  exact hQ _
 | succ f ih=>
  intro k hk
  have hd:decide ((k:Int)<(i:Int))=true:=decide_eq_true (by omega)
  have hlt:(k:Int)<((qa4 p.ths).length:Int):=by rw[qbd];omega
  have hw:IntKind.wrap .i64 ((k:Int)+1)=((k+1:Nat):Int):=by rw[wrap64 (by omega) (by omega)];rfl
  have hg:=qnw p k (by omega)
  have hn:=hne k (by omega)
  have hQ':=ih (k+1) (by omega)
  generalize p.ths.getD k default=u at*
  have fX:=(cJ7 @hd @hw @hg @binS.eq_1 @binS.eq_2 @binS.eq_3 @hn)
  refine qaa qmB.eq_1 ?_
  refine wR0 1000 [1,3,4,5,6,7,55] fX ?_
  refine wT @hd ?_
  refine wR0 1100 [1,3,4,5,6,7,66] fX ?_
  refine wF @hn ?_
  refine wR0 1300 [1,3,4,5,6,7] fX ?_
  refine wN ?_
  exact hQ'
abbrev rdE (p:Pg)(ln num:Int)(i k:Int):List (Nat×T):=rckE p ln num i++[(6,.ref 605 2 0),(8,.int .i64 k)]
set_option maxHeartbeats 8000000 in
theorem quv (p:Pg)(t:Th)(hl:t.lines.length≤6)(i:Int)(Q:IExit→(Nat→T)→Heap→Prop):∀(rest:List Lne) (k:Nat) (ln num:Int),t.lines.drop k=rest→k+rest.length=t.lines.length→0≤num→num≤1000+k→0≤ln→ln≤1000+k→
 qc8 p t.lines.length rest num=true→(∀j:Int,Q (.exit 4) (ofL (rdE p (ln+rest.length) (num+rest.length) i j++[(73,.bool false)])) (hpL (rckH p t)))→
 WL Tryz.prog 125 qfb (ofL (rdE p ln num i k)) (hpL (rckH p t)) Q:=by
 simp only[rdE,rckE,rckH,thC,pgC,List.cons_append,List.nil_append]
 intro rest
 induction rest with
 | nil=>
  intro k ln num he hk h0 h1 h2 h3 hB hQ
  have hd:decide ((k:Int)<((qa7 t.lines).length:Int))=false:=decide_eq_false (by rw[qa8];simp at hk;omega)
  simp only[List.length_nil,Int.natCast_zero,Int.add_zero] at hQ
  have fX:=@hd
  refine qaa qfb.eq_1 ?_
  refine wR0 1600 [1,3,4,5,6,8,73] fX ?_
  refine wF @hd ?_
  refine wX ?_
  refine wN ?_
  exact hQ _
 | cons l rest ih=>
  intro k ln num he hk h0 h1 h2 h3 hB hQ
  simp only[List.length_cons] at hk
  have hkl:k<t.lines.length:=by omega
  have hlt:(k:Int)<((qa7 t.lines).length:Int):=by rw[qa8];omega
  have hd:decide ((k:Int)<((qa7 t.lines).length:Int))=true:=decide_eq_true hlt
  have hg:=qgc t.lines k hkl
  have hll:t.lines.getD k default=l:=drop_at hkl he
  rw[hll] at hg
  have hw:IntKind.wrap .i64 ((k:Int)+1)=((k+1:Nat):Int):=by rw[wrap64 (by omega) (by omega)];rfl
  have hw1:IntKind.wrap .i64 (num+1)=num+1:=wrap64 (by omega) (by omega)
  have hw2:IntKind.wrap .i64 (ln+1)=ln+1:=wrap64 (by omega) (by omega)
  rw[qc8,Bool.and_eq_true] at hB
  have e1:num+((l::rest).length:Int)=num+1+(rest.length:Int):=by simp;omega
  have e2:ln+((l::rest).length:Int)=ln+1+(rest.length:Int):=by simp;omega
  rw[e1,e2] at hQ
  have hQ':=ih (k+1) (ln+1) (num+1) (by rw[←List.drop_drop,he];rfl) (by omega) (by omega) (by omega) (by omega) (by omega) hB.2 hQ
  have hb:=hB.1
  have hkk:=(qjL hb).k
  simp only[qfL,Bool.and_eq_true,decide_eq_true_eq,beq_iff_eq] at hb
  obtain⟨⟨hb0,hb1⟩,hb2⟩:=hb
  clear hB hQ
  obtain⟨kk,a,nm⟩:=l
  simp only[lnC] at hg hb0 hb1 hb2 hkk
  subst hb2
  have hnm:((num+1) != (num+1))=false:=by simp
  have ha0:decide (a<0)=false:=decide_eq_false (by omega)
  have hln:=qa8 t.lines
  have htn:=qbd p.ths
  have hcs:kk=1∨kk=2∨kk=3∨kk=4∨kk=5∨kk=6∨kk=7:=by omega
  rcases hcs with rfl | rfl | rfl | rfl | rfl | rfl | rfl
  ·have ha1:decide (a≥p.vals)=false:=decide_eq_false (by simp[qcV] at hb1;omega)
   have fX:=(cJ8 @hd @hw @hw1 @hw2 @hg @hnm @ha0 @ha1)
   refine qaa qfb.eq_1 ?_
   refine W_gc ?_
   refine wR0 1600 [1,3,4,5,6,8,73] fX ?_
   refine wT @hd ?_
   refine wR0 1700 [1,3,4,5,6,8,9] fX ?_
   refine wR0 1800 [1,3,4,5,6,8,9] fX ?_
   refine wR0 1900 [1,3,4,5,6,8,9] fX ?_
   refine wR0 2000 [1,3,4,5,6,8,9,10] fX ?_
   refine wR0 2100 [1,3,4,5,6,8,9,10,86] fX ?_
   refine wR0 2200 [1,3,4,5,6,8,9,10,86,87] fX ?_
   refine wT fX ?_
   refine wT fX ?_
   refine wR0 2400 [1,3,4,5,6,8,9,10] fX ?_
   refine wR0 3300 [1,3,4,5,6,8,120] fX ?_
   refine wF fX ?_
   refine wR0 3500 [1,3,4,5,6,8] fX ?_
   refine wN ?_
   refine qay [0,605] (by simp[inL]) (by simp[inL,T.cl]) (by simp[qaf,inL,Slot.cl,T.cl,clL]) ?_
   simpa [qaf,inL] using hQ'
  ·have ha1:decide (a≥p.vals)=false:=decide_eq_false (by simp[qcV] at hb1;omega)
   have fX:=(cJ8 @hd @hw @hw1 @hw2 @hg @hnm @ha0 @ha1)
   refine qaa qfb.eq_1 ?_
   refine W_gc ?_
   refine wR0 1600 [1,3,4,5,6,8,73] fX ?_
   refine wT @hd ?_
   refine wR0 1700 [1,3,4,5,6,8,9] fX ?_
   refine wR0 1800 [1,3,4,5,6,8,9] fX ?_
   refine wR0 1900 [1,3,4,5,6,8,9] fX ?_
   refine wR0 2000 [1,3,4,5,6,8,9,10] fX ?_
   refine wR0 2100 [1,3,4,5,6,8,9,10,86] fX ?_
   refine wR0 2200 [1,3,4,5,6,8,9,10,86,87] fX ?_
   refine wF fX ?_
   refine wR0 2300 [1,3,4,5,6,8,9,10,86,87] fX ?_
   refine wT fX ?_
   refine wR0 2400 [1,3,4,5,6,8,9,10] fX ?_
   refine wR0 3300 [1,3,4,5,6,8,120] fX ?_
   refine wF fX ?_
   refine wR0 3500 [1,3,4,5,6,8] fX ?_
   refine wN ?_
   refine qay [0,605] (by simp[inL]) (by simp[inL,T.cl]) (by simp[qaf,inL,Slot.cl,T.cl,clL]) ?_
   simpa [qaf,inL] using hQ'
  ·have ha1:decide (a≥((qa7 t.lines).length:Int))=false:=decide_eq_false (by rw[hln];simp[qcV] at hb1;omega)
   have fX:=(cJ8 @hd @hw @hw1 @hw2 @hg @hnm @ha0 @ha1)
   refine qaa qfb.eq_1 ?_
   refine W_gc ?_
   refine wR0 1600 [1,3,4,5,6,8,73] fX ?_
   refine wT @hd ?_
   refine wR0 1700 [1,3,4,5,6,8,9] fX ?_
   refine wR0 1800 [1,3,4,5,6,8,9] fX ?_
   refine wR0 1900 [1,3,4,5,6,8,9] fX ?_
   refine wR0 2000 [1,3,4,5,6,8,9,10] fX ?_
   refine wR0 2100 [1,3,4,5,6,8,9,10,86] fX ?_
   refine wR0 2200 [1,3,4,5,6,8,9,10,86,87] fX ?_
   refine wF fX ?_
   refine wR0 2300 [1,3,4,5,6,8,9,10,86,87] fX ?_
   refine wF fX ?_
   refine wR0 2500 [1,3,4,5,6,8,9,10,86,92] fX ?_
   refine wT fX ?_
   refine wT fX ?_
   refine wR0 2700 [1,3,4,5,6,8,9,10] fX ?_
   refine wR0 3300 [1,3,4,5,6,8,120] fX ?_
   refine wF fX ?_
   refine wR0 3500 [1,3,4,5,6,8] fX ?_
   refine wN ?_
   refine qay [0,605] (by simp[inL]) (by simp[inL,T.cl]) (by simp[qaf,inL,Slot.cl,T.cl,clL]) ?_
   simpa [qaf,inL] using hQ'
  ·have ha1:decide (a≥((qa7 t.lines).length:Int))=false:=decide_eq_false (by rw[hln];simp[qcV] at hb1;omega)
   have fX:=(cJ8 @hd @hw @hw1 @hw2 @hg @hnm @ha0 @ha1)
   refine qaa qfb.eq_1 ?_
   refine W_gc ?_
   refine wR0 1600 [1,3,4,5,6,8,73] fX ?_
   refine wT @hd ?_
   refine wR0 1700 [1,3,4,5,6,8,9] fX ?_
   refine wR0 1800 [1,3,4,5,6,8,9] fX ?_
   refine wR0 1900 [1,3,4,5,6,8,9] fX ?_
   refine wR0 2000 [1,3,4,5,6,8,9,10] fX ?_
   refine wR0 2100 [1,3,4,5,6,8,9,10,86] fX ?_
   refine wR0 2200 [1,3,4,5,6,8,9,10,86,87] fX ?_
   refine wF fX ?_
   refine wR0 2300 [1,3,4,5,6,8,9,10,86,87] fX ?_
   refine wF fX ?_
   refine wR0 2500 [1,3,4,5,6,8,9,10,86,92] fX ?_
   refine wF fX ?_
   refine wR0 2600 [1,3,4,5,6,8,9,10,86,92] fX ?_
   refine wT fX ?_
   refine wR0 2700 [1,3,4,5,6,8,9,10] fX ?_
   refine wR0 3300 [1,3,4,5,6,8,120] fX ?_
   refine wF fX ?_
   refine wR0 3500 [1,3,4,5,6,8] fX ?_
   refine wN ?_
   refine qay [0,605] (by simp[inL]) (by simp[inL,T.cl]) (by simp[qaf,inL,Slot.cl,T.cl,clL]) ?_
   simpa [qaf,inL] using hQ'
  ·have ha1:decide (a≥((qa4 p.ths).length:Int))=false:=decide_eq_false (by rw[htn];simp[qcV] at hb1;omega)
   have fX:=(cJ8 @hd @hw @hw1 @hw2 @hg @hnm @ha0 @ha1)
   refine qaa qfb.eq_1 ?_
   refine W_gc ?_
   refine wR0 1600 [1,3,4,5,6,8,73] fX ?_
   refine wT @hd ?_
   refine wR0 1700 [1,3,4,5,6,8,9] fX ?_
   refine wR0 1800 [1,3,4,5,6,8,9] fX ?_
   refine wR0 1900 [1,3,4,5,6,8,9] fX ?_
   refine wR0 2000 [1,3,4,5,6,8,9,10] fX ?_
   refine wR0 2100 [1,3,4,5,6,8,9,10,86] fX ?_
   refine wR0 2200 [1,3,4,5,6,8,9,10,86,87] fX ?_
   refine wF fX ?_
   refine wR0 2300 [1,3,4,5,6,8,9,10,86,87] fX ?_
   refine wF fX ?_
   refine wR0 2500 [1,3,4,5,6,8,9,10,86,92] fX ?_
   refine wF fX ?_
   refine wR0 2600 [1,3,4,5,6,8,9,10,86,92] fX ?_
   refine wF fX ?_
   refine wR0 2800 [1,3,4,5,6,8,9,10,86,98] fX ?_
   refine wT fX ?_
   refine wR0 2900 [1,3,4,5,6,8,9,10] fX ?_
   refine wR0 3300 [1,3,4,5,6,8,120] fX ?_
   refine wF fX ?_
   refine wR0 3500 [1,3,4,5,6,8] fX ?_
   refine wN ?_
   refine qay [0,605] (by simp[inL]) (by simp[inL,T.cl]) (by simp[qaf,inL,Slot.cl,T.cl,clL]) ?_
   simpa [qaf,inL] using hQ'
  ·have ha1:decide (a≥(1:Int))=false:=decide_eq_false (by simp[qcV] at hb1;omega)
   have fX:=(cJ8 @hd @hw @hw1 @hw2 @hg @hnm @ha0 @ha1)
   refine qaa qfb.eq_1 ?_
   refine W_gc ?_
   refine wR0 1600 [1,3,4,5,6,8,73] fX ?_
   refine wT @hd ?_
   refine wR0 1700 [1,3,4,5,6,8,9] fX ?_
   refine wR0 1800 [1,3,4,5,6,8,9] fX ?_
   refine wR0 1900 [1,3,4,5,6,8,9] fX ?_
   refine wR0 2000 [1,3,4,5,6,8,9,10] fX ?_
   refine wR0 2100 [1,3,4,5,6,8,9,10,86] fX ?_
   refine wR0 2200 [1,3,4,5,6,8,9,10,86,87] fX ?_
   refine wF fX ?_
   refine wR0 2300 [1,3,4,5,6,8,9,10,86,87] fX ?_
   refine wF fX ?_
   refine wR0 2500 [1,3,4,5,6,8,9,10,86,92] fX ?_
   refine wF fX ?_
   refine wR0 2600 [1,3,4,5,6,8,9,10,86,92] fX ?_
   refine wF fX ?_
   refine wR0 2800 [1,3,4,5,6,8,9,10,86,98] fX ?_
   refine wF fX ?_
   refine wR0 3000 [1,3,4,5,6,8,9,10,86,103] fX ?_
   refine wT fX ?_
   refine wT fX ?_
   refine wR0 3200 [1,3,4,5,6,8,9,10] fX ?_
   refine wR0 3300 [1,3,4,5,6,8,120] fX ?_
   refine wF fX ?_
   refine wR0 3500 [1,3,4,5,6,8] fX ?_
   refine wN ?_
   refine qay [0,605] (by simp[inL]) (by simp[inL,T.cl]) (by simp[qaf,inL,Slot.cl,T.cl,clL]) ?_
   simpa [qaf,inL] using hQ'
  ·have ha1:decide (a≥(1:Int))=false:=decide_eq_false (by simp[qcV] at hb1;omega)
   have fX:=(cJ8 @hd @hw @hw1 @hw2 @hg @hnm @ha0 @ha1)
   refine qaa qfb.eq_1 ?_
   refine W_gc ?_
   refine wR0 1600 [1,3,4,5,6,8,73] fX ?_
   refine wT @hd ?_
   refine wR0 1700 [1,3,4,5,6,8,9] fX ?_
   refine wR0 1800 [1,3,4,5,6,8,9] fX ?_
   refine wR0 1900 [1,3,4,5,6,8,9] fX ?_
   refine wR0 2000 [1,3,4,5,6,8,9,10] fX ?_
   refine wR0 2100 [1,3,4,5,6,8,9,10,86] fX ?_
   refine wR0 2200 [1,3,4,5,6,8,9,10,86,87] fX ?_
   refine wF fX ?_
   refine wR0 2300 [1,3,4,5,6,8,9,10,86,87] fX ?_
   refine wF fX ?_
   refine wR0 2500 [1,3,4,5,6,8,9,10,86,92] fX ?_
   refine wF fX ?_
   refine wR0 2600 [1,3,4,5,6,8,9,10,86,92] fX ?_
   refine wF fX ?_
   refine wR0 2800 [1,3,4,5,6,8,9,10,86,98] fX ?_
   refine wF fX ?_
   refine wR0 3000 [1,3,4,5,6,8,9,10,86,103] fX ?_
   refine wF fX ?_
   refine wR0 3100 [1,3,4,5,6,8,9,10,103] fX ?_
   refine wT fX ?_
   refine wR0 3200 [1,3,4,5,6,8,9,10] fX ?_
   refine wR0 3300 [1,3,4,5,6,8,120] fX ?_
   refine wF fX ?_
   refine wR0 3500 [1,3,4,5,6,8] fX ?_
   refine wN ?_
   refine qay [0,605] (by simp[inL]) (by simp[inL,T.cl]) (by simp[qaf,inL,Slot.cl,T.cl,clL]) ?_
   simpa [qaf,inL] using hQ'
theorem quB {p:Pg}{t:Th}{i:Nat}(hi:i≤p.ths.length)(h:inS t.name ((p.ths.take i).map (·.name))=false):∀k,k<i→((p.ths.getD k default).name.toList==t.name.toList)=false:=by
 intro k hk
 rw[inS,List.any_eq_false] at h
 have hm:(p.ths.getD k default).name∈(p.ths.take i).map (·.name):=by
  refine List.mem_map.2 ⟨p.ths[k]'(by omega),?_,by simp[List.getD_eq_getElem?_getD,show k<p.ths.length by omega]⟩
  exact List.mem_take_iff_getElem.2 ⟨k,by omega,rfl⟩
 have:=h _ hm
 rw[Bool.eq_false_iff]
 intro e
 exact this (by rw[beq_iff_eq] at e ⊢;exact e.symm)
set_option maxHeartbeats 8000000 in
theorem qut (p:Pg)(hp:p.fit)(h6:p.ths.length≤6)(LN:Int)(hLN:LN≤6)(Q:IExit→(Nat→T)→Heap→Prop)(hQ:∀num i:Int,Q (.exit 0) (ofL (rckE p LN num i++[(35,.bool false)])) (hpL [(0,.live ⟨28,pgC p⟩)])):∀(rest:List Th) (i c:Nat) (num:Int),p.ths.drop i=rest→i+rest.length=p.ths.length→c≤6→0≤num→num≤10*i+c+1→thsB p rest ((p.ths.take i).map (·.name)) c num=true→(c:Int)+qcd rest=LN→
 WL Tryz.prog 125 qmA (ofL (rckE p c num i)) (hpL [(0,.live ⟨28,pgC p⟩)]) Q:=by
 simp only[rckE,pgC,List.cons_append,List.nil_append] at hQ ⊢
 intro rest
 induction rest with
 | nil=>
  intro i c num he hi hc h0 h1 hB hR
  have hd:decide ((i:Int)<((qa4 p.ths).length:Int))=false:=decide_eq_false (by rw[qbd];simp at hi;omega)
  simp only[qcd,List.map_nil,List.sum_nil,Int.natCast_zero,Int.add_zero] at hR
  subst hR
  have fX:=@hd
  refine qaa qmA.eq_1 ?_
  refine wR0 500 [1,3,4,5,35] fX ?_
  refine wF @hd ?_
  refine wX ?_
  refine wN ?_
  exact hQ _ _
 | cons t rest ih=>
  intro i c num he hi hc h0 h1 hB hR
  simp only[List.length_cons] at hi
  have hil:i<p.ths.length:=by omega
  have hlt:(i:Int)<((qa4 p.ths).length:Int):=by rw[qbd];omega
  have hd:decide ((i:Int)<((qa4 p.ths).length:Int))=true:=decide_eq_true hlt
  have hg:=qnw p i hil
  have hti:p.ths[i]=t:=qml hil he
  have htl:p.ths.getD i default=t:=by rw[List.getD_eq_getElem?_getD,List.getElem?_eq_getElem hil,Option.getD_some,hti]
  rw[htl] at hg
  have hmem:t∈p.ths:=by rw[←hti];exact List.getElem_mem hil
  have hnm:=qsx t.name (hp.names t hmem)
  rw[qlh,Bool.and_eq_true,Bool.and_eq_true] at hB
  obtain⟨⟨hH,hLB⟩,hTB⟩:=hB
  simp only[Bool.and_eq_true,decide_eq_true_eq,Bool.not_eq_true'] at hH
  obtain⟨⟨⟨q1,q2⟩,q3⟩,q4⟩:=hH
  rw[q3] at hnm
  have hpos:0<t.lines.length:=by cases hx:t.lines with
   | nil=>rw[hx] at q1;simp at q1
   | cons x l=>simp
  have hll:=qa8 t.lines
  have hlz:decide (((qa7 t.lines).length:Int)<1)=false:=decide_eq_false (by omega)
  have hw:IntKind.wrap .i64 ((i:Int)+1)=((i+1:Nat):Int):=by rw[wrap64 (by omega) (by omega)];rfl
  have hw3:IntKind.wrap .i64 (num+1)=num+1:=wrap64 (by omega) (by omega)
  have hw4:IntKind.wrap .i64 (num+1+t.lines.length+1)=num+1+t.lines.length+1:=wrap64 (by omega) (by omega)
  have hL1:=fun Q a=>quu p t c num i (by omega) (by omega) (quB (by omega) q4) Q a i 0 (by omega)
  have hL2:=fun Q a=>quv p t (by omega) i Q t.lines 0 c (num+1) rfl (by omega) (by omega) (by omega) (by omega) (by omega) hLB a
  have htk:(p.ths.take (i+1)).map (·.name)=(p.ths.take i).map (·.name)++[t.name]:=by
   rw[←List.take_append_getElem hil,hti,List.map_append];rfl
  have hcc:((c+t.lines.length:Nat):Int)=(c:Int)+(t.lines.length:Int):=by omega
  have hQ':=ih (i+1) (c+t.lines.length) (num+1+t.lines.length+1) (by rw[←List.drop_drop,he];rfl) (by omega) q2 (by omega) (by omega) (by rw[htk];exact hTB) (by rw[←hR];simp only[qcd,List.map_cons,List.sum_cons];omega)
  rw[hcc] at hQ'
  simp only[rckE,rdE,rckH,thC,pgC,List.cons_append,List.nil_append] at hL1 hL2 ⊢
  have fX:=(cJ6 @hd @hg @hw @hw3 @hw4 @hlz)
  refine qaa qmA.eq_1 ?_
  refine W_gc ?_
  refine wR0 500 [1,3,4,5,35] fX ?_
  refine wT @hd ?_
  refine wR0 600 [1,3,4,5,6] fX ?_
  refine wRn 700 [1,3,4,5,6,52] fX ?_
  refine rC fX ?_
  refine⟨_,hnm,rE fX ?_⟩
  refine wF fX ?_
  refine wR0 900 [1,3,4,5,6,7] fX ?_
  refine wL ?_
  refine hL1 _ ?_
  ·intro j
   refine wN ?_
   refine wR0 1400 [1,3,4,5,6] fX ?_
   refine wR0 1500 [1,3,4,5,6,8] fX ?_
   refine wL ?_
   refine hL2 _ ?_
   ·intro j
    refine wN ?_
    refine wR0 3600 [1,3,4,5] fX ?_
    refine wR0 3700 [1,3,4,5] fX ?_
    refine wN ?_
    refine qay [0] (by simp[inL]) (by simp[inL,T.cl]) (by simp[qaf,inL,Slot.cl,T.cl,clL]) ?_
    simpa [qaf,inL] using hQ'
set_option maxHeartbeats 8000000 in
theorem qhZ (p:Pg)(hp:p.fit)(hok:okP p=true):TP Tryz.prog 49 [qar p] (.int .i64 0):=by
 have ho:=qbq hok
 have h6:=ho.len
 have hB:thsB p p.ths [] 0 1=true:=by
  simp only[okP,Bool.and_eq_true] at hok
  exact hok.2
 have hL:=fun Q a=>qut p hp h6 (qcd p.ths) (by have:=ho.six;omega) Q a p.ths 0 0 1 rfl (by omega) (by omega) (by omega) (by omega) hB (by simp)
 have ht:=qbd p.ths
 have h1:decide (p.vals<1)=false:=decide_eq_false (by have:=ho.vals;omega)
 have h2:decide (p.vals > 8)=false:=decide_eq_false (by have:=ho.vals;omega)
 have h3:decide (((qa4 p.ths).length:Int)<1)=false:=decide_eq_false (by have:=ho.pos;omega)
 have h4:decide (((qa4 p.ths).length:Int) > 6)=false:=decide_eq_false (by omega)
 have h5:decide (((qcd p.ths:Nat):Int) > 6)=false:=decide_eq_false (by have:=ho.six;omega)
 simp only[rckE,pgC,List.cons_append,List.nil_append,Int.natCast_zero] at hL
 have fX:=(cJ5 @h1 @h2 @h3 @h4 @h5)
 refine qag fn49 (by simp) ?_
 unfold i49
 simp only[argL,qar,pgC]
 refine wR0 0 [1] fX ?_
 refine wR0 100 [1,30] fX ?_
 refine wF fX ?_
 refine wR0 300 [1,3,4] fX ?_
 refine wR0 400 [1,3,4,5] fX ?_
 refine wL ?_
 refine hL _ ?_
 ·intro n i
  refine wN ?_
  refine wR0 3800 [124] fX ?_
  refine wF @h5 ?_
  refine wR0 4000 [2] fX ?_
  refine wP ?_
  exact qaC rfl
end
section
open Go.RowKit
set_option maxHeartbeats 2000000
attribute [local simp] qau qav qaD qaJ qa1 qbo qaB qah qa5 qaI qdX
abbrev qaE (i k:Nat)(done:List (Int×Int)):List (Nat×T):=[(1,.ref 0 2 0),(3,qdi 805 done),(4,.int .i64 i),(5,.int .i64 k)]
abbrev qaH (p:Pg)(done:List (Int×Int)):List (Nat×Slot):=[(0,.live ⟨28,pgC p⟩)]++qdw 805 102 done
set_option maxHeartbeats 8000000 in
theorem quy (p:Pg)(i n:Nat)(hi:i<p.ths.length)(hil:i≤1000000)(hn:n≤1000000)(hln:(p.ths.getD i default).lines.length=n)(R:List (Int×Int))(Q:IExit→(Nat→T)→Heap→Prop)
 (hQ:∀j:Nat,Q (.exit 2) (ofL (qaE i j R++[(24,.bool false)])) (hpL (qaH p R))):∀(f k:Nat) (done:List (Int×Int)),k+f=n→done.length+f≤2000000→done++plR i k f=R→
 WL Tryz.prog 34 qkw (ofL (qaE i k done)) (hpL (qaH p done)) Q:=by
 have hg:=qnw p i hi
 have hlt:(i:Int)<((qa4 p.ths).length:Int):=by rw[qbd];omega
 have hll:=qa8 (p.ths.getD i default).lines
 simp only[qaE,qaH,pgC,List.cons_append,List.nil_append] at hQ ⊢
 intro f
 induction f with
 | zero=>
  intro k done hk hdl hR
  have hd:decide ((k:Int)<((qa7 (p.ths.getD i default).lines).length:Int))=false:=decide_eq_false (by omega)
  simp only[plR,List.range'_zero,List.map_nil,List.append_nil] at hR
  subst hR
  have fX:=(cJ2 @hd @hg)
  refine qaa qkw.eq_1 ?_
  refine wR0 700 [1,3,4,5,24] fX ?_
  refine wF @hd ?_
  refine wX ?_
  refine wN ?_
  exact hQ _
 | succ f ih=>
  intro k done hk hdl hR
  have hd:decide ((k:Int)<((qa7 (p.ths.getD i default).lines).length:Int))=true:=decide_eq_true (by omega)
  have hw:IntKind.wrap .i64 ((k:Int)+1)=((k+1:Nat):Int):=by rw[wrap64 (by omega) (by omega)];rfl
  have hQ':=ih (k+1) (done++[((i:Int),(k:Int))]) (by omega) (by simp;omega) (by rw[←hR];simp[plR,List.range'_succ])
  cases done with
  | nil=>
   simp only[qdi,qdw,qkq,List.nil_append,List.length_nil,Nat.zero_add] at hQ' ⊢
   have fX:=(cJ4 @hd @hw @hg @qb0)
   refine qaa qkw.eq_1 ?_
   refine W_gc ?_
   refine wR0 700 [1,3,4,5,24] fX ?_
   refine wT @hd ?_
   refine wR0 800 [1,3,4,5] fX ?_
   refine wR0 900 [1,3,4,5] fX ?_
   refine wN ?_
   refine qay [0,805] (by simp[inL]) (by simp[inL,T.cl]) (by simp[qaf,inL,Slot.cl,T.cl,clL]) ?_
   simpa [qaf,inL] using hQ'
  | cons z zs=>
   have hsn:∀c:Int×Int,qdf (z::(zs++[c]))=qdf (z::zs)++[.int .i64 c.1,.int .i64 c.2]:=fun c=>by simp[qdf]
   have hm2:(zs.length+1+1)*2=(zs.length+1)*2+2:=by omega
   have hfl:(qdf (z::zs)).length=(zs.length+1)*2:=qfG _
   have hzb:zs.length+1≤2000000:=by simp at hdl;omega
   simp only[qdi,qdw,List.cons_append,List.length_append,List.length_cons,List.length_nil,Nat.zero_add,hsn,hm2] at hQ' ⊢
   have fX:=(cJ5 @hd @hw @hg @qb0 @hfl)
   refine qaa qkw.eq_1 ?_
   refine W_gc ?_
   refine wR0 700 [1,3,4,5,24] fX ?_
   refine wT @hd ?_
   refine wR0 800 [1,3,4,5] fX ?_
   refine wR0 900 [1,3,4,5] fX ?_
   refine wN ?_
   refine qay [0,805] (by simp[inL]) (by simp[inL,T.cl]) (by simp[qaf,inL,Slot.cl,T.cl,clL,qab]) ?_
   simpa [qaf,inL] using hQ'
abbrev qbE (i:Nat)(done:List (Int×Int)):List (Nat×T):=[(1,.ref 0 2 0),(3,qdi 805 done),(4,.int .i64 i)]
set_option maxHeartbeats 8000000 in
theorem qux (p:Pg)(h6:p.ths.length≤6)(R:List (Int×Int))(Q:IExit→(Nat→T)→Heap→Prop)
 (hQ:∀j:Nat,Q (.exit 0) (ofL (qbE j R++[(13,.bool false)])) (hpL (qaH p R))):∀(rest:List Th) (i:Nat) (done:List (Int×Int)),p.ths.drop i=rest→i+rest.length=p.ths.length→done.length+qcd rest≤1000→done++plI i rest=R→
 WL Tryz.prog 34 qhw (ofL (qbE i done)) (hpL (qaH p done)) Q:=by
 simp only[qbE,qaH,List.cons_append,List.nil_append] at hQ ⊢
 intro rest
 induction rest with
 | nil=>
  intro i done he hi hdl hR
  have hd:decide ((i:Int)<((qa4 p.ths).length:Int))=false:=decide_eq_false (by rw[qbd];simp at hi;omega)
  simp only[plI,List.append_nil] at hR
  subst hR
  simp only[pgC] at hQ ⊢
  have fX:=@hd
  refine qaa qhw.eq_1 ?_
  refine wR0 500 [1,3,4,13] fX ?_
  refine wF @hd ?_
  refine wX ?_
  refine wN ?_
  exact hQ _
 | cons t rest ih=>
  intro i done he hi hdl hR
  simp only[List.length_cons] at hi
  have hil:i<p.ths.length:=by omega
  have hd:decide ((i:Int)<((qa4 p.ths).length:Int))=true:=decide_eq_true (by rw[qbd];omega)
  have htl:p.ths.getD i default=t:=drop_at hil he
  have hw:IntKind.wrap .i64 ((i:Int)+1)=((i+1:Nat):Int):=by rw[wrap64 (by omega) (by omega)];rfl
  simp only[qcd,List.map_cons,List.sum_cons] at hdl
  have hpl:(plR i 0 t.lines.length).length=t.lines.length:=by simp[plR]
  have hL:=fun Q a=>quy p i t.lines.length hil (by omega) (by omega) (by rw[htl]) (done++plR i 0 t.lines.length) Q a t.lines.length 0 done (by omega) (by omega) rfl
  have hQ':=ih (i+1) (done++plR i 0 t.lines.length) (by rw[←List.drop_drop,he];rfl) (by omega) (by simp only[List.length_append,hpl,qcd];omega) (by rw[←hR,plI,List.append_assoc])
  generalize done++plR i 0 t.lines.length=D at*
  simp only[qaE,qaH,pgC,List.cons_append,List.nil_append] at hL hQ' hQ ⊢
  cases D with
  | nil=>
   cases done with
   | nil=>
    simp only[qdi,qdw] at hL hQ' ⊢
    have fX:=(cJ2 @hd @hw)
    refine qaa qhw.eq_1 ?_
    refine W_gc ?_
    refine wR0 500 [1,3,4,13] fX ?_
    refine wT @hd ?_
    refine wR0 600 [1,3,4,5] fX ?_
    refine wL ?_
    refine hL _ ?_
    ·intro j
     refine wN ?_
     refine wR0 1000 [1,3,4] fX ?_
     refine wN ?_
     refine qay [0,805] (by simp[inL]) (by simp[inL,T.cl]) (by simp[qaf,inL,Slot.cl,T.cl,clL]) ?_
     simpa [qaf,inL] using hQ'
   | cons z zs=>
    simp only[qdi,qdw] at hL hQ' ⊢
    have fX:=(cJ2 @hd @hw)
    refine qaa qhw.eq_1 ?_
    refine W_gc ?_
    refine wR0 500 [1,3,4,13] fX ?_
    refine wT @hd ?_
    refine wR0 600 [1,3,4,5] fX ?_
    refine wL ?_
    refine hL _ ?_
    ·intro j
     refine wN ?_
     refine wR0 1000 [1,3,4] fX ?_
     refine wN ?_
     refine qay [0,805] (by simp[inL]) (by simp[inL,T.cl]) (by simp[qaf,inL,Slot.cl,T.cl,clL]) ?_
     simpa [qaf,inL] using hQ'
  | cons y ys=>
   cases done with
   | nil=>
    simp only[qdi,qdw] at hL hQ' ⊢
    have fX:=(cJ2 @hd @hw)
    refine qaa qhw.eq_1 ?_
    refine W_gc ?_
    refine wR0 500 [1,3,4,13] fX ?_
    refine wT @hd ?_
    refine wR0 600 [1,3,4,5] fX ?_
    refine wL ?_
    refine hL _ ?_
    ·intro j
     refine wN ?_
     refine wR0 1000 [1,3,4] fX ?_
     refine wN ?_
     refine qay [0,805] (by simp[inL]) (by simp[inL,T.cl]) (by simp[qaf,inL,Slot.cl,T.cl,clL]) ?_
     simpa [qaf,inL] using hQ'
   | cons z zs=>
    simp only[qdi,qdw] at hL hQ' ⊢
    have fX:=(cJ2 @hd @hw)
    refine qaa qhw.eq_1 ?_
    refine W_gc ?_
    refine wR0 500 [1,3,4,13] fX ?_
    refine wT @hd ?_
    refine wR0 600 [1,3,4,5] fX ?_
    refine wL ?_
    refine hL _ ?_
    ·intro j
     refine wN ?_
     refine wR0 1000 [1,3,4] fX ?_
     refine wN ?_
     refine qay [0,805] (by simp[inL]) (by simp[inL,T.cl]) (by simp[qaf,inL,Slot.cl,T.cl,clL]) ?_
     simpa [qaf,inL] using hQ'
set_option maxHeartbeats 8000000 in
theorem qcF (p:Pg)(hp:p.fit)(hok:okP p=true):TP Tryz.prog 15 [qar p] (.list (qbe (plP p))):=by
 have hc:=qhZ p hp hok
 rw[plP,if_pos hok]
 have ho:=qbq hok
 have hL:=fun Q a=>qux p ho.len (plI 0 p.ths) Q a p.ths 0 [] rfl (by omega) (by have:=ho.six;simp;omega) rfl
 have hz:((0:Int) != 0)=false:=rfl
 simp only[qar,qbE,qaH,pgC,List.cons_append,List.nil_append,Int.natCast_zero] at hc hL ⊢
 generalize plI 0 p.ths=R at*
 cases R with
 | nil=>
  simp only[qdi,qdw] at hL
  have fX:=@hz
  refine qag fn15 (by simp) ?_
  unfold i15
  simp only[argL]
  refine wR0 0 [1] fX ?_
  refine wRn 100 [1,8] fX ?_
  refine rC fX ?_
  refine⟨_,hc,rE fX ?_⟩
  refine wF @hz ?_
  refine wR0 300 [1,3] fX ?_
  refine wR0 400 [1,3,4] fX ?_
  refine wL ?_
  refine hL _ ?_
  ·intro j
   refine wN ?_
   refine wR0 1100 [2] fX ?_
   refine wP ?_
   exact .nil
 | cons z zs=>
  simp only[qdi,qdw] at hL
  have fX:=@hz
  refine qag fn15 (by simp) ?_
  unfold i15
  simp only[argL]
  refine wR0 0 [1] fX ?_
  refine wRn 100 [1,8] fX ?_
  refine rC fX ?_
  refine⟨_,hc,rE fX ?_⟩
  refine wF @hz ?_
  refine wR0 300 [1,3] fX ?_
  refine wR0 400 [1,3,4] fX ?_
  refine wL ?_
  refine hL _ ?_
  ·intro j
   refine wN ?_
   refine wR0 1100 [2] fX ?_
   refine wP ?_
   exact qms (z::zs) rfl rfl rfl
end
end Go.Proofs.YtkbjpglehdhjfaaGreatDoor
