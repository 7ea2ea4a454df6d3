/- Contracts of functions of the program, for all arguments that they name. -/
import Derived.Test.YtpplncjaihgimaaGreatK08
import Derived.Test.YtpplncjaihgimaaGreatK19
import Derived.Test.YtpplncjaihgimaaGreatK20
import Derived.Test.YtpplncjaihgimaaGreatK21
namespace Go.Proofs.YtpplncjaihgimaaGreat
set_option linter.unusedVariables false
section
open Go.RowKit
set_option maxHeartbeats 2000000
attribute [local simp] qeL qdi qae
theorem qjS (n:Nat)(x:T):repl n [x]=List.replicate n x:=by
 unfold repl
 induction n with
 | zero=>rfl
 | succ n ih=>rw[List.replicate_succ,List.flatten_cons,ih,List.replicate_succ];rfl
theorem qp5 (n:Nat)(x:Int):qab (List.replicate n x)=List.replicate n (.int .i64 x):=by simp[qab]
theorem qp3 (n:Nat)(x:Bool):qbG (List.replicate n x)=List.replicate n (.bool x):=by simp[qbG]
theorem quW (m:Nat):owF (List.replicate m (-1))=fun _ => -1:=by
 funext c
 simp only[owF,List.getD_eq_getElem?_getD,List.getElem?_replicate]
 split<;>rfl
theorem qu6 (m:Nat):seF (List.replicate m false)=fun _=>false:=by
 funext c
 simp only[seF,List.getD_eq_getElem?_getD,List.getElem?_replicate]
 split<;>rfl
abbrev noB:Nat→Bool:=fun _=>false
theorem qoN (tb:List (List Bool))(m:Nat)(hm:m≤1000)(Q:IExit→(Nat→T)→Heap→Prop):∀(g c:Nat),c+g=m→
 (∀j:Int,Q (.exit 0) (ofL [(0,.list (qbn tb)),(3,.sl 304 m 0 0 m),(4,.int .i64 j),(18,.bool false)]) (hpL [(304,oS (List.replicate m (-1)))]))→
 WL Tryz.prog 40 qjr (ofL [(0,.list (qbn tb)),(3,.sl 304 m 0 0 m),(4,.int .i64 c)]) (hpL [(304,oS (List.replicate c (-1)++List.replicate g 0))]) Q:=by
 intro g
 induction g with
 | zero=>
  intro c hc hQ
  have hd:decide ((c:Int)<(m:Int))=false:=decide_eq_false (by omega)
  have e:c=m:=by omega
  subst e
  rw[List.replicate_zero,List.append_nil]
  have fX:=@hd
  refine qaa qjr.eq_1 ?_
  refine wR0 500 [0,3,4,18] fX ?_
  refine wF fX ?_
  refine wX ?_
  refine wN ?_
  exact hQ _
 | succ g ih=>
  intro c hc hQ
  have hd:decide ((c:Int)<(m:Int))=true:=decide_eq_true (by omega)
  have hw:IntKind.wrap .i64 ((c:Int)+1)=((c+1:Nat):Int):=by rw[wrap64 (by omega) (by omega)];rfl
  have hj1:((c:Nat):Int).toNat*1=c:=by simp
  have hll:(List.replicate c (-1:Int)++List.replicate (g+1) 0).length=m:=by simp;omega
  have hol:(qab (List.replicate c (-1:Int)++List.replicate (g+1) 0)).length=m:=by rw[qah];exact hll
  have how:List.take c (qab (List.replicate c (-1:Int)++List.replicate (g+1) 0))++[.int .i64 (-1)]++List.drop (c+1) (qab (List.replicate c (-1:Int)++List.replicate (g+1) 0))=qab (List.replicate (c+1) (-1)++List.replicate g 0):=by
   have:=qog (T.int .i64) (List.replicate c (-1:Int)++List.replicate (g+1) 0) (-1) c (by rw[hll];omega)
   rw[qab,this,qab]
   congr 1
   rw[List.set_append_right _ _ (by simp),List.length_replicate,Nat.sub_self,List.replicate_succ,List.set_cons_zero,List.replicate_succ',List.append_assoc]
   rfl
  have hQ':=ih (c+1) (by omega) hQ
  have fX:=(cJ5 @hd @hw @hj1 @hol @how)
  refine qaa qjr.eq_1 ?_
  refine wR0 500 [0,3,4,18] fX ?_
  refine wT fX ?_
  refine wR0 600 [0,3,4] fX ?_
  refine wR0 700 [0,3,4] fX ?_
  refine wN ?_
  exact hQ'
theorem qoO (tb:List (List Bool))(n m:Nat)(hn:tb.length=n)(hr:∀r∈tb,r.length=m)(hm:m≤1000)(hn2:n≤1000):∀(g i k:Nat) (owner:List Int) (F D C:Nat→Bool),i+g=n→owner.length=m→k≤i→Inv (eF tb) m noB 0 i (owF owner) k F D C→
 ∃(k':Nat) (owner':List Int),qpt (eF tb) m noB 0 n k'∧owner'.length=m∧∀Q:IExit→(Nat→T)→Heap→Prop,
  (∀j:Int,Q (.exit 2) (ofL [(0,.list (qbn tb)),(3,.sl 304 m 0 0 m),(5,.int .i64 k'),(6,.int .i64 j),(27,.bool false)]) (hpL [(304,oS owner')]))→
  WL Tryz.prog 40 qhz (ofL [(0,.list (qbn tb)),(3,.sl 304 m 0 0 m),(5,.int .i64 k),(6,.int .i64 i)]) (hpL [(304,oS owner)]) Q:=by
 have hbl:(qbn tb).length=n:=by rw[qcA];exact hn
 intro g
 induction g with
 | zero=>
  intro i k owner F D C hi ho hk hI
  have hd:decide ((i:Int)<(n:Int))=false:=decide_eq_false (by omega)
  have e:i=n:=by omega
  refine⟨k,owner,by rw[←e];exact hI.max,ho,fun Q hQ=>?_⟩
  have fX:=(cJ2 @hbl @hd)
  refine qaa qhz.eq_1 ?_
  refine wR0 1000 [0,3,5,6,27] fX ?_
  refine wF fX ?_
  refine wX ?_
  refine wN ?_
  exact hQ _
 | succ g ih=>
  intro i k owner F D C hi ho hk hI
  have hd:decide ((i:Int)<(n:Int))=true:=decide_eq_true (by omega)
  have hw:IntKind.wrap .i64 ((i:Int)+1)=((i+1:Nat):Int):=by rw[wrap64 (by omega) (by omega)];rfl
  have hwk:IntKind.wrap .i64 ((k:Int)+1)=((k+1:Nat):Int):=by rw[wrap64 (by omega) (by omega)];rfl
  have hmt:((m:Nat):Int).toNat=m:=by simp
  have hrp:repl m [T.bool false]=qbG (List.replicate m false):=by rw[qjS,qp3]
  have hbz:(qbG (List.replicate m false)).length=m:=by rw[qcm,List.length_replicate]
  have hv:qsZ n (owF owner):=fun c=>by
   rcases hI.val c with h | ⟨r,h1,_,h2,_⟩
   ·exact .inl h
   ·exact .inr ⟨r,h1,by omega⟩
  obtain⟨b,seen',owner',r1,r2,r3,r4⟩:=try_tc tb n m hn hr hm hn2 (qdV (seF (List.replicate m false)) m+1) i (List.replicate m false) owner (by omega) (by simp) ho hv (by omega)
  rw[qu6] at r1
  have q1:∀σ:Nat→Nat,renL σ (qbn tb)=qbn tb:=fun σ=>qby _ (qdi _ tb)
  have q2:∀(σ:Nat→Nat) (l:List Bool),renL σ (qbG l)=qbG l:=fun σ l=>qby _ (qeL _ l)
  have q3:∀(σ:Nat→Nat) (l:List Int),renL σ (qab l)=qab l:=fun σ l=>qby _ (qae _ l)
  have r5:TC Tryz.prog 195 [.list (qbn tb),.int .i64 i,.sl 1104 m 0 0 m,.sl 304 m 0 0 m] (hpL [(1104,bS (List.replicate m false)),(304,oS owner)]) (.bool b) (hpL [(1104,bS seen'),(304,oS owner')]):=by
   refine qg0 [(900,1104),(901,304)] r4 ?_ ?_ rfl ?_
   ·simp[renL,T.ren,swps,swp,q1]
   ·simp[swps,swp,Slot.ren,q2,q3]
   ·simp[swps,swp,Slot.ren,q2,q3]
  rcases b with _ | _
  ·obtain⟨hoo,F',D',C',hI'⟩:=hI.no r1
   obtain⟨k',owner2,a1,a2,a3⟩:=ih (i+1) k owner' F' D' C' (by omega) r3 (by omega) (by rw[hoo];exact hI')
   refine⟨k',owner2,a1,a2,fun Q hQ=>?_⟩
   have hQ':=a3 Q hQ
   have fX:=(cJ6 @hbl @hd @hw @hmt @hrp @hbz)
   refine qaa qhz.eq_1 ?_
   refine W_gc ?_
   refine wR0 1000 [0,3,5,6,27] fX ?_
   refine wT fX ?_
   refine wRn 1100 [0,3,5,6,36] fX ?_
   refine rU [(1104,bS (List.replicate m false)),(304,oS owner)] [(1104,bS seen'),(304,oS owner')] fX ?_
   refine⟨_,r5.fullL (by simp) (by simp[qbD,qaL,qa0]),rE fX ?_⟩
   refine wF fX ?_
   refine wR0 1300 [0,3,5,6] fX ?_
   refine wN ?_
   refine qaC [304] (by simp[inL]) (by simp[inL,T.cl]) (by simp[qam,inL,Slot.cl]) ?_
   exact hQ'
  ·obtain⟨k',owner2,a1,a2,a3⟩:=ih (i+1) (k+1) owner' _ _ _ (by omega) r3 (by omega) (hI.yes (by omega) r1)
   refine⟨k',owner2,a1,a2,fun Q hQ=>?_⟩
   have hQ':=a3 Q hQ
   have fX:=(cJ7 @hbl @hd @hw @hwk @hmt @hrp @hbz)
   refine qaa qhz.eq_1 ?_
   refine W_gc ?_
   refine wR0 1000 [0,3,5,6,27] fX ?_
   refine wT fX ?_
   refine wRn 1100 [0,3,5,6,36] fX ?_
   refine rU [(1104,bS (List.replicate m false)),(304,oS owner)] [(1104,bS seen'),(304,oS owner')] fX ?_
   refine⟨_,r5.fullL (by simp) (by simp[qbD,qaL,qa0]),rE fX ?_⟩
   refine wT fX ?_
   refine wR0 1200 [0,3,5,6] fX ?_
   refine wR0 1300 [0,3,5,6] fX ?_
   refine wN ?_
   refine qaC [304] (by simp[inL]) (by simp[inL,T.cl]) (by simp[qam,inL,Slot.cl]) ?_
   exact hQ'
theorem quN (tb:List (List Bool))(n m:Nat)(hn:tb.length=n)(hr:∀r∈tb,r.length=m)(hm:m≤1000)(hn2:n≤1000) :
 ∃k:Nat,qpt (eF tb) m noB 0 n k∧TP Tryz.prog 157 [.list (qbn tb)] (.int .i64 k):=by
 have hbl:(qbn tb).length=n:=by rw[qcA];exact hn
 by_cases h0:n=0
 ·rw[h0] at hbl
  rw[h0]
  have hd:(((0:Nat):Int)==0)=true:=rfl
  refine⟨0,(Inv.start noB 0).max,?_⟩
  have fX:=(cJ2 @hbl @hd)
  refine qan fn157 (by simp) ?_
  unfold i157
  simp only[argL]
  refine wR0 0 [0] fX ?_
  refine wR0 100 [0,9] fX ?_
  refine wT fX ?_
  refine wR0 200 [2] fX ?_
  refine wP ?_
  exact .same rfl
 ·have hd:((n:Int)==0)=false:=by simp;omega
  obtain⟨k',owner',a1,a2,a3⟩:=qoO tb n m hn hr hm hn2 n 0 0 (List.replicate m (-1)) _ _ _ (by omega) (by simp) (by omega) (by rw[quW];exact Inv.start noB 0)
  refine⟨k',a1,?_⟩
  obtain⟨R,rest,hR⟩:∃R rest,tb=R::rest:=by
   rcases tb with _ | ⟨R,rest⟩
   ·simp at hn;omega
   ·exact⟨R,rest,rfl⟩
  have hRm:R.length=m:=hr R (by rw[hR];exact List.mem_cons_self ..)
  have hrw:(qbn tb).getD (0:Int).toNat .undef=.list (qbG R):=by rw[hR];rfl
  have hb0:(0:Int)<(n:Int):=by omega
  have hRl:(qbG R).length=m:=by rw[qcm];exact hRm
  have hmt:((m:Nat):Int).toNat=m:=by simp
  have hrp:repl m [T.int .i64 0]=qab (List.replicate m 0):=by rw[qjS,qp5]
  have hbz:(qab (List.replicate m 0)).length=m:=by rw[qah,List.length_replicate]
  have fX:=(cJ7 @hbl @hd @hrw @hRl @hmt @hrp @hbz)
  refine qan fn157 (by simp) ?_
  unfold i157
  simp only[argL]
  refine wR0 0 [0] fX ?_
  refine wR0 100 [0,9] fX ?_
  refine wF fX ?_
  refine wR0 300 [0,3] fX ?_
  refine wR0 400 [0,3,4] fX ?_
  refine wL ?_
  (have hL:=fun Q=>qoN tb m hm Q m 0 (by omega))
  rw[List.replicate_zero,List.nil_append] at hL
  refine hL _ ?_
  ·intro i
   refine wN ?_
   refine wR0 800 [0,3,5] fX ?_
   refine wR0 900 [0,3,5,6] fX ?_
   refine wL ?_
   refine a3 _ ?_
   ·intro j
    refine wN ?_
    refine wR0 1400 [2] fX ?_
    refine wP ?_
    exact .same rfl
theorem qmv (tb:List (List Bool))(n m:Nat)(hn:tb.length=n)(hr:∀r∈tb,r.length=m)(hm:m≤12)(hn2:n≤1000)(Q:IExit→(Nat→T)→Heap→Prop):∀(g i:Nat),i+g=n→
 (∀j:Int,Q (.exit 0) (ofL [(0,.list (qbn tb)),(3,.int .i64 j),(7,.bool false)]) (hpL []))→
 WL Tryz.prog 31 qjq (ofL [(0,.list (qbn tb)),(3,.int .i64 i)]) (hpL []) Q:=by
 have hbl:(qbn tb).length=n:=by rw[qcA];exact hn
 have hrd:∀i:Nat,i<n→∃R:List Bool,(qbn tb).getD (i:Int).toNat .undef=.list (qbG R)∧(qbG R).length=m:=fun i hi=>by
  refine⟨tb.getD i [],?_,?_⟩
  ·simp[qbn,List.getD_eq_getElem?_getD,List.getElem?_eq_getElem (show i<tb.length by omega)]
  ·rw[qcm,List.getD_eq_getElem?_getD,List.getElem?_eq_getElem (show i<tb.length by omega)]
   exact hr _ (List.getElem_mem _)
 intro g
 induction g with
 | zero=>
  intro i hi hQ
  have hd:decide ((i:Int)<(n:Int))=false:=decide_eq_false (by omega)
  have fX:=(cJ2 @hbl @hd)
  refine qaa qjq.eq_1 ?_
  refine wR0 200 [0,3,7] fX ?_
  refine wF fX ?_
  refine wX ?_
  refine wN ?_
  exact hQ _
 | succ g ih=>
  intro i hi hQ
  have hd:decide ((i:Int)<(n:Int))=true:=decide_eq_true (by omega)
  have hw:IntKind.wrap .i64 ((i:Int)+1)=((i+1:Nat):Int):=by rw[wrap64 (by omega) (by omega)];rfl
  obtain⟨R,hR,hRl⟩:=hrd i (by omega)
  obtain⟨R0,hR0,hR0l⟩:=hrd 0 (by omega)
  have hR0':(qbn tb).getD (0:Int).toNat .undef=.list (qbG R0):=hR0
  have hne:((m:Int) != (m:Int))=false:=by simp
  have hgt:decide ((m:Int) > 12)=false:=decide_eq_false (by omega)
  have hb0:(0:Int)<(n:Int):=by omega
  have hbi:(i:Int)<(n:Int):=by omega
  have hQ':=ih (i+1) (by omega) hQ
  have fX:=(cJ8 @hbl @hd @hw @hR @hRl @hR0' @hR0l (cJ2 @hne @hgt))
  refine qaa qjq.eq_1 ?_
  refine wR0 200 [0,3,7] fX ?_
  refine wT fX ?_
  refine wR0 300 [0,3,27] fX ?_
  refine wF fX ?_
  refine wR0 500 [0,3] fX ?_
  refine wN ?_
  exact hQ'
theorem qrO (tb:List (List Bool))(n m:Nat)(hn:tb.length=n)(hr:∀r∈tb,r.length=m)(hm:m≤12)(hn2:n≤12):TP Tryz.prog 156 [.list (qbn tb)] (.bool true):=by
 have hbl:(qbn tb).length=n:=by rw[qcA];exact hn
 have hle:decide ((n:Int)≤12)=true:=decide_eq_true (by omega)
 have fX:=(cJ2 @hbl @hle)
 refine qan fn156 (by simp) ?_
 unfold i156
 simp only[argL]
 refine wR0 0 [0] fX ?_
 refine wR0 100 [0,3] fX ?_
 refine wL ?_
 refine qmv tb n m hn hr hm (by omega) _ n 0 (by omega) ?_
 ·intro i
  refine wN ?_
  refine wR0 600 [2] fX ?_
  refine wP ?_
  exact .same rfl
theorem quc (tb:List (List Bool))(n m:Nat)(hn:tb.length=n)(hr:∀r∈tb,r.length=m)(hm:m≤12)(hn2:n≤12) :
 ∃k:Nat,qpt (eF tb) m noB 0 n k∧TP Tryz.prog 105 [.list (qbn tb)] (.tup [.int .i64 k,.bool true]):=by
 obtain⟨k,h1,h2⟩:=quN tb n m hn hr (by omega) (by omega)
 refine⟨k,h1,?_⟩
 refine qan fn105 (by simp) ?_
 unfold i105
 simp only[argL]
 refine wR0 0 [0] cJ0 ?_
 refine wRn 100 [0,6] cJ0 ?_
 refine rC cJ0 ?_
 refine⟨_,qrO tb n m hn hr hm hn2,rE cJ0 ?_⟩
 refine wF cJ0 ?_
 refine wRn 300 [2,3] cJ0 ?_
 refine rC cJ0 ?_
 refine⟨_,h2,rE cJ0 ?_⟩
 refine wP ?_
 exact Frz.tupL (.cons (.same rfl) (.cons (.same rfl) .nil))
end
end Go.Proofs.YtpplncjaihgimaaGreat
