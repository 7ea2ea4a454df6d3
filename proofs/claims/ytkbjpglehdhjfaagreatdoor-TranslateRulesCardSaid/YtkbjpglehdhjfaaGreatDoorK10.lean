/- Contracts of functions of the program, for all arguments that they name. -/
import Derived.Shelf.Abstract
import Derived.Shelf.AbstractIn
import Derived.Shelf.RegionOpen
import Derived.OwnWalkIn
import Derived.TacticsInMore
import Derived.Sort.LoopGhostIn
import Derived.Stop.RegionWithIn
import Derived.LoopNIn
import Derived.LoopIn
import Derived.Lib.Hide
import Derived.Deep.QuietTactic
import Derived.Shelf.SlSortCmp.Insertion
import Derived.Test.YtkbjpglehdhjfaaGreatDoorK09
namespace Go.Proofs.YtkbjpglehdhjfaaGreatDoor
set_option linter.unusedVariables false
section
open Go.RowKit
set_option maxHeartbeats 2000000
def qlN (k:Int)(r:Rl):Rl:=
 if k=1 then ⟨r.name,r.from_,r.to_,r.need,r.give,r.move,0,0,0,[],[],[],[],0⟩
 else if k=2∨k=3 then ⟨r.name,r.from_,r.to_,[],[],[],r.chan,r.act,r.lett,[],[],[],[],0⟩
 else if k=4 then ⟨r.name,r.from_,r.to_,[],[],[],0,0,0,r.path,r.next,[],[],0⟩
 else if k=5 then ⟨r.name,r.from_,r.to_,[],[],[],0,0,0,[],[],r.takes,r.makes,0⟩
 else ⟨r.name,r.from_,r.to_,r.need,r.give,[],0,0,0,[],[],[],[],r.second⟩
def quA (m:Md)(r:Rl):Bool:=qdl m r&&((r.second == -1) || btw r.second 0 ((m.states.length:Int) - 1))&&(decide (r.from_≥0) || (r.second == -1&&r.need.all fun x=>x==0))
def qnT (m:Md)(r:Rl):Bool:=
 if m.kind=1 then qdl m r&&qgF m r else if m.kind=2∨m.kind=3 then actsM m r else if m.kind=4 then pathsM m r else if m.kind=5 then agesM m r else quA m r
def qke (m:Md)(r:Rl):Bool:=btw r.to_ 0 ((m.states.length:Int) - 1)&&(btw r.from_ 0 ((m.states.length:Int) - 1) || (m.kind==6&&r.from_ == -1))
def qcq (m:Md)(r:Rl):Bool:=qke m r&&(qnT m r&&qoh r (qlN m.kind r))
theorem qpA (n:Int):(qaU n).fit:=by simp[qaU,Ty.fit,qfj]
theorem qli {t0 t:Ty}(h0:t0.fit)(h:t.fit):∀j,qfj (qfu t0 t j)
 | 0=>by simp[qfu,qfj,h0]
 | j+1=>by
  have ih:=qli h0 h j
  have:∀(l:List Ty),qfj l→qfj (l++[t]):=fun l=>by
   induction l with
   | nil=>intro _;simp[qfj,h]
   | cons x l ih=>intro hl;simp only[qfj] at hl;simp only[List.cons_append,qfj];exact⟨hl.1,ih hl.2⟩
  exact this _ ih
theorem qgt (m:Md)(hp:m.places.length≤1000)(hr:m.ranks.length≤1000000):(qa9 m).fit:=by
 unfold qa9 qbf
 (repeat' split)
 ·unfold qev
  split<;>simp[qbI,Ty.fit,qfj,qaU]
 ·simp[qbI,Ty.fit,qfj,qaU]
 ·have hpf:(qex m).fit:=by
   unfold qex
   (repeat' split)<;>simp[qbI,Ty.fit,qfj,qaU,hr]
  have:=qli (qpA m.states.length) hpf m.places.length
  simp only[Ty.fit]
  exact⟨by simp,by rw[qic];omega,this⟩
def qbF (m:Md):Bool:=if m.kind=6 then (m.start.n==0)&&((m.start.kids.length:Int)==0) else qdt (qa9 m) m.start
def qbm (m:Md):Int:=
 if btw m.kind 1 6=false then 15 else if qbg m=false then 1 else if qdq m=false then 14 else if qhR m=false then 13 else if (m.rules.any fun r=>!qcq m r)=true then 16 else if qbF m=false then 17 else 0
theorem qk8 {m:Md}(h:qbg m=true):m.states≠[]:=by
 simp only[qbg,Bool.and_eq_true,btw,decide_eq_true_eq] at h
 intro e
 rw[e] at h
 simp at h
theorem qgm {m:Md}(hm:m.fit)(hk:btw m.kind 1 6=true)(h:qbg m=true)(hr:qdq m=true):m.sane:=by
 refine⟨hm,hk,fun h4=>?_,?_,fun h3 hn=>?_⟩
 ·have hl:limC m.kind=[0,0,1,6,1,2,0,0]:=by rw[h4];rfl
  simp[qbg,btw,hl] at h
  omega
 ·rcases qeX hk with k | k | k | k | k | k<;>(simp[qbg,btw,k,limC] at h;omega)
 ·have hl:limC m.kind=[1,2,1,6,0,0,0,0]:=by rw[h3];rfl
  simp[qbg,btw,hl] at h
  rw[qdq,if_neg (by simp[h3]),hn] at hr
  simp at hr
  omega
theorem qf9 {m:Md}(hm:m.fit)(h:qbm m=0):m.sane:=by
 unfold qbm at h
 split at h
 ·cases h
 ·rename_i hk
  split at h
  ·cases h
  ·rename_i hs
   split at h
   ·cases h
   ·rename_i hr
    exact qgm hm (by simpa using hk) (by simpa using hs) (by simpa using hr)
theorem typedM_fit' {m:Md}(hm:m.fit):(qa9 m).fit:=qgt m hm.places hm.ranks
def qdr (m:Md)(c:V):Bool:=qbm m==0&&qdt (qa9 m) c
def actsR (m:Md)(r:Rl):Bool:=btw r.act 0 2&&btw r.chan 0 ((m.places.length:Int) - 1)&&btw r.lett 0 ((m.letters.length:Int) - 1)&&!(r.act==0&&(r.chan != 0 || r.lett != 0))
def qne (low:Int)(cnt cou chn nes tim bra:Bool)(m:Md)(r:Rl):Bool:=
 btw r.from_ low ((m.states.length:Int) - 1)&&btw r.to_ 0 ((m.states.length:Int) - 1)&&
 (if cnt then qkN r.need m.places.length 0 16&&qkN r.give m.places.length 0 16 else !decide ((r.need.length:Int) > 0)&&!decide ((r.give.length:Int) > 0))&&
 (!decide ((r.move.length:Int) > 0) || (cou&&qkN r.move m.places.length (-1) ((m.places.length:Int) - 1)))&&
 (if chn then actsR m r else !(r.chan != 0)&&!(r.act != 0)&&!(r.lett != 0))&&
 (if nes then fewR r.path m.levels ((m.letters.length:Int) - 1)&&fewR r.next m.levels ((m.letters.length:Int) - 1)&&!((r.path.length:Int)+r.next.length==0) else !decide ((r.path.length:Int) > 0)&&!decide ((r.next.length:Int) > 0))&&
 (if tim then timedR m r else !decide ((r.takes.length:Int) > 0)&&!decide ((r.makes.length:Int) > 0))&&
 (if bra then (if r.from_ == -1 then r.second == -1&&r.need.all fun x=>btw x 0 0 else btw r.second (-1) ((m.states.length:Int) - 1)) else r.second==0)
theorem fB {H:Heap}{a b:Bool}(h:a=b:=by simp only[qne,eq_self,if_true,Bool.false_eq_true,if_false,Bool.false_and,Bool.true_and,Bool.or_false];grind):Frz H (.bool a) (.bool b):=qac h
set_option maxHeartbeats 8000000 in
theorem qoe (m:Md)(r:Rl)(hm:m.fit)(hr:r.fit)(ha:0≤m.age∧m.age≤1000)(hk:m.kind=1):TP Tryz.prog 87 [qaA m,qbQ r] (.bool (qne 0 true true false false false false m r)):=by
 have kb1:(m.kind==1)=true:=by rw[hk];rfl
 have kb2:(m.kind==2)=false:=by rw[hk];rfl
 have kb3:(m.kind==3)=false:=by rw[hk];rfl
 have kb4:(m.kind==4)=false:=by rw[hk];rfl
 have kb5:(m.kind==5)=false:=by rw[hk];rfl
 have kb6:(m.kind==6)=false:=by rw[hk];rfl
 have kn1:(m.kind != 1)=!true:=by rw[hk];rfl
 have kn6:(m.kind != 6)=!false:=by rw[hk];rfl
 have hms:=hm.states
 have hmp:=hm.places
 have hml:=hm.letters
 have hpn:=hr.path
 have hnn:=hr.next
 have hw1:IntKind.wrap .i64 ((m.states.length:Int) - 1)=(m.states.length:Int) - 1:=wrap64 (by omega) (by omega)
 have hw2:IntKind.wrap .i64 ((m.places.length:Int) - 1)=(m.places.length:Int) - 1:=wrap64 (by omega) (by omega)
 have hw3:IntKind.wrap .i64 ((m.letters.length:Int) - 1)=(m.letters.length:Int) - 1:=wrap64 (by omega) (by omega)
 have hw4:IntKind.wrap .i64 ((r.path.length:Int)+(r.next.length:Int))=(r.path.length:Int)+(r.next.length:Int):=wrap64 (by omega) (by omega)
 rcases hmv:decide ((r.move.length:Int) > 0) with _ | _
 ·have fX:=(cJ8 @qai @qae @qcD @kb1 @kb2 @kb3 @kb4 (cJ8 @kb5 @kb6 @kn1 @kn6 @hw1 @hw2 @hw3 (cJ7 @hw4 @hmv @hw1 @Bool.not_true @Bool.not_false @Bool.true_or @Bool.false_or)))
  refine qag fn87 (by simp) ?_
  unfold i87
  simp only[argL,qaA,mdC,qbQ,rlC]
  refine wR0 0 [2,3] fX ?_
  refine wR0 100 [2,3,5] fX ?_
  refine wR0 200 [2,3,5,10] fX ?_
  refine wF fX ?_
  refine wRn 400 [2,3,29] fX ?_
  refine rC fX ?_
  refine⟨_,qat _ _ _,rN fX ?_⟩
  refine rCi fX ?_
  refine⟨_,fun hw=>qat _ _ _,rE fX ?_⟩
  refine wS cJ0 (fun hc400=>?_) (fun hc400=>?_)
  ·skip
   refine wR0 500 [4] fX ?_
   refine wP ?_
   exact fB
  ·skip
   refine wR0 600 [2,3,6] fX ?_
   refine wR0 700 [2,3,6,7] fX ?_
   refine wR0 800 [2,3,7,46] fX ?_
   refine wT fX ?_
   refine wRn 900 [2,3,7,62] fX ?_
   refine rC fX ?_
   refine⟨_,qfV _ _ _ _ hr.need,rN fX ?_⟩
   refine rCi fX ?_
   refine⟨_,fun hw=>qfV _ _ _ _ hr.give,rE fX ?_⟩
   refine wS cJ0 (fun hc900=>?_) (fun hc900=>?_)
   ·skip
    refine wR0 1000 [4] fX ?_
    refine wP ?_
    exact fB
   ·skip
    refine wR0 1300 [2,3,7,94] fX ?_
    refine wF fX ?_
    refine wR0 1500 [2,3,95] fX ?_
    refine wF fX ?_
    refine wR0 1800 [2,3,147] fX ?_
    refine wS cJ0 (fun hc1800=>?_) (fun hc1800=>?_)
    ·skip
     refine wR0 1900 [4] fX ?_
     refine wP ?_
     exact fB
    ·skip
     refine wR0 2000 [2,3,150] fX ?_
     refine wF fX ?_
     refine wR0 2300 [2,3,192] fX ?_
     refine wS cJ0 (fun hc2300=>?_) (fun hc2300=>?_)
     ·skip
      refine wR0 2400 [4] fX ?_
      refine wP ?_
      exact fB
     ·skip
      refine wR0 2500 [2,3,195] fX ?_
      refine wF fX ?_
      refine wR0 2800 [2,3,209] fX ?_
      refine wS cJ0 (fun hc2800=>?_) (fun hc2800=>?_)
      ·skip
       refine wR0 2900 [4] fX ?_
       refine wP ?_
       exact fB
      ·skip
       refine wR0 3000 [2,3,212] fX ?_
       refine wT fX ?_
       refine wR0 3100 [4] fX ?_
       refine wP ?_
       exact fB
 ·have fX:=(cJ8 @qai @qae @qcD @kb1 @kb2 @kb3 @kb4 (cJ8 @kb5 @kb6 @kn1 @kn6 @hw1 @hw2 @hw3 (cJ7 @hw4 @hmv @hw1 @Bool.not_true @Bool.not_false @Bool.true_or @Bool.false_or)))
  refine qag fn87 (by simp) ?_
  unfold i87
  simp only[argL,qaA,mdC,qbQ,rlC]
  refine wR0 0 [2,3] fX ?_
  refine wR0 100 [2,3,5] fX ?_
  refine wR0 200 [2,3,5,10] fX ?_
  refine wF fX ?_
  refine wRn 400 [2,3,29] fX ?_
  refine rC fX ?_
  refine⟨_,qat _ _ _,rN fX ?_⟩
  refine rCi fX ?_
  refine⟨_,fun hw=>qat _ _ _,rE fX ?_⟩
  refine wS cJ0 (fun hc400=>?_) (fun hc400=>?_)
  ·skip
   refine wR0 500 [4] fX ?_
   refine wP ?_
   exact fB
  ·skip
   refine wR0 600 [2,3,6] fX ?_
   refine wR0 700 [2,3,6,7] fX ?_
   refine wR0 800 [2,3,7,46] fX ?_
   refine wT fX ?_
   refine wRn 900 [2,3,7,62] fX ?_
   refine rC fX ?_
   refine⟨_,qfV _ _ _ _ hr.need,rN fX ?_⟩
   refine rCi fX ?_
   refine⟨_,fun hw=>qfV _ _ _ _ hr.give,rE fX ?_⟩
   refine wS cJ0 (fun hc900=>?_) (fun hc900=>?_)
   ·skip
    refine wR0 1000 [4] fX ?_
    refine wP ?_
    exact fB
   ·skip
    refine wRn 1300 [2,3,7,94] fX ?_
    refine rC fX ?_
    refine⟨_,qfV _ _ _ _ hr.move,rE fX ?_⟩
    refine wS cJ0 (fun hc1300=>?_) (fun hc1300=>?_)
    ·skip
     refine wR0 1400 [4] fX ?_
     refine wP ?_
     exact fB
    ·skip
     refine wR0 1500 [2,3,95] fX ?_
     refine wF fX ?_
     refine wR0 1800 [2,3,147] fX ?_
     refine wS cJ0 (fun hc1800=>?_) (fun hc1800=>?_)
     ·skip
      refine wR0 1900 [4] fX ?_
      refine wP ?_
      exact fB
     ·skip
      refine wR0 2000 [2,3,150] fX ?_
      refine wF fX ?_
      refine wR0 2300 [2,3,192] fX ?_
      refine wS cJ0 (fun hc2300=>?_) (fun hc2300=>?_)
      ·skip
       refine wR0 2400 [4] fX ?_
       refine wP ?_
       exact fB
      ·skip
       refine wR0 2500 [2,3,195] fX ?_
       refine wF fX ?_
       refine wR0 2800 [2,3,209] fX ?_
       refine wS cJ0 (fun hc2800=>?_) (fun hc2800=>?_)
       ·skip
        refine wR0 2900 [4] fX ?_
        refine wP ?_
        exact fB
       ·skip
        refine wR0 3000 [2,3,212] fX ?_
        refine wT fX ?_
        refine wR0 3100 [4] fX ?_
        refine wP ?_
        exact fB
end
section
open Go.RowKit
theorem lenE {α:Type}(l:List α):(!decide ((l.length:Int) > 0))=(l.length==0):=by
 rw[Bool.eq_iff_iff];simp only[Bool.not_eq_true',decide_eq_false_iff_not,beq_iff_eq];omega
theorem bneE (x:Int):(!(x != 0))=(x==0):=by simp[bne]
theorem qse (l:List Int)(n lo hi:Int):qkN l n lo hi=(((l.length:Int)==n)&&l.all fun x=>btw x lo hi):=by rw[qkN,Bool.and_comm]
theorem qsG:qfd=fun x=>btw x 0 16:=rfl
theorem len0I {α:Type}(l:List α):((l.length:Int)==0)=(l.length==0):=by
 rw[Bool.eq_iff_iff];simp only[beq_iff_eq];omega
theorem refl3 (a:ByteArray):(a.toList==a.toList)=true:=by simp
theorem qqt (m:Md)(r:Rl)(hk:m.kind=1):qne 0 true true false false false false m r=qcq m r:=by
 have hb:(m.kind==6)=false:=by rw[hk];rfl
 simp only[qne,qcq,qke,qnT,qlN,hk,eq_self,if_true,Bool.false_eq_true,if_false,qdl,qgF,qse,qsG,lenE,bneE,qoh,qiV,qqF,qoi,beq_self_eq_true,Bool.true_and,Bool.and_true,len0I]
 grind
end
section
open Go.RowKit
set_option maxHeartbeats 2000000
theorem qnp {m:Md}(hk:m.kind=2∨m.kind=3)(h:qbg m=true):0<m.places.length∧0<m.letters.length:=by
 have hl:limC m.kind=[1,2,1,6,0,0,0,0]:=by rcases hk with h | h<;>rw[h]<;>rfl
 simp[qbg,btw,hl] at h
 omega
theorem qqA (m:Md)(r:Rl)(hm:m.fit)(hr:r.fit)(ha:0≤m.age∧m.age≤1000)(hk:btw m.kind 1 6=true)(hs:qbg m=true):TP Tryz.prog 87 [qaA m,qbQ r] (.bool (qcq m r)):=by
 rcases qeX hk with h | h | h | h | h | h
 ·rw[←qqt m r h];exact qoe m r hm hr ha h
 ·have:=qnp (.inl h) hs
  exact absurd hm.kd (by unfold kindOk;omega)
 ·have:=qnp (.inr h) hs
  exact absurd hm.kd (by unfold kindOk;omega)
 ·exact absurd hm.kd (by unfold kindOk;omega)
 ·exact absurd hm.kd (by unfold kindOk;omega)
 ·exact absurd hm.kd (by unfold kindOk;omega)
theorem qlS (m:Md)(hl:m.rules.length≤1000)(hr:∀r∈m.rules,TP Tryz.prog 87 [qaA m,qbQ r] (.bool (qcq m r)))(Q:IExit→(Nat→T)→Heap→Prop):∀(rest pre:List Rl) (i:Nat),m.rules=pre++rest→pre.length=i→
 ((rest.any fun r=>!qcq m r)=false→∀i:Int,Q (.exit 0) (ofL [(1,.ref 0 10 0),(3,.int .i64 i),(21,.bool false)]) (hpL [(0,.live ⟨37,mdC m⟩)]))→
 ((rest.any fun r=>!qcq m r)=true→Q .ret (ofL [(2,.int .i64 16)]) (hpL [(0,.live ⟨37,mdC m⟩)]))→
 WL Tryz.prog 52 qmy (ofL [(1,.ref 0 10 0),(3,.int .i64 i)]) (hpL [(0,.live ⟨37,mdC m⟩)]) Q:=by
 simp only[mdC]
 intro rest
 induction rest with
 | nil=>
  intro pre i he hn hQ0 hQ1
  have hd:decide ((i:Int)<((qaR m.rules).length:Int))=false:=by simp[qaS,he,hn]
  have fX:=@hd
  refine qaa qmy.eq_1 ?_
  refine wR0 1000 [1,3,21] fX ?_
  refine wF @hd ?_
  refine wX ?_
  refine wN ?_
  exact hQ0 rfl _
 | cons k rest ih=>
  intro pre i he hn hQ0 hQ1
  have hlt:(i:Int)<((qaR m.rules).length:Int):=by simp[qaS,he];omega
  have hlb:i≤1000:=by rw[he] at hl;simp at hl;omega
  have hd:decide ((i:Int)<((qaR m.rules).length:Int))=true:=decide_eq_true hlt
  have hg:(qaR m.rules).getD (i:Int).toNat .undef=.agg (rlC k):=by rw[Int.toNat_natCast,he,←hn];exact qeO _ k _
  have hw:IntKind.wrap .i64 ((i:Int)+1)=(i:Int)+1:=wrap64 (by omega) (by omega)
  have hrk:=hr k (by rw[he];simp)
  simp only[rlC] at hg
  have fX:=(cJ3 @hd @hg @hw)
  refine qaa qmy.eq_1 ?_
  refine wR0 1000 [1,3,21] fX ?_
  refine wT @hd ?_
  refine wRn 1100 [1,3,31] fX ?_
  refine rC fX ?_
  refine⟨_,hrk,rE fX ?_⟩
  refine wS cJ0 (fun hc1100=>?_) (fun hc1100=>?_)
  ·skip
   refine wR0 1200 [2] fX ?_
   refine wE ?_
   refine wN ?_
   exact hQ1 (by rw[List.any_cons,hc1100,Bool.true_or])
  ·skip
   refine wR0 1300 [1,3] fX ?_
   refine wN ?_
   have e:((k::rest).any fun r=>!qcq m r)=(rest.any fun r=>!qcq m r):=(by rw[List.any_cons,hc1100,Bool.false_or])
   rw[e] at hQ0 hQ1
   exact ih (pre++[k]) (i+1) (by simp[he]) (by simp;omega) hQ0 hQ1
set_option maxHeartbeats 4000000 in
theorem qeC (m:Md)(hm:m.fit):TP Tryz.prog 47 [qaA m] (.int .i64 (qbm m)):=by
 have hrt:=qqz m hm
 rcases hk:btw m.kind 1 6 with _ | _
 ·have hb:=qat m.kind 1 6
  rw[hk] at hb
  have fX:=@Bool.not_false
  refine qag fn47 (by simp) ?_
  unfold i47
  simp only[argL,qaA,mdC]
  refine wR0 0 [1] fX ?_
  refine wRn 100 [1,7] fX ?_
  refine rC fX ?_
  refine⟨_,hb,rE fX ?_⟩
  refine wT fX ?_
  refine wR0 200 [2] fX ?_
  refine wP ?_
  exact qaC (by rw[qbm,if_pos hk])
 ·have hb:=qat m.kind 1 6
  rw[hk] at hb
  have hst:=qlW m hk
  rcases hs:qbg m with _ | _
  ·rw[hs] at hst
   have fX:=(cJ2 @Bool.not_false @Bool.not_true)
   refine qag fn47 (by simp) ?_
   unfold i47
   simp only[argL,qaA,mdC]
   refine wR0 0 [1] fX ?_
   refine wRn 100 [1,7] fX ?_
   refine rC fX ?_
   refine⟨_,hb,rE fX ?_⟩
   refine wF fX ?_
   refine wRn 300 [1,10] fX ?_
   refine rC fX ?_
   refine⟨_,hst,rE fX ?_⟩
   refine wT fX ?_
   refine wR0 400 [2] fX ?_
   refine wP ?_
   exact qaC (by rw[qbm,if_neg (by simp[hk]),if_pos hs])
  ·rw[hs] at hst
   rcases hr:qdq m with _ | _
   ·rw[hr] at hrt
    have fX:=(cJ2 @Bool.not_false @Bool.not_true)
    refine qag fn47 (by simp) ?_
    unfold i47
    simp only[argL,qaA,mdC]
    refine wR0 0 [1] fX ?_
    refine wRn 100 [1,7] fX ?_
    refine rC fX ?_
    refine⟨_,hb,rE fX ?_⟩
    refine wF fX ?_
    refine wRn 300 [1,10] fX ?_
    refine rC fX ?_
    refine⟨_,hst,rE fX ?_⟩
    refine wF fX ?_
    refine wRn 500 [1,13] fX ?_
    refine rC fX ?_
    refine⟨_,hrt,rE fX ?_⟩
    refine wT fX ?_
    refine wR0 600 [2] fX ?_
    refine wP ?_
    exact qaC (by rw[qbm,if_neg (by simp[hk]),if_neg (by simp[hs]),if_pos hr])
   ·rw[hr] at hrt
    have hsn:=qgm hm hk hs hr
    have hch:qbm m=if qhR m=false then 13 else if (m.rules.any fun r=>!qcq m r)=true then 16 else if qbF m=false then 17 else 0:=by rw[qbm,if_neg (by simp[hk]),if_neg (by simp[hs]),if_neg (by simp[hr])]
    have ht:=qid m hsn
    have hv:=qf5 (qa9 m) m.start (qgt m hm.places hm.ranks) hm.start
    rw[qjg] at hv
    rcases hty:qa9 m with⟨tk,ts,trs,tps⟩
    rw[hty] at ht hv
    simp only[qaz] at ht hv
    have fX:=(cJ2 @Bool.not_false @Bool.not_true)
    refine qag fn47 (by simp) ?_
    unfold i47
    simp only[argL,qaA,mdC]
    refine wR0 0 [1] fX ?_
    refine wRn 100 [1,7] fX ?_
    refine rC fX ?_
    refine⟨_,hb,rE fX ?_⟩
    refine wF fX ?_
    refine wRn 300 [1,10] fX ?_
    refine rC fX ?_
    refine⟨_,hst,rE fX ?_⟩
    refine wF fX ?_
    refine wRn 500 [1,13] fX ?_
    refine rC fX ?_
    refine⟨_,hrt,rE fX ?_⟩
    refine wF fX ?_
    refine wRn 700 [1,16] fX ?_
    refine rC fX ?_
    refine⟨_,qqv m hm (qk8 hs),rE fX ?_⟩
    refine wS cJ0 (fun hc700=>?_) (fun hc700=>?_)
    ·skip
     refine wR0 800 [2] fX ?_
     refine wP ?_
     exact qaC (by simp at hc700;rw[hch,if_pos hc700])
    ·skip
     refine wR0 900 [1,3] fX ?_
     simp only[thn]
     simp only[Bool.not_eq_false'] at hc700
     have hch2:qbm m=if (m.rules.any fun r=>!qcq m r)=true then 16 else if qbF m=false then 17 else 0:=(by rw[hch,if_neg (by simp[hc700])])
     refine wL ?_
     refine qlS m hm.rules (fun r hr=>qqA m r hm (hm.rule r hr) hsn.age hk hs) _ m.rules [] 0 rfl rfl ?_ ?_
     ·intro h i
      refine wN ?_
      refine wR0 1400 [1,34] fX ?_
      simp only[thn]
      have hch3:qbm m=if qbF m=false then 17 else 0:=(by rw[hch2,if_neg (by simp only[h];simp)])
      refine wS cJ0 (fun hc1400=>?_) (fun hc1400=>?_)
      ·skip
       refine wR0 1500 [45] fX ?_
       refine wS cJ0 (fun hc1500=>?_) (fun hc1500=>?_)
       ·skip
        refine wR0 1600 [2] fX ?_
        refine wP ?_
        exact qaC (by simp at hc1400;have hbg:qbF m=false:=(by rw[qbF,if_pos hc1400,Bool.eq_false_iff];intro hb;simp only[Bool.and_eq_true,beq_iff_eq] at hb;have hb2:=hb.2;simp[qal,hb.1] at hc1500;omega);rw[hch3,if_pos hbg])
       ·skip
        refine wR0 1700 [2] fX ?_
        refine wP ?_
        exact qaC (by simp at hc1400;have hbg:qbF m=true:=(by rw[qbF,if_pos hc1400];simp[qal] at hc1500;simp[hc1500]);rw[hch3,if_neg (by simp[hbg])])
      ·skip
       refine wN ?_
       simp only[mdC]
       refine wRn 1800 [51] fX ?_
       refine rC fX ?_
       refine⟨_,ht,rN fX ?_⟩
       refine rC fX ?_
       refine⟨_,hv,rE fX ?_⟩
       refine wS cJ0 (fun hc1800=>?_) (fun hc1800=>?_)
       ·skip
        refine wR0 1900 [2] fX ?_
        refine wP ?_
        exact qaC (by simp at hc1400 hc1800;have hbg:qbF m=false:=(by rw[qbF,if_neg hc1400,hty];exact hc1800);rw[hch3,if_pos hbg])
       ·skip
        refine wR0 2000 [2] fX ?_
        refine wP ?_
        exact qaC (by simp at hc1400 hc1800;have hbg:qbF m=true:=(by rw[qbF,if_neg hc1400,hty];exact hc1800);rw[hch3,if_neg (by simp[hbg])])
     ·intro h
      refine wN ?_
      exact⟨by simp,_,rfl,by exact qaC (by rw[hch2,if_pos h])⟩
theorem qc1 (m:Md)(c:V)(hm:m.fit)(hc:c.fit):TP Tryz.prog 29 [qaA m,encV c] (.bool (qdr m c)):=by
 rcases c with⟨n,ks⟩
 refine qag fn29 (by simp) ?_
 unfold i29
 simp only[argL,encV,qaA,mdC]
 refine wR0 0 [2,3] cJ0 ?_
 refine wRn 100 [4] cJ0 ?_
 refine rC cJ0 ?_
 refine⟨_,qeC m hm,rN cJ0 ?_⟩
 refine rCi cJ0 ?_
 refine⟨_,fun hw=>qid m (qf9 hm (by simpa using hw)),rN cJ0 ?_⟩
 refine rCi cJ0 ?_
 refine⟨_,fun hw=>qf5 (qa9 m) (.mk n ks) (typedM_fit' hm) hc,rE cJ0 ?_⟩
 refine wP ?_
 exact qac rfl
end
section
open Go.RowKit
def allI (p:Nat→Bool):Nat→Nat→Bool
 | _,0=>true
 | i,k+1=>p i&&allI p (i+1) k
theorem qdR (p:Nat→Bool):∀(k i:Nat),allI p i k=true↔∀j,i≤j→j<i+k→p j=true
 | 0,i=>by simp[allI];intro j h1 h2;omega
 | k+1,i=>by
  rw[allI,Bool.and_eq_true,qdR p k (i+1)]
  refine⟨fun h j h1 h2=>?_,fun h=>⟨h i (Nat.le_refl _) (by omega),fun j h1 h2=>h j (by omega) (by omega)⟩⟩
  by_cases e:j=i
  ·rw[e];exact h.1
  ·exact h.2 j (by omega) (by omega)
theorem qcu (xs:List Int)(i:Nat)(h:i<xs.length):(qad xs).getD (i:Int).toNat .undef=.int .i64 (xs.getD i 0):=by
 simp[qad,List.getD_eq_getElem?_getD,h]
def fin1 (x:Int):Bool:=decide (x≥0)&&decide (x≤1048576)
end
section
open Go.RowKit
set_option maxHeartbeats 2000000
theorem qgT (pre:List Int)(x:Int)(r:List Int)(i:Nat)(h:pre.length=i):(qad (pre++x::r)).getD (i:Int).toNat .undef=.int .i64 x:=by
 rw[Int.toNat_natCast,←h];exact qcN _ x _
theorem qaF (zs:List T):repl 1 zs=zs:=by simp[repl]
theorem qcR {H:Heap}{D:Nat→Bool}{id ty n tot:Nat}(l:List Int)(hb:H id=.live ⟨ty,qad l⟩)(hd:D id=false)(hn:n=l.length)(ht:tot=l.length):Fz H D (.sl id tot 0 0 n) (.list (qad l)):=by
 subst hn ht
 refine Fz.sl hb hd (qae l) (by simp[esz]) (qae l) (qgz l) (by rw[qb7];exact qiv l) fun k hk=>?_
 rw[qb7,Nat.zero_add]
 exact .same (qbk (qah _ l) k)
theorem qia (ys:List Int)(i:Nat)(h:i<ys.length):ys.take (i+1)=ys.take i++[ys.getD i 0]:=by
 rw[List.take_add_one,List.getElem?_eq_getElem h]
 simp[List.getD_eq_getElem?_getD,h]
abbrev natV (n:Int):V:=.mk n []
def cfV (s:Int)(v:List Int):V:=.mk 0 (natV s::v.map natV)
theorem qhp (v:List Int)(i:Nat)(h:i<v.length):(qaj (v.map natV)).getD (i:Int).toNat .undef=.agg [.int .i64 (v.getD i 0),.list []]:=by
 rw[qc6]
 simp[List.getD_eq_getElem?_getD,h,encV,qaj]
theorem qeS (v:List Int):(qaj (v.map natV)).length=v.length:=by rw[qal,List.length_map]
theorem qbv (s:Int)(v:List Int):encV (cfV s v)=.agg [.int .i64 0,.list (encV (natV s)::qaj (v.map natV))]:=rfl
end
section
open Go.RowKit
attribute [local go_sem] Oper.semAt_some
structure Nn where
 st:Int
 vec:List Int
 par:Int
 rule:Int
instance:Inhabited Nn:=⟨⟨0,[],0,0⟩⟩
def nnC (n:Nn):List T:=[.int .i64 n.st,.list (qad n.vec),.int .i64 n.par,.int .i64 n.rule]
def encN (n:Nn):T:=.agg (nnC n)
def qt0 (l:List Nn):List T:=l.flatMap nnC
theorem qdW (D:Nat→Bool):∀l:List Nn,clL D (qt0 l)=true
 | []=>rfl
 | x::l=>by
  have:=qdW D l
  simp only[qt0] at this
  simp[qt0,this,nnC,clL,T.cl,qah]
theorem qaX {W:World}{A:Sta}{μ:Nat→Nat}{H:Heap}{v:Value}{k:IntKind}{n:Int}(h:Rep W A μ H v (.int k n)):v=.int k n:=by
 cases h with
 | int=>rfl
end
section
open Go.RowKit
attribute [local simp] qdW qah
theorem TC.fullL {P:Program}{f:FuncId}{xs:List T}{v:T}{C U:List (Nat×Slot)}(h:TC P f xs (hpL C) v (hpL U))(h1:(C.map (·.1)).Nodup)(h2:Heap.upd (hpL C) U=hpL U):TC P f xs (hp C) v ((hp C).upd U):=by
 rw[qmt C h1,h2];exact h
abbrev sVv (v:List Int):Slot:=.live ⟨3,qad v⟩
theorem qi0 (l:List Int)(x:Int)(j:Nat)(h:j<l.length):List.take j (qad l)++[.int .i64 x]++List.drop (j+1) (qad l)=qad (l.set j x):=by
 rw[List.set_eq_take_append_cons_drop,if_pos h]
 simp[qad,List.map_take,List.map_drop]
theorem qql (l:List Int)(j:Nat)(h:j<l.length):List.take 1 (List.drop j (qad l))=[.int .i64 (l.getD j 0)]:=by
 rw[qad,←List.map_drop,List.drop_eq_getElem_cons h,List.map_cons,List.take_succ_cons,List.take_zero]
 simp[List.getD_eq_getElem?_getD,h]
end
section
open Go.RowKit
attribute [local simp] qah
def qcn (r:Rl)(s:Int)(v:List Int):Bool:=(r.from_==s)&&allI (fun j=>!decide (v.getD j 0<r.need.getD j 0)) 0 r.need.length
def aft1 (r:Rl)(v:List Int)(j:Nat):Int:=if v.getD j 0=1099511627776 then 1099511627776 else v.getD j 0 - r.need.getD j 0+r.give.getD j 0
def aftR (r:Rl)(v:List Int):List Int:=(List.range v.length).map (aft1 r v)
def aftO (r:Rl)(v:List Int):Bool:=allI (fun j=>(v.getD j 0==1099511627776) || decide (aft1 r v j≤1048576)) 0 v.length
theorem qeL (r:Rl)(v:List Int):(aftR r v).length=v.length:=by simp[aftR]
theorem qfy (r:Rl)(v:List Int)(j:Nat)(h:j<v.length):(aftR r v).getD j 0=aft1 r v j:=by simp[aftR,List.getD_eq_getElem?_getD,h]
end
section
open Go.RowKit
set_option maxHeartbeats 2000000
attribute [local simp] qah
theorem rp0 (zs:List T):repl 0 zs=[]:=rfl
theorem qrz (x:Int)(l:List Int)(hl:(x::l).length≤1000000):TC Tryz.prog 75 [.list (qad (x::l))] (hpL []) (.sl 300 (l.length+1) 0 0 (l.length+1)) (hpL [(300,.live ⟨3,qad (x::l)⟩)]):=by
 have hsz:=qdT (x::l)
 have hle:l.length+1≤1000000000:=by simp at hl;omega
 have hne:qad (x::l)≠[]:=by simp
 have hlen:(qad (x::l)).length=l.length+1:=by simp[qae]
 have hq:binT .eql .slice (.list (qad (x::l))) .nil=some (.bool false):=rfl
 have fX:=(cJ5 @qb7 @hsz @hq @rp0 @hlen)
 refine qi2 fn75 (by simp) ?_
 unfold i75
 simp only[argL]
 refine wR0 0 [0] fX ?_
 refine wR0 100 [0,4] fX ?_
 refine wF @true_and ?_
 refine wR0 300 [2] fX ?_
 refine wE ?_
 refine wN ?_
 first | exact⟨by simp,rfl,rfl⟩ | exact⟨by simp,rfl,trivial⟩
structure RoomR (r:Rl) (v:List Int):Prop where
 need:r.need.length=v.length
 give:r.give.length=v.length
 needB:∀j,0≤r.need.getD j 0∧r.need.getD j 0≤1048576
 giveB:∀j,0≤r.give.getD j 0∧r.give.getD j 0≤1048576
 vec:∀j,0≤v.getD j 0∧(v.getD j 0≤1048576∨v.getD j 0=1099511627776)
end
section
open Go.RowKit
set_option maxHeartbeats 2000000
attribute [local simp] qdW qah qax
abbrev sMg (m:Md):Slot:=.live ⟨37,mdC m⟩
end
section
open Go.RowKit
attribute [local simp] qdW qah qax
def encNs (l:List Nn):List T:=l.map encN
@[simp] theorem qtW (D:Nat→Bool)(n:Nn):(encN n).cl D=true:=by simp[encN,nnC,T.cl,clL,qah]
@[simp] theorem qgU (D:Nat→Bool)(l:List Nn):clL D (encNs l)=true:=by
 induction l with
 | nil=>rfl
 | cons x l ih=>simp only[encNs,List.map_cons,clL,qtW,Bool.true_and];exact ih
end
section
open Go.RowKit
attribute [local simp] qdW qah qax
theorem qaK {H:Heap}{a b a' b':T}(h1:Frz H a a')(h2:Frz H b b'):Frz H (.tup [a,b]) (.tup [a',b']):=.tup rfl fun i hi=>by
 match i,hi with
 | 0,_=>exact h1
 | 1,_=>exact h2
theorem qa2 (s:Int):encV (natV s)=.agg [.int .i64 s,.list []]:=rfl
end
section
open Go.RowKit
attribute [local simp] qdW qah qax qgU
structure VecOk (N:Nat) (v:List Int):Prop where
 len:v.length=N
 ent:∀j,0≤v.getD j 0∧(v.getD j 0≤1048576∨v.getD j 0=1099511627776)
def qi1 (N:Nat)(rs:List Rl):Prop:=∀r∈rs,(r.need.length=N∧r.give.length=N)∧∀j,(0≤r.need.getD j 0∧r.need.getD j 0≤1048576)∧(0≤r.give.getD j 0∧r.give.getD j 0≤1048576)
theorem qi1.room {N:Nat}{rs:List Rl}(h:qi1 N rs){v:List Int}(hv:VecOk N v){r:Rl}(hr:r∈rs):RoomR r v:=
 ⟨by rw[(h r hr).1.1,hv.len],by rw[(h r hr).1.2,hv.len],fun j=>((h r hr).2 j).1,fun j=>((h r hr).2 j).2,hv.ent⟩
theorem qdY {v:List Int}{j:Nat}(h:v.length≤j):v.getD j 0=0:=by simp[List.getD_eq_getElem?_getD,h]
end
section
open Go.RowKit Go.Sort Go.Shelf
theorem qkP {a b:Int}:ordI a b=0↔a=b:=by unfold ordI;split<;>(try split)<;>omega
theorem ordI_neg' {a b:Int}:ordI a b<0↔a<b:=by unfold ordI;split<;>(try split)<;>omega
mutual
theorem qhm:∀ {a b:V},cmpV a b=0→a=b
 | .mk a ks,.mk b ls,h=>by
  simp only[cmpV] at h
  by_cases h1:a=b
  ·by_cases h2:ks.length=ls.length
   ·rw[if_neg (by simp[h1]),if_neg (by simp[h2])] at h
    rw[h1,cmpL_eq h2 h]
   ·rw[if_neg (by simp[h1]),if_pos h2] at h
    have:=qkP.1 h
    omega
  ·rw[if_pos h1] at h
   exact absurd (qkP.1 h) h1
theorem cmpL_eq:∀ {ks ls:List V},ks.length=ls.length→cmpL ks ls=0→ks=ls
 | [],[],_,_=>rfl
 | [],_::_,h,_=>by simp at h
 | _::_,[],h,_=>by simp at h
 | k::ks,l::ls,h,h0=>by
  simp only[cmpL] at h0
  by_cases hk:cmpV k l=0
  ·rw[if_neg (by simp[hk])] at h0
   rw[qhm hk,cmpL_eq (by simpa using h) h0]
  ·rw[if_pos hk] at h0
   exact absurd h0 hk
end
theorem qei (a:V):cmpV a a=0:=by have:=qcU a a;omega
theorem qfz {k l:V}{ks ls:List V}:cmpL (k::ks) (l::ls)<0↔cmpV k l<0∨k=l∧cmpL ks ls<0:=by
 simp only[cmpL]
 by_cases h:cmpV k l=0
 ·have e:=qhm h
  subst e
  rw[if_neg (by simp[h])]
  constructor
  ·exact fun hl=>.inr ⟨rfl,hl⟩
  ·rintro (hl | ⟨_,hl⟩)
   ·omega
   ·exact hl
 ·rw[if_pos h]
  constructor
  ·exact fun hl=>.inl hl
  ·rintro (hl | ⟨rfl,_⟩)
   ·exact hl
   ·exact absurd (qei k) h
theorem qlp {a b:Int}{ks ls:List V}:cmpV (.mk a ks) (.mk b ls)<0↔a<b∨a=b∧(ks.length<ls.length∨ks.length=ls.length∧cmpL ks ls<0):=by
 simp only[cmpV]
 by_cases h1:a=b
 ·rw[if_neg (by simp[h1])]
  by_cases h2:ks.length=ls.length
  ·rw[if_neg (by simp[h2])]
   constructor
   ·exact fun h=>.inr ⟨h1,.inr ⟨h2,h⟩⟩
   ·rintro (h | ⟨_,h | ⟨_,h⟩⟩)
    ·omega
    ·omega
    ·exact h
  ·rw[if_pos h2,ordI_neg']
   constructor
   ·exact fun h=>.inr ⟨h1,.inl (by omega)⟩
   ·rintro (h | ⟨_,h | ⟨h,_⟩⟩)
    ·omega
    ·omega
    ·exact absurd h h2
 ·rw[if_pos h1,ordI_neg']
  constructor
  ·exact fun h=>.inl h
  ·rintro (h | ⟨h,_⟩)
   ·exact h
   ·exact absurd h h1
mutual
theorem qga:∀ {a b c:V},cmpV a b<0→cmpV b c<0→cmpV a c<0
 | .mk a ks,.mk b ls,.mk c ms,h,h'=>by
  rw[qlp] at h h' ⊢
  rcases h with h | ⟨h,h1 | ⟨h1,h2⟩⟩
  ·rcases h' with h' | ⟨h',_⟩
   ·exact .inl (by omega)
   ·exact .inl (by omega)
  ·rcases h' with h' | ⟨h',h3 | ⟨h3,h4⟩⟩
   ·exact .inl (by omega)
   ·exact .inr ⟨by omega,.inl (by omega)⟩
   ·exact .inr ⟨by omega,.inl (by omega)⟩
  ·rcases h' with h' | ⟨h',h3 | ⟨h3,h4⟩⟩
   ·exact .inl (by omega)
   ·exact .inr ⟨by omega,.inl (by omega)⟩
   ·exact .inr ⟨by omega,.inr ⟨by omega,qis h1 h3 h2 h4⟩⟩
theorem qis:∀ {ks ls ms:List V},ks.length=ls.length→ls.length=ms.length→cmpL ks ls<0→cmpL ls ms<0→cmpL ks ms<0
 | [],_,_,_,_,h,_=>by simp[cmpL] at h
 | _::_,[],_,h,_,_,_=>by simp at h
 | _::_,_::_,[],_,h,_,_=>by simp at h
 | k::ks,l::ls,m::ms,e1,e2,h,h'=>by
  rw[qfz] at h h' ⊢
  rcases h with h | ⟨rfl,h⟩
  ·rcases h' with h' | ⟨rfl,h'⟩
   ·exact .inl (qga h h')
   ·exact .inl h
  ·rcases h' with h' | ⟨rfl,h'⟩
   ·exact .inl h'
   ·exact .inr ⟨rfl,qis (by simpa using e1) (by simpa using e2) h h'⟩
end
theorem qfA {a b c:V}(h:¬cmpV b a<0)(h':¬cmpV c b<0):¬cmpV c a<0:=by
 have n1:=qcU a b
 have n2:=qcU b c
 have n3:=qcU a c
 intro h3
 by_cases e1:cmpV a b=0
 ·have e:=qhm e1
  subst e
  exact h' h3
 ·by_cases e2:cmpV b c=0
  ·have e:=qhm e2
   subst e
   exact h h3
  ·have:=qga (a:=a) (b:=b) (c:=c) (by omega) (by omega)
   omega
theorem qrA:SWO (ltOf cmpV):=by
 refine⟨fun x=>by simp[ltOf,qei],fun x y z h h'=>?_,fun x y z h h'=>?_⟩
 ·simp only[ltOf,decide_eq_true_eq] at *;exact qga h h'
 ·simp only[ltOf,decide_eq_false_iff_not] at *;exact qfA h' h
theorem qoS {a b:V}(h:¬cmpV b a<0)(h':¬cmpV a b<0):a=b:=by
 have:=qcU a b
 exact qhm (by omega)
def Asc (l:List V):Prop:=l.Pairwise fun a b=>¬cmpV b a<0
theorem qin:∀ {xs ys:List V},xs.Perm ys→Asc xs→Asc ys→xs=ys
 | [],ys,h,_,_=>by simpa using h.symm
 | x::xs,[],h,_,_=>by simp at h
 | x::xs,y::ys,h,hx,hy=>by
  have hx':=List.pairwise_cons.1 hx
  have hy':=List.pairwise_cons.1 hy
  have e:x=y:=by
   have m1:x∈y::ys:=h.mem_iff.1 (List.mem_cons_self ..)
   have m2:y∈x::xs:=h.mem_iff.2 (List.mem_cons_self ..)
   rcases List.mem_cons.1 m1 with e | m1
   ·exact e
   ·rcases List.mem_cons.1 m2 with e | m2
    ·exact e.symm
    ·exact qoS (hx'.1 y m2) (hy'.1 x m1)
  subst e
  rw[qin (List.perm_cons x |>.1 h) hx'.2 hy'.2]
theorem qhH (x:V):∀ys:List V,(insR x ys).Perm (x::ys)
 | []=>List.Perm.refl _
 | y::ys=>by
  unfold insR
  split
  ·exact ((qhH x ys).cons y).trans (List.Perm.swap x y ys)
  ·exact List.Perm.refl _
theorem qkG (x:V):∀ys:List V,ys.Pairwise (fun a b=>¬cmpV a b<0)→(insR x ys).Pairwise fun a b=>¬cmpV a b<0
 | [],_=>by simp[insR]
 | y::ys,h=>by
  have h':=List.pairwise_cons.1 h
  unfold insR
  split
  ·rename_i hlt
   refine List.pairwise_cons.2 ⟨fun z hz=>?_,qkG x ys h'.2⟩
   rcases List.mem_cons.1 ((qhH x ys).mem_iff.1 hz) with rfl | hz
   ·have:=qcU z y;omega
   ·exact h'.1 z hz
  ·rename_i hge
   refine List.pairwise_cons.2 ⟨fun z hz=>?_,h⟩
   rcases List.mem_cons.1 hz with rfl | hz
   ·exact hge
   ·exact qfA (h'.1 z hz) hge
theorem qhL:∀(l acc:List V),(qkJ acc l).Perm (l++acc)
 | [],acc=>List.Perm.refl _
 | x::l,acc=>by
  rw[qhJ]
  refine (qhL l (insR x acc)).trans ?_
  refine ((qhH x acc).append_left l).trans ?_
  exact List.perm_middle
theorem qhK:∀(l acc:List V),acc.Pairwise (fun a b=>¬cmpV a b<0)→(qkJ acc l).Pairwise fun a b=>¬cmpV a b<0
 | [],acc,h=>h
 | x::l,acc,h=>by
  rw[qhJ]
  exact qhK l _ (qkG x acc h)
def qlc (l:List V):List V:=(qkJ [] l).reverse
theorem qiW (l:List V):(qlc l).Perm l:=(List.reverse_perm _).trans (by simpa using qhL l [])
theorem qq0 (l:List V):Asc (qlc l):=List.pairwise_reverse.2 (qhK l [] List.Pairwise.nil)
theorem qns {l zs:List V}(h:zs.Perm l)(hz:Asc zs):zs=qlc l:=qin (h.trans (qiW l).symm) hz (qq0 l)
theorem qld (l:List V):(qlc l).length=l.length:=(qiW l).length_eq
structure Lm where
 st:Int
 vec:List Int
instance:Inhabited Lm:=⟨⟨0,[]⟩⟩
def Lm.fit (x:Lm):Prop:=x.vec.length≤1000000
def lmC (x:Lm):List T:=[.int .i64 x.st,.list (qad x.vec)]
def qtV (x:Lm):T:=.agg (lmC x)
def qtn (l:List Lm):List T:=l.map qtV
@[simp] theorem qrI (D:Nat→Bool)(x:Lm):(qtV x).cl D=true:=by simp[qtV,lmC,T.cl,clL,qah]
@[simp] theorem encLms_cl (D:Nat→Bool)(l:List Lm):clL D (qtn l)=true:=by
 induction l with
 | nil=>rfl
 | cons x l ih=>simp only[qtn,List.map_cons,clL,qrI,Bool.true_and];exact ih
end
end Go.Proofs.YtkbjpglehdhjfaaGreatDoor
