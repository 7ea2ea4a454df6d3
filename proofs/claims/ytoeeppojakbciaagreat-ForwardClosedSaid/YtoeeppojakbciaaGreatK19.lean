/- Contracts of functions of the program, for all arguments that they name. -/
import Derived.Test.YtoeeppojakbciaaGreatK18
namespace Go.Proofs.YtoeeppojakbciaaGreat
set_option linter.unusedVariables false
section
open Go.RowKit
set_option maxHeartbeats 2000000
def actsR (m:Md)(r:Rl):Bool:=btw r.act 0 2&&btw r.chan 0 ((m.places.length:Int) - 1)&&btw r.lett 0 ((m.letters.length:Int) - 1)&&!(r.act==0&&(r.chan != 0 || r.lett != 0))
def qmu (low:Int)(cnt cou chn nes tim bra:Bool)(m:Md)(r:Rl):Bool:=
 btw r.from_ low ((m.states.length:Int) - 1)&&btw r.to_ 0 ((m.states.length:Int) - 1)&&
 (if cnt then qjQ r.need m.places.length 0 16&&qjQ r.give m.places.length 0 16 else !decide ((r.need.length:Int) > 0)&&!decide ((r.give.length:Int) > 0))&&
 (!decide ((r.move.length:Int) > 0) || (cou&&qjQ r.move m.places.length (-1) ((m.places.length:Int) - 1)))&&
 (if chn then actsR m r else !(r.chan != 0)&&!(r.act != 0)&&!(r.lett != 0))&&
 (if nes then fewR r.path m.levels ((m.letters.length:Int) - 1)&&fewR r.next m.levels ((m.letters.length:Int) - 1)&&!((r.path.length:Int)+r.next.length==0) else !decide ((r.path.length:Int) > 0)&&!decide ((r.next.length:Int) > 0))&&
 (if tim then timedR m r else !decide ((r.takes.length:Int) > 0)&&!decide ((r.makes.length:Int) > 0))&&
 (if bra then (if r.from_ == -1 then r.second == -1&&r.need.all fun x=>btw x 0 0 else btw r.second (-1) ((m.states.length:Int) - 1)) else r.second==0)
theorem fB {H:Heap}{a b:Bool}(h:a=b:=by simp only[qmu,eq_self,if_true,Bool.false_eq_true,if_false,Bool.false_and,Bool.true_and,Bool.or_false];grind):Frz H (.bool a) (.bool b):=qab h
set_option maxHeartbeats 8000000 in
theorem qnA (m:Md)(r:Rl)(hm:m.fit)(hr:r.fit)(ha:0≤m.age∧m.age≤1000)(hk:m.kind=1):TP Tryz.prog 112 [qas m,qa0 r] (.bool (qmu 0 true true false false false false m r)):=by
 have kb1:(m.kind==1)=true:=by rw[hk];rfl
 have kb2:(m.kind==2)=false:=by rw[hk];rfl
 have kb3:(m.kind==3)=false:=by rw[hk];rfl
 have kb4:(m.kind==4)=false:=by rw[hk];rfl
 have kb5:(m.kind==5)=false:=by rw[hk];rfl
 have kb6:(m.kind==6)=false:=by rw[hk];rfl
 have kn1:(m.kind != 1)=!true:=by rw[hk];rfl
 have kn6:(m.kind != 6)=!false:=by rw[hk];rfl
 have hms:=hm.states
 have hmp:=hm.places
 have hml:=hm.letters
 have hpn:=hr.path
 have hnn:=hr.next
 have hw1:IntKind.wrap .i64 ((m.states.length:Int) - 1)=(m.states.length:Int) - 1:=wrap64 (by omega) (by omega)
 have hw2:IntKind.wrap .i64 ((m.places.length:Int) - 1)=(m.places.length:Int) - 1:=wrap64 (by omega) (by omega)
 have hw3:IntKind.wrap .i64 ((m.letters.length:Int) - 1)=(m.letters.length:Int) - 1:=wrap64 (by omega) (by omega)
 have hw4:IntKind.wrap .i64 ((r.path.length:Int)+(r.next.length:Int))=(r.path.length:Int)+(r.next.length:Int):=wrap64 (by omega) (by omega)
 rcases hmv:decide ((r.move.length:Int) > 0) with _ | _
 ·have fX:=(cJ8 @qaf @qad @qb9 @kb1 @kb2 @kb3 @kb4 (cJ8 @kb5 @kb6 @kn1 @kn6 @hw1 @hw2 @hw3 (cJ7 @hw4 @hmv @hw1 @Bool.not_true @Bool.not_false @Bool.true_or @Bool.false_or)))
  refine qah fn112 (by simp) ?_
  unfold i112
  simp only[argL,qas,mdC,qa0,rlC]
  refine wR0 0 [2,3] fX ?_
  refine wR0 100 [2,3,5] fX ?_
  refine wR0 200 [2,3,5,10] fX ?_
  refine wF fX ?_
  refine wRn 400 [2,3,29] fX ?_
  refine rC fX ?_
  refine⟨_,qat _ _ _,rN fX ?_⟩
  refine rCi fX ?_
  refine⟨_,fun hw=>qat _ _ _,rE fX ?_⟩
  refine wS cJ0 (fun hc400=>?_) (fun hc400=>?_)
  ·skip
   refine wR0 500 [4] fX ?_
   refine wP ?_
   exact fB
  ·skip
   refine wR0 600 [2,3,6] fX ?_
   refine wR0 700 [2,3,6,7] fX ?_
   refine wR0 800 [2,3,7,46] fX ?_
   refine wT fX ?_
   refine wRn 900 [2,3,7,62] fX ?_
   refine rC fX ?_
   refine⟨_,qe3 _ _ _ _ hr.need,rN fX ?_⟩
   refine rCi fX ?_
   refine⟨_,fun hw=>qe3 _ _ _ _ hr.give,rE fX ?_⟩
   refine wS cJ0 (fun hc900=>?_) (fun hc900=>?_)
   ·skip
    refine wR0 1000 [4] fX ?_
    refine wP ?_
    exact fB
   ·skip
    refine wR0 1300 [2,3,7,94] fX ?_
    refine wF fX ?_
    refine wR0 1500 [2,3,95] fX ?_
    refine wF fX ?_
    refine wR0 1800 [2,3,147] fX ?_
    refine wS cJ0 (fun hc1800=>?_) (fun hc1800=>?_)
    ·skip
     refine wR0 1900 [4] fX ?_
     refine wP ?_
     exact fB
    ·skip
     refine wR0 2000 [2,3,150] fX ?_
     refine wF fX ?_
     refine wR0 2300 [2,3,192] fX ?_
     refine wS cJ0 (fun hc2300=>?_) (fun hc2300=>?_)
     ·skip
      refine wR0 2400 [4] fX ?_
      refine wP ?_
      exact fB
     ·skip
      refine wR0 2500 [2,3,195] fX ?_
      refine wF fX ?_
      refine wR0 2800 [2,3,209] fX ?_
      refine wS cJ0 (fun hc2800=>?_) (fun hc2800=>?_)
      ·skip
       refine wR0 2900 [4] fX ?_
       refine wP ?_
       exact fB
      ·skip
       refine wR0 3000 [2,3,212] fX ?_
       refine wT fX ?_
       refine wR0 3100 [4] fX ?_
       refine wP ?_
       exact fB
 ·have fX:=(cJ8 @qaf @qad @qb9 @kb1 @kb2 @kb3 @kb4 (cJ8 @kb5 @kb6 @kn1 @kn6 @hw1 @hw2 @hw3 (cJ7 @hw4 @hmv @hw1 @Bool.not_true @Bool.not_false @Bool.true_or @Bool.false_or)))
  refine qah fn112 (by simp) ?_
  unfold i112
  simp only[argL,qas,mdC,qa0,rlC]
  refine wR0 0 [2,3] fX ?_
  refine wR0 100 [2,3,5] fX ?_
  refine wR0 200 [2,3,5,10] fX ?_
  refine wF fX ?_
  refine wRn 400 [2,3,29] fX ?_
  refine rC fX ?_
  refine⟨_,qat _ _ _,rN fX ?_⟩
  refine rCi fX ?_
  refine⟨_,fun hw=>qat _ _ _,rE fX ?_⟩
  refine wS cJ0 (fun hc400=>?_) (fun hc400=>?_)
  ·skip
   refine wR0 500 [4] fX ?_
   refine wP ?_
   exact fB
  ·skip
   refine wR0 600 [2,3,6] fX ?_
   refine wR0 700 [2,3,6,7] fX ?_
   refine wR0 800 [2,3,7,46] fX ?_
   refine wT fX ?_
   refine wRn 900 [2,3,7,62] fX ?_
   refine rC fX ?_
   refine⟨_,qe3 _ _ _ _ hr.need,rN fX ?_⟩
   refine rCi fX ?_
   refine⟨_,fun hw=>qe3 _ _ _ _ hr.give,rE fX ?_⟩
   refine wS cJ0 (fun hc900=>?_) (fun hc900=>?_)
   ·skip
    refine wR0 1000 [4] fX ?_
    refine wP ?_
    exact fB
   ·skip
    refine wRn 1300 [2,3,7,94] fX ?_
    refine rC fX ?_
    refine⟨_,qe3 _ _ _ _ hr.move,rE fX ?_⟩
    refine wS cJ0 (fun hc1300=>?_) (fun hc1300=>?_)
    ·skip
     refine wR0 1400 [4] fX ?_
     refine wP ?_
     exact fB
    ·skip
     refine wR0 1500 [2,3,95] fX ?_
     refine wF fX ?_
     refine wR0 1800 [2,3,147] fX ?_
     refine wS cJ0 (fun hc1800=>?_) (fun hc1800=>?_)
     ·skip
      refine wR0 1900 [4] fX ?_
      refine wP ?_
      exact fB
     ·skip
      refine wR0 2000 [2,3,150] fX ?_
      refine wF fX ?_
      refine wR0 2300 [2,3,192] fX ?_
      refine wS cJ0 (fun hc2300=>?_) (fun hc2300=>?_)
      ·skip
       refine wR0 2400 [4] fX ?_
       refine wP ?_
       exact fB
      ·skip
       refine wR0 2500 [2,3,195] fX ?_
       refine wF fX ?_
       refine wR0 2800 [2,3,209] fX ?_
       refine wS cJ0 (fun hc2800=>?_) (fun hc2800=>?_)
       ·skip
        refine wR0 2900 [4] fX ?_
        refine wP ?_
        exact fB
       ·skip
        refine wR0 3000 [2,3,212] fX ?_
        refine wT fX ?_
        refine wR0 3100 [4] fX ?_
        refine wP ?_
        exact fB
end
section
open Go.RowKit
theorem lenE {α:Type}(l:List α):(!decide ((l.length:Int) > 0))=(l.length==0):=by
 rw[Bool.eq_iff_iff];simp only[Bool.not_eq_true',decide_eq_false_iff_not,beq_iff_eq];omega
theorem bneE (x:Int):(!(x != 0))=(x==0):=by simp[bne]
theorem qq5 (l:List Int)(n lo hi:Int):qjQ l n lo hi=(((l.length:Int)==n)&&l.all fun x=>btw x lo hi):=by rw[qjQ,Bool.and_comm]
theorem qrQ:qei=fun x=>btw x 0 16:=rfl
theorem len0I {α:Type}(l:List α):((l.length:Int)==0)=(l.length==0):=by
 rw[Bool.eq_iff_iff];simp only[beq_iff_eq];omega
theorem refl3 (a:ByteArray):(a.toList==a.toList)=true:=by simp
theorem qpu (m:Md)(r:Rl)(hk:m.kind=1):qmu 0 true true false false false false m r=qbU m r:=by
 have hb:(m.kind==6)=false:=by rw[hk];rfl
 simp only[qmu,qbU,qja,qm4,qkY,hk,eq_self,if_true,Bool.false_eq_true,if_false,qcO,qfI,qq5,qrQ,lenE,bneE,qnC,qhU,qpH,qnD,beq_self_eq_true,Bool.true_and,Bool.and_true,len0I]
 grind
end
section
open Go.RowKit
set_option maxHeartbeats 2000000
theorem qmG {m:Md}(hk:m.kind=2∨m.kind=3)(h:qaR m=true):0<m.places.length∧0<m.letters.length:=by
 have hl:limC m.kind=[1,2,1,6,0,0,0,0]:=by rcases hk with h | h<;>rw[h]<;>rfl
 simp[qaR,btw,hl] at h
 omega
theorem qpB (m:Md)(r:Rl)(hm:m.fit)(hr:r.fit)(ha:0≤m.age∧m.age≤1000)(hk:btw m.kind 1 6=true)(hs:qaR m=true):TP Tryz.prog 112 [qas m,qa0 r] (.bool (qbU m r)):=by
 rcases qd4 hk with h | h | h | h | h | h
 ·rw[←qpu m r h];exact qnA m r hm hr ha h
 ·have:=qmG (.inl h) hs
  exact absurd hm.kd (by unfold kindOk;omega)
 ·have:=qmG (.inr h) hs
  exact absurd hm.kd (by unfold kindOk;omega)
 ·exact absurd hm.kd (by unfold kindOk;omega)
 ·exact absurd hm.kd (by unfold kindOk;omega)
 ·exact absurd hm.kd (by unfold kindOk;omega)
theorem qk5 (m:Md)(hl:m.rules.length≤1000)(hr:∀r∈m.rules,TP Tryz.prog 112 [qas m,qa0 r] (.bool (qbU m r)))(Q:IExit→(Nat→T)→Heap→Prop):∀(rest pre:List Rl) (i:Nat),m.rules=pre++rest→pre.length=i→
 ((rest.any fun r=>!qbU m r)=false→∀i:Int,Q (.exit 0) (ofL [(1,.ref 0 10 0),(3,.int .i64 i),(21,.bool false)]) (hpL [(0,.live ⟨33,mdC m⟩)]))→
 ((rest.any fun r=>!qbU m r)=true→Q .ret (ofL [(2,.int .i64 16)]) (hpL [(0,.live ⟨33,mdC m⟩)]))→
 WL Tryz.prog 52 ql3 (ofL [(1,.ref 0 10 0),(3,.int .i64 i)]) (hpL [(0,.live ⟨33,mdC m⟩)]) Q:=by
 simp only[mdC]
 intro rest
 induction rest with
 | nil=>
  intro pre i he hn hQ0 hQ1
  have hd:decide ((i:Int)<((qaB m.rules).length:Int))=false:=by simp[qaD,he,hn]
  have fX:=@hd
  refine qaa ql3.eq_1 ?_
  refine wR0 1000 [1,3,21] fX ?_
  refine wF @hd ?_
  refine wX ?_
  refine wN ?_
  exact hQ0 rfl _
 | cons k rest ih=>
  intro pre i he hn hQ0 hQ1
  have hlt:(i:Int)<((qaB m.rules).length:Int):=by simp[qaD,he];omega
  have hlb:i≤1000:=by rw[he] at hl;simp at hl;omega
  have hd:decide ((i:Int)<((qaB m.rules).length:Int))=true:=decide_eq_true hlt
  have hg:(qaB m.rules).getD (i:Int).toNat .undef=.agg (rlC k):=by rw[Int.toNat_natCast,he,←hn];exact qc2 _ k _
  have hw:IntKind.wrap .i64 ((i:Int)+1)=(i:Int)+1:=wrap64 (by omega) (by omega)
  have hrk:=hr k (by rw[he];simp)
  simp only[rlC] at hg
  have fX:=(cJ3 @hd @hg @hw)
  refine qaa ql3.eq_1 ?_
  refine wR0 1000 [1,3,21] fX ?_
  refine wT @hd ?_
  refine wRn 1100 [1,3,31] fX ?_
  refine rC fX ?_
  refine⟨_,hrk,rE fX ?_⟩
  refine wS cJ0 (fun hc1100=>?_) (fun hc1100=>?_)
  ·skip
   refine wR0 1200 [2] fX ?_
   refine wE ?_
   refine wN ?_
   exact hQ1 (by rw[List.any_cons,hc1100,Bool.true_or])
  ·skip
   refine wR0 1300 [1,3] fX ?_
   refine wN ?_
   have e:((k::rest).any fun r=>!qbU m r)=(rest.any fun r=>!qbU m r):=(by rw[List.any_cons,hc1100,Bool.false_or])
   rw[e] at hQ0 hQ1
   exact ih (pre++[k]) (i+1) (by simp[he]) (by simp;omega) hQ0 hQ1
set_option maxHeartbeats 4000000 in
theorem qhc (m:Md)(hm:m.fit):TP Tryz.prog 63 [qas m] (.int .i64 (qaV m)):=by
 have hrt:=qpA m hm
 rcases hk:btw m.kind 1 6 with _ | _
 ·have hb:=qat m.kind 1 6
  rw[hk] at hb
  have fX:=@Bool.not_false
  refine qah fn63 (by simp) ?_
  unfold i63
  simp only[argL,qas,mdC]
  refine wR0 0 [1] fX ?_
  refine wRn 100 [1,7] fX ?_
  refine rC fX ?_
  refine⟨_,hb,rE fX ?_⟩
  refine wT fX ?_
  refine wR0 200 [2] fX ?_
  refine wP ?_
  exact qaE (by rw[qaV,if_pos hk])
 ·have hb:=qat m.kind 1 6
  rw[hk] at hb
  have hst:=qlc m hk
  rcases hs:qaR m with _ | _
  ·rw[hs] at hst
   have fX:=(cJ2 @Bool.not_false @Bool.not_true)
   refine qah fn63 (by simp) ?_
   unfold i63
   simp only[argL,qas,mdC]
   refine wR0 0 [1] fX ?_
   refine wRn 100 [1,7] fX ?_
   refine rC fX ?_
   refine⟨_,hb,rE fX ?_⟩
   refine wF fX ?_
   refine wRn 300 [1,10] fX ?_
   refine rC fX ?_
   refine⟨_,hst,rE fX ?_⟩
   refine wT fX ?_
   refine wR0 400 [2] fX ?_
   refine wP ?_
   exact qaE (by rw[qaV,if_neg (by simp[hk]),if_pos hs])
  ·rw[hs] at hst
   rcases hr:qcT m with _ | _
   ·rw[hr] at hrt
    have fX:=(cJ2 @Bool.not_false @Bool.not_true)
    refine qah fn63 (by simp) ?_
    unfold i63
    simp only[argL,qas,mdC]
    refine wR0 0 [1] fX ?_
    refine wRn 100 [1,7] fX ?_
    refine rC fX ?_
    refine⟨_,hb,rE fX ?_⟩
    refine wF fX ?_
    refine wRn 300 [1,10] fX ?_
    refine rC fX ?_
    refine⟨_,hst,rE fX ?_⟩
    refine wF fX ?_
    refine wRn 500 [1,13] fX ?_
    refine rC fX ?_
    refine⟨_,hrt,rE fX ?_⟩
    refine wT fX ?_
    refine wR0 600 [2] fX ?_
    refine wP ?_
    exact qaE (by rw[qaV,if_neg (by simp[hk]),if_neg (by simp[hs]),if_pos hr])
   ·rw[hr] at hrt
    have hsn:=qfv hm hk hs hr
    have hch:qaV m=if qgY m=false then 13 else if (m.rules.any fun r=>!qbU m r)=true then 16 else if qbg m=false then 17 else 0:=by rw[qaV,if_neg (by simp[hk]),if_neg (by simp[hs]),if_neg (by simp[hr])]
    have ht:=qkp m hsn
    have hv:=qks (qbb m) m.start (qfA m hm.places hm.ranks) hm.start
    rw[qoy] at hv
    rcases hty:qbb m with⟨tk,ts,trs,tps⟩
    rw[hty] at ht hv
    simp only[qax] at ht hv
    have fX:=(cJ2 @Bool.not_false @Bool.not_true)
    refine qah fn63 (by simp) ?_
    unfold i63
    simp only[argL,qas,mdC]
    refine wR0 0 [1] fX ?_
    refine wRn 100 [1,7] fX ?_
    refine rC fX ?_
    refine⟨_,hb,rE fX ?_⟩
    refine wF fX ?_
    refine wRn 300 [1,10] fX ?_
    refine rC fX ?_
    refine⟨_,hst,rE fX ?_⟩
    refine wF fX ?_
    refine wRn 500 [1,13] fX ?_
    refine rC fX ?_
    refine⟨_,hrt,rE fX ?_⟩
    refine wF fX ?_
    refine wRn 700 [1,16] fX ?_
    refine rC fX ?_
    refine⟨_,qpw m hm (qhh hs),rE fX ?_⟩
    refine wS cJ0 (fun hc700=>?_) (fun hc700=>?_)
    ·skip
     refine wR0 800 [2] fX ?_
     refine wP ?_
     exact qaE (by simp at hc700;rw[hch,if_pos hc700])
    ·skip
     refine wR0 900 [1,3] fX ?_
     simp only[thn]
     simp only[Bool.not_eq_false'] at hc700
     have hch2:qaV m=if (m.rules.any fun r=>!qbU m r)=true then 16 else if qbg m=false then 17 else 0:=(by rw[hch,if_neg (by simp[hc700])])
     refine wL ?_
     refine qk5 m hm.rules (fun r hr=>qpB m r hm (hm.rule r hr) hsn.age hk hs) _ m.rules [] 0 rfl rfl ?_ ?_
     ·intro h i
      refine wN ?_
      refine wR0 1400 [1,34] fX ?_
      simp only[thn]
      have hch3:qaV m=if qbg m=false then 17 else 0:=(by rw[hch2,if_neg (by simp only[h];simp)])
      refine wS cJ0 (fun hc1400=>?_) (fun hc1400=>?_)
      ·skip
       refine wR0 1500 [45] fX ?_
       refine wS cJ0 (fun hc1500=>?_) (fun hc1500=>?_)
       ·skip
        refine wR0 1600 [2] fX ?_
        refine wP ?_
        exact qaE (by simp at hc1400;have hbg:qbg m=false:=(by rw[qbg,if_pos hc1400,Bool.eq_false_iff];intro hb;simp only[Bool.and_eq_true,beq_iff_eq] at hb;have hb2:=hb.2;simp[qam,hb.1] at hc1500;omega);rw[hch3,if_pos hbg])
       ·skip
        refine wR0 1700 [2] fX ?_
        refine wP ?_
        exact qaE (by simp at hc1400;have hbg:qbg m=true:=(by rw[qbg,if_pos hc1400];simp[qam] at hc1500;simp[hc1500]);rw[hch3,if_neg (by simp[hbg])])
      ·skip
       refine wN ?_
       simp only[mdC]
       refine wRn 1800 [51] fX ?_
       refine rC fX ?_
       refine⟨_,ht,rN fX ?_⟩
       refine rC fX ?_
       refine⟨_,hv,rE fX ?_⟩
       refine wS cJ0 (fun hc1800=>?_) (fun hc1800=>?_)
       ·skip
        refine wR0 1900 [2] fX ?_
        refine wP ?_
        exact qaE (by simp at hc1400 hc1800;have hbg:qbg m=false:=(by rw[qbg,if_neg hc1400,hty];exact hc1800);rw[hch3,if_pos hbg])
       ·skip
        refine wR0 2000 [2] fX ?_
        refine wP ?_
        exact qaE (by simp at hc1400 hc1800;have hbg:qbg m=true:=(by rw[qbg,if_neg hc1400,hty];exact hc1800);rw[hch3,if_neg (by simp[hbg])])
     ·intro h
      refine wN ?_
      exact⟨by simp,_,rfl,by exact qaE (by rw[hch2,if_pos h])⟩
theorem qdd (m:Md)(c:V)(hm:m.fit)(hc:c.fit):TP Tryz.prog 44 [qas m,encV c] (.bool (qfc m c)):=by
 rcases c with⟨n,ks⟩
 refine qah fn44 (by simp) ?_
 unfold i44
 simp only[argL,encV,qas,mdC]
 refine wR0 0 [2,3] cJ0 ?_
 refine wRn 100 [4] cJ0 ?_
 refine rC cJ0 ?_
 refine⟨_,qhc m hm,rN cJ0 ?_⟩
 refine rCi cJ0 ?_
 refine⟨_,fun hw=>qkp m (qmT hm (by simpa using hw)),rN cJ0 ?_⟩
 refine rCi cJ0 ?_
 refine⟨_,fun hw=>qks (qbb m) (.mk n ks) (typedM_fit' hm) hc,rE cJ0 ?_⟩
 refine wP ?_
 exact qab rfl
def allI (p:Nat→Bool):Nat→Nat→Bool
 | _,0=>true
 | i,k+1=>p i&&allI p (i+1) k
theorem qbv (p:Nat→Bool):∀(k i:Nat),allI p i k=true↔∀j,i≤j→j<i+k→p j=true
 | 0,i=>by simp[allI];intro j h1 h2;omega
 | k+1,i=>by
  rw[allI,Bool.and_eq_true,qbv p k (i+1)]
  refine⟨fun h j h1 h2=>?_,fun h=>⟨h i (Nat.le_refl _) (by omega),fun j h1 h2=>h j (by omega) (by omega)⟩⟩
  by_cases e:j=i
  ·rw[e];exact h.1
  ·exact h.2 j (by omega) (by omega)
theorem qaN (xs:List Int)(i:Nat)(h:i<xs.length):(qac xs).getD (i:Int).toNat .undef=.int .i64 (xs.getD i 0):=by
 simp[qac,List.getD_eq_getElem?_getD,h]
theorem qji (p:Int→Bool)(xs:List Int):allI (fun j=>p (xs.getD j 0)) 0 xs.length=xs.all p:=by
 rw[Bool.eq_iff_iff,qbv,List.all_eq_true]
 refine⟨fun h x hx=>?_,fun h j _ hj=>?_⟩
 ·obtain⟨j,hj,rfl⟩:=List.getElem_of_mem hx
  have:=h j (Nat.zero_le _) (by omega)
  simpa [List.getD_eq_getElem?_getD,hj] using this
 ·have hj':j<xs.length:=by omega
  simpa [List.getD_eq_getElem?_getD,hj'] using h _ (List.getElem_mem hj')
def elO (x:Int):Bool:=decide (x≥0)&&decide (x≤1048576) || (x==1099511627776)
def vOk (v:List Int):Bool:=decide ((v.length:Int)≤6)&&v.all elO
def leI (a b:List Int):Bool:=allI (fun j=>!decide (a.getD j 0 > b.getD j 0)) 0 a.length
def vLe (a b:List Int):Bool:=vOk a&&vOk b&&((a.length:Int)==b.length)&&leI a b
def fin1 (x:Int):Bool:=decide (x≥0)&&decide (x≤1048576)
theorem qnR (x:Int):TP Tryz.prog 107 [.int .i64 x] (.bool (fin1 x)):=by
 refine qah fn107 (by simp) ?_
 unfold i107
 simp only[argL]
 refine wR0 0 [0] cJ0 ?_
 refine wR0 100 [2] cJ0 ?_
 refine wP ?_
 exact qab rfl
theorem qnS (x:Int):TP Tryz.prog 106 [.int .i64 x] (.bool (!elO x)):=by
 refine qah fn106 (by simp) ?_
 unfold i106
 simp only[argL]
 refine wR0 0 [0] cJ0 ?_
 refine wRn 100 [2] cJ0 ?_
 refine rC cJ0 ?_
 refine⟨_,qnR x,rE cJ0 ?_⟩
 refine wP ?_
 exact qab (by simp[elO,fin1,bne])
theorem qsF {α:Type}(p:α→Bool)(l:List α):(!l.any fun x=>!p x)=l.all p:=by
 rw[List.all_eq_not_any_not]
theorem qku (v:List Int)(hl:v.length≤1000000):TP Tryz.prog 59 [.list (qac v)] (.bool (vOk v)):=by
 refine qah fn59 (by simp) ?_
 unfold i59
 simp only[argL]
 refine wR0 0 [0] cJ0 ?_
 refine wRn 100 [2] cJ0 ?_
 refine rCi cJ0 ?_
 refine⟨_,fun hw=>qjd 106 [] rfl (fun x=>!elO x) v hl (fun k hk=>qnS k),rE cJ0 ?_⟩
 refine wP ?_
 exact qab (by simp only[vOk,qad];rw[←qsF])
theorem qr6 (a b:List Int)(hl:a.length≤1000000)(hab:a.length=b.length)(Q:IExit→(Nat→T)→Heap→Prop):∀(k i:Nat),i+k=a.length→
 (allI (fun j=>!decide (a.getD j 0 > b.getD j 0)) i k=true→∀j:Int,Q (.exit 0) (ofL [(1,.list (qac b)),(7,.list (qac a)),(8,.int .i64 (qac a).length),(9,.int .i64 j),(10,.bool false)]) (hpL []))→
 (allI (fun j=>!decide (a.getD j 0 > b.getD j 0)) i k=false→Q .ret (ofL [(4,.bool false)]) (hpL []))→
 WL Tryz.prog 21 ql2 (ofL [(1,.list (qac b)),(7,.list (qac a)),(8,.int .i64 (qac a).length),(9,.int .i64 i)]) (hpL []) Q:=by
 skip
 intro k
 induction k with
 | zero=>
  intro i hk hQ0 hQ1
  have hd:decide ((i:Int)<((qac a).length:Int))=false:=decide_eq_false (by rw[qad];omega)
  have fX:=@hd
  refine qaa ql2.eq_1 ?_
  refine wR0 200 [1,7,8,9,10] fX ?_
  refine wF @hd ?_
  refine wX ?_
  refine wN ?_
  exact hQ0 rfl _
 | succ k ih=>
  intro i hk hQ0 hQ1
  have hlt:(i:Int)<((qac a).length:Int):=by rw[qad];omega
  have hd:decide ((i:Int)<((qac a).length:Int))=true:=decide_eq_true hlt
  have hw:IntKind.wrap .i64 ((i:Int)+1)=((i+1:Nat):Int):=by rw[wrap64 (by omega) (by omega)];rfl
  have hga:=qaN a i (by omega);have hgb:=qaN b i (by omega);have hlb:(i:Int)<((qac b).length:Int):=by rw[qad];omega
  have fX:=(cJ4 @hd @hw @hga @hgb)
  refine qaa ql2.eq_1 ?_
  refine wR0 200 [1,7,8,9,10] fX ?_
  refine wT @hd ?_
  refine wR0 300 [1,5,6,7,8,9] fX ?_
  refine wR0 400 [1,7,8,9,19] fX ?_
  refine wS cJ0 (fun hc400=>?_) (fun hc400=>?_)
  ·skip
   refine wR0 500 [4] fX ?_
   refine wE ?_
   refine wN ?_
   simp at hc400
   exact hQ1 (by simp[allI,hc400])
  ·skip
   refine wR0 600 [1,7,8,9] fX ?_
   refine wN ?_
   simp at hc400
   have e:allI (fun j=>!decide (a.getD j 0 > b.getD j 0)) i (k+1)=allI (fun j=>!decide (a.getD j 0 > b.getD j 0)) (i+1) k:=(by simp[allI,hc400])
   rw[e] at hQ0 hQ1
   exact ih (i+1) (by omega) hQ0 hQ1
theorem qqf (a b:List Int)(hl:a.length≤1000000)(hab:a.length=b.length):TP Tryz.prog 60 [.list (qac a),.list (qac b)] (.bool (leI a b)):=by
 refine qah fn60 (by simp) ?_
 unfold i60
 simp only[argL]
 refine wR0 0 [0,1] cJ0 ?_
 refine wR0 100 [1,7,8,9] cJ0 ?_
 refine wL ?_
 refine qr6 a b hl hab _ a.length 0 (by omega) ?_ ?_
 ·intro h i
  refine wN ?_
  refine wR0 700 [4] cJ0 ?_
  refine wP ?_
  exact qab h.symm
 ·intro h
  refine wN ?_
  exact⟨by simp,_,rfl,by exact qab h.symm⟩
theorem qi5 (a b:List Int)(hl:a.length≤1000000)(hm:b.length≤1000000):TP Tryz.prog 37 [.list (qac a),.list (qac b)] (.bool (vLe a b)):=by
 have ha:=qku a hl
 have hb:=qku b hm
 by_cases hab:a.length=b.length
 ·have hc:=qqf a b hl hab
  refine qah fn37 (by simp) ?_
  unfold i37
  simp only[argL]
  refine wR0 0 [0,1] cJ0 ?_
  refine wRn 100 [4] cJ0 ?_
  refine rC cJ0 ?_
  refine⟨_,ha,rN cJ0 ?_⟩
  refine rCi cJ0 ?_
  refine⟨_,fun hw=>hb,rN cJ0 ?_⟩
  refine rCi cJ0 ?_
  refine⟨_,fun hw=>hc,rE cJ0 ?_⟩
  refine wP ?_
  exact qab (by simp only[vLe,qad])
 ·have hz:(((qac a).length:Int)==(qac b).length)=false:=by rw[qad,qad,beq_eq_false_iff_ne];omega
  have fX:=(cJ2 @hz @Bool.and_false)
  refine qah fn37 (by simp) ?_
  unfold i37
  simp only[argL]
  refine wR0 0 [0,1] fX ?_
  refine wRn 100 [4] fX ?_
  refine rC fX ?_
  refine⟨_,ha,rN fX ?_⟩
  refine rCi fX ?_
  refine⟨_,fun hw=>hb,rE fX ?_⟩
  refine wP ?_
  exact qab (by rw[vLe];have:((a.length:Int)==b.length)=false:=(by rw[beq_eq_false_iff_ne];omega);rw[this];simp)
end
end Go.Proofs.YtoeeppojakbciaaGreat
