/- Contracts of functions of the program, for all arguments that they name. -/
import Derived.Test.YtkbjpglehdhjfaaGreatDoorK07
namespace Go.Proofs.YtkbjpglehdhjfaaGreatDoor
set_option linter.unusedVariables false
section
open Go.RowKit
set_option maxHeartbeats 2000000
theorem qkW (m:Md)(hk:m.kind=1):TP Tryz.prog 84 [qaA m] (.bool (qbg m)):=by
 have kb1:(m.kind==1)=true:=by rw[hk];rfl
 have kb2:(m.kind==2)=false:=by rw[hk];rfl
 have kb3:(m.kind==3)=false:=by rw[hk];rfl
 have kb4:(m.kind==4)=false:=by rw[hk];rfl
 have kb5:(m.kind==5)=false:=by rw[hk];rfl
 have kb6:(m.kind==6)=false:=by rw[hk];rfl
 have kn1:(m.kind != 1)=!true:=by rw[hk];rfl
 have kn3:(m.kind != 3)=!false:=by rw[hk];rfl
 have kn6:(m.kind != 6)=!false:=by rw[hk];rfl
 have hl:limC m.kind=[1,6,0,0,0,0,0,0]:=by rw[hk];rfl
 have hs:qbg m=(btw m.states.length 1 8&&decide ((m.rules.length:Int)≤12)&&btw m.places.length 1 6&&btw m.letters.length 0 0&&btw m.levels 0 0&&btw m.age 0 0):=by rw[qbg,hl];rfl
 have fX:=(cJ8 @kb1 @kb2 @kb3 @kb4 @kb5 @kb6 @Bool.true_or (cJ3 @Bool.false_or @qai @qaS))
 refine qag fn84 (by simp) ?_
 unfold i84
 simp only[argL,qaA,mdC]
 refine wR0 0 [1] fX ?_
 refine wR0 100 [1,3] fX ?_
 refine wR0 200 [1,3,4] fX ?_
 refine wR0 300 [1,3,4,5,6] fX ?_
 refine wR0 400 [1,4,5,6,28] fX ?_
 refine wT fX ?_
 refine wR0 500 [1,4,5,6] fX ?_
 refine wR0 600 [1,4,5,6,29] fX ?_
 refine wF fX ?_
 refine wRn 800 [1,4,49] fX ?_
 refine rC fX ?_
 refine⟨_,qat _ _ _,rN fX ?_⟩
 refine rCi fX ?_
 refine⟨_,fun hw=>qat _ _ _,rE fX ?_⟩
 refine wS cJ0 (fun hc800=>?_) (fun hc800=>?_)
 ·skip
  refine wR0 900 [2] fX ?_
  refine wP ?_
  exact qac (by rw[hs];grind)
 ·skip
  refine wR0 1000 [1,4,5,6] fX ?_
  refine wR0 1100 [1,5,6,55] fX ?_
  refine wF fX ?_
  refine wRn 1300 [1,62] fX ?_
  refine rC fX ?_
  refine⟨_,qat _ _ _,rE fX ?_⟩
  refine wS cJ0 (fun hc1300=>?_) (fun hc1300=>?_)
  ·skip
   refine wR0 1400 [2] fX ?_
   refine wP ?_
   exact qac (by rw[hs];grind)
  ·skip
   refine wR0 1500 [1,5,6] fX ?_
   refine wR0 1600 [1,5,6,65] fX ?_
   refine wF fX ?_
   refine wRn 1800 [1,71] fX ?_
   refine rC fX ?_
   refine⟨_,qat _ _ _,rE fX ?_⟩
   refine wS cJ0 (fun hc1800=>?_) (fun hc1800=>?_)
   ·skip
    refine wR0 1900 [2] fX ?_
    refine wP ?_
    exact qac (by rw[hs];grind)
   ·skip
    refine wR0 2000 [1,74] fX ?_
    refine wF fX ?_
    refine wR0 2200 [2] fX ?_
    refine wP ?_
    exact qac (by rw[hs];have:(m.age==0)=btw m.age 0 0:=(by rw[Bool.eq_iff_iff];simp[btw];omega);grind)
theorem qkX (m:Md)(hk:m.kind=2):TP Tryz.prog 84 [qaA m] (.bool (qbg m)):=by
 have kb1:(m.kind==1)=false:=by rw[hk];rfl
 have kb2:(m.kind==2)=true:=by rw[hk];rfl
 have kb3:(m.kind==3)=false:=by rw[hk];rfl
 have kb4:(m.kind==4)=false:=by rw[hk];rfl
 have kb5:(m.kind==5)=false:=by rw[hk];rfl
 have kb6:(m.kind==6)=false:=by rw[hk];rfl
 have kn1:(m.kind != 1)=!false:=by rw[hk];rfl
 have kn3:(m.kind != 3)=!false:=by rw[hk];rfl
 have kn6:(m.kind != 6)=!false:=by rw[hk];rfl
 have hl:limC m.kind=[1,2,1,6,0,0,0,0]:=by rw[hk];rfl
 have hs:qbg m=(btw m.states.length 1 8&&decide ((m.rules.length:Int)≤12)&&btw m.places.length 1 2&&btw m.letters.length 1 6&&btw m.levels 0 0&&btw m.age 0 0):=by rw[qbg,hl];rfl
 have fX:=(cJ8 @kb1 @kb2 @kb3 @kb4 @kb5 @kb6 @Bool.true_or (cJ3 @Bool.false_or @qai @qaS))
 refine qag fn84 (by simp) ?_
 unfold i84
 simp only[argL,qaA,mdC]
 refine wR0 0 [1] fX ?_
 refine wR0 100 [1,3] fX ?_
 refine wR0 200 [1,3,4] fX ?_
 refine wR0 300 [1,3,4,5,6] fX ?_
 refine wR0 400 [1,4,5,6,28] fX ?_
 refine wF fX ?_
 refine wR0 600 [1,4,5,6,29] fX ?_
 refine wT fX ?_
 refine wR0 700 [1,4,5,6] fX ?_
 refine wRn 800 [1,4,49] fX ?_
 refine rC fX ?_
 refine⟨_,qat _ _ _,rN fX ?_⟩
 refine rCi fX ?_
 refine⟨_,fun hw=>qat _ _ _,rE fX ?_⟩
 refine wS cJ0 (fun hc800=>?_) (fun hc800=>?_)
 ·skip
  refine wR0 900 [2] fX ?_
  refine wP ?_
  exact qac (by rw[hs];grind)
 ·skip
  refine wR0 1000 [1,4,5,6] fX ?_
  refine wR0 1100 [1,5,6,55] fX ?_
  refine wT fX ?_
  refine wR0 1200 [1,5,6] fX ?_
  refine wRn 1300 [1,62] fX ?_
  refine rC fX ?_
  refine⟨_,qat _ _ _,rE fX ?_⟩
  refine wS cJ0 (fun hc1300=>?_) (fun hc1300=>?_)
  ·skip
   refine wR0 1400 [2] fX ?_
   refine wP ?_
   exact qac (by rw[hs];grind)
  ·skip
   refine wR0 1500 [1,5,6] fX ?_
   refine wR0 1600 [1,5,6,65] fX ?_
   refine wF fX ?_
   refine wRn 1800 [1,71] fX ?_
   refine rC fX ?_
   refine⟨_,qat _ _ _,rE fX ?_⟩
   refine wS cJ0 (fun hc1800=>?_) (fun hc1800=>?_)
   ·skip
    refine wR0 1900 [2] fX ?_
    refine wP ?_
    exact qac (by rw[hs];grind)
   ·skip
    refine wR0 2000 [1,74] fX ?_
    refine wF fX ?_
    refine wR0 2200 [2] fX ?_
    refine wP ?_
    exact qac (by rw[hs];have:(m.age==0)=btw m.age 0 0:=(by rw[Bool.eq_iff_iff];simp[btw];omega);grind)
theorem qkY (m:Md)(hk:m.kind=3):TP Tryz.prog 84 [qaA m] (.bool (qbg m)):=by
 have kb1:(m.kind==1)=false:=by rw[hk];rfl
 have kb2:(m.kind==2)=false:=by rw[hk];rfl
 have kb3:(m.kind==3)=true:=by rw[hk];rfl
 have kb4:(m.kind==4)=false:=by rw[hk];rfl
 have kb5:(m.kind==5)=false:=by rw[hk];rfl
 have kb6:(m.kind==6)=false:=by rw[hk];rfl
 have kn1:(m.kind != 1)=!false:=by rw[hk];rfl
 have kn3:(m.kind != 3)=!true:=by rw[hk];rfl
 have kn6:(m.kind != 6)=!false:=by rw[hk];rfl
 have hl:limC m.kind=[1,2,1,6,0,0,0,0]:=by rw[hk];rfl
 have hs:qbg m=(btw m.states.length 1 8&&decide ((m.rules.length:Int)≤12)&&btw m.places.length 1 2&&btw m.letters.length 1 6&&btw m.levels 0 0&&btw m.age 0 0):=by rw[qbg,hl];rfl
 have fX:=(cJ8 @kb1 @kb2 @kb3 @kb4 @kb5 @kb6 @Bool.true_or (cJ3 @Bool.false_or @qai @qaS))
 refine qag fn84 (by simp) ?_
 unfold i84
 simp only[argL,qaA,mdC]
 refine wR0 0 [1] fX ?_
 refine wR0 100 [1,3] fX ?_
 refine wR0 200 [1,3,4] fX ?_
 refine wR0 300 [1,3,4,5,6] fX ?_
 refine wR0 400 [1,4,5,6,28] fX ?_
 refine wF fX ?_
 refine wR0 600 [1,4,5,6,29] fX ?_
 refine wT fX ?_
 refine wR0 700 [1,4,5,6] fX ?_
 refine wRn 800 [1,4,49] fX ?_
 refine rC fX ?_
 refine⟨_,qat _ _ _,rN fX ?_⟩
 refine rCi fX ?_
 refine⟨_,fun hw=>qat _ _ _,rE fX ?_⟩
 refine wS cJ0 (fun hc800=>?_) (fun hc800=>?_)
 ·skip
  refine wR0 900 [2] fX ?_
  refine wP ?_
  exact qac (by rw[hs];grind)
 ·skip
  refine wR0 1000 [1,4,5,6] fX ?_
  refine wR0 1100 [1,5,6,55] fX ?_
  refine wT fX ?_
  refine wR0 1200 [1,5,6] fX ?_
  refine wRn 1300 [1,62] fX ?_
  refine rC fX ?_
  refine⟨_,qat _ _ _,rE fX ?_⟩
  refine wS cJ0 (fun hc1300=>?_) (fun hc1300=>?_)
  ·skip
   refine wR0 1400 [2] fX ?_
   refine wP ?_
   exact qac (by rw[hs];grind)
  ·skip
   refine wR0 1500 [1,5,6] fX ?_
   refine wR0 1600 [1,5,6,65] fX ?_
   refine wF fX ?_
   refine wRn 1800 [1,71] fX ?_
   refine rC fX ?_
   refine⟨_,qat _ _ _,rE fX ?_⟩
   refine wS cJ0 (fun hc1800=>?_) (fun hc1800=>?_)
   ·skip
    refine wR0 1900 [2] fX ?_
    refine wP ?_
    exact qac (by rw[hs];grind)
   ·skip
    refine wR0 2000 [1,74] fX ?_
    refine wF fX ?_
    refine wR0 2200 [2] fX ?_
    refine wP ?_
    exact qac (by rw[hs];have:(m.age==0)=btw m.age 0 0:=(by rw[Bool.eq_iff_iff];simp[btw];omega);grind)
theorem qkZ (m:Md)(hk:m.kind=4):TP Tryz.prog 84 [qaA m] (.bool (qbg m)):=by
 have kb1:(m.kind==1)=false:=by rw[hk];rfl
 have kb2:(m.kind==2)=false:=by rw[hk];rfl
 have kb3:(m.kind==3)=false:=by rw[hk];rfl
 have kb4:(m.kind==4)=true:=by rw[hk];rfl
 have kb5:(m.kind==5)=false:=by rw[hk];rfl
 have kb6:(m.kind==6)=false:=by rw[hk];rfl
 have kn1:(m.kind != 1)=!false:=by rw[hk];rfl
 have kn3:(m.kind != 3)=!false:=by rw[hk];rfl
 have kn6:(m.kind != 6)=!false:=by rw[hk];rfl
 have hl:limC m.kind=[0,0,1,6,1,2,0,0]:=by rw[hk];rfl
 have hs:qbg m=(btw m.states.length 1 8&&decide ((m.rules.length:Int)≤12)&&btw m.places.length 0 0&&btw m.letters.length 1 6&&btw m.levels 1 2&&btw m.age 0 0):=by rw[qbg,hl];rfl
 have fX:=(cJ8 @kb1 @kb2 @kb3 @kb4 @kb5 @kb6 @Bool.true_or (cJ3 @Bool.false_or @qai @qaS))
 refine qag fn84 (by simp) ?_
 unfold i84
 simp only[argL,qaA,mdC]
 refine wR0 0 [1] fX ?_
 refine wR0 100 [1,3] fX ?_
 refine wR0 200 [1,3,4] fX ?_
 refine wR0 300 [1,3,4,5,6] fX ?_
 refine wR0 400 [1,4,5,6,28] fX ?_
 refine wF fX ?_
 refine wR0 600 [1,4,5,6,29] fX ?_
 refine wF fX ?_
 refine wRn 800 [1,4,49] fX ?_
 refine rC fX ?_
 refine⟨_,qat _ _ _,rN fX ?_⟩
 refine rCi fX ?_
 refine⟨_,fun hw=>qat _ _ _,rE fX ?_⟩
 refine wS cJ0 (fun hc800=>?_) (fun hc800=>?_)
 ·skip
  refine wR0 900 [2] fX ?_
  refine wP ?_
  exact qac (by rw[hs];grind)
 ·skip
  refine wR0 1000 [1,4,5,6] fX ?_
  refine wR0 1100 [1,5,6,55] fX ?_
  refine wT fX ?_
  refine wR0 1200 [1,5,6] fX ?_
  refine wRn 1300 [1,62] fX ?_
  refine rC fX ?_
  refine⟨_,qat _ _ _,rE fX ?_⟩
  refine wS cJ0 (fun hc1300=>?_) (fun hc1300=>?_)
  ·skip
   refine wR0 1400 [2] fX ?_
   refine wP ?_
   exact qac (by rw[hs];grind)
  ·skip
   refine wR0 1500 [1,5,6] fX ?_
   refine wR0 1600 [1,5,6,65] fX ?_
   refine wT fX ?_
   refine wR0 1700 [1,5,6] fX ?_
   refine wRn 1800 [1,71] fX ?_
   refine rC fX ?_
   refine⟨_,qat _ _ _,rE fX ?_⟩
   refine wS cJ0 (fun hc1800=>?_) (fun hc1800=>?_)
   ·skip
    refine wR0 1900 [2] fX ?_
    refine wP ?_
    exact qac (by rw[hs];grind)
   ·skip
    refine wR0 2000 [1,74] fX ?_
    refine wF fX ?_
    refine wR0 2200 [2] fX ?_
    refine wP ?_
    exact qac (by rw[hs];have:(m.age==0)=btw m.age 0 0:=(by rw[Bool.eq_iff_iff];simp[btw];omega);grind)
theorem qk0 (m:Md)(hk:m.kind=5):TP Tryz.prog 84 [qaA m] (.bool (qbg m)):=by
 have kb1:(m.kind==1)=false:=by rw[hk];rfl
 have kb2:(m.kind==2)=false:=by rw[hk];rfl
 have kb3:(m.kind==3)=false:=by rw[hk];rfl
 have kb4:(m.kind==4)=false:=by rw[hk];rfl
 have kb5:(m.kind==5)=true:=by rw[hk];rfl
 have kb6:(m.kind==6)=false:=by rw[hk];rfl
 have kn1:(m.kind != 1)=!false:=by rw[hk];rfl
 have kn3:(m.kind != 3)=!false:=by rw[hk];rfl
 have kn6:(m.kind != 6)=!false:=by rw[hk];rfl
 have hl:limC m.kind=[1,6,0,0,0,0,0,3]:=by rw[hk];rfl
 have hs:qbg m=(btw m.states.length 1 8&&decide ((m.rules.length:Int)≤12)&&btw m.places.length 1 6&&btw m.letters.length 0 0&&btw m.levels 0 0&&btw m.age 0 3):=by rw[qbg,hl];rfl
 have fX:=(cJ8 @kb1 @kb2 @kb3 @kb4 @kb5 @kb6 @Bool.true_or (cJ3 @Bool.false_or @qai @qaS))
 refine qag fn84 (by simp) ?_
 unfold i84
 simp only[argL,qaA,mdC]
 refine wR0 0 [1] fX ?_
 refine wR0 100 [1,3] fX ?_
 refine wR0 200 [1,3,4] fX ?_
 refine wR0 300 [1,3,4,5,6] fX ?_
 refine wR0 400 [1,4,5,6,28] fX ?_
 refine wT fX ?_
 refine wR0 500 [1,4,5,6] fX ?_
 refine wR0 600 [1,4,5,6,29] fX ?_
 refine wF fX ?_
 refine wRn 800 [1,4,49] fX ?_
 refine rC fX ?_
 refine⟨_,qat _ _ _,rN fX ?_⟩
 refine rCi fX ?_
 refine⟨_,fun hw=>qat _ _ _,rE fX ?_⟩
 refine wS cJ0 (fun hc800=>?_) (fun hc800=>?_)
 ·skip
  refine wR0 900 [2] fX ?_
  refine wP ?_
  exact qac (by rw[hs];grind)
 ·skip
  refine wR0 1000 [1,4,5,6] fX ?_
  refine wR0 1100 [1,5,6,55] fX ?_
  refine wF fX ?_
  refine wRn 1300 [1,62] fX ?_
  refine rC fX ?_
  refine⟨_,qat _ _ _,rE fX ?_⟩
  refine wS cJ0 (fun hc1300=>?_) (fun hc1300=>?_)
  ·skip
   refine wR0 1400 [2] fX ?_
   refine wP ?_
   exact qac (by rw[hs];grind)
  ·skip
   refine wR0 1500 [1,5,6] fX ?_
   refine wR0 1600 [1,5,6,65] fX ?_
   refine wF fX ?_
   refine wRn 1800 [1,71] fX ?_
   refine rC fX ?_
   refine⟨_,qat _ _ _,rE fX ?_⟩
   refine wS cJ0 (fun hc1800=>?_) (fun hc1800=>?_)
   ·skip
    refine wR0 1900 [2] fX ?_
    refine wP ?_
    exact qac (by rw[hs];grind)
   ·skip
    refine wR0 2000 [1,74] fX ?_
    refine wT fX ?_
    refine wRn 2100 [2] fX ?_
    refine rC fX ?_
    refine⟨_,qat _ _ _,rE fX ?_⟩
    refine wP ?_
    exact qac (by rw[hs];grind)
theorem qk1 (m:Md)(hk:m.kind=6):TP Tryz.prog 84 [qaA m] (.bool (qbg m)):=by
 have kb1:(m.kind==1)=false:=by rw[hk];rfl
 have kb2:(m.kind==2)=false:=by rw[hk];rfl
 have kb3:(m.kind==3)=false:=by rw[hk];rfl
 have kb4:(m.kind==4)=false:=by rw[hk];rfl
 have kb5:(m.kind==5)=false:=by rw[hk];rfl
 have kb6:(m.kind==6)=true:=by rw[hk];rfl
 have kn1:(m.kind != 1)=!false:=by rw[hk];rfl
 have kn3:(m.kind != 3)=!false:=by rw[hk];rfl
 have kn6:(m.kind != 6)=!true:=by rw[hk];rfl
 have hl:limC m.kind=[1,6,0,0,0,0,0,0]:=by rw[hk];rfl
 have hs:qbg m=(btw m.states.length 1 8&&decide ((m.rules.length:Int)≤12)&&btw m.places.length 1 6&&btw m.letters.length 0 0&&btw m.levels 0 0&&btw m.age 0 0):=by rw[qbg,hl];rfl
 have fX:=(cJ8 @kb1 @kb2 @kb3 @kb4 @kb5 @kb6 @Bool.true_or (cJ3 @Bool.false_or @qai @qaS))
 refine qag fn84 (by simp) ?_
 unfold i84
 simp only[argL,qaA,mdC]
 refine wR0 0 [1] fX ?_
 refine wR0 100 [1,3] fX ?_
 refine wR0 200 [1,3,4] fX ?_
 refine wR0 300 [1,3,4,5,6] fX ?_
 refine wR0 400 [1,4,5,6,28] fX ?_
 refine wT fX ?_
 refine wR0 500 [1,4,5,6] fX ?_
 refine wR0 600 [1,4,5,6,29] fX ?_
 refine wF fX ?_
 refine wRn 800 [1,4,49] fX ?_
 refine rC fX ?_
 refine⟨_,qat _ _ _,rN fX ?_⟩
 refine rCi fX ?_
 refine⟨_,fun hw=>qat _ _ _,rE fX ?_⟩
 refine wS cJ0 (fun hc800=>?_) (fun hc800=>?_)
 ·skip
  refine wR0 900 [2] fX ?_
  refine wP ?_
  exact qac (by rw[hs];grind)
 ·skip
  refine wR0 1000 [1,4,5,6] fX ?_
  refine wR0 1100 [1,5,6,55] fX ?_
  refine wF fX ?_
  refine wRn 1300 [1,62] fX ?_
  refine rC fX ?_
  refine⟨_,qat _ _ _,rE fX ?_⟩
  refine wS cJ0 (fun hc1300=>?_) (fun hc1300=>?_)
  ·skip
   refine wR0 1400 [2] fX ?_
   refine wP ?_
   exact qac (by rw[hs];grind)
  ·skip
   refine wR0 1500 [1,5,6] fX ?_
   refine wR0 1600 [1,5,6,65] fX ?_
   refine wF fX ?_
   refine wRn 1800 [1,71] fX ?_
   refine rC fX ?_
   refine⟨_,qat _ _ _,rE fX ?_⟩
   refine wS cJ0 (fun hc1800=>?_) (fun hc1800=>?_)
   ·skip
    refine wR0 1900 [2] fX ?_
    refine wP ?_
    exact qac (by rw[hs];grind)
   ·skip
    refine wR0 2000 [1,74] fX ?_
    refine wF fX ?_
    refine wR0 2200 [2] fX ?_
    refine wP ?_
    exact qac (by rw[hs];have:(m.age==0)=btw m.age 0 0:=(by rw[Bool.eq_iff_iff];simp[btw];omega);grind)
theorem qeX {m:Md}(h:btw m.kind 1 6=true):m.kind=1∨m.kind=2∨m.kind=3∨m.kind=4∨m.kind=5∨m.kind=6:=by
 simp[btw] at h;omega
theorem qlW (m:Md)(h:btw m.kind 1 6=true):TP Tryz.prog 84 [qaA m] (.bool (qbg m)):=by
 rcases qeX h with h | h | h | h | h | h
 ·exact qkW m h
 ·exact qkX m h
 ·exact qkY m h
 ·exact qkZ m h
 ·exact qk0 m h
 ·exact qk1 m h
@[simp] theorem qdT (l:List Int):sizedB 0 (qad l)=true:=by
 rw[sizedB,List.all_eq_true]
 intro c hc
 obtain⟨x,_,rfl⟩:=List.mem_map.1 hc
 rfl
@[simp] theorem qtm (l:List Int):qad l=[]↔l=[]:=by simp[qad]
theorem qj1 (l:List Int)(hl:l.length≤1000000):TP Tryz.prog 88 [.list (qad l)] (.list (qad l)):=by
 cases l with
 | nil=>
  simp only[qaw]
  refine qag fn88 (by simp) ?_
  unfold i88
  simp only[argL]
  refine wR0 0 [0] cJ0 ?_
  refine wR0 100 [2] cJ0 ?_
  refine wP ?_
  exact .nil
 | cons x l=>
  have hsz:=qdT (x::l)
  have hle:(qad (x::l)).length≤1000000000:=by rw[qae];omega
  have hne:qad (x::l)≠[]:=by simp
  have fX:=(cJ8 @qb7 @hsz @hle @hne @ne_eq.{1} @not_false_eq_true @true_and @and_true)
  refine qag fn88 (by simp) ?_
  unfold i88
  simp only[argL]
  refine wR0 0 [0] fX ?_
  refine wR0 100 [2] fX ?_
  refine wP ?_
  exact qbn _ rfl (qae _) (qae _)
theorem FrzL.append {H:Heap}:∀ {xs ys xs' ys':List T},FrzL H xs ys→FrzL H xs' ys'→FrzL H (xs++xs') (ys++ys')
 | [],[],_,_,_,h=>h
 | [],_::_,_,_,h,_=>by have:=h.1;simp at this
 | _::_,[],_,_,h,_=>by have:=h.1;simp at this
 | x::xs,y::ys,_,_,h,h'=>by
  have h0:=h.2 0 (by simp)
  exact FrzL.cons (by simpa using h0) (FrzL.append (xs:=xs) (ys:=ys) ⟨by simpa using h.1,fun i hi=>by have:=h.2 (i+1) (by simpa using hi);simpa using this⟩ h')
theorem FrzL.same {H:Heap}{xs:List T}(h:froL xs=true):FrzL H xs xs:=⟨rfl,fun i hi=>.same (qbk h i)⟩
def rowC (c0 c:List T):Nat→List T
 | 0=>c0
 | j+1=>rowC c0 c j++c
theorem qcW (c0 c:List T)(h0:c0.length=4)(h:c.length=4):∀j,(rowC c0 c j).length=(j+1)*4
 | 0=>by simp[rowC,h0]
 | j+1=>by simp[rowC,qcW c0 c h0 h j,h];omega
theorem qng {H:Heap}{c0 c d0 d:List T}(h0:FrzL H c0 d0)(h:FrzL H c d):∀j,FrzL H (rowC c0 c j) (rowC d0 d j)
 | 0=>h0
 | j+1=>(qng h0 h j).append h
theorem qeE {c0 c:List T}(h0:Ones c0)(h:Ones c):∀j,Ones (rowC c0 c j)
 | 0=>h0
 | j+1=>fun x hx=>(List.mem_append.1 hx).elim (qeE h0 h j x) (h x)
theorem qfq {D:Nat→Bool}{c0 c:List T}(h0:clL D c0=true)(h:clL D c=true):∀j,clL D (rowC c0 c j)=true
 | 0=>h0
 | j+1=>by rw[rowC,qab,qfq h0 h j,h];rfl
def qfu (t0 t:Ty):Nat→List Ty
 | 0=>[t0]
 | j+1=>qfu t0 t j++[t]
theorem qje (xs ys:List Ty):qam (xs++ys)=qam xs++qam ys:=by simp[qcZ]
theorem qgs (t0 t:Ty):∀j,flat (qam (qfu t0 t j))=rowC (qaz t0).cells (qaz t).cells j
 | 0=>by simp[qfu,rowC,qam,flat]
 | j+1=>by rw[qfu,qje,qfk,qgs t0 t j,rowC];simp[qam,flat]
theorem qic (t0 t:Ty):∀j,(qfu t0 t j).length=j+1
 | 0=>rfl
 | j+1=>by simp[qfu,qic t0 t j]
theorem qjf (ps:List Ty):qc3 (esz 4) (qam ps):=fun x hx=>by
 rw[qcZ] at hx
 obtain⟨v,_,rfl⟩:=List.mem_map.1 hx
 exact qb6 v
theorem qiA (t:Ty):Ones (qaz t).cells:=by
 rcases t with⟨k,s,rs,ps⟩
 intro c hc
 simp only[qaz,T.cells,List.mem_cons,List.not_mem_nil,or_false] at hc
 rcases hc with rfl | rfl | rfl | rfl<;>rfl
theorem qcw {H:Heap}{id ty n tot:Nat}{c0 c:List T}{t0 t:Ty}(j:Nat)(hb:H id=.live ⟨ty,rowC c0 c j⟩)(hn:n=j+1)(ht:tot=(j+1)*4)(hl0:c0.length=4)(hl:c.length=4)(h0:FrzL H c0 (qaz t0).cells)(h:FrzL H c (qaz t).cells) :
 Frz H (.sl id tot 4 0 n) (.list (qam (qfu t0 t j))):=by
 subst hn ht
 refine Frz.sl hb (qcW c0 c hl0 hl j) (by simp[esz]) (by rw[qap,qic]) (qjf _) (by rw[qgs];exact qeE (qiA _) (qiA _) j) fun k hk=>?_
 rw[qgs,Nat.zero_add]
 exact (qng h0 h j).2 k (by rw[qcW c0 c hl0 hl];simpa [esz] using hk)
def qex (m:Md):Ty:=if m.kind=2 then qbI 4 (qaU m.letters.length) else if m.kind=3 then .mk 7 m.letters.length m.ranks [] else .mk 1 0 [] []
def qa9 (m:Md):Ty:=
 qbf (if m.kind=4 then [qaU m.states.length,qev m.letters.length m.levels] else if m.kind=5 then [qaU m.states.length,qbI 5 (.mk 3 0 [] [qaU m.places.length,qaU (m.age+2)])]
  else qfu (qaU m.states.length) (qex m) m.places.length)
structure Md.sane (m:Md):Prop where
 fit:m.fit
 kind:btw m.kind 1 6=true
 lev:m.kind=4→m.levels=1∨m.levels=2
 age:0≤m.age∧m.age≤1000
 rank:m.kind=3→m.ranks≠[]
end
end Go.Proofs.YtkbjpglehdhjfaaGreatDoor
