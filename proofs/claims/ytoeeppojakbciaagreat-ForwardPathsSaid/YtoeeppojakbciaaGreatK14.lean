/- Contracts of functions of the program, for all arguments that they name. -/
import Derived.Test.YtoeeppojakbciaaGreatK13
namespace Go.Proofs.YtoeeppojakbciaaGreat
set_option linter.unusedVariables false
section
open Go.RowKit
set_option maxHeartbeats 2000000
theorem qj5 (m:Md)(hk:m.kind=1):TP Tryz.prog 109 [qas m] (.bool (qaR m)):=by
 have kb1:(m.kind==1)=true:=by rw[hk];rfl
 have kb2:(m.kind==2)=false:=by rw[hk];rfl
 have kb3:(m.kind==3)=false:=by rw[hk];rfl
 have kb4:(m.kind==4)=false:=by rw[hk];rfl
 have kb5:(m.kind==5)=false:=by rw[hk];rfl
 have kb6:(m.kind==6)=false:=by rw[hk];rfl
 have kn1:(m.kind != 1)=!true:=by rw[hk];rfl
 have kn3:(m.kind != 3)=!false:=by rw[hk];rfl
 have kn6:(m.kind != 6)=!false:=by rw[hk];rfl
 have hl:limC m.kind=[1,6,0,0,0,0,0,0]:=by rw[hk];rfl
 have hs:qaR m=(btw m.states.length 1 8&&decide ((m.rules.length:Int)≤12)&&btw m.places.length 1 6&&btw m.letters.length 0 0&&btw m.levels 0 0&&btw m.age 0 0):=by rw[qaR,hl];rfl
 have fX:=(cJ8 @kb1 @kb2 @kb3 @kb4 @kb5 @kb6 @Bool.true_or (cJ3 @Bool.false_or @qaf @qaD))
 refine qah qm6 (by simp) ?_
 unfold i109
 simp only[argL,qas,mdC]
 refine wR0 0 [1] fX ?_
 refine wR0 100 [1,3] fX ?_
 refine wR0 200 [1,3,4] fX ?_
 refine wR0 300 [1,3,4,5,6] fX ?_
 refine wR0 400 [1,4,5,6,28] fX ?_
 refine wT fX ?_
 refine wR0 500 [1,4,5,6] fX ?_
 refine wR0 600 [1,4,5,6,29] fX ?_
 refine wF fX ?_
 refine wRn 800 [1,4,49] fX ?_
 refine rC fX ?_
 refine⟨_,qat _ _ _,rN fX ?_⟩
 refine rCi fX ?_
 refine⟨_,fun hw=>qat _ _ _,rE fX ?_⟩
 refine wS cJ0 (fun hc800=>?_) (fun hc800=>?_)
 ·skip
  refine wR0 900 [2] fX ?_
  refine wP ?_
  exact qab (by rw[hs];grind)
 ·skip
  refine wR0 1000 [1,4,5,6] fX ?_
  refine wR0 1100 [1,5,6,55] fX ?_
  refine wF fX ?_
  refine wRn 1300 [1,62] fX ?_
  refine rC fX ?_
  refine⟨_,qat _ _ _,rE fX ?_⟩
  refine wS cJ0 (fun hc1300=>?_) (fun hc1300=>?_)
  ·skip
   refine wR0 1400 [2] fX ?_
   refine wP ?_
   exact qab (by rw[hs];grind)
  ·skip
   refine wR0 1500 [1,5,6] fX ?_
   refine wR0 1600 [1,5,6,65] fX ?_
   refine wF fX ?_
   refine wRn 1800 [1,71] fX ?_
   refine rC fX ?_
   refine⟨_,qat _ _ _,rE fX ?_⟩
   refine wS cJ0 (fun hc1800=>?_) (fun hc1800=>?_)
   ·skip
    refine wR0 1900 [2] fX ?_
    refine wP ?_
    exact qab (by rw[hs];grind)
   ·skip
    refine wR0 2000 [1,74] fX ?_
    refine wF fX ?_
    refine wR0 2200 [2] fX ?_
    refine wP ?_
    exact qab (by rw[hs];have:(m.age==0)=btw m.age 0 0:=(by rw[Bool.eq_iff_iff];simp[btw];omega);grind)
theorem qj6 (m:Md)(hk:m.kind=2):TP Tryz.prog 109 [qas m] (.bool (qaR m)):=by
 have kb1:(m.kind==1)=false:=by rw[hk];rfl
 have kb2:(m.kind==2)=true:=by rw[hk];rfl
 have kb3:(m.kind==3)=false:=by rw[hk];rfl
 have kb4:(m.kind==4)=false:=by rw[hk];rfl
 have kb5:(m.kind==5)=false:=by rw[hk];rfl
 have kb6:(m.kind==6)=false:=by rw[hk];rfl
 have kn1:(m.kind != 1)=!false:=by rw[hk];rfl
 have kn3:(m.kind != 3)=!false:=by rw[hk];rfl
 have kn6:(m.kind != 6)=!false:=by rw[hk];rfl
 have hl:limC m.kind=[1,2,1,6,0,0,0,0]:=by rw[hk];rfl
 have hs:qaR m=(btw m.states.length 1 8&&decide ((m.rules.length:Int)≤12)&&btw m.places.length 1 2&&btw m.letters.length 1 6&&btw m.levels 0 0&&btw m.age 0 0):=by rw[qaR,hl];rfl
 have fX:=(cJ8 @kb1 @kb2 @kb3 @kb4 @kb5 @kb6 @Bool.true_or (cJ3 @Bool.false_or @qaf @qaD))
 refine qah qm6 (by simp) ?_
 unfold i109
 simp only[argL,qas,mdC]
 refine wR0 0 [1] fX ?_
 refine wR0 100 [1,3] fX ?_
 refine wR0 200 [1,3,4] fX ?_
 refine wR0 300 [1,3,4,5,6] fX ?_
 refine wR0 400 [1,4,5,6,28] fX ?_
 refine wF fX ?_
 refine wR0 600 [1,4,5,6,29] fX ?_
 refine wT fX ?_
 refine wR0 700 [1,4,5,6] fX ?_
 refine wRn 800 [1,4,49] fX ?_
 refine rC fX ?_
 refine⟨_,qat _ _ _,rN fX ?_⟩
 refine rCi fX ?_
 refine⟨_,fun hw=>qat _ _ _,rE fX ?_⟩
 refine wS cJ0 (fun hc800=>?_) (fun hc800=>?_)
 ·skip
  refine wR0 900 [2] fX ?_
  refine wP ?_
  exact qab (by rw[hs];grind)
 ·skip
  refine wR0 1000 [1,4,5,6] fX ?_
  refine wR0 1100 [1,5,6,55] fX ?_
  refine wT fX ?_
  refine wR0 1200 [1,5,6] fX ?_
  refine wRn 1300 [1,62] fX ?_
  refine rC fX ?_
  refine⟨_,qat _ _ _,rE fX ?_⟩
  refine wS cJ0 (fun hc1300=>?_) (fun hc1300=>?_)
  ·skip
   refine wR0 1400 [2] fX ?_
   refine wP ?_
   exact qab (by rw[hs];grind)
  ·skip
   refine wR0 1500 [1,5,6] fX ?_
   refine wR0 1600 [1,5,6,65] fX ?_
   refine wF fX ?_
   refine wRn 1800 [1,71] fX ?_
   refine rC fX ?_
   refine⟨_,qat _ _ _,rE fX ?_⟩
   refine wS cJ0 (fun hc1800=>?_) (fun hc1800=>?_)
   ·skip
    refine wR0 1900 [2] fX ?_
    refine wP ?_
    exact qab (by rw[hs];grind)
   ·skip
    refine wR0 2000 [1,74] fX ?_
    refine wF fX ?_
    refine wR0 2200 [2] fX ?_
    refine wP ?_
    exact qab (by rw[hs];have:(m.age==0)=btw m.age 0 0:=(by rw[Bool.eq_iff_iff];simp[btw];omega);grind)
theorem qj7 (m:Md)(hk:m.kind=3):TP Tryz.prog 109 [qas m] (.bool (qaR m)):=by
 have kb1:(m.kind==1)=false:=by rw[hk];rfl
 have kb2:(m.kind==2)=false:=by rw[hk];rfl
 have kb3:(m.kind==3)=true:=by rw[hk];rfl
 have kb4:(m.kind==4)=false:=by rw[hk];rfl
 have kb5:(m.kind==5)=false:=by rw[hk];rfl
 have kb6:(m.kind==6)=false:=by rw[hk];rfl
 have kn1:(m.kind != 1)=!false:=by rw[hk];rfl
 have kn3:(m.kind != 3)=!true:=by rw[hk];rfl
 have kn6:(m.kind != 6)=!false:=by rw[hk];rfl
 have hl:limC m.kind=[1,2,1,6,0,0,0,0]:=by rw[hk];rfl
 have hs:qaR m=(btw m.states.length 1 8&&decide ((m.rules.length:Int)≤12)&&btw m.places.length 1 2&&btw m.letters.length 1 6&&btw m.levels 0 0&&btw m.age 0 0):=by rw[qaR,hl];rfl
 have fX:=(cJ8 @kb1 @kb2 @kb3 @kb4 @kb5 @kb6 @Bool.true_or (cJ3 @Bool.false_or @qaf @qaD))
 refine qah qm6 (by simp) ?_
 unfold i109
 simp only[argL,qas,mdC]
 refine wR0 0 [1] fX ?_
 refine wR0 100 [1,3] fX ?_
 refine wR0 200 [1,3,4] fX ?_
 refine wR0 300 [1,3,4,5,6] fX ?_
 refine wR0 400 [1,4,5,6,28] fX ?_
 refine wF fX ?_
 refine wR0 600 [1,4,5,6,29] fX ?_
 refine wT fX ?_
 refine wR0 700 [1,4,5,6] fX ?_
 refine wRn 800 [1,4,49] fX ?_
 refine rC fX ?_
 refine⟨_,qat _ _ _,rN fX ?_⟩
 refine rCi fX ?_
 refine⟨_,fun hw=>qat _ _ _,rE fX ?_⟩
 refine wS cJ0 (fun hc800=>?_) (fun hc800=>?_)
 ·skip
  refine wR0 900 [2] fX ?_
  refine wP ?_
  exact qab (by rw[hs];grind)
 ·skip
  refine wR0 1000 [1,4,5,6] fX ?_
  refine wR0 1100 [1,5,6,55] fX ?_
  refine wT fX ?_
  refine wR0 1200 [1,5,6] fX ?_
  refine wRn 1300 [1,62] fX ?_
  refine rC fX ?_
  refine⟨_,qat _ _ _,rE fX ?_⟩
  refine wS cJ0 (fun hc1300=>?_) (fun hc1300=>?_)
  ·skip
   refine wR0 1400 [2] fX ?_
   refine wP ?_
   exact qab (by rw[hs];grind)
  ·skip
   refine wR0 1500 [1,5,6] fX ?_
   refine wR0 1600 [1,5,6,65] fX ?_
   refine wF fX ?_
   refine wRn 1800 [1,71] fX ?_
   refine rC fX ?_
   refine⟨_,qat _ _ _,rE fX ?_⟩
   refine wS cJ0 (fun hc1800=>?_) (fun hc1800=>?_)
   ·skip
    refine wR0 1900 [2] fX ?_
    refine wP ?_
    exact qab (by rw[hs];grind)
   ·skip
    refine wR0 2000 [1,74] fX ?_
    refine wF fX ?_
    refine wR0 2200 [2] fX ?_
    refine wP ?_
    exact qab (by rw[hs];have:(m.age==0)=btw m.age 0 0:=(by rw[Bool.eq_iff_iff];simp[btw];omega);grind)
theorem qj8 (m:Md)(hk:m.kind=4):TP Tryz.prog 109 [qas m] (.bool (qaR m)):=by
 have kb1:(m.kind==1)=false:=by rw[hk];rfl
 have kb2:(m.kind==2)=false:=by rw[hk];rfl
 have kb3:(m.kind==3)=false:=by rw[hk];rfl
 have kb4:(m.kind==4)=true:=by rw[hk];rfl
 have kb5:(m.kind==5)=false:=by rw[hk];rfl
 have kb6:(m.kind==6)=false:=by rw[hk];rfl
 have kn1:(m.kind != 1)=!false:=by rw[hk];rfl
 have kn3:(m.kind != 3)=!false:=by rw[hk];rfl
 have kn6:(m.kind != 6)=!false:=by rw[hk];rfl
 have hl:limC m.kind=[0,0,1,6,1,2,0,0]:=by rw[hk];rfl
 have hs:qaR m=(btw m.states.length 1 8&&decide ((m.rules.length:Int)≤12)&&btw m.places.length 0 0&&btw m.letters.length 1 6&&btw m.levels 1 2&&btw m.age 0 0):=by rw[qaR,hl];rfl
 have fX:=(cJ8 @kb1 @kb2 @kb3 @kb4 @kb5 @kb6 @Bool.true_or (cJ3 @Bool.false_or @qaf @qaD))
 refine qah qm6 (by simp) ?_
 unfold i109
 simp only[argL,qas,mdC]
 refine wR0 0 [1] fX ?_
 refine wR0 100 [1,3] fX ?_
 refine wR0 200 [1,3,4] fX ?_
 refine wR0 300 [1,3,4,5,6] fX ?_
 refine wR0 400 [1,4,5,6,28] fX ?_
 refine wF fX ?_
 refine wR0 600 [1,4,5,6,29] fX ?_
 refine wF fX ?_
 refine wRn 800 [1,4,49] fX ?_
 refine rC fX ?_
 refine⟨_,qat _ _ _,rN fX ?_⟩
 refine rCi fX ?_
 refine⟨_,fun hw=>qat _ _ _,rE fX ?_⟩
 refine wS cJ0 (fun hc800=>?_) (fun hc800=>?_)
 ·skip
  refine wR0 900 [2] fX ?_
  refine wP ?_
  exact qab (by rw[hs];grind)
 ·skip
  refine wR0 1000 [1,4,5,6] fX ?_
  refine wR0 1100 [1,5,6,55] fX ?_
  refine wT fX ?_
  refine wR0 1200 [1,5,6] fX ?_
  refine wRn 1300 [1,62] fX ?_
  refine rC fX ?_
  refine⟨_,qat _ _ _,rE fX ?_⟩
  refine wS cJ0 (fun hc1300=>?_) (fun hc1300=>?_)
  ·skip
   refine wR0 1400 [2] fX ?_
   refine wP ?_
   exact qab (by rw[hs];grind)
  ·skip
   refine wR0 1500 [1,5,6] fX ?_
   refine wR0 1600 [1,5,6,65] fX ?_
   refine wT fX ?_
   refine wR0 1700 [1,5,6] fX ?_
   refine wRn 1800 [1,71] fX ?_
   refine rC fX ?_
   refine⟨_,qat _ _ _,rE fX ?_⟩
   refine wS cJ0 (fun hc1800=>?_) (fun hc1800=>?_)
   ·skip
    refine wR0 1900 [2] fX ?_
    refine wP ?_
    exact qab (by rw[hs];grind)
   ·skip
    refine wR0 2000 [1,74] fX ?_
    refine wF fX ?_
    refine wR0 2200 [2] fX ?_
    refine wP ?_
    exact qab (by rw[hs];have:(m.age==0)=btw m.age 0 0:=(by rw[Bool.eq_iff_iff];simp[btw];omega);grind)
theorem qj9 (m:Md)(hk:m.kind=5):TP Tryz.prog 109 [qas m] (.bool (qaR m)):=by
 have kb1:(m.kind==1)=false:=by rw[hk];rfl
 have kb2:(m.kind==2)=false:=by rw[hk];rfl
 have kb3:(m.kind==3)=false:=by rw[hk];rfl
 have kb4:(m.kind==4)=false:=by rw[hk];rfl
 have kb5:(m.kind==5)=true:=by rw[hk];rfl
 have kb6:(m.kind==6)=false:=by rw[hk];rfl
 have kn1:(m.kind != 1)=!false:=by rw[hk];rfl
 have kn3:(m.kind != 3)=!false:=by rw[hk];rfl
 have kn6:(m.kind != 6)=!false:=by rw[hk];rfl
 have hl:limC m.kind=[1,6,0,0,0,0,0,3]:=by rw[hk];rfl
 have hs:qaR m=(btw m.states.length 1 8&&decide ((m.rules.length:Int)≤12)&&btw m.places.length 1 6&&btw m.letters.length 0 0&&btw m.levels 0 0&&btw m.age 0 3):=by rw[qaR,hl];rfl
 have fX:=(cJ8 @kb1 @kb2 @kb3 @kb4 @kb5 @kb6 @Bool.true_or (cJ3 @Bool.false_or @qaf @qaD))
 refine qah qm6 (by simp) ?_
 unfold i109
 simp only[argL,qas,mdC]
 refine wR0 0 [1] fX ?_
 refine wR0 100 [1,3] fX ?_
 refine wR0 200 [1,3,4] fX ?_
 refine wR0 300 [1,3,4,5,6] fX ?_
 refine wR0 400 [1,4,5,6,28] fX ?_
 refine wT fX ?_
 refine wR0 500 [1,4,5,6] fX ?_
 refine wR0 600 [1,4,5,6,29] fX ?_
 refine wF fX ?_
 refine wRn 800 [1,4,49] fX ?_
 refine rC fX ?_
 refine⟨_,qat _ _ _,rN fX ?_⟩
 refine rCi fX ?_
 refine⟨_,fun hw=>qat _ _ _,rE fX ?_⟩
 refine wS cJ0 (fun hc800=>?_) (fun hc800=>?_)
 ·skip
  refine wR0 900 [2] fX ?_
  refine wP ?_
  exact qab (by rw[hs];grind)
 ·skip
  refine wR0 1000 [1,4,5,6] fX ?_
  refine wR0 1100 [1,5,6,55] fX ?_
  refine wF fX ?_
  refine wRn 1300 [1,62] fX ?_
  refine rC fX ?_
  refine⟨_,qat _ _ _,rE fX ?_⟩
  refine wS cJ0 (fun hc1300=>?_) (fun hc1300=>?_)
  ·skip
   refine wR0 1400 [2] fX ?_
   refine wP ?_
   exact qab (by rw[hs];grind)
  ·skip
   refine wR0 1500 [1,5,6] fX ?_
   refine wR0 1600 [1,5,6,65] fX ?_
   refine wF fX ?_
   refine wRn 1800 [1,71] fX ?_
   refine rC fX ?_
   refine⟨_,qat _ _ _,rE fX ?_⟩
   refine wS cJ0 (fun hc1800=>?_) (fun hc1800=>?_)
   ·skip
    refine wR0 1900 [2] fX ?_
    refine wP ?_
    exact qab (by rw[hs];grind)
   ·skip
    refine wR0 2000 [1,74] fX ?_
    refine wT fX ?_
    refine wRn 2100 [2] fX ?_
    refine rC fX ?_
    refine⟨_,qat _ _ _,rE fX ?_⟩
    refine wP ?_
    exact qab (by rw[hs];grind)
theorem qka (m:Md)(hk:m.kind=6):TP Tryz.prog 109 [qas m] (.bool (qaR m)):=by
 have kb1:(m.kind==1)=false:=by rw[hk];rfl
 have kb2:(m.kind==2)=false:=by rw[hk];rfl
 have kb3:(m.kind==3)=false:=by rw[hk];rfl
 have kb4:(m.kind==4)=false:=by rw[hk];rfl
 have kb5:(m.kind==5)=false:=by rw[hk];rfl
 have kb6:(m.kind==6)=true:=by rw[hk];rfl
 have kn1:(m.kind != 1)=!false:=by rw[hk];rfl
 have kn3:(m.kind != 3)=!false:=by rw[hk];rfl
 have kn6:(m.kind != 6)=!true:=by rw[hk];rfl
 have hl:limC m.kind=[1,6,0,0,0,0,0,0]:=by rw[hk];rfl
 have hs:qaR m=(btw m.states.length 1 8&&decide ((m.rules.length:Int)≤12)&&btw m.places.length 1 6&&btw m.letters.length 0 0&&btw m.levels 0 0&&btw m.age 0 0):=by rw[qaR,hl];rfl
 have fX:=(cJ8 @kb1 @kb2 @kb3 @kb4 @kb5 @kb6 @Bool.true_or (cJ3 @Bool.false_or @qaf @qaD))
 refine qah qm6 (by simp) ?_
 unfold i109
 simp only[argL,qas,mdC]
 refine wR0 0 [1] fX ?_
 refine wR0 100 [1,3] fX ?_
 refine wR0 200 [1,3,4] fX ?_
 refine wR0 300 [1,3,4,5,6] fX ?_
 refine wR0 400 [1,4,5,6,28] fX ?_
 refine wT fX ?_
 refine wR0 500 [1,4,5,6] fX ?_
 refine wR0 600 [1,4,5,6,29] fX ?_
 refine wF fX ?_
 refine wRn 800 [1,4,49] fX ?_
 refine rC fX ?_
 refine⟨_,qat _ _ _,rN fX ?_⟩
 refine rCi fX ?_
 refine⟨_,fun hw=>qat _ _ _,rE fX ?_⟩
 refine wS cJ0 (fun hc800=>?_) (fun hc800=>?_)
 ·skip
  refine wR0 900 [2] fX ?_
  refine wP ?_
  exact qab (by rw[hs];grind)
 ·skip
  refine wR0 1000 [1,4,5,6] fX ?_
  refine wR0 1100 [1,5,6,55] fX ?_
  refine wF fX ?_
  refine wRn 1300 [1,62] fX ?_
  refine rC fX ?_
  refine⟨_,qat _ _ _,rE fX ?_⟩
  refine wS cJ0 (fun hc1300=>?_) (fun hc1300=>?_)
  ·skip
   refine wR0 1400 [2] fX ?_
   refine wP ?_
   exact qab (by rw[hs];grind)
  ·skip
   refine wR0 1500 [1,5,6] fX ?_
   refine wR0 1600 [1,5,6,65] fX ?_
   refine wF fX ?_
   refine wRn 1800 [1,71] fX ?_
   refine rC fX ?_
   refine⟨_,qat _ _ _,rE fX ?_⟩
   refine wS cJ0 (fun hc1800=>?_) (fun hc1800=>?_)
   ·skip
    refine wR0 1900 [2] fX ?_
    refine wP ?_
    exact qab (by rw[hs];grind)
   ·skip
    refine wR0 2000 [1,74] fX ?_
    refine wF fX ?_
    refine wR0 2200 [2] fX ?_
    refine wP ?_
    exact qab (by rw[hs];have:(m.age==0)=btw m.age 0 0:=(by rw[Bool.eq_iff_iff];simp[btw];omega);grind)
theorem qd4 {m:Md}(h:btw m.kind 1 6=true):m.kind=1∨m.kind=2∨m.kind=3∨m.kind=4∨m.kind=5∨m.kind=6:=by
 simp[btw] at h;omega
theorem qlc (m:Md)(h:btw m.kind 1 6=true):TP Tryz.prog 109 [qas m] (.bool (qaR m)):=by
 rcases qd4 h with h | h | h | h | h | h
 ·exact qj5 m h
 ·exact qj6 m h
 ·exact qj7 m h
 ·exact qj8 m h
 ·exact qj9 m h
 ·exact qka m h
@[simp] theorem qeo (l:List Int):sizedB 0 (qac l)=true:=by
 rw[sizedB,List.all_eq_true]
 intro c hc
 obtain⟨x,_,rfl⟩:=List.mem_map.1 hc
 rfl
@[simp] theorem qsj (l:List Int):qac l=[]↔l=[]:=by simp[qac]
theorem qiT (l:List Int)(hl:l.length≤1000000):TP Tryz.prog 116 [.list (qac l)] (.list (qac l)):=by
 cases l with
 | nil=>
  simp only[qaw]
  refine qah fn116 (by simp) ?_
  unfold i116
  simp only[argL]
  refine wR0 0 [0] cJ0 ?_
  refine wR0 100 [2] cJ0 ?_
  refine wP ?_
  exact .nil
 | cons x l=>
  have hsz:=qeo (x::l)
  have hle:(qac (x::l)).length≤1000000000:=by rw[qad];omega
  have hne:qac (x::l)≠[]:=by simp
  have fX:=(cJ8 @qbT @hsz @hle @hne @ne_eq.{1} @not_false_eq_true @true_and @and_true)
  refine qah fn116 (by simp) ?_
  unfold i116
  simp only[argL]
  refine wR0 0 [0] fX ?_
  refine wR0 100 [2] fX ?_
  refine wP ?_
  exact qbx _ rfl (qad _) (qad _)
theorem qjT (x:Int)(l:List Int)(hl:(x::l).length≤1000000):TP Tryz.prog 32 [.list (qac (x::l))] (.list (qac (x::l))):=by
 have hsz:=qeo (x::l)
 have hle:(qac (x::l)).length≤1000000000:=by rw[qad];omega
 have hne:qac (x::l)≠[]:=by simp
 have hpos:0<(qac (x::l)).length:=by simp[qad]
 have hq:binT .eql .slice (.list (qac (x::l))) .nil=some (.bool false):=rfl
 have hrp:repl 0 [T.int .i64 0]=[]:=rfl
 have fX:=(cJ4 @qbT @hsz @hq @hrp)
 refine qah fn32 (by simp) ?_
 unfold i32
 simp only[argL]
 refine wR0 0 [0] fX ?_
 refine wR0 100 [0,4] fX ?_
 refine wF @true_and ?_
 refine wR0 300 [2] fX ?_
 refine wP ?_
 exact qbx _ rfl (qad _) (qad _)
theorem FrzL.append {H:Heap}:∀ {xs ys xs' ys':List T},FrzL H xs ys→FrzL H xs' ys'→FrzL H (xs++xs') (ys++ys')
 | [],[],_,_,_,h=>h
 | [],_::_,_,_,h,_=>by have:=h.1;simp at this
 | _::_,[],_,_,h,_=>by have:=h.1;simp at this
 | x::xs,y::ys,_,_,h,h'=>by
  have h0:=h.2 0 (by simp)
  exact FrzL.cons (by simpa using h0) (FrzL.append (xs:=xs) (ys:=ys) ⟨by simpa using h.1,fun i hi=>by have:=h.2 (i+1) (by simpa using hi);simpa using this⟩ h')
theorem FrzL.same {H:Heap}{xs:List T}(h:froL xs=true):FrzL H xs xs:=⟨rfl,fun i hi=>.same (qa5 h i)⟩
def rowC (c0 c:List T):Nat→List T
 | 0=>c0
 | j+1=>rowC c0 c j++c
theorem qcu (c0 c:List T)(h0:c0.length=4)(h:c.length=4):∀j,(rowC c0 c j).length=(j+1)*4
 | 0=>by simp[rowC,h0]
 | j+1=>by simp[rowC,qcu c0 c h0 h j,h];omega
theorem qmw {H:Heap}{c0 c d0 d:List T}(h0:FrzL H c0 d0)(h:FrzL H c d):∀j,FrzL H (rowC c0 c j) (rowC d0 d j)
 | 0=>h0
 | j+1=>(qmw h0 h j).append h
theorem qdO {c0 c:List T}(h0:Ones c0)(h:Ones c):∀j,Ones (rowC c0 c j)
 | 0=>h0
 | j+1=>fun x hx=>(List.mem_append.1 hx).elim (qdO h0 h j x) (h x)
theorem qev {D:Nat→Bool}{c0 c:List T}(h0:clL D c0=true)(h:clL D c=true):∀j,clL D (rowC c0 c j)=true
 | 0=>h0
 | j+1=>by rw[rowC,qap,qev h0 h j,h];rfl
def qdC (t0 t:Ty):Nat→List Ty
 | 0=>[t0]
 | j+1=>qdC t0 t j++[t]
theorem qib (xs ys:List Ty):qaj (xs++ys)=qaj xs++qaj ys:=by simp[qc4]
theorem qfz (t0 t:Ty):∀j,flat (qaj (qdC t0 t j))=rowC (qax t0).cells (qax t).cells j
 | 0=>by simp[qdC,rowC,qaj,flat]
 | j+1=>by rw[qdC,qib,qet,qfz t0 t j,rowC];simp[qaj,flat]
theorem qhm (t0 t:Ty):∀j,(qdC t0 t j).length=j+1
 | 0=>rfl
 | j+1=>by simp[qdC,qhm t0 t j]
theorem qic (ps:List Ty):qcr (esz 4) (qaj ps):=fun x hx=>by
 rw[qc4] at hx
 obtain⟨v,_,rfl⟩:=List.mem_map.1 hx
 exact qbB v
theorem qhC (t:Ty):Ones (qax t).cells:=by
 rcases t with⟨k,s,rs,ps⟩
 intro c hc
 simp only[qax,T.cells,List.mem_cons,List.not_mem_nil,or_false] at hc
 rcases hc with rfl | rfl | rfl | rfl<;>rfl
theorem qbY {H:Heap}{id ty n tot:Nat}{c0 c:List T}{t0 t:Ty}(j:Nat)(hb:H id=.live ⟨ty,rowC c0 c j⟩)(hn:n=j+1)(ht:tot=(j+1)*4)(hl0:c0.length=4)(hl:c.length=4)(h0:FrzL H c0 (qax t0).cells)(h:FrzL H c (qax t).cells) :
 Frz H (.sl id tot 4 0 n) (.list (qaj (qdC t0 t j))):=by
 subst hn ht
 refine Frz.sl hb (qcu c0 c hl0 hl j) (by simp[esz]) (by rw[qao,qhm]) (qic _) (by rw[qfz];exact qdO (qhC _) (qhC _) j) fun k hk=>?_
 rw[qfz,Nat.zero_add]
 exact (qmw h0 h j).2 k (by rw[qcu c0 c hl0 hl];simpa [esz] using hk)
def qdy (m:Md):Ty:=if m.kind=2 then qbf 4 (qaM m.letters.length) else if m.kind=3 then .mk 7 m.letters.length m.ranks [] else .mk 1 0 [] []
def qbb (m:Md):Ty:=
 qaS (if m.kind=4 then [qaM m.states.length,qdJ m.letters.length m.levels] else if m.kind=5 then [qaM m.states.length,qbf 5 (.mk 3 0 [] [qaM m.places.length,qaM (m.age+2)])]
  else qdC (qaM m.states.length) (qdy m) m.places.length)
def qcL (m:Md):List T:=if m.kind=2 then [.int .i64 4,.int .i64 0,.list [],.list [.agg [.int .i64 2,.int .i64 m.letters.length,.list [],.list []]]] else if m.kind=3 then [.int .i64 7,.int .i64 m.letters.length,.list (qac m.ranks),.nil] else [.int .i64 1,.int .i64 0,.nil,.nil]
def labC (n:Int):List T:=[.int .i64 2,.int .i64 n,.list [],.list []]
theorem qdc (m:Md):(qcL m).length=4:=by unfold qcL;(repeat' split)<;>rfl
theorem qdb {H:Heap}(m:Md):FrzL H (qcL m) (qax (qdy m)).cells:=by
 unfold qcL qdy
 split
 ·simp only[qbf,qaM,qax,qaj,qaw,T.cells]
  (first | exact fF | exact fZt)
 ·split
  ·simp only[qax,qaj,T.cells]
   (first | exact fF | exact fZt)
  ·simp only[qax,qaj,qaw,T.cells]
   (first | exact fF | exact fZt)
theorem qd5 {H:Heap}(n:Int):FrzL H (labC n) (qax (qaM n)).cells:=FrzL.same rfl
end
end Go.Proofs.YtoeeppojakbciaaGreat
