/- Contracts of functions of the program, for all arguments that they name. -/
import Derived.Test.YtpplncjaihgimaaGreatK13
namespace Go.Proofs.YtpplncjaihgimaaGreat
set_option linter.unusedVariables false
section
open Go.RowKit
set_option maxHeartbeats 2000000
theorem qlb (m:Md)(hk:m.kind=1):TP Tryz.prog 95 [qax m] (.bool (qa9 m)):=by
 have kb1:(m.kind==1)=true:=by rw[hk];rfl
 have kb2:(m.kind==2)=false:=by rw[hk];rfl
 have kb3:(m.kind==3)=false:=by rw[hk];rfl
 have kb4:(m.kind==4)=false:=by rw[hk];rfl
 have kb5:(m.kind==5)=false:=by rw[hk];rfl
 have kb6:(m.kind==6)=false:=by rw[hk];rfl
 have kn1:(m.kind != 1)=!true:=by rw[hk];rfl
 have kn3:(m.kind != 3)=!false:=by rw[hk];rfl
 have kn6:(m.kind != 6)=!false:=by rw[hk];rfl
 have hl:limC m.kind=[1,6,0,0,0,0,0,0]:=by rw[hk];rfl
 have hs:qa9 m=(btw m.states.length 1 8&&decide ((m.rules.length:Int)≤12)&&btw m.places.length 1 6&&btw m.letters.length 0 0&&btw m.levels 0 0&&btw m.age 0 0):=by rw[qa9,hl];rfl
 have fX:=(cJ8 @kb1 @kb2 @kb3 @kb4 @kb5 @kb6 @Bool.true_or (cJ3 @Bool.false_or @qaf @qaB))
 refine qan fn95 (by simp) ?_
 unfold i95
 simp only[argL,qax,mdC]
 refine wR0 0 [1] fX ?_
 refine wR0 100 [1,3] fX ?_
 refine wR0 200 [1,3,4] fX ?_
 refine wR0 300 [1,3,4,5,6] fX ?_
 refine wR0 400 [1,4,5,6,28] fX ?_
 refine wT fX ?_
 refine wR0 500 [1,4,5,6] fX ?_
 refine wR0 600 [1,4,5,6,29] fX ?_
 refine wF fX ?_
 refine wRn 800 [1,4,49] fX ?_
 refine rC fX ?_
 refine⟨_,qav _ _ _,rN fX ?_⟩
 refine rCi fX ?_
 refine⟨_,fun hw=>qav _ _ _,rE fX ?_⟩
 refine wS cJ0 (fun hc800=>?_) (fun hc800=>?_)
 ·skip
  refine wR0 900 [2] fX ?_
  refine wP ?_
  exact qad (by rw[hs];grind)
 ·skip
  refine wR0 1000 [1,4,5,6] fX ?_
  refine wR0 1100 [1,5,6,55] fX ?_
  refine wF fX ?_
  refine wRn 1300 [1,62] fX ?_
  refine rC fX ?_
  refine⟨_,qav _ _ _,rE fX ?_⟩
  refine wS cJ0 (fun hc1300=>?_) (fun hc1300=>?_)
  ·skip
   refine wR0 1400 [2] fX ?_
   refine wP ?_
   exact qad (by rw[hs];grind)
  ·skip
   refine wR0 1500 [1,5,6] fX ?_
   refine wR0 1600 [1,5,6,65] fX ?_
   refine wF fX ?_
   refine wRn 1800 [1,71] fX ?_
   refine rC fX ?_
   refine⟨_,qav _ _ _,rE fX ?_⟩
   refine wS cJ0 (fun hc1800=>?_) (fun hc1800=>?_)
   ·skip
    refine wR0 1900 [2] fX ?_
    refine wP ?_
    exact qad (by rw[hs];grind)
   ·skip
    refine wR0 2000 [1,74] fX ?_
    refine wF fX ?_
    refine wR0 2200 [2] fX ?_
    refine wP ?_
    exact qad (by rw[hs];have:(m.age==0)=btw m.age 0 0:=(by rw[Bool.eq_iff_iff];simp[btw];omega);grind)
theorem qlc (m:Md)(hk:m.kind=2):TP Tryz.prog 95 [qax m] (.bool (qa9 m)):=by
 have kb1:(m.kind==1)=false:=by rw[hk];rfl
 have kb2:(m.kind==2)=true:=by rw[hk];rfl
 have kb3:(m.kind==3)=false:=by rw[hk];rfl
 have kb4:(m.kind==4)=false:=by rw[hk];rfl
 have kb5:(m.kind==5)=false:=by rw[hk];rfl
 have kb6:(m.kind==6)=false:=by rw[hk];rfl
 have kn1:(m.kind != 1)=!false:=by rw[hk];rfl
 have kn3:(m.kind != 3)=!false:=by rw[hk];rfl
 have kn6:(m.kind != 6)=!false:=by rw[hk];rfl
 have hl:limC m.kind=[1,2,1,6,0,0,0,0]:=by rw[hk];rfl
 have hs:qa9 m=(btw m.states.length 1 8&&decide ((m.rules.length:Int)≤12)&&btw m.places.length 1 2&&btw m.letters.length 1 6&&btw m.levels 0 0&&btw m.age 0 0):=by rw[qa9,hl];rfl
 have fX:=(cJ8 @kb1 @kb2 @kb3 @kb4 @kb5 @kb6 @Bool.true_or (cJ3 @Bool.false_or @qaf @qaB))
 refine qan fn95 (by simp) ?_
 unfold i95
 simp only[argL,qax,mdC]
 refine wR0 0 [1] fX ?_
 refine wR0 100 [1,3] fX ?_
 refine wR0 200 [1,3,4] fX ?_
 refine wR0 300 [1,3,4,5,6] fX ?_
 refine wR0 400 [1,4,5,6,28] fX ?_
 refine wF fX ?_
 refine wR0 600 [1,4,5,6,29] fX ?_
 refine wT fX ?_
 refine wR0 700 [1,4,5,6] fX ?_
 refine wRn 800 [1,4,49] fX ?_
 refine rC fX ?_
 refine⟨_,qav _ _ _,rN fX ?_⟩
 refine rCi fX ?_
 refine⟨_,fun hw=>qav _ _ _,rE fX ?_⟩
 refine wS cJ0 (fun hc800=>?_) (fun hc800=>?_)
 ·skip
  refine wR0 900 [2] fX ?_
  refine wP ?_
  exact qad (by rw[hs];grind)
 ·skip
  refine wR0 1000 [1,4,5,6] fX ?_
  refine wR0 1100 [1,5,6,55] fX ?_
  refine wT fX ?_
  refine wR0 1200 [1,5,6] fX ?_
  refine wRn 1300 [1,62] fX ?_
  refine rC fX ?_
  refine⟨_,qav _ _ _,rE fX ?_⟩
  refine wS cJ0 (fun hc1300=>?_) (fun hc1300=>?_)
  ·skip
   refine wR0 1400 [2] fX ?_
   refine wP ?_
   exact qad (by rw[hs];grind)
  ·skip
   refine wR0 1500 [1,5,6] fX ?_
   refine wR0 1600 [1,5,6,65] fX ?_
   refine wF fX ?_
   refine wRn 1800 [1,71] fX ?_
   refine rC fX ?_
   refine⟨_,qav _ _ _,rE fX ?_⟩
   refine wS cJ0 (fun hc1800=>?_) (fun hc1800=>?_)
   ·skip
    refine wR0 1900 [2] fX ?_
    refine wP ?_
    exact qad (by rw[hs];grind)
   ·skip
    refine wR0 2000 [1,74] fX ?_
    refine wF fX ?_
    refine wR0 2200 [2] fX ?_
    refine wP ?_
    exact qad (by rw[hs];have:(m.age==0)=btw m.age 0 0:=(by rw[Bool.eq_iff_iff];simp[btw];omega);grind)
theorem qld (m:Md)(hk:m.kind=3):TP Tryz.prog 95 [qax m] (.bool (qa9 m)):=by
 have kb1:(m.kind==1)=false:=by rw[hk];rfl
 have kb2:(m.kind==2)=false:=by rw[hk];rfl
 have kb3:(m.kind==3)=true:=by rw[hk];rfl
 have kb4:(m.kind==4)=false:=by rw[hk];rfl
 have kb5:(m.kind==5)=false:=by rw[hk];rfl
 have kb6:(m.kind==6)=false:=by rw[hk];rfl
 have kn1:(m.kind != 1)=!false:=by rw[hk];rfl
 have kn3:(m.kind != 3)=!true:=by rw[hk];rfl
 have kn6:(m.kind != 6)=!false:=by rw[hk];rfl
 have hl:limC m.kind=[1,2,1,6,0,0,0,0]:=by rw[hk];rfl
 have hs:qa9 m=(btw m.states.length 1 8&&decide ((m.rules.length:Int)≤12)&&btw m.places.length 1 2&&btw m.letters.length 1 6&&btw m.levels 0 0&&btw m.age 0 0):=by rw[qa9,hl];rfl
 have fX:=(cJ8 @kb1 @kb2 @kb3 @kb4 @kb5 @kb6 @Bool.true_or (cJ3 @Bool.false_or @qaf @qaB))
 refine qan fn95 (by simp) ?_
 unfold i95
 simp only[argL,qax,mdC]
 refine wR0 0 [1] fX ?_
 refine wR0 100 [1,3] fX ?_
 refine wR0 200 [1,3,4] fX ?_
 refine wR0 300 [1,3,4,5,6] fX ?_
 refine wR0 400 [1,4,5,6,28] fX ?_
 refine wF fX ?_
 refine wR0 600 [1,4,5,6,29] fX ?_
 refine wT fX ?_
 refine wR0 700 [1,4,5,6] fX ?_
 refine wRn 800 [1,4,49] fX ?_
 refine rC fX ?_
 refine⟨_,qav _ _ _,rN fX ?_⟩
 refine rCi fX ?_
 refine⟨_,fun hw=>qav _ _ _,rE fX ?_⟩
 refine wS cJ0 (fun hc800=>?_) (fun hc800=>?_)
 ·skip
  refine wR0 900 [2] fX ?_
  refine wP ?_
  exact qad (by rw[hs];grind)
 ·skip
  refine wR0 1000 [1,4,5,6] fX ?_
  refine wR0 1100 [1,5,6,55] fX ?_
  refine wT fX ?_
  refine wR0 1200 [1,5,6] fX ?_
  refine wRn 1300 [1,62] fX ?_
  refine rC fX ?_
  refine⟨_,qav _ _ _,rE fX ?_⟩
  refine wS cJ0 (fun hc1300=>?_) (fun hc1300=>?_)
  ·skip
   refine wR0 1400 [2] fX ?_
   refine wP ?_
   exact qad (by rw[hs];grind)
  ·skip
   refine wR0 1500 [1,5,6] fX ?_
   refine wR0 1600 [1,5,6,65] fX ?_
   refine wF fX ?_
   refine wRn 1800 [1,71] fX ?_
   refine rC fX ?_
   refine⟨_,qav _ _ _,rE fX ?_⟩
   refine wS cJ0 (fun hc1800=>?_) (fun hc1800=>?_)
   ·skip
    refine wR0 1900 [2] fX ?_
    refine wP ?_
    exact qad (by rw[hs];grind)
   ·skip
    refine wR0 2000 [1,74] fX ?_
    refine wF fX ?_
    refine wR0 2200 [2] fX ?_
    refine wP ?_
    exact qad (by rw[hs];have:(m.age==0)=btw m.age 0 0:=(by rw[Bool.eq_iff_iff];simp[btw];omega);grind)
theorem qle (m:Md)(hk:m.kind=4):TP Tryz.prog 95 [qax m] (.bool (qa9 m)):=by
 have kb1:(m.kind==1)=false:=by rw[hk];rfl
 have kb2:(m.kind==2)=false:=by rw[hk];rfl
 have kb3:(m.kind==3)=false:=by rw[hk];rfl
 have kb4:(m.kind==4)=true:=by rw[hk];rfl
 have kb5:(m.kind==5)=false:=by rw[hk];rfl
 have kb6:(m.kind==6)=false:=by rw[hk];rfl
 have kn1:(m.kind != 1)=!false:=by rw[hk];rfl
 have kn3:(m.kind != 3)=!false:=by rw[hk];rfl
 have kn6:(m.kind != 6)=!false:=by rw[hk];rfl
 have hl:limC m.kind=[0,0,1,6,1,2,0,0]:=by rw[hk];rfl
 have hs:qa9 m=(btw m.states.length 1 8&&decide ((m.rules.length:Int)≤12)&&btw m.places.length 0 0&&btw m.letters.length 1 6&&btw m.levels 1 2&&btw m.age 0 0):=by rw[qa9,hl];rfl
 have fX:=(cJ8 @kb1 @kb2 @kb3 @kb4 @kb5 @kb6 @Bool.true_or (cJ3 @Bool.false_or @qaf @qaB))
 refine qan fn95 (by simp) ?_
 unfold i95
 simp only[argL,qax,mdC]
 refine wR0 0 [1] fX ?_
 refine wR0 100 [1,3] fX ?_
 refine wR0 200 [1,3,4] fX ?_
 refine wR0 300 [1,3,4,5,6] fX ?_
 refine wR0 400 [1,4,5,6,28] fX ?_
 refine wF fX ?_
 refine wR0 600 [1,4,5,6,29] fX ?_
 refine wF fX ?_
 refine wRn 800 [1,4,49] fX ?_
 refine rC fX ?_
 refine⟨_,qav _ _ _,rN fX ?_⟩
 refine rCi fX ?_
 refine⟨_,fun hw=>qav _ _ _,rE fX ?_⟩
 refine wS cJ0 (fun hc800=>?_) (fun hc800=>?_)
 ·skip
  refine wR0 900 [2] fX ?_
  refine wP ?_
  exact qad (by rw[hs];grind)
 ·skip
  refine wR0 1000 [1,4,5,6] fX ?_
  refine wR0 1100 [1,5,6,55] fX ?_
  refine wT fX ?_
  refine wR0 1200 [1,5,6] fX ?_
  refine wRn 1300 [1,62] fX ?_
  refine rC fX ?_
  refine⟨_,qav _ _ _,rE fX ?_⟩
  refine wS cJ0 (fun hc1300=>?_) (fun hc1300=>?_)
  ·skip
   refine wR0 1400 [2] fX ?_
   refine wP ?_
   exact qad (by rw[hs];grind)
  ·skip
   refine wR0 1500 [1,5,6] fX ?_
   refine wR0 1600 [1,5,6,65] fX ?_
   refine wT fX ?_
   refine wR0 1700 [1,5,6] fX ?_
   refine wRn 1800 [1,71] fX ?_
   refine rC fX ?_
   refine⟨_,qav _ _ _,rE fX ?_⟩
   refine wS cJ0 (fun hc1800=>?_) (fun hc1800=>?_)
   ·skip
    refine wR0 1900 [2] fX ?_
    refine wP ?_
    exact qad (by rw[hs];grind)
   ·skip
    refine wR0 2000 [1,74] fX ?_
    refine wF fX ?_
    refine wR0 2200 [2] fX ?_
    refine wP ?_
    exact qad (by rw[hs];have:(m.age==0)=btw m.age 0 0:=(by rw[Bool.eq_iff_iff];simp[btw];omega);grind)
theorem qlf (m:Md)(hk:m.kind=5):TP Tryz.prog 95 [qax m] (.bool (qa9 m)):=by
 have kb1:(m.kind==1)=false:=by rw[hk];rfl
 have kb2:(m.kind==2)=false:=by rw[hk];rfl
 have kb3:(m.kind==3)=false:=by rw[hk];rfl
 have kb4:(m.kind==4)=false:=by rw[hk];rfl
 have kb5:(m.kind==5)=true:=by rw[hk];rfl
 have kb6:(m.kind==6)=false:=by rw[hk];rfl
 have kn1:(m.kind != 1)=!false:=by rw[hk];rfl
 have kn3:(m.kind != 3)=!false:=by rw[hk];rfl
 have kn6:(m.kind != 6)=!false:=by rw[hk];rfl
 have hl:limC m.kind=[1,6,0,0,0,0,0,3]:=by rw[hk];rfl
 have hs:qa9 m=(btw m.states.length 1 8&&decide ((m.rules.length:Int)≤12)&&btw m.places.length 1 6&&btw m.letters.length 0 0&&btw m.levels 0 0&&btw m.age 0 3):=by rw[qa9,hl];rfl
 have fX:=(cJ8 @kb1 @kb2 @kb3 @kb4 @kb5 @kb6 @Bool.true_or (cJ3 @Bool.false_or @qaf @qaB))
 refine qan fn95 (by simp) ?_
 unfold i95
 simp only[argL,qax,mdC]
 refine wR0 0 [1] fX ?_
 refine wR0 100 [1,3] fX ?_
 refine wR0 200 [1,3,4] fX ?_
 refine wR0 300 [1,3,4,5,6] fX ?_
 refine wR0 400 [1,4,5,6,28] fX ?_
 refine wT fX ?_
 refine wR0 500 [1,4,5,6] fX ?_
 refine wR0 600 [1,4,5,6,29] fX ?_
 refine wF fX ?_
 refine wRn 800 [1,4,49] fX ?_
 refine rC fX ?_
 refine⟨_,qav _ _ _,rN fX ?_⟩
 refine rCi fX ?_
 refine⟨_,fun hw=>qav _ _ _,rE fX ?_⟩
 refine wS cJ0 (fun hc800=>?_) (fun hc800=>?_)
 ·skip
  refine wR0 900 [2] fX ?_
  refine wP ?_
  exact qad (by rw[hs];grind)
 ·skip
  refine wR0 1000 [1,4,5,6] fX ?_
  refine wR0 1100 [1,5,6,55] fX ?_
  refine wF fX ?_
  refine wRn 1300 [1,62] fX ?_
  refine rC fX ?_
  refine⟨_,qav _ _ _,rE fX ?_⟩
  refine wS cJ0 (fun hc1300=>?_) (fun hc1300=>?_)
  ·skip
   refine wR0 1400 [2] fX ?_
   refine wP ?_
   exact qad (by rw[hs];grind)
  ·skip
   refine wR0 1500 [1,5,6] fX ?_
   refine wR0 1600 [1,5,6,65] fX ?_
   refine wF fX ?_
   refine wRn 1800 [1,71] fX ?_
   refine rC fX ?_
   refine⟨_,qav _ _ _,rE fX ?_⟩
   refine wS cJ0 (fun hc1800=>?_) (fun hc1800=>?_)
   ·skip
    refine wR0 1900 [2] fX ?_
    refine wP ?_
    exact qad (by rw[hs];grind)
   ·skip
    refine wR0 2000 [1,74] fX ?_
    refine wT fX ?_
    refine wRn 2100 [2] fX ?_
    refine rC fX ?_
    refine⟨_,qav _ _ _,rE fX ?_⟩
    refine wP ?_
    exact qad (by rw[hs];grind)
theorem qlg (m:Md)(hk:m.kind=6):TP Tryz.prog 95 [qax m] (.bool (qa9 m)):=by
 have kb1:(m.kind==1)=false:=by rw[hk];rfl
 have kb2:(m.kind==2)=false:=by rw[hk];rfl
 have kb3:(m.kind==3)=false:=by rw[hk];rfl
 have kb4:(m.kind==4)=false:=by rw[hk];rfl
 have kb5:(m.kind==5)=false:=by rw[hk];rfl
 have kb6:(m.kind==6)=true:=by rw[hk];rfl
 have kn1:(m.kind != 1)=!false:=by rw[hk];rfl
 have kn3:(m.kind != 3)=!false:=by rw[hk];rfl
 have kn6:(m.kind != 6)=!true:=by rw[hk];rfl
 have hl:limC m.kind=[1,6,0,0,0,0,0,0]:=by rw[hk];rfl
 have hs:qa9 m=(btw m.states.length 1 8&&decide ((m.rules.length:Int)≤12)&&btw m.places.length 1 6&&btw m.letters.length 0 0&&btw m.levels 0 0&&btw m.age 0 0):=by rw[qa9,hl];rfl
 have fX:=(cJ8 @kb1 @kb2 @kb3 @kb4 @kb5 @kb6 @Bool.true_or (cJ3 @Bool.false_or @qaf @qaB))
 refine qan fn95 (by simp) ?_
 unfold i95
 simp only[argL,qax,mdC]
 refine wR0 0 [1] fX ?_
 refine wR0 100 [1,3] fX ?_
 refine wR0 200 [1,3,4] fX ?_
 refine wR0 300 [1,3,4,5,6] fX ?_
 refine wR0 400 [1,4,5,6,28] fX ?_
 refine wT fX ?_
 refine wR0 500 [1,4,5,6] fX ?_
 refine wR0 600 [1,4,5,6,29] fX ?_
 refine wF fX ?_
 refine wRn 800 [1,4,49] fX ?_
 refine rC fX ?_
 refine⟨_,qav _ _ _,rN fX ?_⟩
 refine rCi fX ?_
 refine⟨_,fun hw=>qav _ _ _,rE fX ?_⟩
 refine wS cJ0 (fun hc800=>?_) (fun hc800=>?_)
 ·skip
  refine wR0 900 [2] fX ?_
  refine wP ?_
  exact qad (by rw[hs];grind)
 ·skip
  refine wR0 1000 [1,4,5,6] fX ?_
  refine wR0 1100 [1,5,6,55] fX ?_
  refine wF fX ?_
  refine wRn 1300 [1,62] fX ?_
  refine rC fX ?_
  refine⟨_,qav _ _ _,rE fX ?_⟩
  refine wS cJ0 (fun hc1300=>?_) (fun hc1300=>?_)
  ·skip
   refine wR0 1400 [2] fX ?_
   refine wP ?_
   exact qad (by rw[hs];grind)
  ·skip
   refine wR0 1500 [1,5,6] fX ?_
   refine wR0 1600 [1,5,6,65] fX ?_
   refine wF fX ?_
   refine wRn 1800 [1,71] fX ?_
   refine rC fX ?_
   refine⟨_,qav _ _ _,rE fX ?_⟩
   refine wS cJ0 (fun hc1800=>?_) (fun hc1800=>?_)
   ·skip
    refine wR0 1900 [2] fX ?_
    refine wP ?_
    exact qad (by rw[hs];grind)
   ·skip
    refine wR0 2000 [1,74] fX ?_
    refine wF fX ?_
    refine wR0 2200 [2] fX ?_
    refine wP ?_
    exact qad (by rw[hs];have:(m.age==0)=btw m.age 0 0:=(by rw[Bool.eq_iff_iff];simp[btw];omega);grind)
theorem qeV {m:Md}(h:btw m.kind 1 6=true):m.kind=1∨m.kind=2∨m.kind=3∨m.kind=4∨m.kind=5∨m.kind=6:=by
 simp[btw] at h;omega
theorem qmk (m:Md)(h:btw m.kind 1 6=true):TP Tryz.prog 95 [qax m] (.bool (qa9 m)):=by
 rcases qeV h with h | h | h | h | h | h
 ·exact qlb m h
 ·exact qlc m h
 ·exact qld m h
 ·exact qle m h
 ·exact qlf m h
 ·exact qlg m h
@[simp] theorem qfj (l:List Int):sizedB 0 (qab l)=true:=by
 rw[sizedB,List.all_eq_true]
 intro c hc
 obtain⟨x,_,rfl⟩:=List.mem_map.1 hc
 rfl
@[simp] theorem qtV (l:List Int):qab l=[]↔l=[]:=by simp[qab]
theorem qjP (l:List Int)(hl:l.length≤1000000):TP Tryz.prog 99 [.list (qab l)] (.list (qab l)):=by
 cases l with
 | nil=>
  simp only[qaw]
  refine qan fn99 (by simp) ?_
  unfold i99
  simp only[argL]
  refine wR0 0 [0] cJ0 ?_
  refine wR0 100 [2] cJ0 ?_
  refine wP ?_
  exact .nil
 | cons x l=>
  have hsz:=qfj (x::l)
  have hle:(qab (x::l)).length≤1000000000:=by rw[qah];omega
  have hne:qab (x::l)≠[]:=by simp
  have fX:=(cJ8 @qbx @hsz @hle @hne @ne_eq.{1} @not_false_eq_true @true_and @and_true)
  refine qan fn99 (by simp) ?_
  unfold i99
  simp only[argL]
  refine wR0 0 [0] fX ?_
  refine wR0 100 [2] fX ?_
  refine wP ?_
  exact qb0 _ rfl (qah _) (qah _)
theorem qqH (x:Int)(l:List Int)(hl:(x::l).length≤1000000):TP Tryz.prog 71 [.list (qab (x::l))] (.list (qab (x::l))):=by
 have hsz:=qfj (x::l)
 have hle:(qab (x::l)).length≤1000000000:=by rw[qah];omega
 have hne:qab (x::l)≠[]:=by simp
 have hpos:0<(qab (x::l)).length:=by simp[qah]
 have hq:binT .eql .slice (.list (qab (x::l))) .nil=some (.bool false):=rfl
 have hrp:repl 0 [T.int .i64 0]=[]:=rfl
 have fX:=(cJ4 @qbx @hsz @hq @hrp)
 refine qan fn71 (by simp) ?_
 unfold i71
 simp only[argL]
 refine wR0 0 [0] fX ?_
 refine wR0 100 [0,4] fX ?_
 refine wF @true_and ?_
 refine wR0 300 [2] fX ?_
 refine wP ?_
 exact qb0 _ rfl (qah _) (qah _)
theorem FrzL.append {H:Heap}:∀ {xs ys xs' ys':List T},FrzL H xs ys→FrzL H xs' ys'→FrzL H (xs++xs') (ys++ys')
 | [],[],_,_,_,h=>h
 | [],_::_,_,_,h,_=>by have:=h.1;simp at this
 | _::_,[],_,_,h,_=>by have:=h.1;simp at this
 | x::xs,y::ys,_,_,h,h'=>by
  have h0:=h.2 0 (by simp)
  exact FrzL.cons (by simpa using h0) (FrzL.append (xs:=xs) (ys:=ys) ⟨by simpa using h.1,fun i hi=>by have:=h.2 (i+1) (by simpa using hi);simpa using this⟩ h')
theorem FrzL.same {H:Heap}{xs:List T}(h:froL xs=true):FrzL H xs xs:=⟨rfl,fun i hi=>.same (qbb h i)⟩
def rowC (c0 c:List T):Nat→List T
 | 0=>c0
 | j+1=>rowC c0 c j++c
theorem qcS (c0 c:List T)(h0:c0.length=4)(h:c.length=4):∀j,(rowC c0 c j).length=(j+1)*4
 | 0=>by simp[rowC,h0]
 | j+1=>by simp[rowC,qcS c0 c h0 h j,h];omega
theorem qnO {H:Heap}{c0 c d0 d:List T}(h0:FrzL H c0 d0)(h:FrzL H c d):∀j,FrzL H (rowC c0 c j) (rowC d0 d j)
 | 0=>h0
 | j+1=>(qnO h0 h j).append h
theorem qex {c0 c:List T}(h0:Ones c0)(h:Ones c):∀j,Ones (rowC c0 c j)
 | 0=>h0
 | j+1=>fun x hx=>(List.mem_append.1 hx).elim (qex h0 h j x) (h x)
theorem qfq {D:Nat→Bool}{c0 c:List T}(h0:clL D c0=true)(h:clL D c=true):∀j,clL D (rowC c0 c j)=true
 | 0=>h0
 | j+1=>by rw[rowC,qao,qfq h0 h j,h];rfl
def qgF (t0 t:Ty):Nat→List Ty
 | 0=>[t0]
 | j+1=>qgF t0 t j++[t]
theorem qi7 (xs ys:List Ty):qak (xs++ys)=qak xs++qak ys:=by simp[qcX]
theorem qgt (t0 t:Ty):∀j,flat (qak (qgF t0 t j))=rowC (qal t0).cells (qal t).cells j
 | 0=>by simp[qgF,rowC,qak,flat]
 | j+1=>by rw[qgF,qi7,qfm,qgt t0 t j,rowC];simp[qak,flat]
theorem qh9 (t0 t:Ty):∀j,(qgF t0 t j).length=j+1
 | 0=>rfl
 | j+1=>by simp[qgF,qh9 t0 t j]
theorem qi8 (ps:List Ty):qcP (esz 4) (qak ps):=fun x hx=>by
 rw[qcX] at hx
 obtain⟨v,_,rfl⟩:=List.mem_map.1 hx
 exact qbH v
theorem qis (t:Ty):Ones (qal t).cells:=by
 rcases t with⟨k,s,rs,ps⟩
 intro c hc
 simp only[qal,T.cells,List.mem_cons,List.not_mem_nil,or_false] at hc
 rcases hc with rfl | rfl | rfl | rfl<;>rfl
theorem qcn {H:Heap}{id ty n tot:Nat}{c0 c:List T}{t0 t:Ty}(j:Nat)(hb:H id=.live ⟨ty,rowC c0 c j⟩)(hn:n=j+1)(ht:tot=(j+1)*4)(hl0:c0.length=4)(hl:c.length=4)(h0:FrzL H c0 (qal t0).cells)(h:FrzL H c (qal t).cells) :
 Frz H (.sl id tot 4 0 n) (.list (qak (qgF t0 t j))):=by
 subst hn ht
 refine Frz.sl hb (qcS c0 c hl0 hl j) (by simp[esz]) (by rw[qap,qh9]) (qi8 _) (by rw[qgt];exact qex (qis _) (qis _) j) fun k hk=>?_
 rw[qgt,Nat.zero_add]
 exact (qnO h0 h j).2 k (by rw[qcS c0 c hl0 hl];simpa [esz] using hk)
def qfT (m:Md):Ty:=if m.kind=2 then qa3 4 (qaK m.letters.length) else if m.kind=3 then .mk 7 m.letters.length m.ranks [] else .mk 1 0 [] []
def qau (m:Md):Ty:=
 qaZ (if m.kind=4 then [qaK m.states.length,qdr m.letters.length m.levels] else if m.kind=5 then [qaK m.states.length,qa3 5 (.mk 3 0 [] [qaK m.places.length,qaK (m.age+2)])]
  else qgF (qaK m.states.length) (qfT m) m.places.length)
def qdc (m:Md):List T:=if m.kind=2 then [.int .i64 4,.int .i64 0,.list [],.list [.agg [.int .i64 2,.int .i64 m.letters.length,.list [],.list []]]] else if m.kind=3 then [.int .i64 7,.int .i64 m.letters.length,.list (qab m.ranks),.nil] else [.int .i64 1,.int .i64 0,.nil,.nil]
def labC (n:Int):List T:=[.int .i64 2,.int .i64 n,.list [],.list []]
theorem qdJ (m:Md):(qdc m).length=4:=by unfold qdc;(repeat' split)<;>rfl
theorem qdI {H:Heap}(m:Md):FrzL H (qdc m) (qal (qfT m)).cells:=by
 unfold qdc qfT
 split
 ·simp only[qa3,qaK,qal,qak,qaw,T.cells]
  (first | exact fF | exact fZt)
 ·split
  ·simp only[qal,qak,T.cells]
   (first | exact fF | exact fZt)
  ·simp only[qal,qak,qaw,T.cells]
   (first | exact fF | exact fZt)
theorem qeW {H:Heap}(n:Int):FrzL H (labC n) (qal (qaK n)).cells:=FrzL.same rfl
end
end Go.Proofs.YtpplncjaihgimaaGreat
