/- Contracts of functions of the program, for all arguments that they name. -/
import Derived.Test.YtkbjpglehdhjfaaGreatDoorK25
import Derived.Test.YtkbjpglehdhjfaaGreatDoorK34
namespace Go.Proofs.YtkbjpglehdhjfaaGreatDoor
set_option linter.unusedVariables false
section
open Go.RowKit
set_option maxHeartbeats 2000000
theorem qnO:qb1 []=[]:=rfl
set_option maxHeartbeats 4000000 in
theorem qsv (m:Md)(r:Rl)(hm:m.states.length≤1000)(hb:qke m r=false):TP Tryz.prog 165 [qaA m,qbQ r] (.bool false):=by
 have hsl:=qai m.states
 have hi1:=qgX r.to_ (m.states.length:Int) (by omega)
 have hi2:=qgX r.from_ (m.states.length:Int) (by omega)
 unfold qke at hb
 rcases h1:btw r.to_ 0 ((m.states.length:Int) - 1) with _ | _
 ·rw[h1] at hi1
  have fX:=(cJ3 @hsl @Bool.not_false @Bool.true_or)
  refine qag qrV (by simp) ?_
  unfold i165
  simp only[argL,qaA,mdC,qbQ,rlC]
  refine wR0 0 [2,3] fX ?_
  refine wR0 100 [2,3,5] fX ?_
  refine wRn 200 [2,3,5,32] fX ?_
  refine rC fX ?_
  refine⟨_,hi1,rE fX ?_⟩
  refine wT fX ?_
  refine wR0 300 [4] fX ?_
  refine wP ?_
  exact qac rfl
 ·rw[h1] at hi1 hb
  rcases h2:btw r.from_ 0 ((m.states.length:Int) - 1) with _ | _
  ·rw[h2] at hi2 hb
   rcases h3:(m.kind != 6) with _ | _
   ·have h4:(r.from_ != -1)=true:=by
     have h3':(m.kind==6)=true:=by simpa using h3
     rw[h3'] at hb
     simpa using hb
    have fX:=(cJ6 @hsl @Bool.not_false @Bool.not_true @h3 @h4 @Bool.false_or)
    refine qag qrV (by simp) ?_
    unfold i165
    simp only[argL,qaA,mdC,qbQ,rlC]
    refine wR0 0 [2,3] fX ?_
    refine wR0 100 [2,3,5] fX ?_
    refine wRn 200 [2,3,5,32] fX ?_
    refine rC fX ?_
    refine⟨_,hi1,rN fX ?_⟩
    refine rC fX ?_
    refine⟨_,hi2,rE fX ?_⟩
    refine wT fX ?_
    refine wR0 300 [4] fX ?_
    refine wP ?_
    exact qac rfl
   ·have fX:=(cJ5 @hsl @Bool.not_false @Bool.not_true @h3 @Bool.false_or)
    refine qag qrV (by simp) ?_
    unfold i165
    simp only[argL,qaA,mdC,qbQ,rlC]
    refine wR0 0 [2,3] fX ?_
    refine wR0 100 [2,3,5] fX ?_
    refine wRn 200 [2,3,5,32] fX ?_
    refine rC fX ?_
    refine⟨_,hi1,rN fX ?_⟩
    refine rC fX ?_
    refine⟨_,hi2,rE fX ?_⟩
    refine wT fX ?_
    refine wR0 300 [4] fX ?_
    refine wP ?_
    exact qac rfl
  ·rw[h2] at hb
   simp at hb
set_option maxHeartbeats 4000000 in
theorem qnZ (m:Md)(r:Rl)(hm:m.fit)(hr:r.fit)(ha:0≤m.age∧m.age≤1000)(hk:m.kind=1)(h1:btw r.to_ 0 ((m.states.length:Int) - 1)=true)(h2:btw r.from_ 0 ((m.states.length:Int) - 1)=true):TP Tryz.prog 165 [qaA m,qbQ r] (.bool (qnT m r&&qoh r (qlN m.kind r))):=by
 have kb1:(m.kind==1)=true:=by rw[hk];rfl
 have kb2:(m.kind==2)=false:=by rw[hk];rfl
 have kb3:(m.kind==3)=false:=by rw[hk];rfl
 have kb4:(m.kind==4)=false:=by rw[hk];rfl
 have kb5:(m.kind==5)=false:=by rw[hk];rfl
 have kb6:(m.kind==6)=false:=by rw[hk];rfl
 have kn1:(m.kind != 1)=!true:=by rw[hk];rfl
 have kn3:(m.kind != 3)=!false:=by rw[hk];rfl
 have kn6:(m.kind != 6)=!false:=by rw[hk];rfl
 have hsl:=qai m.states
 have hms:=hm.states
 have hi1:=qgX r.to_ (m.states.length:Int) (by omega)
 have hi2:=qgX r.from_ (m.states.length:Int) (by omega)
 rw[h1] at hi1
 rw[h2] at hi2
 have hf:qnT m r=(qdl m r&&qgF m r):=by rw[qnT,hk];rfl
 have hso:=qqH r (qlN 1 r) hr
 rw[show qlN 1 r=⟨r.name,r.from_,r.to_,r.need,r.give,r.move,0,0,0,[],[],[],[],0⟩ from rfl] at hso
 have hon:qlN m.kind r=⟨r.name,r.from_,r.to_,r.need,r.give,r.move,0,0,0,[],[],[],[],0⟩:=by rw[hk];rfl
 have fX:=(cJ8 @hsl @kb1 @kb2 @kb3 @kb4 @kb5 @kb6 (cJ3 @kn6 @Bool.not_true @Bool.not_false))
 refine qag qrV (by simp) ?_
 unfold i165
 simp only[argL,qaA,mdC,qbQ,rlC]
 refine wR0 0 [2,3] fX ?_
 refine wR0 100 [2,3,5] fX ?_
 refine wRn 200 [2,3,5,32] fX ?_
 refine rC fX ?_
 refine⟨_,hi1,rN fX ?_⟩
 refine rC fX ?_
 refine⟨_,hi2,rE fX ?_⟩
 refine wF fX ?_
 refine wR0 400 [2,3,5,6] fX ?_
 refine wR0 500 [2,3,5,6] fX ?_
 refine wR0 600 [2,3,5,6,41] fX ?_
 refine wR0 700 [2,3,5,6,41,80] fX ?_
 refine wT fX ?_
 refine wR0 800 [2,3,6] fX ?_
 refine wRn 900 [3,6,7] fX ?_
 refine rC fX ?_
 refine⟨_,qnG m r hr,rN fX ?_⟩
 refine rCi fX ?_
 refine⟨_,fun hw=>qsj m r hm.places hr,rE fX ?_⟩
 refine wRn 2200 [4] fX ?_
 refine rCi fX ?_
 refine⟨_,fun hw=>TP.ofNil hso (by simp only[qbQ,rlC,qaw,qnO];(first | exact fF | exact fZt)),rE fX ?_⟩
 refine wP ?_
 exact qac (by rw[hf,hon])
theorem qpO (m:Md)(r:Rl)(hm:m.fit)(hr:r.fit)(ha:0≤m.age∧m.age≤1000)(hk:btw m.kind 1 6=true):TP Tryz.prog 165 [qaA m,qbQ r] (.bool (qcq m r)):=by
 unfold qcq
 rcases hb:qke m r with _ | _
 ·have h:=qsv m r hm.states hb
  simpa using h
 ·unfold qke at hb
  simp only[Bool.and_eq_true,Bool.or_eq_true] at hb
  obtain⟨h1,h2⟩:=hb
  rw[Bool.true_and]
  rcases hf:btw r.from_ 0 ((m.states.length:Int) - 1) with _ | _
  ·rw[hf] at h2
   simp at h2
   exact absurd hm.kd (by unfold kindOk;omega)
  ·rcases qeX hk with h | h | h | h | h | h
   ·exact qnZ m r hm hr ha h h1 hf
   ·exact absurd hm.kd (by unfold kindOk;omega)
   ·exact absurd hm.kd (by unfold kindOk;omega)
   ·exact absurd hm.kd (by unfold kindOk;omega)
   ·exact absurd hm.kd (by unfold kindOk;omega)
   ·exact absurd hm.kd (by unfold kindOk;omega)
theorem qoO (m:Md)(r:Rl)(h:TP Tryz.prog 165 [qaA m,qbQ r] (.bool (qcq m r))):TP Tryz.prog 164 [qbQ r,.ptr (mdC m)] (.bool (!qcq m r)):=by
 refine qag fn164 (by simp) ?_
 unfold i164
 simp only[argL,qbQ,rlC,mdC]
 refine wR0 0 [1,2] cJ0 ?_
 refine wRn 100 [3] cJ0 ?_
 refine rC cJ0 ?_
 refine⟨_,h,rE cJ0 ?_⟩
 refine wP ?_
 exact qac rfl
theorem qoJ (m:Md)(hm:m.sane):TP Tryz.prog 166 [qaA m] (.bool (qbF m)):=by
 have ht:=qnA m hm
 have hv:=qkQ (qa9 m) m.start (qgt m hm.fit.places hm.fit.ranks) hm.fit.start
 rw[qjg] at hv
 rcases hty:qa9 m with⟨tk,ts,trs,tps⟩
 rw[hty] at ht hv
 simp only[qaz] at ht hv
 refine qag fn166 (by simp) ?_
 unfold i166
 simp only[argL,qaA,mdC]
 refine wR0 0 [1] cJ0 ?_
 refine wR0 100 [1,5] cJ0 ?_
 refine wS cJ0 (fun hc100=>?_) (fun hc100=>?_)
 ·skip
  refine wR0 200 [2] cJ0 ?_
  refine wP ?_
  exact qac (by simp at hc100;rw[qbF,if_pos hc100,qal])
 ·skip
  refine wRn 300 [2] cJ0 ?_
  refine rC cJ0 ?_
  refine⟨_,ht,rN cJ0 ?_⟩
  refine rC cJ0 ?_
  refine⟨_,hv,rE cJ0 ?_⟩
  refine wP ?_
  exact qac (by simp at hc100;rw[qbF,if_neg hc100,hty])
set_option maxHeartbeats 4000000 in
theorem qpH (m:Md)(hm:m.fit):TP Tryz.prog 113 [qaA m] (.int .i64 (qbm m)):=by
 have hst:=qsF m
 have hrt:=qqj m hm
 have hmc:∀D,clL D (mdC m)=true:=fun D=>by simp
 rcases hk:btw m.kind 1 6 with _ | _
 ·have hb:=qbM m.kind 1 6
  rw[hk] at hb
  have fX:=@Bool.not_false
  refine qag qrU (by simp) ?_
  unfold i113
  simp only[argL,qaA,mdC]
  refine wR0 0 [1] fX ?_
  refine wRn 100 [1,3] fX ?_
  refine rC fX ?_
  refine⟨_,hb,rE fX ?_⟩
  refine wT fX ?_
  refine wR0 200 [2] fX ?_
  refine wP ?_
  exact qaC (by rw[qbm,if_pos hk])
 ·have hb:=qbM m.kind 1 6
  rw[hk] at hb
  rcases hs:qbg m with _ | _
  ·rw[hs] at hst
   have fX:=(cJ2 @Bool.not_false @Bool.not_true)
   refine qag qrU (by simp) ?_
   unfold i113
   simp only[argL,qaA,mdC]
   refine wR0 0 [1] fX ?_
   refine wRn 100 [1,3] fX ?_
   refine rC fX ?_
   refine⟨_,hb,rE fX ?_⟩
   refine wF fX ?_
   refine wRn 300 [1,8] fX ?_
   refine rC fX ?_
   refine⟨_,hst,rE fX ?_⟩
   refine wT fX ?_
   refine wR0 400 [2] fX ?_
   refine wP ?_
   exact qaC (by rw[qbm,if_neg (by simp[hk]),if_pos hs])
  ·rw[hs] at hst
   rcases hr:qdq m with _ | _
   ·rw[hr] at hrt
    have fX:=(cJ2 @Bool.not_false @Bool.not_true)
    refine qag qrU (by simp) ?_
    unfold i113
    simp only[argL,qaA,mdC]
    refine wR0 0 [1] fX ?_
    refine wRn 100 [1,3] fX ?_
    refine rC fX ?_
    refine⟨_,hb,rE fX ?_⟩
    refine wF fX ?_
    refine wRn 300 [1,8] fX ?_
    refine rC fX ?_
    refine⟨_,hst,rE fX ?_⟩
    refine wF fX ?_
    refine wRn 500 [1,12] fX ?_
    refine rC fX ?_
    refine⟨_,hrt,rE fX ?_⟩
    refine wT fX ?_
    refine wR0 600 [2] fX ?_
    refine wP ?_
    exact qaC (by rw[qbm,if_neg (by simp[hk]),if_neg (by simp[hs]),if_pos hr])
   ·rw[hr] at hrt
    have hsn:=qgm hm hk hs hr
    have hcf:=qtQ 164 [.ptr (mdC m)] (by simp[clL,T.cl]) (fun r=>!qcq m r) m.rules (by have:=hm.rules;omega) (fun r hr=>qoO m r (qpO m r hm (hm.rule r hr) hsn.age hk))
    have hch:qbm m=if qhR m=false then 13 else if (m.rules.any fun r=>!qcq m r)=true then 16 else if qbF m=false then 17 else 0:=by rw[qbm,if_neg (by simp[hk]),if_neg (by simp[hs]),if_neg (by simp[hr])]
    simp only[mdC] at hcf
    have fX:=(cJ2 @Bool.not_false @Bool.not_true)
    refine qag qrU (by simp) ?_
    unfold i113
    simp only[argL,qaA,mdC]
    refine wR0 0 [1] fX ?_
    refine wRn 100 [1,3] fX ?_
    refine rC fX ?_
    refine⟨_,hb,rE fX ?_⟩
    refine wF fX ?_
    refine wRn 300 [1,8] fX ?_
    refine rC fX ?_
    refine⟨_,hst,rE fX ?_⟩
    refine wF fX ?_
    refine wRn 500 [1,12] fX ?_
    refine rC fX ?_
    refine⟨_,hrt,rE fX ?_⟩
    refine wF fX ?_
    refine wRn 700 [1,16] fX ?_
    refine rC fX ?_
    refine⟨_,qsm m hm (qk8 hs),rE fX ?_⟩
    refine wS cJ0 (fun hc700=>?_) (fun hc700=>?_)
    ·skip
     refine wR0 800 [2] fX ?_
     refine wP ?_
     exact qaC (by simp at hc700;rw[hch,if_pos hc700])
    ·skip
     refine wRn 900 [1,20] fX ?_
     refine rL [(0,.live ⟨_,mdC m⟩)] fX ?_
     refine⟨_,_,hcf,fZy,rfl,rE fX ?_⟩
     refine wS cJ0 (fun hc900=>?_) (fun hc900=>?_)
     ·skip
      refine wR0 1000 [2] fX ?_
      refine wP ?_
      exact qaC (by simp only[Bool.not_eq_false'] at hc700;rw[hch,if_neg (by simp[hc700]),if_pos hc900])
     ·skip
      refine wRn 1100 [25] fX ?_
      refine rC fX ?_
      refine⟨_,qoJ m hsn,rE fX ?_⟩
      refine wS cJ0 (fun hc1100=>?_) (fun hc1100=>?_)
      ·skip
       refine wR0 1200 [2] fX ?_
       refine wP ?_
       exact qaC (by simp only[Bool.not_eq_false'] at hc700;simp only[Bool.not_eq_true'] at hc1100;rw[hch,if_neg (by simp[hc700]),if_neg (by simp only[hc900];simp),if_pos hc1100])
      ·skip
       refine wR0 1300 [2] fX ?_
       refine wP ?_
       exact qaC (by simp only[Bool.not_eq_false'] at hc700 hc1100;rw[hch,if_neg (by simp[hc700]),if_neg (by simp only[hc900];simp),if_neg (by simp[hc1100])])
theorem qpP (m:Md)(c:V)(hm:m.fit)(hc:c.fit):TP Tryz.prog 63 [qaA m,encV c] (.bool (qdr m c)):=by
 rcases c with⟨n,ks⟩
 refine qag fn63 (by simp) ?_
 unfold i63
 simp only[argL,encV,qaA,mdC]
 refine wR0 0 [2,3] cJ0 ?_
 refine wRn 100 [4] cJ0 ?_
 refine rC cJ0 ?_
 refine⟨_,qpH m hm,rN cJ0 ?_⟩
 refine rCi cJ0 ?_
 refine⟨_,fun hw=>qnA m (qf9 hm (by simpa using hw)),rN cJ0 ?_⟩
 refine rCi cJ0 ?_
 refine⟨_,fun hw=>qkQ (qa9 m) (.mk n ks) (typedM_fit' hm) hc,rE cJ0 ?_⟩
 refine wP ?_
 exact qac rfl
theorem qon (s:Int)(v:List Int)(hl:v.length≤1000000)(Q:IExit→(Nat→T)→Heap→Prop)(hQ:∀j:Int,Q (.exit 0) (ofL [(3,qef 504 v),(8,.list (qaj (v.map natV))),(9,.int .i64 (qaj (v.map natV)).length),(10,.int .i64 j),(11,.bool false)]) (hpL ([(0,.live ⟨35,[.int .i64 0,.list (encV (natV s)::qaj (v.map natV))]⟩)]++qee 504 3 v))):∀(k i:Nat) (done:List Int),i+k=v.length→done=v.take i→
 WL Tryz.prog 21 qkD (ofL [(3,qef 504 done),(8,.list (qaj (v.map natV))),(9,.int .i64 (qaj (v.map natV)).length),(10,.int .i64 i)]) (hpL ([(0,.live ⟨35,[.int .i64 0,.list (encV (natV s)::qaj (v.map natV))]⟩)]++qee 504 3 done)) Q:=by
 have hal:=qeS v
 intro k
 induction k with
 | zero=>
  intro i done hk hdn
  have hd:decide ((i:Int)<((qaj (v.map natV)).length:Int))=false:=decide_eq_false (by omega)
  have e:done=v:=by rw[hdn];exact List.take_of_length_le (by omega)
  subst e
  have fX:=@hd
  refine qaa qkD.eq_1 ?_
  refine wR0 300 [3,8,9,10,11] fX ?_
  refine wF @hd ?_
  refine wX ?_
  refine wN ?_
  exact hQ _
 | succ k ih=>
  intro i done hk hdn
  have hil:i<v.length:=by omega
  have hlt:(i:Int)<((qaj (v.map natV)).length:Int):=(by omega);have hd:decide ((i:Int)<((qaj (v.map natV)).length:Int))=true:=decide_eq_true hlt;have hw:IntKind.wrap .i64 ((i:Int)+1)=((i+1:Nat):Int):=(by rw[wrap64 (by omega) (by omega)];rfl);have hg:=qhp v i hil
  have hQ':=ih (i+1) (done++[v.getD i 0]) (by omega) (by rw[hdn];exact (qia _ _ (by omega)).symm)
  have hdl:done.length=i:=by rw[hdn,List.length_take];omega
  cases done with
  | nil=>
   simp only[qef,qee,List.nil_append,List.append_nil,List.cons_append] at hQ' ⊢
   have fX:=(cJ4 @hd @hw @qaF @hg)
   refine qaa qkD.eq_1 ?_
   refine W_gc ?_
   refine wR0 300 [3,8,9,10,11] fX ?_
   refine wT fX ?_
   refine wR0 400 [3,5,8,9,10] fX ?_
   refine wR0 500 [3,8,9,10] fX ?_
   refine wR0 600 [3,8,9,10] fX ?_
   refine wN ?_
   refine qay [0,504] (by simp[inL]) (by simp[inL,T.cl,qak]) (by simp[qaf,inL,Slot.cl,T.cl,clL,qak,qb2]) ?_
   simpa [qaf,inL,qad] using hQ'
  | cons z l=>
   have hlb:l.length+1≤1000000:=by simp at hdl;omega
   have he:(qad (z::l)).length=l.length+1:=by simp[qad]
   simp only[qef,qee,List.nil_append,List.cons_append] at hQ' ⊢
   have fX:=(cJ5 @hd @hw @qaF @he @hg)
   refine qaa qkD.eq_1 ?_
   refine W_gc ?_
   refine wR0 300 [3,8,9,10,11] fX ?_
   refine wT fX ?_
   refine wR0 400 [3,5,8,9,10] fX ?_
   refine wR0 500 [3,8,9,10] fX ?_
   refine wR0 600 [3,8,9,10] fX ?_
   refine wN ?_
   refine qay [0,504] (by simp[inL]) (by simp[inL,T.cl,qak]) (by simp[qaf,inL,Slot.cl,T.cl,clL,qab,qah,qak,qb2]) ?_
   simpa [qaf,inL,qad] using hQ'
theorem ql2 (s:Int)(v:List Int)(hl:v.length≤1000000):TP Tryz.prog 64 [encV (cfV s v)] (.list (qad v)):=by
 rw[qbv]
 have hal:=qeS v
 have hsz:=qls (v.map natV)
 refine qag fn64 (by simp) ?_
 unfold i64
 simp only[argL,encV]
 refine wR0 0 [1] cJ0 ?_
 refine wR0 100 [1,3] cJ0 ?_
 refine wR0 200 [3,8,9,10] cJ0 ?_
 simp only[thn]
 have hone:Int.toNat 1=1:=rfl
 simp only[hone,Nat.add_sub_cancel,List.take_length,List.drop_succ_cons,List.drop_zero]
 refine wL ?_
 refine qon s v hl _ ?_ v.length 0 [] (by omega) (by simp)
 ·intro j
  refine wN ?_
  refine wN ?_
  rcases v with _ | ⟨x,l⟩
  ·skip
   refine wN ?_
   simp only[qef,qee]
   refine wR0 700 [2] cJ0 ?_
   refine wP ?_
   first | exact .nil | exact qbn (x::l) rfl rfl rfl
  ·skip
   refine wN ?_
   simp only[qef,qee]
   refine wR0 700 [2] cJ0 ?_
   refine wP ?_
   first | exact .nil | exact qbn (x::l) rfl rfl rfl
end
section
open Go.RowKit
set_option maxHeartbeats 2000000
attribute [local simp] qau qav qaD qaJ qa1 qbo qaB qah qa5 qaI qak qb2 qaO
set_option maxHeartbeats 8000000 in
theorem qoE (p:Pg)(hp:p.fit)(hok:okP p=true)(hm:(mngs p).length≤12)(v:Int)(c:List Int)(hc:c.length≤100000)(hvm:qdr (mdl p) (cfV v c)=true):TP Tryz.prog 28 [qar p,encV (cfV v c)] (.tup [.int .i64 v,.list (qad c),.int .i64 0]):=by
 have hmod:=qcH p hp
 rw[qd8,if_pos hok,if_pos hm] at hmod
 have hfit:=qjN (qbq hok) hm
 have hval:=qpP (mdl p) (cfV v c) hfit (qct _ _ hc)
 rw[hvm] at hval
 have hnum:=ql2 v c (by omega)
 have hz:((0:Int) != 0)=false:=rfl
 have z0:(0:Int).toNat=0:=rfl
 have hnv:encV (natV v)=.agg [.int .i64 v,.list []]:=rfl
 have hlp:(0:Int)<(((T.agg [.int .i64 v,.list []]::qaj (c.map natV)).length:Nat):Int):=by simp
 have hgt:(T.agg [.int .i64 v,.list []]::qaj (c.map natV)).getD 0 .undef=.agg [.int .i64 v,.list []]:=rfl
 generalize mdl p=m at*
 rw[qbv,hnv] at hval hnum ⊢
 simp only[qar,pgC,qaA,mdC] at hmod hval ⊢
 generalize hK:(T.agg [.int .i64 v,.list []]::qaj (c.map natV))=KL at*
 have hKc:∀D,clL D KL=true:=fun D=>by rw[←hK];simp[clL,T.cl,qak]
 have fX:=(cJ4 @hz @z0 @hgt @Bool.not_true)
 refine qag fn28 (by simp) ?_
 unfold i28
 simp only[argL]
 refine wR0 0 [2,3] fX ?_
 refine wRn 100 [3,7,8] fX ?_
 refine rC fX ?_
 refine⟨_,hmod,rE fX ?_⟩
 refine wR0 200 [3,7,8,15] fX ?_
 refine wF @hz ?_
 refine wRn 400 [3,20] fX ?_
 refine rC fX ?_
 refine⟨_,hval,rE fX ?_⟩
 refine wF fX ?_
 refine wRn 600 [4,5,6] fX ?_
 refine rC fX ?_
 refine⟨_,hnum,rE fX ?_⟩
 refine wP ?_
 exact qbU (.same rfl) (.same (qah _ _)) (.same rfl)
end
section
open Go.RowKit
set_option maxHeartbeats 2000000
attribute [local simp] qau qav qaD qaJ qa1 qah qaT qaO qak qax qc9
abbrev bkE (n:Nat)(v i:Int)(done:List Int):List (Nat×T):=[(3,dcR),(4,.ref 402 2 0),(5,.ref 505 10 0),(7,.int .i64 v),(8,qef 1204 done),(40,.int .i64 (n:Int)),(41,.int .i64 i)]
abbrev bkH (p:Pg)(m:Md)(d:Dc)(done:List Int):List (Nat×Slot):=[(99999,dcB d),(402,.live ⟨28,pgC p⟩),(505,.live ⟨37,mdC m⟩)]++qee 1204 3 done
set_option maxHeartbeats 4000000 in
theorem qsT (p:Pg)(m:Md)(v:Int)(n:Nat)(hn:n≤100000)(R:List Int×Dc)(Q:IExit→(Nat→T)→Heap→Prop)
 (hQ:∀j:Int,Q (.exit 0) (ofL (bkE n v j R.1++[(42,.bool false)])) (hpL (bkH p m R.2 R.1))) :
 ∀(f i:Nat) (done:List Int) (d:Dc),d.ok→i+f=n→done.length=i→(done++(qb3 f 8 d).1,(qb3 f 8 d).2)=R→
 WL Tryz.prog 132 qpp (ofL (bkE n v i done)) (hpL (bkH p m d done)) Q:=by
 simp only[bkE,bkH,List.cons_append,List.nil_append] at hQ ⊢
 intro f
 induction f with
 | zero=>
  intro i done d hok hi hdn hR
  have hd:decide ((i:Int)<(n:Int))=false:=decide_eq_false (by omega)
  simp only[qb3,List.append_nil] at hR
  subst hR
  have fX:=@hd
  refine qaa qpp.eq_1 ?_
  refine wR0 1100 [3,4,5,7,8,40,41,42] fX ?_
  refine wF @hd ?_
  refine wX ?_
  refine wN ?_
  exact hQ _
 | succ f ih=>
  intro i done d hok hi hdn hR
  have hd:decide ((i:Int)<(n:Int))=true:=decide_eq_true (by omega)
  have hw:IntKind.wrap .i64 ((i:Int)+1)=((i+1:Nat):Int):=by rw[wrap64 (by omega) (by omega)];rfl
  have hpk:=qbN d hok 9 (by omega)
  have h89:(8:Int)+1=9:=rfl
  have hQ':=ih (i+1) (done++[(qao d 9).1]) (qao d 9).2 (qaL hok _) (by omega) (by simp[hdn]) (by rw[←hR];simp[qb3])
  simp only[pgC,mdC] at hQ' ⊢
  cases done with
  | nil=>
   simp only[qef,qee,List.nil_append,List.length_nil] at hQ' ⊢
   have fX:=(cJ3 @hd @hw @qaF)
   refine qaa qpp.eq_1 ?_
   refine W_gc ?_
   refine wR0 1100 [3,4,5,7,8,40,41,42] fX ?_
   refine wT @hd ?_
   refine wRn 1200 [3,4,5,7,8,40,41] fX ?_
   refine rU [(99999,dcB d)] [(99999,dcB (qao d 9).2)] fX ?_
   refine⟨_,hpk.fulD,rE fX ?_⟩
   refine wR0 1300 [3,4,5,7,8,40,41] fX ?_
   refine wN ?_
   refine qay [99999,402,505,1204] (by simp[inL]) (by simp[inL,T.cl]) (by simp[qaf,inL,Slot.cl,T.cl,clL]) ?_
   simpa [qaf,inL,qad] using hQ'
  | cons z zs=>
   have hlb:zs.length+1≤100000:=by simp at hdn;omega
   have he:(qad (z::zs)).length=zs.length+1:=by simp[qad]
   simp only[qef,qee,List.cons_append] at hQ' ⊢
   have fX:=(cJ4 @hd @hw @qaF @he)
   refine qaa qpp.eq_1 ?_
   refine W_gc ?_
   refine wR0 1100 [3,4,5,7,8,40,41,42] fX ?_
   refine wT @hd ?_
   refine wRn 1200 [3,4,5,7,8,40,41] fX ?_
   refine rU [(99999,dcB d)] [(99999,dcB (qao d 9).2)] fX ?_
   refine⟨_,hpk.fulD,rE fX ?_⟩
   refine wR0 1300 [3,4,5,7,8,40,41] fX ?_
   refine wN ?_
   refine qay [99999,402,505,1204] (by simp[inL]) (by simp[inL,T.cl]) (by simp[qaf,inL,Slot.cl,T.cl,clL,qab]) ?_
   simpa [qaf,inL,qad] using hQ'
end
section
open Go.RowKit
set_option maxHeartbeats 2000000
attribute [local simp] qah
set_option maxHeartbeats 4000000 in
theorem qsU (B U:List Int)(n:Nat)(hn:n≤100000)(hB:B.length=n)(hU:U.length=n)(hu:∀j,0≤U.getD j 0∧U.getD j 0≤1)(HL:List (Nat×Slot))(S:Int)(Q:IExit→(Nat→T)→Heap→Prop)
 (hQ:∀j:Int,Q (.exit 2) (ofL [(8,.list (qad B)),(12,.list (qad B)),(15,.list (qad U)),(17,.int .i64 S),(104,.int .i64 (n:Int)),(105,.int .i64 j),(106,.bool false)]) (hpL HL)) :
 ∀(f i:Nat) (acc:Int),i+f=n→0≤acc∧acc≤i→acc+(U.drop i).sum=S→
 WL Tryz.prog 132 qr4 (ofL [(8,.list (qad B)),(12,.list (qad B)),(15,.list (qad U)),(17,.int .i64 acc),(104,.int .i64 (n:Int)),(105,.int .i64 (i:Int))]) (hpL HL) Q:=by
 intro f
 induction f with
 | zero=>
  intro i acc hi ha hS
  have hd:decide ((i:Int)<(n:Int))=false:=decide_eq_false (by omega)
  rw[List.drop_of_length_le (by omega),List.sum_nil,Int.add_zero] at hS
  subst hS
  have fX:=@hd
  refine qaa qr4.eq_1 ?_
  refine wR0 2100 [8,12,15,17,104,105,106] fX ?_
  refine wF @hd ?_
  refine wX ?_
  refine wN ?_
  exact hQ _
 | succ f ih=>
  intro i acc hi ha hS
  have hd:decide ((i:Int)<(n:Int))=true:=decide_eq_true (by omega)
  have hw:IntKind.wrap .i64 ((i:Int)+1)=((i+1:Nat):Int):=by rw[wrap64 (by omega) (by omega)];rfl
  have hbi:=hu i
  have hw2:IntKind.wrap .i64 (acc+U.getD i 0)=acc+U.getD i 0:=wrap64 (by omega) (by omega)
  have hg1:=qcu B i (by omega)
  have hg2:=qcu U i (by omega)
  have hl1:(i:Int)<((qad B).length:Int):=by rw[qae];omega
  have hl2:(i:Int)<((qad U).length:Int):=by rw[qae];omega
  have hdr:U.drop i=U.getD i 0::U.drop (i+1):=by
   rw[List.drop_eq_getElem_cons (by omega),List.getD_eq_getElem?_getD,List.getElem?_eq_getElem (by omega),Option.getD_some]
  have hQ':=ih (i+1) (acc+U.getD i 0) (by omega) (by omega) (by rw[←hS,hdr,List.sum_cons];omega)
  have hne:(B.getD i 0 != B.getD i 0)=false:=by simp
  have fX:=(cJ6 @hd @hw @hw2 @hg1 @hg2 @hne)
  refine qaa qr4.eq_1 ?_
  refine wR0 2100 [8,12,15,17,104,105,106] fX ?_
  refine wT @hd ?_
  refine wR0 2200 [8,12,15,17,18,104,105] fX ?_
  refine wR0 2300 [8,12,15,17,18,104,105,116] fX ?_
  refine wF @hne ?_
  refine wR0 2500 [8,12,15,17,104,105] fX ?_
  refine wR0 2600 [8,12,15,17,104,105] fX ?_
  refine wN ?_
  exact hQ'
end
section
open Go.RowKit
set_option maxHeartbeats 2000000
attribute [local simp] qau qav qaD qaJ qa1 qah qaT qaO qak qax qc9 qaI
set_option maxHeartbeats 8000000 in
theorem qq7 (s:List Int)(hs:∀j,0≤s.getD j 0∧s.getD j 0≤255)(hsl:s.length≤9223372036854775807)(hm:¬(mngs (prD (newD s)).1).length≤12):TP Tryz.prog 6 [.list (qbT s)] (.bool true):=by
 have hnew:=qey s hsl
 have hd:=qeu hs
 generalize newD s=d at*
 have hpr:=qeA d hd
 have hok:=(qd9 hd).1
 have hfit:=qez hd
 generalize (prD d).1=p at*
 generalize (prD d).2=d1 at*
 have hmod:=qcH p hfit
 rw[qd8,if_pos hok,if_neg hm] at hmod
 have hz:((1:Int) != 0)=true:=rfl
 have hz1:((1:Int)==1)=true:=rfl
 have hsn:=qcQ
 simp only[qar,pgC,qaA,mdC] at hpr hmod
 have fX:=(cJ3 @hz @hz1 @Bool.not_true)
 refine qag fn6 (by simp) ?_
 unfold i6
 simp only[argL]
 refine wR0 0 [0] fX ?_
 refine wRn 100 [0,20] fX ?_
 refine rC fX ?_
 refine⟨_,hsn,rE fX ?_⟩
 refine wF fX ?_
 refine wRn 300 [3] fX ?_
 refine rU [] [(99999,dcB d)] fX ?_
 refine⟨_,hnew,rE fX ?_⟩
 refine wRn 400 [3,4] fX ?_
 refine rU [(99999,dcB d)] [(99999,dcB d1)] fX ?_
 refine⟨_,hpr.fulD,rE fX ?_⟩
 refine wRn 500 [3,4,5,6] fX ?_
 refine rC fX ?_
 refine⟨_,hmod,rE fX ?_⟩
 refine wR0 600 [3,4,5,6,31] fX ?_
 refine wT @hz ?_
 refine wR0 700 [2] fX ?_
 refine wP ?_
 exact .same rfl
end
section
open Go.RowKit
set_option maxHeartbeats 2000000
attribute [local simp] qau qav qaD qaJ qa1 qah qaT qaO qak qax qc9 qaI
theorem qtb:∀n:Nat,0<n→(qaN n 0).sum=1
 | n+1,_=>by
  rw[qiX,List.sum_cons]
  have:∀k:Nat,(List.replicate k (0:Int)).sum=0:=fun k=>by
   induction k with
   | zero=>rfl
   | succ k ih=>rw[List.replicate_succ,List.sum_cons,ih];rfl
  rw[this];rfl
set_option maxHeartbeats 8000000 in
theorem qsS (s:List Int)(hs:∀j,0≤s.getD j 0∧s.getD j 0≤255)(hsl:s.length≤9223372036854775807)(hm:(mngs (prD (newD s)).1).length≤12):TP Tryz.prog 6 [.list (qbT s)] (.bool true):=by
 have hnew:=qey s hsl
 have hd:=qeu hs
 generalize newD s=d at*
 have hpr:=qeA d hd
 have hok:=(qd9 hd).1
 have hd1:=(qd9 hd).2.1
 have hfit:=qez hd
 generalize (prD d).1=p at*
 generalize (prD d).2=d1 at*
 have hn0:=qgi hok
 have hmod:=qcH p hfit
 rw[qd8,if_pos hok,if_pos hm] at hmod
 have hvp:1≤p.vals:=(qbq hok).vals.1
 have hpk:=qbN d1 hd1 p.vals hvp
 have hpv:=qa6 hd1 hvp
 have hd2:=qaL hd1 p.vals
 generalize (qao d1 p.vals).1=v at*
 generalize (qao d1 p.vals).2=d2 at*
 have hpp:=qcF p hfit hok
 have hpn:(qbe (plP p)).length=(plcs p).length:=by rw[qa0,qbV hok]
 have hR:qb3 (plcs p).length 8 d2=((qb3 (plcs p).length 8 d2).1,(qb3 (plcs p).length 8 d2).2):=rfl
 have hst:=qjX (p:=p) rfl (most:=8) (by omega) hpv hd2
 have hBl:=qes (plcs p).length 8 d2
 have hL:=fun Q hq=>qsT p (mdl p) v (plcs p).length (by omega) _ Q hq (plcs p).length 0 [] d2 hd2 (by omega) rfl hR
 generalize (qb3 (plcs p).length 8 d2).1=B at*
 generalize (qb3 (plcs p).length 8 d2).2=d3 at*
 clear hR
 have hus:=qie hok (v:=0) (by omega) 0
 have hcf:=qc2 p hfit hok hm v B (by omega)
 rw[qgL,if_pos (hst.rgt hok (by omega))] at hcf
 have hb1:=qoE p hfit hok hm v B (by omega) (hst.valid hok hm (by omega))
 have hb2:=qoE p hfit hok hm 0 (qaN (plcs p).length 0) (by rw[qaV];omega) (hus.valid hok hm (by omega))
 have hva:=qc1 (mdl p) (cfV v B) (qjN (qbq hok) hm) (qct _ _ (by omega))
 rw[hst.valid hok hm (by omega)] at hva
 have hS:(0:Int)+((qaN (plcs p).length 0).drop 0).sum=1:=by rw[List.drop_zero,qtb _ hn0.1];rfl
 have hUl:=qaV (plcs p).length 0
 have hUr:=hus.ent
 have hU0:(qaN (plcs p).length 0).getD 0 0=1:=by rw[qbO _ _ _ hn0.1,if_pos rfl]
 have hL2:=fun HL Q hq=>qsU B (qaN (plcs p).length 0) (plcs p).length (by omega) hBl hUl hUr HL 1 Q hq (plcs p).length 0 0 (by omega) (by omega) hS
 have hsn:(mdl p).start.n=0:=rfl
 have hsk:(mdl p).start.kids=natV 0::(qaN (plcs p).length 0).map natV:=rfl
 clear hS hUr hus hst hd hd1 hd2 hm hok
 generalize qaN (plcs p).length 0=U at*
 generalize (plcs p).length=n at*
 generalize mdl p=m at*
 have hk0:qaj (natV 0::U.map natV)=encV (natV 0)::qaj (U.map natV):=rfl
 have hg0:=qcu U 0 (by omega)
 rw[hU0] at hg0
 have hg0a:(qad U).getD 0 .undef=.int .i64 1:=hg0
 have hg0b:(qad U)[0]?.getD .undef=.int .i64 1:=by rw[←List.getD_eq_getElem?_getD];exact hg0
 have z0:(0:Int).toNat=0:=rfl
 have hz:((0:Int) != 0)=false:=rfl
 have hzv:(v != v)=false:=by simp
 have hzn:((n:Int) != (n:Int))=false:=by simp
 have hBe:(qad B).length=n:=by rw[qae];exact hBl
 have hUe:(qad U).length=n:=by rw[qae];exact hUl
 have hlU:(0:Int)<(n:Int):=by omega
 have h11:((1:Int)==1)=true:=rfl
 have hsa:=qcQ
 obtain⟨z,zs,rfl⟩:∃z zs,B=z::zs:=by
  cases B with
  | nil=>simp at hBl;omega
  | cons z zs=>exact⟨z,zs,rfl⟩
 have hBl2:zs.length+1=n:=by simpa using hBl
 simp only[qar,pgC,qaA,mdC,bkE,bkH,qef,qee,hsn,hsk,hk0,qa2,qbv,List.cons_append,List.nil_append,List.append_nil,Int.natCast_zero] at hpr hmod hpp hL hL2 hcf hb1 hb2 hva ⊢
 have fX:=(cJ8 @hz @hpn @Bool.not_true @hBe @hUe @hzv @hzn (cJ4 @h11 @z0 @hg0a @hg0b))
 refine qag fn6 (by simp) ?_
 unfold i6
 simp only[argL]
 refine wR0 0 [0] fX ?_
 refine wRn 100 [0,20] fX ?_
 refine rC fX ?_
 refine⟨_,hsa,rE fX ?_⟩
 refine wF fX ?_
 refine wRn 300 [3] fX ?_
 refine rU [] [(99999,dcB d)] fX ?_
 refine⟨_,hnew,rE fX ?_⟩
 refine wRn 400 [3,4] fX ?_
 refine rU [(99999,dcB d)] [(99999,dcB d1)] fX ?_
 refine⟨_,hpr.fulD,rE fX ?_⟩
 refine wRn 500 [3,4,5,6] fX ?_
 refine rC fX ?_
 refine⟨_,hmod,rE fX ?_⟩
 refine wR0 600 [3,4,5,6,31] fX ?_
 refine wF @hz ?_
 refine wRn 800 [3,4,5,7] fX ?_
 refine rU [(99999,dcB d1)] [(99999,dcB d2)] fX ?_
 refine⟨_,hpk.fulD,rE fX ?_⟩
 refine wR0 900 [3,4,5,7,8] fX ?_
 refine wRn 1000 [3,4,5,7,8,40,41] fX ?_
 refine rC fX ?_
 refine⟨_,hpp,rE fX ?_⟩
 refine wL ?_
 refine hL _ ?_
 ·intro j
  refine wN ?_
  refine qbZ (l':=[(3,dcR),(4,.ref 402 2 0),(5,.ref 505 10 0),(7,.int .i64 v),(8,.list (qad (z::zs))),(40,.int .i64 (n:Int)),(41,.int .i64 j),(42,.bool false)]) (hl':=[(99999,dcB d3),(402,.live ⟨28,_⟩),(505,.live ⟨37,_⟩),(1204,.dead)]) [99999,402,505] (.cons (.same rfl) (.cons (.same rfl) (.cons (.same rfl) (.cons (.same rfl) (.cons (qcR (z::zs) rfl rfl rfl rfl) (.cons (.same rfl) (.cons (.same rfl) (.cons (.same rfl) .nil)))))))) (.keep rfl (qe8 d3) (.keep rfl (.liveS (qaD _ p) (qa3 p)) (.keep rfl (.liveS (by simp[clL,T.cl]) (qcx rfl)) (.dead rfl (fun h=>by cases h) .nil)))) ?_
  refine wRn 1400 [4,5,7,8,9,10] fX ?_
  refine rC fX ?_
  refine⟨_,hcf,rE fX ?_⟩
  refine wRn 1500 [4,5,7,8,9,10,11,12,13] fX ?_
  refine rC fX ?_
  refine⟨_,hb1,rE fX ?_⟩
  refine wRn 1600 [5,7,8,9,10,11,12,13,14,15,16] fX ?_
  refine rC fX ?_
  refine⟨_,hb2,rE fX ?_⟩
  refine wRn 1700 [8,12,15,102] fX ?_
  refine rC fX ?_
  refine⟨_,hva,rE fX ?_⟩
  refine wF fX ?_
  refine wR0 1900 [8,12,15,17] fX ?_
  refine wR0 2000 [8,12,15,17,104,105] fX ?_
  refine wL ?_
  refine hL2 _ _ ?_
  ·intro j
   refine wN ?_
   refine wR0 2700 [2] fX ?_
   refine wP ?_
   exact .same rfl
end
section
theorem qsV:∀s:List Int,(∀j,0≤s.getD j 0∧s.getD j 0≤255)→s.length≤9223372036854775807→TP Tryz.prog 6 [.list (qbT s)] (.bool true):=fun s hs hsl=>
 if hm:(mngs (prD (newD s)).1).length≤12 then qsS s hs hsl hm else qq7 s hs hsl hm
end
end Go.Proofs.YtkbjpglehdhjfaaGreatDoor
