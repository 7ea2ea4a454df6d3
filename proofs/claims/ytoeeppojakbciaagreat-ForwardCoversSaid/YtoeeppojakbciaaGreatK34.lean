/- Contracts of functions of the program, for all arguments that they name. -/
import Derived.Test.YtoeeppojakbciaaGreatK29
import Derived.Test.YtoeeppojakbciaaGreatK30
import Derived.Test.YtoeeppojakbciaaGreatK31
namespace Go.Proofs.YtoeeppojakbciaaGreat
set_option linter.unusedVariables false
section
open Go.RowKit
theorem qmN (t0 t:Ty):∀j,qdC t0 t j=t0::List.replicate j t
 | 0=>rfl
 | j+1=>by rw[qdC,qmN t0 t j,List.replicate_succ',List.cons_append]
theorem qjY:∀v:List Int,qda (List.replicate v.length (.mk 1 0 [] [])) (v.map natV)=v.all fin1
 | []=>by simp[qda]
 | x::v=>by
  have ih:=qjY v
  rw[List.length_cons,List.replicate_succ,List.map_cons,qda,ih,List.all_cons]
  congr 1
  simp[ofV,fin1,V.n,V.kids]
  rfl
theorem qki (most:Int):∀(v:List Int) (n:Int),n+v.length≤most→qc0 (v.map natV) n most=n+v.length
 | [],n,_=>by simp[qc0]
 | x::v,n,h=>by
  simp only[List.length_cons] at h
  have h1:qbN (natV x) (most - n)=1:=by simp[qbN,qc0]
  rw[List.map_cons,qc0,if_pos (by omega),h1,qki most v (n+1) (by omega)]
  simp only[List.length_cons];omega
theorem qr2 {m:Md}(hk:m.kind=1):qbb m=.mk 3 0 [] (qaM m.states.length::List.replicate m.places.length (.mk 1 0 [] [])):=by
 have:qbb m=qaS (qdC (qaM m.states.length) (qdy m) m.places.length):=by
  rw[qbb,if_neg (by omega),if_neg (by omega)]
 rw[this,qmN,qdy,if_neg (by omega),if_neg (by omega),qaS]
theorem qn3 {m:Md}(hk:m.kind=1)(h:qaV m=0):qb6 (qbb m)=0:=by
 have hb:qbg m=true:=by
  rw[qaV] at h
  refine Classical.byContradiction fun hn=>?_
  have hn':qbg m=false:=by simpa using hn
  rw[hn'] at h
  (repeat' split at h)<;>simp_all
 rw[qbg,if_neg (by omega),qdl,Bool.and_eq_true,Bool.and_eq_true,beq_iff_eq] at hb
 exact hb.1.1
theorem qpj {m:Md}(hk:m.kind=1)(h:qaV m=0):m.places.length≤6:=by
 have hs:qaR m=true:=by
  rw[qaV] at h
  refine Classical.byContradiction fun hn=>?_
  have hn':qaR m=false:=by simpa using hn
  rw[hn'] at h
  (repeat' split at h)<;>simp_all
 simp[qaR,hk,limC,btw] at hs
 omega
theorem qr5 {m:Md}(hk:m.kind=1)(h:qaV m=0)(s:Int)(v:List Int)(hv:v.length=m.places.length):qfc m (cfV s v)=(decide (0≤s)&&decide (s<m.states.length)&&v.all fin1):=by
 have hc:=qn3 hk h
 have hp:=qpj hk h
 have hsz:qbN (cfV s v) 128≤128:=by
  rw[cfV,qbN,qc0,if_pos (by omega)]
  have h1:qbN (natV s) (128 - 1)=1:=by simp[qbN,qc0]
  rw[h1]
  show qc0 (v.map natV) 2 128≤128
  rw[qki 128 v 2 (by omega)];omega
 have hof:ofV (qbb m) (cfV s v)=(decide (0≤s)&&decide (s<m.states.length)&&v.all fin1):=by
  rw[qr2 hk,ofV,if_neg (by omega),if_neg (by omega),if_neg (by omega),if_pos rfl,←hv]
  have hl:ofV (qaM m.states.length) (natV s)=(decide (0≤s)&&decide (s<m.states.length)):=by
   simp[qaM,ofV,natV,V.n,V.kids]
   rfl
  simp only[cfV,V.n,V.kids,qda,qjY,hl]
  simp
 rw[qfc,qdl,hc,hof,h,decide_eq_true hsz]
 simp
end
section
open Go.RowKit
set_option maxHeartbeats 2000000
attribute [local simp] qae qak qal
def rlQ:Rl:=⟨⟨#[]⟩,0,0,[],[],[],0,0,0,[],[],[],[],0⟩
theorem qjk (rs:List Rl)(q:Nat)(h:q<rs.length):(qaB rs).getD (q:Int).toNat .undef=qa0 (rs.getD q rlQ):=by
 simp[qaB,List.getD_eq_getElem?_getD,h]
theorem qqI (m:Md)(hm:m.fit)(hk:m.kind=1)(h0:qaV m=0)(q:Nat)(hq:q<m.rules.length):TP Tryz.prog 131 [qas m,.int .i64 q] (.int .i64 0):=by
 have hc:=qhc m hm
 rw[h0] at hc
 have hd1:((0:Int) != 0)=false:=rfl
 have hd2:(m.kind != 1)=false:=by simp[hk]
 have hd3:decide ((q:Int)<0)=false:=decide_eq_false (by omega)
 have hd4:decide ((q:Int)≥((qaB m.rules).length:Int))=false:=decide_eq_false (by rw[qaD];omega)
 simp only[qas,mdC] at hc ⊢
 have fX:=(cJ2 @hd3 @hd4)
 refine qah fn131 (by simp) ?_
 unfold i131
 simp only[argL]
 refine wR0 0 [1,2] fX ?_
 refine wRn 100 [1,2,5] fX ?_
 refine rC fX ?_
 refine⟨_,hc,rE fX ?_⟩
 refine wR0 200 [1,2,5,9] fX ?_
 refine wF @hd1 ?_
 refine wR0 400 [1,2,13] fX ?_
 refine wF @hd2 ?_
 refine wR0 600 [22] fX ?_
 refine wF fX ?_
 refine wR0 800 [4] fX ?_
 refine wP ?_
 exact .same rfl
theorem en17_l (r:Rl)(s:Int)(v:List Int)(hl:v.length≤100000)(hab:r.need.length=v.length)(Q:IExit→(Nat→T)→Heap→Prop):∀(k i:Nat),i+k=r.need.length→
 (allI (fun j=>!decide (v.getD j 0<r.need.getD j 0)) i k=true→∀j:Int,Q (.exit 0) (ofL [(2,.ref 0 14 0),(3,.ref 1 2 0),(5,.int .i64 j),(18,.bool false)]) (hpL [(0,.live ⟨66,rlC r⟩),(1,.live ⟨31,[.int .i64 0,.list (encV (natV s)::qag (v.map natV))]⟩)]))→
 (allI (fun j=>!decide (v.getD j 0<r.need.getD j 0)) i k=false→Q .ret (ofL [(4,.bool false)]) (hpL [(0,.live ⟨66,rlC r⟩),(1,.live ⟨31,[.int .i64 0,.list (encV (natV s)::qag (v.map natV))]⟩)]))→
 WL Tryz.prog 34 qis (ofL [(2,.ref 0 14 0),(3,.ref 1 2 0),(5,.int .i64 i)]) (hpL [(0,.live ⟨66,rlC r⟩),(1,.live ⟨31,[.int .i64 0,.list (encV (natV s)::qag (v.map natV))]⟩)]) Q:=by
 simp only[rlC]
 intro k
 induction k with
 | zero=>
  intro i hk hQ0 hQ1
  have hd:decide ((i:Int)<((qac r.need).length:Int))=false:=decide_eq_false (by rw[qad];omega)
  have fX:=@hd
  refine qaa qis.eq_1 ?_
  refine wR0 400 [2,3,5,18] fX ?_
  refine wF @hd ?_
  refine wX ?_
  refine wN ?_
  exact hQ0 rfl _
 | succ k ih=>
  intro i hk hQ0 hQ1
  have hlt:(i:Int)<((qac r.need).length:Int):=by rw[qad];omega
  have hd:decide ((i:Int)<((qac r.need).length:Int))=true:=decide_eq_true hlt
  have hw:IntKind.wrap .i64 ((i:Int)+1)=((i+1:Nat):Int):=by rw[wrap64 (by omega) (by omega)];rfl
  have hga:=qaN r.need i (by omega);have hw1:IntKind.wrap .i64 (1+(i:Int))=((i+1:Nat):Int):=(by rw[wrap64 (by omega) (by omega)];omega);have hal:=qc6 v;have hlb:((i+1:Nat):Int)<(((qag (v.map natV)).length+1:Nat):Int):=(by omega);have hgb:(encV (natV s)::qag (v.map natV)).getD ((i+1:Nat):Int).toNat .undef=.agg [.int .i64 (v.getD i 0),.list []]:=qeP v i (by omega)
  have fX:=(cJ5 @hd @hw @hga @hgb @hw1)
  refine qaa qis.eq_1 ?_
  refine wR0 400 [2,3,5,18] fX ?_
  refine wT @hd ?_
  refine wR0 500 [2,3,5,33] fX ?_
  refine wS cJ0 (fun hc500=>?_) (fun hc500=>?_)
  ·skip
   refine wR0 600 [4] fX ?_
   refine wE ?_
   refine wN ?_
   simp at hc500
   exact hQ1 (by simp[allI,hc500])
  ·skip
   refine wR0 700 [2,3,5] fX ?_
   refine wN ?_
   simp at hc500
   have e:allI (fun j=>!decide (v.getD j 0<r.need.getD j 0)) i (k+1)=allI (fun j=>!decide (v.getD j 0<r.need.getD j 0)) (i+1) k:=(by simp[allI,hc500])
   rw[e] at hQ0 hQ1
   exact ih (i+1) (by omega) hQ0 hQ1
theorem qmZ (r:Rl)(s:Int)(v:List Int)(hn:r.need.length=v.length)(hl:v.length≤100000):TP Tryz.prog 132 [qa0 r,encV (cfV s v)] (.bool (qbL r s v)):=by
 have hL:=fun Q h0 h1=>en17_l r s v hl hn Q r.need.length 0 (by omega) h0 h1
 rw[qa3]
 simp only[qaI,rlC] at hL ⊢
 have hg0:(T.agg [.int .i64 s,.list []]::qag (v.map natV)).getD (Int.toNat 0) .undef=.agg [.int .i64 s,.list []]:=rfl
 by_cases hf:s=r.from_
 ·have hd:(s != r.from_)=false:=by simp[hf]
  have fX:=(cJ2 @hg0 @hd)
  refine qah fn132 (by simp) ?_
  unfold i132
  simp only[argL,qa0,rlC]
  refine wR0 0 [2,3] fX ?_
  refine wR0 100 [2,3,13] fX ?_
  refine wF @hd ?_
  refine wR0 300 [2,3,5] fX ?_
  refine wL ?_
  refine hL _ ?_ ?_
  ·intro h i
   refine wN ?_
   refine wR0 800 [4] fX ?_
   refine wP ?_
   exact qab (by rw[qbL,h,hf];simp)
  ·intro h
   refine wN ?_
   exact⟨by simp,_,rfl,by exact qab (by rw[qbL,h];simp)⟩
 ·have hd:(s != r.from_)=true:=by simpa using hf
  have fX:=(cJ2 @hg0 @hd)
  refine qah fn132 (by simp) ?_
  unfold i132
  simp only[argL,qa0,rlC]
  refine wR0 0 [2,3] fX ?_
  refine wR0 100 [2,3,13] fX ?_
  refine wT @hd ?_
  refine wR0 200 [4] fX ?_
  refine wP ?_
  exact qab (by rw[qbL,show (r.from_==s)=false from beq_eq_false_iff_ne.2 fun e=>hf e.symm];rfl)
theorem qgq (s:Int)(v:List Int)(hl:v.length≤100000):(cfV s v).fit:=by
 refine⟨by simp;omega,qkG fun k hk=>?_⟩
 rcases List.mem_cons.1 hk with rfl | hk
 ·exact qfZ s
 ·obtain⟨x,_,rfl⟩:=List.mem_map.1 hk
  exact qfZ x
theorem qk9 (m:Md)(hm:m.fit)(hk:m.kind=1)(h0:qaV m=0)(q:Nat)(hq:q<m.rules.length)(s:Int)(v:List Int)(hl:v.length≤100000)(hn:(m.rules.getD q rlQ).need.length=v.length)(hv:qfc m (cfV s v)=true):TP Tryz.prog 76 [qas m,.int .i64 q,encV (cfV s v)] (.tup [.bool (qbL (m.rules.getD q rlQ) s v),.int .i64 0]):=by
 have hf:=qqI m hm hk h0 q hq
 have hvl:=qdd m (cfV s v) hm (qgq s v hl)
 rw[hv] at hvl
 have hen:=qmZ (m.rules.getD q rlQ) s v hn hl
 have hg:=qjk m.rules q hq
 have hlt:(q:Int)<((qaB m.rules).length:Int):=by rw[qaD];omega
 have hd1:((0:Int) != 0)=false:=rfl
 rw[qa3] at hvl hen ⊢
 generalize m.rules.getD q rlQ=r at*
 generalize qbL r s v=b at*
 simp only[qas,mdC,qa0,rlC,qaI] at hf hvl hen hg ⊢
 have fX:=@hg
 refine qah fn76 (by simp) ?_
 unfold i76
 simp only[argL]
 refine wR0 0 [1,3,5] fX ?_
 refine wRn 100 [1,3,5,8] fX ?_
 refine rC fX ?_
 refine⟨_,hf,rE fX ?_⟩
 refine wR0 200 [1,3,5,8,13] fX ?_
 refine wF @hd1 ?_
 refine wRn 400 [1,3,5,18] fX ?_
 refine rC fX ?_
 refine⟨_,hvl,rE fX ?_⟩
 refine wF fX ?_
 refine wRn 600 [6,7] fX ?_
 refine rC fX ?_
 refine⟨_,hen,rE fX ?_⟩
 refine wP ?_
 exact .same rfl
end
section
open Go.RowKit
set_option maxHeartbeats 2000000
attribute [local simp] qae qak qal
def difD (r:Rl)(v:List Int)(i:Nat):List Int:=(List.range v.length).map fun j=>if j<i then v.getD j 0 - r.need.getD j 0 else 0
theorem qeJ (r:Rl)(v:List Int)(i:Nat):(difD r v i).length=v.length:=by simp[difD]
theorem qfU (r:Rl)(v:List Int)(i j:Nat)(h:j<v.length):(difD r v i).getD j 0=if j<i then v.getD j 0 - r.need.getD j 0 else 0:=by
 simp[difD,List.getD_eq_getElem?_getD,h]
theorem qoq (r:Rl)(v:List Int)(i:Nat)(h:i<v.length):difD r v (i+1)=(difD r v i).set i (v.getD i 0 - r.need.getD i 0):=by
 apply List.ext_getElem (by simp[difD])
 intro k h1 h2
 have hk:k<v.length:=by rw[qeJ] at h1;exact h1
 have e1:(difD r v (i+1))[k]=(difD r v (i+1)).getD k 0:=by simp[List.getD_eq_getElem?_getD,h1]
 have h3:k<(difD r v i).length:=by rw[qeJ];exact hk
 have e2:(difD r v i)[k]=(difD r v i).getD k 0:=by simp[List.getD_eq_getElem?_getD,h3]
 rw[e1,qfU r v _ k hk,List.getElem_set,e2,qfU r v i k hk]
 by_cases hki:i=k
 ·subst hki;rw[if_pos (by omega),if_pos rfl]
 ·rw[if_neg hki]
  by_cases hlt:k<i
  ·rw[if_pos (by omega),if_pos hlt]
  ·rw[if_neg (by omega),if_neg hlt]
theorem qor (r:Rl)(v:List Int):qac (difD r v 0)=repl v.length [.int .i64 0]:=by
 have:difD r v 0=List.replicate v.length 0:=by
  apply List.ext_getElem (by simp[difD])
  intro k h1 h2
  simp[difD]
 rw[this]
 generalize v.length=n
 induction n with
 | zero=>rfl
 | succ n ih=>rw[List.replicate_succ,show qac (0::List.replicate n 0)=.int .i64 0::qac (List.replicate n 0) from rfl,ih];rfl
abbrev apC (s:Int)(v:List Int):List T:=[.int .i64 0,.list (.agg [.int .i64 s,.list []]::qag (v.map natV))]
abbrev apH (m:Md)(s:Int)(v:List Int)(r:Rl)(row:List Int):List (Nat×Slot):=[(0,sMg m),(1,.live ⟨31,apC s v⟩),(2,.live ⟨31,[.int .i64 0,.nil]⟩),(605,.live ⟨66,rlC r⟩),(703,sVv row)]
set_option maxHeartbeats 8000000 in
theorem qqn (m:Md)(s:Int)(v:List Int)(r:Rl)(n:Nat)(hn:v.length=n)(hl:n≤100000)(hr:RoomR r v)(hmv:r.move=[])(hfin:∀j,v.getD j 0≤1048576)(Q:IExit→(Nat→T)→Heap→Prop)
 (hQ:∀j:Int,Q (.exit 0) (ofL [(5,.ref 1 2 0),(6,.ref 2 2 0),(10,.ref 605 14 0),(11,.sl 703 n 0 0 n),(12,.int .i64 j),(42,.bool false)]) (hpL (apH m s v r (difD r v n)))) :
 ∀(f i:Nat),i+f=n→WL Tryz.prog 116 ql0 (ofL [(5,.ref 1 2 0),(6,.ref 2 2 0),(10,.ref 605 14 0),(11,.sl 703 n 0 0 n),(12,.int .i64 i)]) (hpL (apH m s v r (difD r v i))) Q:=by
 simp only[apH,rlC] at hQ ⊢
 intro f
 induction f with
 | zero=>
  intro i hi
  have hd:decide ((i:Int)<(n:Int))=false:=decide_eq_false (by omega)
  have e:i=n:=by omega
  subst e
  have fX:=@hd
  refine qaa ql0.eq_1 ?_
  refine wR0 900 [5,6,10,11,12,42] fX ?_
  refine wF @hd ?_
  refine wX ?_
  refine wN ?_
  exact hQ _
 | succ f ih=>
  intro i hi
  have hd:decide ((i:Int)<(n:Int))=true:=decide_eq_true (by omega)
  have hw:IntKind.wrap .i64 ((i:Int)+1)=((i+1:Nat):Int):=by rw[wrap64 (by omega) (by omega)];rfl
  have hw1:IntKind.wrap .i64 (1+(i:Int))=((i+1:Nat):Int):=by rw[wrap64 (by omega) (by omega)];omega
  have hnd:=hr.need
  have hga:=qaN r.need i (by omega)
  have hlg:(i:Int)<((qac r.need).length:Int):=by rw[qad];omega
  have hal:=qc6 v
  have hlb:((i+1:Nat):Int)<(((qag (v.map natV)).length+1:Nat):Int):=by omega
  have hgb:(T.agg [.int .i64 s,.list []]::qag (v.map natV)).getD ((i+1:Nat):Int).toNat .undef=.agg [.int .i64 (v.getD i 0),.list []]:=qeP v i (by omega)
  have hin:(i:Int)<(n:Int):=by omega
  have hj1:((i:Nat):Int).toNat*1=i:=by simp
  have hdl:=qeJ r v i
  have hel:(qac (difD r v i)).length=n:=by rw[qad];omega
  have hsr:=qk6 (difD r v i) i (by omega)
  rw[qfU r v i i (by omega),if_neg (by omega)] at hsr
  have k1:=hr.needB i
  have k3:=hr.vec i
  have k4:=hfin i
  have hw2:IntKind.wrap .i64 (v.getD i 0 - r.need.getD i 0)=v.getD i 0 - r.need.getD i 0:=wrap64 (by omega) (by omega)
  have hw3:IntKind.wrap .i64 (0+(v.getD i 0 - r.need.getD i 0))=v.getD i 0 - r.need.getD i 0:=by rw[wrap64 (by omega) (by omega)];omega
  have hsw:=qkw (difD r v i) (v.getD i 0 - r.need.getD i 0) i (by omega)
  have hQ':=ih (i+1) (by omega)
  rw[qoq r v i (by omega)] at hQ'
  have hmz:(decide (((qac r.move).length:Int) > 0))=false:=by rw[hmv];rfl
  have hi0:decide ((i:Int)≥0)=true:=decide_eq_true (by omega)
  have fX:=(cJ8 @hd @hw @hw1 @hga @hgb @hj1 @hel (cJ6 @hsr @hw2 @hw3 @hsw @hmz @hi0))
  refine qaa ql0.eq_1 ?_
  refine wR0 900 [5,6,10,11,12,42] fX ?_
  refine wT @hd ?_
  refine wR0 1000 [5,6,10,11,12,13] fX ?_
  refine wR0 1100 [5,6,10,11,12,13,49] fX ?_
  refine wF @hmz ?_
  refine wR0 1300 [5,6,10,11,12,13,56] fX ?_
  refine wT @hi0 ?_
  refine wR0 1400 [5,6,10,11,12] fX ?_
  refine wR0 1500 [5,6,10,11,12] fX ?_
  refine wN ?_
  exact hQ'
end
section
open Go.RowKit
set_option maxHeartbeats 2000000
attribute [local simp] qae qak qal
abbrev apH2 (m:Md)(s:Int)(v:List Int)(r:Rl)(row done:List Int):List (Nat×Slot):=apH m s v r row++[(1603,.live ⟨31,flatK done⟩),(1605,.live ⟨31,[.int .i64 0,.sl 1603 (done.length*2) 2 0 done.length]⟩)]
set_option maxHeartbeats 8000000 in
theorem qqo (m:Md)(s:Int)(v:List Int)(r:Rl)(n:Nat)(hn:v.length=n)(hl:n≤100000)(hr:RoomR r v)(hfin:∀j,v.getD j 0≤1048576)(Q:IExit→(Nat→T)→Heap→Prop)
 (hQ0:aftO r v=true→∀j:Int,Q (.exit 2) (ofL [(6,.ref 2 2 0),(10,.ref 605 14 0),(11,.sl 703 n 0 0 n),(14,.ref 1605 2 0),(15,.int .i64 j),(84,.bool false)]) (hpL (apH2 m s v r (difD r v n) (r.to_::aftR r v))))
 (hQ1:aftO r v=false→∀done,Q .ret (ofL [(6,.ref 2 2 0),(7,.int .i64 1)]) (hpL (apH2 m s v r (difD r v n) done))) :
 ∀(f i:Nat) (done:List Int),i+f=n→done=r.to_::(aftR r v).take i→(∀j,j<i→aft1 r v j≤1048576)→
 WL Tryz.prog 116 qjE (ofL [(6,.ref 2 2 0),(10,.ref 605 14 0),(11,.sl 703 n 0 0 n),(14,.ref 1605 2 0),(15,.int .i64 i)]) (hpL (apH2 m s v r (difD r v n) done)) Q:=by
 simp only[apH2,apH,sMg,mdC,rlC,List.cons_append,List.nil_append] at hQ0 hQ1 ⊢
 have hdl:=qeJ r v n
 have hal:=qbq r v
 have hel:(qac (difD r v n)).length=n:=by rw[qad];omega
 intro f
 induction f with
 | zero=>
  intro i done hi hdn hall
  have hd:decide ((i:Int)<(n:Int))=false:=decide_eq_false (by omega)
  have e:done=r.to_::aftR r v:=by rw[hdn,List.take_of_length_le (by omega)]
  subst e
  have ho:aftO r v=true:=(qbv _ _ _).2 fun j _ hj=>by
   have:=hall j (by omega)
   simp[this]
  have fX:=@hd
  refine qaa qjE.eq_1 ?_
  refine wR0 1800 [6,10,11,14,15,84] fX ?_
  refine wF @hd ?_
  refine wX ?_
  refine wN ?_
  exact hQ0 ho _
 | succ f ih=>
  intro i done hi hdn hall
  have hd:decide ((i:Int)<(n:Int))=true:=decide_eq_true (by omega)
  have hw:IntKind.wrap .i64 ((i:Int)+1)=((i+1:Nat):Int):=by rw[wrap64 (by omega) (by omega)];rfl
  have hgv:=hr.give
  have hga:=qaN r.give i (by omega)
  have hlg:(i:Int)<((qac r.give).length:Int):=by rw[qad];omega
  have hin:(i:Int)<(n:Int):=by omega
  have hj1:((i:Nat):Int).toNat*1=i:=by simp
  have hsr:=qk6 (difD r v n) i (by omega)
  rw[qfU r v n i (by omega),if_pos (by omega)] at hsr
  have k1:=hr.needB i
  have k2:=hr.giveB i
  have k3:=hr.vec i
  have k4:=hfin i
  have ha1:aft1 r v i=v.getD i 0 - r.need.getD i 0+r.give.getD i 0:=by rw[aft1,if_neg (by omega)]
  have hw2:IntKind.wrap .i64 (v.getD i 0 - r.need.getD i 0+r.give.getD i 0)=aft1 r v i:=by rw[wrap64 (by omega) (by omega),ha1]
  have hdn1:done.length=i+1:=by rw[hdn,List.length_cons,List.length_take];omega
  have hfl:=qeR done
  by_cases hc:aft1 r v i > 1048576
  ·have hcd:decide (aft1 r v i > 1048576)=true:=decide_eq_true hc
   have ho:aftO r v=false:=by
    rw[←Bool.not_eq_true,aftO,qbv]
    intro h
    have:=h i (Nat.zero_le _) (by omega)
    simp only[Bool.or_eq_true,beq_iff_eq,decide_eq_true_eq] at this
    omega
   have fX:=(cJ7 @hd @hga @hj1 @hel @hsr @hw2 @hcd)
   refine qaa qjE.eq_1 ?_
   refine wR0 1800 [6,10,11,14,15,84] fX ?_
   refine wT @hd ?_
   refine wR0 1900 [6,10,11,14,15,97] fX ?_
   refine wT @hcd ?_
   refine wR0 2000 [6,7] fX ?_
   refine wE ?_
   refine wN ?_
   exact hQ1 ho done
  ·have hcd:decide (aft1 r v i > 1048576)=false:=decide_eq_false hc
   have hQ':=ih (i+1) (done++[aft1 r v i]) (by omega) (by
    rw[hdn,qcJ _ _ (by omega),qbO r v i (by omega)];rfl) (fun j hj=>by
    by_cases e:j=i
    ·subst e;omega
    ·exact hall j (by omega))
   have hap:=qgD done (aft1 r v i)
   have fX:=(cJ8 @hd @hw @hga @hj1 @hel @hsr @hw2 (cJ4 @hcd @qaK @hap @hfl))
   refine qaa qjE.eq_1 ?_
   refine W_gc ?_
   refine wR0 1800 [6,10,11,14,15,84] fX ?_
   refine wT @hd ?_
   refine wR0 1900 [6,10,11,14,15,97] fX ?_
   refine wF @hcd ?_
   refine wR0 2100 [6,10,11,14,15] fX ?_
   refine wR0 2200 [6,10,11,14,15] fX ?_
   refine wN ?_
   refine qaP [0,1,2,605,703,1603,1605] (by simp[inL]) (by simp[inL,T.cl]) (by simp[qan,inL,Slot.cl,T.cl,clL,qlJ,qae,qak,qal,qaU,qow]) ?_
   simpa [qan,inL,Nat.add_mul] using hQ'
end
section
open Go.RowKit
set_option maxHeartbeats 2000000
attribute [local simp] qae qak qal
def qsG (r:Rl)(s:Int)(v:List Int):T:=if qbL r s v=true then (if aftO r v=true then .tup [encV (cfV r.to_ (aftR r v)),.int .i64 0] else .tup [encV (.mk 0 []),.int .i64 1]) else .tup [encV (.mk 0 []),.int .i64 18]
set_option maxHeartbeats 8000000 in
theorem qmO (m:Md)(hm:m.fit)(hk:m.kind=1)(h0:qaV m=0)(q:Nat)(hq:q<m.rules.length)(s:Int)(v:List Int)(hl:v.length≤100000)(hr:RoomR (m.rules.getD q rlQ) v)(hmv:(m.rules.getD q rlQ).move=[])(hfin:∀j,v.getD j 0≤1048576)(hv:qfc m (cfV s v)=true) :
 TP Tryz.prog 48 [qas m,.int .i64 q,encV (cfV s v)] (qsG (m.rules.getD q rlQ) s v):=by
 have hen:=qk9 m hm hk h0 q hq s v hl hr.need hv
 have hg:=qjk m.rules q hq
 have hlt:(q:Int)<((qaB m.rules).length:Int):=by rw[qaD];omega
 have hd1:((0:Int) != 0)=false:=rfl
 rw[qa3] at hen ⊢
 obtain⟨r,hrE⟩:∃r,m.rules.getD q rlQ=r:=⟨_,rfl⟩
 rw[hrE] at hen hg hr hmv ⊢
 have hL0:=fun Q h=>qqn m s v r v.length rfl hl hr hmv hfin Q h v.length 0 (by omega)
 have hL1:=fun Q a b=>qqo m s v r v.length rfl hl hr hfin Q a b v.length 0 [r.to_] (by omega) rfl (fun j hj=>absurd hj (Nat.not_lt_zero _))
 have hdz:=qor r v
 have hln:(qac r.need).length=v.length:=by rw[qad];exact hr.need
 have hnl:((v.length:Nat):Int).toNat=v.length:=by simp
 have hel:(qac (difD r v 0)).length=v.length:=by rw[qad,qeJ]
 have hrp:repl v.length [T.int .i64 0]=qac (difD r v 0):=hdz.symm
 have hen0:encV (.mk 0 [])=.agg [.int .i64 0,.list []]:=rfl
 have hfr:∀H:Heap,Frz H (.agg [.int .i64 0,.nil]) (.agg [.int .i64 0,.list []]):=fun H=>Frz.aggL (.cons (.same (x:=.int .i64 0) rfl) (.cons .nil .nil)) rfl
 rw[qsG]
 cases hf:qbL r s v with
 | false=>
  rw[hf] at hen
  rw[if_neg (by simp),hen0]
  simp only[qas,mdC,qa0,rlC,qaI] at hen hg ⊢
  have fX:=(cJ2 @hg @hd1)
  refine qah fn48 (by simp) ?_
  unfold i48
  simp only[argL]
  refine wR0 0 [1,3,5,6] fX ?_
  refine wRn 100 [1,3,5,6,8,9] fX ?_
  refine rC fX ?_
  refine⟨_,hen,rE fX ?_⟩
  refine wR0 200 [1,3,5,6,8,9,24] fX ?_
  refine wF @hd1 ?_
  refine wR0 400 [1,3,5,6,28] fX ?_
  refine wT fX ?_
  refine wR0 500 [6,7] fX ?_
  refine wP ?_
  exact qbX (hfr _) (.same rfl)
 | true=>
  rw[hf] at hen
  rw[if_pos rfl]
  cases ho:aftO r v with
  | true=>
   have hLT:=fun Q a=>hL1 Q (fun _=>a) (fun h=>by rw[ho] at h;cases h)
   rw[if_pos rfl,qa3]
   have hal:=qbq r v
   have hfz:∀H:Heap,H 1603=.live ⟨31,flatK (r.to_::aftR r v)⟩→Frz H (.agg [.int .i64 0,.sl 1603 ((r.to_::aftR r v).length*2) 2 0 (r.to_::aftR r v).length]) (.agg [.int .i64 0,.list (encV (natV r.to_)::qag ((aftR r v).map natV))]):=fun H h=>
    Frz.aggL (.cons (.same (x:=.int .i64 0) rfl) (.cons (qlO (r.to_::aftR r v) h rfl rfl) .nil)) rfl
   generalize aftR r v=W at*
   simp only[qas,apH2,apH,sMg,mdC,qa0,rlC,qaI,flatK,List.cons_append,List.nil_append,List.length_cons,List.length_nil] at hen hg hL0 hLT hfz ⊢
   have fX:=(cJ7 @hg @hd1 @hln @hnl @hrp @hel @qaK)
   refine qah fn48 (by simp) ?_
   unfold i48
   simp only[argL]
   refine wR0 0 [1,3,5,6] fX ?_
   refine wRn 100 [1,3,5,6,8,9] fX ?_
   refine rC fX ?_
   refine⟨_,hen,rE fX ?_⟩
   refine wR0 200 [1,3,5,6,8,9,24] fX ?_
   refine wF @hd1 ?_
   refine wR0 400 [1,3,5,6,28] fX ?_
   refine wF fX ?_
   refine wR0 600 [5,6,10] fX ?_
   refine wR0 700 [5,6,10,11] fX ?_
   refine wR0 800 [5,6,10,11,12] fX ?_
   refine wL ?_
   refine hL0 _ ?_
   ·intro j
    refine wN ?_
    refine wR0 1600 [6,10,11,14] fX ?_
    refine wR0 1700 [6,10,11,14,15] fX ?_
    refine wL ?_
    refine hLT _ ?_
    ·intro j
     refine wN ?_
     refine wR0 2300 [6,7] fX ?_
     refine wP ?_
     exact qbX (hfz _ rfl) (.same rfl)
  | false=>
   have hLF:=fun Q a=>hL1 Q (fun h=>by rw[ho] at h;cases h) (fun _=>a)
   rw[if_neg (by simp),hen0]
   simp only[qas,apH2,apH,sMg,mdC,qa0,rlC,qaI,flatK,List.cons_append,List.nil_append,List.length_cons,List.length_nil] at hen hg hL0 hLF ⊢
   have fX:=(cJ7 @hg @hd1 @hln @hnl @hrp @hel @qaK)
   refine qah fn48 (by simp) ?_
   unfold i48
   simp only[argL]
   refine wR0 0 [1,3,5,6] fX ?_
   refine wRn 100 [1,3,5,6,8,9] fX ?_
   refine rC fX ?_
   refine⟨_,hen,rE fX ?_⟩
   refine wR0 200 [1,3,5,6,8,9,24] fX ?_
   refine wF @hd1 ?_
   refine wR0 400 [1,3,5,6,28] fX ?_
   refine wF fX ?_
   refine wR0 600 [5,6,10] fX ?_
   refine wR0 700 [5,6,10,11] fX ?_
   refine wR0 800 [5,6,10,11,12] fX ?_
   refine wL ?_
   refine hL0 _ ?_
   ·intro j
    refine wN ?_
    refine wR0 1600 [6,10,11,14] fX ?_
    refine wR0 1700 [6,10,11,14,15] fX ?_
    refine wL ?_
    refine hLF _ ?_
    ·intro done
     refine wN ?_
     exact⟨by simp,_,rfl,by exact qbX (hfr _) (.same rfl)⟩
end
end Go.Proofs.YtoeeppojakbciaaGreat
