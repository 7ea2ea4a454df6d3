/- Contracts of functions of the program, for all arguments that they name. -/
import Derived.Test.YtoeeppojakbciaaGreatK19
namespace Go.Proofs.YtoeeppojakbciaaGreat
set_option linter.unusedVariables false
section
open Go.RowKit
set_option maxHeartbeats 2000000
def lexS:List Int→List Int→Int
 | [],[]=>0
 | [],_::_ => -1
 | _::_,[]=>1
 | a::l,b::m=>if ordI a b=0 then lexS l m else ordI a b
def vCmp (a b:List Int):Int:=if ordI a.length b.length=0 then lexS a b else ordI a.length b.length
theorem qkZ (a:Int):ordI a a=0:=by simp[ordI]
theorem qcC {a b:Int}:ordI a b=0↔a=b:=by
 unfold ordI
 split
 ·simp;omega
 ·split
  ·simp;omega
  ·simp;omega
theorem qeL (pre:List Int)(x:Int)(r:List Int)(i:Nat)(h:pre.length=i):(qac (pre++x::r)).getD (i:Int).toNat .undef=.int .i64 x:=by
 rw[Int.toNat_natCast,←h];exact qci _ x _
theorem qnF (a b:List Int)(ha:a.length≤1000000)(hb:b.length≤1000000)(Q:IExit→(Nat→T)→Heap→Prop):∀(ra rb pa pb:List Int) (i:Nat),a=pa++ra→b=pb++rb→pa.length=i→pb.length=i→
 (ra.length≤rb.length→lexS ra rb=(if ra.length<rb.length then -1 else 0)→∀j:Int,Q (.exit 0) (ofL [(0,.list (qac a)),(1,.list (qac b)),(9,.list (qac a)),(10,.int .i64 (qac a).length),(11,.int .i64 j),(12,.bool false)]) (hpL []))→
 Q .ret (ofL [(4,.int .i64 (lexS ra rb))]) (hpL [])→
 WL Tryz.prog 36 qfr (ofL [(0,.list (qac a)),(1,.list (qac b)),(9,.list (qac a)),(10,.int .i64 (qac a).length),(11,.int .i64 i)]) (hpL []) Q:=by
 intro ra
 induction ra with
 | nil=>
  intro rb pa pb i ea eb hi hj hQ0 hQ1
  have hd:decide ((i:Int)<((qac a).length:Int))=false:=by rw[qad,ea];simp;omega
  have fX:=@hd
  refine qaa qfr.eq_1 ?_
  refine wR0 200 [0,1,9,10,11,12] fX ?_
  refine wF @hd ?_
  refine wX ?_
  refine wN ?_
  exact hQ0 (by simp) (by cases rb<;>simp[lexS]) _
 | cons x ra ih=>
  intro rb pa pb i ea eb hi hj hQ0 hQ1
  have hlt:(i:Int)<((qac a).length:Int):=by rw[qad,ea];simp;omega
  have hla:i≤1000000:=by rw[ea] at ha;simp at ha;omega
  have hd:decide ((i:Int)<((qac a).length:Int))=true:=decide_eq_true hlt
  have hw:IntKind.wrap .i64 ((i:Int)+1)=((i+1:Nat):Int):=by rw[wrap64 (by omega) (by omega)];rfl
  have hga:(qac a).getD (i:Int).toNat .undef=.int .i64 x:=by rw[ea];exact qeL pa x ra i hi
  cases rb with
  | nil=>
   have hge:decide ((i:Int)≥((qac b).length:Int))=true:=by rw[qad,eb];simp;omega
   have fX:=(cJ4 @hd @hw @hga @hge)
   refine qaa qfr.eq_1 ?_
   refine wR0 200 [0,1,9,10,11,12] fX ?_
   refine wT @hd ?_
   refine wR0 300 [0,1,5,6,9,10,11] fX ?_
   refine wR0 400 [0,1,5,6,9,10,11,19] fX ?_
   refine wT @hge ?_
   refine wR0 500 [4] fX ?_
   refine wE ?_
   refine wN ?_
   exact hQ1
  | cons y rb=>
   have hlb:(i:Int)<((qac b).length:Int):=by rw[qad,eb];simp;omega
   have hge:decide ((i:Int)≥((qac b).length:Int))=false:=decide_eq_false (by omega)
   have hgb:(qac b).getD (i:Int).toNat .undef=.int .i64 y:=by rw[eb];exact qeL pb y rb i hj
   have hc:=qgi x y
   by_cases h0:ordI x y=0
   ·have hz:(ordI x y != 0)=false:=by simp[h0]
    have e:lexS (x::ra) (y::rb)=lexS ra rb:=by rw[lexS,if_pos h0]
    rw[e] at hQ0 hQ1
    have hQ':=ih rb (pa++[x]) (pb++[y]) (i+1) (by simpa using ea) (by simpa using eb) (by simp[hi]) (by simp[hj]) (fun h1 h2=>hQ0 (by simpa using h1) (by simpa using h2)) hQ1
    have fX:=(cJ6 @hd @hw @hga @hgb @hge @hz)
    refine qaa qfr.eq_1 ?_
    refine wR0 200 [0,1,9,10,11,12] fX ?_
    refine wT @hd ?_
    refine wR0 300 [0,1,5,6,9,10,11] fX ?_
    refine wR0 400 [0,1,5,6,9,10,11,19] fX ?_
    refine wF @hge ?_
    refine wR0 600 [0,1,6,7,9,10,11] fX ?_
    refine wRn 700 [0,1,8,9,10,11] fX ?_
    refine rC fX ?_
    refine⟨_,hc,rE fX ?_⟩
    refine wR0 800 [0,1,8,9,10,11,28] fX ?_
    refine wF @hz ?_
    refine wR0 1000 [0,1,9,10,11] fX ?_
    refine wN ?_
    exact hQ'
   ·have hz:(ordI x y != 0)=true:=by simp[h0]
    have e:lexS (x::ra) (y::rb)=ordI x y:=by rw[lexS,if_neg h0]
    rw[e] at hQ1
    have fX:=(cJ6 @hd @hw @hga @hgb @hge @hz)
    refine qaa qfr.eq_1 ?_
    refine wR0 200 [0,1,9,10,11,12] fX ?_
    refine wT @hd ?_
    refine wR0 300 [0,1,5,6,9,10,11] fX ?_
    refine wR0 400 [0,1,5,6,9,10,11,19] fX ?_
    refine wF @hge ?_
    refine wR0 600 [0,1,6,7,9,10,11] fX ?_
    refine wRn 700 [0,1,8,9,10,11] fX ?_
    refine rC fX ?_
    refine⟨_,hc,rE fX ?_⟩
    refine wR0 800 [0,1,8,9,10,11,28] fX ?_
    refine wT @hz ?_
    refine wR0 900 [4] fX ?_
    refine wE ?_
    refine wN ?_
    exact hQ1
theorem qlh (a b:List Int)(ha:a.length≤1000000)(hb:b.length≤1000000):TP Tryz.prog 104 [.list (qac a),.list (qac b)] (.int .i64 (lexS a b)):=by
 refine qah fn104 (by simp) ?_
 unfold i104
 simp only[argL]
 refine wR0 0 [0,1] cJ0 ?_
 refine wR0 100 [0,1,9,10,11] cJ0 ?_
 refine wL ?_
 refine qnF a b ha hb _ a b [] [] 0 rfl rfl rfl rfl ?_ ?_
 ·intro h1 h2 j
  refine wN ?_
  refine wR0 1100 [35] cJ0 ?_
  refine wS cJ0 (fun hc1100=>?_) (fun hc1100=>?_)
  ·skip
   refine wR0 1200 [4] cJ0 ?_
   refine wP ?_
   exact qaE (by simp[qad] at hc1100;rw[h2,if_pos hc1100])
  ·skip
   refine wR0 1300 [4] cJ0 ?_
   refine wP ?_
   exact qaE (by simp[qad] at hc1100;rw[h2,if_neg (by omega)])
 ·skip
  refine wN ?_
  exact⟨by simp,_,rfl,by exact .same rfl⟩
theorem qlm (a b:List Int)(ha:a.length≤1000000)(hb:b.length≤1000000):TP Tryz.prog 58 [.list (qac a),.list (qac b)] (.int .i64 (vCmp a b)):=by
 have fX:=@qhd
 refine qah fn58 (by simp) ?_
 unfold i58
 simp only[argL]
 refine wR0 0 [0,1] fX ?_
 refine wRn 100 [4] fX ?_
 refine rC fX ?_
 refine⟨_,qgi _ _,rN fX ?_⟩
 refine rC fX ?_
 refine⟨_,qlh a b ha hb,rN fX ?_⟩
 refine rL [(108,.live ⟨3,qac [ordI (qac a).length (qac b).length,lexS a b]⟩)] fX ?_
 refine⟨_,_,qoj [ordI (qac a).length (qac b).length,lexS a b] (by simp),(by exact FrzL.cons (qbx [ordI (qac a).length (qac b).length,lexS a b] rfl rfl rfl) FrzL.nil),rfl,rE fX ?_⟩
 refine wP ?_
 exact qaE (by simp only[qad,orL,vCmp,ne_eq];split<;>simp_all)
theorem qk7 (x:Int):TP Tryz.prog 62 [.int .i64 x] (.bool (elO x)):=by
 refine qah fn62 (by simp) ?_
 unfold i62
 simp only[argL]
 refine wR0 0 [0] cJ0 ?_
 refine wR0 100 [2] cJ0 ?_
 refine wP ?_
 exact qab rfl
theorem qpG (a:List Int)(hl:a.length≤1000000)(Q:IExit→(Nat→T)→Heap→Prop):∀(k i:Nat),i+k=a.length→
 (allI (fun j=>elO (a.getD j 0)) i k=true→∀j:Int,Q (.exit 0) (ofL [(0,.list (qac a)),(3,.int .i64 j),(7,.bool false)]) (hpL []))→
 (allI (fun j=>elO (a.getD j 0)) i k=false→Q .ret (ofL [(2,.bool false)]) (hpL []))→
 WL Tryz.prog 19 qlZ (ofL [(0,.list (qac a)),(3,.int .i64 i)]) (hpL []) Q:=by
 skip
 intro k
 induction k with
 | zero=>
  intro i hk hQ0 hQ1
  have hd:decide ((i:Int)<((qac a).length:Int))=false:=decide_eq_false (by rw[qad];omega)
  have fX:=@hd
  refine qaa qlZ.eq_1 ?_
  refine wR0 200 [0,3,7] fX ?_
  refine wF @hd ?_
  refine wX ?_
  refine wN ?_
  exact hQ0 rfl _
 | succ k ih=>
  intro i hk hQ0 hQ1
  have hlt:(i:Int)<((qac a).length:Int):=by rw[qad];omega
  have hd:decide ((i:Int)<((qac a).length:Int))=true:=decide_eq_true hlt
  have hw:IntKind.wrap .i64 ((i:Int)+1)=((i+1:Nat):Int):=by rw[wrap64 (by omega) (by omega)];rfl
  have hga:=qaN a i (by omega)
  have fX:=(cJ3 @hd @hw @hga)
  refine qaa qlZ.eq_1 ?_
  refine wR0 200 [0,3,7] fX ?_
  refine wT @hd ?_
  refine wRn 300 [0,3,15] fX ?_
  refine rC fX ?_
  refine⟨_,qk7 (a.getD i 0),rE fX ?_⟩
  refine wS cJ0 (fun hc300=>?_) (fun hc300=>?_)
  ·skip
   refine wR0 400 [2] fX ?_
   refine wE ?_
   refine wN ?_
   simp at hc300
   exact hQ1 (by simp[allI,hc300])
  ·skip
   refine wR0 500 [0,3] fX ?_
   refine wN ?_
   simp at hc300
   have e:allI (fun j=>elO (a.getD j 0)) i (k+1)=allI (fun j=>elO (a.getD j 0)) (i+1) k:=(by simp[allI,hc300])
   rw[e] at hQ0 hQ1
   exact ih (i+1) (by omega) hQ0 hQ1
theorem qfu (v:List Int)(hl:v.length≤1000000):TP Tryz.prog 41 [.list (qac v)] (.bool (vOk v)):=by
 have e:=qji elO v
 refine qah fn41 (by simp) ?_
 unfold i41
 simp only[argL]
 refine wR0 0 [0] cJ0 ?_
 refine wR0 100 [0,3] cJ0 ?_
 refine wL ?_
 refine qpG v hl _ v.length 0 (by omega) ?_ ?_
 ·intro h i
  refine wN ?_
  refine wR0 600 [2] cJ0 ?_
  refine wP ?_
  exact qab (by rw[e] at h;simp only[vOk,qad,h,Bool.and_true])
 ·intro h
  refine wN ?_
  exact⟨by simp,_,rfl,by exact qab (by rw[e] at h;simp only[vOk,h,Bool.and_false])⟩
theorem qtJ (a b:List Int)(hl:a.length≤1000000)(hab:a.length=b.length)(Q:IExit→(Nat→T)→Heap→Prop):∀(k i:Nat),i+k=a.length→
 (allI (fun j=>!decide (a.getD j 0 > b.getD j 0)) i k=true→∀j:Int,Q (.exit 0) (ofL [(0,.list (qac a)),(1,.list (qac b)),(5,.int .i64 j),(24,.bool false)]) (hpL []))→
 (allI (fun j=>!decide (a.getD j 0 > b.getD j 0)) i k=false→Q .ret (ofL [(4,.bool false)]) (hpL []))→
 WL Tryz.prog 36 qlT (ofL [(0,.list (qac a)),(1,.list (qac b)),(5,.int .i64 i)]) (hpL []) Q:=by
 skip
 intro k
 induction k with
 | zero=>
  intro i hk hQ0 hQ1
  have hd:decide ((i:Int)<((qac a).length:Int))=false:=decide_eq_false (by rw[qad];omega)
  have fX:=@hd
  refine qaa qlT.eq_1 ?_
  refine wR0 400 [0,1,5,24] fX ?_
  refine wF @hd ?_
  refine wX ?_
  refine wN ?_
  exact hQ0 rfl _
 | succ k ih=>
  intro i hk hQ0 hQ1
  have hlt:(i:Int)<((qac a).length:Int):=by rw[qad];omega
  have hd:decide ((i:Int)<((qac a).length:Int))=true:=decide_eq_true hlt
  have hw:IntKind.wrap .i64 ((i:Int)+1)=((i+1:Nat):Int):=by rw[wrap64 (by omega) (by omega)];rfl
  have hga:=qaN a i (by omega);have hgb:=qaN b i (by omega);have hlb:(i:Int)<((qac b).length:Int):=by rw[qad];omega
  have fX:=(cJ4 @hd @hw @hga @hgb)
  refine qaa qlT.eq_1 ?_
  refine wR0 400 [0,1,5,24] fX ?_
  refine wT @hd ?_
  refine wR0 500 [0,1,5,35] fX ?_
  refine wS cJ0 (fun hc500=>?_) (fun hc500=>?_)
  ·skip
   refine wR0 600 [4] fX ?_
   refine wE ?_
   refine wN ?_
   simp at hc500
   exact hQ1 (by simp[allI,hc500])
  ·skip
   refine wR0 700 [0,1,5] fX ?_
   refine wN ?_
   simp at hc500
   have e:allI (fun j=>!decide (a.getD j 0 > b.getD j 0)) i (k+1)=allI (fun j=>!decide (a.getD j 0 > b.getD j 0)) (i+1) k:=(by simp[allI,hc500])
   rw[e] at hQ0 hQ1
   exact ih (i+1) (by omega) hQ0 hQ1
theorem qrM (a b:List Int)(hl:a.length≤1000000)(hm:b.length≤1000000):TP Tryz.prog 20 [.list (qac a),.list (qac b)] (.bool (vLe a b)):=by
 have ha:=qfu a hl
 have hb:=qfu b hm
 by_cases hx:vOk a=true∧vOk b=true∧a.length=b.length
 ·obtain⟨h1,h2,hab⟩:=hx
  rw[h1] at ha
  rw[h2] at hb
  have hz:(((qac a).length:Int) != (qac b).length)=false:=by rw[qad,qad,hab];simp
  have e:vLe a b=leI a b:=by simp[vLe,h1,h2,hab]
  rw[e]
  have fX:=@hz
  refine qah fn20 (by simp) ?_
  unfold i20
  simp only[argL]
  refine wR0 0 [0,1] fX ?_
  refine wRn 100 [0,1,20] fX ?_
  refine rC fX ?_
  refine⟨_,ha,rN fX ?_⟩
  refine rCi fX ?_
  refine⟨_,fun hw=>hb,rE fX ?_⟩
  refine wF @hz ?_
  refine wR0 300 [0,1,5] fX ?_
  refine wL ?_
  refine qtJ a b hl hab _ a.length 0 (by omega) ?_ ?_
  ·intro h i
   refine wN ?_
   refine wR0 800 [4] fX ?_
   refine wP ?_
   exact qab h.symm
  ·intro h
   refine wN ?_
   exact⟨by simp,_,rfl,by exact qab h.symm⟩
 ·have e:vLe a b=false:=by
   rw[Bool.eq_false_iff];intro h
   simp only[vLe,Bool.and_eq_true,beq_iff_eq] at h
   exact hx ⟨h.1.1.1,h.1.1.2,by omega⟩
  rw[e]
  rcases h1:vOk a with _ | _
  ·rw[h1] at ha
   refine qah fn20 (by simp) ?_
   unfold i20
   simp only[argL]
   refine wR0 0 [0,1] cJ0 ?_
   refine wRn 100 [0,1,20] cJ0 ?_
   refine rC cJ0 ?_
   refine⟨_,ha,rE cJ0 ?_⟩
   refine wT cJ0 ?_
   refine wR0 200 [4] cJ0 ?_
   refine wP ?_
   exact qab rfl
  ·rw[h1] at ha
   rcases h2:vOk b with _ | _
   ·rw[h2] at hb
    refine qah fn20 (by simp) ?_
    unfold i20
    simp only[argL]
    refine wR0 0 [0,1] cJ0 ?_
    refine wRn 100 [0,1,20] cJ0 ?_
    refine rC cJ0 ?_
    refine⟨_,ha,rN cJ0 ?_⟩
    refine rC cJ0 ?_
    refine⟨_,hb,rE cJ0 ?_⟩
    refine wT cJ0 ?_
    refine wR0 200 [4] cJ0 ?_
    refine wP ?_
    exact qab rfl
   ·rw[h2] at hb
    have hz:(((qac a).length:Int) != (qac b).length)=true:=by
     rw[qad,qad];simp only[bne_iff_ne,ne_eq];intro h;exact hx ⟨h1,h2,by omega⟩
    have fX:=@hz
    refine qah fn20 (by simp) ?_
    unfold i20
    simp only[argL]
    refine wR0 0 [0,1] fX ?_
    refine wRn 100 [0,1,20] fX ?_
    refine rC fX ?_
    refine⟨_,ha,rN fX ?_⟩
    refine rC fX ?_
    refine⟨_,hb,rE fX ?_⟩
    refine wT @hz ?_
    refine wR0 200 [4] fX ?_
    refine wP ?_
    exact qab rfl
theorem rfin_l (a:List Int)(hl:a.length≤1000000)(Q:IExit→(Nat→T)→Heap→Prop):∀(k i:Nat),i+k=a.length→
 (allI (fun j=>!(a.getD j 0==1099511627776)) i k=true→∀j:Int,Q (.exit 0) (ofL [(0,.list (qac a)),(3,.int .i64 j),(7,.bool false)]) (hpL []))→
 (allI (fun j=>!(a.getD j 0==1099511627776)) i k=false→Q .ret (ofL [(2,.bool false)]) (hpL []))→
 WL Tryz.prog 17 qlS (ofL [(0,.list (qac a)),(3,.int .i64 i)]) (hpL []) Q:=by
 skip
 intro k
 induction k with
 | zero=>
  intro i hk hQ0 hQ1
  have hd:decide ((i:Int)<((qac a).length:Int))=false:=decide_eq_false (by rw[qad];omega)
  have fX:=@hd
  refine qaa qlS.eq_1 ?_
  refine wR0 200 [0,3,7] fX ?_
  refine wF @hd ?_
  refine wX ?_
  refine wN ?_
  exact hQ0 rfl _
 | succ k ih=>
  intro i hk hQ0 hQ1
  have hlt:(i:Int)<((qac a).length:Int):=by rw[qad];omega
  have hd:decide ((i:Int)<((qac a).length:Int))=true:=decide_eq_true hlt
  have hw:IntKind.wrap .i64 ((i:Int)+1)=((i+1:Nat):Int):=by rw[wrap64 (by omega) (by omega)];rfl
  have hga:=qaN a i (by omega)
  have fX:=(cJ3 @hd @hw @hga)
  refine qaa qlS.eq_1 ?_
  refine wR0 200 [0,3,7] fX ?_
  refine wT @hd ?_
  refine wR0 300 [0,3,14] fX ?_
  refine wS cJ0 (fun hc300=>?_) (fun hc300=>?_)
  ·skip
   refine wR0 400 [2] fX ?_
   refine wE ?_
   refine wN ?_
   simp at hc300
   exact hQ1 (by simp[allI,hc300])
  ·skip
   refine wR0 500 [0,3] fX ?_
   refine wN ?_
   simp at hc300
   have e:allI (fun j=>!(a.getD j 0==1099511627776)) i (k+1)=allI (fun j=>!(a.getD j 0==1099511627776)) (i+1) k:=(by simp[allI,hc300])
   rw[e] at hQ0 hQ1
   exact ih (i+1) (by omega) hQ0 hQ1
def vFin (v:List Int):Bool:=(v.all fun x=>!(x==1099511627776))&&vOk v
theorem qtF (v:List Int)(hl:v.length≤1000000):TP Tryz.prog 16 [.list (qac v)] (.bool (vFin v)):=by
 have e:=qji (fun x=>!(x==1099511627776)) v
 refine qah fn16 (by simp) ?_
 unfold i16
 simp only[argL]
 refine wR0 0 [0] cJ0 ?_
 refine wR0 100 [0,3] cJ0 ?_
 refine wL ?_
 refine rfin_l v hl _ v.length 0 (by omega) ?_ ?_
 ·intro h i
  refine wN ?_
  refine wRn 600 [2] cJ0 ?_
  refine rC cJ0 ?_
  refine⟨_,qfu v hl,rE cJ0 ?_⟩
  refine wP ?_
  exact qab (by rw[e] at h;rw[vFin,h,Bool.true_and])
 ·intro h
  refine wN ?_
  exact⟨by simp,_,rfl,by exact qab (by rw[e] at h;rw[vFin,h,Bool.false_and])⟩
theorem qtI (a b:List Int)(ha:a.length≤1000000)(hab:a.length=b.length)(Q:IExit→(Nat→T)→Heap→Prop):∀(ra rb pa pb:List Int) (i:Nat),a=pa++ra→b=pb++rb→pa.length=i→pb.length=i→
 (lexS ra rb=0→∀j:Int,Q (.exit 0) (ofL [(0,.list (qac a)),(1,.list (qac b)),(5,.int .i64 j),(19,.bool false)]) (hpL []))→
 Q .ret (ofL [(4,.int .i64 (lexS ra rb))]) (hpL [])→
 WL Tryz.prog 40 qjB (ofL [(0,.list (qac a)),(1,.list (qac b)),(5,.int .i64 i)]) (hpL []) Q:=by
 intro ra
 induction ra with
 | nil=>
  intro rb pa pb i ea eb hi hj hQ0 hQ1
  have hd:decide ((i:Int)<((qac a).length:Int))=false:=by rw[qad,ea];simp;omega
  have h0:rb=[]:=by rw[ea,eb] at hab;simp at hab;exact List.eq_nil_of_length_eq_zero (by omega)
  subst h0
  have fX:=@hd
  refine qaa qjB.eq_1 ?_
  refine wR0 400 [0,1,5,19] fX ?_
  refine wF @hd ?_
  refine wX ?_
  refine wN ?_
  exact hQ0 rfl _
 | cons x ra ih=>
  intro rb pa pb i ea eb hi hj hQ0 hQ1
  have hlt:(i:Int)<((qac a).length:Int):=by rw[qad,ea];simp;omega
  have hlb:(i:Int)<((qac b).length:Int):=by rw[qad,←hab,←qad];exact hlt
  have hla:i≤1000000:=by rw[ea] at ha;simp at ha;omega
  have hd:decide ((i:Int)<((qac a).length:Int))=true:=decide_eq_true hlt
  have hw:IntKind.wrap .i64 ((i:Int)+1)=((i+1:Nat):Int):=by rw[wrap64 (by omega) (by omega)];rfl
  have hga:(qac a).getD (i:Int).toNat .undef=.int .i64 x:=by rw[ea];exact qeL pa x ra i hi
  cases rb with
  | nil=>rw[ea,eb] at hab;simp at hab;omega
  | cons y rb=>
   have hgb:(qac b).getD (i:Int).toNat .undef=.int .i64 y:=by rw[eb];exact qeL pb y rb i hj
   have hc:=qf2 x y
   by_cases h0:x=y
   ·have hz:(x != y)=false:=by simp[h0]
    have e:lexS (x::ra) (y::rb)=lexS ra rb:=by rw[lexS,if_pos (qcC.2 h0)]
    rw[e] at hQ0 hQ1
    have hQ':=ih rb (pa++[x]) (pb++[y]) (i+1) (by simpa using ea) (by simpa using eb) (by simp[hi]) (by simp[hj]) hQ0 hQ1
    have fX:=(cJ5 @hd @hw @hga @hgb @hz)
    refine qaa qjB.eq_1 ?_
    refine wR0 400 [0,1,5,19] fX ?_
    refine wT @hd ?_
    refine wR0 500 [0,1,5,30] fX ?_
    refine wF @hz ?_
    refine wR0 700 [0,1,5] fX ?_
    refine wN ?_
    exact hQ'
   ·have hz:(x != y)=true:=by simp[h0]
    have e:lexS (x::ra) (y::rb)=ordI x y:=by rw[lexS,if_neg (fun h=>h0 (qcC.1 h))]
    rw[e] at hQ1
    have fX:=(cJ5 @hd @hw @hga @hgb @hz)
    refine qaa qjB.eq_1 ?_
    refine wR0 400 [0,1,5,19] fX ?_
    refine wT @hd ?_
    refine wR0 500 [0,1,5,30] fX ?_
    refine wT @hz ?_
    refine wRn 600 [4] fX ?_
    refine rC fX ?_
    refine⟨_,hc,rE fX ?_⟩
    refine wE ?_
    refine wN ?_
    exact hQ1
theorem qmB (a b:List Int)(ha:a.length≤1000000)(hb:b.length≤1000000):TP Tryz.prog 21 [.list (qac a),.list (qac b)] (.int .i64 (vCmp a b)):=by
 by_cases hab:a.length=b.length
 ·have hz:(((qac a).length:Int) != (qac b).length)=false:=by rw[qad,qad,hab];simp
  have e:vCmp a b=lexS a b:=by rw[vCmp,hab,if_pos (qkZ _)]
  rw[e]
  have fX:=@hz
  refine qah fn21 (by simp) ?_
  unfold i21
  simp only[argL]
  refine wR0 0 [0,1] fX ?_
  refine wR0 100 [0,1,10] fX ?_
  refine wF @hz ?_
  refine wR0 300 [0,1,5] fX ?_
  refine wL ?_
  refine qtI a b ha hab _ a b [] [] 0 rfl rfl rfl rfl ?_ ?_
  ·intro h i
   refine wN ?_
   refine wR0 800 [4] fX ?_
   refine wP ?_
   exact qaE h.symm
  ·skip
   refine wN ?_
   exact⟨by simp,_,rfl,by exact .same rfl⟩
 ·have hz:(((qac a).length:Int) != (qac b).length)=true:=by rw[qad,qad];simp;omega
  have e:vCmp a b=ordI a.length b.length:=by rw[vCmp,if_neg (fun h=>hab (by have:=qcC.1 h;omega))]
  rw[e]
  have fX:=@hz
  refine qah fn21 (by simp) ?_
  unfold i21
  simp only[argL]
  refine wR0 0 [0,1] fX ?_
  refine wR0 100 [0,1,10] fX ?_
  refine wT @hz ?_
  refine wRn 200 [4] fX ?_
  refine rC fX ?_
  refine⟨_,qf2 _ _,rE fX ?_⟩
  refine wP ?_
  exact qaE (by rw[qad,qad])
theorem qjP:∀(a b:List Int),lexS a b=0↔a=b
 | [],[]=>by simp[lexS]
 | [],_::_=>by simp[lexS]
 | _::_,[]=>by simp[lexS]
 | a::l,b::m=>by
  rw[lexS]
  split
  ·rename_i h;rw[qjP l m];have:=qcC.1 h;simp[this]
  ·rename_i h;simp only[List.cons.injEq];exact⟨fun h'=>absurd h' h,fun h'=>absurd (qcC.2 h'.1) h⟩
theorem qqe (a b:List Int):vCmp a b=0↔a=b:=by
 rw[vCmp]
 split
 ·exact qjP a b
 ·rename_i h;exact⟨fun h'=>absurd h' h,fun h'=>absurd (by rw[h',qkZ]) h⟩
theorem qpF (a b:List Int)(ha:a.length≤1000000)(hb:b.length≤1000000):TP Tryz.prog 19 [.list (qac a),.list (qac b)] (.bool (a==b)):=by
 refine qah fn19 (by simp) ?_
 unfold i19
 simp only[argL]
 refine wR0 0 [0,1] cJ0 ?_
 refine wRn 100 [4] cJ0 ?_
 refine rC cJ0 ?_
 refine⟨_,qmB a b ha hb,rE cJ0 ?_⟩
 refine wP ?_
 exact qab (by have:=qqe a b;rw[Bool.eq_iff_iff];simp[this])
theorem qaK (zs:List T):repl 1 zs=zs:=by simp[repl]
def qb2 (id:Nat)(done:List Int):T:=match done with
 | []=>.nil
 | x::l=>.sl id (l.length+1) 0 0 (l.length+1)
def qb1 (id ty:Nat)(done:List Int):List (Nat×Slot):=match done with
 | []=>[]
 | x::l=>[(id,.live ⟨ty,qac (x::l)⟩)]
theorem qoI {H:Heap}{D:Nat→Bool}{id ty n tot:Nat}(l:List Int)(hb:H id=.live ⟨ty,qac l⟩)(hd:D id=false)(hn:n=l.length)(ht:tot=l.length):Fz H D (.sl id tot 0 0 n) (.list (qac l)):=by
 subst hn ht
 refine Fz.sl hb hd (qad l) (by simp[esz]) (qad l) (qfE l) (by rw[qbT];exact qhy l) fun k hk=>?_
 rw[qbT,Nat.zero_add]
 exact .same (qa5 (qae _ l) k)
theorem qcJ (ys:List Int)(i:Nat)(h:i<ys.length):ys.take (i+1)=ys.take i++[ys.getD i 0]:=by
 rw[List.take_add_one,List.getElem?_eq_getElem h]
 simp[List.getD_eq_getElem?_getD,h]
abbrev natV (n:Int):V:=.mk n []
def cfV (s:Int)(v:List Int):V:=.mk 0 (natV s::v.map natV)
theorem qeP (v:List Int)(i:Nat)(h:i<v.length):(qag (v.map natV)).getD (i:Int).toNat .undef=.agg [.int .i64 (v.getD i 0),.list []]:=by
 rw[qc5]
 simp[List.getD_eq_getElem?_getD,h,encV,qag]
theorem qc6 (v:List Int):(qag (v.map natV)).length=v.length:=by rw[qam,List.length_map]
theorem qa3 (s:Int)(v:List Int):encV (cfV s v)=.agg [.int .i64 0,.list (encV (natV s)::qag (v.map natV))]:=rfl
theorem qnJ (s:Int)(v:List Int)(hl:v.length≤1000000)(Q:IExit→(Nat→T)→Heap→Prop)(hQ:∀j:Int,Q (.exit 0) (ofL [(3,qb2 504 v),(8,.list (qag (v.map natV))),(9,.int .i64 (qag (v.map natV)).length),(10,.int .i64 j),(11,.bool false)]) (hpL ([(0,.live ⟨31,[.int .i64 0,.list (encV (natV s)::qag (v.map natV))]⟩)]++qb1 504 3 v))):∀(k i:Nat) (done:List Int),i+k=v.length→done=v.take i→
 WL Tryz.prog 21 qjD (ofL [(3,qb2 504 done),(8,.list (qag (v.map natV))),(9,.int .i64 (qag (v.map natV)).length),(10,.int .i64 i)]) (hpL ([(0,.live ⟨31,[.int .i64 0,.list (encV (natV s)::qag (v.map natV))]⟩)]++qb1 504 3 done)) Q:=by
 have hal:=qc6 v
 intro k
 induction k with
 | zero=>
  intro i done hk hdn
  have hd:decide ((i:Int)<((qag (v.map natV)).length:Int))=false:=decide_eq_false (by omega)
  have e:done=v:=by rw[hdn];exact List.take_of_length_le (by omega)
  subst e
  have fX:=@hd
  refine qaa qjD.eq_1 ?_
  refine wR0 300 [3,8,9,10,11] fX ?_
  refine wF @hd ?_
  refine wX ?_
  refine wN ?_
  exact hQ _
 | succ k ih=>
  intro i done hk hdn
  have hil:i<v.length:=by omega
  have hlt:(i:Int)<((qag (v.map natV)).length:Int):=(by omega);have hd:decide ((i:Int)<((qag (v.map natV)).length:Int))=true:=decide_eq_true hlt;have hw:IntKind.wrap .i64 ((i:Int)+1)=((i+1:Nat):Int):=(by rw[wrap64 (by omega) (by omega)];rfl);have hg:=qeP v i hil
  have hQ':=ih (i+1) (done++[v.getD i 0]) (by omega) (by rw[hdn];exact (qcJ _ _ (by omega)).symm)
  have hdl:done.length=i:=by rw[hdn,List.length_take];omega
  cases done with
  | nil=>
   simp only[qb2,qb1,List.nil_append,List.append_nil,List.cons_append] at hQ' ⊢
   have fX:=(cJ4 @hd @hw @qaK @hg)
   refine qaa qjD.eq_1 ?_
   refine W_gc ?_
   refine wR0 300 [3,8,9,10,11] fX ?_
   refine wT fX ?_
   refine wR0 400 [3,5,8,9,10] fX ?_
   refine wR0 500 [3,8,9,10] fX ?_
   refine wR0 600 [3,8,9,10] fX ?_
   refine wN ?_
   refine qaP [0,504] (by simp[inL]) (by simp[inL,T.cl,qak]) (by simp[qan,inL,Slot.cl,T.cl,clL,qak,qca]) ?_
   simpa [qan,inL,qac] using hQ'
  | cons z l=>
   have hlb:l.length+1≤1000000:=by simp at hdl;omega
   have he:(qac (z::l)).length=l.length+1:=by simp[qac]
   simp only[qb2,qb1,List.nil_append,List.cons_append] at hQ' ⊢
   have fX:=(cJ5 @hd @hw @qaK @he @hg)
   refine qaa qjD.eq_1 ?_
   refine W_gc ?_
   refine wR0 300 [3,8,9,10,11] fX ?_
   refine wT fX ?_
   refine wR0 400 [3,5,8,9,10] fX ?_
   refine wR0 500 [3,8,9,10] fX ?_
   refine wR0 600 [3,8,9,10] fX ?_
   refine wN ?_
   refine qaP [0,504] (by simp[inL]) (by simp[inL,T.cl,qak]) (by simp[qan,inL,Slot.cl,T.cl,clL,qap,qae,qak,qca]) ?_
   simpa [qan,inL,qac] using hQ'
theorem qlk (s:Int)(v:List Int)(hl:v.length≤1000000):TP Tryz.prog 27 [encV (cfV s v)] (.list (qac v)):=by
 rw[qa3]
 have hal:=qc6 v
 have hsz:=qkF (v.map natV)
 refine qah fn27 (by simp) ?_
 unfold i27
 simp only[argL,encV]
 refine wR0 0 [1] cJ0 ?_
 refine wR0 100 [1,3] cJ0 ?_
 refine wR0 200 [3,8,9,10] cJ0 ?_
 simp only[thn]
 have hone:Int.toNat 1=1:=rfl
 simp only[hone,Nat.add_sub_cancel,List.take_length,List.drop_succ_cons,List.drop_zero]
 refine wL ?_
 refine qnJ s v hl _ ?_ v.length 0 [] (by omega) (by simp)
 ·intro j
  refine wN ?_
  refine wN ?_
  rcases v with _ | ⟨x,l⟩
  ·skip
   refine wN ?_
   simp only[qb2,qb1]
   refine wR0 700 [2] cJ0 ?_
   refine wP ?_
   first | exact .nil | exact qbx (x::l) rfl rfl rfl
  ·skip
   refine wN ?_
   simp only[qb2,qb1]
   refine wR0 700 [2] cJ0 ?_
   refine wP ?_
   first | exact .nil | exact qbx (x::l) rfl rfl rfl
theorem qrn (s:Int)(v:List Int)(hl:v.length≤1000000)(Q:IExit→(Nat→T)→Heap→Prop)(hQ:∀j:Int,Q (.exit 0) (ofL [(1,.ref 0 2 0),(3,qb2 408 v),(4,.int .i64 j),(9,.bool false)]) (hpL ([(0,.live ⟨31,[.int .i64 0,.list (encV (natV s)::qag (v.map natV))]⟩)]++qb1 408 3 v))):∀(k i:Nat) (done:List Int),i+k=v.length→done=v.take i→
 WL Tryz.prog 22 qjz (ofL [(1,.ref 0 2 0),(3,qb2 408 done),(4,.int .i64 (i+1:Nat))]) (hpL ([(0,.live ⟨31,[.int .i64 0,.list (encV (natV s)::qag (v.map natV))]⟩)]++qb1 408 3 done)) Q:=by
 have hal:=qc6 v
 intro k
 induction k with
 | zero=>
  intro i done hk hdn
  have hd:decide (((i+1:Nat):Int)<(((qag (v.map natV)).length+1:Nat):Int))=false:=decide_eq_false (by omega)
  have e:done=v:=by rw[hdn];exact List.take_of_length_le (by omega)
  subst e
  have fX:=@hd
  refine qaa qjz.eq_1 ?_
  refine wR0 300 [1,3,4,9] fX ?_
  refine wF @hd ?_
  refine wX ?_
  refine wN ?_
  exact hQ _
 | succ k ih=>
  intro i done hk hdn
  have hil:i<v.length:=by omega
  have hlt:((i+1:Nat):Int)<(((qag (v.map natV)).length+1:Nat):Int):=(by omega);have hd:decide (((i+1:Nat):Int)<(((qag (v.map natV)).length+1:Nat):Int))=true:=decide_eq_true hlt;have hw:IntKind.wrap .i64 (((i+1:Nat):Int)+1)=((i+1+1:Nat):Int):=(by rw[wrap64 (by omega) (by omega)];rfl);have hg:(encV (natV s)::qag (v.map natV)).getD ((i+1:Nat):Int).toNat .undef=.agg [.int .i64 (v.getD i 0),.list []]:=qeP v i hil
  have hQ':=ih (i+1) (done++[v.getD i 0]) (by omega) (by rw[hdn];exact (qcJ _ _ (by omega)).symm)
  have hdl:done.length=i:=by rw[hdn,List.length_take];omega
  cases done with
  | nil=>
   simp only[qb2,qb1,List.nil_append,List.append_nil,List.cons_append] at hQ' ⊢
   have fX:=(cJ4 @hd @hw @qaK @hg)
   refine qaa qjz.eq_1 ?_
   refine W_gc ?_
   refine wR0 300 [1,3,4,9] fX ?_
   refine wT fX ?_
   refine wR0 400 [1,3,4] fX ?_
   refine wR0 500 [1,3,4] fX ?_
   refine wN ?_
   refine qaP [0,408] (by simp[inL]) (by simp[inL,T.cl]) (by simp[qan,inL,Slot.cl,T.cl,clL,qak,qca]) ?_
   simpa [qan,inL,qac] using hQ'
  | cons z l=>
   have hlb:l.length+1≤1000000:=by simp at hdl;omega
   have he:(qac (z::l)).length=l.length+1:=by simp[qac]
   simp only[qb2,qb1,List.nil_append,List.cons_append] at hQ' ⊢
   have fX:=(cJ5 @hd @hw @qaK @he @hg)
   refine qaa qjz.eq_1 ?_
   refine W_gc ?_
   refine wR0 300 [1,3,4,9] fX ?_
   refine wT fX ?_
   refine wR0 400 [1,3,4] fX ?_
   refine wR0 500 [1,3,4] fX ?_
   refine wN ?_
   refine qaP [0,408] (by simp[inL]) (by simp[inL,T.cl]) (by simp[qan,inL,Slot.cl,T.cl,clL,qap,qae,qak,qca]) ?_
   simpa [qan,inL,qac] using hQ'
theorem qg8 (s:Int)(v:List Int)(hl:v.length≤1000000):TP Tryz.prog 15 [encV (cfV s v)] (.list (qac v)):=by
 rw[qa3]
 refine qah fn15 (by simp) ?_
 unfold i15
 simp only[argL,encV]
 refine wR0 0 [1] cJ0 ?_
 refine wR0 100 [1,3] cJ0 ?_
 refine wR0 200 [1,3,4] cJ0 ?_
 refine wL ?_
 refine qrn s v hl _ ?_ v.length 0 [] (by omega) (by simp)
 ·intro j
  refine wN ?_
  refine wN ?_
  rcases v with _ | ⟨x,l⟩
  ·skip
   refine wN ?_
   simp only[qb2,qb1]
   refine wR0 600 [2] cJ0 ?_
   refine wP ?_
   first | exact .nil | exact qbx (x::l) rfl rfl rfl
  ·skip
   refine wN ?_
   simp only[qb2,qb1]
   refine wR0 600 [2] cJ0 ?_
   refine wP ?_
   first | exact .nil | exact qbx (x::l) rfl rfl rfl
end
end Go.Proofs.YtoeeppojakbciaaGreat
