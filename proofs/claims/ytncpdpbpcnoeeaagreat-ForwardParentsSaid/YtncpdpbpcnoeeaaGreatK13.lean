/- Contracts of functions of the program, for all arguments that they name. -/
import Derived.Test.YtncpdpbpcnoeeaaGreatK12
namespace Go.Proofs.YtncpdpbpcnoeeaaGreat
set_option linter.unusedVariables false
section
open Go.RowKit
set_option maxHeartbeats 2000000
def lexS:List Int→List Int→Int
 | [],[]=>0
 | [],_::_ => -1
 | _::_,[]=>1
 | a::l,b::m=>if ordI a b=0 then lexS l m else ordI a b
def vCmp (a b:List Int):Int:=if ordI a.length b.length=0 then lexS a b else ordI a.length b.length
theorem qqd (a:Int):ordI a a=0:=by simp[ordI]
theorem qgY {a b:Int}:ordI a b=0↔a=b:=by
 unfold ordI
 split
 ·simp;omega
 ·split
  ·simp;omega
  ·simp;omega
theorem qjl (pre:List Int)(x:Int)(r:List Int)(i:Nat)(h:pre.length=i):(qab (pre++x::r)).getD (i:Int).toNat .undef=.int .i64 x:=by
 rw[Int.toNat_natCast,←h];exact qc0 _ x _
theorem qkS (a b:List Int)(ha:a.length≤1000000)(hb:b.length≤1000000)(Q:IExit→(Nat→T)→Heap→Prop):∀(ra rb pa pb:List Int) (i:Nat),a=pa++ra→b=pb++rb→pa.length=i→pb.length=i→
 (ra.length≤rb.length→lexS ra rb=(if ra.length<rb.length then -1 else 0)→∀j:Int,Q (.exit 0) (ofL [(0,.list (qab a)),(1,.list (qab b)),(9,.list (qab a)),(10,.int .i64 (qab a).length),(11,.int .i64 j),(12,.bool false)]) (hpL []))→
 Q .ret (ofL [(4,.int .i64 (lexS ra rb))]) (hpL [])→
 WL Tryz.prog 36 qem (ofL [(0,.list (qab a)),(1,.list (qab b)),(9,.list (qab a)),(10,.int .i64 (qab a).length),(11,.int .i64 i)]) (hpL []) Q:=by
 intro ra
 induction ra with
 | nil=>
  intro rb pa pb i ea eb hi hj hQ0 hQ1
  have hd:decide ((i:Int)<((qab a).length:Int))=false:=by rw[qac,ea];simp;omega
  have fX:=@hd
  refine qaa qem.eq_1 ?_
  refine wR0 200 [0,1,9,10,11,12] fX ?_
  refine wF @hd ?_
  refine wX ?_
  refine wN ?_
  exact hQ0 (by simp) (by cases rb<;>simp[lexS]) _
 | cons x ra ih=>
  intro rb pa pb i ea eb hi hj hQ0 hQ1
  have hlt:(i:Int)<((qab a).length:Int):=by rw[qac,ea];simp;omega
  have hla:i≤1000000:=by rw[ea] at ha;simp at ha;omega
  have hd:decide ((i:Int)<((qab a).length:Int))=true:=decide_eq_true hlt
  have hw:IntKind.wrap .i64 ((i:Int)+1)=((i+1:Nat):Int):=by rw[wrap64 (by omega) (by omega)];rfl
  have hga:(qab a).getD (i:Int).toNat .undef=.int .i64 x:=by rw[ea];exact qjl pa x ra i hi
  cases rb with
  | nil=>
   have hge:decide ((i:Int)≥((qab b).length:Int))=true:=by rw[qac,eb];simp;omega
   have fX:=(cJ4 @hd @hw @hga @hge)
   refine qaa qem.eq_1 ?_
   refine wR0 200 [0,1,9,10,11,12] fX ?_
   refine wT @hd ?_
   refine wR0 300 [0,1,5,6,9,10,11] fX ?_
   refine wR0 400 [0,1,5,6,9,10,11,19] fX ?_
   refine wT @hge ?_
   refine wR0 500 [4] fX ?_
   refine wE ?_
   refine wN ?_
   exact hQ1
  | cons y rb=>
   have hlb:(i:Int)<((qab b).length:Int):=by rw[qac,eb];simp;omega
   have hge:decide ((i:Int)≥((qab b).length:Int))=false:=decide_eq_false (by omega)
   have hgb:(qab b).getD (i:Int).toNat .undef=.int .i64 y:=by rw[eb];exact qjl pb y rb i hj
   have hc:=qeZ x y
   by_cases h0:ordI x y=0
   ·have hz:(ordI x y != 0)=false:=by simp[h0]
    have e:lexS (x::ra) (y::rb)=lexS ra rb:=by rw[lexS,if_pos h0]
    rw[e] at hQ0 hQ1
    have hQ':=ih rb (pa++[x]) (pb++[y]) (i+1) (by simpa using ea) (by simpa using eb) (by simp[hi]) (by simp[hj]) (fun h1 h2=>hQ0 (by simpa using h1) (by simpa using h2)) hQ1
    have fX:=(cJ6 @hd @hw @hga @hgb @hge @hz)
    refine qaa qem.eq_1 ?_
    refine wR0 200 [0,1,9,10,11,12] fX ?_
    refine wT @hd ?_
    refine wR0 300 [0,1,5,6,9,10,11] fX ?_
    refine wR0 400 [0,1,5,6,9,10,11,19] fX ?_
    refine wF @hge ?_
    refine wR0 600 [0,1,6,7,9,10,11] fX ?_
    refine wRn 700 [0,1,8,9,10,11] fX ?_
    refine rC fX ?_
    refine⟨_,hc,rE fX ?_⟩
    refine wR0 800 [0,1,8,9,10,11,28] fX ?_
    refine wF @hz ?_
    refine wR0 1000 [0,1,9,10,11] fX ?_
    refine wN ?_
    exact hQ'
   ·have hz:(ordI x y != 0)=true:=by simp[h0]
    have e:lexS (x::ra) (y::rb)=ordI x y:=by rw[lexS,if_neg h0]
    rw[e] at hQ1
    have fX:=(cJ6 @hd @hw @hga @hgb @hge @hz)
    refine qaa qem.eq_1 ?_
    refine wR0 200 [0,1,9,10,11,12] fX ?_
    refine wT @hd ?_
    refine wR0 300 [0,1,5,6,9,10,11] fX ?_
    refine wR0 400 [0,1,5,6,9,10,11,19] fX ?_
    refine wF @hge ?_
    refine wR0 600 [0,1,6,7,9,10,11] fX ?_
    refine wRn 700 [0,1,8,9,10,11] fX ?_
    refine rC fX ?_
    refine⟨_,hc,rE fX ?_⟩
    refine wR0 800 [0,1,8,9,10,11,28] fX ?_
    refine wT @hz ?_
    refine wR0 900 [4] fX ?_
    refine wE ?_
    refine wN ?_
    exact hQ1
theorem qiZ (a b:List Int)(ha:a.length≤1000000)(hb:b.length≤1000000):TP Tryz.prog 105 [.list (qab a),.list (qab b)] (.int .i64 (lexS a b)):=by
 refine qai fn105 (by simp) ?_
 unfold i105
 simp only[argL]
 refine wR0 0 [0,1] cJ0 ?_
 refine wR0 100 [0,1,9,10,11] cJ0 ?_
 refine wL ?_
 refine qkS a b ha hb _ a b [] [] 0 rfl rfl rfl rfl ?_ ?_
 ·intro h1 h2 j
  refine wN ?_
  refine wR0 1100 [35] cJ0 ?_
  refine wS cJ0 (fun hc1100=>?_) (fun hc1100=>?_)
  ·skip
   refine wR0 1200 [4] cJ0 ?_
   refine wP ?_
   exact qaB (by simp[qac] at hc1100;rw[h2,if_pos hc1100])
  ·skip
   refine wR0 1300 [4] cJ0 ?_
   refine wP ?_
   exact qaB (by simp[qac] at hc1100;rw[h2,if_neg (by omega)])
 ·skip
  refine wN ?_
  exact⟨by simp,_,rfl,by exact .same rfl⟩
theorem qi4 (a b:List Int)(ha:a.length≤1000000)(hb:b.length≤1000000):TP Tryz.prog 59 [.list (qab a),.list (qab b)] (.int .i64 (vCmp a b)):=by
 have fX:=@qiV
 refine qai fn59 (by simp) ?_
 unfold i59
 simp only[argL]
 refine wR0 0 [0,1] fX ?_
 refine wRn 100 [4] fX ?_
 refine rC fX ?_
 refine⟨_,qeZ _ _,rN fX ?_⟩
 refine rC fX ?_
 refine⟨_,qiZ a b ha hb,rN fX ?_⟩
 refine rL [(108,.live ⟨3,qab [ordI (qab a).length (qab b).length,lexS a b]⟩)] fX ?_
 refine⟨_,_,qlx [ordI (qab a).length (qab b).length,lexS a b] (by simp),(by exact FrzL.cons (qbt [ordI (qab a).length (qab b).length,lexS a b] rfl rfl rfl) FrzL.nil),rfl,rE fX ?_⟩
 refine wP ?_
 exact qaB (by simp only[qac,orL,vCmp,ne_eq];split<;>simp_all)
theorem qiT (x:Int):TP Tryz.prog 63 [.int .i64 x] (.bool (elO x)):=by
 refine qai fn63 (by simp) ?_
 unfold i63
 simp only[argL]
 refine wR0 0 [0] cJ0 ?_
 refine wR0 100 [2] cJ0 ?_
 refine wP ?_
 exact qad rfl
theorem qmL (a:List Int)(hl:a.length≤1000000)(Q:IExit→(Nat→T)→Heap→Prop):∀(k i:Nat),i+k=a.length→
 (allI (fun j=>elO (a.getD j 0)) i k=true→∀j:Int,Q (.exit 0) (ofL [(0,.list (qab a)),(3,.int .i64 j),(7,.bool false)]) (hpL []))→
 (allI (fun j=>elO (a.getD j 0)) i k=false→Q .ret (ofL [(2,.bool false)]) (hpL []))→
 WL Tryz.prog 19 qjA (ofL [(0,.list (qab a)),(3,.int .i64 i)]) (hpL []) Q:=by
 skip
 intro k
 induction k with
 | zero=>
  intro i hk hQ0 hQ1
  have hd:decide ((i:Int)<((qab a).length:Int))=false:=decide_eq_false (by rw[qac];omega)
  have fX:=@hd
  refine qaa qjA.eq_1 ?_
  refine wR0 200 [0,3,7] fX ?_
  refine wF @hd ?_
  refine wX ?_
  refine wN ?_
  exact hQ0 rfl _
 | succ k ih=>
  intro i hk hQ0 hQ1
  have hlt:(i:Int)<((qab a).length:Int):=by rw[qac];omega
  have hd:decide ((i:Int)<((qab a).length:Int))=true:=decide_eq_true hlt
  have hw:IntKind.wrap .i64 ((i:Int)+1)=((i+1:Nat):Int):=by rw[wrap64 (by omega) (by omega)];rfl
  have hga:=qaE a i (by omega)
  have fX:=(cJ3 @hd @hw @hga)
  refine qaa qjA.eq_1 ?_
  refine wR0 200 [0,3,7] fX ?_
  refine wT @hd ?_
  refine wRn 300 [0,3,15] fX ?_
  refine rC fX ?_
  refine⟨_,qiT (a.getD i 0),rE fX ?_⟩
  refine wS cJ0 (fun hc300=>?_) (fun hc300=>?_)
  ·skip
   refine wR0 400 [2] fX ?_
   refine wE ?_
   refine wN ?_
   simp at hc300
   exact hQ1 (by simp[allI,hc300])
  ·skip
   refine wR0 500 [0,3] fX ?_
   refine wN ?_
   simp at hc300
   have e:allI (fun j=>elO (a.getD j 0)) i (k+1)=allI (fun j=>elO (a.getD j 0)) (i+1) k:=(by simp[allI,hc300])
   rw[e] at hQ0 hQ1
   exact ih (i+1) (by omega) hQ0 hQ1
theorem qgm (v:List Int)(hl:v.length≤1000000):TP Tryz.prog 42 [.list (qab v)] (.bool (vOk v)):=by
 have e:=qlH elO v
 refine qai fn42 (by simp) ?_
 unfold i42
 simp only[argL]
 refine wR0 0 [0] cJ0 ?_
 refine wR0 100 [0,3] cJ0 ?_
 refine wL ?_
 refine qmL v hl _ v.length 0 (by omega) ?_ ?_
 ·intro h i
  refine wN ?_
  refine wR0 600 [2] cJ0 ?_
  refine wP ?_
  exact qad (by rw[e] at h;simp only[vOk,qac,h,Bool.and_true])
 ·intro h
  refine wN ?_
  exact⟨by simp,_,rfl,by exact qad (by rw[e] at h;simp only[vOk,h,Bool.and_false])⟩
theorem qqp (a b:List Int)(hl:a.length≤1000000)(hab:a.length=b.length)(Q:IExit→(Nat→T)→Heap→Prop):∀(k i:Nat),i+k=a.length→
 (allI (fun j=>!decide (a.getD j 0 > b.getD j 0)) i k=true→∀j:Int,Q (.exit 0) (ofL [(0,.list (qab a)),(1,.list (qab b)),(5,.int .i64 j),(24,.bool false)]) (hpL []))→
 (allI (fun j=>!decide (a.getD j 0 > b.getD j 0)) i k=false→Q .ret (ofL [(4,.bool false)]) (hpL []))→
 WL Tryz.prog 36 qju (ofL [(0,.list (qab a)),(1,.list (qab b)),(5,.int .i64 i)]) (hpL []) Q:=by
 skip
 intro k
 induction k with
 | zero=>
  intro i hk hQ0 hQ1
  have hd:decide ((i:Int)<((qab a).length:Int))=false:=decide_eq_false (by rw[qac];omega)
  have fX:=@hd
  refine qaa qju.eq_1 ?_
  refine wR0 400 [0,1,5,24] fX ?_
  refine wF @hd ?_
  refine wX ?_
  refine wN ?_
  exact hQ0 rfl _
 | succ k ih=>
  intro i hk hQ0 hQ1
  have hlt:(i:Int)<((qab a).length:Int):=by rw[qac];omega
  have hd:decide ((i:Int)<((qab a).length:Int))=true:=decide_eq_true hlt
  have hw:IntKind.wrap .i64 ((i:Int)+1)=((i+1:Nat):Int):=by rw[wrap64 (by omega) (by omega)];rfl
  have hga:=qaE a i (by omega);have hgb:=qaE b i (by omega);have hlb:(i:Int)<((qab b).length:Int):=by rw[qac];omega
  have fX:=(cJ4 @hd @hw @hga @hgb)
  refine qaa qju.eq_1 ?_
  refine wR0 400 [0,1,5,24] fX ?_
  refine wT @hd ?_
  refine wR0 500 [0,1,5,35] fX ?_
  refine wS cJ0 (fun hc500=>?_) (fun hc500=>?_)
  ·skip
   refine wR0 600 [4] fX ?_
   refine wE ?_
   refine wN ?_
   simp at hc500
   exact hQ1 (by simp[allI,hc500])
  ·skip
   refine wR0 700 [0,1,5] fX ?_
   refine wN ?_
   simp at hc500
   have e:allI (fun j=>!decide (a.getD j 0 > b.getD j 0)) i (k+1)=allI (fun j=>!decide (a.getD j 0 > b.getD j 0)) (i+1) k:=(by simp[allI,hc500])
   rw[e] at hQ0 hQ1
   exact ih (i+1) (by omega) hQ0 hQ1
theorem qoz (a b:List Int)(hl:a.length≤1000000)(hm:b.length≤1000000):TP Tryz.prog 21 [.list (qab a),.list (qab b)] (.bool (vLe a b)):=by
 have ha:=qgm a hl
 have hb:=qgm b hm
 by_cases hx:vOk a=true∧vOk b=true∧a.length=b.length
 ·obtain⟨h1,h2,hab⟩:=hx
  rw[h1] at ha
  rw[h2] at hb
  have hz:(((qab a).length:Int) != (qab b).length)=false:=by rw[qac,qac,hab];simp
  have e:vLe a b=leI a b:=by simp[vLe,h1,h2,hab]
  rw[e]
  have fX:=@hz
  refine qai fn21 (by simp) ?_
  unfold i21
  simp only[argL]
  refine wR0 0 [0,1] fX ?_
  refine wRn 100 [0,1,20] fX ?_
  refine rC fX ?_
  refine⟨_,ha,rN fX ?_⟩
  refine rCi fX ?_
  refine⟨_,fun hw=>hb,rE fX ?_⟩
  refine wF @hz ?_
  refine wR0 300 [0,1,5] fX ?_
  refine wL ?_
  refine qqp a b hl hab _ a.length 0 (by omega) ?_ ?_
  ·intro h i
   refine wN ?_
   refine wR0 800 [4] fX ?_
   refine wP ?_
   exact qad h.symm
  ·intro h
   refine wN ?_
   exact⟨by simp,_,rfl,by exact qad h.symm⟩
 ·have e:vLe a b=false:=by
   rw[Bool.eq_false_iff];intro h
   simp only[vLe,Bool.and_eq_true,beq_iff_eq] at h
   exact hx ⟨h.1.1.1,h.1.1.2,by omega⟩
  rw[e]
  rcases h1:vOk a with _ | _
  ·rw[h1] at ha
   refine qai fn21 (by simp) ?_
   unfold i21
   simp only[argL]
   refine wR0 0 [0,1] cJ0 ?_
   refine wRn 100 [0,1,20] cJ0 ?_
   refine rC cJ0 ?_
   refine⟨_,ha,rE cJ0 ?_⟩
   refine wT cJ0 ?_
   refine wR0 200 [4] cJ0 ?_
   refine wP ?_
   exact qad rfl
  ·rw[h1] at ha
   rcases h2:vOk b with _ | _
   ·rw[h2] at hb
    refine qai fn21 (by simp) ?_
    unfold i21
    simp only[argL]
    refine wR0 0 [0,1] cJ0 ?_
    refine wRn 100 [0,1,20] cJ0 ?_
    refine rC cJ0 ?_
    refine⟨_,ha,rN cJ0 ?_⟩
    refine rC cJ0 ?_
    refine⟨_,hb,rE cJ0 ?_⟩
    refine wT cJ0 ?_
    refine wR0 200 [4] cJ0 ?_
    refine wP ?_
    exact qad rfl
   ·rw[h2] at hb
    have hz:(((qab a).length:Int) != (qab b).length)=true:=by
     rw[qac,qac];simp only[bne_iff_ne,ne_eq];intro h;exact hx ⟨h1,h2,by omega⟩
    have fX:=@hz
    refine qai fn21 (by simp) ?_
    unfold i21
    simp only[argL]
    refine wR0 0 [0,1] fX ?_
    refine wRn 100 [0,1,20] fX ?_
    refine rC fX ?_
    refine⟨_,ha,rN fX ?_⟩
    refine rC fX ?_
    refine⟨_,hb,rE fX ?_⟩
    refine wT @hz ?_
    refine wR0 200 [4] fX ?_
    refine wP ?_
    exact qad rfl
theorem qaK (zs:List T):repl 1 zs=zs:=by simp[repl]
def qb0 (id:Nat)(done:List Int):T:=match done with
 | []=>.nil
 | x::l=>.sl id (l.length+1) 0 0 (l.length+1)
def qbZ (id ty:Nat)(done:List Int):List (Nat×Slot):=match done with
 | []=>[]
 | x::l=>[(id,.live ⟨ty,qab (x::l)⟩)]
theorem qlW {H:Heap}{D:Nat→Bool}{id ty n tot:Nat}(l:List Int)(hb:H id=.live ⟨ty,qab l⟩)(hd:D id=false)(hn:n=l.length)(ht:tot=l.length):Fz H D (.sl id tot 0 0 n) (.list (qab l)):=by
 subst hn ht
 refine Fz.sl hb hd (qac l) (by simp[esz]) (qac l) (qev l) (by rw[qby];exact qf0 l) fun k hk=>?_
 rw[qby,Nat.zero_add]
 exact .same (qaP (qae _ l) k)
theorem qc6 (ys:List Int)(i:Nat)(h:i<ys.length):ys.take (i+1)=ys.take i++[ys.getD i 0]:=by
 rw[List.take_add_one,List.getElem?_eq_getElem h]
 simp[List.getD_eq_getElem?_getD,h]
abbrev natV (n:Int):V:=.mk n []
def cfV (s:Int)(v:List Int):V:=.mk 0 (natV s::v.map natV)
theorem qlK (v:List Int)(i:Nat)(h:i<v.length):(qaj (v.map natV)).getD (i:Int).toNat .undef=.agg [.int .i64 (v.getD i 0),.list []]:=by
 rw[qcp]
 simp[List.getD_eq_getElem?_getD,h,encV,qaj]
theorem qf5 (v:List Int):(qaj (v.map natV)).length=v.length:=by rw[qat,List.length_map]
theorem qgs (s:Int)(v:List Int):encV (cfV s v)=.agg [.int .i64 0,.list (encV (natV s)::qaj (v.map natV))]:=rfl
theorem qkX (s:Int)(v:List Int)(hl:v.length≤1000000)(Q:IExit→(Nat→T)→Heap→Prop)(hQ:∀j:Int,Q (.exit 0) (ofL [(3,qb0 504 v),(8,.list (qaj (v.map natV))),(9,.int .i64 (qaj (v.map natV)).length),(10,.int .i64 j),(11,.bool false)]) (hpL ([(0,.live ⟨31,[.int .i64 0,.list (encV (natV s)::qaj (v.map natV))]⟩)]++qbZ 504 3 v))):∀(k i:Nat) (done:List Int),i+k=v.length→done=v.take i→
 WL Tryz.prog 21 qhJ (ofL [(3,qb0 504 done),(8,.list (qaj (v.map natV))),(9,.int .i64 (qaj (v.map natV)).length),(10,.int .i64 i)]) (hpL ([(0,.live ⟨31,[.int .i64 0,.list (encV (natV s)::qaj (v.map natV))]⟩)]++qbZ 504 3 done)) Q:=by
 have hal:=qf5 v
 intro k
 induction k with
 | zero=>
  intro i done hk hdn
  have hd:decide ((i:Int)<((qaj (v.map natV)).length:Int))=false:=decide_eq_false (by omega)
  have e:done=v:=by rw[hdn];exact List.take_of_length_le (by omega)
  subst e
  have fX:=@hd
  refine qaa qhJ.eq_1 ?_
  refine wR0 300 [3,8,9,10,11] fX ?_
  refine wF @hd ?_
  refine wX ?_
  refine wN ?_
  exact hQ _
 | succ k ih=>
  intro i done hk hdn
  have hil:i<v.length:=by omega
  have hlt:(i:Int)<((qaj (v.map natV)).length:Int):=(by omega);have hd:decide ((i:Int)<((qaj (v.map natV)).length:Int))=true:=decide_eq_true hlt;have hw:IntKind.wrap .i64 ((i:Int)+1)=((i+1:Nat):Int):=(by rw[wrap64 (by omega) (by omega)];rfl);have hg:=qlK v i hil
  have hQ':=ih (i+1) (done++[v.getD i 0]) (by omega) (by rw[hdn];exact (qc6 _ _ (by omega)).symm)
  have hdl:done.length=i:=by rw[hdn,List.length_take];omega
  cases done with
  | nil=>
   simp only[qb0,qbZ,List.nil_append,List.append_nil,List.cons_append] at hQ' ⊢
   have fX:=(cJ4 @hd @hw @qaK @hg)
   refine qaa qhJ.eq_1 ?_
   refine W_gc ?_
   refine wR0 300 [3,8,9,10,11] fX ?_
   refine wT fX ?_
   refine wR0 400 [3,5,8,9,10] fX ?_
   refine wR0 500 [3,8,9,10] fX ?_
   refine wR0 600 [3,8,9,10] fX ?_
   refine wN ?_
   refine qaT [0,504] (by simp[inL]) (by simp[inL,T.cl,qaz]) (by simp[qak,inL,Slot.cl,T.cl,clL,qaz,qbS]) ?_
   simpa [qak,inL,qab] using hQ'
  | cons z l=>
   have hlb:l.length+1≤1000000:=by simp at hdl;omega
   have he:(qab (z::l)).length=l.length+1:=by simp[qab]
   simp only[qb0,qbZ,List.nil_append,List.cons_append] at hQ' ⊢
   have fX:=(cJ5 @hd @hw @qaK @he @hg)
   refine qaa qhJ.eq_1 ?_
   refine W_gc ?_
   refine wR0 300 [3,8,9,10,11] fX ?_
   refine wT fX ?_
   refine wR0 400 [3,5,8,9,10] fX ?_
   refine wR0 500 [3,8,9,10] fX ?_
   refine wR0 600 [3,8,9,10] fX ?_
   refine wN ?_
   refine qaT [0,504] (by simp[inL]) (by simp[inL,T.cl,qaz]) (by simp[qak,inL,Slot.cl,T.cl,clL,qan,qae,qaz,qbS]) ?_
   simpa [qak,inL,qab] using hQ'
theorem qi2 (s:Int)(v:List Int)(hl:v.length≤1000000):TP Tryz.prog 28 [encV (cfV s v)] (.list (qab v)):=by
 rw[qgs]
 have hal:=qf5 v
 have hsz:=qiz (v.map natV)
 refine qai fn28 (by simp) ?_
 unfold i28
 simp only[argL,encV]
 refine wR0 0 [1] cJ0 ?_
 refine wR0 100 [1,3] cJ0 ?_
 refine wR0 200 [3,8,9,10] cJ0 ?_
 simp only[thn]
 have hone:Int.toNat 1=1:=rfl
 simp only[hone,Nat.add_sub_cancel,List.take_length,List.drop_succ_cons,List.drop_zero]
 refine wL ?_
 refine qkX s v hl _ ?_ v.length 0 [] (by omega) (by simp)
 ·intro j
  refine wN ?_
  refine wN ?_
  rcases v with _ | ⟨x,l⟩
  ·skip
   refine wN ?_
   simp only[qb0,qbZ]
   refine wR0 700 [2] cJ0 ?_
   refine wP ?_
   first | exact .nil | exact qbt (x::l) rfl rfl rfl
  ·skip
   refine wN ?_
   simp only[qb0,qbZ]
   refine wR0 700 [2] cJ0 ?_
   refine wP ?_
   first | exact .nil | exact qbt (x::l) rfl rfl rfl
end
end Go.Proofs.YtncpdpbpcnoeeaaGreat
