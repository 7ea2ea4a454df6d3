/- Contracts of functions of the program, for all arguments that they name. -/
import Derived.Test.YtpplncjaihgimaaGreatK03
import Derived.Test.YtpplncjaihgimaaGreatK04
namespace Go.Proofs.YtpplncjaihgimaaGreat
set_option linter.unusedVariables false
section
open Go.RowKit
inductive V where
 | mk (n:Int) (ks:List V)
instance:Inhabited V:=⟨.mk 0 []⟩
def V.n:V→Int | .mk n _=>n
def V.kids:V→List V | .mk _ ks=>ks
mutual
def encV:V→T
 | .mk n ks=>.agg [.int .i64 n,.list (qac ks)]
def qac:List V→List T
 | []=>[]
 | k::ks=>encV k::qac ks
end
theorem qdx:∀ks,qac ks=ks.map encV
 | []=>rfl
 | k::ks=>by simp[qac,qdx ks]
theorem qag (ks:List V):(qac ks).length=ks.length:=by rw[qdx,List.length_map]
theorem qaU (pre:List V)(k:V)(ks:List V):(qac (pre++k::ks)).getD pre.length .undef=encV k:=by
 rw[qdx];simp[List.getD_eq_getElem?_getD]
theorem qb7 (v:V):(encV v).cells.length=2:=by cases v;rfl
theorem qde (v:V):T.agg (encV v).cells=encV v:=by cases v;rfl
theorem qel (v:V):encV v=.agg [.int .i64 v.n,.list (qac v.kids)]:=by cases v;rfl
theorem qoz (v:V):(encV v).cells=[.int .i64 v.n,.list (qac v.kids)]:=by cases v;rfl
mutual
theorem qct (D:Nat→Bool):∀v:V,(encV v).cl D=true
 | .mk n ks=>by simp[encV,T.cl,clL,qai D ks]
theorem qai (D:Nat→Bool):∀ks:List V,clL D (qac ks)=true
 | []=>rfl
 | k::ks=>by simp[qac,clL,qct D k,qai D ks]
end
theorem qhm (ks:List V):sizedB 2 (qac ks)=true:=by
 rw[qdx,sizedB,List.all_eq_true]
 intro x hx
 obtain⟨v,_,rfl⟩:=List.mem_map.1 hx
 simp[qb7,esz]
mutual
def V.fit:V→Prop
 | .mk _ ks=>ks.length≤1000000∧fitL ks
def fitL:List V→Prop
 | []=>True
 | k::ks=>k.fit∧fitL ks
end
theorem qm4:∀ {ks:List V},fitL ks→∀k∈ks,k.fit
 | [],_,k,hk=>by cases hk
 | x::ks,h,k,hk=>by
  simp only[fitL] at h
  rcases List.mem_cons.1 hk with rfl | hk
  ·exact h.1
  ·exact qm4 h.2 k hk
theorem qdo:∀ {ks:List V},(∀k∈ks,k.fit)→fitL ks
 | [],_=>trivial
 | x::ks,h=>⟨h x (List.mem_cons_self ..),qdo fun k hk=>h k (List.mem_cons_of_mem _ hk)⟩
theorem V.fit_kids {v:V}(h:v.fit):v.kids.length≤1000000∧∀k∈v.kids,k.fit:=by
 cases v;simp only[V.fit] at h;exact⟨h.1,qm4 h.2⟩
theorem wrap64 {n:Int}(h1:-9223372036854775808≤n)(h2:n≤9223372036854775807):IntKind.wrap .i64 n=n:=by rw[IntKind.wrap_i64];omega
end
section
open Go.RowKit
set_option maxHeartbeats 2000000
def ordI (a b:Int):Int:=if a<b then -1 else if b<a then 1 else 0
theorem qnE (a b:Int):TP Tryz.prog 106 [.int .i64 a,.int .i64 b] (.int .i64 (ordI a b)):=by
 refine qan fn106 (by simp) ?_
 unfold i106
 simp only[argL]
 refine qbL ?_
 refine wR0 0 [0,1] cJ0 ?_
 simp only[thn]
 refine qbL ?_
 refine qbL ?_
 refine wR0 100 [0,1,7] cJ0 ?_
 simp only[thn]
 refine qaj (eV cJ0) ?_
 by_cases hc:a<b
 ·simp only[hc,decide_true,if_true]
  refine qbL ?_
  refine wR0 200 [4] cJ0 ?_
  simp only[thn]
  refine qaE ?_
  exact⟨.inl rfl,_,rfl,by simp only[ordI,hc,if_true];exact .same rfl⟩
 ·simp only[hc,decide_false,Bool.false_eq_true,if_false]
  refine qcz ?_
  simp only[thn]
  refine qbL ?_
  refine qbL ?_
  refine wR0 300 [10] cJ0 ?_
  simp only[thn]
  refine qaj (eV cJ0) ?_
  by_cases hd:b<a
  ·have hg:a > b:=hd
   simp only[hg,decide_true,if_true]
   refine qbL ?_
   refine wR0 400 [4] cJ0 ?_
   simp only[thn]
   refine qaE ?_
   exact⟨.inl rfl,_,rfl,by simp only[ordI,hc,hd,if_true,if_false];exact .same rfl⟩
  ·have hg:¬a > b:=hd
   simp only[hg,decide_false,Bool.false_eq_true,if_false]
   refine qcz ?_
   simp only[thn]
   refine qbL ?_
   refine wR0 500 [4] cJ0 ?_
   simp only[thn]
   refine qaE ?_
   exact⟨.inl rfl,_,rfl,by simp only[ordI,hc,hd,if_false];exact .same rfl⟩
mutual
def cmpV:V→V→Int
 | .mk a ks,.mk b ls=>if a≠b then ordI a b else if ks.length≠ls.length then ordI ks.length ls.length else cmpL ks ls
def cmpL:List V→List V→Int
 | k::ks,l::ls=>if cmpV k l≠0 then cmpV k l else cmpL ks ls
 | _,_=>0
end
theorem qse (A B:Int)(Q:IExit→(Nat→T)→Heap→Prop):∀(xs ys prx pry:List V),xs.length=ys.length→prx.length=pry.length→(prx++xs).length≤1000000→
 (∀k∈xs,∀l∈ys,TP Tryz.prog 59 [encV k,encV l] (.int .i64 (cmpV k l)))→
 (∀l,cmpL xs ys=0→Q (.exit 0) (ofL l) (hpL [(0,.live ⟨25,[.int .i64 A,.list (qac (prx++xs))]⟩),(1,.live ⟨25,[.int .i64 B,.list (qac (pry++ys))]⟩)]))→
 (cmpL xs ys≠0→Q .ret (ofL [(4,.int .i64 (cmpL xs ys))]) (hpL [(0,.live ⟨25,[.int .i64 A,.list (qac (prx++xs))]⟩),(1,.live ⟨25,[.int .i64 B,.list (qac (pry++ys))]⟩)]))→
 WL Tryz.prog 52 qnd (ofL [(2,.ref 0 2 0),(3,.ref 1 2 0),(5,.int .i64 prx.length)]) (hpL [(0,.live ⟨25,[.int .i64 A,.list (qac (prx++xs))]⟩),(1,.live ⟨25,[.int .i64 B,.list (qac (pry++ys))]⟩)]) Q:=by
 intro xs
 induction xs with
 | nil=>
  intro ys prx pry h1 h2 h3 hk hQ0 hQ1
  have hy:ys=[]:=List.eq_nil_of_length_eq_zero h1.symm
  subst hy
  have hd:decide ((prx.length:Int)<((qac prx).length:Int))=false:=by simp[qag]
  refine qaa qnd.eq_1 ?_
  refine qbL ?_
  refine qbL ?_
  refine wR0 600 [2,3,5,35] @hd ?_
  simp only[thn]
  refine qaj (eV cJ0) ?_
  simp only[Bool.false_eq_true,if_false]
  refine qbE ?_
  simp only[thn]
  have:=hQ0 [(2,.ref 0 2 0),(3,.ref 1 2 0),(5,.int .i64 prx.length),(35,.bool false)] rfl
  simpa using this
 | cons k xs ih=>
  intro ys prx pry h1 h2 h3 hk hQ0 hQ1
  cases ys with
  | nil=>simp at h1
  | cons l ys=>
   have hlt:(prx.length:Int)<((qac (prx++k::xs)).length:Int):=by simp[qag];omega
   have hlt2:(prx.length:Int)<((qac (pry++l::ys)).length:Int):=by simp[qag];omega
   have hd:decide ((prx.length:Int)<((qac (prx++k::xs)).length:Int))=true:=decide_eq_true hlt
   have hg1:(qac (prx++k::xs)).getD (prx.length:Int).toNat .undef=encV k:=by rw[Int.toNat_natCast];exact qaU _ _ _
   have hg2:(qac (pry++l::ys)).getD (prx.length:Int).toNat .undef=encV l:=by rw[Int.toNat_natCast,h2];exact qaU _ _ _
   have hlb:prx.length≤1000000:=by simp at h3;omega
   have hw:IntKind.wrap .i64 ((prx.length:Int)+1)=(prx.length:Int)+1:=wrap64 (by omega) (by omega)
   refine qaa qnd.eq_1 ?_
   refine qbL ?_
   refine qbL ?_
   refine wR0 600 [2,3,5,35] @hd ?_
   simp only[thn]
   refine qaj (eV cJ0) ?_
   simp only[if_true]
   refine qcz ?_
   simp only[thn]
   refine qbL ?_
   refine qcr ?_
   refine qbL ?_
   have fX:=(cJ4 @hg1 @hg2 @qde @qb7)
   refine wRn 700 [2,3,5,6] fX ?_
   refine rC fX ?_
   refine⟨_,hk k (List.mem_cons_self ..) l (List.mem_cons_self ..),rE fX ?_⟩
   simp only[thn]
   refine qbL ?_
   refine wR0 800 [2,3,5,6,50] cJ0 ?_
   simp only[thn]
   refine qaj (eV cJ0) ?_
   by_cases hc:cmpV k l=0
   ·have hb:(cmpV k l != 0)=false:=by simp[hc]
    simp only[hb,Bool.false_eq_true,if_false]
    refine qcz ?_
    simp only[thn,inB]
    refine wR0 1000 [2,3,5] @hw ?_
    simp only[thn]
    have e:cmpL (k::xs) (l::ys)=cmpL xs ys:=by simp[cmpL,hc]
    rw[e] at hQ0 hQ1
    have:=ih ys (prx++[k]) (pry++[l]) (by simpa using h1) (by simp[h2]) (by simpa using h3) (fun k' hk' l' hl'=>hk k' (List.mem_cons_of_mem _ hk') l' (List.mem_cons_of_mem _ hl')) (by simpa using hQ0) (by simpa using hQ1)
    simpa using this
   ·have hb:(cmpV k l != 0)=true:=by simp[hc]
    have e:cmpL (k::xs) (l::ys)=cmpV k l:=by simp[cmpL,hc]
    simp only[hb,if_true]
    refine qbL ?_
    refine wR0 900 [4] cJ0 ?_
    simp only[thn]
    refine qaE ?_
    simp only[thn,inB]
    have:=hQ1 (by rw[e];exact hc)
    rw[e] at this
    exact this
theorem qcR {k:V}{ks:List V}(h:k∈ks)(n:Int):SizeOf.sizeOf k<SizeOf.sizeOf (V.mk n ks):=by
 have:=List.sizeOf_lt_of_mem h
 simp only[V.mk.sizeOf_spec];omega
theorem qmP:∀(v u:V),v.fit→TP Tryz.prog 59 [encV v,encV u] (.int .i64 (cmpV v u))
 | .mk A xs,.mk B ys,hv=>by
  have hv':=V.fit_kids hv
  simp only[V.kids] at hv'
  refine qan fn59 (by simp) ?_
  unfold i59
  simp only[argL,encV]
  refine qbL ?_
  refine wR0 0 [2,3] cJ0 ?_
  simp only[thn]
  refine qbL ?_
  refine qbL ?_
  refine wR0 100 [2,3,11] cJ0 ?_
  simp only[thn]
  refine qaj (eV cJ0) ?_
  by_cases hc:A=B
  ·have hb:(A != B)=false:=by simp[hc]
   simp only[hb,Bool.false_eq_true,if_false]
   refine qcz ?_
   simp only[thn]
   refine qbL ?_
   refine qbL ?_
   refine wR0 300 [2,3,23] cJ0 ?_
   simp only[thn]
   refine qaj (eV cJ0) ?_
   by_cases hd:xs.length=ys.length
   ·have hb2:(((qac xs).length:Int) != ((qac ys).length:Int))=false:=by simp[qag,hd]
    simp only[hb2,Bool.false_eq_true,if_false]
    refine qcz ?_
    simp only[thn]
    refine qbL ?_
    refine qbL ?_
    refine wR0 500 [2,3,5] cJ0 ?_
    simp only[thn]
    refine qcr ?_
    refine qbN ?_
    have e:cmpV (.mk A xs) (.mk B ys)=cmpL xs ys:=by simp[cmpV,hc,hd]
    have hloop:=qse A B (inB 0 (thn (fun env' H'=>W Tryz.prog 52 (.seq (.reg [⟨some 4,.op (.mv (.con (.int .i64 0))),none⟩] [] false) .ret) env' H' fun e env' H'=>(e=.ret∨e=.normal)∧∃x,resT env' H' [(4,none)]=some x∧Frz H' x (.int .i64 (cmpV (.mk A xs) (.mk B ys)))) fun e env' H'=>(e=.ret∨e=.normal)∧∃x,resT env' H' [(4,none)]=some x∧Frz H' x (.int .i64 (cmpV (.mk A xs) (.mk B ys))))) xs ys [] [] hd rfl (by simpa using hv'.1) (fun k hk l hl=>qmP k l (hv'.2 k hk)) ?_ ?_
    ·simpa using hloop
    ·intro l h0
     simp only[inB,thn,if_true]
     refine qbL ?_
     refine wR0 1100 [4] cJ0 ?_
     simp only[thn]
     refine qaE ?_
     exact⟨.inl rfl,_,rfl,by rw[e,h0];exact .same rfl⟩
    ·intro h0
     simp only[inB,thn]
     exact⟨by simp,_,rfl,by rw[e];exact .same rfl⟩
   ·have hb2:(((qac xs).length:Int) != ((qac ys).length:Int))=true:=by simp[qag];omega
    simp only[hb2,if_true]
    refine qbL ?_
    refine wRn 400 [4] cJ0 ?_
    refine rC cJ0 ?_
    refine⟨_,qnE _ _,rE cJ0 ?_⟩
    simp only[thn]
    refine qaE ?_
    exact⟨.inl rfl,_,rfl,by simp only[cmpV,hc,hd,qag,ne_eq,not_true_eq_false,not_false_eq_true,if_true,if_false];exact .same rfl⟩
  ·have hb:(A != B)=true:=by simp[hc]
   simp only[hb,if_true]
   refine qbL ?_
   refine wRn 200 [4] cJ0 ?_
   refine rC cJ0 ?_
   refine⟨_,qnE _ _,rE cJ0 ?_⟩
   simp only[thn]
   refine qaE ?_
   exact⟨.inl rfl,_,rfl,by simp only[cmpV,hc,ne_eq,not_false_eq_true,if_true];exact .same rfl⟩
termination_by v=>SizeOf.sizeOf v
decreasing_by exact qcR hk A
mutual
def qbt:V→Int→Int
 | .mk _ ks,most=>qcI ks 1 most
def qcI:List V→Int→Int→Int
 | [],n,_=>n
 | k::ks,n,most=>if n≤most then qcI ks (n+qbt k (most - n)) most else n
end
mutual
theorem size_le:∀(v:V) (most:Int),0≤most→1≤qbt v most∧qbt v most≤most+1
 | .mk n ks,most,h=>by
  have:=qnV ks 1 most (by omega) (by omega)
  simp only[qbt];omega
theorem qnV:∀(ks:List V) (n most:Int),1≤n→n≤most+1→n≤qcI ks n most∧qcI ks n most≤most+1
 | [],n,most,h1,h2=>by simp only[qcI];omega
 | k::ks,n,most,h1,h2=>by
  simp only[qcI]
  split
  ·have:=size_le k (most - n) (by omega)
   have:=qnV ks (n+qbt k (most - n)) most (by omega) (by omega)
   omega
  ·omega
end
theorem qrn (most:Int)(hm0:0≤most)(hm1:most≤1000000)(N:Int)(ks:List V)(hl:ks.length≤1000000)(Q:IExit→(Nat→T)→Heap→Prop):∀(rest pre:List V) (n:Int),ks=pre++rest→1≤n→n≤most+1→
 (∀k∈rest,∀m:Int,0≤m→m≤1000000→TP Tryz.prog 84 [encV k,.int .i64 m] (.int .i64 (qbt k m)))→
 (∀i:Int,Q (.exit 0) (ofL [(1,.int .i64 most),(2,.ref 0 2 0),(5,.int .i64 (qcI rest n most)),(6,.int .i64 i),(16,.bool false)]) (hpL [(0,.live ⟨25,[.int .i64 N,.list (qac ks)]⟩)]))→
 WL Tryz.prog 31 qnh (ofL [(1,.int .i64 most),(2,.ref 0 2 0),(5,.int .i64 n),(6,.int .i64 pre.length)]) (hpL [(0,.live ⟨25,[.int .i64 N,.list (qac ks)]⟩)]) Q:=by
 intro rest
 induction rest with
 | nil=>
  intro pre n he h1 h2 hk hQ
  have hd:decide ((pre.length:Int)<((qac ks).length:Int))=false:=by simp[qag,he]
  refine qaa qnh.eq_1 ?_
  refine wN ?_
  refine wR0 300 [1,2,5,6,16] @hd ?_
  refine wN ?_
  refine qaj (eV cJ0) ?_
  simp only[Bool.false_eq_true,if_false]
  refine wN ?_
  refine qbE ?_
  (try simp only[thn])
  exact hQ _
 | cons k rest ih=>
  intro pre n he h1 h2 hk hQ
  have hlen:(pre.length:Int)<((qac ks).length:Int):=by simp[qag,he];omega
  have hlb:pre.length≤1000000:=by rw[he] at hl;simp at hl;omega
  have hd:decide ((pre.length:Int)<((qac ks).length:Int))=true:=decide_eq_true hlen
  refine qaa qnh.eq_1 ?_
  refine wN ?_
  refine wR0 300 [1,2,5,6,16] @hd ?_
  refine wN ?_
  by_cases hn:n≤most
  ·have hd2:decide (n≤most)=true:=decide_eq_true hn
   refine qaj (eV cJ0) ?_
   simp only[hd2,if_true]
   refine wN ?_
   have hsz:=size_le k (most - n) (by omega)
   have hw1:IntKind.wrap .i64 (most - n)=most - n:=wrap64 (by omega) (by omega)
   have hw2:IntKind.wrap .i64 (n+qbt k (most - n))=n+qbt k (most - n):=wrap64 (by omega) (by omega)
   have hw3:IntKind.wrap .i64 ((pre.length:Int)+1)=(pre.length:Int)+1:=wrap64 (by omega) (by omega)
   have hg:(qac ks).getD (pre.length:Int).toNat .undef=encV k:=by rw[Int.toNat_natCast,he];exact qaU _ _ _
   have fX:=(cJ5 @hg @qde @qb7 @hw1 @hw2)
   refine wRn 400 [1,2,5,6] fX ?_
   refine rC fX ?_
   refine⟨_,hk k (List.mem_cons_self ..) (most - n) (by omega) (by omega),rE fX ?_⟩
   refine wN ?_
   refine wR0 500 [1,2,5,6] @hw3 ?_
   refine wN ?_
   have:=ih (pre++[k]) (n+qbt k (most - n)) (by simp[he]) (by omega) (by omega) (fun k' hk'=>hk k' (List.mem_cons_of_mem _ hk')) (fun i=>by
    have:=hQ i
    simpa only [qcI,if_pos hn] using this)
   simpa using this
  ·have hd2:decide (n≤most)=false:=decide_eq_false hn
   refine qaj (eV cJ0) ?_
   simp only[hd2,Bool.false_eq_true,if_false]
   refine wN ?_
   refine qbE ?_
   (try simp only[thn])
   have:=hQ pre.length
   simpa only [qcI,if_neg hn] using this
theorem qft:∀(v:V) (most:Int),v.fit→0≤most→most≤1000000→TP Tryz.prog 84 [encV v,.int .i64 most] (.int .i64 (qbt v most))
 | .mk N ks,most,hv,h0,h1=>by
  have hv':=V.fit_kids hv
  simp only[V.kids] at hv'
  refine qan fn84 (by simp) ?_
  unfold i84
  simp only[argL,encV]
  refine wN ?_
  refine wR0 0 [1,2] cJ0 ?_
  refine wN ?_
  refine wR0 100 [1,2,5] cJ0 ?_
  refine wN ?_
  refine wR0 200 [1,2,5,6] cJ0 ?_
  refine wN ?_
  refine qbN ?_
  refine qrn most h0 h1 N ks hv'.1 _ ks [] 1 rfl (by omega) (by omega) (fun k hk m hm0 hm1=>qft k m (hv'.2 k hk) hm0 hm1) ?_
  intro i
  simp only[inB,if_true,thn]
  refine wR0 600 [4] cJ0 ?_
  refine wN ?_
  refine qaE ?_
  (try simp only)
  exact⟨by simp,_,rfl,by simp only[qbt];exact .same rfl⟩
termination_by v=>SizeOf.sizeOf v
decreasing_by exact qcR hk N
def qu1 (a b:V):Bool:=cmpV a b==0
theorem qu5 (a b:V)(h:a.fit):TP Tryz.prog 26 [encV a,encV b] (.bool (qu1 a b)):=by
 rcases a with⟨A,xs⟩
 rcases b with⟨B,ys⟩
 refine qan fn26 (by simp) ?_
 unfold i26
 simp only[argL,encV]
 refine wN ?_
 refine wR0 0 [2,3] cJ0 ?_
 refine wN ?_
 refine wRn 100 [4] cJ0 ?_
 refine rC cJ0 ?_
 refine⟨_,qmP (.mk A xs) (.mk B ys) h,rE cJ0 ?_⟩
 refine wN ?_
 refine qaE ?_
 (try simp only)
 exact⟨by simp,_,rfl,by exact .same rfl⟩
def qaq:List V→List T
 | []=>[]
 | k::ks=>.int .i64 k.n::.list (qac k.kids)::qaq ks
theorem qaz:∀ks:List V,(qaq ks).length=ks.length*2
 | []=>rfl
 | k::ks=>by simp[qaq,qaz ks];omega
theorem qbk:∀(ks:List V) (k:V),qaq (ks++[k])=qaq ks++[.int .i64 k.n,.list (qac k.kids)]
 | [],k=>rfl
 | x::ks,k=>by simp[qaq,qbk ks k]
theorem qbr:∀ks:List V,qaq ks=flat (qac ks)
 | []=>rfl
 | k::ks=>by rw[qac,qbe,qoz,qaq,qbr ks];rfl
theorem qay (D:Nat→Bool):∀ks:List V,clL D (qaq ks)=true
 | []=>rfl
 | k::ks=>by simp[qaq,clL,T.cl,qai,qay D ks]
theorem qbI:∀ks:List V,Ones (qaq ks)
 | []=>fun c hc=>by cases hc
 | k::ks=>fun c hc=>by
  simp only[qaq,List.mem_cons] at hc
  rcases hc with rfl | rfl | hc
  ·rfl
  ·rfl
  ·exact qbI ks c hc
theorem qcD (ks:List V):qcP (esz 2) (qac ks):=fun x hx=>by
 rw[qdx] at hx
 obtain⟨v,_,rfl⟩:=List.mem_map.1 hx
 exact qb7 v
theorem qbS {H:Heap}{id ty n tot:Nat}(ks:List V)(hb:H id=.live ⟨ty,qaq ks⟩)(hn:n=ks.length)(ht:tot=ks.length*2):Frz H (.sl id tot 2 0 n) (.list (qac ks)):=by
 subst hn ht
 refine Frz.sl hb (qaz ks) (by simp[esz]) (qag ks) (qcD ks) (by rw[←qbr];exact qbI ks) fun k hk=>?_
 rw[←qbr,Nat.zero_add]
 exact .same (qbb (qay _ ks) k)
theorem qaS {H:Heap}{n:Int}{x y:T}(h:Frz H x y)(ho:y.one=true):Frz H (.agg [.int .i64 n,x]) (.agg [.int .i64 n,y]):=by
 refine Frz.agg rfl (fun c hc=>?_) fun i hi=>?_
 ·simp only[List.mem_cons,List.not_mem_nil,or_false] at hc
  rcases hc with rfl | rfl
  ·rfl
  ·exact ho
 ·match i,hi with
  | 0,_=>exact .same rfl
  | 1,_=>exact h
def rowT (id:Nat)(done:List V):T:=match done with
 | []=>.nil
 | d::ds=>.sl id ((ds.length+1)*2) 2 0 (ds.length+1)
def rowH (id ty:Nat)(done:List V):List (Nat×Slot):=match done with
 | []=>[]
 | d::ds=>[(id,.live ⟨ty,qaq (d::ds)⟩)]
theorem qkm (N:Int)(ks:List V)(hl:ks.length≤1000000)(Q:IExit→(Nat→T)→Heap→Prop):∀(rest pre:List V) (n:Nat),ks=pre++rest→pre.length=n→
 (∀k∈rest,TP Tryz.prog 25 [encV k] (encV k))→
 (∀i:Int,Q (.exit 0) (ofL [(1,.ref 0 2 0),(2,.ref 1 2 0),(3,.ref 103 2 0),(4,.int .i64 i),(12,.bool false)])
  (hpL ([(0,.live ⟨25,[.int .i64 N,.list (qac ks)]⟩),(1,.live ⟨25,[.int .i64 0,.nil]⟩),(103,.live ⟨25,[.int .i64 N,rowT 409 ks]⟩)]++rowH 409 25 ks)))→
 WL Tryz.prog 27 qeb (ofL [(1,.ref 0 2 0),(2,.ref 1 2 0),(3,.ref 103 2 0),(4,.int .i64 n)])
  (hpL ([(0,.live ⟨25,[.int .i64 N,.list (qac ks)]⟩),(1,.live ⟨25,[.int .i64 0,.nil]⟩),(103,.live ⟨25,[.int .i64 N,rowT 409 pre]⟩)]++rowH 409 25 pre)) Q:=by
 intro rest
 induction rest with
 | nil=>
  intro pre n he hn hk hQ
  have hd:decide ((n:Int)<((qac ks).length:Int))=false:=by simp[qag,he,hn]
  simp only[List.append_nil] at he
  subst he
  simp only[List.cons_append,List.nil_append] at hQ ⊢
  refine qaa qeb.eq_1 ?_
  refine wN ?_
  refine wR0 300 [1,2,3,4,12] @hd ?_
  refine wN ?_
  refine qaj (eV cJ0) ?_
  simp only[Bool.false_eq_true,if_false]
  refine wN ?_
  refine qbE ?_
  (try simp only[thn])
  exact hQ _
 | cons k rest ih=>
  intro pre n he hn hk hQ
  rcases k with⟨a,bs⟩
  have hlt:(n:Int)<((qac ks).length:Int):=by simp[qag,he];omega
  have hlb:n≤1000000:=by rw[he] at hl;simp at hl;omega
  have hd:decide ((n:Int)<((qac ks).length:Int))=true:=decide_eq_true hlt
  have hg:(qac ks).getD (n:Int).toNat .undef=.agg [.int .i64 a,.list (qac bs)]:=by rw[Int.toNat_natCast,he,←hn];exact qaU _ (.mk a bs) _
  have hw:IntKind.wrap .i64 ((n:Int)+1)=(n:Int)+1:=wrap64 (by omega) (by omega)
  cases pre with
  | nil=>
   simp only[rowT,rowH,List.append_nil]
   refine qaa qeb.eq_1 ?_
   refine W_gc ?_
   refine wN ?_
   refine wR0 300 [1,2,3,4,12] @hd ?_
   refine wN ?_
   refine qaj (eV cJ0) ?_
   simp only[if_true]
   refine wN ?_
   have fX:=(cJ2 @hg @encV.eq_1)
   refine wRn 400 [1,2,3,4] fX ?_
   refine rC fX ?_
   refine⟨_,hk (.mk a bs) (List.mem_cons_self ..),rE fX ?_⟩
   refine wN ?_
   refine wR0 500 [1,2,3,4] @hw ?_
   refine wN ?_
   refine qaC [0,1,103,409] (by simp[inL]) (by simp[inL,T.cl]) (by simp[qam,inL,Slot.cl,T.cl,clL,qai]) ?_
   have:=ih [V.mk a bs] (n+1) (by simpa using he) (by simp at hn;simp;omega) (fun k' hk'=>hk k' (List.mem_cons_of_mem _ hk')) (by simpa using hQ)
   simpa [qam,inL,rowT,rowH,qaq,V.n,V.kids] using this
  | cons p pre=>
   have hp:pre.length+1≤1000000:=by simp at hn;omega
   simp only[rowT,rowH,List.cons_append,List.nil_append]
   refine qaa qeb.eq_1 ?_
   refine W_gc ?_
   refine wN ?_
   refine wR0 300 [1,2,3,4,12] @hd ?_
   refine wN ?_
   refine qaj (eV cJ0) ?_
   simp only[if_true]
   refine wN ?_
   have fX:=(cJ3 @hg @encV.eq_1 @qaz)
   refine wRn 400 [1,2,3,4] fX ?_
   refine rC fX ?_
   refine⟨_,hk (.mk a bs) (List.mem_cons_self ..),rE fX ?_⟩
   refine wN ?_
   refine wR0 500 [1,2,3,4] @hw ?_
   refine wN ?_
   refine qaC [0,1,103,409] (by simp[inL]) (by simp[inL,T.cl]) (by simp[qam,inL,Slot.cl,T.cl,clL,qai,qay,qao]) ?_
   have:=ih (p::(pre++[V.mk a bs])) (n+1) (by simpa using he) (by simp at hn;simp;omega) (fun k' hk'=>hk k' (List.mem_cons_of_mem _ hk')) (by simpa using hQ)
   have hs:qaq (p::(pre++[V.mk a bs]))=qaq (p::pre)++[.int .i64 a,.list (qac bs)]:=qbk (p::pre) (.mk a bs)
   have hm:(pre.length+1+1)*2=(pre.length+1)*2+2:=by omega
   simp only[rowT,rowH,hs,List.length_append,List.length_cons,List.length_nil,Nat.zero_add,hm] at this
   simpa [qam,inL] using this
theorem qhf:∀v:V,v.fit→TP Tryz.prog 25 [encV v] (encV v)
 | .mk N ks,hv=>by
  have hv':=V.fit_kids hv
  simp only[V.kids] at hv'
  refine qan fn25 (by simp) ?_
  unfold i25
  simp only[argL,encV]
  refine wN ?_
  refine wR0 0 [1,2] cJ0 ?_
  refine wN ?_
  refine wR0 100 [1,2,3] cJ0 ?_
  refine wN ?_
  refine wR0 200 [1,2,3,4] cJ0 ?_
  refine wN ?_
  refine qbN ?_
  refine qkm N ks hv'.1 _ ks [] 0 rfl rfl (fun k hk=>qhf k (hv'.2 k hk)) ?_
  intro i
  simp only[inB,if_true,thn]
  cases ks with
  | nil=>
   simp only[rowT,rowH,List.append_nil]
   refine wR0 600 [2] cJ0 ?_
   refine wN ?_
   refine qaE ?_
   exact⟨by simp,_,rfl,qaS .nil rfl⟩
  | cons k ks=>
   simp only[rowT,rowH,List.cons_append,List.nil_append]
   refine wR0 600 [2] cJ0 ?_
   refine wN ?_
   refine qaE ?_
   exact⟨by simp,_,rfl,qaS (qbS (k::ks) rfl rfl rfl) rfl⟩
termination_by v=>SizeOf.sizeOf v
decreasing_by exact qcR hk N
end
section
open Go.RowKit
set_option maxHeartbeats 2000000
def qab (l:List Int):List T:=l.map (.int .i64)
theorem qah (l:List Int):(qab l).length=l.length:=by simp[qab]
theorem qc4 (pre:List Int)(k:Int)(ks:List Int):(qab (pre++k::ks)).getD pre.length .undef=.int .i64 k:=by
 simp[qab,List.getD_eq_getElem?_getD]
theorem qae (D:Nat→Bool)(l:List Int):clL D (qab l)=true:=by
 induction l with
 | nil=>rfl
 | cons x l ih=>simpa [qab,clL,T.cl] using ih
inductive Ty where
 | mk (k s:Int) (rs:List Int) (ps:List Ty)
instance:Inhabited Ty:=⟨.mk 0 0 [] []⟩
def Ty.k:Ty→Int | .mk k _ _ _=>k
def Ty.s:Ty→Int | .mk _ s _ _=>s
def Ty.rs:Ty→List Int | .mk _ _ rs _=>rs
def Ty.ps:Ty→List Ty | .mk _ _ _ ps=>ps
mutual
def qal:Ty→T
 | .mk k s rs ps=>.agg [.int .i64 k,.int .i64 s,.list (qab rs),.list (qak ps)]
def qak:List Ty→List T
 | []=>[]
 | p::ps=>qal p::qak ps
end
theorem qcX:∀ps,qak ps=ps.map qal
 | []=>rfl
 | k::ps=>by simp[qak,qcX ps]
theorem qap (ps:List Ty):(qak ps).length=ps.length:=by rw[qcX,List.length_map]
theorem qcW (pre:List Ty)(k:Ty)(ps:List Ty):(qak (pre++k::ps)).getD pre.length .undef=qal k:=by
 rw[qcX];simp[List.getD_eq_getElem?_getD]
theorem qbH (v:Ty):(qal v).cells.length=4:=by cases v;rfl
theorem qbO (v:Ty):T.agg (qal v).cells=qal v:=by cases v;rfl
mutual
theorem qi6 (D:Nat→Bool):∀v:Ty,(qal v).cl D=true
 | .mk k s rs ps=>by simp[qal,T.cl,clL,qae,qaG D ps]
theorem qaG (D:Nat→Bool):∀ps:List Ty,clL D (qak ps)=true
 | []=>rfl
 | p::ps=>by simp[qak,clL,qi6 D p,qaG D ps]
end
attribute [simp] qct qai qae qi6 qaG
theorem qds {p:Ty}{ps:List Ty}(h:p∈ps)(k s:Int)(rs:List Int):SizeOf.sizeOf p<SizeOf.sizeOf (Ty.mk k s rs ps):=by
 have:=List.sizeOf_lt_of_mem h
 simp only[Ty.mk.sizeOf_spec];omega
mutual
def qet (n:Int):V→Bool
 | .mk a ks=>qfR n ks&&(decide (a≥0)&&decide (a<n))
def qfR (n:Int):List V→Bool
 | []=>true
 | k::ks=>qet n k&&qfR n ks
end
theorem qoT (N n:Int)(ks:List V)(hl:ks.length≤1000000)(Q:IExit→(Nat→T)→Heap→Prop):∀(rest pre:List V) (i:Nat),ks=pre++rest→pre.length=i→
 (∀k∈rest,TP Tryz.prog 153 [.int .i64 n,encV k] (.bool (qet n k)))→
 (qfR n rest=true→∀i:Int,Q (.exit 0) (ofL [(0,.int .i64 n),(3,.ref 0 2 0),(5,.int .i64 i),(10,.bool false)]) (hpL [(0,.live ⟨25,[.int .i64 N,.list (qac ks)]⟩)]))→
 (qfR n rest=false→Q .ret (ofL [(4,.bool false)]) (hpL [(0,.live ⟨25,[.int .i64 N,.list (qac ks)]⟩)]))→
 WL Tryz.prog 30 qjp (ofL [(0,.int .i64 n),(3,.ref 0 2 0),(5,.int .i64 i)]) (hpL [(0,.live ⟨25,[.int .i64 N,.list (qac ks)]⟩)]) Q:=by
 intro rest
 induction rest with
 | nil=>
  intro pre i he hn hk hQ0 hQ1
  have hd:decide ((i:Int)<((qac ks).length:Int))=false:=by simp[qag,he,hn]
  refine qaa qjp.eq_1 ?_
  refine wN ?_
  refine wR0 200 [0,3,5,10] @hd ?_
  refine wN ?_
  refine qaj (eV cJ0) ?_
  simp only[Bool.false_eq_true,if_false]
  refine wN ?_
  refine qbE ?_
  (try simp only[thn])
  exact hQ0 rfl _
 | cons k rest ih=>
  intro pre i he hn hk hQ0 hQ1
  have hlt:(i:Int)<((qac ks).length:Int):=by simp[qag,he];omega
  have hlb:i≤1000000:=by rw[he] at hl;simp at hl;omega
  have hd:decide ((i:Int)<((qac ks).length:Int))=true:=decide_eq_true hlt
  have hg:(qac ks).getD (i:Int).toNat .undef=encV k:=by rw[Int.toNat_natCast,he,←hn];exact qaU _ _ _
  have hw:IntKind.wrap .i64 ((i:Int)+1)=(i:Int)+1:=wrap64 (by omega) (by omega)
  refine qaa qjp.eq_1 ?_
  refine wN ?_
  refine wR0 200 [0,3,5,10] @hd ?_
  refine wN ?_
  refine qaj (eV cJ0) ?_
  simp only[if_true]
  refine wN ?_
  have fX:=(cJ3 @hg @qde @qb7)
  refine wRn 300 [0,3,5,20] fX ?_
  refine rC fX ?_
  refine⟨_,hk k (List.mem_cons_self ..),rE fX ?_⟩
  refine wN ?_
  by_cases hc:qet n k=true
  ·have hb:(!qet n k)=false:=by simp[hc]
   refine qaj (eV cJ0) ?_
   simp only[hb,Bool.false_eq_true,if_false]
   refine wN ?_
   refine wR0 500 [0,3,5] @hw ?_
   refine wN ?_
   have:=ih (pre++[k]) (i+1) (by simp[he]) (by simp;omega) (fun k' hk'=>hk k' (List.mem_cons_of_mem _ hk')) (by simpa [qfR,hc] using hQ0) (by simpa [qfR,hc] using hQ1)
   simpa using this
  ·have hb:(!qet n k)=true:=by simp[hc]
   refine qaj (eV cJ0) ?_
   simp only[hb,if_true]
   refine wN ?_
   refine wR0 400 [4] cJ0 ?_
   refine wN ?_
   refine qaE ?_
   (try simp only[thn,inB])
   exact hQ1 (by simp[qfR,hc])
theorem qnz:∀(v:V) (n:Int),v.fit→TP Tryz.prog 153 [.int .i64 n,encV v] (.bool (qet n v))
 | .mk N ks,n,hv=>by
  have hv':=V.fit_kids hv
  simp only[V.kids] at hv'
  refine qan fn153 (by simp) ?_
  unfold i153
  simp only[argL,encV]
  refine wN ?_
  refine wR0 0 [0,3] cJ0 ?_
  refine wN ?_
  refine wR0 100 [0,3,5] cJ0 ?_
  refine wN ?_
  refine qbN ?_
  refine qoT N n ks hv'.1 _ ks [] 0 rfl rfl (fun k hk=>qnz k n (hv'.2 k hk)) ?_ ?_
  ·intro h i
   simp only[inB,if_true,thn]
   refine wR0 600 [4] cJ0 ?_
   refine wN ?_
   refine qaE ?_
   (try simp only)
   exact⟨by simp,_,rfl,by simp only[qet,h,Bool.true_and];exact .same rfl⟩
  ·intro h
   simp only[inB,thn]
   exact⟨by simp,_,rfl,by simp only[qet,h,Bool.false_and];exact .same rfl⟩
termination_by v=>SizeOf.sizeOf v
decreasing_by exact qcR hk N
def qev (x:Int):Bool:=decide (x<0) || decide (x≥6)
def qd6 (l:List Int):Bool:=!l.any qev&&(decide ((l.length:Int)≥1)&&decide ((l.length:Int)≤6))
theorem qo0 (xs:List Int)(hl:xs.length≤1000000)(Q:IExit→(Nat→T)→Heap→Prop):∀(rest pre:List Int) (i:Nat),xs=pre++rest→pre.length=i→
 (rest.any qev=false→∀i:Int,Q (.exit 0) (ofL [(0,.list (qab xs)),(3,.int .i64 i),(7,.bool false)]) (hpL []))→
 (rest.any qev=true→Q .ret (ofL [(2,.bool false)]) (hpL []))→
 WL Tryz.prog 30 qjt (ofL [(0,.list (qab xs)),(3,.int .i64 i)]) (hpL []) Q:=by
 intro rest
 induction rest with
 | nil=>
  intro pre i he hn hQ0 hQ1
  have hd:decide ((i:Int)<((qab xs).length:Int))=false:=by simp[qah,he,hn]
  refine qaa qjt.eq_1 ?_
  refine wN ?_
  refine wR0 200 [0,3,7] @hd ?_
  refine wN ?_
  refine qaj (eV cJ0) ?_
  simp only[Bool.false_eq_true,if_false]
  refine wN ?_
  refine qbE ?_
  (try simp only[thn])
  exact hQ0 rfl _
 | cons k rest ih=>
  intro pre i he hn hQ0 hQ1
  have hlt:(i:Int)<((qab xs).length:Int):=by simp[qah,he];omega
  have hlb:i≤1000000:=by rw[he] at hl;simp at hl;omega
  have hd:decide ((i:Int)<((qab xs).length:Int))=true:=decide_eq_true hlt
  have hg:(qab xs).getD (i:Int).toNat .undef=.int .i64 k:=by rw[Int.toNat_natCast,he,←hn];exact qc4 _ _ _
  have hw:IntKind.wrap .i64 ((i:Int)+1)=(i:Int)+1:=wrap64 (by omega) (by omega)
  refine qaa qjt.eq_1 ?_
  refine wN ?_
  refine wR0 200 [0,3,7] @hd ?_
  refine wN ?_
  refine qaj (eV cJ0) ?_
  simp only[if_true]
  refine wN ?_
  refine wR0 300 [0,3,21] @hg ?_
  refine wN ?_
  by_cases hc:qev k=true
  ·have hb:(decide (k<0) || decide (k≥6))=true:=hc
   refine qaj (eV cJ0) ?_
   simp only[hb,if_true]
   refine wN ?_
   refine wR0 400 [2] cJ0 ?_
   refine wN ?_
   refine qaE ?_
   (try simp only[thn,inB])
   exact hQ1 (by simp[hc])
  ·have hb:(decide (k<0) || decide (k≥6))=false:=by simpa [qev] using hc
   refine qaj (eV cJ0) ?_
   simp only[hb,Bool.false_eq_true,if_false]
   refine wN ?_
   refine wR0 500 [0,3] @hw ?_
   refine wN ?_
   have:=ih (pre++[k]) (i+1) (by simp[he]) (by simp;omega) (by simpa [hc] using hQ0) (by simpa [hc] using hQ1)
   simpa using this
theorem qs1 (xs:List Int)(hl:xs.length≤1000000):TP Tryz.prog 173 [.list (qab xs)] (.bool (qd6 xs)):=by
 refine qan fn173 (by simp) ?_
 unfold i173
 simp only[argL]
 refine wN ?_
 refine wR0 0 [0] cJ0 ?_
 refine wN ?_
 refine wR0 100 [0,3] cJ0 ?_
 refine wN ?_
 refine qbN ?_
 refine qo0 xs hl _ xs [] 0 rfl rfl ?_ ?_
 ·intro h i
  simp only[inB,if_true,thn]
  refine wR0 600 [2] cJ0 ?_
  refine wN ?_
  refine qaE ?_
  (try simp only)
  exact⟨by simp,_,rfl,by simp only[qd6,h,Bool.not_false,Bool.true_and,qah];exact .same rfl⟩
 ·intro h
  simp only[inB,thn]
  exact⟨by simp,_,rfl,by simp only[qd6,h,Bool.not_true,Bool.false_and];exact .same rfl⟩
end
end Go.Proofs.YtpplncjaihgimaaGreat
