/- Contracts of functions of the program, for all arguments that they name. -/
import Derived.Test.YtkbjpglehdhjfaaGreatDoorK03
namespace Go.Proofs.YtkbjpglehdhjfaaGreatDoor
set_option linter.unusedVariables false
section
open Go.RowKit
inductive V where
 | mk (n:Int) (ks:List V)
instance:Inhabited V:=⟨.mk 0 []⟩
def V.n:V→Int | .mk n _=>n
def V.kids:V→List V | .mk _ ks=>ks
mutual
def encV:V→T
 | .mk n ks=>.agg [.int .i64 n,.list (qaj ks)]
def qaj:List V→List T
 | []=>[]
 | k::ks=>encV k::qaj ks
end
theorem qc6:∀ks,qaj ks=ks.map encV
 | []=>rfl
 | k::ks=>by simp[qaj,qc6 ks]
theorem qal (ks:List V):(qaj ks).length=ks.length:=by rw[qc6,List.length_map]
theorem qbC (pre:List V)(k:V)(ks:List V):(qaj (pre++k::ks)).getD pre.length .undef=encV k:=by
 rw[qc6];simp[List.getD_eq_getElem?_getD]
theorem qcg (v:V):(encV v).cells.length=2:=by cases v;rfl
theorem qdk (v:V):T.agg (encV v).cells=encV v:=by cases v;rfl
theorem qjg (v:V):encV v=.agg [.int .i64 v.n,.list (qaj v.kids)]:=by cases v;rfl
theorem qnQ (v:V):(encV v).cells=[.int .i64 v.n,.list (qaj v.kids)]:=by cases v;rfl
mutual
theorem qb2 (D:Nat→Bool):∀v:V,(encV v).cl D=true
 | .mk n ks=>by simp[encV,T.cl,clL,qak D ks]
theorem qak (D:Nat→Bool):∀ks:List V,clL D (qaj ks)=true
 | []=>rfl
 | k::ks=>by simp[qaj,clL,qb2 D k,qak D ks]
end
mutual
def V.fit:V→Prop
 | .mk _ ks=>ks.length≤1000000∧fitL ks
def fitL:List V→Prop
 | []=>True
 | k::ks=>k.fit∧fitL ks
end
theorem qmn:∀ {ks:List V},fitL ks→∀k∈ks,k.fit
 | [],_,k,hk=>by cases hk
 | x::ks,h,k,hk=>by
  simp only[fitL] at h
  rcases List.mem_cons.1 hk with rfl | hk
  ·exact h.1
  ·exact qmn h.2 k hk
theorem qpe:∀ {ks:List V},(∀k∈ks,k.fit)→fitL ks
 | [],_=>trivial
 | x::ks,h=>⟨h x (List.mem_cons_self ..),qpe fun k hk=>h k (List.mem_cons_of_mem _ hk)⟩
theorem V.fit_kids {v:V}(h:v.fit):v.kids.length≤1000000∧∀k∈v.kids,k.fit:=by
 cases v;simp only[V.fit] at h;exact⟨h.1,qmn h.2⟩
theorem wrap64 {n:Int}(h1:-9223372036854775808≤n)(h2:n≤9223372036854775807):IntKind.wrap .i64 n=n:=by rw[IntKind.wrap_i64];omega
end
section
open Go.RowKit
set_option maxHeartbeats 2000000
def ordI (a b:Int):Int:=if a<b then -1 else if b<a then 1 else 0
theorem qm2 (a b:Int):TP Tryz.prog 53 [.int .i64 a,.int .i64 b] (.int .i64 (ordI a b)):=by
 refine qag fn53 (by simp) ?_
 unfold i53
 simp only[argL]
 refine qbS ?_
 refine wR0 0 [0,1] cJ0 ?_
 simp only[thn]
 refine qbS ?_
 refine qbS ?_
 refine wR0 100 [0,1,7] cJ0 ?_
 simp only[thn]
 refine qan (eV cJ0) ?_
 by_cases hc:a<b
 ·simp only[hc,decide_true,if_true]
  refine qbS ?_
  refine wR0 200 [4] cJ0 ?_
  simp only[thn]
  refine qaW ?_
  exact⟨.inl rfl,_,rfl,by simp only[ordI,hc,if_true];exact .same rfl⟩
 ·simp only[hc,decide_false,Bool.false_eq_true,if_false]
  refine qcL ?_
  simp only[thn]
  refine qbS ?_
  refine qbS ?_
  refine wR0 300 [10] cJ0 ?_
  simp only[thn]
  refine qan (eV cJ0) ?_
  by_cases hd:b<a
  ·have hg:a > b:=hd
   simp only[hg,decide_true,if_true]
   refine qbS ?_
   refine wR0 400 [4] cJ0 ?_
   simp only[thn]
   refine qaW ?_
   exact⟨.inl rfl,_,rfl,by simp only[ordI,hc,hd,if_true,if_false];exact .same rfl⟩
  ·have hg:¬a > b:=hd
   simp only[hg,decide_false,Bool.false_eq_true,if_false]
   refine qcL ?_
   simp only[thn]
   refine qbS ?_
   refine wR0 500 [4] cJ0 ?_
   simp only[thn]
   refine qaW ?_
   exact⟨.inl rfl,_,rfl,by simp only[ordI,hc,hd,if_false];exact .same rfl⟩
mutual
def cmpV:V→V→Int
 | .mk a ks,.mk b ls=>if a≠b then ordI a b else if ks.length≠ls.length then ordI ks.length ls.length else cmpL ks ls
def cmpL:List V→List V→Int
 | k::ks,l::ls=>if cmpV k l≠0 then cmpV k l else cmpL ks ls
 | _,_=>0
end
theorem qrB (A B:Int)(Q:IExit→(Nat→T)→Heap→Prop):∀(xs ys prx pry:List V),xs.length=ys.length→prx.length=pry.length→(prx++xs).length≤1000000→
 (∀k∈xs,∀l∈ys,TP Tryz.prog 18 [encV k,encV l] (.int .i64 (cmpV k l)))→
 (∀l,cmpL xs ys=0→Q (.exit 0) (ofL l) (hpL [(0,.live ⟨35,[.int .i64 A,.list (qaj (prx++xs))]⟩),(1,.live ⟨35,[.int .i64 B,.list (qaj (pry++ys))]⟩)]))→
 (cmpL xs ys≠0→Q .ret (ofL [(4,.int .i64 (cmpL xs ys))]) (hpL [(0,.live ⟨35,[.int .i64 A,.list (qaj (prx++xs))]⟩),(1,.live ⟨35,[.int .i64 B,.list (qaj (pry++ys))]⟩)]))→
 WL Tryz.prog 52 qmv (ofL [(2,.ref 0 2 0),(3,.ref 1 2 0),(5,.int .i64 prx.length)]) (hpL [(0,.live ⟨35,[.int .i64 A,.list (qaj (prx++xs))]⟩),(1,.live ⟨35,[.int .i64 B,.list (qaj (pry++ys))]⟩)]) Q:=by
 intro xs
 induction xs with
 | nil=>
  intro ys prx pry h1 h2 h3 hk hQ0 hQ1
  have hy:ys=[]:=List.eq_nil_of_length_eq_zero h1.symm
  subst hy
  have hd:decide ((prx.length:Int)<((qaj prx).length:Int))=false:=by simp[qal]
  refine qaa qmv.eq_1 ?_
  refine qbS ?_
  refine qbS ?_
  refine wR0 600 [2,3,5,35] @hd ?_
  simp only[thn]
  refine qan (eV cJ0) ?_
  simp only[Bool.false_eq_true,if_false]
  refine qcz ?_
  simp only[thn]
  have:=hQ0 [(2,.ref 0 2 0),(3,.ref 1 2 0),(5,.int .i64 prx.length),(35,.bool false)] rfl
  simpa using this
 | cons k xs ih=>
  intro ys prx pry h1 h2 h3 hk hQ0 hQ1
  cases ys with
  | nil=>simp at h1
  | cons l ys=>
   have hlt:(prx.length:Int)<((qaj (prx++k::xs)).length:Int):=by simp[qal];omega
   have hlt2:(prx.length:Int)<((qaj (pry++l::ys)).length:Int):=by simp[qal];omega
   have hd:decide ((prx.length:Int)<((qaj (prx++k::xs)).length:Int))=true:=decide_eq_true hlt
   have hg1:(qaj (prx++k::xs)).getD (prx.length:Int).toNat .undef=encV k:=by rw[Int.toNat_natCast];exact qbC _ _ _
   have hg2:(qaj (pry++l::ys)).getD (prx.length:Int).toNat .undef=encV l:=by rw[Int.toNat_natCast,h2];exact qbC _ _ _
   have hlb:prx.length≤1000000:=by simp at h3;omega
   have hw:IntKind.wrap .i64 ((prx.length:Int)+1)=(prx.length:Int)+1:=wrap64 (by omega) (by omega)
   refine qaa qmv.eq_1 ?_
   refine qbS ?_
   refine qbS ?_
   refine wR0 600 [2,3,5,35] @hd ?_
   simp only[thn]
   refine qan (eV cJ0) ?_
   simp only[if_true]
   refine qcL ?_
   simp only[thn]
   refine qbS ?_
   refine qcB ?_
   refine qbS ?_
   have fX:=(cJ4 @hg1 @hg2 @qdk @qcg)
   refine wRn 700 [2,3,5,6] fX ?_
   refine rC fX ?_
   refine⟨_,hk k (List.mem_cons_self ..) l (List.mem_cons_self ..),rE fX ?_⟩
   simp only[thn]
   refine qbS ?_
   refine wR0 800 [2,3,5,6,50] cJ0 ?_
   simp only[thn]
   refine qan (eV cJ0) ?_
   by_cases hc:cmpV k l=0
   ·have hb:(cmpV k l != 0)=false:=by simp[hc]
    simp only[hb,Bool.false_eq_true,if_false]
    refine qcL ?_
    simp only[thn,inB]
    refine wR0 1000 [2,3,5] @hw ?_
    simp only[thn]
    have e:cmpL (k::xs) (l::ys)=cmpL xs ys:=by simp[cmpL,hc]
    rw[e] at hQ0 hQ1
    have:=ih ys (prx++[k]) (pry++[l]) (by simpa using h1) (by simp[h2]) (by simpa using h3) (fun k' hk' l' hl'=>hk k' (List.mem_cons_of_mem _ hk') l' (List.mem_cons_of_mem _ hl')) (by simpa using hQ0) (by simpa using hQ1)
    simpa using this
   ·have hb:(cmpV k l != 0)=true:=by simp[hc]
    have e:cmpL (k::xs) (l::ys)=cmpV k l:=by simp[cmpL,hc]
    simp only[hb,if_true]
    refine qbS ?_
    refine wR0 900 [4] cJ0 ?_
    simp only[thn]
    refine qaW ?_
    simp only[thn,inB]
    have:=hQ1 (by rw[e];exact hc)
    rw[e] at this
    exact this
theorem qe0 {k:V}{ks:List V}(h:k∈ks)(n:Int):SizeOf.sizeOf k<SizeOf.sizeOf (V.mk n ks):=by
 have:=List.sizeOf_lt_of_mem h
 simp only[V.mk.sizeOf_spec];omega
theorem qme:∀(v u:V),v.fit→TP Tryz.prog 18 [encV v,encV u] (.int .i64 (cmpV v u))
 | .mk A xs,.mk B ys,hv=>by
  have hv':=V.fit_kids hv
  simp only[V.kids] at hv'
  refine qag fn18 (by simp) ?_
  unfold i18
  simp only[argL,encV]
  refine qbS ?_
  refine wR0 0 [2,3] cJ0 ?_
  simp only[thn]
  refine qbS ?_
  refine qbS ?_
  refine wR0 100 [2,3,11] cJ0 ?_
  simp only[thn]
  refine qan (eV cJ0) ?_
  by_cases hc:A=B
  ·have hb:(A != B)=false:=by simp[hc]
   simp only[hb,Bool.false_eq_true,if_false]
   refine qcL ?_
   simp only[thn]
   refine qbS ?_
   refine qbS ?_
   refine wR0 300 [2,3,23] cJ0 ?_
   simp only[thn]
   refine qan (eV cJ0) ?_
   by_cases hd:xs.length=ys.length
   ·have hb2:(((qaj xs).length:Int) != ((qaj ys).length:Int))=false:=by simp[qal,hd]
    simp only[hb2,Bool.false_eq_true,if_false]
    refine qcL ?_
    simp only[thn]
    refine qbS ?_
    refine qbS ?_
    refine wR0 500 [2,3,5] cJ0 ?_
    simp only[thn]
    refine qcB ?_
    refine qdx ?_
    have e:cmpV (.mk A xs) (.mk B ys)=cmpL xs ys:=by simp[cmpV,hc,hd]
    have hloop:=qrB A B (inB 0 (thn (fun env' H'=>W Tryz.prog 52 (.seq (.reg [⟨some 4,.op (.mv (.con (.int .i64 0))),none⟩] [] false) .ret) env' H' fun e env' H'=>(e=.ret∨e=.normal)∧∃x,resT env' H' [(4,none)]=some x∧Frz H' x (.int .i64 (cmpV (.mk A xs) (.mk B ys)))) fun e env' H'=>(e=.ret∨e=.normal)∧∃x,resT env' H' [(4,none)]=some x∧Frz H' x (.int .i64 (cmpV (.mk A xs) (.mk B ys))))) xs ys [] [] hd rfl (by simpa using hv'.1) (fun k hk l hl=>qme k l (hv'.2 k hk)) ?_ ?_
    ·simpa using hloop
    ·intro l h0
     simp only[inB,thn,if_true]
     refine qbS ?_
     refine wR0 1100 [4] cJ0 ?_
     simp only[thn]
     refine qaW ?_
     exact⟨.inl rfl,_,rfl,by rw[e,h0];exact .same rfl⟩
    ·intro h0
     simp only[inB,thn]
     exact⟨by simp,_,rfl,by rw[e];exact .same rfl⟩
   ·have hb2:(((qaj xs).length:Int) != ((qaj ys).length:Int))=true:=by simp[qal];omega
    simp only[hb2,if_true]
    refine qbS ?_
    refine wRn 400 [4] cJ0 ?_
    refine rC cJ0 ?_
    refine⟨_,qm2 _ _,rE cJ0 ?_⟩
    simp only[thn]
    refine qaW ?_
    exact⟨.inl rfl,_,rfl,by simp only[cmpV,hc,hd,qal,ne_eq,not_true_eq_false,not_false_eq_true,if_true,if_false];exact .same rfl⟩
  ·have hb:(A != B)=true:=by simp[hc]
   simp only[hb,if_true]
   refine qbS ?_
   refine wRn 200 [4] cJ0 ?_
   refine rC cJ0 ?_
   refine⟨_,qm2 _ _,rE cJ0 ?_⟩
   simp only[thn]
   refine qaW ?_
   exact⟨.inl rfl,_,rfl,by simp only[cmpV,hc,ne_eq,not_false_eq_true,if_true];exact .same rfl⟩
termination_by v=>SizeOf.sizeOf v
decreasing_by exact qe0 hk A
mutual
def qcb:V→Int→Int
 | .mk _ ks,most=>qdj ks 1 most
def qdj:List V→Int→Int→Int
 | [],n,_=>n
 | k::ks,n,most=>if n≤most then qdj ks (n+qcb k (most - n)) most else n
end
mutual
theorem size_le:∀(v:V) (most:Int),0≤most→1≤qcb v most∧qcb v most≤most+1
 | .mk n ks,most,h=>by
  have:=qnn ks 1 most (by omega) (by omega)
  simp only[qcb];omega
theorem qnn:∀(ks:List V) (n most:Int),1≤n→n≤most+1→n≤qdj ks n most∧qdj ks n most≤most+1
 | [],n,most,h1,h2=>by simp only[qdj];omega
 | k::ks,n,most,h1,h2=>by
  simp only[qdj]
  split
  ·have:=size_le k (most - n) (by omega)
   have:=qnn ks (n+qcb k (most - n)) most (by omega) (by omega)
   omega
  ·omega
end
theorem qqM (most:Int)(hm0:0≤most)(hm1:most≤1000000)(N:Int)(ks:List V)(hl:ks.length≤1000000)(Q:IExit→(Nat→T)→Heap→Prop):∀(rest pre:List V) (n:Int),ks=pre++rest→1≤n→n≤most+1→
 (∀k∈rest,∀m:Int,0≤m→m≤1000000→TP Tryz.prog 94 [encV k,.int .i64 m] (.int .i64 (qcb k m)))→
 (∀i:Int,Q (.exit 0) (ofL [(1,.int .i64 most),(2,.ref 0 2 0),(5,.int .i64 (qdj rest n most)),(6,.int .i64 i),(16,.bool false)]) (hpL [(0,.live ⟨35,[.int .i64 N,.list (qaj ks)]⟩)]))→
 WL Tryz.prog 31 qmM (ofL [(1,.int .i64 most),(2,.ref 0 2 0),(5,.int .i64 n),(6,.int .i64 pre.length)]) (hpL [(0,.live ⟨35,[.int .i64 N,.list (qaj ks)]⟩)]) Q:=by
 intro rest
 induction rest with
 | nil=>
  intro pre n he h1 h2 hk hQ
  have hd:decide ((pre.length:Int)<((qaj ks).length:Int))=false:=by simp[qal,he]
  refine qaa qmM.eq_1 ?_
  refine wN ?_
  refine wR0 300 [1,2,5,6,16] @hd ?_
  refine wN ?_
  refine qan (eV cJ0) ?_
  simp only[Bool.false_eq_true,if_false]
  refine wN ?_
  refine qcz ?_
  (try simp only[thn])
  exact hQ _
 | cons k rest ih=>
  intro pre n he h1 h2 hk hQ
  have hlen:(pre.length:Int)<((qaj ks).length:Int):=by simp[qal,he];omega
  have hlb:pre.length≤1000000:=by rw[he] at hl;simp at hl;omega
  have hd:decide ((pre.length:Int)<((qaj ks).length:Int))=true:=decide_eq_true hlen
  refine qaa qmM.eq_1 ?_
  refine wN ?_
  refine wR0 300 [1,2,5,6,16] @hd ?_
  refine wN ?_
  by_cases hn:n≤most
  ·have hd2:decide (n≤most)=true:=decide_eq_true hn
   refine qan (eV cJ0) ?_
   simp only[hd2,if_true]
   refine wN ?_
   have hsz:=size_le k (most - n) (by omega)
   have hw1:IntKind.wrap .i64 (most - n)=most - n:=wrap64 (by omega) (by omega)
   have hw2:IntKind.wrap .i64 (n+qcb k (most - n))=n+qcb k (most - n):=wrap64 (by omega) (by omega)
   have hw3:IntKind.wrap .i64 ((pre.length:Int)+1)=(pre.length:Int)+1:=wrap64 (by omega) (by omega)
   have hg:(qaj ks).getD (pre.length:Int).toNat .undef=encV k:=by rw[Int.toNat_natCast,he];exact qbC _ _ _
   have fX:=(cJ5 @hg @qdk @qcg @hw1 @hw2)
   refine wRn 400 [1,2,5,6] fX ?_
   refine rC fX ?_
   refine⟨_,hk k (List.mem_cons_self ..) (most - n) (by omega) (by omega),rE fX ?_⟩
   refine wN ?_
   refine wR0 500 [1,2,5,6] @hw3 ?_
   refine wN ?_
   have:=ih (pre++[k]) (n+qcb k (most - n)) (by simp[he]) (by omega) (by omega) (fun k' hk'=>hk k' (List.mem_cons_of_mem _ hk')) (fun i=>by
    have:=hQ i
    simpa only [qdj,if_pos hn] using this)
   simpa using this
  ·have hd2:decide (n≤most)=false:=decide_eq_false hn
   refine qan (eV cJ0) ?_
   simp only[hd2,Bool.false_eq_true,if_false]
   refine wN ?_
   refine qcz ?_
   (try simp only[thn])
   have:=hQ pre.length
   simpa only [qdj,if_neg hn] using this
theorem qh5:∀(v:V) (most:Int),v.fit→0≤most→most≤1000000→TP Tryz.prog 94 [encV v,.int .i64 most] (.int .i64 (qcb v most))
 | .mk N ks,most,hv,h0,h1=>by
  have hv':=V.fit_kids hv
  simp only[V.kids] at hv'
  refine qag fn94 (by simp) ?_
  unfold i94
  simp only[argL,encV]
  refine wN ?_
  refine wR0 0 [1,2] cJ0 ?_
  refine wN ?_
  refine wR0 100 [1,2,5] cJ0 ?_
  refine wN ?_
  refine wR0 200 [1,2,5,6] cJ0 ?_
  refine wN ?_
  refine qdx ?_
  refine qqM most h0 h1 N ks hv'.1 _ ks [] 1 rfl (by omega) (by omega) (fun k hk m hm0 hm1=>qh5 k m (hv'.2 k hk) hm0 hm1) ?_
  intro i
  simp only[inB,if_true,thn]
  refine wR0 600 [4] cJ0 ?_
  refine wN ?_
  refine qaW ?_
  (try simp only)
  exact⟨by simp,_,rfl,by simp only[qcb];exact .same rfl⟩
termination_by v=>SizeOf.sizeOf v
decreasing_by exact qe0 hk N
def qcv:List V→List T
 | []=>[]
 | k::ks=>.int .i64 k.n::.list (qaj k.kids)::qcv ks
theorem qhs:∀ks:List V,(qcv ks).length=ks.length*2
 | []=>rfl
 | k::ks=>by simp[qcv,qhs ks];omega
theorem qdD:∀ks:List V,qcv ks=flat (qaj ks)
 | []=>rfl
 | k::ks=>by rw[qaj,qbH,qnQ,qcv,qdD ks];rfl
theorem qeV (D:Nat→Bool):∀ks:List V,clL D (qcv ks)=true
 | []=>rfl
 | k::ks=>by simp[qcv,clL,T.cl,qak,qeV D ks]
theorem qeW:∀ks:List V,Ones (qcv ks)
 | []=>fun c hc=>by cases hc
 | k::ks=>fun c hc=>by
  simp only[qcv,List.mem_cons] at hc
  rcases hc with rfl | rfl | hc
  ·rfl
  ·rfl
  ·exact qeW ks c hc
theorem qgB (ks:List V):qc3 (esz 2) (qaj ks):=fun x hx=>by
 rw[qc6] at hx
 obtain⟨v,_,rfl⟩:=List.mem_map.1 hx
 exact qcg v
theorem qt4 {H:Heap}{id ty n tot:Nat}(ks:List V)(hb:H id=.live ⟨ty,qcv ks⟩)(hn:n=ks.length)(ht:tot=ks.length*2):Frz H (.sl id tot 2 0 n) (.list (qaj ks)):=by
 subst hn ht
 refine Frz.sl hb (qhs ks) (by simp[esz]) (qal ks) (qgB ks) (by rw[←qdD];exact qeW ks) fun k hk=>?_
 rw[←qdD,Nat.zero_add]
 exact .same (qbk (qeV _ ks) k)
end
section
open Go.RowKit
set_option maxHeartbeats 2000000
def qad (l:List Int):List T:=l.map (.int .i64)
theorem qae (l:List Int):(qad l).length=l.length:=by simp[qad]
theorem qcN (pre:List Int)(k:Int)(ks:List Int):(qad (pre++k::ks)).getD pre.length .undef=.int .i64 k:=by
 simp[qad,List.getD_eq_getElem?_getD]
theorem qah (D:Nat→Bool)(l:List Int):clL D (qad l)=true:=by
 induction l with
 | nil=>rfl
 | cons x l ih=>simpa [qad,clL,T.cl] using ih
inductive Ty where
 | mk (k s:Int) (rs:List Int) (ps:List Ty)
instance:Inhabited Ty:=⟨.mk 0 0 [] []⟩
def Ty.k:Ty→Int | .mk k _ _ _=>k
def Ty.s:Ty→Int | .mk _ s _ _=>s
def Ty.rs:Ty→List Int | .mk _ _ rs _=>rs
def Ty.ps:Ty→List Ty | .mk _ _ _ ps=>ps
mutual
def qaz:Ty→T
 | .mk k s rs ps=>.agg [.int .i64 k,.int .i64 s,.list (qad rs),.list (qam ps)]
def qam:List Ty→List T
 | []=>[]
 | p::ps=>qaz p::qam ps
end
theorem qcZ:∀ps,qam ps=ps.map qaz
 | []=>rfl
 | k::ps=>by simp[qam,qcZ ps]
theorem qap (ps:List Ty):(qam ps).length=ps.length:=by rw[qcZ,List.length_map]
theorem qeR (pre:List Ty)(k:Ty)(ps:List Ty):(qam (pre++k::ps)).getD pre.length .undef=qaz k:=by
 rw[qcZ];simp[List.getD_eq_getElem?_getD]
theorem qb6 (v:Ty):(qaz v).cells.length=4:=by cases v;rfl
theorem qcM (v:Ty):T.agg (qaz v).cells=qaz v:=by cases v;rfl
mutual
theorem qmm (D:Nat→Bool):∀v:Ty,(qaz v).cl D=true
 | .mk k s rs ps=>by simp[qaz,T.cl,clL,qah,qdC D ps]
theorem qdC (D:Nat→Bool):∀ps:List Ty,clL D (qam ps)=true
 | []=>rfl
 | p::ps=>by simp[qam,clL,qmm D p,qdC D ps]
end
attribute [simp] qb2 qak qah qmm qdC
theorem qkb {p:Ty}{ps:List Ty}(h:p∈ps)(k s:Int)(rs:List Int):SizeOf.sizeOf p<SizeOf.sizeOf (Ty.mk k s rs ps):=by
 have:=List.sizeOf_lt_of_mem h
 simp only[Ty.mk.sizeOf_spec];omega
mutual
def qew (n:Int):V→Bool
 | .mk a ks=>qfQ n ks&&(decide (a≥0)&&decide (a<n))
def qfQ (n:Int):List V→Bool
 | []=>true
 | k::ks=>qew n k&&qfQ n ks
end
theorem qn1 (N n:Int)(ks:List V)(hl:ks.length≤1000000)(Q:IExit→(Nat→T)→Heap→Prop):∀(rest pre:List V) (i:Nat),ks=pre++rest→pre.length=i→
 (∀k∈rest,TP Tryz.prog 141 [.int .i64 n,encV k] (.bool (qew n k)))→
 (qfQ n rest=true→∀i:Int,Q (.exit 0) (ofL [(0,.int .i64 n),(3,.ref 0 2 0),(5,.int .i64 i),(10,.bool false)]) (hpL [(0,.live ⟨35,[.int .i64 N,.list (qaj ks)]⟩)]))→
 (qfQ n rest=false→Q .ret (ofL [(4,.bool false)]) (hpL [(0,.live ⟨35,[.int .i64 N,.list (qaj ks)]⟩)]))→
 WL Tryz.prog 30 qju (ofL [(0,.int .i64 n),(3,.ref 0 2 0),(5,.int .i64 i)]) (hpL [(0,.live ⟨35,[.int .i64 N,.list (qaj ks)]⟩)]) Q:=by
 intro rest
 induction rest with
 | nil=>
  intro pre i he hn hk hQ0 hQ1
  have hd:decide ((i:Int)<((qaj ks).length:Int))=false:=by simp[qal,he,hn]
  refine qaa qju.eq_1 ?_
  refine wN ?_
  refine wR0 200 [0,3,5,10] @hd ?_
  refine wN ?_
  refine qan (eV cJ0) ?_
  simp only[Bool.false_eq_true,if_false]
  refine wN ?_
  refine qcz ?_
  (try simp only[thn])
  exact hQ0 rfl _
 | cons k rest ih=>
  intro pre i he hn hk hQ0 hQ1
  have hlt:(i:Int)<((qaj ks).length:Int):=by simp[qal,he];omega
  have hlb:i≤1000000:=by rw[he] at hl;simp at hl;omega
  have hd:decide ((i:Int)<((qaj ks).length:Int))=true:=decide_eq_true hlt
  have hg:(qaj ks).getD (i:Int).toNat .undef=encV k:=by rw[Int.toNat_natCast,he,←hn];exact qbC _ _ _
  have hw:IntKind.wrap .i64 ((i:Int)+1)=(i:Int)+1:=wrap64 (by omega) (by omega)
  refine qaa qju.eq_1 ?_
  refine wN ?_
  refine wR0 200 [0,3,5,10] @hd ?_
  refine wN ?_
  refine qan (eV cJ0) ?_
  simp only[if_true]
  refine wN ?_
  have fX:=(cJ3 @hg @qdk @qcg)
  refine wRn 300 [0,3,5,20] fX ?_
  refine rC fX ?_
  refine⟨_,hk k (List.mem_cons_self ..),rE fX ?_⟩
  refine wN ?_
  by_cases hc:qew n k=true
  ·have hb:(!qew n k)=false:=by simp[hc]
   refine qan (eV cJ0) ?_
   simp only[hb,Bool.false_eq_true,if_false]
   refine wN ?_
   refine wR0 500 [0,3,5] @hw ?_
   refine wN ?_
   have:=ih (pre++[k]) (i+1) (by simp[he]) (by simp;omega) (fun k' hk'=>hk k' (List.mem_cons_of_mem _ hk')) (by simpa [qfQ,hc] using hQ0) (by simpa [qfQ,hc] using hQ1)
   simpa using this
  ·have hb:(!qew n k)=true:=by simp[hc]
   refine qan (eV cJ0) ?_
   simp only[hb,if_true]
   refine wN ?_
   refine wR0 400 [4] cJ0 ?_
   refine wN ?_
   refine qaW ?_
   (try simp only[thn,inB])
   exact hQ1 (by simp[qfQ,hc])
theorem qmZ:∀(v:V) (n:Int),v.fit→TP Tryz.prog 141 [.int .i64 n,encV v] (.bool (qew n v))
 | .mk N ks,n,hv=>by
  have hv':=V.fit_kids hv
  simp only[V.kids] at hv'
  refine qag fn141 (by simp) ?_
  unfold i141
  simp only[argL,encV]
  refine wN ?_
  refine wR0 0 [0,3] cJ0 ?_
  refine wN ?_
  refine wR0 100 [0,3,5] cJ0 ?_
  refine wN ?_
  refine qdx ?_
  refine qn1 N n ks hv'.1 _ ks [] 0 rfl rfl (fun k hk=>qmZ k n (hv'.2 k hk)) ?_ ?_
  ·intro h i
   simp only[inB,if_true,thn]
   refine wR0 600 [4] cJ0 ?_
   refine wN ?_
   refine qaW ?_
   (try simp only)
   exact⟨by simp,_,rfl,by simp only[qew,h,Bool.true_and];exact .same rfl⟩
  ·intro h
   simp only[inB,thn]
   exact⟨by simp,_,rfl,by simp only[qew,h,Bool.false_and];exact .same rfl⟩
termination_by v=>SizeOf.sizeOf v
decreasing_by exact qe0 hk N
def qeB (x:Int):Bool:=decide (x<0) || decide (x≥6)
def qd3 (l:List Int):Bool:=!l.any qeB&&(decide ((l.length:Int)≥1)&&decide ((l.length:Int)≤6))
theorem qn6 (xs:List Int)(hl:xs.length≤1000000)(Q:IExit→(Nat→T)→Heap→Prop):∀(rest pre:List Int) (i:Nat),xs=pre++rest→pre.length=i→
 (rest.any qeB=false→∀i:Int,Q (.exit 0) (ofL [(0,.list (qad xs)),(3,.int .i64 i),(7,.bool false)]) (hpL []))→
 (rest.any qeB=true→Q .ret (ofL [(2,.bool false)]) (hpL []))→
 WL Tryz.prog 30 qjy (ofL [(0,.list (qad xs)),(3,.int .i64 i)]) (hpL []) Q:=by
 intro rest
 induction rest with
 | nil=>
  intro pre i he hn hQ0 hQ1
  have hd:decide ((i:Int)<((qad xs).length:Int))=false:=by simp[qae,he,hn]
  refine qaa qjy.eq_1 ?_
  refine wN ?_
  refine wR0 200 [0,3,7] @hd ?_
  refine wN ?_
  refine qan (eV cJ0) ?_
  simp only[Bool.false_eq_true,if_false]
  refine wN ?_
  refine qcz ?_
  (try simp only[thn])
  exact hQ0 rfl _
 | cons k rest ih=>
  intro pre i he hn hQ0 hQ1
  have hlt:(i:Int)<((qad xs).length:Int):=by simp[qae,he];omega
  have hlb:i≤1000000:=by rw[he] at hl;simp at hl;omega
  have hd:decide ((i:Int)<((qad xs).length:Int))=true:=decide_eq_true hlt
  have hg:(qad xs).getD (i:Int).toNat .undef=.int .i64 k:=by rw[Int.toNat_natCast,he,←hn];exact qcN _ _ _
  have hw:IntKind.wrap .i64 ((i:Int)+1)=(i:Int)+1:=wrap64 (by omega) (by omega)
  refine qaa qjy.eq_1 ?_
  refine wN ?_
  refine wR0 200 [0,3,7] @hd ?_
  refine wN ?_
  refine qan (eV cJ0) ?_
  simp only[if_true]
  refine wN ?_
  refine wR0 300 [0,3,21] @hg ?_
  refine wN ?_
  by_cases hc:qeB k=true
  ·have hb:(decide (k<0) || decide (k≥6))=true:=hc
   refine qan (eV cJ0) ?_
   simp only[hb,if_true]
   refine wN ?_
   refine wR0 400 [2] cJ0 ?_
   refine wN ?_
   refine qaW ?_
   (try simp only[thn,inB])
   exact hQ1 (by simp[hc])
  ·have hb:(decide (k<0) || decide (k≥6))=false:=by simpa [qeB] using hc
   refine qan (eV cJ0) ?_
   simp only[hb,Bool.false_eq_true,if_false]
   refine wN ?_
   refine wR0 500 [0,3] @hw ?_
   refine wN ?_
   have:=ih (pre++[k]) (i+1) (by simp[he]) (by simp;omega) (by simpa [hc] using hQ0) (by simpa [hc] using hQ1)
   simpa using this
theorem qss (xs:List Int)(hl:xs.length≤1000000):TP Tryz.prog 182 [.list (qad xs)] (.bool (qd3 xs)):=by
 refine qag fn182 (by simp) ?_
 unfold i182
 simp only[argL]
 refine wN ?_
 refine wR0 0 [0] cJ0 ?_
 refine wN ?_
 refine wR0 100 [0,3] cJ0 ?_
 refine wN ?_
 refine qdx ?_
 refine qn6 xs hl _ xs [] 0 rfl rfl ?_ ?_
 ·intro h i
  simp only[inB,if_true,thn]
  refine wR0 600 [2] cJ0 ?_
  refine wN ?_
  refine qaW ?_
  (try simp only)
  exact⟨by simp,_,rfl,by simp only[qd3,h,Bool.not_false,Bool.true_and,qae];exact .same rfl⟩
 ·intro h
  simp only[inB,thn]
  exact⟨by simp,_,rfl,by simp only[qd3,h,Bool.not_true,Bool.false_and];exact .same rfl⟩
end
end Go.Proofs.YtkbjpglehdhjfaaGreatDoor
