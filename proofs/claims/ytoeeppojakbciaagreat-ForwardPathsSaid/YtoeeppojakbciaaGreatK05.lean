/- Contracts of functions of the program, for all arguments that they name. -/
import Derived.Test.YtoeeppojakbciaaGreatK03
import Derived.Test.YtoeeppojakbciaaGreatK04
namespace Go.Proofs.YtoeeppojakbciaaGreat
set_option linter.unusedVariables false
section
open Go.RowKit
inductive V where
 | mk (n:Int) (ks:List V)
instance:Inhabited V:=⟨.mk 0 []⟩
def V.n:V→Int | .mk n _=>n
def V.kids:V→List V | .mk _ ks=>ks
mutual
def encV:V→T
 | .mk n ks=>.agg [.int .i64 n,.list (qag ks)]
def qag:List V→List T
 | []=>[]
 | k::ks=>encV k::qag ks
end
theorem qc5:∀ks,qag ks=ks.map encV
 | []=>rfl
 | k::ks=>by simp[qag,qc5 ks]
theorem qam (ks:List V):(qag ks).length=ks.length:=by rw[qc5,List.length_map]
theorem qba (pre:List V)(k:V)(ks:List V):(qag (pre++k::ks)).getD pre.length .undef=encV k:=by
 rw[qc5];simp[List.getD_eq_getElem?_getD]
theorem qbK (v:V):(encV v).cells.length=2:=by cases v;rfl
theorem qcN (v:V):T.agg (encV v).cells=encV v:=by cases v;rfl
theorem qoy (v:V):encV v=.agg [.int .i64 v.n,.list (qag v.kids)]:=by cases v;rfl
theorem qm2 (v:V):(encV v).cells=[.int .i64 v.n,.list (qag v.kids)]:=by cases v;rfl
mutual
theorem qca (D:Nat→Bool):∀v:V,(encV v).cl D=true
 | .mk n ks=>by simp[encV,T.cl,clL,qak D ks]
theorem qak (D:Nat→Bool):∀ks:List V,clL D (qag ks)=true
 | []=>rfl
 | k::ks=>by simp[qag,clL,qca D k,qak D ks]
end
theorem qkF (ks:List V):sizedB 2 (qag ks)=true:=by
 rw[qc5,sizedB,List.all_eq_true]
 intro x hx
 obtain⟨v,_,rfl⟩:=List.mem_map.1 hx
 simp[qbK,esz]
mutual
def V.fit:V→Prop
 | .mk _ ks=>ks.length≤1000000∧fitL ks
def fitL:List V→Prop
 | []=>True
 | k::ks=>k.fit∧fitL ks
end
theorem qlH:∀ {ks:List V},fitL ks→∀k∈ks,k.fit
 | [],_,k,hk=>by cases hk
 | x::ks,h,k,hk=>by
  simp only[fitL] at h
  rcases List.mem_cons.1 hk with rfl | hk
  ·exact h.1
  ·exact qlH h.2 k hk
theorem qkG:∀ {ks:List V},(∀k∈ks,k.fit)→fitL ks
 | [],_=>trivial
 | x::ks,h=>⟨h x (List.mem_cons_self ..),qkG fun k hk=>h k (List.mem_cons_of_mem _ hk)⟩
theorem V.fit_kids {v:V}(h:v.fit):v.kids.length≤1000000∧∀k∈v.kids,k.fit:=by
 cases v;simp only[V.fit] at h;exact⟨h.1,qlH h.2⟩
theorem wrap64 {n:Int}(h1:-9223372036854775808≤n)(h2:n≤9223372036854775807):IntKind.wrap .i64 n=n:=by rw[IntKind.wrap_i64];omega
end
section
open Go.RowKit
set_option maxHeartbeats 2000000
def ordI (a b:Int):Int:=if a<b then -1 else if b<a then 1 else 0
theorem qf2 (a b:Int):TP Tryz.prog 50 [.int .i64 a,.int .i64 b] (.int .i64 (ordI a b)):=by
 refine qah fn50 (by simp) ?_
 unfold i50
 simp only[argL]
 refine qbt ?_
 refine wR0 0 [0,1] cJ0 ?_
 simp only[thn]
 refine qbt ?_
 refine qbt ?_
 refine wR0 100 [0,1,7] cJ0 ?_
 simp only[thn]
 refine qai (eV cJ0) ?_
 by_cases hc:a<b
 ·simp only[hc,decide_true,if_true]
  refine qbt ?_
  refine wR0 200 [4] cJ0 ?_
  simp only[thn]
  refine qaL ?_
  exact⟨.inl rfl,_,rfl,by simp only[ordI,hc,if_true];exact .same rfl⟩
 ·simp only[hc,decide_false,Bool.false_eq_true,if_false]
  refine qcf ?_
  simp only[thn]
  refine qbt ?_
  refine qbt ?_
  refine wR0 300 [10] cJ0 ?_
  simp only[thn]
  refine qai (eV cJ0) ?_
  by_cases hd:b<a
  ·have hg:a > b:=hd
   simp only[hg,decide_true,if_true]
   refine qbt ?_
   refine wR0 400 [4] cJ0 ?_
   simp only[thn]
   refine qaL ?_
   exact⟨.inl rfl,_,rfl,by simp only[ordI,hc,hd,if_true,if_false];exact .same rfl⟩
  ·have hg:¬a > b:=hd
   simp only[hg,decide_false,Bool.false_eq_true,if_false]
   refine qcf ?_
   simp only[thn]
   refine qbt ?_
   refine wR0 500 [4] cJ0 ?_
   simp only[thn]
   refine qaL ?_
   exact⟨.inl rfl,_,rfl,by simp only[ordI,hc,hd,if_false];exact .same rfl⟩
mutual
def cmpV:V→V→Int
 | .mk a ks,.mk b ls=>if a≠b then ordI a b else if ks.length≠ls.length then ordI ks.length ls.length else cmpL ks ls
def cmpL:List V→List V→Int
 | k::ks,l::ls=>if cmpV k l≠0 then cmpV k l else cmpL ks ls
 | _,_=>0
end
theorem qqw (A B:Int)(Q:IExit→(Nat→T)→Heap→Prop):∀(xs ys prx pry:List V),xs.length=ys.length→prx.length=pry.length→(prx++xs).length≤1000000→
 (∀k∈xs,∀l∈ys,TP Tryz.prog 129 [encV k,encV l] (.int .i64 (cmpV k l)))→
 (∀l,cmpL xs ys=0→Q (.exit 0) (ofL l) (hpL [(0,.live ⟨31,[.int .i64 A,.list (qag (prx++xs))]⟩),(1,.live ⟨31,[.int .i64 B,.list (qag (pry++ys))]⟩)]))→
 (cmpL xs ys≠0→Q .ret (ofL [(4,.int .i64 (cmpL xs ys))]) (hpL [(0,.live ⟨31,[.int .i64 A,.list (qag (prx++xs))]⟩),(1,.live ⟨31,[.int .i64 B,.list (qag (pry++ys))]⟩)]))→
 WL Tryz.prog 52 qir (ofL [(2,.ref 0 2 0),(3,.ref 1 2 0),(5,.int .i64 prx.length)]) (hpL [(0,.live ⟨31,[.int .i64 A,.list (qag (prx++xs))]⟩),(1,.live ⟨31,[.int .i64 B,.list (qag (pry++ys))]⟩)]) Q:=by
 intro xs
 induction xs with
 | nil=>
  intro ys prx pry h1 h2 h3 hk hQ0 hQ1
  have hy:ys=[]:=List.eq_nil_of_length_eq_zero h1.symm
  subst hy
  have hd:decide ((prx.length:Int)<((qag prx).length:Int))=false:=by simp[qam]
  refine qaa qir.eq_1 ?_
  refine qbt ?_
  refine qbt ?_
  refine wR0 600 [2,3,5,35] @hd ?_
  simp only[thn]
  refine qai (eV cJ0) ?_
  simp only[Bool.false_eq_true,if_false]
  refine qb4 ?_
  simp only[thn]
  have:=hQ0 [(2,.ref 0 2 0),(3,.ref 1 2 0),(5,.int .i64 prx.length),(35,.bool false)] rfl
  simpa using this
 | cons k xs ih=>
  intro ys prx pry h1 h2 h3 hk hQ0 hQ1
  cases ys with
  | nil=>simp at h1
  | cons l ys=>
   have hlt:(prx.length:Int)<((qag (prx++k::xs)).length:Int):=by simp[qam];omega
   have hlt2:(prx.length:Int)<((qag (pry++l::ys)).length:Int):=by simp[qam];omega
   have hd:decide ((prx.length:Int)<((qag (prx++k::xs)).length:Int))=true:=decide_eq_true hlt
   have hg1:(qag (prx++k::xs)).getD (prx.length:Int).toNat .undef=encV k:=by rw[Int.toNat_natCast];exact qba _ _ _
   have hg2:(qag (pry++l::ys)).getD (prx.length:Int).toNat .undef=encV l:=by rw[Int.toNat_natCast,h2];exact qba _ _ _
   have hlb:prx.length≤1000000:=by simp at h3;omega
   have hw:IntKind.wrap .i64 ((prx.length:Int)+1)=(prx.length:Int)+1:=wrap64 (by omega) (by omega)
   refine qaa qir.eq_1 ?_
   refine qbt ?_
   refine qbt ?_
   refine wR0 600 [2,3,5,35] @hd ?_
   simp only[thn]
   refine qai (eV cJ0) ?_
   simp only[if_true]
   refine qcf ?_
   simp only[thn]
   refine qbt ?_
   refine qb5 ?_
   refine qbt ?_
   have fX:=(cJ4 @hg1 @hg2 @qcN @qbK)
   refine wRn 700 [2,3,5,6] fX ?_
   refine rC fX ?_
   refine⟨_,hk k (List.mem_cons_self ..) l (List.mem_cons_self ..),rE fX ?_⟩
   simp only[thn]
   refine qbt ?_
   refine wR0 800 [2,3,5,6,50] cJ0 ?_
   simp only[thn]
   refine qai (eV cJ0) ?_
   by_cases hc:cmpV k l=0
   ·have hb:(cmpV k l != 0)=false:=by simp[hc]
    simp only[hb,Bool.false_eq_true,if_false]
    refine qcf ?_
    simp only[thn,inB]
    refine wR0 1000 [2,3,5] @hw ?_
    simp only[thn]
    have e:cmpL (k::xs) (l::ys)=cmpL xs ys:=by simp[cmpL,hc]
    rw[e] at hQ0 hQ1
    have:=ih ys (prx++[k]) (pry++[l]) (by simpa using h1) (by simp[h2]) (by simpa using h3) (fun k' hk' l' hl'=>hk k' (List.mem_cons_of_mem _ hk') l' (List.mem_cons_of_mem _ hl')) (by simpa using hQ0) (by simpa using hQ1)
    simpa using this
   ·have hb:(cmpV k l != 0)=true:=by simp[hc]
    have e:cmpL (k::xs) (l::ys)=cmpV k l:=by simp[cmpL,hc]
    simp only[hb,if_true]
    refine qbt ?_
    refine wR0 900 [4] cJ0 ?_
    simp only[thn]
    refine qaL ?_
    simp only[thn,inB]
    have:=hQ1 (by rw[e];exact hc)
    rw[e] at this
    exact this
theorem qd6 {k:V}{ks:List V}(h:k∈ks)(n:Int):SizeOf.sizeOf k<SizeOf.sizeOf (V.mk n ks):=by
 have:=List.sizeOf_lt_of_mem h
 simp only[V.mk.sizeOf_spec];omega
theorem qsi:∀(v u:V),v.fit→TP Tryz.prog 129 [encV v,encV u] (.int .i64 (cmpV v u))
 | .mk A xs,.mk B ys,hv=>by
  have hv':=V.fit_kids hv
  simp only[V.kids] at hv'
  refine qah fn129 (by simp) ?_
  unfold i129
  simp only[argL,encV]
  refine qbt ?_
  refine wR0 0 [2,3] cJ0 ?_
  simp only[thn]
  refine qbt ?_
  refine qbt ?_
  refine wR0 100 [2,3,11] cJ0 ?_
  simp only[thn]
  refine qai (eV cJ0) ?_
  by_cases hc:A=B
  ·have hb:(A != B)=false:=by simp[hc]
   simp only[hb,Bool.false_eq_true,if_false]
   refine qcf ?_
   simp only[thn]
   refine qbt ?_
   refine qbt ?_
   refine wR0 300 [2,3,23] cJ0 ?_
   simp only[thn]
   refine qai (eV cJ0) ?_
   by_cases hd:xs.length=ys.length
   ·have hb2:(((qag xs).length:Int) != ((qag ys).length:Int))=false:=by simp[qam,hd]
    simp only[hb2,Bool.false_eq_true,if_false]
    refine qcf ?_
    simp only[thn]
    refine qbt ?_
    refine qbt ?_
    refine wR0 500 [2,3,5] cJ0 ?_
    simp only[thn]
    refine qb5 ?_
    refine qc1 ?_
    have e:cmpV (.mk A xs) (.mk B ys)=cmpL xs ys:=by simp[cmpV,hc,hd]
    have hloop:=qqw A B (inB 0 (thn (fun env' H'=>W Tryz.prog 52 (.seq (.reg [⟨some 4,.op (.mv (.con (.int .i64 0))),none⟩] [] false) .ret) env' H' fun e env' H'=>(e=.ret∨e=.normal)∧∃x,resT env' H' [(4,none)]=some x∧Frz H' x (.int .i64 (cmpV (.mk A xs) (.mk B ys)))) fun e env' H'=>(e=.ret∨e=.normal)∧∃x,resT env' H' [(4,none)]=some x∧Frz H' x (.int .i64 (cmpV (.mk A xs) (.mk B ys))))) xs ys [] [] hd rfl (by simpa using hv'.1) (fun k hk l hl=>qsi k l (hv'.2 k hk)) ?_ ?_
    ·simpa using hloop
    ·intro l h0
     simp only[inB,thn,if_true]
     refine qbt ?_
     refine wR0 1100 [4] cJ0 ?_
     simp only[thn]
     refine qaL ?_
     exact⟨.inl rfl,_,rfl,by rw[e,h0];exact .same rfl⟩
    ·intro h0
     simp only[inB,thn]
     exact⟨by simp,_,rfl,by rw[e];exact .same rfl⟩
   ·have hb2:(((qag xs).length:Int) != ((qag ys).length:Int))=true:=by simp[qam];omega
    simp only[hb2,if_true]
    refine qbt ?_
    refine wRn 400 [4] cJ0 ?_
    refine rC cJ0 ?_
    refine⟨_,qf2 _ _,rE cJ0 ?_⟩
    simp only[thn]
    refine qaL ?_
    exact⟨.inl rfl,_,rfl,by simp only[cmpV,hc,hd,qam,ne_eq,not_true_eq_false,not_false_eq_true,if_true,if_false];exact .same rfl⟩
  ·have hb:(A != B)=true:=by simp[hc]
   simp only[hb,if_true]
   refine qbt ?_
   refine wRn 200 [4] cJ0 ?_
   refine rC cJ0 ?_
   refine⟨_,qf2 _ _,rE cJ0 ?_⟩
   simp only[thn]
   refine qaL ?_
   exact⟨.inl rfl,_,rfl,by simp only[cmpV,hc,ne_eq,not_false_eq_true,if_true];exact .same rfl⟩
termination_by v=>SizeOf.sizeOf v
decreasing_by exact qd6 hk A
mutual
def qbN:V→Int→Int
 | .mk _ ks,most=>qc0 ks 1 most
def qc0:List V→Int→Int→Int
 | [],n,_=>n
 | k::ks,n,most=>if n≤most then qc0 ks (n+qbN k (most - n)) most else n
end
mutual
theorem size_le:∀(v:V) (most:Int),0≤most→1≤qbN v most∧qbN v most≤most+1
 | .mk n ks,most,h=>by
  have:=qmE ks 1 most (by omega) (by omega)
  simp only[qbN];omega
theorem qmE:∀(ks:List V) (n most:Int),1≤n→n≤most+1→n≤qc0 ks n most∧qc0 ks n most≤most+1
 | [],n,most,h1,h2=>by simp only[qc0];omega
 | k::ks,n,most,h1,h2=>by
  simp only[qc0]
  split
  ·have:=size_le k (most - n) (by omega)
   have:=qmE ks (n+qbN k (most - n)) most (by omega) (by omega)
   omega
  ·omega
end
theorem qpM (most:Int)(hm0:0≤most)(hm1:most≤1000000)(N:Int)(ks:List V)(hl:ks.length≤1000000)(Q:IExit→(Nat→T)→Heap→Prop):∀(rest pre:List V) (n:Int),ks=pre++rest→1≤n→n≤most+1→
 (∀k∈rest,∀m:Int,0≤m→m≤1000000→TP Tryz.prog 114 [encV k,.int .i64 m] (.int .i64 (qbN k m)))→
 (∀i:Int,Q (.exit 0) (ofL [(1,.int .i64 most),(2,.ref 0 2 0),(5,.int .i64 (qc0 rest n most)),(6,.int .i64 i),(16,.bool false)]) (hpL [(0,.live ⟨31,[.int .i64 N,.list (qag ks)]⟩)]))→
 WL Tryz.prog 31 qip (ofL [(1,.int .i64 most),(2,.ref 0 2 0),(5,.int .i64 n),(6,.int .i64 pre.length)]) (hpL [(0,.live ⟨31,[.int .i64 N,.list (qag ks)]⟩)]) Q:=by
 intro rest
 induction rest with
 | nil=>
  intro pre n he h1 h2 hk hQ
  have hd:decide ((pre.length:Int)<((qag ks).length:Int))=false:=by simp[qam,he]
  refine qaa qip.eq_1 ?_
  refine wN ?_
  refine wR0 300 [1,2,5,6,16] @hd ?_
  refine wN ?_
  refine qai (eV cJ0) ?_
  simp only[Bool.false_eq_true,if_false]
  refine wN ?_
  refine qb4 ?_
  (try simp only[thn])
  exact hQ _
 | cons k rest ih=>
  intro pre n he h1 h2 hk hQ
  have hlen:(pre.length:Int)<((qag ks).length:Int):=by simp[qam,he];omega
  have hlb:pre.length≤1000000:=by rw[he] at hl;simp at hl;omega
  have hd:decide ((pre.length:Int)<((qag ks).length:Int))=true:=decide_eq_true hlen
  refine qaa qip.eq_1 ?_
  refine wN ?_
  refine wR0 300 [1,2,5,6,16] @hd ?_
  refine wN ?_
  by_cases hn:n≤most
  ·have hd2:decide (n≤most)=true:=decide_eq_true hn
   refine qai (eV cJ0) ?_
   simp only[hd2,if_true]
   refine wN ?_
   have hsz:=size_le k (most - n) (by omega)
   have hw1:IntKind.wrap .i64 (most - n)=most - n:=wrap64 (by omega) (by omega)
   have hw2:IntKind.wrap .i64 (n+qbN k (most - n))=n+qbN k (most - n):=wrap64 (by omega) (by omega)
   have hw3:IntKind.wrap .i64 ((pre.length:Int)+1)=(pre.length:Int)+1:=wrap64 (by omega) (by omega)
   have hg:(qag ks).getD (pre.length:Int).toNat .undef=encV k:=by rw[Int.toNat_natCast,he];exact qba _ _ _
   have fX:=(cJ5 @hg @qcN @qbK @hw1 @hw2)
   refine wRn 400 [1,2,5,6] fX ?_
   refine rC fX ?_
   refine⟨_,hk k (List.mem_cons_self ..) (most - n) (by omega) (by omega),rE fX ?_⟩
   refine wN ?_
   refine wR0 500 [1,2,5,6] @hw3 ?_
   refine wN ?_
   have:=ih (pre++[k]) (n+qbN k (most - n)) (by simp[he]) (by omega) (by omega) (fun k' hk'=>hk k' (List.mem_cons_of_mem _ hk')) (fun i=>by
    have:=hQ i
    simpa only [qc0,if_pos hn] using this)
   simpa using this
  ·have hd2:decide (n≤most)=false:=decide_eq_false hn
   refine qai (eV cJ0) ?_
   simp only[hd2,Bool.false_eq_true,if_false]
   refine wN ?_
   refine qb4 ?_
   (try simp only[thn])
   have:=hQ pre.length
   simpa only [qc0,if_neg hn] using this
theorem qhg:∀(v:V) (most:Int),v.fit→0≤most→most≤1000000→TP Tryz.prog 114 [encV v,.int .i64 most] (.int .i64 (qbN v most))
 | .mk N ks,most,hv,h0,h1=>by
  have hv':=V.fit_kids hv
  simp only[V.kids] at hv'
  refine qah fn114 (by simp) ?_
  unfold i114
  simp only[argL,encV]
  refine wN ?_
  refine wR0 0 [1,2] cJ0 ?_
  refine wN ?_
  refine wR0 100 [1,2,5] cJ0 ?_
  refine wN ?_
  refine wR0 200 [1,2,5,6] cJ0 ?_
  refine wN ?_
  refine qc1 ?_
  refine qpM most h0 h1 N ks hv'.1 _ ks [] 1 rfl (by omega) (by omega) (fun k hk m hm0 hm1=>qhg k m (hv'.2 k hk) hm0 hm1) ?_
  intro i
  simp only[inB,if_true,thn]
  refine wR0 600 [4] cJ0 ?_
  refine wN ?_
  refine qaL ?_
  (try simp only)
  exact⟨by simp,_,rfl,by simp only[qbN];exact .same rfl⟩
termination_by v=>SizeOf.sizeOf v
decreasing_by exact qd6 hk N
def qig:List V→List T
 | []=>[]
 | k::ks=>.int .i64 k.n::.list (qag k.kids)::qig ks
theorem qfn:∀ks:List V,qig ks=flat (qag ks)
 | []=>rfl
 | k::ks=>by rw[qag,qbn,qm2,qig,qfn ks];rfl
theorem qlK (D:Nat→Bool):∀ks:List V,clL D (qig ks)=true
 | []=>rfl
 | k::ks=>by simp[qig,clL,T.cl,qak,qlK D ks]
theorem qhE:∀ks:List V,Ones (qig ks)
 | []=>fun c hc=>by cases hc
 | k::ks=>fun c hc=>by
  simp only[qig,List.mem_cons] at hc
  rcases hc with rfl | rfl | hc
  ·rfl
  ·rfl
  ·exact qhE ks c hc
theorem qjm (ks:List V):qcr (esz 2) (qag ks):=fun x hx=>by
 rw[qc5] at hx
 obtain⟨v,_,rfl⟩:=List.mem_map.1 hx
 exact qbK v
end
section
open Go.RowKit
set_option maxHeartbeats 2000000
def qac (l:List Int):List T:=l.map (.int .i64)
theorem qad (l:List Int):(qac l).length=l.length:=by simp[qac]
theorem qci (pre:List Int)(k:Int)(ks:List Int):(qac (pre++k::ks)).getD pre.length .undef=.int .i64 k:=by
 simp[qac,List.getD_eq_getElem?_getD]
theorem qae (D:Nat→Bool)(l:List Int):clL D (qac l)=true:=by
 induction l with
 | nil=>rfl
 | cons x l ih=>simpa [qac,clL,T.cl] using ih
inductive Ty where
 | mk (k s:Int) (rs:List Int) (ps:List Ty)
instance:Inhabited Ty:=⟨.mk 0 0 [] []⟩
def Ty.k:Ty→Int | .mk k _ _ _=>k
def Ty.s:Ty→Int | .mk _ s _ _=>s
def Ty.rs:Ty→List Int | .mk _ _ rs _=>rs
def Ty.ps:Ty→List Ty | .mk _ _ _ ps=>ps
mutual
def qax:Ty→T
 | .mk k s rs ps=>.agg [.int .i64 k,.int .i64 s,.list (qac rs),.list (qaj ps)]
def qaj:List Ty→List T
 | []=>[]
 | p::ps=>qax p::qaj ps
end
theorem qc4:∀ps,qaj ps=ps.map qax
 | []=>rfl
 | k::ps=>by simp[qaj,qc4 ps]
theorem qao (ps:List Ty):(qaj ps).length=ps.length:=by rw[qc4,List.length_map]
theorem qdZ (pre:List Ty)(k:Ty)(ps:List Ty):(qaj (pre++k::ps)).getD pre.length .undef=qax k:=by
 rw[qc4];simp[List.getD_eq_getElem?_getD]
theorem qbB (v:Ty):(qax v).cells.length=4:=by cases v;rfl
theorem qcg (v:Ty):T.agg (qax v).cells=qax v:=by cases v;rfl
mutual
theorem qlG (D:Nat→Bool):∀v:Ty,(qax v).cl D=true
 | .mk k s rs ps=>by simp[qax,T.cl,clL,qae,qeO D ps]
theorem qeO (D:Nat→Bool):∀ps:List Ty,clL D (qaj ps)=true
 | []=>rfl
 | p::ps=>by simp[qaj,clL,qlG D p,qeO D ps]
end
attribute [simp] qca qak qae qlG qeO
theorem qi3 {p:Ty}{ps:List Ty}(h:p∈ps)(k s:Int)(rs:List Int):SizeOf.sizeOf p<SizeOf.sizeOf (Ty.mk k s rs ps):=by
 have:=List.sizeOf_lt_of_mem h
 simp only[Ty.mk.sizeOf_spec];omega
mutual
def qdK (n:Int):V→Bool
 | .mk a ks=>qeY n ks&&(decide (a≥0)&&decide (a<n))
def qeY (n:Int):List V→Bool
 | []=>true
 | k::ks=>qdK n k&&qeY n ks
end
theorem qnj (N n:Int)(ks:List V)(hl:ks.length≤1000000)(Q:IExit→(Nat→T)→Heap→Prop):∀(rest pre:List V) (i:Nat),ks=pre++rest→pre.length=i→
 (∀k∈rest,TP Tryz.prog 165 [.int .i64 n,encV k] (.bool (qdK n k)))→
 (qeY n rest=true→∀i:Int,Q (.exit 0) (ofL [(0,.int .i64 n),(3,.ref 0 2 0),(5,.int .i64 i),(10,.bool false)]) (hpL [(0,.live ⟨31,[.int .i64 N,.list (qag ks)]⟩)]))→
 (qeY n rest=false→Q .ret (ofL [(4,.bool false)]) (hpL [(0,.live ⟨31,[.int .i64 N,.list (qag ks)]⟩)]))→
 WL Tryz.prog 30 qiB (ofL [(0,.int .i64 n),(3,.ref 0 2 0),(5,.int .i64 i)]) (hpL [(0,.live ⟨31,[.int .i64 N,.list (qag ks)]⟩)]) Q:=by
 intro rest
 induction rest with
 | nil=>
  intro pre i he hn hk hQ0 hQ1
  have hd:decide ((i:Int)<((qag ks).length:Int))=false:=by simp[qam,he,hn]
  refine qaa qiB.eq_1 ?_
  refine wN ?_
  refine wR0 200 [0,3,5,10] @hd ?_
  refine wN ?_
  refine qai (eV cJ0) ?_
  simp only[Bool.false_eq_true,if_false]
  refine wN ?_
  refine qb4 ?_
  (try simp only[thn])
  exact hQ0 rfl _
 | cons k rest ih=>
  intro pre i he hn hk hQ0 hQ1
  have hlt:(i:Int)<((qag ks).length:Int):=by simp[qam,he];omega
  have hlb:i≤1000000:=by rw[he] at hl;simp at hl;omega
  have hd:decide ((i:Int)<((qag ks).length:Int))=true:=decide_eq_true hlt
  have hg:(qag ks).getD (i:Int).toNat .undef=encV k:=by rw[Int.toNat_natCast,he,←hn];exact qba _ _ _
  have hw:IntKind.wrap .i64 ((i:Int)+1)=(i:Int)+1:=wrap64 (by omega) (by omega)
  refine qaa qiB.eq_1 ?_
  refine wN ?_
  refine wR0 200 [0,3,5,10] @hd ?_
  refine wN ?_
  refine qai (eV cJ0) ?_
  simp only[if_true]
  refine wN ?_
  have fX:=(cJ3 @hg @qcN @qbK)
  refine wRn 300 [0,3,5,20] fX ?_
  refine rC fX ?_
  refine⟨_,hk k (List.mem_cons_self ..),rE fX ?_⟩
  refine wN ?_
  by_cases hc:qdK n k=true
  ·have hb:(!qdK n k)=false:=by simp[hc]
   refine qai (eV cJ0) ?_
   simp only[hb,Bool.false_eq_true,if_false]
   refine wN ?_
   refine wR0 500 [0,3,5] @hw ?_
   refine wN ?_
   have:=ih (pre++[k]) (i+1) (by simp[he]) (by simp;omega) (fun k' hk'=>hk k' (List.mem_cons_of_mem _ hk')) (by simpa [qeY,hc] using hQ0) (by simpa [qeY,hc] using hQ1)
   simpa using this
  ·have hb:(!qdK n k)=true:=by simp[hc]
   refine qai (eV cJ0) ?_
   simp only[hb,if_true]
   refine wN ?_
   refine wR0 400 [4] cJ0 ?_
   refine wN ?_
   refine qaL ?_
   (try simp only[thn,inB])
   exact hQ1 (by simp[qeY,hc])
theorem qmh:∀(v:V) (n:Int),v.fit→TP Tryz.prog 165 [.int .i64 n,encV v] (.bool (qdK n v))
 | .mk N ks,n,hv=>by
  have hv':=V.fit_kids hv
  simp only[V.kids] at hv'
  refine qah fn165 (by simp) ?_
  unfold i165
  simp only[argL,encV]
  refine wN ?_
  refine wR0 0 [0,3] cJ0 ?_
  refine wN ?_
  refine wR0 100 [0,3,5] cJ0 ?_
  refine wN ?_
  refine qc1 ?_
  refine qnj N n ks hv'.1 _ ks [] 0 rfl rfl (fun k hk=>qmh k n (hv'.2 k hk)) ?_ ?_
  ·intro h i
   simp only[inB,if_true,thn]
   refine wR0 600 [4] cJ0 ?_
   refine wN ?_
   refine qaL ?_
   (try simp only)
   exact⟨by simp,_,rfl,by simp only[qdK,h,Bool.true_and];exact .same rfl⟩
  ·intro h
   simp only[inB,thn]
   exact⟨by simp,_,rfl,by simp only[qdK,h,Bool.false_and];exact .same rfl⟩
termination_by v=>SizeOf.sizeOf v
decreasing_by exact qd6 hk N
def qdL (x:Int):Bool:=decide (x<0) || decide (x≥6)
def qds (l:List Int):Bool:=!l.any qdL&&(decide ((l.length:Int)≥1)&&decide ((l.length:Int)≤6))
theorem qns (xs:List Int)(hl:xs.length≤1000000)(Q:IExit→(Nat→T)→Heap→Prop):∀(rest pre:List Int) (i:Nat),xs=pre++rest→pre.length=i→
 (rest.any qdL=false→∀i:Int,Q (.exit 0) (ofL [(0,.list (qac xs)),(3,.int .i64 i),(7,.bool false)]) (hpL []))→
 (rest.any qdL=true→Q .ret (ofL [(2,.bool false)]) (hpL []))→
 WL Tryz.prog 30 qiF (ofL [(0,.list (qac xs)),(3,.int .i64 i)]) (hpL []) Q:=by
 intro rest
 induction rest with
 | nil=>
  intro pre i he hn hQ0 hQ1
  have hd:decide ((i:Int)<((qac xs).length:Int))=false:=by simp[qad,he,hn]
  refine qaa qiF.eq_1 ?_
  refine wN ?_
  refine wR0 200 [0,3,7] @hd ?_
  refine wN ?_
  refine qai (eV cJ0) ?_
  simp only[Bool.false_eq_true,if_false]
  refine wN ?_
  refine qb4 ?_
  (try simp only[thn])
  exact hQ0 rfl _
 | cons k rest ih=>
  intro pre i he hn hQ0 hQ1
  have hlt:(i:Int)<((qac xs).length:Int):=by simp[qad,he];omega
  have hlb:i≤1000000:=by rw[he] at hl;simp at hl;omega
  have hd:decide ((i:Int)<((qac xs).length:Int))=true:=decide_eq_true hlt
  have hg:(qac xs).getD (i:Int).toNat .undef=.int .i64 k:=by rw[Int.toNat_natCast,he,←hn];exact qci _ _ _
  have hw:IntKind.wrap .i64 ((i:Int)+1)=(i:Int)+1:=wrap64 (by omega) (by omega)
  refine qaa qiF.eq_1 ?_
  refine wN ?_
  refine wR0 200 [0,3,7] @hd ?_
  refine wN ?_
  refine qai (eV cJ0) ?_
  simp only[if_true]
  refine wN ?_
  refine wR0 300 [0,3,21] @hg ?_
  refine wN ?_
  by_cases hc:qdL k=true
  ·have hb:(decide (k<0) || decide (k≥6))=true:=hc
   refine qai (eV cJ0) ?_
   simp only[hb,if_true]
   refine wN ?_
   refine wR0 400 [2] cJ0 ?_
   refine wN ?_
   refine qaL ?_
   (try simp only[thn,inB])
   exact hQ1 (by simp[hc])
  ·have hb:(decide (k<0) || decide (k≥6))=false:=by simpa [qdL] using hc
   refine qai (eV cJ0) ?_
   simp only[hb,Bool.false_eq_true,if_false]
   refine wN ?_
   refine wR0 500 [0,3] @hw ?_
   refine wN ?_
   have:=ih (pre++[k]) (i+1) (by simp[he]) (by simp;omega) (by simpa [hc] using hQ0) (by simpa [hc] using hQ1)
   simpa using this
theorem qrw (xs:List Int)(hl:xs.length≤1000000):TP Tryz.prog 193 [.list (qac xs)] (.bool (qds xs)):=by
 refine qah fn193 (by simp) ?_
 unfold i193
 simp only[argL]
 refine wN ?_
 refine wR0 0 [0] cJ0 ?_
 refine wN ?_
 refine wR0 100 [0,3] cJ0 ?_
 refine wN ?_
 refine qc1 ?_
 refine qns xs hl _ xs [] 0 rfl rfl ?_ ?_
 ·intro h i
  simp only[inB,if_true,thn]
  refine wR0 600 [2] cJ0 ?_
  refine wN ?_
  refine qaL ?_
  (try simp only)
  exact⟨by simp,_,rfl,by simp only[qds,h,Bool.not_false,Bool.true_and,qad];exact .same rfl⟩
 ·intro h
  simp only[inB,thn]
  exact⟨by simp,_,rfl,by simp only[qds,h,Bool.not_true,Bool.false_and];exact .same rfl⟩
end
end Go.Proofs.YtoeeppojakbciaaGreat
