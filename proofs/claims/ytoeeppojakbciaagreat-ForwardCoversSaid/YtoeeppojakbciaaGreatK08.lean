/- Contracts of functions of the program, for all arguments that they name. -/
import Derived.Test.YtoeeppojakbciaaGreatK07
namespace Go.Proofs.YtoeeppojakbciaaGreat
set_option linter.unusedVariables false
section
open Go.RowKit
set_option maxHeartbeats 2000000
theorem qsr (a:Int):TP Tryz.prog 103 [.int .i64 a] (.bool false):=by
 have h:(a != a)=false:=by simp
 refine qah fn103 (by simp) ?_
 unfold i103
 simp only[argL]
 refine wN ?_
 refine wR0 0 [0] cJ0 ?_
 refine wN ?_
 refine wR0 100 [2] @h ?_
 refine wN ?_
 refine qaL ?_
 (try simp only)
 exact⟨by simp,_,rfl,by exact .same rfl⟩
theorem qgi (a b:Int):TP Tryz.prog 57 [.int .i64 a,.int .i64 b] (.int .i64 (ordI a b)):=by
 refine qah fn57 (by simp) ?_
 unfold i57
 simp only[argL]
 refine wN ?_
 refine wR0 0 [0,1] cJ0 ?_
 refine wN ?_
 refine wRn 100 [0,1,5] cJ0 ?_
 refine rC cJ0 ?_
 refine⟨_,qsr a,rE cJ0 ?_⟩
 refine wN ?_
 refine wRn 200 [0,1,5,6] cJ0 ?_
 refine rC cJ0 ?_
 refine⟨_,qsr b,rE cJ0 ?_⟩
 refine wN ?_
 refine wR0 300 [0,1,6,11] cJ0 ?_
 refine wN ?_
 refine qai (eV cJ0) ?_
 simp only[Bool.false_eq_true,if_false]
 refine wN ?_
 refine wR0 700 [0,1,13] cJ0 ?_
 refine wN ?_
 refine qai (eV cJ0) ?_
 simp only[Bool.false_eq_true,if_false]
 refine wN ?_
 refine wR0 900 [0,1,16] cJ0 ?_
 refine wN ?_
 rcases h1:decide (a<b) with _ | _
 ·refine qai (eV cJ0) ?_
  simp only[Bool.false_eq_true,if_false]
  refine wN ?_
  refine wR0 1100 [19] cJ0 ?_
  refine wN ?_
  rcases h2:decide (a > b) with _ | _
  ·refine qai (eV cJ0) ?_
   simp only[Bool.false_eq_true,if_false]
   refine wN ?_
   refine wR0 1300 [4] cJ0 ?_
   refine wN ?_
   refine qaL ?_
   (try simp only)
   exact⟨by simp,_,rfl,by exact qaE (by simp at h1 h2;unfold ordI;rw[if_neg (by omega),if_neg (by omega)])⟩
  ·refine qai (eV cJ0) ?_
   simp only[if_true]
   refine wN ?_
   refine wR0 1200 [4] cJ0 ?_
   refine wN ?_
   refine qaL ?_
   (try simp only[thn])
   exact⟨by simp,_,rfl,by exact qaE (by simp at h1 h2;unfold ordI;rw[if_neg (by omega),if_pos (by omega)])⟩
 ·refine qai (eV cJ0) ?_
  simp only[if_true]
  refine wN ?_
  refine wR0 1000 [4] cJ0 ?_
  refine wN ?_
  refine qaL ?_
  (try simp only[thn])
  exact⟨by simp,_,rfl,by exact qaE (by simp at h1;unfold ordI;rw[if_pos h1])⟩
theorem qhy (l:List Int):Ones (qac l):=fun c hc=>by
 obtain⟨x,_,rfl⟩:=List.mem_map.1 hc
 rfl
theorem qfE (l:List Int):qcr (esz 0) (qac l):=fun c hc=>by
 obtain⟨x,_,rfl⟩:=List.mem_map.1 hc
 rfl
theorem qbT:∀l:List Int,flat (qac l)=qac l
 | []=>rfl
 | x::l=>by
  show flat (.int .i64 x::qac l)=.int .i64 x::qac l
  rw[qbn,qbT l];rfl
theorem qbx {H:Heap}{id ty n tot:Nat}(l:List Int)(hb:H id=.live ⟨ty,qac l⟩)(hn:n=l.length)(ht:tot=l.length):Frz H (.sl id tot 0 0 n) (.list (qac l)):=by
 subst hn ht
 refine Frz.sl hb (qad l) (by simp[esz]) (qad l) (qfE l) (by rw[qbT];exact qhy l) fun k hk=>?_
 rw[qbT,Nat.zero_add]
 exact .same (qa5 (qae _ l) k)
theorem qd7 {H:Heap}{id:Nat}{s:Slot}(h:H id=s)(hs:s≠.free)(hcl:s.cl (fun i=>decide (i∈[id]))=true):qcx H [(id,s)]:=by
 intro p hp1
 rw[List.mem_singleton] at hp1
 subst hp1
 have e:hp [(id,s)] id=s:=by simp[hp,Heap.upd,Heap.set]
 exact⟨hs,by rw[e];exact h,by rw[e];exact hcl⟩
def orL:List Int→Int
 | []=>0
 | x::l=>if x≠0 then x else orL l
theorem qqz (xs:List Int)(hl:xs.length≤1000000)(Q:IExit→(Nat→T)→Heap→Prop):∀(rest pre:List Int) (i:Nat),xs=pre++rest→pre.length=i→
 (orL rest=0→∀i:Int,Q (.exit 0) (ofL [(3,.int .i64 0),(6,.list (qac xs)),(7,.int .i64 (qac xs).length),(8,.int .i64 i),(9,.bool false)]) (hpL []))→
 (orL rest≠0→Q .ret (ofL [(2,.int .i64 (orL rest))]) (hpL []))→
 WL Tryz.prog 18 ql1 (ofL [(3,.int .i64 0),(6,.list (qac xs)),(7,.int .i64 (qac xs).length),(8,.int .i64 i)]) (hpL []) Q:=by
 intro rest
 induction rest with
 | nil=>
  intro pre i he hn hQ0 hQ1
  have hd:decide ((i:Int)<((qac xs).length:Int))=false:=by simp[qad,he,hn]
  refine qaa ql1.eq_1 ?_
  refine wN ?_
  refine wR0 300 [3,6,7,8,9] @hd ?_
  refine wN ?_
  refine qai (eV cJ0) ?_
  simp only[Bool.false_eq_true,if_false]
  refine wN ?_
  refine qb4 ?_
  (try simp only[thn])
  exact hQ0 rfl _
 | cons k rest ih=>
  intro pre i he hn hQ0 hQ1
  have hlt:(i:Int)<((qac xs).length:Int):=by simp[qad,he];omega
  have hlb:i≤1000000:=by rw[he] at hl;simp at hl;omega
  have hd:decide ((i:Int)<((qac xs).length:Int))=true:=decide_eq_true hlt
  have hg:(qac xs).getD (i:Int).toNat .undef=.int .i64 k:=by rw[Int.toNat_natCast,he,←hn];exact qci _ _ _
  have hw:IntKind.wrap .i64 ((i:Int)+1)=(i:Int)+1:=wrap64 (by omega) (by omega)
  refine qaa ql1.eq_1 ?_
  refine wN ?_
  refine wR0 300 [3,6,7,8,9] @hd ?_
  refine wN ?_
  refine qai (eV cJ0) ?_
  simp only[if_true]
  refine wN ?_
  refine wR0 400 [3,5,6,7,8] @hg ?_
  refine wN ?_
  refine wR0 500 [3,5,6,7,8,14] cJ0 ?_
  refine wN ?_
  by_cases hc:k=0
  ·have hb:(k != 0)=false:=by simp[hc]
   refine qai (eV cJ0) ?_
   simp only[hb,Bool.false_eq_true,if_false]
   refine wN ?_
   refine wR0 700 [3,6,7,8] @hw ?_
   refine wN ?_
   have:=ih (pre++[k]) (i+1) (by simp[he]) (by simp;omega) (by simpa [orL,hc] using hQ0) (by simpa [orL,hc] using hQ1)
   simpa using this
  ·have hb:(k != 0)=true:=by simp[hc]
   refine qai (eV cJ0) ?_
   simp only[hb,if_true]
   refine wN ?_
   refine wR0 600 [2] cJ0 ?_
   refine wN ?_
   refine qaL ?_
   (try simp only[thn,inB])
   have:=hQ1 (by simp[orL,hc])
   simpa [orL,hc] using this
theorem qoj (xs:List Int)(hl:xs.length≤1000000):TP Tryz.prog 56 [.list (qac xs)] (.int .i64 (orL xs)):=by
 refine qah fn56 (by simp) ?_
 unfold i56
 simp only[argL]
 refine wN ?_
 refine wR0 0 [0] cJ0 ?_
 refine wN ?_
 refine wR0 100 [0,3] cJ0 ?_
 refine wN ?_
 refine wR0 200 [3,6,7,8] cJ0 ?_
 refine wN ?_
 refine qc1 ?_
 refine qqz xs hl _ xs [] 0 rfl rfl ?_ ?_
 ·intro h i
  simp only[inB,if_true,thn]
  refine wR0 800 [2] cJ0 ?_
  refine wN ?_
  refine qaL ?_
  (try simp only)
  exact⟨by simp,_,rfl,by exact qaE h.symm⟩
 ·intro h
  simp only[inB,thn]
  exact⟨by simp,_,rfl,.same rfl⟩
theorem qmV (most:Int)(hm0:0≤most)(hm1:most≤1000000)(N:Int)(ks:List V)(hl:ks.length≤1000000)(Q:IExit→(Nat→T)→Heap→Prop):∀(rest pre:List V) (i:Nat) (n:Int),ks=pre++rest→pre.length=i→1≤n→n≤most+1→
 (∀k∈rest,∀m:Int,0≤m→m≤1000000→TP Tryz.prog 199 [encV k,.int .i64 m] (.int .i64 (qbN k m)))→
 (∀l H,ofL l 5=.int .i64 (qc0 rest n most)→Q (.exit 0) (ofL l) H)→
 WL Tryz.prog 27 qiH (ofL [(1,.int .i64 most),(5,.int .i64 n),(9,.list (qag ks)),(10,.int .i64 (qag ks).length),(11,.int .i64 i)]) (hpL [(0,.live ⟨31,[.int .i64 N,.list (qag ks)]⟩)]) Q:=by
 intro rest
 induction rest with
 | nil=>
  intro pre i n he hn h1 h2 hk hQ
  have hd:decide ((i:Int)<((qag ks).length:Int))=false:=by simp[qam,he,hn]
  refine qaa qiH.eq_1 ?_
  refine W_gc ?_
  refine wN ?_
  refine wR0 300 [1,5,9,10,11,12] @hd ?_
  refine wN ?_
  refine qai (eV cJ0) ?_
  simp only[Bool.false_eq_true,if_false]
  refine wN ?_
  refine qb4 ?_
  (try simp only[thn])
  exact hQ _ _ rfl
 | cons k rest ih=>
  intro pre i n he hn h1 h2 hk hQ
  rcases k with⟨a,bs⟩
  have hlt:(i:Int)<((qag ks).length:Int):=by simp[qam,he];omega
  have hlb:i≤1000000:=by rw[he] at hl;simp at hl;omega
  have hd:decide ((i:Int)<((qag ks).length:Int))=true:=decide_eq_true hlt
  have hg:(qag ks).getD (i:Int).toNat .undef=.agg [.int .i64 a,.list (qag bs)]:=by rw[Int.toNat_natCast,he,←hn];exact qba _ (.mk a bs) _
  have hw:IntKind.wrap .i64 ((i:Int)+1)=(i:Int)+1:=wrap64 (by omega) (by omega)
  refine qaa qiH.eq_1 ?_
  refine W_gc ?_
  refine wN ?_
  refine wR0 300 [1,5,9,10,11,12] @hd ?_
  refine wN ?_
  refine qai (eV cJ0) ?_
  simp only[if_true]
  refine wN ?_
  refine wR0 400 [1,5,7,9,10,11] @hg ?_
  refine wN ?_
  refine wR0 500 [1,5,7,9,10,11,17] cJ0 ?_
  refine wN ?_
  by_cases hc:n≤most
  ·have hb:decide (n > most)=false:=by simp;omega
   have hsz:=size_le (.mk a bs) (most - n) (by omega)
   have hw1:IntKind.wrap .i64 (most - n)=most - n:=wrap64 (by omega) (by omega)
   have hw2:IntKind.wrap .i64 (n+qbN (.mk a bs) (most - n))=n+qbN (.mk a bs) (most - n):=wrap64 (by omega) (by omega)
   refine qai (eV cJ0) ?_
   simp only[hb,Bool.false_eq_true,if_false]
   refine wN ?_
   have fX:=(cJ2 @hw1 @hw2)
   refine wRn 600 [1,5,9,10,11] fX ?_
   refine rC fX ?_
   refine⟨_,hk (.mk a bs) (List.mem_cons_self ..) (most - n) (by omega) (by omega),rE fX ?_⟩
   refine wN ?_
   refine wR0 700 [1,5,9,10,11] @hw ?_
   refine wN ?_
   refine qaP [0] (by simp[inL]) (by simp[T.cl]) (by simp[qan,inL,Slot.cl,T.cl,clL]) ?_
   have:=ih (pre++[.mk a bs]) (i+1) (n+qbN (.mk a bs) (most - n)) (by simp[he]) (by simp;omega) (by omega) (by omega) (fun k' hk'=>hk k' (List.mem_cons_of_mem _ hk')) (by simpa [qc0,hc] using hQ)
   simpa [qan,inL] using this
  ·have hb:decide (n > most)=true:=by simp;omega
   refine qai (eV cJ0) ?_
   simp only[hb,if_true]
   refine wN ?_
   refine qb4 ?_
   (try simp only[thn,inB])
   exact hQ _ _ (by simp[ofL,qc0,hc])
theorem qh8:∀(v:V) (most:Int),v.fit→0≤most→most≤1000000→TP Tryz.prog 199 [encV v,.int .i64 most] (.int .i64 (qbN v most))
 | .mk N ks,most,hv,h0,h1=>by
  have hv':=V.fit_kids hv
  simp only[V.kids] at hv'
  refine qah fn199 (by simp) ?_
  unfold i199
  simp only[argL,encV]
  refine wN ?_
  refine wR0 0 [1,2] cJ0 ?_
  refine wN ?_
  refine wR0 100 [1,2,5] cJ0 ?_
  refine wN ?_
  refine wR0 200 [1,5,9,10,11] cJ0 ?_
  refine wN ?_
  refine qc1 ?_
  refine qmV most h0 h1 N ks hv'.1 _ ks [] 0 1 rfl rfl (by omega) (by omega) (fun k hk m hm0 hm1=>qh8 k m (hv'.2 k hk) hm0 hm1) ?_
  intro l H h5
  simp only[inB,if_true,thn]
  refine wR0 800 [4] @h5 ?_
  refine wN ?_
  refine qaL ?_
  (try simp only)
  exact⟨by simp,_,rfl,by exact qaE (by simp only[qbN])⟩
termination_by v=>SizeOf.sizeOf v
decreasing_by exact qd6 hk N
def qmk (v:V):Int:=if qbN v 128 > 128 then 129 else qbN v 128
theorem qrh (v:V)(hv:v.fit):TP Tryz.prog 186 [encV v] (.int .i64 (qmk v)):=by
 rcases v with⟨N,ks⟩
 have hb:=size_le (.mk N ks) 128 (by omega)
 refine qah fn186 (by simp) ?_
 unfold i186
 simp only[argL,encV]
 refine wN ?_
 refine wR0 0 [1] cJ0 ?_
 refine wN ?_
 refine wRn 100 [2] cJ0 ?_
 refine rC cJ0 ?_
 refine⟨_,qh8 (.mk N ks) 128 hv (by omega) (by omega),rE cJ0 ?_⟩
 refine wN ?_
 refine qaL ?_
 (try simp only)
 exact⟨by simp,_,rfl,by exact qaE (by unfold qmk;split<;>split<;>omega)⟩
def cmpF:List V→List V→Int
 | [],[]=>0
 | [],_::_ => -1
 | _::_,[]=>1
 | k::ks,l::ls=>if cmpV k l≠0 then cmpV k l else cmpF ks ls
theorem qn9:∀(ks ls:List V),ks.length=ls.length→cmpF ks ls=cmpL ks ls
 | [],[],_=>rfl
 | k::ks,l::ls,h=>by simp only[cmpF,cmpL];rw[qn9 ks ls (by simpa using h)]
theorem qoa (f:FuncId)(xs ys:List V)(hl:xs.length≤1000000)(Q:IExit→(Nat→T)→Heap→Prop):∀(r s pre qre:List V) (i:Nat),xs=pre++r→ys=qre++s→pre.length=i→qre.length=i→
 (∀k∈r,∀l∈s,TP Tryz.prog f [encV k,encV l] (.int .i64 (cmpV k l)))→
 (∀i:Int,(r.length≤s.length∧cmpF r s=if r.length<s.length then -1 else 0)→Q (.exit 0) (ofL [(0,.list (qag xs)),(1,.list (qag ys)),(2,.fn f []),(11,.list (qag xs)),(12,.int .i64 (qag xs).length),(13,.int .i64 i),(14,.bool false)]) (hpL []))→
 (∀H,Q .ret (ofL [(6,.int .i64 (cmpF r s))]) H)→
 WL Tryz.prog 39 qiI (ofL [(0,.list (qag xs)),(1,.list (qag ys)),(2,.fn f []),(11,.list (qag xs)),(12,.int .i64 (qag xs).length),(13,.int .i64 i)]) (hpL []) Q:=by
 intro r
 induction r with
 | nil=>
  intro s pre qre i he he' hp hq hk hQ0 hQ1
  have hd:decide ((i:Int)<((qag xs).length:Int))=false:=by simp[qam,he,hp]
  refine qaa qiI.eq_1 ?_
  refine W_gc ?_
  refine wN ?_
  refine wR0 200 [0,1,2,11,12,13,14] @hd ?_
  refine wN ?_
  refine qai (eV cJ0) ?_
  simp only[Bool.false_eq_true,if_false]
  refine wN ?_
  refine qb4 ?_
  (try simp only[thn])
  exact hQ0 _ ⟨by simp,by cases s<;>simp[cmpF]⟩
 | cons k r ih=>
  intro s pre qre i he he' hp hq hk hQ0 hQ1
  rcases k with⟨a,as'⟩
  have hlt:(i:Int)<((qag xs).length:Int):=by simp[qam,he];omega
  have hlb:i≤1000000:=by rw[he] at hl;simp at hl;omega
  have hd:decide ((i:Int)<((qag xs).length:Int))=true:=decide_eq_true hlt
  have hg1:(qag xs).getD (i:Int).toNat .undef=.agg [.int .i64 a,.list (qag as')]:=by rw[Int.toNat_natCast,he,←hp];exact qba _ (.mk a as') _
  have hw:IntKind.wrap .i64 ((i:Int)+1)=(i:Int)+1:=wrap64 (by omega) (by omega)
  refine qaa qiI.eq_1 ?_
  refine W_gc ?_
  refine wN ?_
  refine wR0 200 [0,1,2,11,12,13,14] @hd ?_
  refine wN ?_
  refine qai (eV cJ0) ?_
  simp only[if_true]
  refine wN ?_
  refine wR0 300 [0,1,2,7,8,11,12,13] @hg1 ?_
  refine wN ?_
  refine wR0 400 [0,1,2,7,8,11,12,13,21] cJ0 ?_
  refine wN ?_
  cases s with
  | nil=>
   have hge:decide ((i:Int)≥((qag ys).length:Int))=true:=by simp[qam,he',hq]
   refine qai (eV cJ0) ?_
   simp only[hge,if_true]
   refine wN ?_
   refine wR0 500 [6] cJ0 ?_
   refine wN ?_
   refine qaL ?_
   (try simp only[thn,inB])
   exact hQ1 _
  | cons l s=>
   rcases l with⟨b,cs⟩
   have hlt2:(i:Int)<((qag ys).length:Int):=by simp[qam,he'];omega
   have hge:decide ((i:Int)≥((qag ys).length:Int))=false:=decide_eq_false (by omega)
   have hg2:(qag ys).getD (i:Int).toNat .undef=.agg [.int .i64 b,.list (qag cs)]:=by rw[Int.toNat_natCast,he',←hq];exact qba _ (.mk b cs) _
   refine qai (eV cJ0) ?_
   simp only[hge,Bool.false_eq_true,if_false]
   refine wN ?_
   refine wR0 600 [0,1,2,8,9,11,12,13] @hg2 ?_
   refine wN ?_
   apply W_r 700 [0,1,2,10,11,12,13] (by rfl)
   ·refine rN cJ0 ?_
    apply qd9
    ·rfl
    ·exact eV cJ0
    ·exact eV cJ0
    ·exact hk (.mk a as') (List.mem_cons_self ..) (.mk b cs) (List.mem_cons_self ..)
    ·exact fRo
    refine rN cJ0 ?_
    exact rFi
   ·exact eV cJ0
   simp only[thn]
   refine wR0 800 [0,1,2,10,11,12,13,31] cJ0 ?_
   refine wN ?_
   by_cases hc:cmpV (.mk a as') (.mk b cs)=0
   ·have hb:(cmpV (.mk a as') (.mk b cs) != 0)=false:=by simp[hc]
    refine qai (eV cJ0) ?_
    simp only[hb,Bool.false_eq_true,if_false]
    refine wN ?_
    refine wR0 1000 [0,1,2,11,12,13] @hw ?_
    refine wN ?_
    refine qaP [] (by simp) (by simp[T.cl,clL]) (by simp[qan,inL]) ?_
    have e:cmpF (.mk a as'::r) (.mk b cs::s)=cmpF r s:=by simp[cmpF,hc]
    rw[e] at hQ0 hQ1
    have:=ih s (pre++[.mk a as']) (qre++[.mk b cs]) (i+1) (by simp[he]) (by simp[he']) (by simp;omega) (by simp;omega) (fun k' hk' l' hl'=>hk k' (List.mem_cons_of_mem _ hk') l' (List.mem_cons_of_mem _ hl')) (fun i h=>hQ0 i (by simpa using h)) hQ1
    simpa [qan,inL] using this
   ·have hb:(cmpV (.mk a as') (.mk b cs) != 0)=true:=by simp[hc]
    have e:cmpF (.mk a as'::r) (.mk b cs::s)=cmpV (.mk a as') (.mk b cs):=by simp[cmpF,hc]
    refine qai (eV cJ0) ?_
    simp only[hb,if_true]
    refine wN ?_
    refine wR0 900 [6] cJ0 ?_
    refine wN ?_
    refine qaL ?_
    (try simp only[thn,inB])
    rw[←e]
    exact hQ1 _
theorem qsN (f:FuncId)(xs ys:List V)(hl:xs.length≤1000000)(hk:∀k∈xs,∀l∈ys,TP Tryz.prog f [encV k,encV l] (.int .i64 (cmpV k l))):TP Tryz.prog 211 [.list (qag xs),.list (qag ys),.fn f []] (.int .i64 (cmpF xs ys)):=by
 refine qah fn211 (by simp) ?_
 unfold i211
 simp only[argL]
 refine wN ?_
 refine wR0 0 [0,1,2] cJ0 ?_
 refine wN ?_
 refine wR0 100 [0,1,2,11,12,13] cJ0 ?_
 refine wN ?_
 refine qc1 ?_
 refine qoa f xs ys hl _ xs ys [] [] 0 rfl rfl rfl rfl hk ?_ ?_
 ·intro i h
  simp only[inB,if_true,thn]
  refine wR0 1100 [38] cJ0 ?_
  refine wN ?_
  rcases hc:decide (((qag xs).length:Int)<((qag ys).length:Int)) with _ | _
  ·refine qai (eV cJ0) ?_
   simp only[Bool.false_eq_true,if_false]
   refine wN ?_
   refine wR0 1300 [6] cJ0 ?_
   refine wN ?_
   refine qaL ?_
   (try simp only)
   exact⟨by simp,_,rfl,by exact qaE (by simp[qam] at hc;rw[h.2,if_neg (by omega)])⟩
  ·refine qai (eV cJ0) ?_
   simp only[if_true]
   refine wN ?_
   refine wR0 1200 [6] cJ0 ?_
   refine wN ?_
   refine qaL ?_
   (try simp only[thn])
   exact⟨by simp,_,rfl,by exact qaE (by simp[qam] at hc;rw[h.2,if_pos (by omega)])⟩
 ·intro H
  simp only[inB,thn]
  exact⟨by simp,_,rfl,.same rfl⟩
theorem orL3 (A B:Int)(xs ys:List V):orL [ordI A B,ordI xs.length ys.length,cmpF xs ys]=cmpV (.mk A xs) (.mk B ys):=by
 simp only[orL,cmpV,ordI]
 by_cases h1:A=B
 ·subst h1
  by_cases h2:xs.length=ys.length
  ·simp[h2,qn9 xs ys h2];exact fun h=>h.symm
  ·simp[h2]
   split
   ·simp
   ·split
    ·simp
    ·omega
 ·simp[h1]
  split
  ·simp
  ·split
   ·simp
   ·omega
theorem qo6:∀(v u:V),v.fit→u.fit→TP Tryz.prog 203 [encV v,encV u] (.int .i64 (cmpV v u))
 | .mk A xs,.mk B ys,hv,hu=>by
  have hv':=V.fit_kids hv
  have hu':=V.fit_kids hu
  simp only[V.kids] at hv' hu'
  have hrep:List.drop 1 (List.drop 1 (List.drop 1 (repl 3 [T.int .i64 0])))=[]:=rfl
  have hf:=qsN 203 xs ys hv'.1 (fun k hk l hl=>qo6 k l (hv'.2 k hk) (hu'.2 l hl))
  refine qah fn203 (by simp) ?_
  unfold i203
  simp only[argL,encV]
  refine wN ?_
  refine wR0 0 [2,3] cJ0 ?_
  refine wN ?_
  apply W_r 100 [4] (by rfl)
  ·refine rN cJ0 ?_
   apply qdg
   ·rfl
   ·exact eV cJ0
   ·exact qgi A B
   ·exact fRo
   refine rN cJ0 ?_
   apply qdg
   ·rfl
   ·exact eV cJ0
   ·exact qgi _ _
   ·exact fRo
   refine rN cJ0 ?_
   apply qdg
   ·rfl
   ·exact eV cJ0
   ·exact hf
   ·exact fRo
   refine rN @hrep ?_
   apply qdP [(117,.live ⟨3,qac [ordI A B,ordI (qag xs).length (qag ys).length,cmpF xs ys]⟩)]
   ·rfl
   ·exact eV cJ0
   ·exact qd7 rfl (by simp) (by simp[Slot.cl])
   ·exact FrzL.cons (qbx [ordI A B,ordI (qag xs).length (qag ys).length,cmpF xs ys] rfl rfl rfl) FrzL.nil
   ·exact qoj [ordI A B,ordI (qag xs).length (qag ys).length,cmpF xs ys] (by simp)
   ·rfl
   ·simp[clL,T.cl]
   refine rN cJ0 ?_
   exact qmz (by intro _;first | (simp[qbc,List.pairwise_cons,chkP];done) | (simp[qbc,List.pairwise_cons,chkP,Nat.testBit];done))
  ·exact eV cJ0
  simp only[thn]
  refine qaL ?_
  (try simp only)
  exact⟨by simp,_,rfl,by exact qaE (by rw[qam,qam];exact orL3 A B xs ys)⟩
termination_by v=>SizeOf.sizeOf v
decreasing_by exact qd6 hk A
def qgT (v:V)(s:Int):Bool:=decide (v.n≥0)&&decide (v.n<s)&&((v.kids.length:Int)==0)
theorem ql8 (v:V)(s:Int):TP Tryz.prog 200 [encV v,.int .i64 s] (.bool (qgT v s)):=by
 rcases v with⟨n,ks⟩
 refine qah fn200 (by simp) ?_
 unfold i200
 simp only[argL,encV]
 refine wN ?_
 refine wR0 0 [1,2] cJ0 ?_
 refine wN ?_
 refine wR0 100 [4] cJ0 ?_
 refine wN ?_
 refine qaL ?_
 (try simp only)
 exact⟨by simp,_,rfl,by exact qab (by simp only[qgT,V.n,V.kids,qam];rfl)⟩
def qc7 (p:V→Bool):List V→Int→Int
 | [],_ => -1
 | k::ks,i=>if p k=true then i else qc7 p ks (i+1)
theorem qjI (p:V→Bool):∀(ks:List V) (i:Int),0≤i→decide (qc7 p ks i≥0)=ks.any p
 | [],i,_=>rfl
 | k::ks,i,hi=>by
  by_cases hp:p k=true
  ·simp only[qc7,List.any_cons,hp,Bool.true_or];exact decide_eq_true hi
  ·simp only[qc7,List.any_cons,Bool.eq_false_iff.2 hp,Bool.false_or];exact qjI p ks (i+1) (by omega)
theorem qkI (f:FuncId)(caps:List T)(hcaps:clL (fun _=>false) caps=true)(p:V→Bool)(xs:List V)(hl:xs.length≤1000000)(Q:IExit→(Nat→T)→Heap→Prop):∀(rest pre:List V) (i:Nat),xs=pre++rest→pre.length=i→
 (∀k∈rest,TP Tryz.prog f ([encV k]++caps) (.bool (p k)))→
 (qc7 p rest i = -1→∀i:Int,Q (.exit 0) (ofL [(0,.list (qag xs)),(1,.fn f caps),(7,.int .i64 (qag xs).length),(8,.int .i64 i),(9,.bool false)]) (hpL []))→
 (qc7 p rest i ≠ -1→Q .ret (ofL [(4,.int .i64 (qc7 p rest i))]) (hpL []))→
 WL Tryz.prog 19 qiJ (ofL [(0,.list (qag xs)),(1,.fn f caps),(7,.int .i64 (qag xs).length),(8,.int .i64 i)]) (hpL []) Q:=by
 intro rest
 induction rest with
 | nil=>
  intro pre i he hn hk hQ0 hQ1
  have hd:decide ((i:Int)<((qag xs).length:Int))=false:=by simp[qam,he,hn]
  refine qaa qiJ.eq_1 ?_
  refine wN ?_
  refine wR0 200 [0,1,7,8,9] @hd ?_
  refine wN ?_
  refine qai (eV cJ0) ?_
  simp only[Bool.false_eq_true,if_false]
  refine wN ?_
  refine qb4 ?_
  (try simp only[thn])
  exact hQ0 rfl _
 | cons k rest ih=>
  intro pre i he hn hk hQ0 hQ1
  rcases k with⟨a,bs⟩
  have hlt:(i:Int)<((qag xs).length:Int):=by simp[qam,he];omega
  have hlb:i≤1000000:=by rw[he] at hl;simp at hl;omega
  have hd:decide ((i:Int)<((qag xs).length:Int))=true:=decide_eq_true hlt
  have hg:(qag xs).getD (i:Int).toNat .undef=.agg [.int .i64 a,.list (qag bs)]:=by rw[Int.toNat_natCast,he,←hn];exact qba _ (.mk a bs) _
  have hw:IntKind.wrap .i64 ((i:Int)+1)=(i:Int)+1:=wrap64 (by omega) (by omega)
  refine qaa qiJ.eq_1 ?_
  refine wN ?_
  refine wR0 200 [0,1,7,8,9] @hd ?_
  refine wN ?_
  refine qai (eV cJ0) ?_
  simp only[if_true]
  refine wN ?_
  refine wR0 300 [0,1,5,7,8] cJ0 ?_
  refine wN ?_
  apply W_r 400 [0,1,5,7,8,16] (by rfl)
  ·refine rN @hg ?_
   apply qd9
   ·rfl
   ·exact eV cJ0
   ·exact eV cJ0
   ·exact hk (.mk a bs) (List.mem_cons_self ..)
   ·simp[froL,clL,T.cl,hcaps]
   refine rN cJ0 ?_
   exact rFi
  ·exact eV cJ0
  simp only[thn]
  cases hc:p (.mk a bs)
  ·refine qai (eV cJ0) ?_
   simp only[Bool.false_eq_true,if_false]
   refine wN ?_
   refine wR0 600 [0,1,7,8] @hw ?_
   refine wN ?_
   have e:qc7 p (.mk a bs::rest) i=qc7 p rest ((i+1:Nat):Int):=by simp[qc7,hc]
   rw[e] at hQ0 hQ1
   have:=ih (pre++[.mk a bs]) (i+1) (by simp[he]) (by simp;omega) (fun k' hk'=>hk k' (List.mem_cons_of_mem _ hk')) hQ0 hQ1
   simpa using this
  ·refine qai (eV cJ0) ?_
   simp only[if_true]
   refine wN ?_
   refine wR0 500 [4] cJ0 ?_
   refine wN ?_
   refine qaL ?_
   (try simp only[thn,inB])
   have e:qc7 p (.mk a bs::rest) i=i:=by simp[qc7,hc]
   rw[e] at hQ1
   exact hQ1 (by omega)
theorem qoQ (f:FuncId)(caps:List T)(hcaps:clL (fun _=>false) caps=true)(p:V→Bool)(xs:List V)(hl:xs.length≤1000000)(hk:∀k∈xs,TP Tryz.prog f ([encV k]++caps) (.bool (p k))):TP Tryz.prog 213 [.list (qag xs),.fn f caps] (.int .i64 (qc7 p xs 0)):=by
 refine qah fn213 (by simp) ?_
 unfold i213
 simp only[argL]
 refine wN ?_
 refine wR0 0 [0,1] cJ0 ?_
 refine wN ?_
 refine wR0 100 [0,1,7,8] cJ0 ?_
 refine wN ?_
 refine qc1 ?_
 refine qkI f caps hcaps p xs hl _ xs [] 0 rfl rfl hk ?_ ?_
 ·intro h i
  simp only[inB,if_true,thn]
  refine wR0 700 [4] cJ0 ?_
  refine wN ?_
  refine qaL ?_
  (try simp only)
  exact⟨by simp,_,rfl,by exact qaE h.symm⟩
 ·intro h
  simp only[inB,thn]
  exact⟨by simp,_,rfl,.same rfl⟩
theorem qdF (f:FuncId)(caps:List T)(hcaps:clL (fun _=>false) caps=true)(p:V→Bool)(xs:List V)(hl:xs.length≤1000000)(hk:∀k∈xs,TP Tryz.prog f ([encV k]++caps) (.bool (p k))):TP Tryz.prog 205 [.list (qag xs),.fn f caps] (.bool (xs.any p)):=by
 refine qah fn205 (by simp) ?_
 unfold i205
 simp only[argL]
 refine wN ?_
 refine wR0 0 [0,1] cJ0 ?_
 refine wN ?_
 apply W_r 100 [4] (by rfl)
 ·refine rN cJ0 ?_
  apply qdg
  ·rfl
  ·exact eV cJ0
  ·exact qoQ f caps hcaps p xs hl hk
  ·simp[froL,clL,T.cl,hcaps]
  refine rN cJ0 ?_
  exact rFi
 ·exact eV cJ0
 simp only[thn]
 refine qaL ?_
 (try simp only)
 exact⟨by simp,_,rfl,by exact qab (qjI p xs 0 (by omega))⟩
mutual
def tagV (n:Int):V→Bool
 | .mk a ks=>(decide (a≥0)&&decide (a<n))&&tagL n ks
def tagL (n:Int):List V→Bool
 | []=>true
 | k::ks=>tagV n k&&tagL n ks
end
mutual
theorem qp5 (n:Int):∀v,tagV n v=qdK n v
 | .mk a ks=>by rw[tagV,qdK,qp4 n ks,Bool.and_comm]
theorem qp4 (n:Int):∀ks,tagL n ks=qeY n ks
 | []=>rfl
 | k::ks=>by rw[tagL,qeY,qp5 n k,qp4 n ks]
end
theorem qmM (n:Int):∀ks:List V,(!ks.any fun k=>!tagV n k)=tagL n ks
 | []=>rfl
 | k::ks=>by rw[tagL,←qmM n ks];simp
theorem qik {H:Heap}{id ty n:Nat}{f:FuncId}{cs:List T}(hb:H id=.live ⟨ty,cs⟩)(hn:n=cs.length)(h1:Ones cs)(hc:clL (fun _=>false) cs=true):Frz H (.fn f [.ref id n 0]) (.fn f [.ptr cs]):=by
 subst hn
 refine Frz.fn rfl fun i hi=>?_
 cases i with
 | zero=>
  refine Frz.ref hb rfl (by simp) h1 fun k hk=>?_
  rw[Nat.zero_add]
  exact .same (qa5 hc k)
 | succ i=>simp at hi
theorem qt1 (n:Int)(v:V)(h:TP Tryz.prog 204 [encV v,.int .i64 n] (.bool (tagV n v))):TP Tryz.prog 212 [encV v,.ptr [.int .i64 n]] (.bool (!tagV n v)):=by
 rcases v with⟨a,ks⟩
 refine qah fn212 (by simp) ?_
 unfold i212
 simp only[argL,encV]
 refine wN ?_
 refine wR0 0 [1,2] cJ0 ?_
 refine wN ?_
 refine wRn 100 [3] cJ0 ?_
 refine rC cJ0 ?_
 refine⟨_,h,rE cJ0 ?_⟩
 refine wN ?_
 refine qaL ?_
 (try simp only)
 exact⟨by simp,_,rfl,by exact .same rfl⟩
theorem qsw:∀(v:V) (n:Int),v.fit→TP Tryz.prog 204 [encV v,.int .i64 n] (.bool (tagV n v))
 | .mk a ks,n,hv=>by
  have hv':=V.fit_kids hv
  simp only[V.kids] at hv'
  have hk1:=qdF 212 [.ptr [.int .i64 n]] rfl (fun k=>!tagV n k) ks hv'.1 (fun k hk=>qt1 n k (qsw k n (hv'.2 k hk)))
  refine qah fn204 (by simp) ?_
  unfold i204
  simp only[argL,encV]
  refine wN ?_
  refine wR0 0 [2,3] cJ0 ?_
  refine wN ?_
  rcases hall:(decide (a≥0)&&decide (a<n)) with _ | _
  ·refine wR0 100 [4] @hall ?_
   refine wN ?_
   refine qaL ?_
   (try simp only)
   exact⟨by simp,_,rfl,by exact qab (by rw[tagV,hall,Bool.false_and])⟩
  ·apply W_r 100 [4] (by rfl)
   ·refine rN @hall ?_
    apply qdP [(1,.live ⟨3,[.int .i64 n]⟩)]
    ·first | rfl | exact eV @hall
    ·exact eV cJ0
    ·exact qd7 rfl (by simp) (by simp[Slot.cl,clL,T.cl])
    ·exact FrzL.cons (.same (qak _ ks)) (FrzL.cons (qik (cs:=[.int .i64 n]) rfl rfl (fun c hc=>by rw[List.mem_singleton] at hc;subst hc;rfl) rfl) FrzL.nil)
    ·exact hk1
    ·rfl
    ·simp[clL,T.cl]
    refine rN @hall ?_
    exact rFi
   ·exact eV @hall
   simp only[thn]
   refine qaL ?_
   (try simp only)
   exact⟨by simp,_,rfl,by exact qab (by rw[tagV,hall,Bool.true_and,←qmM])⟩
termination_by v=>SizeOf.sizeOf v
decreasing_by exact qd6 hk a
end
section
open Go.RowKit
theorem qmj (a b:Int):ordI b a = - ordI a b:=by
 unfold ordI;split<;>split<;>(try split)<;>omega
mutual
theorem qct:∀(a b:V),cmpV b a = - cmpV a b
 | .mk a ks,.mk b ls=>by
  simp only[cmpV]
  by_cases h1:a=b
  ·subst h1
   by_cases h2:ks.length=ls.length
   ·simp only[ne_eq,not_true_eq_false,if_false,h2];exact qly ks ls
   ·have h2':¬ls.length=ks.length:=fun h=>h2 h.symm
    simp only[ne_eq,not_true_eq_false,if_false,h2,h2',not_false_eq_true,if_true];exact qmj _ _
  ·have h1':¬b=a:=fun h=>h1 h.symm
   simp only[ne_eq,h1,h1',not_false_eq_true,if_true];exact qmj _ _
theorem qly:∀(ks ls:List V),cmpL ls ks = - cmpL ks ls
 | [],[]=>rfl
 | [],_::_=>rfl
 | _::_,[]=>rfl
 | k::ks,l::ls=>by
  have h:=qct k l
  simp only[cmpL]
  by_cases h0:cmpV k l=0
  ·rw[if_neg (by omega),if_neg (by omega)];exact qly ks ls
  ·rw[if_pos (by omega),if_pos h0];exact h
end
theorem qmU (a b:V):decide (cmpV b a<0)=decide (cmpV a b > 0):=by
 rw[qct a b];by_cases h:cmpV a b > 0
 ·rw[decide_eq_true h,decide_eq_true (by omega)]
 ·rw[decide_eq_false h,decide_eq_false (by omega)]
theorem qfL:∀(l:List V) (a b:V),qbu (l++[a,b])=(qbu (l++[a])&&!decide (cmpV a b > 0))
 | [],a,b=>by simp[qbu]
 | [x],a,b=>by simp[qbu]
 | x::y::l,a,b=>by
  have h:=qfL (y::l) a b
  simp only[List.cons_append,qbu] at h ⊢
  rw[h,Bool.and_assoc]
end
end Go.Proofs.YtoeeppojakbciaaGreat
