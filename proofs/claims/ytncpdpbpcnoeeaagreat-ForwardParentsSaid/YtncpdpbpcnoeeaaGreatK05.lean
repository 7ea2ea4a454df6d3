/- Contracts of functions of the program, for all arguments that they name. -/
import Derived.Test.YtncpdpbpcnoeeaaGreatK04
namespace Go.Proofs.YtncpdpbpcnoeeaaGreat
set_option linter.unusedVariables false
section
open Go.RowKit
set_option maxHeartbeats 2000000
theorem qo7 (a:Int):TP Tryz.prog 104 [.int .i64 a] (.bool false):=by
 have h:(a != a)=false:=by simp
 refine qai fn104 (by simp) ?_
 unfold i104
 simp only[argL]
 refine wN ?_
 refine wR0 0 [0] cJ0 ?_
 refine wN ?_
 refine wR0 100 [2] @h ?_
 refine wN ?_
 refine qbr ?_
 (try simp only)
 exact⟨by simp,_,rfl,by exact .same rfl⟩
theorem qeZ (a b:Int):TP Tryz.prog 58 [.int .i64 a,.int .i64 b] (.int .i64 (ordI a b)):=by
 refine qai fn58 (by simp) ?_
 unfold i58
 simp only[argL]
 refine wN ?_
 refine wR0 0 [0,1] cJ0 ?_
 refine wN ?_
 refine wRn 100 [0,1,5] cJ0 ?_
 refine rC cJ0 ?_
 refine⟨_,qo7 a,rE cJ0 ?_⟩
 refine wN ?_
 refine wRn 200 [0,1,5,6] cJ0 ?_
 refine rC cJ0 ?_
 refine⟨_,qo7 b,rE cJ0 ?_⟩
 refine wN ?_
 refine wR0 300 [0,1,6,11] cJ0 ?_
 refine wN ?_
 refine qaL (eV cJ0) ?_
 simp only[Bool.false_eq_true,if_false]
 refine wN ?_
 refine wR0 700 [0,1,13] cJ0 ?_
 refine wN ?_
 refine qaL (eV cJ0) ?_
 simp only[Bool.false_eq_true,if_false]
 refine wN ?_
 refine wR0 900 [0,1,16] cJ0 ?_
 refine wN ?_
 rcases h1:decide (a<b) with _ | _
 ·refine qaL (eV cJ0) ?_
  simp only[Bool.false_eq_true,if_false]
  refine wN ?_
  refine wR0 1100 [19] cJ0 ?_
  refine wN ?_
  rcases h2:decide (a > b) with _ | _
  ·refine qaL (eV cJ0) ?_
   simp only[Bool.false_eq_true,if_false]
   refine wN ?_
   refine wR0 1300 [4] cJ0 ?_
   refine wN ?_
   refine qbr ?_
   (try simp only)
   exact⟨by simp,_,rfl,by exact qaB (by simp at h1 h2;unfold ordI;rw[if_neg (by omega),if_neg (by omega)])⟩
  ·refine qaL (eV cJ0) ?_
   simp only[if_true]
   refine wN ?_
   refine wR0 1200 [4] cJ0 ?_
   refine wN ?_
   refine qbr ?_
   (try simp only[thn])
   exact⟨by simp,_,rfl,by exact qaB (by simp at h1 h2;unfold ordI;rw[if_neg (by omega),if_pos (by omega)])⟩
 ·refine qaL (eV cJ0) ?_
  simp only[if_true]
  refine wN ?_
  refine wR0 1000 [4] cJ0 ?_
  refine wN ?_
  refine qbr ?_
  (try simp only[thn])
  exact⟨by simp,_,rfl,by exact qaB (by simp at h1;unfold ordI;rw[if_pos h1])⟩
theorem qf0 (l:List Int):Ones (qab l):=fun c hc=>by
 obtain⟨x,_,rfl⟩:=List.mem_map.1 hc
 rfl
theorem qev (l:List Int):qbL (esz 0) (qab l):=fun c hc=>by
 obtain⟨x,_,rfl⟩:=List.mem_map.1 hc
 rfl
theorem qby:∀l:List Int,flat (qab l)=qab l
 | []=>rfl
 | x::l=>by
  show flat (.int .i64 x::qab l)=.int .i64 x::qab l
  rw[qa2,qby l];rfl
theorem qbt {H:Heap}{id ty n tot:Nat}(l:List Int)(hb:H id=.live ⟨ty,qab l⟩)(hn:n=l.length)(ht:tot=l.length):Frz H (.sl id tot 0 0 n) (.list (qab l)):=by
 subst hn ht
 refine Frz.sl hb (qac l) (by simp[esz]) (qac l) (qev l) (by rw[qby];exact qf0 l) fun k hk=>?_
 rw[qby,Nat.zero_add]
 exact .same (qaP (qae _ l) k)
theorem qdi {H:Heap}{id:Nat}{s:Slot}(h:H id=s)(hs:s≠.free)(hcl:s.cl (fun i=>decide (i∈[id]))=true):qbP H [(id,s)]:=by
 intro p hp1
 rw[List.mem_singleton] at hp1
 subst hp1
 have e:hp [(id,s)] id=s:=by simp[hp,Heap.upd,Heap.set]
 exact⟨hs,by rw[e];exact h,by rw[e];exact hcl⟩
def orL:List Int→Int
 | []=>0
 | x::l=>if x≠0 then x else orL l
theorem qny (xs:List Int)(hl:xs.length≤1000000)(Q:IExit→(Nat→T)→Heap→Prop):∀(rest pre:List Int) (i:Nat),xs=pre++rest→pre.length=i→
 (orL rest=0→∀i:Int,Q (.exit 0) (ofL [(3,.int .i64 0),(6,.list (qab xs)),(7,.int .i64 (qab xs).length),(8,.int .i64 i),(9,.bool false)]) (hpL []))→
 (orL rest≠0→Q .ret (ofL [(2,.int .i64 (orL rest))]) (hpL []))→
 WL Tryz.prog 18 qjB (ofL [(3,.int .i64 0),(6,.list (qab xs)),(7,.int .i64 (qab xs).length),(8,.int .i64 i)]) (hpL []) Q:=by
 intro rest
 induction rest with
 | nil=>
  intro pre i he hn hQ0 hQ1
  have hd:decide ((i:Int)<((qab xs).length:Int))=false:=by simp[qac,he,hn]
  refine qaa qjB.eq_1 ?_
  refine wN ?_
  refine wR0 300 [3,6,7,8,9] @hd ?_
  refine wN ?_
  refine qaL (eV cJ0) ?_
  simp only[Bool.false_eq_true,if_false]
  refine wN ?_
  refine qeu ?_
  (try simp only[thn])
  exact hQ0 rfl _
 | cons k rest ih=>
  intro pre i he hn hQ0 hQ1
  have hlt:(i:Int)<((qab xs).length:Int):=by simp[qac,he];omega
  have hlb:i≤1000000:=by rw[he] at hl;simp at hl;omega
  have hd:decide ((i:Int)<((qab xs).length:Int))=true:=decide_eq_true hlt
  have hg:(qab xs).getD (i:Int).toNat .undef=.int .i64 k:=by rw[Int.toNat_natCast,he,←hn];exact qc0 _ _ _
  have hw:IntKind.wrap .i64 ((i:Int)+1)=(i:Int)+1:=wrap64 (by omega) (by omega)
  refine qaa qjB.eq_1 ?_
  refine wN ?_
  refine wR0 300 [3,6,7,8,9] @hd ?_
  refine wN ?_
  refine qaL (eV cJ0) ?_
  simp only[if_true]
  refine wN ?_
  refine wR0 400 [3,5,6,7,8] @hg ?_
  refine wN ?_
  refine wR0 500 [3,5,6,7,8,14] cJ0 ?_
  refine wN ?_
  by_cases hc:k=0
  ·have hb:(k != 0)=false:=by simp[hc]
   refine qaL (eV cJ0) ?_
   simp only[hb,Bool.false_eq_true,if_false]
   refine wN ?_
   refine wR0 700 [3,6,7,8] @hw ?_
   refine wN ?_
   have:=ih (pre++[k]) (i+1) (by simp[he]) (by simp;omega) (by simpa [orL,hc] using hQ0) (by simpa [orL,hc] using hQ1)
   simpa using this
  ·have hb:(k != 0)=true:=by simp[hc]
   refine qaL (eV cJ0) ?_
   simp only[hb,if_true]
   refine wN ?_
   refine wR0 600 [2] cJ0 ?_
   refine wN ?_
   refine qbr ?_
   (try simp only[thn,inB])
   have:=hQ1 (by simp[orL,hc])
   simpa [orL,hc] using this
theorem qlx (xs:List Int)(hl:xs.length≤1000000):TP Tryz.prog 57 [.list (qab xs)] (.int .i64 (orL xs)):=by
 refine qai fn57 (by simp) ?_
 unfold i57
 simp only[argL]
 refine wN ?_
 refine wR0 0 [0] cJ0 ?_
 refine wN ?_
 refine wR0 100 [0,3] cJ0 ?_
 refine wN ?_
 refine wR0 200 [3,6,7,8] cJ0 ?_
 refine wN ?_
 refine qfV ?_
 refine qny xs hl _ xs [] 0 rfl rfl ?_ ?_
 ·intro h i
  simp only[inB,if_true,thn]
  refine wR0 800 [2] cJ0 ?_
  refine wN ?_
  refine qbr ?_
  (try simp only)
  exact⟨by simp,_,rfl,by exact qaB h.symm⟩
 ·intro h
  simp only[inB,thn]
  exact⟨by simp,_,rfl,.same rfl⟩
theorem qkl (most:Int)(hm0:0≤most)(hm1:most≤1000000)(N:Int)(ks:List V)(hl:ks.length≤1000000)(Q:IExit→(Nat→T)→Heap→Prop):∀(rest pre:List V) (i:Nat) (n:Int),ks=pre++rest→pre.length=i→1≤n→n≤most+1→
 (∀k∈rest,∀m:Int,0≤m→m≤1000000→TP Tryz.prog 200 [encV k,.int .i64 m] (.int .i64 (qcU k m)))→
 (∀l H,ofL l 5=.int .i64 (qfM rest n most)→Q (.exit 0) (ofL l) H)→
 WL Tryz.prog 27 qgN (ofL [(1,.int .i64 most),(5,.int .i64 n),(9,.list (qaj ks)),(10,.int .i64 (qaj ks).length),(11,.int .i64 i)]) (hpL [(0,.live ⟨31,[.int .i64 N,.list (qaj ks)]⟩)]) Q:=by
 intro rest
 induction rest with
 | nil=>
  intro pre i n he hn h1 h2 hk hQ
  have hd:decide ((i:Int)<((qaj ks).length:Int))=false:=by simp[qat,he,hn]
  refine qaa qgN.eq_1 ?_
  refine W_gc ?_
  refine wN ?_
  refine wR0 300 [1,5,9,10,11,12] @hd ?_
  refine wN ?_
  refine qaL (eV cJ0) ?_
  simp only[Bool.false_eq_true,if_false]
  refine wN ?_
  refine qeu ?_
  (try simp only[thn])
  exact hQ _ _ rfl
 | cons k rest ih=>
  intro pre i n he hn h1 h2 hk hQ
  rcases k with⟨a,bs⟩
  have hlt:(i:Int)<((qaj ks).length:Int):=by simp[qat,he];omega
  have hlb:i≤1000000:=by rw[he] at hl;simp at hl;omega
  have hd:decide ((i:Int)<((qaj ks).length:Int))=true:=decide_eq_true hlt
  have hg:(qaj ks).getD (i:Int).toNat .undef=.agg [.int .i64 a,.list (qaj bs)]:=by rw[Int.toNat_natCast,he,←hn];exact qbT _ (.mk a bs) _
  have hw:IntKind.wrap .i64 ((i:Int)+1)=(i:Int)+1:=wrap64 (by omega) (by omega)
  refine qaa qgN.eq_1 ?_
  refine W_gc ?_
  refine wN ?_
  refine wR0 300 [1,5,9,10,11,12] @hd ?_
  refine wN ?_
  refine qaL (eV cJ0) ?_
  simp only[if_true]
  refine wN ?_
  refine wR0 400 [1,5,7,9,10,11] @hg ?_
  refine wN ?_
  refine wR0 500 [1,5,7,9,10,11,17] cJ0 ?_
  refine wN ?_
  by_cases hc:n≤most
  ·have hb:decide (n > most)=false:=by simp;omega
   have hsz:=size_le (.mk a bs) (most - n) (by omega)
   have hw1:IntKind.wrap .i64 (most - n)=most - n:=wrap64 (by omega) (by omega)
   have hw2:IntKind.wrap .i64 (n+qcU (.mk a bs) (most - n))=n+qcU (.mk a bs) (most - n):=wrap64 (by omega) (by omega)
   refine qaL (eV cJ0) ?_
   simp only[hb,Bool.false_eq_true,if_false]
   refine wN ?_
   have fX:=(cJ2 @hw1 @hw2)
   refine wRn 600 [1,5,9,10,11] fX ?_
   refine rC fX ?_
   refine⟨_,hk (.mk a bs) (List.mem_cons_self ..) (most - n) (by omega) (by omega),rE fX ?_⟩
   refine wN ?_
   refine wR0 700 [1,5,9,10,11] @hw ?_
   refine wN ?_
   refine qaT [0] (by simp[inL]) (by simp[T.cl]) (by simp[qak,inL,Slot.cl,T.cl,clL]) ?_
   have:=ih (pre++[.mk a bs]) (i+1) (n+qcU (.mk a bs) (most - n)) (by simp[he]) (by simp;omega) (by omega) (by omega) (fun k' hk'=>hk k' (List.mem_cons_of_mem _ hk')) (by simpa [qfM,hc] using hQ)
   simpa [qak,inL] using this
  ·have hb:decide (n > most)=true:=by simp;omega
   refine qaL (eV cJ0) ?_
   simp only[hb,if_true]
   refine wN ?_
   refine qeu ?_
   (try simp only[thn,inB])
   exact hQ _ _ (by simp[ofL,qfM,hc])
theorem qgv:∀(v:V) (most:Int),v.fit→0≤most→most≤1000000→TP Tryz.prog 200 [encV v,.int .i64 most] (.int .i64 (qcU v most))
 | .mk N ks,most,hv,h0,h1=>by
  have hv':=V.fit_kids hv
  simp only[V.kids] at hv'
  refine qai fn200 (by simp) ?_
  unfold i200
  simp only[argL,encV]
  refine wN ?_
  refine wR0 0 [1,2] cJ0 ?_
  refine wN ?_
  refine wR0 100 [1,2,5] cJ0 ?_
  refine wN ?_
  refine wR0 200 [1,5,9,10,11] cJ0 ?_
  refine wN ?_
  refine qfV ?_
  refine qkl most h0 h1 N ks hv'.1 _ ks [] 0 1 rfl rfl (by omega) (by omega) (fun k hk m hm0 hm1=>qgv k m (hv'.2 k hk) hm0 hm1) ?_
  intro l H h5
  simp only[inB,if_true,thn]
  refine wR0 800 [4] @h5 ?_
  refine wN ?_
  refine qbr ?_
  (try simp only)
  exact⟨by simp,_,rfl,by exact qaB (by simp only[qcU])⟩
termination_by v=>SizeOf.sizeOf v
decreasing_by exact qgS hk N
def qjT (v:V):Int:=if qcU v 128 > 128 then 129 else qcU v 128
theorem qob (v:V)(hv:v.fit):TP Tryz.prog 187 [encV v] (.int .i64 (qjT v)):=by
 rcases v with⟨N,ks⟩
 have hb:=size_le (.mk N ks) 128 (by omega)
 refine qai fn187 (by simp) ?_
 unfold i187
 simp only[argL,encV]
 refine wN ?_
 refine wR0 0 [1] cJ0 ?_
 refine wN ?_
 refine wRn 100 [2] cJ0 ?_
 refine rC cJ0 ?_
 refine⟨_,qgv (.mk N ks) 128 hv (by omega) (by omega),rE cJ0 ?_⟩
 refine wN ?_
 refine qbr ?_
 (try simp only)
 exact⟨by simp,_,rfl,by exact qaB (by unfold qjT;split<;>split<;>omega)⟩
def cmpF:List V→List V→Int
 | [],[]=>0
 | [],_::_ => -1
 | _::_,[]=>1
 | k::ks,l::ls=>if cmpV k l≠0 then cmpV k l else cmpF ks ls
theorem qln:∀(ks ls:List V),ks.length=ls.length→cmpF ks ls=cmpL ks ls
 | [],[],_=>rfl
 | k::ks,l::ls,h=>by simp only[cmpF,cmpL];rw[qln ks ls (by simpa using h)]
theorem qlo (f:FuncId)(xs ys:List V)(hl:xs.length≤1000000)(Q:IExit→(Nat→T)→Heap→Prop):∀(r s pre qre:List V) (i:Nat),xs=pre++r→ys=qre++s→pre.length=i→qre.length=i→
 (∀k∈r,∀l∈s,TP Tryz.prog f [encV k,encV l] (.int .i64 (cmpV k l)))→
 (∀i:Int,(r.length≤s.length∧cmpF r s=if r.length<s.length then -1 else 0)→Q (.exit 0) (ofL [(0,.list (qaj xs)),(1,.list (qaj ys)),(2,.fn f []),(11,.list (qaj xs)),(12,.int .i64 (qaj xs).length),(13,.int .i64 i),(14,.bool false)]) (hpL []))→
 (∀H,Q .ret (ofL [(6,.int .i64 (cmpF r s))]) H)→
 WL Tryz.prog 39 qgO (ofL [(0,.list (qaj xs)),(1,.list (qaj ys)),(2,.fn f []),(11,.list (qaj xs)),(12,.int .i64 (qaj xs).length),(13,.int .i64 i)]) (hpL []) Q:=by
 intro r
 induction r with
 | nil=>
  intro s pre qre i he he' hp hq hk hQ0 hQ1
  have hd:decide ((i:Int)<((qaj xs).length:Int))=false:=by simp[qat,he,hp]
  refine qaa qgO.eq_1 ?_
  refine W_gc ?_
  refine wN ?_
  refine wR0 200 [0,1,2,11,12,13,14] @hd ?_
  refine wN ?_
  refine qaL (eV cJ0) ?_
  simp only[Bool.false_eq_true,if_false]
  refine wN ?_
  refine qeu ?_
  (try simp only[thn])
  exact hQ0 _ ⟨by simp,by cases s<;>simp[cmpF]⟩
 | cons k r ih=>
  intro s pre qre i he he' hp hq hk hQ0 hQ1
  rcases k with⟨a,as'⟩
  have hlt:(i:Int)<((qaj xs).length:Int):=by simp[qat,he];omega
  have hlb:i≤1000000:=by rw[he] at hl;simp at hl;omega
  have hd:decide ((i:Int)<((qaj xs).length:Int))=true:=decide_eq_true hlt
  have hg1:(qaj xs).getD (i:Int).toNat .undef=.agg [.int .i64 a,.list (qaj as')]:=by rw[Int.toNat_natCast,he,←hp];exact qbT _ (.mk a as') _
  have hw:IntKind.wrap .i64 ((i:Int)+1)=(i:Int)+1:=wrap64 (by omega) (by omega)
  refine qaa qgO.eq_1 ?_
  refine W_gc ?_
  refine wN ?_
  refine wR0 200 [0,1,2,11,12,13,14] @hd ?_
  refine wN ?_
  refine qaL (eV cJ0) ?_
  simp only[if_true]
  refine wN ?_
  refine wR0 300 [0,1,2,7,8,11,12,13] @hg1 ?_
  refine wN ?_
  refine wR0 400 [0,1,2,7,8,11,12,13,21] cJ0 ?_
  refine wN ?_
  cases s with
  | nil=>
   have hge:decide ((i:Int)≥((qaj ys).length:Int))=true:=by simp[qat,he',hq]
   refine qaL (eV cJ0) ?_
   simp only[hge,if_true]
   refine wN ?_
   refine wR0 500 [6] cJ0 ?_
   refine wN ?_
   refine qbr ?_
   (try simp only[thn,inB])
   exact hQ1 _
  | cons l s=>
   rcases l with⟨b,cs⟩
   have hlt2:(i:Int)<((qaj ys).length:Int):=by simp[qat,he'];omega
   have hge:decide ((i:Int)≥((qaj ys).length:Int))=false:=decide_eq_false (by omega)
   have hg2:(qaj ys).getD (i:Int).toNat .undef=.agg [.int .i64 b,.list (qaj cs)]:=by rw[Int.toNat_natCast,he',←hq];exact qbT _ (.mk b cs) _
   refine qaL (eV cJ0) ?_
   simp only[hge,Bool.false_eq_true,if_false]
   refine wN ?_
   refine wR0 600 [0,1,2,8,9,11,12,13] @hg2 ?_
   refine wN ?_
   apply W_r 700 [0,1,2,10,11,12,13] (by rfl)
   ·refine rN cJ0 ?_
    apply qdl
    ·rfl
    ·exact eV cJ0
    ·exact eV cJ0
    ·exact hk (.mk a as') (List.mem_cons_self ..) (.mk b cs) (List.mem_cons_self ..)
    ·exact fRo
    refine rN cJ0 ?_
    exact rFi
   ·exact eV cJ0
   simp only[thn]
   refine wR0 800 [0,1,2,10,11,12,13,31] cJ0 ?_
   refine wN ?_
   by_cases hc:cmpV (.mk a as') (.mk b cs)=0
   ·have hb:(cmpV (.mk a as') (.mk b cs) != 0)=false:=by simp[hc]
    refine qaL (eV cJ0) ?_
    simp only[hb,Bool.false_eq_true,if_false]
    refine wN ?_
    refine wR0 1000 [0,1,2,11,12,13] @hw ?_
    refine wN ?_
    refine qaT [] (by simp) (by simp[T.cl,clL]) (by simp[qak,inL]) ?_
    have e:cmpF (.mk a as'::r) (.mk b cs::s)=cmpF r s:=by simp[cmpF,hc]
    rw[e] at hQ0 hQ1
    have:=ih s (pre++[.mk a as']) (qre++[.mk b cs]) (i+1) (by simp[he]) (by simp[he']) (by simp;omega) (by simp;omega) (fun k' hk' l' hl'=>hk k' (List.mem_cons_of_mem _ hk') l' (List.mem_cons_of_mem _ hl')) (fun i h=>hQ0 i (by simpa using h)) hQ1
    simpa [qak,inL] using this
   ·have hb:(cmpV (.mk a as') (.mk b cs) != 0)=true:=by simp[hc]
    have e:cmpF (.mk a as'::r) (.mk b cs::s)=cmpV (.mk a as') (.mk b cs):=by simp[cmpF,hc]
    refine qaL (eV cJ0) ?_
    simp only[hb,if_true]
    refine wN ?_
    refine wR0 900 [6] cJ0 ?_
    refine wN ?_
    refine qbr ?_
    (try simp only[thn,inB])
    rw[←e]
    exact hQ1 _
theorem qps (f:FuncId)(xs ys:List V)(hl:xs.length≤1000000)(hk:∀k∈xs,∀l∈ys,TP Tryz.prog f [encV k,encV l] (.int .i64 (cmpV k l))):TP Tryz.prog 212 [.list (qaj xs),.list (qaj ys),.fn f []] (.int .i64 (cmpF xs ys)):=by
 refine qai fn212 (by simp) ?_
 unfold i212
 simp only[argL]
 refine wN ?_
 refine wR0 0 [0,1,2] cJ0 ?_
 refine wN ?_
 refine wR0 100 [0,1,2,11,12,13] cJ0 ?_
 refine wN ?_
 refine qfV ?_
 refine qlo f xs ys hl _ xs ys [] [] 0 rfl rfl rfl rfl hk ?_ ?_
 ·intro i h
  simp only[inB,if_true,thn]
  refine wR0 1100 [38] cJ0 ?_
  refine wN ?_
  rcases hc:decide (((qaj xs).length:Int)<((qaj ys).length:Int)) with _ | _
  ·refine qaL (eV cJ0) ?_
   simp only[Bool.false_eq_true,if_false]
   refine wN ?_
   refine wR0 1300 [6] cJ0 ?_
   refine wN ?_
   refine qbr ?_
   (try simp only)
   exact⟨by simp,_,rfl,by exact qaB (by simp[qat] at hc;rw[h.2,if_neg (by omega)])⟩
  ·refine qaL (eV cJ0) ?_
   simp only[if_true]
   refine wN ?_
   refine wR0 1200 [6] cJ0 ?_
   refine wN ?_
   refine qbr ?_
   (try simp only[thn])
   exact⟨by simp,_,rfl,by exact qaB (by simp[qat] at hc;rw[h.2,if_pos (by omega)])⟩
 ·intro H
  simp only[inB,thn]
  exact⟨by simp,_,rfl,.same rfl⟩
theorem orL3 (A B:Int)(xs ys:List V):orL [ordI A B,ordI xs.length ys.length,cmpF xs ys]=cmpV (.mk A xs) (.mk B ys):=by
 simp only[orL,cmpV,ordI]
 by_cases h1:A=B
 ·subst h1
  by_cases h2:xs.length=ys.length
  ·simp[h2,qln xs ys h2];exact fun h=>h.symm
  ·simp[h2]
   split
   ·simp
   ·split
    ·simp
    ·omega
 ·simp[h1]
  split
  ·simp
  ·split
   ·simp
   ·omega
theorem qmk:∀(v u:V),v.fit→u.fit→TP Tryz.prog 204 [encV v,encV u] (.int .i64 (cmpV v u))
 | .mk A xs,.mk B ys,hv,hu=>by
  have hv':=V.fit_kids hv
  have hu':=V.fit_kids hu
  simp only[V.kids] at hv' hu'
  have hrep:List.drop 1 (List.drop 1 (List.drop 1 (repl 3 [T.int .i64 0])))=[]:=rfl
  have hf:=qps 204 xs ys hv'.1 (fun k hk l hl=>qmk k l (hv'.2 k hk) (hu'.2 l hl))
  refine qai fn204 (by simp) ?_
  unfold i204
  simp only[argL,encV]
  refine wN ?_
  refine wR0 0 [2,3] cJ0 ?_
  refine wN ?_
  apply W_r 100 [4] (by rfl)
  ·refine rN cJ0 ?_
   apply qcy
   ·rfl
   ·exact eV cJ0
   ·exact qeZ A B
   ·exact fRo
   refine rN cJ0 ?_
   apply qcy
   ·rfl
   ·exact eV cJ0
   ·exact qeZ _ _
   ·exact fRo
   refine rN cJ0 ?_
   apply qcy
   ·rfl
   ·exact eV cJ0
   ·exact hf
   ·exact fRo
   refine rN @hrep ?_
   apply qc5 [(117,.live ⟨3,qab [ordI A B,ordI (qaj xs).length (qaj ys).length,cmpF xs ys]⟩)]
   ·rfl
   ·exact eV cJ0
   ·exact qdi rfl (by simp) (by simp[Slot.cl])
   ·exact FrzL.cons (qbt [ordI A B,ordI (qaj xs).length (qaj ys).length,cmpF xs ys] rfl rfl rfl) FrzL.nil
   ·exact qlx [ordI A B,ordI (qaj xs).length (qaj ys).length,cmpF xs ys] (by simp)
   ·rfl
   ·simp[clL,T.cl]
   refine rN cJ0 ?_
   exact qj4 (by intro _;first | (simp[qaR,List.pairwise_cons,chkP];done) | (simp[qaR,List.pairwise_cons,chkP,Nat.testBit];done))
  ·exact eV cJ0
  simp only[thn]
  refine qbr ?_
  (try simp only)
  exact⟨by simp,_,rfl,by exact qaB (by rw[qat,qat];exact orL3 A B xs ys)⟩
termination_by v=>SizeOf.sizeOf v
decreasing_by exact qgS hk A
def qfu (v:V)(s:Int):Bool:=decide (v.n≥0)&&decide (v.n<s)&&((v.kids.length:Int)==0)
theorem qjG (v:V)(s:Int):TP Tryz.prog 201 [encV v,.int .i64 s] (.bool (qfu v s)):=by
 rcases v with⟨n,ks⟩
 refine qai fn201 (by simp) ?_
 unfold i201
 simp only[argL,encV]
 refine wN ?_
 refine wR0 0 [1,2] cJ0 ?_
 refine wN ?_
 refine wR0 100 [4] cJ0 ?_
 refine wN ?_
 refine qbr ?_
 (try simp only)
 exact⟨by simp,_,rfl,by exact qad (by simp only[qfu,V.n,V.kids,qat];rfl)⟩
def qcr (p:V→Bool):List V→Int→Int
 | [],_ => -1
 | k::ks,i=>if p k=true then i else qcr p ks (i+1)
theorem qhN (p:V→Bool):∀(ks:List V) (i:Int),0≤i→decide (qcr p ks i≥0)=ks.any p
 | [],i,_=>rfl
 | k::ks,i,hi=>by
  by_cases hp:p k=true
  ·simp only[qcr,List.any_cons,hp,Bool.true_or];exact decide_eq_true hi
  ·simp only[qcr,List.any_cons,Bool.eq_false_iff.2 hp,Bool.false_or];exact qhN p ks (i+1) (by omega)
theorem qiC (f:FuncId)(caps:List T)(hcaps:clL (fun _=>false) caps=true)(p:V→Bool)(xs:List V)(hl:xs.length≤1000000)(Q:IExit→(Nat→T)→Heap→Prop):∀(rest pre:List V) (i:Nat),xs=pre++rest→pre.length=i→
 (∀k∈rest,TP Tryz.prog f ([encV k]++caps) (.bool (p k)))→
 (qcr p rest i = -1→∀i:Int,Q (.exit 0) (ofL [(0,.list (qaj xs)),(1,.fn f caps),(7,.int .i64 (qaj xs).length),(8,.int .i64 i),(9,.bool false)]) (hpL []))→
 (qcr p rest i ≠ -1→Q .ret (ofL [(4,.int .i64 (qcr p rest i))]) (hpL []))→
 WL Tryz.prog 19 qgP (ofL [(0,.list (qaj xs)),(1,.fn f caps),(7,.int .i64 (qaj xs).length),(8,.int .i64 i)]) (hpL []) Q:=by
 intro rest
 induction rest with
 | nil=>
  intro pre i he hn hk hQ0 hQ1
  have hd:decide ((i:Int)<((qaj xs).length:Int))=false:=by simp[qat,he,hn]
  refine qaa qgP.eq_1 ?_
  refine wN ?_
  refine wR0 200 [0,1,7,8,9] @hd ?_
  refine wN ?_
  refine qaL (eV cJ0) ?_
  simp only[Bool.false_eq_true,if_false]
  refine wN ?_
  refine qeu ?_
  (try simp only[thn])
  exact hQ0 rfl _
 | cons k rest ih=>
  intro pre i he hn hk hQ0 hQ1
  rcases k with⟨a,bs⟩
  have hlt:(i:Int)<((qaj xs).length:Int):=by simp[qat,he];omega
  have hlb:i≤1000000:=by rw[he] at hl;simp at hl;omega
  have hd:decide ((i:Int)<((qaj xs).length:Int))=true:=decide_eq_true hlt
  have hg:(qaj xs).getD (i:Int).toNat .undef=.agg [.int .i64 a,.list (qaj bs)]:=by rw[Int.toNat_natCast,he,←hn];exact qbT _ (.mk a bs) _
  have hw:IntKind.wrap .i64 ((i:Int)+1)=(i:Int)+1:=wrap64 (by omega) (by omega)
  refine qaa qgP.eq_1 ?_
  refine wN ?_
  refine wR0 200 [0,1,7,8,9] @hd ?_
  refine wN ?_
  refine qaL (eV cJ0) ?_
  simp only[if_true]
  refine wN ?_
  refine wR0 300 [0,1,5,7,8] cJ0 ?_
  refine wN ?_
  apply W_r 400 [0,1,5,7,8,16] (by rfl)
  ·refine rN @hg ?_
   apply qdl
   ·rfl
   ·exact eV cJ0
   ·exact eV cJ0
   ·exact hk (.mk a bs) (List.mem_cons_self ..)
   ·simp[froL,clL,T.cl,hcaps]
   refine rN cJ0 ?_
   exact rFi
  ·exact eV cJ0
  simp only[thn]
  cases hc:p (.mk a bs)
  ·refine qaL (eV cJ0) ?_
   simp only[Bool.false_eq_true,if_false]
   refine wN ?_
   refine wR0 600 [0,1,7,8] @hw ?_
   refine wN ?_
   have e:qcr p (.mk a bs::rest) i=qcr p rest ((i+1:Nat):Int):=by simp[qcr,hc]
   rw[e] at hQ0 hQ1
   have:=ih (pre++[.mk a bs]) (i+1) (by simp[he]) (by simp;omega) (fun k' hk'=>hk k' (List.mem_cons_of_mem _ hk')) hQ0 hQ1
   simpa using this
  ·refine qaL (eV cJ0) ?_
   simp only[if_true]
   refine wN ?_
   refine wR0 500 [4] cJ0 ?_
   refine wN ?_
   refine qbr ?_
   (try simp only[thn,inB])
   have e:qcr p (.mk a bs::rest) i=i:=by simp[qcr,hc]
   rw[e] at hQ1
   exact hQ1 (by omega)
theorem ql4 (f:FuncId)(caps:List T)(hcaps:clL (fun _=>false) caps=true)(p:V→Bool)(xs:List V)(hl:xs.length≤1000000)(hk:∀k∈xs,TP Tryz.prog f ([encV k]++caps) (.bool (p k))):TP Tryz.prog 214 [.list (qaj xs),.fn f caps] (.int .i64 (qcr p xs 0)):=by
 refine qai fn214 (by simp) ?_
 unfold i214
 simp only[argL]
 refine wN ?_
 refine wR0 0 [0,1] cJ0 ?_
 refine wN ?_
 refine wR0 100 [0,1,7,8] cJ0 ?_
 refine wN ?_
 refine qfV ?_
 refine qiC f caps hcaps p xs hl _ xs [] 0 rfl rfl hk ?_ ?_
 ·intro h i
  simp only[inB,if_true,thn]
  refine wR0 700 [4] cJ0 ?_
  refine wN ?_
  refine qbr ?_
  (try simp only)
  exact⟨by simp,_,rfl,by exact qaB h.symm⟩
 ·intro h
  simp only[inB,thn]
  exact⟨by simp,_,rfl,.same rfl⟩
theorem qcZ (f:FuncId)(caps:List T)(hcaps:clL (fun _=>false) caps=true)(p:V→Bool)(xs:List V)(hl:xs.length≤1000000)(hk:∀k∈xs,TP Tryz.prog f ([encV k]++caps) (.bool (p k))):TP Tryz.prog 206 [.list (qaj xs),.fn f caps] (.bool (xs.any p)):=by
 refine qai fn206 (by simp) ?_
 unfold i206
 simp only[argL]
 refine wN ?_
 refine wR0 0 [0,1] cJ0 ?_
 refine wN ?_
 apply W_r 100 [4] (by rfl)
 ·refine rN cJ0 ?_
  apply qcy
  ·rfl
  ·exact eV cJ0
  ·exact ql4 f caps hcaps p xs hl hk
  ·simp[froL,clL,T.cl,hcaps]
  refine rN cJ0 ?_
  exact rFi
 ·exact eV cJ0
 simp only[thn]
 refine qbr ?_
 (try simp only)
 exact⟨by simp,_,rfl,by exact qad (qhN p xs 0 (by omega))⟩
end
end Go.Proofs.YtncpdpbpcnoeeaaGreat
