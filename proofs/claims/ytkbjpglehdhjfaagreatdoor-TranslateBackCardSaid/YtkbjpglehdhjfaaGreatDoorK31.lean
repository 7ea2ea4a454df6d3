/- Contracts of functions of the program, for all arguments that they name. -/
import Derived.Test.YtkbjpglehdhjfaaGreatDoorK06
import Derived.Test.YtkbjpglehdhjfaaGreatDoorK30
namespace Go.Proofs.YtkbjpglehdhjfaaGreatDoor
set_option linter.unusedVariables false
section
open Go.RowKit
theorem qls (ks:List V):sizedB 2 (qaj ks)=true:=by
 rw[qc6,sizedB,List.all_eq_true]
 intro x hx
 obtain⟨v,_,rfl⟩:=List.mem_map.1 hx
 simp[qcg,esz]
end
section
open Go.RowKit
set_option maxHeartbeats 2000000
theorem qnI (most:Int)(hm0:0≤most)(hm1:most≤1000000)(N:Int)(ks:List V)(hl:ks.length≤1000000)(Q:IExit→(Nat→T)→Heap→Prop):∀(rest pre:List V) (i:Nat) (n:Int),ks=pre++rest→pre.length=i→1≤n→n≤most+1→
 (∀k∈rest,∀m:Int,0≤m→m≤1000000→TP Tryz.prog 207 [encV k,.int .i64 m] (.int .i64 (qcb k m)))→
 (∀l H,ofL l 5=.int .i64 (qdj rest n most)→Q (.exit 0) (ofL l) H)→
 WL Tryz.prog 27 qjB (ofL [(1,.int .i64 most),(5,.int .i64 n),(9,.list (qaj ks)),(10,.int .i64 (qaj ks).length),(11,.int .i64 i)]) (hpL [(0,.live ⟨35,[.int .i64 N,.list (qaj ks)]⟩)]) Q:=by
 intro rest
 induction rest with
 | nil=>
  intro pre i n he hn h1 h2 hk hQ
  have hd:decide ((i:Int)<((qaj ks).length:Int))=false:=by simp[qal,he,hn]
  refine qaa qjB.eq_1 ?_
  refine W_gc ?_
  refine wN ?_
  refine wR0 300 [1,5,9,10,11,12] @hd ?_
  refine wN ?_
  refine qan (eV cJ0) ?_
  simp only[Bool.false_eq_true,if_false]
  refine wN ?_
  refine qcz ?_
  (try simp only[thn])
  exact hQ _ _ rfl
 | cons k rest ih=>
  intro pre i n he hn h1 h2 hk hQ
  rcases k with⟨a,bs⟩
  have hlt:(i:Int)<((qaj ks).length:Int):=by simp[qal,he];omega
  have hlb:i≤1000000:=by rw[he] at hl;simp at hl;omega
  have hd:decide ((i:Int)<((qaj ks).length:Int))=true:=decide_eq_true hlt
  have hg:(qaj ks).getD (i:Int).toNat .undef=.agg [.int .i64 a,.list (qaj bs)]:=by rw[Int.toNat_natCast,he,←hn];exact qbC _ (.mk a bs) _
  have hw:IntKind.wrap .i64 ((i:Int)+1)=(i:Int)+1:=wrap64 (by omega) (by omega)
  refine qaa qjB.eq_1 ?_
  refine W_gc ?_
  refine wN ?_
  refine wR0 300 [1,5,9,10,11,12] @hd ?_
  refine wN ?_
  refine qan (eV cJ0) ?_
  simp only[if_true]
  refine wN ?_
  refine wR0 400 [1,5,7,9,10,11] @hg ?_
  refine wN ?_
  refine wR0 500 [1,5,7,9,10,11,17] cJ0 ?_
  refine wN ?_
  by_cases hc:n≤most
  ·have hb:decide (n > most)=false:=by simp;omega
   have hsz:=size_le (.mk a bs) (most - n) (by omega)
   have hw1:IntKind.wrap .i64 (most - n)=most - n:=wrap64 (by omega) (by omega)
   have hw2:IntKind.wrap .i64 (n+qcb (.mk a bs) (most - n))=n+qcb (.mk a bs) (most - n):=wrap64 (by omega) (by omega)
   refine qan (eV cJ0) ?_
   simp only[hb,Bool.false_eq_true,if_false]
   refine wN ?_
   have fX:=(cJ2 @hw1 @hw2)
   refine wRn 600 [1,5,9,10,11] fX ?_
   refine rC fX ?_
   refine⟨_,hk (.mk a bs) (List.mem_cons_self ..) (most - n) (by omega) (by omega),rE fX ?_⟩
   refine wN ?_
   refine wR0 700 [1,5,9,10,11] @hw ?_
   refine wN ?_
   refine qay [0] (by simp[inL]) (by simp[T.cl]) (by simp[qaf,inL,Slot.cl,T.cl,clL]) ?_
   have:=ih (pre++[.mk a bs]) (i+1) (n+qcb (.mk a bs) (most - n)) (by simp[he]) (by simp;omega) (by omega) (by omega) (fun k' hk'=>hk k' (List.mem_cons_of_mem _ hk')) (by simpa [qdj,hc] using hQ)
   simpa [qaf,inL] using this
  ·have hb:decide (n > most)=true:=by simp;omega
   refine qan (eV cJ0) ?_
   simp only[hb,if_true]
   refine wN ?_
   refine qcz ?_
   (try simp only[thn,inB])
   exact hQ _ _ (by simp[ofL,qdj,hc])
theorem qja:∀(v:V) (most:Int),v.fit→0≤most→most≤1000000→TP Tryz.prog 207 [encV v,.int .i64 most] (.int .i64 (qcb v most))
 | .mk N ks,most,hv,h0,h1=>by
  have hv':=V.fit_kids hv
  simp only[V.kids] at hv'
  refine qag fn207 (by simp) ?_
  unfold i207
  simp only[argL,encV]
  refine wN ?_
  refine wR0 0 [1,2] cJ0 ?_
  refine wN ?_
  refine wR0 100 [1,2,5] cJ0 ?_
  refine wN ?_
  refine wR0 200 [1,5,9,10,11] cJ0 ?_
  refine wN ?_
  refine qdx ?_
  refine qnI most h0 h1 N ks hv'.1 _ ks [] 0 1 rfl rfl (by omega) (by omega) (fun k hk m hm0 hm1=>qja k m (hv'.2 k hk) hm0 hm1) ?_
  intro l H h5
  simp only[inB,if_true,thn]
  refine wR0 800 [4] @h5 ?_
  refine wN ?_
  refine qaW ?_
  (try simp only)
  exact⟨by simp,_,rfl,by exact qaC (by simp only[qcb])⟩
termination_by v=>SizeOf.sizeOf v
decreasing_by exact qe0 hk N
def qm3 (v:V):Int:=if qcb v 128 > 128 then 129 else qcb v 128
theorem qsq (v:V)(hv:v.fit):TP Tryz.prog 168 [encV v] (.int .i64 (qm3 v)):=by
 rcases v with⟨N,ks⟩
 have hb:=size_le (.mk N ks) 128 (by omega)
 refine qag fn168 (by simp) ?_
 unfold i168
 simp only[argL,encV]
 refine wN ?_
 refine wR0 0 [1] cJ0 ?_
 refine wN ?_
 refine wRn 100 [2] cJ0 ?_
 refine rC cJ0 ?_
 refine⟨_,qja (.mk N ks) 128 hv (by omega) (by omega),rE cJ0 ?_⟩
 refine wN ?_
 refine qaW ?_
 (try simp only)
 exact⟨by simp,_,rfl,by exact qaC (by unfold qm3;split<;>split<;>omega)⟩
def qhN (v:V)(s:Int):Bool:=decide (v.n≥0)&&decide (v.n<s)&&((v.kids.length:Int)==0)
theorem qmP (v:V)(s:Int):TP Tryz.prog 208 [encV v,.int .i64 s] (.bool (qhN v s)):=by
 rcases v with⟨n,ks⟩
 refine qag fn208 (by simp) ?_
 unfold i208
 simp only[argL,encV]
 refine wN ?_
 refine wR0 0 [1,2] cJ0 ?_
 refine wN ?_
 refine wR0 100 [4] cJ0 ?_
 refine wN ?_
 refine qaW ?_
 (try simp only)
 exact⟨by simp,_,rfl,by exact qac (by simp only[qhN,V.n,V.kids,qal];rfl)⟩
def qdF (p:V→Bool):List V→Int→Int
 | [],_ => -1
 | k::ks,i=>if p k=true then i else qdF p ks (i+1)
theorem qkF (p:V→Bool):∀(ks:List V) (i:Int),0≤i→decide (qdF p ks i≥0)=ks.any p
 | [],i,_=>rfl
 | k::ks,i,hi=>by
  by_cases hp:p k=true
  ·simp only[qdF,List.any_cons,hp,Bool.true_or];exact decide_eq_true hi
  ·simp only[qdF,List.any_cons,Bool.eq_false_iff.2 hp,Bool.false_or];exact qkF p ks (i+1) (by omega)
theorem qlx (f:FuncId)(caps:List T)(hcaps:clL (fun _=>false) caps=true)(p:V→Bool)(xs:List V)(hl:xs.length≤1000000)(Q:IExit→(Nat→T)→Heap→Prop):∀(rest pre:List V) (i:Nat),xs=pre++rest→pre.length=i→
 (∀k∈rest,TP Tryz.prog f ([encV k]++caps) (.bool (p k)))→
 (qdF p rest i = -1→∀i:Int,Q (.exit 0) (ofL [(0,.list (qaj xs)),(1,.fn f caps),(7,.int .i64 (qaj xs).length),(8,.int .i64 i),(9,.bool false)]) (hpL []))→
 (qdF p rest i ≠ -1→Q .ret (ofL [(4,.int .i64 (qdF p rest i))]) (hpL []))→
 WL Tryz.prog 19 qjG (ofL [(0,.list (qaj xs)),(1,.fn f caps),(7,.int .i64 (qaj xs).length),(8,.int .i64 i)]) (hpL []) Q:=by
 intro rest
 induction rest with
 | nil=>
  intro pre i he hn hk hQ0 hQ1
  have hd:decide ((i:Int)<((qaj xs).length:Int))=false:=by simp[qal,he,hn]
  refine qaa qjG.eq_1 ?_
  refine wN ?_
  refine wR0 200 [0,1,7,8,9] @hd ?_
  refine wN ?_
  refine qan (eV cJ0) ?_
  simp only[Bool.false_eq_true,if_false]
  refine wN ?_
  refine qcz ?_
  (try simp only[thn])
  exact hQ0 rfl _
 | cons k rest ih=>
  intro pre i he hn hk hQ0 hQ1
  rcases k with⟨a,bs⟩
  have hlt:(i:Int)<((qaj xs).length:Int):=by simp[qal,he];omega
  have hlb:i≤1000000:=by rw[he] at hl;simp at hl;omega
  have hd:decide ((i:Int)<((qaj xs).length:Int))=true:=decide_eq_true hlt
  have hg:(qaj xs).getD (i:Int).toNat .undef=.agg [.int .i64 a,.list (qaj bs)]:=by rw[Int.toNat_natCast,he,←hn];exact qbC _ (.mk a bs) _
  have hw:IntKind.wrap .i64 ((i:Int)+1)=(i:Int)+1:=wrap64 (by omega) (by omega)
  refine qaa qjG.eq_1 ?_
  refine wN ?_
  refine wR0 200 [0,1,7,8,9] @hd ?_
  refine wN ?_
  refine qan (eV cJ0) ?_
  simp only[if_true]
  refine wN ?_
  refine wR0 300 [0,1,5,7,8] cJ0 ?_
  refine wN ?_
  apply W_r 400 [0,1,5,7,8,16] (by rfl)
  ·refine rN @hg ?_
   apply qe3
   ·rfl
   ·exact eV cJ0
   ·exact eV cJ0
   ·exact hk (.mk a bs) (List.mem_cons_self ..)
   ·simp[froL,clL,T.cl,hcaps]
   refine rN cJ0 ?_
   exact rFi
  ·exact eV cJ0
  simp only[thn]
  cases hc:p (.mk a bs)
  ·refine qan (eV cJ0) ?_
   simp only[Bool.false_eq_true,if_false]
   refine wN ?_
   refine wR0 600 [0,1,7,8] @hw ?_
   refine wN ?_
   have e:qdF p (.mk a bs::rest) i=qdF p rest ((i+1:Nat):Int):=by simp[qdF,hc]
   rw[e] at hQ0 hQ1
   have:=ih (pre++[.mk a bs]) (i+1) (by simp[he]) (by simp;omega) (fun k' hk'=>hk k' (List.mem_cons_of_mem _ hk')) hQ0 hQ1
   simpa using this
  ·refine qan (eV cJ0) ?_
   simp only[if_true]
   refine wN ?_
   refine wR0 500 [4] cJ0 ?_
   refine wN ?_
   refine qaW ?_
   (try simp only[thn,inB])
   have e:qdF p (.mk a bs::rest) i=i:=by simp[qdF,hc]
   rw[e] at hQ1
   exact hQ1 (by omega)
theorem qpv (f:FuncId)(caps:List T)(hcaps:clL (fun _=>false) caps=true)(p:V→Bool)(xs:List V)(hl:xs.length≤1000000)(hk:∀k∈xs,TP Tryz.prog f ([encV k]++caps) (.bool (p k))):TP Tryz.prog 243 [.list (qaj xs),.fn f caps] (.int .i64 (qdF p xs 0)):=by
 refine qag fn243 (by simp) ?_
 unfold i243
 simp only[argL]
 refine wN ?_
 refine wR0 0 [0,1] cJ0 ?_
 refine wN ?_
 refine wR0 100 [0,1,7,8] cJ0 ?_
 refine wN ?_
 refine qdx ?_
 refine qlx f caps hcaps p xs hl _ xs [] 0 rfl rfl hk ?_ ?_
 ·intro h i
  simp only[inB,if_true,thn]
  refine wR0 700 [4] cJ0 ?_
  refine wN ?_
  refine qaW ?_
  (try simp only)
  exact⟨by simp,_,rfl,by exact qaC h.symm⟩
 ·intro h
  simp only[inB,thn]
  exact⟨by simp,_,rfl,.same rfl⟩
theorem qek (f:FuncId)(caps:List T)(hcaps:clL (fun _=>false) caps=true)(p:V→Bool)(xs:List V)(hl:xs.length≤1000000)(hk:∀k∈xs,TP Tryz.prog f ([encV k]++caps) (.bool (p k))):TP Tryz.prog 212 [.list (qaj xs),.fn f caps] (.bool (xs.any p)):=by
 refine qag fn212 (by simp) ?_
 unfold i212
 simp only[argL]
 refine wN ?_
 refine wR0 0 [0,1] cJ0 ?_
 refine wN ?_
 apply W_r 100 [4] (by rfl)
 ·refine rN cJ0 ?_
  apply qdL
  ·rfl
  ·exact eV cJ0
  ·exact qpv f caps hcaps p xs hl hk
  ·simp[froL,clL,T.cl,hcaps]
  refine rN cJ0 ?_
  exact rFi
 ·exact eV cJ0
 simp only[thn]
 refine qaW ?_
 (try simp only)
 exact⟨by simp,_,rfl,by exact qac (qkF p xs 0 (by omega))⟩
mutual
def tagV (n:Int):V→Bool
 | .mk a ks=>(decide (a≥0)&&decide (a<n))&&tagL n ks
def tagL (n:Int):List V→Bool
 | []=>true
 | k::ks=>tagV n k&&tagL n ks
end
mutual
theorem qq5 (n:Int):∀v,tagV n v=qew n v
 | .mk a ks=>by rw[tagV,qew,qq4 n ks,Bool.and_comm]
theorem qq4 (n:Int):∀ks,tagL n ks=qfQ n ks
 | []=>rfl
 | k::ks=>by rw[tagL,qfQ,qq5 n k,qq4 n ks]
end
theorem qnv (n:Int):∀ks:List V,(!ks.any fun k=>!tagV n k)=tagL n ks
 | []=>rfl
 | k::ks=>by rw[tagL,←qnv n ks];simp
theorem qjm {H:Heap}{id ty n:Nat}{f:FuncId}{cs:List T}(hb:H id=.live ⟨ty,cs⟩)(hn:n=cs.length)(h1:Ones cs)(hc:clL (fun _=>false) cs=true):Frz H (.fn f [.ref id n 0]) (.fn f [.ptr cs]):=by
 subst hn
 refine Frz.fn rfl fun i hi=>?_
 cases i with
 | zero=>
  refine Frz.ref hb rfl (by simp) h1 fun k hk=>?_
  rw[Nat.zero_add]
  exact .same (qbk hc k)
 | succ i=>simp at hi
theorem quR (n:Int)(v:V)(h:TP Tryz.prog 211 [encV v,.int .i64 n] (.bool (tagV n v))):TP Tryz.prog 242 [encV v,.ptr [.int .i64 n]] (.bool (!tagV n v)):=by
 rcases v with⟨a,ks⟩
 refine qag fn242 (by simp) ?_
 unfold i242
 simp only[argL,encV]
 refine wN ?_
 refine wR0 0 [1,2] cJ0 ?_
 refine wN ?_
 refine wRn 100 [3] cJ0 ?_
 refine rC cJ0 ?_
 refine⟨_,h,rE cJ0 ?_⟩
 refine wN ?_
 refine qaW ?_
 (try simp only)
 exact⟨by simp,_,rfl,by exact .same rfl⟩
theorem qtE:∀(v:V) (n:Int),v.fit→TP Tryz.prog 211 [encV v,.int .i64 n] (.bool (tagV n v))
 | .mk a ks,n,hv=>by
  have hv':=V.fit_kids hv
  simp only[V.kids] at hv'
  have hk1:=qek 242 [.ptr [.int .i64 n]] rfl (fun k=>!tagV n k) ks hv'.1 (fun k hk=>quR n k (qtE k n (hv'.2 k hk)))
  refine qag fn211 (by simp) ?_
  unfold i211
  simp only[argL,encV]
  refine wN ?_
  refine wR0 0 [2,3] cJ0 ?_
  refine wN ?_
  rcases hall:(decide (a≥0)&&decide (a<n)) with _ | _
  ·refine wR0 100 [4] @hall ?_
   refine wN ?_
   refine qaW ?_
   (try simp only)
   exact⟨by simp,_,rfl,by exact qac (by rw[tagV,hall,Bool.false_and])⟩
  ·apply W_r 100 [4] (by rfl)
   ·refine rN @hall ?_
    apply qeF [(1,.live ⟨3,[.int .i64 n]⟩)]
    ·first | rfl | exact eV @hall
    ·exact eV cJ0
    ·exact qe1 rfl (by simp) (by simp[Slot.cl,clL,T.cl])
    ·exact FrzL.cons (.same (qak _ ks)) (FrzL.cons (qjm (cs:=[.int .i64 n]) rfl rfl (fun c hc=>by rw[List.mem_singleton] at hc;subst hc;rfl) rfl) FrzL.nil)
    ·exact hk1
    ·rfl
    ·simp[clL,T.cl]
    refine rN @hall ?_
    exact rFi
   ·exact eV @hall
   simp only[thn]
   refine qaW ?_
   (try simp only)
   exact⟨by simp,_,rfl,by exact qac (by rw[tagV,hall,Bool.true_and,←qnv])⟩
termination_by v=>SizeOf.sizeOf v
decreasing_by exact qe0 hk a
end
section
open Go.RowKit
theorem qnH (a b:V):decide (cmpV b a<0)=decide (cmpV a b > 0):=by
 rw[qcU a b];by_cases h:cmpV a b > 0
 ·rw[decide_eq_true h,decide_eq_true (by omega)]
 ·rw[decide_eq_false h,decide_eq_false (by omega)]
theorem qgK:∀(l:List V) (a b:V),qbW (l++[a,b])=(qbW (l++[a])&&!decide (cmpV a b > 0))
 | [],a,b=>by simp[qbW]
 | [x],a,b=>by simp[qbW]
 | x::y::l,a,b=>by
  have h:=qgK (y::l) a b
  simp only[List.cons_append,qbW] at h ⊢
  rw[h,Bool.and_assoc]
end
section
open Go.RowKit
set_option maxHeartbeats 2000000
def qii (x:V):List V→Bool
 | []=>true
 | y::ys=>!decide (cmpV x y<0)&&qii y ys
theorem qnc:∀(ys:List V) (x:V),qii x ys=qbW ((x::ys).reverse)
 | [],x=>rfl
 | y::ys,x=>by
  rw[List.reverse_cons,List.reverse_cons,List.append_assoc,List.singleton_append,qgK,←List.reverse_cons,←qnc ys y,qii,qnH y x,Bool.and_comm]
theorem qjI (f:FuncId)(xs:List V)(hl:xs.length≤1000000)(hk:∀k∈xs,∀l∈xs,TP Tryz.prog f [encV k,encV l] (.int .i64 (cmpV k l)))(Q:IExit→(Nat→T)→Heap→Prop):∀(ys:List V) (x:V) (zs:List V) (i:Nat),xs=ys.reverse++x::zs→ys.length=i→
 (qii x ys=true→∀i:Int,Q (.exit 0) (ofL [(0,.list (qaj xs)),(1,.fn f []),(5,.int .i64 i),(10,.bool false)]) (hpL []))→
 (qii x ys=false→Q .ret (ofL [(4,.bool false)]) (hpL []))→
 WL Tryz.prog 25 qhz (ofL [(0,.list (qaj xs)),(1,.fn f []),(5,.int .i64 i)]) (hpL []) Q:=by
 intro ys
 induction ys with
 | nil=>
  intro x zs i he hi hQ0 hQ1
  have hd:decide ((i:Int) > 0)=false:=decide_eq_false (by simp at hi;omega)
  refine qaa qhz.eq_1 ?_
  refine wN ?_
  refine wR0 200 [0,1,5,10] @hd ?_
  refine wN ?_
  refine qan (eV cJ0) ?_
  simp only[Bool.false_eq_true,if_false]
  refine wN ?_
  refine qcz ?_
  (try simp only[thn])
  exact hQ0 rfl _
 | cons y ys ih=>
  intro x zs i he hi hQ0 hQ1
  rcases x with⟨a,bs⟩
  rcases y with⟨b,cs⟩
  simp only[List.length_cons] at hi
  obtain⟨m,rfl⟩:∃m,i=m+1:=⟨ys.length,by omega⟩
  have hm:ys.reverse.length=m:=by simp;omega
  have he1:xs=ys.reverse++V.mk b cs::V.mk a bs::zs:=by rw[he];simp
  have he2:xs=(ys.reverse++[V.mk b cs])++V.mk a bs::zs:=by rw[he];simp
  have hxl:((qaj xs).length:Int)=m+2+zs.length:=by rw[qal,he1];simp at hm ⊢;omega
  have hlb:m+2≤1000000:=by rw[qal] at hxl;omega
  have hlt:((m+1:Nat):Int)<((qaj xs).length:Int):=by omega
  have hlt2:(m:Int)<((qaj xs).length:Int):=by omega
  have hd:decide (((m+1:Nat):Int) > 0)=true:=decide_eq_true (by omega)
  have hw3:IntKind.wrap .i64 (((m+1:Nat):Int) - 1)=(m:Int):=by rw[wrap64 (by omega) (by omega)];omega
  have hg1:(qaj xs).getD (((m+1:Nat):Int)).toNat .undef=.agg [.int .i64 a,.list (qaj bs)]:=by
   have h:=qbC (ys.reverse++[V.mk b cs]) (V.mk a bs) zs
   rw[←he2] at h
   rw[Int.toNat_natCast,show m+1=(ys.reverse++[V.mk b cs]).length by simp at hm ⊢;omega];exact h
  have hg2:(qaj xs).getD (m:Int).toNat .undef=.agg [.int .i64 b,.list (qaj cs)]:=by
   have h:=qbC ys.reverse (V.mk b cs) (V.mk a bs::zs)
   rw[←he1] at h
   rw[Int.toNat_natCast,←hm];exact h
  have hc1:=hk (V.mk a bs) (by rw[he1];simp) (V.mk b cs) (by rw[he1];simp)
  refine qaa qhz.eq_1 ?_
  refine wN ?_
  refine wR0 200 [0,1,5,10] @hd ?_
  refine wN ?_
  refine qan (eV cJ0) ?_
  simp only[if_true]
  refine wN ?_
  apply W_r 300 [0,1,5,24] (by rfl)
  ·refine rN (cJ3 @hg1 @hg2 @hw3) ?_
   apply qe3
   ·rfl
   ·exact eV cJ0
   ·exact eV cJ0
   ·exact hc1
   ·exact fRo
   refine rN cJ0 ?_
   exact rFi
  ·exact eV cJ0
  simp only[thn]
  rcases hc:decide (cmpV (V.mk a bs) (V.mk b cs)<0) with _ | _
  ·refine qan (eV cJ0) ?_
   simp only[Bool.false_eq_true,if_false]
   refine wN ?_
   refine wR0 500 [0,1,5] @hw3 ?_
   refine wN ?_
   have e:qii (V.mk a bs) (V.mk b cs::ys)=qii (V.mk b cs) ys:=by rw[qii,hc];rfl
   rw[e] at hQ0 hQ1
   exact ih (V.mk b cs) (V.mk a bs::zs) m he1 (by simpa using hm) hQ0 hQ1
  ·refine qan (eV cJ0) ?_
   simp only[if_true]
   refine wN ?_
   refine wR0 400 [4] cJ0 ?_
   refine wN ?_
   refine qaW ?_
   (try simp only[thn,inB])
   exact hQ1 (by rw[qii,hc];rfl)
theorem qly (f:FuncId)(xs:List V)(hl:xs.length≤1000000)(hk:∀k∈xs,∀l∈xs,TP Tryz.prog f [encV k,encV l] (.int .i64 (cmpV k l))):TP Tryz.prog 210 [.list (qaj xs),.fn f []] (.bool (qbW xs)):=by
 have hw:IntKind.wrap .i64 (((qaj xs).length:Int) - 1)=((qaj xs).length:Int) - 1:=wrap64 (by omega) (by rw[qal];omega)
 refine qag fn210 (by simp) ?_
 unfold i210
 simp only[argL]
 refine wN ?_
 refine wR0 0 [0,1] cJ0 ?_
 refine wN ?_
 refine wR0 100 [0,1,5] @hw ?_
 refine wN ?_
 refine qdx ?_
 rcases List.eq_nil_or_concat xs with h | ⟨ini,x,h⟩
 ·subst h
  have hd:decide (((qaj []).length:Int) - 1 > 0)=false:=rfl
  refine qaa qhz.eq_1 ?_
  refine wN ?_
  refine wR0 200 [0,1,5,10] @hd ?_
  refine wN ?_
  refine qan (eV cJ0) ?_
  simp only[Bool.false_eq_true,if_false]
  refine wN ?_
  refine qcz ?_
  (try simp only[thn,inB,if_true])
  refine wR0 600 [4] cJ0 ?_
  refine wN ?_
  refine qaW ?_
  (try simp only)
  exact⟨by simp,_,rfl,by exact qac rfl⟩
 ·have hi:((qaj xs).length:Int) - 1=((ini.length:Nat):Int):=by rw[qal,h];simp
  have hr:qii x ini.reverse=qbW xs:=by rw[qnc,h];simp
  rw[hi]
  refine qjI f xs hl hk _ ini.reverse x [] ini.length (by rw[h];simp) (by simp) ?_ ?_
  ·intro h1 i
   simp only[inB,if_true,thn]
   refine wR0 600 [4] cJ0 ?_
   refine wN ?_
   refine qaW ?_
   (try simp only)
   exact⟨by simp,_,rfl,by exact qac (by rw[←hr,h1])⟩
  ·intro h1
   simp only[inB,thn]
   exact⟨by simp,_,rfl,qac (by rw[←hr,h1])⟩
theorem qsd (k s:Int)(rs:List Int)(ps:List Ty)(v:V)(b:Bool)(h:TP Tryz.prog 169 [qaz (.mk k s rs ps),encV v] (.bool b)):TP Tryz.prog 241 [encV v,.ptr [.int .i64 k,.int .i64 s,.list (qad rs),.list (qam ps)]] (.bool (!b)):=by
 rcases v with⟨a,ks⟩
 refine qag fn241 (by simp) ?_
 unfold i241
 simp only[argL,encV]
 refine wN ?_
 refine wR0 0 [1,2] cJ0 ?_
 refine wN ?_
 refine wRn 100 [3] cJ0 ?_
 refine rC cJ0 ?_
 refine⟨_,h,rE cJ0 ?_⟩
 refine wN ?_
 refine qaW ?_
 (try simp only)
 exact⟨by simp,_,rfl,by exact .same rfl⟩
def qsf (t:Ty)(v:V):Bool:=(v.n==0)&&decide ((v.kids.length:Int)≤12)&&v.kids.all fun x=>ofV t x
theorem qpE (v:V)(t:Ty)(hv:v.fit)(hk:∀x∈v.kids,TP Tryz.prog 169 [qaz t,encV x] (.bool (ofV t x))):TP Tryz.prog 209 [encV v,qaz t] (.bool (qsf t v)):=by
 have hv':=V.fit_kids hv
 rcases v with⟨n,ks⟩
 rcases t with⟨k,s,rs,ps⟩
 simp only[V.kids] at hv' hk
 have ha:(!ks.any fun x=>!ofV (.mk k s rs ps) x)=ks.all fun x=>ofV (.mk k s rs ps) x:=by rw[List.all_eq_not_any_not]
 have hk1:=qek 241 [.ptr [.int .i64 k,.int .i64 s,.list (qad rs),.list (qam ps)]] (by simp[clL,T.cl]) (fun x=>!ofV (.mk k s rs ps) x) ks hv'.1 (fun x hx=>qsd k s rs ps x _ (hk x hx))
 have e2:∀c:Bool,((n==0)&&decide (((qaj ks).length:Int)≤12))=c→qsf (.mk k s rs ps) (.mk n ks)=(c&&ks.all fun x=>ofV (.mk k s rs ps) x):=by
  intro c hc;rw[qal] at hc;rw[←hc];rfl
 refine qag fn209 (by simp) ?_
 unfold i209
 simp only[argL,encV,qaz]
 refine wN ?_
 refine wR0 0 [2,3] cJ0 ?_
 refine wN ?_
 rcases hall:((n==0)&&decide (((qaj ks).length:Int)≤12)) with _ | _
 ·refine wR0 100 [4] @hall ?_
  refine wN ?_
  refine qaW ?_
  (try simp only)
  exact⟨by simp,_,rfl,by exact qac (by rw[e2 _ hall,Bool.false_and])⟩
 ·apply W_r 100 [4] (by rfl)
  ·refine rN @hall ?_
   apply qeF [(1,.live ⟨45,[.int .i64 k,.int .i64 s,.list (qad rs),.list (qam ps)]⟩)]
   ·first | rfl | exact eV @hall
   ·exact eV cJ0
   ·exact qe1 rfl (by simp) (by simp[Slot.cl,clL,T.cl])
   ·exact FrzL.cons (.same (qak _ ks)) (FrzL.cons (qjm (cs:=[.int .i64 k,.int .i64 s,.list (qad rs),.list (qam ps)]) rfl rfl (fun c hc=>by simp only[List.mem_cons,List.not_mem_nil,or_false] at hc;rcases hc with rfl | rfl | rfl | rfl<;>rfl) (by simp[clL,T.cl])) FrzL.nil)
   ·exact hk1
   ·rfl
   ·simp[clL,T.cl]
   refine rN @hall ?_
   exact rFi
  ·exact eV @hall
  simp only[thn]
  refine qaW ?_
  (try simp only)
  exact⟨by simp,_,rfl,by exact qac (by rw[e2 _ hall,Bool.true_and];exact ha)⟩
theorem qum (k s:Int)(rs:List Int)(ps:List Ty)(v:V):TP Tryz.prog 213 [encV v,.ptr [.int .i64 k,.int .i64 s,.list (qad rs),.list (qam ps)]] (.bool (!qhN v s)):=by
 rcases v with⟨a,ks⟩
 refine qag fn213 (by simp) ?_
 unfold i213
 simp only[argL,encV]
 refine wN ?_
 refine wR0 0 [1,2] cJ0 ?_
 refine wN ?_
 refine wRn 100 [3] cJ0 ?_
 refine rC cJ0 ?_
 refine⟨_,qmP (.mk a ks) s,rE cJ0 ?_⟩
 refine wN ?_
 refine qaW ?_
 (try simp only)
 exact⟨by simp,_,rfl,by exact .same rfl⟩
theorem qnV (v:V)(s:Int):(!qhN v s)=qce s v:=by
 rw[Bool.eq_iff_iff]
 simp only[qhN,qce,Bool.not_eq_true',Bool.and_eq_false_iff,Bool.or_eq_true,decide_eq_true_eq,decide_eq_false_iff_not,beq_eq_false_iff_ne,ne_eq]
 omega
theorem qsn (k s N:Int)(rs:List Int)(ps:List Ty)(ks:List V)(hl:ks.length≤1000000)(Q:IExit→(Nat→T)→Heap→Prop):∀(rest pre:List V) (ts us:List Ty) (i:Nat),ks=pre++rest→ps=us++ts→pre.length=i→us.length=i→rest.length=ts.length→
 (∀t∈ts,∀v∈rest,TP Tryz.prog 169 [qaz t,encV v] (.bool (ofV t v)))→
 (qd2 ts rest=true→∀i:Int,Q (.exit 1) (ofL [(2,.ref 0 4 0),(46,.list (qaj ks)),(47,.int .i64 (qaj ks).length),(48,.int .i64 i),(49,.bool false)]) (hpL [(0,.live ⟨45,[.int .i64 k,.int .i64 s,.list (qad rs),.list (qam ps)]⟩),(1,.live ⟨35,[.int .i64 N,.list (qaj ks)]⟩)]))→
 (qd2 ts rest=false→∀l,Q .ret (ofL [(4,.bool false)]) (hpL l))→
 WL Tryz.prog 110 qjx (ofL [(2,.ref 0 4 0),(46,.list (qaj ks)),(47,.int .i64 (qaj ks).length),(48,.int .i64 i)]) (hpL [(0,.live ⟨45,[.int .i64 k,.int .i64 s,.list (qad rs),.list (qam ps)]⟩),(1,.live ⟨35,[.int .i64 N,.list (qaj ks)]⟩)]) Q:=by
 intro rest
 induction rest with
 | nil=>
  intro pre ts us i he he2 hn hn2 hlr hk hQ0 hQ1
  have hd:decide ((i:Int)<((qaj ks).length:Int))=false:=by simp[qal,he,hn]
  have hts:ts=[]:=List.eq_nil_of_length_eq_zero hlr.symm
  subst hts
  have fX:=@hd
  refine qaa qjx.eq_1 ?_
  refine wR0 1000 [2,46,47,48,49] fX ?_
  refine wF @hd ?_
  refine wX ?_
  refine wN ?_
  exact hQ0 rfl _
 | cons v rest ih=>
  intro pre ts us i he he2 hn hn2 hlr hk hQ0 hQ1
  cases ts with
  | nil=>simp at hlr
  | cons t ts=>
  rcases v with⟨a,bs⟩
  rcases t with⟨tk,tsz,trs,tps⟩
  have hlt:(i:Int)<((qaj ks).length:Int):=by simp[qal,he];omega
  have hlt2:(i:Int)<((qam ps).length:Int):=by simp[qap,he2];omega
  have hlb:i≤1000000:=by rw[he] at hl;simp at hl;omega
  have hd:decide ((i:Int)<((qaj ks).length:Int))=true:=decide_eq_true hlt
  have hg:(qaj ks).getD (i:Int).toNat .undef=.agg [.int .i64 a,.list (qaj bs)]:=by rw[Int.toNat_natCast,he,←hn];exact qbC _ (.mk a bs) _
  have hg2:(qam ps).getD (i:Int).toNat .undef=.agg [.int .i64 tk,.int .i64 tsz,.list (qad trs),.list (qam tps)]:=by rw[Int.toNat_natCast,he2,←hn2];exact qeR _ (.mk tk tsz trs tps) _
  have hw:IntKind.wrap .i64 ((i:Int)+1)=(i:Int)+1:=wrap64 (by omega) (by omega)
  have hz:qd2 (.mk tk tsz trs tps::ts) (.mk a bs::rest)=(ofV (.mk tk tsz trs tps) (.mk a bs)&&qd2 ts rest):=by rw[qd2]
  have fX:=(cJ4 @hd @hg @hg2 @hw)
  refine qaa qjx.eq_1 ?_
  refine W_gc ?_
  refine wR0 1000 [2,46,47,48,49] fX ?_
  refine wT @hd ?_
  refine wR0 1100 [2,5,6,46,47,48] fX ?_
  refine wRn 1200 [2,46,47,48,60] fX ?_
  refine rC fX ?_
  refine⟨_,hk (.mk tk tsz trs tps) (List.mem_cons_self ..) (.mk a bs) (List.mem_cons_self ..),rE fX ?_⟩
  refine wS cJ0 (fun hc1200=>?_) (fun hc1200=>?_)
  ·skip
   refine wR0 1300 [4] fX ?_
   refine wE ?_
   refine wN ?_
   exact hQ1 (by rw[hz];simp at hc1200;simp[hc1200]) _
  ·skip
   refine wR0 1400 [2,46,47,48] fX ?_
   refine wN ?_
   refine qay [0,1] (by simp[inL]) (by simp[inL,T.cl]) (by simp[qaf,inL,Slot.cl,T.cl,clL]) ?_
   simp at hc1200
   rw[hz,hc1200,Bool.true_and] at hQ0 hQ1
   have:=ih (pre++[.mk a bs]) ts (us++[.mk tk tsz trs tps]) (i+1) (by simp[he]) (by simp[he2]) (by simp;omega) (by simp;omega) (by simpa using hlr) (fun t ht v hv=>hk t (List.mem_cons_of_mem _ ht) v (List.mem_cons_of_mem _ hv)) hQ0 hQ1
   simpa [qaf,inL] using this
theorem le12 (x:Int):(!decide (x > 12))=decide (x≤12):=by
 rw[Bool.eq_iff_iff];simp
set_option maxHeartbeats 4000000 in
theorem qm0:∀(t:Ty) (v:V) (d:Int),t.fit→v.fit→qaM t d=true→TP Tryz.prog 169 [qaz t,encV v] (.bool (ofV t v))
 | .mk k s rs ps,.mk n ks,d,ht,hv,hval=>by
  obtain⟨hf1,hf2,hf3⟩:=Ty.fit_all ht
  have hv':=V.fit_kids hv
  simp only[V.kids] at hv'
  have hcf:=qek 213 [.ptr [.int .i64 k,.int .i64 s,.list (qad rs),.list (qam ps)]] (by simp[clL,T.cl]) (fun x=>!qhN x s) ks hv'.1 (fun x hx=>qum k s rs ps x)
  have e3:k≠1→k≠2→k=3→ofV (.mk k s rs ps) (.mk n ks)=((n==0)&&((ks.length:Int)==ps.length)&&qd2 ps ks):=fun k1 k2 k3=>by simp only[ofV,if_neg k1,if_neg k2,if_neg (show ¬k=6 by omega),if_pos k3,V.n,V.kids]
  have e0:k≠1→k≠2→k≠6→k≠3→ofV (.mk k s rs ps) (.mk n ks)=((n==0)&&decide ((ks.length:Int)≤12)&&(if k=7 then !ks.any (qce s) else qgG ps ks&&(!(k==5) || qbW ks))):=fun k1 k2 k6 k3=>by rw[←le12];simp only[ofV,if_neg k1,if_neg k2,if_neg k6,if_neg k3,V.n,V.kids];rfl
  have tk:∀(c:Int),(k==c)=true→k=c:=fun c h=>by simpa using h
  have fk:∀(c:Int),(k==c)=false→k≠c:=fun c h=>by simpa using h
  refine qag fn169 (by simp) ?_
  unfold i169
  simp only[argL,encV,qaz]
  refine wR0 0 [2,3] cJ0 ?_
  refine wR0 100 [2,3,8] cJ0 ?_
  refine wR0 200 [2,3,8,9] cJ0 ?_
  refine wS cJ0 (fun hc200=>?_) (fun hc200=>?_)
  ·skip
   refine wR0 300 [4] cJ0 ?_
   refine wP ?_
   exact qac (by simp only[ofV,if_pos (tk _ hc200),V.n,V.kids,qal];rfl)
  ·skip
   refine wR0 400 [2,3,8,25] cJ0 ?_
   refine wS cJ0 (fun hc400=>?_) (fun hc400=>?_)
   ·skip
    refine wRn 500 [4] cJ0 ?_
    refine rC cJ0 ?_
    refine⟨_,qmP (.mk n ks) s,rE cJ0 ?_⟩
    refine wP ?_
    exact qac (by simp only[ofV,if_neg (fk _ hc200),if_pos (tk _ hc400),qhN,V.n,V.kids])
   ·skip
    refine wR0 600 [2,3,8,31] cJ0 ?_
    refine wS cJ0 (fun hc600=>?_) (fun hc600=>?_)
    ·skip
     refine wR0 700 [2,3,44] cJ0 ?_
     refine wS cJ0 (fun hc700=>?_) (fun hc700=>?_)
     ·skip
      refine wR0 800 [4] cJ0 ?_
      refine wP ?_
      exact qac (by simp only[qap,qal,bne] at hc700;rw[e3 (fk _ hc200) (fk _ hc400) (tk _ hc600)];revert hc700;cases (n==0)<;>cases ((ks.length:Int)==ps.length)<;>simp)
     ·skip
      refine wR0 900 [2,46,47,48] cJ0 ?_
      simp only[thn]
      have hc7:n=0∧(ks.length:Int)=ps.length:=(by simpa [qap,qal] using hc700)
      have k3:=tk _ hc600
      have hvp:=qiZ (by rw[k3] at hval;exact hval)
      refine wL ?_
      refine qsn k s n rs ps ks hv'.1 _ ks [] ps [] 0 rfl rfl rfl rfl (by omega) (fun t hk u hu=>qm0 t u (d - 1) (hf3 t hk) (hv'.2 u hu) (qeJ hvp.1 t hk)) ?_ ?_
      ·intro h i
       refine wN ?_
       refine wR0 1500 [4] cJ0 ?_
       refine wP ?_
       exact qac (by rw[e3 (fk _ hc200) (fk _ hc400) k3,h];simp[hc7])
      ·intro h l
       refine wN ?_
       exact⟨by simp,_,rfl,by exact qac (by rw[e3 (fk _ hc200) (fk _ hc400) k3,h];simp[hc7])⟩
    ·skip
     refine wR0 1600 [2,3,8,62] cJ0 ?_
     refine wS cJ0 (fun hc1600=>?_) (fun hc1600=>?_)
     ·skip
      refine wN ?_
      obtain⟨p,hp,hvp⟩:=qgw (.inl (tk _ hc1600)) hval
      rcases p with⟨pk,psz,prs,pps⟩
      have hg2:(qam ps).getD (0:Int).toNat .undef=.agg [.int .i64 pk,.int .i64 psz,.list (qad prs),.list (qam pps)]:=(by rw[hp];rfl)
      have hlt2:(0:Int)<((qam ps).length:Int):=(by simp[qap,hp])
      have hk:Ty.mk pk psz prs pps∈ps:=(by simp[hp])
      refine wRn 1700 [4] @hg2 ?_
      refine rC @hg2 ?_
      refine⟨_,qpE (.mk n ks) (.mk pk psz prs pps) hv (fun x hx=>qm0 _ x (d - 1) (hf3 _ hk) (hv'.2 x hx) hvp),rE @hg2 ?_⟩
      refine wP ?_
      exact qac (by rw[e0 (fk _ hc200) (fk _ hc400) (by have:=tk _ hc1600;omega) (fk _ hc600),if_neg (by have:=tk _ hc1600;omega)];simp[qsf,qgG,V.n,V.kids,tk _ hc1600,hp];rfl)
     ·skip
      refine wR0 1800 [2,3,8,70] cJ0 ?_
      refine wS cJ0 (fun hc1800=>?_) (fun hc1800=>?_)
      ·skip
       refine wN ?_
       obtain⟨p,hp,hvp⟩:=qgw (.inr (tk _ hc1800)) hval
       rcases p with⟨pk,psz,prs,pps⟩
       have hg2:(qam ps).getD (0:Int).toNat .undef=.agg [.int .i64 pk,.int .i64 psz,.list (qad prs),.list (qam pps)]:=(by rw[hp];rfl)
       have hlt2:(0:Int)<((qam ps).length:Int):=(by simp[qap,hp])
       have hk:Ty.mk pk psz prs pps∈ps:=(by simp[hp])
       refine wRn 1900 [4] @hg2 ?_
       refine rC @hg2 ?_
       refine⟨_,qpE (.mk n ks) (.mk pk psz prs pps) hv (fun x hx=>qm0 _ x (d - 1) (hf3 _ hk) (hv'.2 x hx) hvp),rN @hg2 ?_⟩
       refine rCi @hg2 ?_
       refine⟨_,fun hw=>qly 46 ks hv'.1 (fun a ha b hb=>qlF a b (hv'.2 a ha) (hv'.2 b hb)),rE @hg2 ?_⟩
       refine wP ?_
       exact qac (by rw[e0 (fk _ hc200) (fk _ hc400) (by have:=tk _ hc1800;omega) (fk _ hc600),if_neg (by have:=tk _ hc1800;omega)];simp[qsf,qgG,V.n,V.kids,tk _ hc1800,hp,Bool.and_assoc];rfl)
      ·skip
       refine wR0 2000 [2,3,83] cJ0 ?_
       refine wS cJ0 (fun hc2000=>?_) (fun hc2000=>?_)
       ·skip
        refine wRn 2100 [4] cJ0 ?_
        refine rC cJ0 ?_
        refine⟨_,qja (.mk n ks) 12 hv (by omega) (by omega),rN cJ0 ?_⟩
        refine rCi cJ0 ?_
        refine⟨_,fun hw=>qtE (.mk n ks) s hv,rE cJ0 ?_⟩
        refine wP ?_
        exact qac (by rw[qq5];simp only[ofV,if_neg (fk _ hc200),if_neg (fk _ hc400),if_pos (tk _ hc2000)])
       ·skip
        refine wRn 2200 [4] cJ0 ?_
        refine rLi [(0,.live ⟨45,[.int .i64 k,.int .i64 s,.list (qad rs),.list (qam ps)]⟩)] cJ0 ?_
        refine⟨_,_,fun hw=>hcf,fZl,rfl,rE cJ0 ?_⟩
        refine wP ?_
        exact qac (by have k7:=((qiY hval (fk _ hc200) (fk _ hc400) (fk _ hc2000) (fk _ hc600)).resolve_right (fun h=>h.elim (fk _ hc1600) (fk _ hc1800)));rw[e0 (fk _ hc200) (fk _ hc400) (fk _ hc2000) (fk _ hc600),if_pos k7];simp[qnV,qal,Bool.and_assoc])
termination_by t=>SizeOf.sizeOf t
decreasing_by all_goals exact qkb hk k s rs
end
end Go.Proofs.YtkbjpglehdhjfaaGreatDoor
