/- Contracts of functions of the program, for all arguments that they name. -/
import Derived.Test.YtncpdpbpcnoeeaaGreatK02
import Derived.Test.YtncpdpbpcnoeeaaGreatK05
namespace Go.Proofs.YtncpdpbpcnoeeaaGreat
set_option linter.unusedVariables false
section
open Go.RowKit
set_option maxHeartbeats 2000000
mutual
def tagV (n:Int):V→Bool
 | .mk a ks=>(decide (a≥0)&&decide (a<n))&&tagL n ks
def tagL (n:Int):List V→Bool
 | []=>true
 | k::ks=>tagV n k&&tagL n ks
end
mutual
theorem qnb (n:Int):∀v,tagV n v=qjP n v
 | .mk a ks=>by rw[tagV,qjP,qna n ks,Bool.and_comm]
theorem qna (n:Int):∀ks,tagL n ks=qjO n ks
 | []=>rfl
 | k::ks=>by rw[tagL,qjO,qnb n k,qna n ks]
end
theorem qke (n:Int):∀ks:List V,(!ks.any fun k=>!tagV n k)=tagL n ks
 | []=>rfl
 | k::ks=>by rw[tagL,←qke n ks];simp
theorem qgE {H:Heap}{id ty n:Nat}{f:FuncId}{cs:List T}(hb:H id=.live ⟨ty,cs⟩)(hn:n=cs.length)(h1:Ones cs)(hc:clL (fun _=>false) cs=true):Frz H (.fn f [.ref id n 0]) (.fn f [.ptr cs]):=by
 subst hn
 refine Frz.fn rfl fun i hi=>?_
 cases i with
 | zero=>
  refine Frz.ref hb rfl (by simp) h1 fun k hk=>?_
  rw[Nat.zero_add]
  exact .same (qaP hc k)
 | succ i=>simp at hi
theorem qqI (n:Int)(v:V)(h:TP Tryz.prog 205 [encV v,.int .i64 n] (.bool (tagV n v))):TP Tryz.prog 213 [encV v,.ptr [.int .i64 n]] (.bool (!tagV n v)):=by
 rcases v with⟨a,ks⟩
 refine qai fn213 (by simp) ?_
 unfold i213
 simp only[argL,encV]
 refine wN ?_
 refine wR0 0 [1,2] cJ0 ?_
 refine wN ?_
 refine wRn 100 [3] cJ0 ?_
 refine rC cJ0 ?_
 refine⟨_,h,rE cJ0 ?_⟩
 refine wN ?_
 refine qbr ?_
 (try simp only)
 exact⟨by simp,_,rfl,by exact .same rfl⟩
theorem qpb:∀(v:V) (n:Int),v.fit→TP Tryz.prog 205 [encV v,.int .i64 n] (.bool (tagV n v))
 | .mk a ks,n,hv=>by
  have hv':=V.fit_kids hv
  simp only[V.kids] at hv'
  have hk1:=qcZ 213 [.ptr [.int .i64 n]] rfl (fun k=>!tagV n k) ks hv'.1 (fun k hk=>qqI n k (qpb k n (hv'.2 k hk)))
  refine qai fn205 (by simp) ?_
  unfold i205
  simp only[argL,encV]
  refine wN ?_
  refine wR0 0 [2,3] cJ0 ?_
  refine wN ?_
  rcases hall:(decide (a≥0)&&decide (a<n)) with _ | _
  ·refine wR0 100 [4] @hall ?_
   refine wN ?_
   refine qbr ?_
   (try simp only)
   exact⟨by simp,_,rfl,by exact qad (by rw[tagV,hall,Bool.false_and])⟩
  ·apply W_r 100 [4] (by rfl)
   ·refine rN @hall ?_
    apply qc5 [(1,.live ⟨3,[.int .i64 n]⟩)]
    ·first | rfl | exact eV @hall
    ·exact eV cJ0
    ·exact qdi rfl (by simp) (by simp[Slot.cl,clL,T.cl])
    ·exact FrzL.cons (.same (qaz _ ks)) (FrzL.cons (qgE (cs:=[.int .i64 n]) rfl rfl (fun c hc=>by rw[List.mem_singleton] at hc;subst hc;rfl) rfl) FrzL.nil)
    ·exact hk1
    ·rfl
    ·simp[clL,T.cl]
    refine rN @hall ?_
    exact rFi
   ·exact eV @hall
   simp only[thn]
   refine qbr ?_
   (try simp only)
   exact⟨by simp,_,rfl,by exact qad (by rw[tagV,hall,Bool.true_and,←qke])⟩
termination_by v=>SizeOf.sizeOf v
decreasing_by exact qgS hk a
end
section
open Go.RowKit
theorem qjS (a b:Int):ordI b a = - ordI a b:=by
 unfold ordI;split<;>split<;>(try split)<;>omega
mutual
theorem qb9:∀(a b:V),cmpV b a = - cmpV a b
 | .mk a ks,.mk b ls=>by
  simp only[cmpV]
  by_cases h1:a=b
  ·subst h1
   by_cases h2:ks.length=ls.length
   ·simp only[ne_eq,not_true_eq_false,if_false,h2];exact qjf ks ls
   ·have h2':¬ls.length=ks.length:=fun h=>h2 h.symm
    simp only[ne_eq,not_true_eq_false,if_false,h2,h2',not_false_eq_true,if_true];exact qjS _ _
  ·have h1':¬b=a:=fun h=>h1 h.symm
   simp only[ne_eq,h1,h1',not_false_eq_true,if_true];exact qjS _ _
theorem qjf:∀(ks ls:List V),cmpL ls ks = - cmpL ks ls
 | [],[]=>rfl
 | [],_::_=>rfl
 | _::_,[]=>rfl
 | k::ks,l::ls=>by
  have h:=qb9 k l
  simp only[cmpL]
  by_cases h0:cmpV k l=0
  ·rw[if_neg (by omega),if_neg (by omega)];exact qjf ks ls
  ·rw[if_pos (by omega),if_pos h0];exact h
end
theorem qkk (a b:V):decide (cmpV b a<0)=decide (cmpV a b > 0):=by
 rw[qb9 a b];by_cases h:cmpV a b > 0
 ·rw[decide_eq_true h,decide_eq_true (by omega)]
 ·rw[decide_eq_false h,decide_eq_false (by omega)]
theorem qeA:∀(l:List V) (a b:V),qb3 (l++[a,b])=(qb3 (l++[a])&&!decide (cmpV a b > 0))
 | [],a,b=>by simp[qb3]
 | [x],a,b=>by simp[qb3]
 | x::y::l,a,b=>by
  have h:=qeA (y::l) a b
  simp only[List.cons_append,qb3] at h ⊢
  rw[h,Bool.and_assoc]
end
section
open Go.RowKit
set_option maxHeartbeats 2000000
def qfT (x:V):List V→Bool
 | []=>true
 | y::ys=>!decide (cmpV x y<0)&&qfT y ys
theorem qj0:∀(ys:List V) (x:V),qfT x ys=qb3 ((x::ys).reverse)
 | [],x=>rfl
 | y::ys,x=>by
  rw[List.reverse_cons,List.reverse_cons,List.append_assoc,List.singleton_append,qeA,←List.reverse_cons,←qj0 ys y,qfT,qkk y x,Bool.and_comm]
theorem qgR (f:FuncId)(xs:List V)(hl:xs.length≤1000000)(hk:∀k∈xs,∀l∈xs,TP Tryz.prog f [encV k,encV l] (.int .i64 (cmpV k l)))(Q:IExit→(Nat→T)→Heap→Prop):∀(ys:List V) (x:V) (zs:List V) (i:Nat),xs=ys.reverse++x::zs→ys.length=i→
 (qfT x ys=true→∀i:Int,Q (.exit 0) (ofL [(0,.list (qaj xs)),(1,.fn f []),(5,.int .i64 i),(10,.bool false)]) (hpL []))→
 (qfT x ys=false→Q .ret (ofL [(4,.bool false)]) (hpL []))→
 WL Tryz.prog 25 qfn (ofL [(0,.list (qaj xs)),(1,.fn f []),(5,.int .i64 i)]) (hpL []) Q:=by
 intro ys
 induction ys with
 | nil=>
  intro x zs i he hi hQ0 hQ1
  have hd:decide ((i:Int) > 0)=false:=decide_eq_false (by simp at hi;omega)
  refine qaa qfn.eq_1 ?_
  refine wN ?_
  refine wR0 200 [0,1,5,10] @hd ?_
  refine wN ?_
  refine qaL (eV cJ0) ?_
  simp only[Bool.false_eq_true,if_false]
  refine wN ?_
  refine qeu ?_
  (try simp only[thn])
  exact hQ0 rfl _
 | cons y ys ih=>
  intro x zs i he hi hQ0 hQ1
  rcases x with⟨a,bs⟩
  rcases y with⟨b,cs⟩
  simp only[List.length_cons] at hi
  obtain⟨m,rfl⟩:∃m,i=m+1:=⟨ys.length,by omega⟩
  have hm:ys.reverse.length=m:=by simp;omega
  have he1:xs=ys.reverse++V.mk b cs::V.mk a bs::zs:=by rw[he];simp
  have he2:xs=(ys.reverse++[V.mk b cs])++V.mk a bs::zs:=by rw[he];simp
  have hxl:((qaj xs).length:Int)=m+2+zs.length:=by rw[qat,he1];simp at hm ⊢;omega
  have hlb:m+2≤1000000:=by rw[qat] at hxl;omega
  have hlt:((m+1:Nat):Int)<((qaj xs).length:Int):=by omega
  have hlt2:(m:Int)<((qaj xs).length:Int):=by omega
  have hd:decide (((m+1:Nat):Int) > 0)=true:=decide_eq_true (by omega)
  have hw3:IntKind.wrap .i64 (((m+1:Nat):Int) - 1)=(m:Int):=by rw[wrap64 (by omega) (by omega)];omega
  have hg1:(qaj xs).getD (((m+1:Nat):Int)).toNat .undef=.agg [.int .i64 a,.list (qaj bs)]:=by
   have h:=qbT (ys.reverse++[V.mk b cs]) (V.mk a bs) zs
   rw[←he2] at h
   rw[Int.toNat_natCast,show m+1=(ys.reverse++[V.mk b cs]).length by simp at hm ⊢;omega];exact h
  have hg2:(qaj xs).getD (m:Int).toNat .undef=.agg [.int .i64 b,.list (qaj cs)]:=by
   have h:=qbT ys.reverse (V.mk b cs) (V.mk a bs::zs)
   rw[←he1] at h
   rw[Int.toNat_natCast,←hm];exact h
  have hc1:=hk (V.mk a bs) (by rw[he1];simp) (V.mk b cs) (by rw[he1];simp)
  refine qaa qfn.eq_1 ?_
  refine wN ?_
  refine wR0 200 [0,1,5,10] @hd ?_
  refine wN ?_
  refine qaL (eV cJ0) ?_
  simp only[if_true]
  refine wN ?_
  apply W_r 300 [0,1,5,24] (by rfl)
  ·refine rN (cJ3 @hg1 @hg2 @hw3) ?_
   apply qdl
   ·rfl
   ·exact eV cJ0
   ·exact eV cJ0
   ·exact hc1
   ·exact fRo
   refine rN cJ0 ?_
   exact rFi
  ·exact eV cJ0
  simp only[thn]
  rcases hc:decide (cmpV (V.mk a bs) (V.mk b cs)<0) with _ | _
  ·refine qaL (eV cJ0) ?_
   simp only[Bool.false_eq_true,if_false]
   refine wN ?_
   refine wR0 500 [0,1,5] @hw3 ?_
   refine wN ?_
   have e:qfT (V.mk a bs) (V.mk b cs::ys)=qfT (V.mk b cs) ys:=by rw[qfT,hc];rfl
   rw[e] at hQ0 hQ1
   exact ih (V.mk b cs) (V.mk a bs::zs) m he1 (by simpa using hm) hQ0 hQ1
  ·refine qaL (eV cJ0) ?_
   simp only[if_true]
   refine wN ?_
   refine wR0 400 [4] cJ0 ?_
   refine wN ?_
   refine qbr ?_
   (try simp only[thn,inB])
   exact hQ1 (by rw[qfT,hc];rfl)
theorem qiE (f:FuncId)(xs:List V)(hl:xs.length≤1000000)(hk:∀k∈xs,∀l∈xs,TP Tryz.prog f [encV k,encV l] (.int .i64 (cmpV k l))):TP Tryz.prog 203 [.list (qaj xs),.fn f []] (.bool (qb3 xs)):=by
 have hw:IntKind.wrap .i64 (((qaj xs).length:Int) - 1)=((qaj xs).length:Int) - 1:=wrap64 (by omega) (by rw[qat];omega)
 refine qai fn203 (by simp) ?_
 unfold i203
 simp only[argL]
 refine wN ?_
 refine wR0 0 [0,1] cJ0 ?_
 refine wN ?_
 refine wR0 100 [0,1,5] @hw ?_
 refine wN ?_
 refine qfV ?_
 rcases List.eq_nil_or_concat xs with h | ⟨ini,x,h⟩
 ·subst h
  have hd:decide (((qaj []).length:Int) - 1 > 0)=false:=rfl
  refine qaa qfn.eq_1 ?_
  refine wN ?_
  refine wR0 200 [0,1,5,10] @hd ?_
  refine wN ?_
  refine qaL (eV cJ0) ?_
  simp only[Bool.false_eq_true,if_false]
  refine wN ?_
  refine qeu ?_
  (try simp only[thn,inB,if_true])
  refine wR0 600 [4] cJ0 ?_
  refine wN ?_
  refine qbr ?_
  (try simp only)
  exact⟨by simp,_,rfl,by exact qad rfl⟩
 ·have hi:((qaj xs).length:Int) - 1=((ini.length:Nat):Int):=by rw[qat,h];simp
  have hr:qfT x ini.reverse=qb3 xs:=by rw[qj0,h];simp
  rw[hi]
  refine qgR f xs hl hk _ ini.reverse x [] ini.length (by rw[h];simp) (by simp) ?_ ?_
  ·intro h1 i
   simp only[inB,if_true,thn]
   refine wR0 600 [4] cJ0 ?_
   refine wN ?_
   refine qbr ?_
   (try simp only)
   exact⟨by simp,_,rfl,by exact qad (by rw[←hr,h1])⟩
  ·intro h1
   simp only[inB,thn]
   exact⟨by simp,_,rfl,qad (by rw[←hr,h1])⟩
theorem qn0 (k s:Int)(rs:List Int)(ps:List Ty)(v:V)(b:Bool)(h:TP Tryz.prog 188 [qaw (.mk k s rs ps),encV v] (.bool b)):TP Tryz.prog 211 [encV v,.ptr [.int .i64 k,.int .i64 s,.list (qab rs),.list (qal ps)]] (.bool (!b)):=by
 rcases v with⟨a,ks⟩
 refine qai fn211 (by simp) ?_
 unfold i211
 simp only[argL,encV]
 refine wN ?_
 refine wR0 0 [1,2] cJ0 ?_
 refine wN ?_
 refine wRn 100 [3] cJ0 ?_
 refine rC cJ0 ?_
 refine⟨_,h,rE cJ0 ?_⟩
 refine wN ?_
 refine qbr ?_
 (try simp only)
 exact⟨by simp,_,rfl,by exact .same rfl⟩
def qn1 (t:Ty)(v:V):Bool:=(v.n==0)&&decide ((v.kids.length:Int)≤12)&&v.kids.all fun x=>ofV t x
theorem qmc (v:V)(t:Ty)(hv:v.fit)(hk:∀x∈v.kids,TP Tryz.prog 188 [qaw t,encV x] (.bool (ofV t x))):TP Tryz.prog 202 [encV v,qaw t] (.bool (qn1 t v)):=by
 have hv':=V.fit_kids hv
 rcases v with⟨n,ks⟩
 rcases t with⟨k,s,rs,ps⟩
 simp only[V.kids] at hv' hk
 have ha:(!ks.any fun x=>!ofV (.mk k s rs ps) x)=ks.all fun x=>ofV (.mk k s rs ps) x:=by rw[List.all_eq_not_any_not]
 have hk1:=qcZ 211 [.ptr [.int .i64 k,.int .i64 s,.list (qab rs),.list (qal ps)]] (by simp[clL,T.cl]) (fun x=>!ofV (.mk k s rs ps) x) ks hv'.1 (fun x hx=>qn0 k s rs ps x _ (hk x hx))
 have e2:∀c:Bool,((n==0)&&decide (((qaj ks).length:Int)≤12))=c→qn1 (.mk k s rs ps) (.mk n ks)=(c&&ks.all fun x=>ofV (.mk k s rs ps) x):=by
  intro c hc;rw[qat] at hc;rw[←hc];rfl
 refine qai fn202 (by simp) ?_
 unfold i202
 simp only[argL,encV,qaw]
 refine wN ?_
 refine wR0 0 [2,3] cJ0 ?_
 refine wN ?_
 rcases hall:((n==0)&&decide (((qaj ks).length:Int)≤12)) with _ | _
 ·refine wR0 100 [4] @hall ?_
  refine wN ?_
  refine qbr ?_
  (try simp only)
  exact⟨by simp,_,rfl,by exact qad (by rw[e2 _ hall,Bool.false_and])⟩
 ·apply W_r 100 [4] (by rfl)
  ·refine rN @hall ?_
   apply qc5 [(1,.live ⟨107,[.int .i64 k,.int .i64 s,.list (qab rs),.list (qal ps)]⟩)]
   ·first | rfl | exact eV @hall
   ·exact eV cJ0
   ·exact qdi rfl (by simp) (by simp[Slot.cl,clL,T.cl])
   ·exact FrzL.cons (.same (qaz _ ks)) (FrzL.cons (qgE (cs:=[.int .i64 k,.int .i64 s,.list (qab rs),.list (qal ps)]) rfl rfl (fun c hc=>by simp only[List.mem_cons,List.not_mem_nil,or_false] at hc;rcases hc with rfl | rfl | rfl | rfl<;>rfl) (by simp[clL,T.cl])) FrzL.nil)
   ·exact hk1
   ·rfl
   ·simp[clL,T.cl]
   refine rN @hall ?_
   exact rFi
  ·exact eV @hall
  simp only[thn]
  refine qbr ?_
  (try simp only)
  exact⟨by simp,_,rfl,by exact qad (by rw[e2 _ hall,Bool.true_and];exact ha)⟩
theorem qqc (k s:Int)(rs:List Int)(ps:List Ty)(v:V):TP Tryz.prog 207 [encV v,.ptr [.int .i64 k,.int .i64 s,.list (qab rs),.list (qal ps)]] (.bool (!qfu v s)):=by
 rcases v with⟨a,ks⟩
 refine qai fn207 (by simp) ?_
 unfold i207
 simp only[argL,encV]
 refine wN ?_
 refine wR0 0 [1,2] cJ0 ?_
 refine wN ?_
 refine wRn 100 [3] cJ0 ?_
 refine rC cJ0 ?_
 refine⟨_,qjG (.mk a ks) s,rE cJ0 ?_⟩
 refine wN ?_
 refine qbr ?_
 (try simp only)
 exact⟨by simp,_,rfl,by exact .same rfl⟩
theorem qky (v:V)(s:Int):(!qfu v s)=qdJ s v:=by
 rw[Bool.eq_iff_iff]
 simp only[qfu,qdJ,Bool.not_eq_true',Bool.and_eq_false_iff,Bool.or_eq_true,decide_eq_true_eq,decide_eq_false_iff_not,beq_eq_false_iff_ne,ne_eq]
 omega
theorem qn8 (k s N:Int)(rs:List Int)(ps:List Ty)(ks:List V)(hl:ks.length≤1000000)(Q:IExit→(Nat→T)→Heap→Prop):∀(rest pre:List V) (ts us:List Ty) (i:Nat),ks=pre++rest→ps=us++ts→pre.length=i→us.length=i→rest.length=ts.length→
 (∀t∈ts,∀v∈rest,TP Tryz.prog 188 [qaw t,encV v] (.bool (ofV t v)))→
 (qfR ts rest=true→∀i:Int,Q (.exit 1) (ofL [(2,.ref 0 4 0),(46,.list (qaj ks)),(47,.int .i64 (qaj ks).length),(48,.int .i64 i),(49,.bool false)]) (hpL [(0,.live ⟨107,[.int .i64 k,.int .i64 s,.list (qab rs),.list (qal ps)]⟩),(1,.live ⟨31,[.int .i64 N,.list (qaj ks)]⟩)]))→
 (qfR ts rest=false→∀l,Q .ret (ofL [(4,.bool false)]) (hpL l))→
 WL Tryz.prog 110 qgL (ofL [(2,.ref 0 4 0),(46,.list (qaj ks)),(47,.int .i64 (qaj ks).length),(48,.int .i64 i)]) (hpL [(0,.live ⟨107,[.int .i64 k,.int .i64 s,.list (qab rs),.list (qal ps)]⟩),(1,.live ⟨31,[.int .i64 N,.list (qaj ks)]⟩)]) Q:=by
 intro rest
 induction rest with
 | nil=>
  intro pre ts us i he he2 hn hn2 hlr hk hQ0 hQ1
  have hd:decide ((i:Int)<((qaj ks).length:Int))=false:=by simp[qat,he,hn]
  have hts:ts=[]:=List.eq_nil_of_length_eq_zero hlr.symm
  subst hts
  have fX:=@hd
  refine qaa qgL.eq_1 ?_
  refine wR0 1000 [2,46,47,48,49] fX ?_
  refine wF @hd ?_
  refine wX ?_
  refine wN ?_
  exact hQ0 rfl _
 | cons v rest ih=>
  intro pre ts us i he he2 hn hn2 hlr hk hQ0 hQ1
  cases ts with
  | nil=>simp at hlr
  | cons t ts=>
  rcases v with⟨a,bs⟩
  rcases t with⟨tk,tsz,trs,tps⟩
  have hlt:(i:Int)<((qaj ks).length:Int):=by simp[qat,he];omega
  have hlt2:(i:Int)<((qal ps).length:Int):=by simp[qav,he2];omega
  have hlb:i≤1000000:=by rw[he] at hl;simp at hl;omega
  have hd:decide ((i:Int)<((qaj ks).length:Int))=true:=decide_eq_true hlt
  have hg:(qaj ks).getD (i:Int).toNat .undef=.agg [.int .i64 a,.list (qaj bs)]:=by rw[Int.toNat_natCast,he,←hn];exact qbT _ (.mk a bs) _
  have hg2:(qal ps).getD (i:Int).toNat .undef=.agg [.int .i64 tk,.int .i64 tsz,.list (qab trs),.list (qal tps)]:=by rw[Int.toNat_natCast,he2,←hn2];exact qf4 _ (.mk tk tsz trs tps) _
  have hw:IntKind.wrap .i64 ((i:Int)+1)=(i:Int)+1:=wrap64 (by omega) (by omega)
  have hz:qfR (.mk tk tsz trs tps::ts) (.mk a bs::rest)=(ofV (.mk tk tsz trs tps) (.mk a bs)&&qfR ts rest):=by rw[qfR]
  have fX:=(cJ4 @hd @hg @hg2 @hw)
  refine qaa qgL.eq_1 ?_
  refine W_gc ?_
  refine wR0 1000 [2,46,47,48,49] fX ?_
  refine wT @hd ?_
  refine wR0 1100 [2,5,6,46,47,48] fX ?_
  refine wRn 1200 [2,46,47,48,60] fX ?_
  refine rC fX ?_
  refine⟨_,hk (.mk tk tsz trs tps) (List.mem_cons_self ..) (.mk a bs) (List.mem_cons_self ..),rE fX ?_⟩
  refine wS cJ0 (fun hc1200=>?_) (fun hc1200=>?_)
  ·skip
   refine wR0 1300 [4] fX ?_
   refine wE ?_
   refine wN ?_
   exact hQ1 (by rw[hz];simp at hc1200;simp[hc1200]) _
  ·skip
   refine wR0 1400 [2,46,47,48] fX ?_
   refine wN ?_
   refine qaT [0,1] (by simp[inL]) (by simp[inL,T.cl]) (by simp[qak,inL,Slot.cl,T.cl,clL]) ?_
   simp at hc1200
   rw[hz,hc1200,Bool.true_and] at hQ0 hQ1
   have:=ih (pre++[.mk a bs]) ts (us++[.mk tk tsz trs tps]) (i+1) (by simp[he]) (by simp[he2]) (by simp;omega) (by simp;omega) (by simpa using hlr) (fun t ht v hv=>hk t (List.mem_cons_of_mem _ ht) v (List.mem_cons_of_mem _ hv)) hQ0 hQ1
   simpa [qak,inL] using this
theorem le12 (x:Int):(!decide (x > 12))=decide (x≤12):=by
 rw[Bool.eq_iff_iff];simp
set_option maxHeartbeats 4000000 in
theorem qjR:∀(t:Ty) (v:V) (d:Int),t.fit→v.fit→qaJ t d=true→TP Tryz.prog 188 [qaw t,encV v] (.bool (ofV t v))
 | .mk k s rs ps,.mk n ks,d,ht,hv,hval=>by
  obtain⟨hf1,hf2,hf3⟩:=Ty.fit_all ht
  have hv':=V.fit_kids hv
  simp only[V.kids] at hv'
  have hcf:=qcZ 207 [.ptr [.int .i64 k,.int .i64 s,.list (qab rs),.list (qal ps)]] (by simp[clL,T.cl]) (fun x=>!qfu x s) ks hv'.1 (fun x hx=>qqc k s rs ps x)
  have e3:k≠1→k≠2→k=3→ofV (.mk k s rs ps) (.mk n ks)=((n==0)&&((ks.length:Int)==ps.length)&&qfR ps ks):=fun k1 k2 k3=>by simp only[ofV,if_neg k1,if_neg k2,if_neg (show ¬k=6 by omega),if_pos k3,V.n,V.kids]
  have e0:k≠1→k≠2→k≠6→k≠3→ofV (.mk k s rs ps) (.mk n ks)=((n==0)&&decide ((ks.length:Int)≤12)&&(if k=7 then !ks.any (qdJ s) else qjQ ps ks&&(!(k==5) || qb3 ks))):=fun k1 k2 k6 k3=>by rw[←le12];simp only[ofV,if_neg k1,if_neg k2,if_neg k6,if_neg k3,V.n,V.kids];rfl
  have tk:∀(c:Int),(k==c)=true→k=c:=fun c h=>by simpa using h
  have fk:∀(c:Int),(k==c)=false→k≠c:=fun c h=>by simpa using h
  refine qai fn188 (by simp) ?_
  unfold i188
  simp only[argL,encV,qaw]
  refine wR0 0 [2,3] cJ0 ?_
  refine wR0 100 [2,3,8] cJ0 ?_
  refine wR0 200 [2,3,8,9] cJ0 ?_
  refine wS cJ0 (fun hc200=>?_) (fun hc200=>?_)
  ·skip
   refine wR0 300 [4] cJ0 ?_
   refine wP ?_
   exact qad (by simp only[ofV,if_pos (tk _ hc200),V.n,V.kids,qat];rfl)
  ·skip
   refine wR0 400 [2,3,8,25] cJ0 ?_
   refine wS cJ0 (fun hc400=>?_) (fun hc400=>?_)
   ·skip
    refine wRn 500 [4] cJ0 ?_
    refine rC cJ0 ?_
    refine⟨_,qjG (.mk n ks) s,rE cJ0 ?_⟩
    refine wP ?_
    exact qad (by simp only[ofV,if_neg (fk _ hc200),if_pos (tk _ hc400),qfu,V.n,V.kids])
   ·skip
    refine wR0 600 [2,3,8,31] cJ0 ?_
    refine wS cJ0 (fun hc600=>?_) (fun hc600=>?_)
    ·skip
     refine wR0 700 [2,3,44] cJ0 ?_
     refine wS cJ0 (fun hc700=>?_) (fun hc700=>?_)
     ·skip
      refine wR0 800 [4] cJ0 ?_
      refine wP ?_
      exact qad (by simp only[qav,qat,bne] at hc700;rw[e3 (fk _ hc200) (fk _ hc400) (tk _ hc600)];revert hc700;cases (n==0)<;>cases ((ks.length:Int)==ps.length)<;>simp)
     ·skip
      refine wR0 900 [2,46,47,48] cJ0 ?_
      simp only[thn]
      have hc7:n=0∧(ks.length:Int)=ps.length:=(by simpa [qav,qat] using hc700)
      have k3:=tk _ hc600
      have hvp:=qk8 (by rw[k3] at hval;exact hval)
      refine wL ?_
      refine qn8 k s n rs ps ks hv'.1 _ ks [] ps [] 0 rfl rfl rfl rfl (by omega) (fun t hk u hu=>qjR t u (d - 1) (hf3 t hk) (hv'.2 u hu) (qeC hvp.1 t hk)) ?_ ?_
      ·intro h i
       refine wN ?_
       refine wR0 1500 [4] cJ0 ?_
       refine wP ?_
       exact qad (by rw[e3 (fk _ hc200) (fk _ hc400) k3,h];simp[hc7])
      ·intro h l
       refine wN ?_
       exact⟨by simp,_,rfl,by exact qad (by rw[e3 (fk _ hc200) (fk _ hc400) k3,h];simp[hc7])⟩
    ·skip
     refine wR0 1600 [2,3,8,62] cJ0 ?_
     refine wS cJ0 (fun hc1600=>?_) (fun hc1600=>?_)
     ·skip
      refine wN ?_
      obtain⟨p,hp,hvp⟩:=qgo (.inl (tk _ hc1600)) hval
      rcases p with⟨pk,psz,prs,pps⟩
      have hg2:(qal ps).getD (0:Int).toNat .undef=.agg [.int .i64 pk,.int .i64 psz,.list (qab prs),.list (qal pps)]:=(by rw[hp];rfl)
      have hlt2:(0:Int)<((qal ps).length:Int):=(by simp[qav,hp])
      have hk:Ty.mk pk psz prs pps∈ps:=(by simp[hp])
      refine wRn 1700 [4] @hg2 ?_
      refine rC @hg2 ?_
      refine⟨_,qmc (.mk n ks) (.mk pk psz prs pps) hv (fun x hx=>qjR _ x (d - 1) (hf3 _ hk) (hv'.2 x hx) hvp),rE @hg2 ?_⟩
      refine wP ?_
      exact qad (by rw[e0 (fk _ hc200) (fk _ hc400) (by have:=tk _ hc1600;omega) (fk _ hc600),if_neg (by have:=tk _ hc1600;omega)];simp[qn1,qjQ,V.n,V.kids,tk _ hc1600,hp];rfl)
     ·skip
      refine wR0 1800 [2,3,8,70] cJ0 ?_
      refine wS cJ0 (fun hc1800=>?_) (fun hc1800=>?_)
      ·skip
       refine wN ?_
       obtain⟨p,hp,hvp⟩:=qgo (.inr (tk _ hc1800)) hval
       rcases p with⟨pk,psz,prs,pps⟩
       have hg2:(qal ps).getD (0:Int).toNat .undef=.agg [.int .i64 pk,.int .i64 psz,.list (qab prs),.list (qal pps)]:=(by rw[hp];rfl)
       have hlt2:(0:Int)<((qal ps).length:Int):=(by simp[qav,hp])
       have hk:Ty.mk pk psz prs pps∈ps:=(by simp[hp])
       refine wRn 1900 [4] @hg2 ?_
       refine rC @hg2 ?_
       refine⟨_,qmc (.mk n ks) (.mk pk psz prs pps) hv (fun x hx=>qjR _ x (d - 1) (hf3 _ hk) (hv'.2 x hx) hvp),rN @hg2 ?_⟩
       refine rCi @hg2 ?_
       refine⟨_,fun hw=>qiE 204 ks hv'.1 (fun a ha b hb=>qmk a b (hv'.2 a ha) (hv'.2 b hb)),rE @hg2 ?_⟩
       refine wP ?_
       exact qad (by rw[e0 (fk _ hc200) (fk _ hc400) (by have:=tk _ hc1800;omega) (fk _ hc600),if_neg (by have:=tk _ hc1800;omega)];simp[qn1,qjQ,V.n,V.kids,tk _ hc1800,hp,Bool.and_assoc];rfl)
      ·skip
       refine wR0 2000 [2,3,83] cJ0 ?_
       refine wS cJ0 (fun hc2000=>?_) (fun hc2000=>?_)
       ·skip
        refine wRn 2100 [4] cJ0 ?_
        refine rC cJ0 ?_
        refine⟨_,qgv (.mk n ks) 12 hv (by omega) (by omega),rN cJ0 ?_⟩
        refine rCi cJ0 ?_
        refine⟨_,fun hw=>qpb (.mk n ks) s hv,rE cJ0 ?_⟩
        refine wP ?_
        exact qad (by rw[qnb];simp only[ofV,if_neg (fk _ hc200),if_neg (fk _ hc400),if_pos (tk _ hc2000)])
       ·skip
        refine wRn 2200 [4] cJ0 ?_
        refine rLi [(0,.live ⟨107,[.int .i64 k,.int .i64 s,.list (qab rs),.list (qal ps)]⟩)] cJ0 ?_
        refine⟨_,_,fun hw=>hcf,fZl,rfl,rE cJ0 ?_⟩
        refine wP ?_
        exact qad (by have k7:=((qk7 hval (fk _ hc200) (fk _ hc400) (fk _ hc2000) (fk _ hc600)).resolve_right (fun h=>h.elim (fk _ hc1600) (fk _ hc1800)));rw[e0 (fk _ hc200) (fk _ hc400) (fk _ hc2000) (fk _ hc600),if_pos k7];simp[qky,qat,Bool.and_assoc])
termination_by t=>SizeOf.sizeOf t
decreasing_by all_goals exact qnf hk k s rs
end
end Go.Proofs.YtncpdpbpcnoeeaaGreat
