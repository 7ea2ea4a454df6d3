/- Contracts of functions of the program, for all arguments that they name. -/
import Derived.Test.YtoeeppojakbciaaGreatK02
import Derived.Test.YtoeeppojakbciaaGreatK08
namespace Go.Proofs.YtoeeppojakbciaaGreat
set_option linter.unusedVariables false
section
open Go.RowKit
set_option maxHeartbeats 2000000
def qhq (x:V):List V→Bool
 | []=>true
 | y::ys=>!decide (cmpV x y<0)&&qhq y ys
theorem qmt:∀(ys:List V) (x:V),qhq x ys=qbu ((x::ys).reverse)
 | [],x=>rfl
 | y::ys,x=>by
  rw[List.reverse_cons,List.reverse_cons,List.append_assoc,List.singleton_append,qfL,←List.reverse_cons,←qmt ys y,qhq,qmU y x,Bool.and_comm]
theorem qiL (f:FuncId)(xs:List V)(hl:xs.length≤1000000)(hk:∀k∈xs,∀l∈xs,TP Tryz.prog f [encV k,encV l] (.int .i64 (cmpV k l)))(Q:IExit→(Nat→T)→Heap→Prop):∀(ys:List V) (x:V) (zs:List V) (i:Nat),xs=ys.reverse++x::zs→ys.length=i→
 (qhq x ys=true→∀i:Int,Q (.exit 0) (ofL [(0,.list (qag xs)),(1,.fn f []),(5,.int .i64 i),(10,.bool false)]) (hpL []))→
 (qhq x ys=false→Q .ret (ofL [(4,.bool false)]) (hpL []))→
 WL Tryz.prog 25 qgL (ofL [(0,.list (qag xs)),(1,.fn f []),(5,.int .i64 i)]) (hpL []) Q:=by
 intro ys
 induction ys with
 | nil=>
  intro x zs i he hi hQ0 hQ1
  have hd:decide ((i:Int) > 0)=false:=decide_eq_false (by simp at hi;omega)
  refine qaa qgL.eq_1 ?_
  refine wN ?_
  refine wR0 200 [0,1,5,10] @hd ?_
  refine wN ?_
  refine qai (eV cJ0) ?_
  simp only[Bool.false_eq_true,if_false]
  refine wN ?_
  refine qb4 ?_
  (try simp only[thn])
  exact hQ0 rfl _
 | cons y ys ih=>
  intro x zs i he hi hQ0 hQ1
  rcases x with⟨a,bs⟩
  rcases y with⟨b,cs⟩
  simp only[List.length_cons] at hi
  obtain⟨m,rfl⟩:∃m,i=m+1:=⟨ys.length,by omega⟩
  have hm:ys.reverse.length=m:=by simp;omega
  have he1:xs=ys.reverse++V.mk b cs::V.mk a bs::zs:=by rw[he];simp
  have he2:xs=(ys.reverse++[V.mk b cs])++V.mk a bs::zs:=by rw[he];simp
  have hxl:((qag xs).length:Int)=m+2+zs.length:=by rw[qam,he1];simp at hm ⊢;omega
  have hlb:m+2≤1000000:=by rw[qam] at hxl;omega
  have hlt:((m+1:Nat):Int)<((qag xs).length:Int):=by omega
  have hlt2:(m:Int)<((qag xs).length:Int):=by omega
  have hd:decide (((m+1:Nat):Int) > 0)=true:=decide_eq_true (by omega)
  have hw3:IntKind.wrap .i64 (((m+1:Nat):Int) - 1)=(m:Int):=by rw[wrap64 (by omega) (by omega)];omega
  have hg1:(qag xs).getD (((m+1:Nat):Int)).toNat .undef=.agg [.int .i64 a,.list (qag bs)]:=by
   have h:=qba (ys.reverse++[V.mk b cs]) (V.mk a bs) zs
   rw[←he2] at h
   rw[Int.toNat_natCast,show m+1=(ys.reverse++[V.mk b cs]).length by simp at hm ⊢;omega];exact h
  have hg2:(qag xs).getD (m:Int).toNat .undef=.agg [.int .i64 b,.list (qag cs)]:=by
   have h:=qba ys.reverse (V.mk b cs) (V.mk a bs::zs)
   rw[←he1] at h
   rw[Int.toNat_natCast,←hm];exact h
  have hc1:=hk (V.mk a bs) (by rw[he1];simp) (V.mk b cs) (by rw[he1];simp)
  refine qaa qgL.eq_1 ?_
  refine wN ?_
  refine wR0 200 [0,1,5,10] @hd ?_
  refine wN ?_
  refine qai (eV cJ0) ?_
  simp only[if_true]
  refine wN ?_
  apply W_r 300 [0,1,5,24] (by rfl)
  ·refine rN (cJ3 @hg1 @hg2 @hw3) ?_
   apply qd9
   ·rfl
   ·exact eV cJ0
   ·exact eV cJ0
   ·exact hc1
   ·exact fRo
   refine rN cJ0 ?_
   exact rFi
  ·exact eV cJ0
  simp only[thn]
  rcases hc:decide (cmpV (V.mk a bs) (V.mk b cs)<0) with _ | _
  ·refine qai (eV cJ0) ?_
   simp only[Bool.false_eq_true,if_false]
   refine wN ?_
   refine wR0 500 [0,1,5] @hw3 ?_
   refine wN ?_
   have e:qhq (V.mk a bs) (V.mk b cs::ys)=qhq (V.mk b cs) ys:=by rw[qhq,hc];rfl
   rw[e] at hQ0 hQ1
   exact ih (V.mk b cs) (V.mk a bs::zs) m he1 (by simpa using hm) hQ0 hQ1
  ·refine qai (eV cJ0) ?_
   simp only[if_true]
   refine wN ?_
   refine wR0 400 [4] cJ0 ?_
   refine wN ?_
   refine qaL ?_
   (try simp only[thn,inB])
   exact hQ1 (by rw[qhq,hc];rfl)
theorem qkK (f:FuncId)(xs:List V)(hl:xs.length≤1000000)(hk:∀k∈xs,∀l∈xs,TP Tryz.prog f [encV k,encV l] (.int .i64 (cmpV k l))):TP Tryz.prog 202 [.list (qag xs),.fn f []] (.bool (qbu xs)):=by
 have hw:IntKind.wrap .i64 (((qag xs).length:Int) - 1)=((qag xs).length:Int) - 1:=wrap64 (by omega) (by rw[qam];omega)
 refine qah fn202 (by simp) ?_
 unfold i202
 simp only[argL]
 refine wN ?_
 refine wR0 0 [0,1] cJ0 ?_
 refine wN ?_
 refine wR0 100 [0,1,5] @hw ?_
 refine wN ?_
 refine qc1 ?_
 rcases List.eq_nil_or_concat xs with h | ⟨ini,x,h⟩
 ·subst h
  have hd:decide (((qag []).length:Int) - 1 > 0)=false:=rfl
  refine qaa qgL.eq_1 ?_
  refine wN ?_
  refine wR0 200 [0,1,5,10] @hd ?_
  refine wN ?_
  refine qai (eV cJ0) ?_
  simp only[Bool.false_eq_true,if_false]
  refine wN ?_
  refine qb4 ?_
  (try simp only[thn,inB,if_true])
  refine wR0 600 [4] cJ0 ?_
  refine wN ?_
  refine qaL ?_
  (try simp only)
  exact⟨by simp,_,rfl,by exact qab rfl⟩
 ·have hi:((qag xs).length:Int) - 1=((ini.length:Nat):Int):=by rw[qam,h];simp
  have hr:qhq x ini.reverse=qbu xs:=by rw[qmt,h];simp
  rw[hi]
  refine qiL f xs hl hk _ ini.reverse x [] ini.length (by rw[h];simp) (by simp) ?_ ?_
  ·intro h1 i
   simp only[inB,if_true,thn]
   refine wR0 600 [4] cJ0 ?_
   refine wN ?_
   refine qaL ?_
   (try simp only)
   exact⟨by simp,_,rfl,by exact qab (by rw[←hr,h1])⟩
  ·intro h1
   simp only[inB,thn]
   exact⟨by simp,_,rfl,qab (by rw[←hr,h1])⟩
theorem qq4 (k s:Int)(rs:List Int)(ps:List Ty)(v:V)(b:Bool)(h:TP Tryz.prog 187 [qax (.mk k s rs ps),encV v] (.bool b)):TP Tryz.prog 210 [encV v,.ptr [.int .i64 k,.int .i64 s,.list (qac rs),.list (qaj ps)]] (.bool (!b)):=by
 rcases v with⟨a,ks⟩
 refine qah fn210 (by simp) ?_
 unfold i210
 simp only[argL,encV]
 refine wN ?_
 refine wR0 0 [1,2] cJ0 ?_
 refine wN ?_
 refine wRn 100 [3] cJ0 ?_
 refine rC cJ0 ?_
 refine⟨_,h,rE cJ0 ?_⟩
 refine wN ?_
 refine qaL ?_
 (try simp only)
 exact⟨by simp,_,rfl,by exact .same rfl⟩
def qq6 (t:Ty)(v:V):Bool:=(v.n==0)&&decide ((v.kids.length:Int)≤12)&&v.kids.all fun x=>ofV t x
theorem qoY (v:V)(t:Ty)(hv:v.fit)(hk:∀x∈v.kids,TP Tryz.prog 187 [qax t,encV x] (.bool (ofV t x))):TP Tryz.prog 201 [encV v,qax t] (.bool (qq6 t v)):=by
 have hv':=V.fit_kids hv
 rcases v with⟨n,ks⟩
 rcases t with⟨k,s,rs,ps⟩
 simp only[V.kids] at hv' hk
 have ha:(!ks.any fun x=>!ofV (.mk k s rs ps) x)=ks.all fun x=>ofV (.mk k s rs ps) x:=by rw[List.all_eq_not_any_not]
 have hk1:=qdF 210 [.ptr [.int .i64 k,.int .i64 s,.list (qac rs),.list (qaj ps)]] (by simp[clL,T.cl]) (fun x=>!ofV (.mk k s rs ps) x) ks hv'.1 (fun x hx=>qq4 k s rs ps x _ (hk x hx))
 have e2:∀c:Bool,((n==0)&&decide (((qag ks).length:Int)≤12))=c→qq6 (.mk k s rs ps) (.mk n ks)=(c&&ks.all fun x=>ofV (.mk k s rs ps) x):=by
  intro c hc;rw[qam] at hc;rw[←hc];rfl
 refine qah fn201 (by simp) ?_
 unfold i201
 simp only[argL,encV,qax]
 refine wN ?_
 refine wR0 0 [2,3] cJ0 ?_
 refine wN ?_
 rcases hall:((n==0)&&decide (((qag ks).length:Int)≤12)) with _ | _
 ·refine wR0 100 [4] @hall ?_
  refine wN ?_
  refine qaL ?_
  (try simp only)
  exact⟨by simp,_,rfl,by exact qab (by rw[e2 _ hall,Bool.false_and])⟩
 ·apply W_r 100 [4] (by rfl)
  ·refine rN @hall ?_
   apply qdP [(1,.live ⟨107,[.int .i64 k,.int .i64 s,.list (qac rs),.list (qaj ps)]⟩)]
   ·first | rfl | exact eV @hall
   ·exact eV cJ0
   ·exact qd7 rfl (by simp) (by simp[Slot.cl,clL,T.cl])
   ·exact FrzL.cons (.same (qak _ ks)) (FrzL.cons (qik (cs:=[.int .i64 k,.int .i64 s,.list (qac rs),.list (qaj ps)]) rfl rfl (fun c hc=>by simp only[List.mem_cons,List.not_mem_nil,or_false] at hc;rcases hc with rfl | rfl | rfl | rfl<;>rfl) (by simp[clL,T.cl])) FrzL.nil)
   ·exact hk1
   ·rfl
   ·simp[clL,T.cl]
   refine rN @hall ?_
   exact rFi
  ·exact eV @hall
  simp only[thn]
  refine qaL ?_
  (try simp only)
  exact⟨by simp,_,rfl,by exact qab (by rw[e2 _ hall,Bool.true_and];exact ha)⟩
theorem qty (k s:Int)(rs:List Int)(ps:List Ty)(v:V):TP Tryz.prog 206 [encV v,.ptr [.int .i64 k,.int .i64 s,.list (qac rs),.list (qaj ps)]] (.bool (!qgT v s)):=by
 rcases v with⟨a,ks⟩
 refine qah fn206 (by simp) ?_
 unfold i206
 simp only[argL,encV]
 refine wN ?_
 refine wR0 0 [1,2] cJ0 ?_
 refine wN ?_
 refine wRn 100 [3] cJ0 ?_
 refine rC cJ0 ?_
 refine⟨_,ql8 (.mk a ks) s,rE cJ0 ?_⟩
 refine wN ?_
 refine qaL ?_
 (try simp only)
 exact⟨by simp,_,rfl,by exact .same rfl⟩
theorem qnd (v:V)(s:Int):(!qgT v s)=qbJ s v:=by
 rw[Bool.eq_iff_iff]
 simp only[qgT,qbJ,Bool.not_eq_true',Bool.and_eq_false_iff,Bool.or_eq_true,decide_eq_true_eq,decide_eq_false_iff_not,beq_eq_false_iff_ne,ne_eq]
 omega
theorem qrd (k s N:Int)(rs:List Int)(ps:List Ty)(ks:List V)(hl:ks.length≤1000000)(Q:IExit→(Nat→T)→Heap→Prop):∀(rest pre:List V) (ts us:List Ty) (i:Nat),ks=pre++rest→ps=us++ts→pre.length=i→us.length=i→rest.length=ts.length→
 (∀t∈ts,∀v∈rest,TP Tryz.prog 187 [qax t,encV v] (.bool (ofV t v)))→
 (qda ts rest=true→∀i:Int,Q (.exit 1) (ofL [(2,.ref 0 4 0),(46,.list (qag ks)),(47,.int .i64 (qag ks).length),(48,.int .i64 i),(49,.bool false)]) (hpL [(0,.live ⟨107,[.int .i64 k,.int .i64 s,.list (qac rs),.list (qaj ps)]⟩),(1,.live ⟨31,[.int .i64 N,.list (qag ks)]⟩)]))→
 (qda ts rest=false→∀l,Q .ret (ofL [(4,.bool false)]) (hpL l))→
 WL Tryz.prog 110 qiE (ofL [(2,.ref 0 4 0),(46,.list (qag ks)),(47,.int .i64 (qag ks).length),(48,.int .i64 i)]) (hpL [(0,.live ⟨107,[.int .i64 k,.int .i64 s,.list (qac rs),.list (qaj ps)]⟩),(1,.live ⟨31,[.int .i64 N,.list (qag ks)]⟩)]) Q:=by
 intro rest
 induction rest with
 | nil=>
  intro pre ts us i he he2 hn hn2 hlr hk hQ0 hQ1
  have hd:decide ((i:Int)<((qag ks).length:Int))=false:=by simp[qam,he,hn]
  have hts:ts=[]:=List.eq_nil_of_length_eq_zero hlr.symm
  subst hts
  have fX:=@hd
  refine qaa qiE.eq_1 ?_
  refine wR0 1000 [2,46,47,48,49] fX ?_
  refine wF @hd ?_
  refine wX ?_
  refine wN ?_
  exact hQ0 rfl _
 | cons v rest ih=>
  intro pre ts us i he he2 hn hn2 hlr hk hQ0 hQ1
  cases ts with
  | nil=>simp at hlr
  | cons t ts=>
  rcases v with⟨a,bs⟩
  rcases t with⟨tk,tsz,trs,tps⟩
  have hlt:(i:Int)<((qag ks).length:Int):=by simp[qam,he];omega
  have hlt2:(i:Int)<((qaj ps).length:Int):=by simp[qao,he2];omega
  have hlb:i≤1000000:=by rw[he] at hl;simp at hl;omega
  have hd:decide ((i:Int)<((qag ks).length:Int))=true:=decide_eq_true hlt
  have hg:(qag ks).getD (i:Int).toNat .undef=.agg [.int .i64 a,.list (qag bs)]:=by rw[Int.toNat_natCast,he,←hn];exact qba _ (.mk a bs) _
  have hg2:(qaj ps).getD (i:Int).toNat .undef=.agg [.int .i64 tk,.int .i64 tsz,.list (qac trs),.list (qaj tps)]:=by rw[Int.toNat_natCast,he2,←hn2];exact qdZ _ (.mk tk tsz trs tps) _
  have hw:IntKind.wrap .i64 ((i:Int)+1)=(i:Int)+1:=wrap64 (by omega) (by omega)
  have hz:qda (.mk tk tsz trs tps::ts) (.mk a bs::rest)=(ofV (.mk tk tsz trs tps) (.mk a bs)&&qda ts rest):=by rw[qda]
  have fX:=(cJ4 @hd @hg @hg2 @hw)
  refine qaa qiE.eq_1 ?_
  refine W_gc ?_
  refine wR0 1000 [2,46,47,48,49] fX ?_
  refine wT @hd ?_
  refine wR0 1100 [2,5,6,46,47,48] fX ?_
  refine wRn 1200 [2,46,47,48,60] fX ?_
  refine rC fX ?_
  refine⟨_,hk (.mk tk tsz trs tps) (List.mem_cons_self ..) (.mk a bs) (List.mem_cons_self ..),rE fX ?_⟩
  refine wS cJ0 (fun hc1200=>?_) (fun hc1200=>?_)
  ·skip
   refine wR0 1300 [4] fX ?_
   refine wE ?_
   refine wN ?_
   exact hQ1 (by rw[hz];simp at hc1200;simp[hc1200]) _
  ·skip
   refine wR0 1400 [2,46,47,48] fX ?_
   refine wN ?_
   refine qaP [0,1] (by simp[inL]) (by simp[inL,T.cl]) (by simp[qan,inL,Slot.cl,T.cl,clL]) ?_
   simp at hc1200
   rw[hz,hc1200,Bool.true_and] at hQ0 hQ1
   have:=ih (pre++[.mk a bs]) ts (us++[.mk tk tsz trs tps]) (i+1) (by simp[he]) (by simp[he2]) (by simp;omega) (by simp;omega) (by simpa using hlr) (fun t ht v hv=>hk t (List.mem_cons_of_mem _ ht) v (List.mem_cons_of_mem _ hv)) hQ0 hQ1
   simpa [qan,inL] using this
theorem le12 (x:Int):(!decide (x > 12))=decide (x≤12):=by
 rw[Bool.eq_iff_iff];simp
set_option maxHeartbeats 4000000 in
theorem qmi:∀(t:Ty) (v:V) (d:Int),t.fit→v.fit→qaC t d=true→TP Tryz.prog 187 [qax t,encV v] (.bool (ofV t v))
 | .mk k s rs ps,.mk n ks,d,ht,hv,hval=>by
  obtain⟨hf1,hf2,hf3⟩:=Ty.fit_all ht
  have hv':=V.fit_kids hv
  simp only[V.kids] at hv'
  have hcf:=qdF 206 [.ptr [.int .i64 k,.int .i64 s,.list (qac rs),.list (qaj ps)]] (by simp[clL,T.cl]) (fun x=>!qgT x s) ks hv'.1 (fun x hx=>qty k s rs ps x)
  have e3:k≠1→k≠2→k=3→ofV (.mk k s rs ps) (.mk n ks)=((n==0)&&((ks.length:Int)==ps.length)&&qda ps ks):=fun k1 k2 k3=>by simp only[ofV,if_neg k1,if_neg k2,if_neg (show ¬k=6 by omega),if_pos k3,V.n,V.kids]
  have e0:k≠1→k≠2→k≠6→k≠3→ofV (.mk k s rs ps) (.mk n ks)=((n==0)&&decide ((ks.length:Int)≤12)&&(if k=7 then !ks.any (qbJ s) else qfJ ps ks&&(!(k==5) || qbu ks))):=fun k1 k2 k6 k3=>by rw[←le12];simp only[ofV,if_neg k1,if_neg k2,if_neg k6,if_neg k3,V.n,V.kids];rfl
  have tk:∀(c:Int),(k==c)=true→k=c:=fun c h=>by simpa using h
  have fk:∀(c:Int),(k==c)=false→k≠c:=fun c h=>by simpa using h
  refine qah fn187 (by simp) ?_
  unfold i187
  simp only[argL,encV,qax]
  refine wR0 0 [2,3] cJ0 ?_
  refine wR0 100 [2,3,8] cJ0 ?_
  refine wR0 200 [2,3,8,9] cJ0 ?_
  refine wS cJ0 (fun hc200=>?_) (fun hc200=>?_)
  ·skip
   refine wR0 300 [4] cJ0 ?_
   refine wP ?_
   exact qab (by simp only[ofV,if_pos (tk _ hc200),V.n,V.kids,qam];rfl)
  ·skip
   refine wR0 400 [2,3,8,25] cJ0 ?_
   refine wS cJ0 (fun hc400=>?_) (fun hc400=>?_)
   ·skip
    refine wRn 500 [4] cJ0 ?_
    refine rC cJ0 ?_
    refine⟨_,ql8 (.mk n ks) s,rE cJ0 ?_⟩
    refine wP ?_
    exact qab (by simp only[ofV,if_neg (fk _ hc200),if_pos (tk _ hc400),qgT,V.n,V.kids])
   ·skip
    refine wR0 600 [2,3,8,31] cJ0 ?_
    refine wS cJ0 (fun hc600=>?_) (fun hc600=>?_)
    ·skip
     refine wR0 700 [2,3,44] cJ0 ?_
     refine wS cJ0 (fun hc700=>?_) (fun hc700=>?_)
     ·skip
      refine wR0 800 [4] cJ0 ?_
      refine wP ?_
      exact qab (by simp only[qao,qam,bne] at hc700;rw[e3 (fk _ hc200) (fk _ hc400) (tk _ hc600)];revert hc700;cases (n==0)<;>cases ((ks.length:Int)==ps.length)<;>simp)
     ·skip
      refine wR0 900 [2,46,47,48] cJ0 ?_
      simp only[thn]
      have hc7:n=0∧(ks.length:Int)=ps.length:=(by simpa [qao,qam] using hc700)
      have k3:=tk _ hc600
      have hvp:=qhY (by rw[k3] at hval;exact hval)
      refine wL ?_
      refine qrd k s n rs ps ks hv'.1 _ ks [] ps [] 0 rfl rfl rfl rfl (by omega) (fun t hk u hu=>qmi t u (d - 1) (hf3 t hk) (hv'.2 u hu) (qdT hvp.1 t hk)) ?_ ?_
      ·intro h i
       refine wN ?_
       refine wR0 1500 [4] cJ0 ?_
       refine wP ?_
       exact qab (by rw[e3 (fk _ hc200) (fk _ hc400) k3,h];simp[hc7])
      ·intro h l
       refine wN ?_
       exact⟨by simp,_,rfl,by exact qab (by rw[e3 (fk _ hc200) (fk _ hc400) k3,h];simp[hc7])⟩
    ·skip
     refine wR0 1600 [2,3,8,62] cJ0 ?_
     refine wS cJ0 (fun hc1600=>?_) (fun hc1600=>?_)
     ·skip
      refine wN ?_
      obtain⟨p,hp,hvp⟩:=qfC (.inl (tk _ hc1600)) hval
      rcases p with⟨pk,psz,prs,pps⟩
      have hg2:(qaj ps).getD (0:Int).toNat .undef=.agg [.int .i64 pk,.int .i64 psz,.list (qac prs),.list (qaj pps)]:=(by rw[hp];rfl)
      have hlt2:(0:Int)<((qaj ps).length:Int):=(by simp[qao,hp])
      have hk:Ty.mk pk psz prs pps∈ps:=(by simp[hp])
      refine wRn 1700 [4] @hg2 ?_
      refine rC @hg2 ?_
      refine⟨_,qoY (.mk n ks) (.mk pk psz prs pps) hv (fun x hx=>qmi _ x (d - 1) (hf3 _ hk) (hv'.2 x hx) hvp),rE @hg2 ?_⟩
      refine wP ?_
      exact qab (by rw[e0 (fk _ hc200) (fk _ hc400) (by have:=tk _ hc1600;omega) (fk _ hc600),if_neg (by have:=tk _ hc1600;omega)];simp[qq6,qfJ,V.n,V.kids,tk _ hc1600,hp];rfl)
     ·skip
      refine wR0 1800 [2,3,8,70] cJ0 ?_
      refine wS cJ0 (fun hc1800=>?_) (fun hc1800=>?_)
      ·skip
       refine wN ?_
       obtain⟨p,hp,hvp⟩:=qfC (.inr (tk _ hc1800)) hval
       rcases p with⟨pk,psz,prs,pps⟩
       have hg2:(qaj ps).getD (0:Int).toNat .undef=.agg [.int .i64 pk,.int .i64 psz,.list (qac prs),.list (qaj pps)]:=(by rw[hp];rfl)
       have hlt2:(0:Int)<((qaj ps).length:Int):=(by simp[qao,hp])
       have hk:Ty.mk pk psz prs pps∈ps:=(by simp[hp])
       refine wRn 1900 [4] @hg2 ?_
       refine rC @hg2 ?_
       refine⟨_,qoY (.mk n ks) (.mk pk psz prs pps) hv (fun x hx=>qmi _ x (d - 1) (hf3 _ hk) (hv'.2 x hx) hvp),rN @hg2 ?_⟩
       refine rCi @hg2 ?_
       refine⟨_,fun hw=>qkK 203 ks hv'.1 (fun a ha b hb=>qo6 a b (hv'.2 a ha) (hv'.2 b hb)),rE @hg2 ?_⟩
       refine wP ?_
       exact qab (by rw[e0 (fk _ hc200) (fk _ hc400) (by have:=tk _ hc1800;omega) (fk _ hc600),if_neg (by have:=tk _ hc1800;omega)];simp[qq6,qfJ,V.n,V.kids,tk _ hc1800,hp,Bool.and_assoc];rfl)
      ·skip
       refine wR0 2000 [2,3,83] cJ0 ?_
       refine wS cJ0 (fun hc2000=>?_) (fun hc2000=>?_)
       ·skip
        refine wRn 2100 [4] cJ0 ?_
        refine rC cJ0 ?_
        refine⟨_,qh8 (.mk n ks) 12 hv (by omega) (by omega),rN cJ0 ?_⟩
        refine rCi cJ0 ?_
        refine⟨_,fun hw=>qsw (.mk n ks) s hv,rE cJ0 ?_⟩
        refine wP ?_
        exact qab (by rw[qp5];simp only[ofV,if_neg (fk _ hc200),if_neg (fk _ hc400),if_pos (tk _ hc2000)])
       ·skip
        refine wRn 2200 [4] cJ0 ?_
        refine rLi [(0,.live ⟨107,[.int .i64 k,.int .i64 s,.list (qac rs),.list (qaj ps)]⟩)] cJ0 ?_
        refine⟨_,_,fun hw=>hcf,fZl,rfl,rE cJ0 ?_⟩
        refine wP ?_
        exact qab (by have k7:=((qhX hval (fk _ hc200) (fk _ hc400) (fk _ hc2000) (fk _ hc600)).resolve_right (fun h=>h.elim (fk _ hc1600) (fk _ hc1800)));rw[e0 (fk _ hc200) (fk _ hc400) (fk _ hc2000) (fk _ hc600),if_pos k7];simp[qnd,qam,Bool.and_assoc])
termination_by t=>SizeOf.sizeOf t
decreasing_by all_goals exact qi3 hk k s rs
end
end Go.Proofs.YtoeeppojakbciaaGreat
