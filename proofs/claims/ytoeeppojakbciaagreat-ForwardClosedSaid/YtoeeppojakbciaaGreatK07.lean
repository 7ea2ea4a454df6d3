/- Contracts of functions of the program, for all arguments that they name. -/
import Derived.Test.YtoeeppojakbciaaGreatK02
import Derived.Test.YtoeeppojakbciaaGreatK06
namespace Go.Proofs.YtoeeppojakbciaaGreat
set_option linter.unusedVariables false
section
open Go.RowKit
set_option maxHeartbeats 2000000
def qbJ (s:Int)(x:V):Bool:=decide (x.n<0) || decide (x.n≥s) || decide ((x.kids.length:Int) > 0)
def qbu:List V→Bool
 | a::b::l=>!decide (cmpV a b > 0)&&qbu (b::l)
 | _=>true
mutual
def ofV:Ty→V→Bool
 | .mk k s rs ps,v=>
  if k=1 then decide (v.n≥0)&&decide (v.n≤1048576)&&((v.kids.length:Int)==0)
  else if k=2 then decide (v.n≥0)&&decide (v.n<s)&&((v.kids.length:Int)==0)
  else if k=6 then decide (qbN v 12≤12)&&qdK s v
  else if k=3 then (v.n==0)&&((v.kids.length:Int)==ps.length)&&qda ps v.kids
  else (v.n==0)&&!decide ((v.kids.length:Int) > 12)&&(if k=7 then !v.kids.any (qbJ s) else qfJ ps v.kids&&(!(k==5) || qbu v.kids))
def qda:List Ty→List V→Bool
 | p::ps,v::vs=>ofV p v&&qda ps vs
 | _,_=>true
def qfJ:List Ty→List V→Bool
 | p::_,vs=>vs.all fun v=>ofV p v
 | [],_=>true
end
def qp1 (prev:Option V)(l:List V):Bool:=match prev with
 | none=>qbu l
 | some p=>qbu (p::l)
def ascB (b:Bool)(prev:Option V)(x:V):Bool:=match prev with
 | none=>true
 | some p=>!(b&&decide (cmpV p x > 0))
def bagL (p:Ty)(b:Bool)(prev:Option V):List V→Bool
 | []=>true
 | x::l=>(ofV p x&&ascB b prev x)&&bagL p b (some x) l
theorem qnY (p:Ty)(b:Bool):∀(l:List V) (prev:Option V),bagL p b prev l=((l.all fun v=>ofV p v)&&(!b || qp1 prev l))
 | [],none=>by cases b<;>rfl
 | [],some q=>by cases b<;>rfl
 | x::l,prev=>by
  rw[bagL,qnY p b l (some x)]
  cases prev<;>cases b<;>simp only[ascB,qp1,qbu,List.all_cons,Bool.false_and,Bool.true_and,Bool.not_false,Bool.not_true,Bool.and_true,Bool.true_or,Bool.false_or,Bool.and_assoc]
  rw[Bool.and_left_comm (!_)]
theorem qr9 (k s N:Int)(rs:List Int)(ps:List Ty)(ks:List V)(hp:ps.length≤1000000)(hl:ks.length=ps.length)(Q:IExit→(Nat→T)→Heap→Prop):∀(rest pre:List V) (ts us:List Ty) (i:Nat),ks=pre++rest→ps=us++ts→pre.length=i→us.length=i→
 (∀t∈ts,∀v∈rest,TP Tryz.prog 115 [qax t,encV v] (.bool (ofV t v)))→
 (qda ts rest=true→∀i:Int,Q (.exit 1) (ofL [(2,.ref 0 4 0),(3,.ref 1 2 0),(5,.int .i64 i),(72,.bool false)]) (hpL [(0,.live ⟨107,[.int .i64 k,.int .i64 s,.list (qac rs),.list (qaj ps)]⟩),(1,.live ⟨31,[.int .i64 N,.list (qag ks)]⟩)]))→
 (qda ts rest=false→Q .ret (ofL [(4,.bool false)]) (hpL [(0,.live ⟨107,[.int .i64 k,.int .i64 s,.list (qac rs),.list (qaj ps)]⟩),(1,.live ⟨31,[.int .i64 N,.list (qag ks)]⟩)]))→
 WL Tryz.prog 169 qiq (ofL [(2,.ref 0 4 0),(3,.ref 1 2 0),(5,.int .i64 i)]) (hpL [(0,.live ⟨107,[.int .i64 k,.int .i64 s,.list (qac rs),.list (qaj ps)]⟩),(1,.live ⟨31,[.int .i64 N,.list (qag ks)]⟩)]) Q:=by
 intro rest
 induction rest with
 | nil=>
  intro pre ts us i he he2 hn hn2 hk hQ0 hQ1
  have hd:decide ((i:Int)<((qag ks).length:Int))=false:=by simp[qam,he,hn]
  refine qaa qiq.eq_1 ?_
  refine wN ?_
  refine wR0 1200 [2,3,5,72] @hd ?_
  refine wN ?_
  refine qai (eV cJ0) ?_
  simp only[Bool.false_eq_true,if_false]
  refine wN ?_
  refine qb4 ?_
  (try simp only[thn])
  exact hQ0 (by cases ts<;>rfl) _
 | cons v rest ih=>
  intro pre ts us i he he2 hn hn2 hk hQ0 hQ1
  cases ts with
  | nil=>rw[he,he2] at hl;simp at hl;omega
  | cons t ts=>
   have hlt:(i:Int)<((qag ks).length:Int):=by simp[qam,he];omega
   have hlt2:(i:Int)<((qaj ps).length:Int):=by simp[qao,he2];omega
   have hlb:i≤1000000:=by rw[he2] at hp;simp at hp;omega
   have hd:decide ((i:Int)<((qag ks).length:Int))=true:=decide_eq_true hlt
   have hg:(qag ks).getD (i:Int).toNat .undef=encV v:=by rw[Int.toNat_natCast,he,←hn];exact qba _ _ _
   have hg2:(qaj ps).getD (i:Int).toNat .undef=qax t:=by rw[Int.toNat_natCast,he2,←hn2];exact qdZ _ _ _
   have hw:IntKind.wrap .i64 ((i:Int)+1)=(i:Int)+1:=wrap64 (by omega) (by omega)
   refine qaa qiq.eq_1 ?_
   refine wN ?_
   refine wR0 1200 [2,3,5,72] @hd ?_
   refine wN ?_
   refine qai (eV cJ0) ?_
   simp only[if_true]
   refine wN ?_
   have fX:=(cJ6 @hg @hg2 @qcN @qbK @qcg @qbB)
   refine wRn 1300 [2,3,5,86] fX ?_
   refine rC fX ?_
   refine⟨_,hk t (List.mem_cons_self ..) v (List.mem_cons_self ..),rE fX ?_⟩
   refine wN ?_
   by_cases hc:ofV t v=true
   ·have hb:(!ofV t v)=false:=by simp[hc]
    refine qai (eV cJ0) ?_
    simp only[hb,Bool.false_eq_true,if_false]
    refine wN ?_
    refine wR0 1500 [2,3,5] @hw ?_
    refine wN ?_
    have:=ih (pre++[v]) ts (us++[t]) (i+1) (by simp[he]) (by simp[he2]) (by simp;omega) (by simp;omega) (fun t' ht' k' hk'=>hk t' (List.mem_cons_of_mem _ ht') k' (List.mem_cons_of_mem _ hk')) (by simpa [qda,hc] using hQ0) (by simpa [qda,hc] using hQ1)
    simpa using this
   ·have hb:(!ofV t v)=true:=by simp[hc]
    refine qai (eV cJ0) ?_
    simp only[hb,if_true]
    refine wN ?_
    refine wR0 1400 [4] cJ0 ?_
    refine wN ?_
    refine qaL ?_
    (try simp only[thn,inB])
    exact hQ1 (by simp[qda,hc])
theorem qkP (s N:Int)(rs:List Int)(ps:List Ty)(ks:List V)(hl:ks.length≤1000000)(Q:IExit→(Nat→T)→Heap→Prop):∀(rest pre:List V) (i:Nat),ks=pre++rest→pre.length=i→
 (rest.any (qbJ s)=false→∀i:Int,Q (.exit 3) (ofL [(2,.ref 0 4 0),(3,.ref 1 2 0),(6,.int .i64 i),(100,.bool false)]) (hpL [(0,.live ⟨107,[.int .i64 7,.int .i64 s,.list (qac rs),.list (qaj ps)]⟩),(1,.live ⟨31,[.int .i64 N,.list (qag ks)]⟩)]))→
 (rest.any (qbJ s)=true→Q .ret (ofL [(4,.bool false)]) (hpL [(0,.live ⟨107,[.int .i64 7,.int .i64 s,.list (qac rs),.list (qaj ps)]⟩),(1,.live ⟨31,[.int .i64 N,.list (qag ks)]⟩)]))→
 WL Tryz.prog 169 qeu (ofL [(2,.ref 0 4 0),(3,.ref 1 2 0),(6,.int .i64 i)]) (hpL [(0,.live ⟨107,[.int .i64 7,.int .i64 s,.list (qac rs),.list (qaj ps)]⟩),(1,.live ⟨31,[.int .i64 N,.list (qag ks)]⟩)]) Q:=by
 intro rest
 induction rest with
 | nil=>
  intro pre i he hn hQ0 hQ1
  have hd:decide ((i:Int)<((qag ks).length:Int))=false:=by simp[qam,he,hn]
  refine qaa qeu.eq_1 ?_
  refine wN ?_
  refine wR0 2000 [2,3,6,100] @hd ?_
  refine wN ?_
  refine qai (eV cJ0) ?_
  simp only[Bool.false_eq_true,if_false]
  refine wN ?_
  refine qb4 ?_
  (try simp only[thn])
  exact hQ0 rfl _
 | cons v rest ih=>
  intro pre i he hn hQ0 hQ1
  rcases v with⟨a,bs⟩
  have hlt:(i:Int)<((qag ks).length:Int):=by simp[qam,he];omega
  have hlb:i≤1000000:=by rw[he] at hl;simp at hl;omega
  have hd:decide ((i:Int)<((qag ks).length:Int))=true:=decide_eq_true hlt
  have hg:(qag ks).getD (i:Int).toNat .undef=.agg [.int .i64 a,.list (qag bs)]:=by rw[Int.toNat_natCast,he,←hn];exact qba _ (.mk a bs) _
  have hw:IntKind.wrap .i64 ((i:Int)+1)=(i:Int)+1:=wrap64 (by omega) (by omega)
  refine qaa qeu.eq_1 ?_
  refine wN ?_
  refine wR0 2000 [2,3,6,100] @hd ?_
  refine wN ?_
  refine qai (eV cJ0) ?_
  simp only[if_true]
  refine wN ?_
  refine wR0 2100 [2,3,6,105] cJ0 ?_
  refine wN ?_
  refine qai (eV cJ0) ?_
  simp only[if_true]
  refine wN ?_
  refine wR0 2200 [2,3,6,133] @hg ?_
  refine wN ?_
  have hbl:(decide (a<0) || decide (a≥s) || decide (((qag bs).length:Int) > 0))=qbJ s (.mk a bs):=by simp only[qbJ,V.n,V.kids,qam];rfl
  by_cases hc:qbJ s (.mk a bs)=true
  ·rw[hc] at hbl
   refine qai (eV cJ0) ?_
   simp only[hbl,if_true]
   refine wN ?_
   refine wR0 2300 [4] cJ0 ?_
   refine wN ?_
   refine qaL ?_
   (try simp only[thn,inB])
   exact hQ1 (by simp[hc])
  ·rw[Bool.not_eq_true] at hc
   rw[hc] at hbl
   refine qai (eV cJ0) ?_
   simp only[hbl,Bool.false_eq_true,if_false]
   refine wN ?_
   refine qb4 ?_
   (try simp only[thn,inB,if_true])
   refine wR0 2600 [2,3,6] @hw ?_
   refine wN ?_
   have:=ih (pre++[.mk a bs]) (i+1) (by simp[he]) (by simp;omega) (by simpa [hc] using hQ0) (by simpa [hc] using hQ1)
   simpa using this
theorem qqp (k s N:Int)(k7:k≠7)(rs:List Int)(ps:List Ty)(p:Ty)(hps:ps=[p])(ks:List V)(hl:ks.length≤1000000)(hf:∀v∈ks,v.fit)(Q:IExit→(Nat→T)→Heap→Prop):∀(rest pre:List V) (i:Nat),ks=pre++rest→pre.length=i→
 (∀v∈rest,TP Tryz.prog 115 [qax p,encV v] (.bool (ofV p v)))→
 (bagL p (k==5) pre.getLast? rest=true→∀i:Int,Q (.exit 3) (ofL [(2,.ref 0 4 0),(3,.ref 1 2 0),(6,.int .i64 i),(100,.bool false)]) (hpL [(0,.live ⟨107,[.int .i64 k,.int .i64 s,.list (qac rs),.list (qaj ps)]⟩),(1,.live ⟨31,[.int .i64 N,.list (qag ks)]⟩)]))→
 (bagL p (k==5) pre.getLast? rest=false→Q .ret (ofL [(4,.bool false)]) (hpL [(0,.live ⟨107,[.int .i64 k,.int .i64 s,.list (qac rs),.list (qaj ps)]⟩),(1,.live ⟨31,[.int .i64 N,.list (qag ks)]⟩)]))→
 WL Tryz.prog 169 qeu (ofL [(2,.ref 0 4 0),(3,.ref 1 2 0),(6,.int .i64 i)]) (hpL [(0,.live ⟨107,[.int .i64 k,.int .i64 s,.list (qac rs),.list (qaj ps)]⟩),(1,.live ⟨31,[.int .i64 N,.list (qag ks)]⟩)]) Q:=by
 have k7b:(k==7)=false:=by simp[k7]
 have hlt2:(0:Int)<((qaj ps).length:Int):=by simp[qao,hps]
 have hg2:(qaj ps).getD (0:Int).toNat .undef=qax p:=by rw[hps];rfl
 intro rest
 induction rest with
 | nil=>
  intro pre i he hn hk hQ0 hQ1
  have hd:decide ((i:Int)<((qag ks).length:Int))=false:=by simp[qam,he,hn]
  refine qaa qeu.eq_1 ?_
  refine wN ?_
  refine wR0 2000 [2,3,6,100] @hd ?_
  refine wN ?_
  refine qai (eV cJ0) ?_
  simp only[Bool.false_eq_true,if_false]
  refine wN ?_
  refine qb4 ?_
  (try simp only[thn])
  exact hQ0 rfl _
 | cons v rest ih=>
  intro pre i he hn hk hQ0 hQ1
  have hlt:(i:Int)<((qag ks).length:Int):=by simp[qam,he];omega
  have hlb:i≤1000000:=by rw[he] at hl;simp at hl;omega
  have hd:decide ((i:Int)<((qag ks).length:Int))=true:=decide_eq_true hlt
  have hg:(qag ks).getD (i:Int).toNat .undef=encV v:=by rw[Int.toNat_natCast,he,←hn];exact qba _ _ _
  have hw:IntKind.wrap .i64 ((i:Int)+1)=(i:Int)+1:=wrap64 (by omega) (by omega)
  have hb2:(pre++[v]).getLast? = some v:=by simp
  have hbag:bagL p (k==5) pre.getLast? (v::rest)=((ofV p v&&ascB (k==5) pre.getLast? v)&&bagL p (k==5) (pre++[v]).getLast? rest):=by rw[hb2];rfl
  refine qaa qeu.eq_1 ?_
  refine wN ?_
  refine wR0 2000 [2,3,6,100] @hd ?_
  refine wN ?_
  refine qai (eV cJ0) ?_
  simp only[if_true]
  refine wN ?_
  refine wR0 2100 [2,3,6,105] cJ0 ?_
  refine wN ?_
  refine qai (eV cJ0) ?_
  simp only[k7b,Bool.false_eq_true,if_false]
  refine wN ?_
  rcases hof:ofV p v with _ | _
  ·have fX:=(cJ8 @hg @hg2 @qcN @qbK @qcg @qbB @hof @Bool.not_false)
   refine wRn 2400 [2,3,6,168] fX ?_
   refine rC fX ?_
   refine⟨_,hk v (List.mem_cons_self ..),rE fX ?_⟩
   refine wN ?_
   refine qai (eV cJ0) ?_
   simp only[if_true]
   refine wN ?_
   refine wR0 2500 [4] cJ0 ?_
   refine wN ?_
   refine qaL ?_
   (try simp only[thn,inB])
   exact hQ1 (by simp[bagL,hof])
  ·by_cases k5:k=5
   ·have k5b:(k==5)=true:=by simp[k5]
    rcases List.eq_nil_or_concat pre with rfl | ⟨pre',q,rfl⟩
    ·have hi:i=0:=by simpa using hn.symm
     have h0:decide ((i:Int) > 0)=false:=by simp[hi]
     have hasc:ascB (k==5) ([]:List V).getLast? v=true:=rfl
     have fX:=(cJ8 @hg @hg2 @qcN @qbK @qcg @qbB @hof (cJ3 @Bool.not_true @k5b @h0))
     refine wRn 2400 [2,3,6,168] fX ?_
     refine rC fX ?_
     refine⟨_,hk v (List.mem_cons_self ..),rE fX ?_⟩
     refine wN ?_
     refine qai (eV cJ0) ?_
     simp only[Bool.false_eq_true,if_false]
     refine wN ?_
     refine wR0 2600 [2,3,6] @hw ?_
     refine wN ?_
     rw[hof,hasc,Bool.true_and,Bool.true_and] at hbag
     rw[hbag] at hQ0 hQ1
     have:=ih ([]++[v]) (i+1) (by simp[he]) (by simp at hn ⊢;omega) (fun k' hk'=>hk k' (List.mem_cons_of_mem _ hk')) hQ0 hQ1
     simpa using this
    ·have hi0:0<i:=by simp at hn;omega
     have hi0b:decide ((i:Int) > 0)=true:=by simp;omega
     have hw3:IntKind.wrap .i64 ((i:Int) - 1)=(i:Int) - 1:=wrap64 (by omega) (by omega)
     have hlt3:(i:Int) - 1<((qag ks).length:Int):=by omega
     have hg3:(qag ks).getD ((i:Int) - 1).toNat .undef=encV q:=by
      have:((i:Int) - 1).toNat=pre'.length:=by simp at hn;omega
      rw[this,he,List.concat_eq_append,List.append_assoc];exact qba _ _ _
     have hq:q∈ks:=by rw[he];simp
     have fX:=(cJ8 @hg @hg2 @qcN @qbK @qcg @qbB @hof (cJ5 @Bool.not_true @k5b @hi0b @hw3 @hg3))
     refine wRn 2400 [2,3,6,168] fX ?_
     refine rC fX ?_
     refine⟨_,hk v (List.mem_cons_self ..),rN fX ?_⟩
     refine rC fX ?_
     refine⟨_,qsi q v (hf q hq),rE fX ?_⟩
     refine wN ?_
     have hasc0:ascB (k==5) (pre'.concat q).getLast? v=!decide (cmpV q v > 0):=by simp[ascB,k5b]
     rcases hc:decide (cmpV q v > 0) with _ | _
     ·refine qai (eV cJ0) ?_
      simp only[Bool.false_eq_true,if_false]
      refine wN ?_
      have hasc:ascB (k==5) (pre'.concat q).getLast? v=true:=by rw[hasc0,hc];rfl
      refine wR0 2600 [2,3,6] @hw ?_
      refine wN ?_
      rw[hof,hasc,Bool.true_and,Bool.true_and] at hbag
      rw[hbag] at hQ0 hQ1
      have:=ih (pre'.concat q++[v]) (i+1) (by simp[he]) (by simp at hn ⊢;omega) (fun k' hk'=>hk k' (List.mem_cons_of_mem _ hk')) hQ0 hQ1
      simpa using this
     ·refine qai (eV cJ0) ?_
      simp only[if_true]
      refine wN ?_
      refine wR0 2500 [4] cJ0 ?_
      refine wN ?_
      refine qaL ?_
      (try simp only[thn,inB])
      exact hQ1 (by rw[hbag,hasc0,hc];simp)
   ·have k5b:(k==5)=false:=by simp[k5]
    have fX:=(cJ8 @hg @hg2 @qcN @qbK @qcg @qbB @hof (cJ2 @Bool.not_true @k5b))
    refine wRn 2400 [2,3,6,168] fX ?_
    refine rC fX ?_
    refine⟨_,hk v (List.mem_cons_self ..),rE fX ?_⟩
    refine wN ?_
    have hasc:ascB (k==5) pre.getLast? v=true:=by rw[k5b];cases pre.getLast?<;>rfl
    refine qai (eV cJ0) ?_
    simp only[Bool.false_eq_true,if_false]
    refine wN ?_
    refine wR0 2600 [2,3,6] @hw ?_
    refine wN ?_
    rw[hof,hasc,Bool.true_and,Bool.true_and] at hbag
    rw[hbag] at hQ0 hQ1
    have:=ih (pre++[v]) (i+1) (by simp[he]) (by simp at hn ⊢;omega) (fun k' hk'=>hk k' (List.mem_cons_of_mem _ hk')) hQ0 hQ1
    simpa using this
theorem qdT:∀ {ps:List Ty} {d:Int},qaY ps d=true→∀p∈ps,qaC p d=true
 | [],_,_,p,hp=>by cases hp
 | x::ps,d,h,p,hp=>by
  simp only[qaY,Bool.and_eq_true] at h
  rcases List.mem_cons.1 hp with rfl | hp
  ·exact h.1
  ·exact qdT h.2 p hp
theorem qhY {s d:Int}{rs:List Int}{ps:List Ty}(h:qaC (.mk 3 s rs ps) d=true):qaY ps (d - 1)=true∧ps.length≤8:=by
 simp only[qaC] at h
 split at h
 ·cases h
 split at h
 ·cases h
 simp at h
 exact⟨h.2,by omega⟩
theorem qfC {k s d:Int}{rs:List Int}{ps:List Ty}(hk:k=4∨k=5)(h:qaC (.mk k s rs ps) d=true):∃p,ps=[p]∧qaC p (d - 1)=true:=by
 simp only[qaC] at h
 rw[if_neg (show ¬k=1 by omega),if_neg (show ¬(k=2∨k=6) by omega),if_neg (show ¬k=7 by omega),if_pos hk] at h
 split at h
 ·cases h
 split at h
 ·cases h
 simp at h
 obtain⟨p,rfl⟩:=List.length_eq_one_iff.1 (show ps.length=1 by omega)
 exact⟨p,rfl,by simpa [qaY] using h.2⟩
theorem qhX {k s d:Int}{rs:List Int}{ps:List Ty}(h:qaC (.mk k s rs ps) d=true)(h1:k≠1)(h2:k≠2)(h6:k≠6)(h3:k≠3):k=7∨k=4∨k=5:=by
 refine Decidable.byContradiction fun hc=>?_
 have h26:¬(k=2∨k=6):=by omega
 have h45:¬(k=4∨k=5):=by omega
 have h7:¬k=7:=by omega
 simp only[qaC,if_neg h1,if_neg h26,if_neg h7,if_neg h45,if_neg h3] at h
 split at h<;>simp at h
set_option maxHeartbeats 4000000 in
theorem qtx:∀(t:Ty) (v:V) (d:Int),t.fit→v.fit→qaC t d=true→TP Tryz.prog 115 [qax t,encV v] (.bool (ofV t v))
 | .mk k s rs ps,.mk n ks,d,ht,hv,hval=>by
  obtain⟨hf1,hf2,hf3⟩:=Ty.fit_all ht
  have hv':=V.fit_kids hv
  simp only[V.kids] at hv'
  refine qah fn115 (by simp) ?_
  unfold i115
  simp only[argL,encV,qax]
  refine wN ?_
  refine wR0 0 [2,3] cJ0 ?_
  refine wN ?_
  refine wR0 100 [2,3,8] cJ0 ?_
  refine wN ?_
  refine wR0 200 [2,3,8,9] cJ0 ?_
  refine wN ?_
  by_cases k1:k=1
  ·have k1b:(k==1)=true:=by simp[k1]
   refine qai (eV cJ0) ?_
   simp only[k1b,if_true]
   refine wN ?_
   refine wR0 300 [4] cJ0 ?_
   refine wN ?_
   refine qaL ?_
   (try simp only[thn,inB])
   exact⟨by simp,_,rfl,by exact qab (by simp only[ofV,if_pos k1,V.n,V.kids,qam];rfl)⟩
  have k1b:(k==1)=false:=by simp[k1]
  refine qai (eV cJ0) ?_
  simp only[k1b,Bool.false_eq_true,if_false]
  refine wN ?_
  refine wR0 400 [2,3,8,25] cJ0 ?_
  refine wN ?_
  by_cases k2:k=2
  ·have k2b:(k==2)=true:=by simp[k2]
   refine qai (eV cJ0) ?_
   simp only[k2b,if_true]
   refine wN ?_
   refine wR0 500 [4] cJ0 ?_
   refine wN ?_
   refine qaL ?_
   (try simp only[thn,inB])
   exact⟨by simp,_,rfl,by exact qab (by simp only[ofV,if_neg k1,if_pos k2,V.n,V.kids,qam];rfl)⟩
  have k2b:(k==2)=false:=by simp[k2]
  refine qai (eV cJ0) ?_
  simp only[k2b,Bool.false_eq_true,if_false]
  refine wN ?_
  refine wR0 600 [2,3,8,43] cJ0 ?_
  refine wN ?_
  by_cases k6:k=6
  ·have k6b:(k==6)=true:=by simp[k6]
   refine qai (eV cJ0) ?_
   simp only[k6b,if_true]
   refine wN ?_
   rcases hs:decide (qbN (.mk n ks) 12≤12) with _ | _
   ·refine wRn 700 [4] @hs ?_
    refine rC @hs ?_
    refine⟨_,qhg (.mk n ks) 12 hv (by omega) (by omega),rE @hs ?_⟩
    refine wN ?_
    refine qaL ?_
    (try simp only[thn,inB])
    exact⟨by simp,_,rfl,by exact qab (by simp only[ofV,if_neg k1,if_neg k2,if_pos k6,hs,Bool.false_and])⟩
   ·refine wRn 700 [4] @hs ?_
    refine rC @hs ?_
    refine⟨_,qhg (.mk n ks) 12 hv (by omega) (by omega),rN @hs ?_⟩
    refine rC @hs ?_
    refine⟨_,qmh (.mk n ks) s hv,rE @hs ?_⟩
    refine wN ?_
    refine qaL ?_
    (try simp only[thn,inB])
    exact⟨by simp,_,rfl,by exact qab (by simp only[ofV,if_neg k1,if_neg k2,if_pos k6,hs,Bool.true_and])⟩
  have k6b:(k==6)=false:=by simp[k6]
  refine qai (eV cJ0) ?_
  simp only[k6b,Bool.false_eq_true,if_false]
  refine wN ?_
  refine wR0 800 [2,3,54] cJ0 ?_
  refine wN ?_
  by_cases k3:k=3
  ·have k3b:(k==3)=true:=by simp[k3]
   have e3:ofV (.mk k s rs ps) (.mk n ks)=((n==0)&&((ks.length:Int)==ps.length)&&qda ps ks):=by simp only[ofV,if_neg k1,if_neg k2,if_neg k6,if_pos k3,V.n,V.kids]
   refine qai (eV cJ0) ?_
   simp only[k3b,if_true]
   refine wN ?_
   refine wR0 900 [2,3,67] cJ0 ?_
   refine wN ?_
   rcases hall:((n != 0) || (((qag ks).length:Int) != ((qaj ps).length:Int))) with _ | _
   ·refine qai (eV cJ0) ?_
    simp only[Bool.false_eq_true,if_false]
    refine wN ?_
    refine wR0 1100 [2,3,5] cJ0 ?_
    refine wN ?_
    refine qc1 ?_
    simp only[qao,qam,Bool.or_eq_false_iff,bne_eq_false_iff_eq] at hall
    have hvp:=qhY (by rw[k3] at hval;exact hval)
    refine qr9 k s n rs ps ks hf2 (by omega) _ ks [] ps [] 0 rfl rfl rfl rfl (fun t hk u hu=>qtx t u (d - 1) (hf3 t hk) (hv'.2 u hu) (qdT hvp.1 t hk)) ?_ ?_
    ·intro h i
     simp only[inB,if_true,thn]
     refine wR0 1600 [4] cJ0 ?_
     refine wN ?_
     refine qaL ?_
     (try simp only[thn,inB])
     exact⟨by simp,_,rfl,by exact qab (by rw[e3,h];simp[hall])⟩
    ·intro h
     simp only[inB,thn]
     exact⟨by simp,_,rfl,qab (by simp[e3,h])⟩
   ·refine qai (eV cJ0) ?_
    simp only[if_true]
    refine wN ?_
    refine wR0 1000 [4] cJ0 ?_
    refine wN ?_
    refine qaL ?_
    (try simp only[thn,inB])
    exact⟨by simp,_,rfl,by exact qab (by simp only[qao,qam,bne] at hall;rw[e3];revert hall;cases (n==0)<;>cases ((ks.length:Int)==ps.length)<;>simp)⟩
  have k3b:(k==3)=false:=by simp[k3]
  have e0:ofV (.mk k s rs ps) (.mk n ks)=((n==0)&&!decide ((ks.length:Int) > 12)&&(if k=7 then !ks.any (qbJ s) else qfJ ps ks&&(!(k==5) || qbu ks))):=by simp only[ofV,if_neg k1,if_neg k2,if_neg k6,if_neg k3,V.n,V.kids];rfl
  refine qai (eV cJ0) ?_
  simp only[k3b,Bool.false_eq_true,if_false]
  refine wN ?_
  refine wR0 1700 [2,3,95] cJ0 ?_
  refine wN ?_
  rcases hall:((n != 0) || decide (((qag ks).length:Int) > 12)) with _ | _
  ·refine qai (eV cJ0) ?_
   simp only[Bool.false_eq_true,if_false]
   refine wN ?_
   refine wR0 1900 [2,3,6] cJ0 ?_
   refine wN ?_
   refine qc1 ?_
   simp only[qam,Bool.or_eq_false_iff,bne_eq_false_iff_eq] at hall
   by_cases k7:k=7
   ·subst k7
    refine qkP s n rs ps ks hv'.1 _ ks [] 0 rfl rfl ?_ ?_
    ·intro h i
     simp only[inB,if_true,thn]
     refine wR0 2700 [4] cJ0 ?_
     refine wN ?_
     refine qaL ?_
     (try simp only)
     exact⟨by simp,_,rfl,by exact qab (by rw[e0,h];simp[hall])⟩
    ·intro h
     simp only[inB,thn]
     exact⟨by simp,_,rfl,qab (by rw[e0,h];simp)⟩
   ·have h45:k=4∨k=5:=(qhX hval k1 k2 k6 k3).resolve_left k7
    obtain⟨p,hp,hvp⟩:=qfC h45 hval
    have hk:p∈ps:=by simp[hp]
    have ebag:bagL p (k==5) none ks=(qfJ ps ks&&(!(k==5) || qbu ks)):=by rw[qnY,hp];rfl
    refine qqp k s n k7 rs ps p hp ks hv'.1 hv'.2 _ ks [] 0 rfl rfl (fun u hu=>qtx p u (d - 1) (hf3 p hk) (hv'.2 u hu) hvp) ?_ ?_
    ·intro h i
     have h':(qfJ ps ks&&(!(k==5) || qbu ks))=true:=by rw[←ebag];exact h
     simp only[inB,if_true,thn]
     refine wR0 2700 [4] cJ0 ?_
     refine wN ?_
     refine qaL ?_
     (try simp only)
     exact⟨by simp,_,rfl,by exact qab (by rw[e0,if_neg k7,h'];simp[hall])⟩
    ·intro h
     have h':(qfJ ps ks&&(!(k==5) || qbu ks))=false:=by rw[←ebag];exact h
     simp only[inB,thn]
     exact⟨by simp,_,rfl,qab (by rw[e0,if_neg k7,h'];simp)⟩
  ·refine qai (eV cJ0) ?_
   simp only[if_true]
   refine wN ?_
   refine wR0 1800 [4] cJ0 ?_
   refine wN ?_
   refine qaL ?_
   (try simp only[thn])
   exact⟨by simp,_,rfl,by exact qab (by simp only[qam,bne] at hall;rw[e0];revert hall;cases (n==0)<;>cases decide ((ks.length:Int) > 12)<;>simp)⟩
termination_by t=>SizeOf.sizeOf t
decreasing_by all_goals exact qi3 hk k s rs
def qdl (t:Ty)(v:V):Bool:=(qb6 t==0)&&decide (qbN v 128≤128)&&ofV t v
theorem qje {t:Ty}:(qb6 t==0)=qaC t 8:=by unfold qb6;cases qaC t 8<;>rfl
theorem qks (t:Ty)(v:V)(ht:t.fit)(hv:v.fit):TP Tryz.prog 64 [qax t,encV v] (.bool (qdl t v)):=by
 rcases t with⟨k,s,rs,ps⟩
 rcases v with⟨n,ks⟩
 refine qah fn64 (by simp) ?_
 unfold i64
 simp only[argL,encV,qax]
 refine wN ?_
 refine wR0 0 [2,3] cJ0 ?_
 refine wN ?_
 rcases h1:(qb6 (.mk k s rs ps)==0) with _ | _
 ·refine wRn 100 [4] @h1 ?_
  refine rC @h1 ?_
  refine⟨_,qh4 (.mk k s rs ps) ht,rE @h1 ?_⟩
  refine wN ?_
  refine qaL ?_
  (try simp only)
  exact⟨by simp,_,rfl,by exact qab (by simp only[qdl,h1,Bool.false_and])⟩
 ·rcases h2:decide (qbN (.mk n ks) 128≤128) with _ | _
  ·have fX:=(cJ2 @h1 @h2)
   refine wRn 100 [4] fX ?_
   refine rC fX ?_
   refine⟨_,qh4 (.mk k s rs ps) ht,rN fX ?_⟩
   refine rC fX ?_
   refine⟨_,qhg (.mk n ks) 128 hv (by omega) (by omega),rE fX ?_⟩
   refine wN ?_
   refine qaL ?_
   (try simp only)
   exact⟨by simp,_,rfl,by exact qab (by simp only[qdl,h1,h2,Bool.false_and,Bool.and_false])⟩
  ·have fX:=(cJ2 @h1 @h2)
   refine wRn 100 [4] fX ?_
   refine rC fX ?_
   refine⟨_,qh4 (.mk k s rs ps) ht,rN fX ?_⟩
   refine rC fX ?_
   refine⟨_,qhg (.mk n ks) 128 hv (by omega) (by omega),rN fX ?_⟩
   refine rC fX ?_
   refine⟨_,qtx (.mk k s rs ps) (.mk n ks) 8 ht hv (by rw[←qje];exact h1),rE fX ?_⟩
   refine wN ?_
   refine qaL ?_
   (try simp only)
   exact⟨by simp,_,rfl,by exact qab (by simp only[qdl,h1,h2,Bool.true_and])⟩
def insR (x:V):List V→List V
 | []=>[x]
 | y::ys=>if cmpV x y<0 then y::insR x ys else x::y::ys
def qjL (acc l:List V):List V:=l.foldl (fun acc x=>insR x acc) acc
theorem qgP (acc l:List V)(x:V):qjL acc (x::l)=qjL (insR x acc) l:=rfl
def v0:V:=.mk 0 []
end
end Go.Proofs.YtoeeppojakbciaaGreat
