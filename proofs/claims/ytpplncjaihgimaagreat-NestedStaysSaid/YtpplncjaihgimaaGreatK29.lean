/- Contracts of functions of the program, for all arguments that they name. -/
import Derived.Test.YtpplncjaihgimaaGreatK09
import Derived.Test.YtpplncjaihgimaaGreatK11
import Derived.Test.YtpplncjaihgimaaGreatK13
import Derived.Test.YtpplncjaihgimaaGreatK21c
namespace Go.Proofs.YtpplncjaihgimaaGreat
set_option linter.unusedVariables false
section
open Go.RowKit
set_option maxHeartbeats 2000000
attribute [local simp] qay
theorem getD_mem' {α:Type}{l:List α}{d:α}{i:Nat}(h:i<l.length):l.getD i d∈l:=by
 rw[List.getD_eq_getElem?_getD,List.getElem?_eq_getElem h]
 exact List.getElem_mem h
mutual
def cntV:V→Nat
 | .mk _ ks=>1+cntL ks
def cntL:List V→Nat
 | []=>0
 | k::ks=>cntV k+cntL ks
end
mutual
theorem qnX:∀(v:V) (most:Int),((cntV v:Int)≤most→qbt v most=cntV v)∧(most<cntV v→most<qbt v most)
 | .mk a ks,most=>by
  have h:=qlo ks 1 most
  simp only[qbt,cntV]
  refine⟨fun h1=>?_,fun h1=>h.2 (by omega)⟩
  have:=h.1 (by omega)
  omega
theorem qlo:∀(ks:List V) (n most:Int),(n+cntL ks≤most→qcI ks n most=n+cntL ks)∧(most<n+cntL ks→most<qcI ks n most)
 | [],n,most=>by
  simp only[qcI,cntL]
  omega
 | k::ks,n,most=>by
  have h1:=qnX k (most - n)
  simp only[qcI,cntL]
  by_cases hn:n≤most
  ·rw[if_pos hn]
   have h2:=qlo ks (n+qbt k (most - n)) most
   by_cases hk:(cntV k:Int)≤most - n
   ·have h3:=h1.1 hk
    rw[h3] at h2 ⊢
    refine⟨fun h=>?_,fun h=>h2.2 (by omega)⟩
    have:=h2.1 (by omega)
    omega
   ·have h3:=h1.2 (by omega)
    exact⟨fun h=>by omega,fun h=>h2.2 (by omega)⟩
  ·rw[if_neg hn]
   exact⟨fun h=>by omega,fun h=>by omega⟩
end
theorem qnY (v:V)(most:Int):qbt v most≤most↔(cntV v:Int)≤most:=by
 have:=qnX v most
 constructor
 ·intro h
  rcases Int.lt_or_le most (cntV v) with h1 | h1
  ·have:=this.2 h1;omega
  ·exact h1
 ·intro h
  have:=this.1 h;omega
theorem qi1:∀ks:List V,cntL ks=(ks.map cntV).sum
 | []=>rfl
 | k::ks=>by rw[cntL,qi1 ks,List.map_cons,List.sum_cons]
theorem qpQ {l k:List V}(h:l.Perm k):cntL l=cntL k:=by
 rw[qi1,qi1]
 exact (h.map _).sum_nat
theorem qmR:∀(l k:List V),l.length=k.length→(∀j,j<l.length→cntV (l.getD j v0)=cntV (k.getD j v0))→cntL l=cntL k
 | [],[],_,_=>rfl
 | [],_::_,h,_=>by simp at h
 | _::_,[],h,_=>by simp at h
 | x::l,y::k,h,hj=>by
  have h0:=hj 0 (by simp)
  have:=qmR l k (by simpa using h) fun j h2=>by simpa using hj (j+1) (by simpa using h2)
  simp only[List.getD_cons_zero] at h0
  rw[cntL,cntL,h0,this]
theorem qjZ:∀(ps:List Ty) (ks:List V) (j:Nat),j<ks.length→(qcl ps ks).getD j v0=if j<ps.length then qbi (ps.getD j tyD) (ks.getD j v0) else ks.getD j v0
 | [],ks,j,h=>by rw[qcl];simp
 | p::ps,[],j,h=>by simp at h
 | p::ps,k::ks,0,h=>by rw[qcl];simp
 | p::ps,k::ks,j+1,h=>by
  have:=qjZ ps ks j (by simpa using h)
  rw[qcl]
  simpa using this
theorem qod {k s:Int}{rs:List Int}{ps:List Ty}{j:Nat}(h:j<ps.length):SizeOf.sizeOf (ps.getD j tyD)<SizeOf.sizeOf (Ty.mk k s rs ps):=qds (getD_mem' h) k s rs
theorem qs9 (k:Int)(ps:List Ty)(ks:List V)(j:Nat)(h:j<ks.length):(rowOf k ps ks).getD j v0=(if k=3 then (if j<ps.length then qbi (ps.getD j tyD) (ks.getD j v0) else ks.getD j v0) else if k=4∨k=5 then (if 0<ps.length then qbi (ps.getD 0 tyD) (ks.getD j v0) else ks.getD j v0) else ks.getD j v0):=by
 rw[rowOf]
 by_cases k3:k=3
 ·rw[if_pos k3,if_pos k3,qjZ ps ks j h]
 ·rw[if_neg k3,if_neg k3]
  by_cases k4:k=4
  ·rw[if_pos k4,if_pos (.inl k4)]
   rcases ps with _ | ⟨p,ps⟩<;>simp[qd8,List.getD_eq_getElem?_getD,List.getElem?_eq_getElem h]
  ·rw[if_neg k4]
   by_cases k5:k=5
   ·rw[if_pos k5,if_pos (.inr k5)]
    rcases ps with _ | ⟨p,ps⟩<;>simp[qd8,List.getD_eq_getElem?_getD,List.getElem?_eq_getElem h]
   ·rw[if_neg k5,if_neg (by omega)]
theorem qhc:∀(t:Ty) (v:V),cntV (qbi t v)=cntV v
 | .mk k s rs ps,.mk N ks=>by
  have hr:cntL (rowOf k ps ks)=cntL ks:=by
   refine qmR _ _ (qey k ps ks) fun j hj=>?_
   have hj':j<ks.length:=by rw[qey] at hj;exact hj
   rw[qs9 k ps ks j hj']
   by_cases k3:k=3
   ·rw[if_pos k3]
    by_cases hp:j<ps.length
    ·rw[if_pos hp];exact qhc (ps.getD j tyD) (ks.getD j v0)
    ·rw[if_neg hp]
   ·rw[if_neg k3]
    by_cases k4:k=4∨k=5
    ·rw[if_pos k4]
     by_cases hp:0<ps.length
     ·rw[if_pos hp];exact qhc (ps.getD 0 tyD) (ks.getD j v0)
     ·rw[if_neg hp]
    ·rw[if_neg k4]
  rw[qb4]
  split
  ·rw[cntV,cntV]
   have:(qcg [] (rowOf k ps ks)).reverse.Perm (rowOf k ps ks):=qbJ _
   rw[qpQ this,hr]
  ·rw[cntV,cntV,hr]
termination_by t=>SizeOf.sizeOf t
decreasing_by all_goals exact qod hp
def StepA (k:Int)(ps:List Ty)(j:Nat)(x r:V):Prop:=
 (k=3∧j<ps.length∧TP Tryz.prog 116 [qal (ps.getD j tyD),encV x] (encV r))∨((k=4∨k=5)∧0<ps.length∧TP Tryz.prog 116 [qal (ps.getD 0 tyD),encV x] (encV r))∨(¬(k=3∧j<ps.length)∧k≠4∧k≠5∧r=x∧x.fit)
abbrev tySv (k s:Int)(rs:List Int)(ps:List Ty):Slot:=.live ⟨50,[.int .i64 k,.int .i64 s,.list (qab rs),.list (qak ps)]⟩
abbrev vSv (N:Int)(ks:List V):Slot:=.live ⟨25,[.int .i64 N,.list (qac ks)]⟩
abbrev oSv (N:Int)(x:T):Slot:=.live ⟨25,[.int .i64 N,x]⟩
set_option maxHeartbeats 4000000 in
theorem qr2 (k s N:Int)(rs:List Int)(ps:List Ty)(hps:ps.length≤1000000)(xs:List (V×V))(hl:xs.length≤1000000)(hst:∀j,j<xs.length→StepA k ps j (xs.getD j (v0,v0)).1 (xs.getD j (v0,v0)).2)(Q:IExit→(Nat→T)→Heap→Prop):∀(rest pre:List (V×V)) (n:Nat),xs=pre++rest→pre.length=n→
 (∀i:Int,Q (.exit 0) (ofL [(2,.ref 0 4 0),(4,.ref 2 2 0),(5,.ref 103 2 0),(12,.list (qac (xs.map (·.1)))),(13,.int .i64 xs.length),(14,.int .i64 i),(15,.bool false)]) (hpL ([(0,tySv k s rs ps),(1,vSv N (xs.map (·.1))),(2,oSv 0 .nil),(103,oSv N (rowT 1004 (xs.map (·.2))))]++rowH 1004 25 (xs.map (·.2)))))→
 WL Tryz.prog 68 qcv (ofL [(2,.ref 0 4 0),(4,.ref 2 2 0),(5,.ref 103 2 0),(12,.list (qac (xs.map (·.1)))),(13,.int .i64 xs.length),(14,.int .i64 n)]) (hpL ([(0,tySv k s rs ps),(1,vSv N (xs.map (·.1))),(2,oSv 0 .nil),(103,oSv N (rowT 1004 (pre.map (·.2))))]++rowH 1004 25 (pre.map (·.2)))) Q:=by
 have hbl:(qak ps).length=ps.length:=qap ps
 have hal:(qac (xs.map (·.1))).length=xs.length:=by rw[qag,List.length_map]
 intro rest
 induction rest with
 | nil=>
  intro pre n he hn hQ
  have hd:decide ((n:Int)<(xs.length:Int))=false:=by simp[he,hn]
  simp only[List.append_nil] at he
  subst he
  simp only[List.cons_append,List.nil_append] at hQ ⊢
  have fX:=@hd
  refine qaa qcv.eq_1 ?_
  refine wR0 300 [2,4,5,12,13,14,15] fX ?_
  refine wF @hd ?_
  refine wX ?_
  refine wN ?_
  exact hQ _
 | cons q rest ih=>
  intro pre n he hn hQ
  have hnx:n<xs.length:=by rw[he];simp;omega
  have hlt:(n:Int)<(xs.length:Int):=by omega
  have hd:decide ((n:Int)<(xs.length:Int))=true:=decide_eq_true hlt
  have hq:xs.getD n (v0,v0)=q:=by rw[he,←hn];simp[List.getD_eq_getElem?_getD]
  have hs0:=hst n hnx
  rw[hq] at hs0
  rcases q with⟨⟨a,bs⟩,⟨c,ds⟩⟩
  simp only at hs0
  have hg:(qac (xs.map (·.1))).getD (n:Int).toNat .undef=.agg [.int .i64 a,.list (qac bs)]:=by
   rw[Int.toNat_natCast,he,List.map_append,List.map_cons,←hn]
   have:=qaU (pre.map (·.1)) (V.mk a bs) (rest.map (·.1))
   rw[List.length_map] at this
   exact this
  have hw:IntKind.wrap .i64 ((n:Int)+1)=((n+1:Nat):Int):=by rw[wrap64 (by omega) (by omega)];rfl
  have hlb:n≤1000000:=by omega
  simp only[List.cons_append,List.nil_append]
  rcases hs0 with⟨hk,hj,hc⟩ | ⟨hk,hj,hc⟩ | ⟨h1,h2,h3,h4,h5⟩
  ·have g1:=qhl ps n hj
   rcases hp:ps.getD n tyD with⟨pk,p2,p3,p4⟩
   rw[hp] at g1 hc
   simp only[qal,encV] at g1 hc
   have hk3:(k==3)=true:=by simp[hk]
   have hdj:decide ((n:Int)<(ps.length:Int))=true:=decide_eq_true (by omega)
   have hjb:(n:Int)<(ps.length:Int):=by omega
   cases pre with
   | nil=>
    simp only[List.map_nil,rowT,rowH]
    have fX:=(cJ8 @hd @hg @hw @encV.eq_1 @hal @hbl @qaI (cJ3 @g1 @hk3 @hdj))
    refine qaa qcv.eq_1 ?_
    refine W_gc ?_
    refine wR0 300 [2,4,5,12,13,14,15] fX ?_
    refine wT fX ?_
    refine wR0 400 [2,4,5,6,7,12,13,14] fX ?_
    refine wR0 500 [2,4,5,6,7,12,13,14,21] fX ?_
    refine wT fX ?_
    refine wRn 600 [2,4,5,7,12,13,14] fX ?_
    refine rC fX ?_
    refine⟨_,hc,rE fX ?_⟩
    refine wR0 1000 [2,4,5,12,13,14] fX ?_
    refine wR0 1100 [2,4,5,12,13,14] fX ?_
    refine wN ?_
    refine qaC [0,1,2,103,1004] (by simp[inL]) (by simp[inL,T.cl]) (by simp[qam,inL,Slot.cl,T.cl,clL,qae,qaG,qai]) ?_
    have:=ih [(V.mk a bs,V.mk c ds)] (n+1) (by simpa using he) (by simp at hn;simp;omega) hQ
    simpa [qam,inL,rowT,rowH,qaq,V.n,V.kids] using this
   | cons p pre=>
    have hp:pre.length+1≤1000000:=by simp at hn;omega
    simp only[List.map_cons,rowT,rowH,List.length_map]
    have fX:=(cJ8 @hd @hg @hw @encV.eq_1 @hal @hbl @qaz (cJ5 @qaI @List.length_map.{0,0} @g1 @hk3 @hdj))
    refine qaa qcv.eq_1 ?_
    refine W_gc ?_
    refine wR0 300 [2,4,5,12,13,14,15] fX ?_
    refine wT fX ?_
    refine wR0 400 [2,4,5,6,7,12,13,14] fX ?_
    refine wR0 500 [2,4,5,6,7,12,13,14,21] fX ?_
    refine wT fX ?_
    refine wRn 600 [2,4,5,7,12,13,14] fX ?_
    refine rC fX ?_
    refine⟨_,hc,rE fX ?_⟩
    refine wR0 1000 [2,4,5,12,13,14] fX ?_
    refine wR0 1100 [2,4,5,12,13,14] fX ?_
    refine wN ?_
    refine qaC [0,1,2,103,1004] (by simp[inL]) (by simp[inL,T.cl]) (by simp[qam,inL,Slot.cl,T.cl,clL,qay,qao,qae,qaG,qai]) ?_
    have:=ih (p::(pre++[(V.mk a bs,V.mk c ds)])) (n+1) (by simpa using he) (by simp at hn;simp;omega) hQ
    have hs:qaq (p.2::(pre.map (fun x:V×V=>x.2)++[V.mk c ds]))=qaq (p.2::pre.map (fun x:V×V=>x.2))++[.int .i64 c,.list (qac ds)]:=qbk (p.2::pre.map (fun x:V×V=>x.2)) (.mk c ds)
    have hm:(pre.length+1+1)*2=(pre.length+1)*2+2:=(by omega)
    simp only[List.map_cons,List.map_append,List.map_nil,rowT,rowH,hs,List.length_append,List.length_map,List.length_cons,List.length_nil,Nat.zero_add,hm] at this
    simpa [qam,inL] using this
  ·have g1:(qak ps).getD (0:Int).toNat .undef=qal (ps.getD 0 tyD):=qhl ps 0 hj
   rcases hp:ps.getD 0 tyD with⟨pk,p2,p3,p4⟩
   rw[hp] at g1 hc
   simp only[qal,encV] at g1 hc
   have hk3:(k==3)=false:=by rcases hk with rfl | rfl<;>rfl
   have hjb:(0:Int)<(ps.length:Int):=by omega
   rcases hk with rfl | rfl
   ·have hk4:((4:Int)==4)=true:=rfl
    cases pre with
    | nil=>
     simp only[List.map_nil,rowT,rowH]
     have fX:=(cJ8 @hd @hg @hw @encV.eq_1 @hal @hbl @qaI (cJ3 @g1 @hk3 @hk4))
     refine qaa qcv.eq_1 ?_
     refine W_gc ?_
     refine wR0 300 [2,4,5,12,13,14,15] fX ?_
     refine wT fX ?_
     refine wR0 400 [2,4,5,6,7,12,13,14] fX ?_
     refine wR0 500 [2,4,5,6,7,12,13,14,21] fX ?_
     refine wF fX ?_
     refine wR0 700 [2,4,5,7,12,13,14,39] fX ?_
     refine wT fX ?_
     refine wRn 800 [2,4,5,7,12,13,14] fX ?_
     refine rC fX ?_
     refine⟨_,hc,rE fX ?_⟩
     refine wR0 1000 [2,4,5,12,13,14] fX ?_
     refine wR0 1100 [2,4,5,12,13,14] fX ?_
     refine wN ?_
     refine qaC [0,1,2,103,1004] (by simp[inL]) (by simp[inL,T.cl]) (by simp[qam,inL,Slot.cl,T.cl,clL,qae,qaG,qai]) ?_
     have:=ih [(V.mk a bs,V.mk c ds)] (n+1) (by simpa using he) (by simp at hn;simp;omega) hQ
     simpa [qam,inL,rowT,rowH,qaq,V.n,V.kids] using this
    | cons p pre=>
     have hp:pre.length+1≤1000000:=by simp at hn;omega
     simp only[List.map_cons,rowT,rowH,List.length_map]
     have fX:=(cJ8 @hd @hg @hw @encV.eq_1 @hal @hbl @qaz (cJ5 @qaI @List.length_map.{0,0} @g1 @hk3 @hk4))
     refine qaa qcv.eq_1 ?_
     refine W_gc ?_
     refine wR0 300 [2,4,5,12,13,14,15] fX ?_
     refine wT fX ?_
     refine wR0 400 [2,4,5,6,7,12,13,14] fX ?_
     refine wR0 500 [2,4,5,6,7,12,13,14,21] fX ?_
     refine wF fX ?_
     refine wR0 700 [2,4,5,7,12,13,14,39] fX ?_
     refine wT fX ?_
     refine wRn 800 [2,4,5,7,12,13,14] fX ?_
     refine rC fX ?_
     refine⟨_,hc,rE fX ?_⟩
     refine wR0 1000 [2,4,5,12,13,14] fX ?_
     refine wR0 1100 [2,4,5,12,13,14] fX ?_
     refine wN ?_
     refine qaC [0,1,2,103,1004] (by simp[inL]) (by simp[inL,T.cl]) (by simp[qam,inL,Slot.cl,T.cl,clL,qay,qao,qae,qaG,qai]) ?_
     have:=ih (p::(pre++[(V.mk a bs,V.mk c ds)])) (n+1) (by simpa using he) (by simp at hn;simp;omega) hQ
     have hs:qaq (p.2::(pre.map (fun x:V×V=>x.2)++[V.mk c ds]))=qaq (p.2::pre.map (fun x:V×V=>x.2))++[.int .i64 c,.list (qac ds)]:=qbk (p.2::pre.map (fun x:V×V=>x.2)) (.mk c ds)
     have hm:(pre.length+1+1)*2=(pre.length+1)*2+2:=(by omega)
     simp only[List.map_cons,List.map_append,List.map_nil,rowT,rowH,hs,List.length_append,List.length_map,List.length_cons,List.length_nil,Nat.zero_add,hm] at this
     simpa [qam,inL] using this
   ·have hk4:((5:Int)==4)=false:=rfl
    have hk5:((5:Int)==5)=true:=rfl
    cases pre with
    | nil=>
     simp only[List.map_nil,rowT,rowH]
     have fX:=(cJ8 @hd @hg @hw @encV.eq_1 @hal @hbl @qaI (cJ4 @g1 @hk3 @hk4 @hk5))
     refine qaa qcv.eq_1 ?_
     refine W_gc ?_
     refine wR0 300 [2,4,5,12,13,14,15] fX ?_
     refine wT fX ?_
     refine wR0 400 [2,4,5,6,7,12,13,14] fX ?_
     refine wR0 500 [2,4,5,6,7,12,13,14,21] fX ?_
     refine wF fX ?_
     refine wR0 700 [2,4,5,7,12,13,14,39] fX ?_
     refine wT fX ?_
     refine wRn 800 [2,4,5,7,12,13,14] fX ?_
     refine rC fX ?_
     refine⟨_,hc,rE fX ?_⟩
     refine wR0 1000 [2,4,5,12,13,14] fX ?_
     refine wR0 1100 [2,4,5,12,13,14] fX ?_
     refine wN ?_
     refine qaC [0,1,2,103,1004] (by simp[inL]) (by simp[inL,T.cl]) (by simp[qam,inL,Slot.cl,T.cl,clL,qae,qaG,qai]) ?_
     have:=ih [(V.mk a bs,V.mk c ds)] (n+1) (by simpa using he) (by simp at hn;simp;omega) hQ
     simpa [qam,inL,rowT,rowH,qaq,V.n,V.kids] using this
    | cons p pre=>
     have hp:pre.length+1≤1000000:=by simp at hn;omega
     simp only[List.map_cons,rowT,rowH,List.length_map]
     have fX:=(cJ8 @hd @hg @hw @encV.eq_1 @hal @hbl @qaz (cJ6 @qaI @List.length_map.{0,0} @g1 @hk3 @hk4 @hk5))
     refine qaa qcv.eq_1 ?_
     refine W_gc ?_
     refine wR0 300 [2,4,5,12,13,14,15] fX ?_
     refine wT fX ?_
     refine wR0 400 [2,4,5,6,7,12,13,14] fX ?_
     refine wR0 500 [2,4,5,6,7,12,13,14,21] fX ?_
     refine wF fX ?_
     refine wR0 700 [2,4,5,7,12,13,14,39] fX ?_
     refine wT fX ?_
     refine wRn 800 [2,4,5,7,12,13,14] fX ?_
     refine rC fX ?_
     refine⟨_,hc,rE fX ?_⟩
     refine wR0 1000 [2,4,5,12,13,14] fX ?_
     refine wR0 1100 [2,4,5,12,13,14] fX ?_
     refine wN ?_
     refine qaC [0,1,2,103,1004] (by simp[inL]) (by simp[inL,T.cl]) (by simp[qam,inL,Slot.cl,T.cl,clL,qay,qao,qae,qaG,qai]) ?_
     have:=ih (p::(pre++[(V.mk a bs,V.mk c ds)])) (n+1) (by simpa using he) (by simp at hn;simp;omega) hQ
     have hs:qaq (p.2::(pre.map (fun x:V×V=>x.2)++[V.mk c ds]))=qaq (p.2::pre.map (fun x:V×V=>x.2))++[.int .i64 c,.list (qac ds)]:=qbk (p.2::pre.map (fun x:V×V=>x.2)) (.mk c ds)
     have hm:(pre.length+1+1)*2=(pre.length+1)*2+2:=(by omega)
     simp only[List.map_cons,List.map_append,List.map_nil,rowT,rowH,hs,List.length_append,List.length_map,List.length_cons,List.length_nil,Nat.zero_add,hm] at this
     simpa [qam,inL] using this
  ·simp only[V.mk.injEq] at h4
   have hc:TP Tryz.prog 166 [.agg [.int .i64 a,.list (qac bs)]] (.agg [.int .i64 c,.list (qac ds)]):=by
    rw[h4.1,h4.2]
    exact qjJ (V.mk a bs) h5
   have hk4:(k==4)=false:=by simpa using h2
   have hk5:(k==5)=false:=by simpa using h3
   by_cases hk:k=3
   ·have hk3:(k==3)=true:=by simp[hk]
    have hdj:decide ((n:Int)<(ps.length:Int))=false:=decide_eq_false (by omega)
    cases pre with
    | nil=>
     simp only[List.map_nil,rowT,rowH]
     have fX:=(cJ8 @hd @hg @hw @encV.eq_1 @hal @hbl @qaI (cJ4 @hk3 @hk4 @hk5 @hdj))
     refine qaa qcv.eq_1 ?_
     refine W_gc ?_
     refine wR0 300 [2,4,5,12,13,14,15] fX ?_
     refine wT fX ?_
     refine wR0 400 [2,4,5,6,7,12,13,14] fX ?_
     refine wR0 500 [2,4,5,6,7,12,13,14,21] fX ?_
     refine wF fX ?_
     refine wR0 700 [2,4,5,7,12,13,14,39] fX ?_
     refine wF fX ?_
     refine wRn 900 [2,4,5,7,12,13,14] fX ?_
     refine rC fX ?_
     refine⟨_,hc,rE fX ?_⟩
     refine wR0 1000 [2,4,5,12,13,14] fX ?_
     refine wR0 1100 [2,4,5,12,13,14] fX ?_
     refine wN ?_
     refine qaC [0,1,2,103,1004] (by simp[inL]) (by simp[inL,T.cl]) (by simp[qam,inL,Slot.cl,T.cl,clL,qae,qaG,qai]) ?_
     have:=ih [(V.mk a bs,V.mk c ds)] (n+1) (by simpa using he) (by simp at hn;simp;omega) hQ
     simpa [qam,inL,rowT,rowH,qaq,V.n,V.kids] using this
    | cons p pre=>
     have hp:pre.length+1≤1000000:=by simp at hn;omega
     simp only[List.map_cons,rowT,rowH,List.length_map]
     have fX:=(cJ8 @hd @hg @hw @encV.eq_1 @hal @hbl @qaz (cJ6 @qaI @List.length_map.{0,0} @hk3 @hk4 @hk5 @hdj))
     refine qaa qcv.eq_1 ?_
     refine W_gc ?_
     refine wR0 300 [2,4,5,12,13,14,15] fX ?_
     refine wT fX ?_
     refine wR0 400 [2,4,5,6,7,12,13,14] fX ?_
     refine wR0 500 [2,4,5,6,7,12,13,14,21] fX ?_
     refine wF fX ?_
     refine wR0 700 [2,4,5,7,12,13,14,39] fX ?_
     refine wF fX ?_
     refine wRn 900 [2,4,5,7,12,13,14] fX ?_
     refine rC fX ?_
     refine⟨_,hc,rE fX ?_⟩
     refine wR0 1000 [2,4,5,12,13,14] fX ?_
     refine wR0 1100 [2,4,5,12,13,14] fX ?_
     refine wN ?_
     refine qaC [0,1,2,103,1004] (by simp[inL]) (by simp[inL,T.cl]) (by simp[qam,inL,Slot.cl,T.cl,clL,qay,qao,qae,qaG,qai]) ?_
     have:=ih (p::(pre++[(V.mk a bs,V.mk c ds)])) (n+1) (by simpa using he) (by simp at hn;simp;omega) hQ
     have hs:qaq (p.2::(pre.map (fun x:V×V=>x.2)++[V.mk c ds]))=qaq (p.2::pre.map (fun x:V×V=>x.2))++[.int .i64 c,.list (qac ds)]:=qbk (p.2::pre.map (fun x:V×V=>x.2)) (.mk c ds)
     have hm:(pre.length+1+1)*2=(pre.length+1)*2+2:=(by omega)
     simp only[List.map_cons,List.map_append,List.map_nil,rowT,rowH,hs,List.length_append,List.length_map,List.length_cons,List.length_nil,Nat.zero_add,hm] at this
     simpa [qam,inL] using this
   ·have hk3:(k==3)=false:=by simpa using hk
    cases pre with
    | nil=>
     simp only[List.map_nil,rowT,rowH]
     have fX:=(cJ8 @hd @hg @hw @encV.eq_1 @hal @hbl @qaI (cJ3 @hk3 @hk4 @hk5))
     refine qaa qcv.eq_1 ?_
     refine W_gc ?_
     refine wR0 300 [2,4,5,12,13,14,15] fX ?_
     refine wT fX ?_
     refine wR0 400 [2,4,5,6,7,12,13,14] fX ?_
     refine wR0 500 [2,4,5,6,7,12,13,14,21] fX ?_
     refine wF fX ?_
     refine wR0 700 [2,4,5,7,12,13,14,39] fX ?_
     refine wF fX ?_
     refine wRn 900 [2,4,5,7,12,13,14] fX ?_
     refine rC fX ?_
     refine⟨_,hc,rE fX ?_⟩
     refine wR0 1000 [2,4,5,12,13,14] fX ?_
     refine wR0 1100 [2,4,5,12,13,14] fX ?_
     refine wN ?_
     refine qaC [0,1,2,103,1004] (by simp[inL]) (by simp[inL,T.cl]) (by simp[qam,inL,Slot.cl,T.cl,clL,qae,qaG,qai]) ?_
     have:=ih [(V.mk a bs,V.mk c ds)] (n+1) (by simpa using he) (by simp at hn;simp;omega) hQ
     simpa [qam,inL,rowT,rowH,qaq,V.n,V.kids] using this
    | cons p pre=>
     have hp:pre.length+1≤1000000:=by simp at hn;omega
     simp only[List.map_cons,rowT,rowH,List.length_map]
     have fX:=(cJ8 @hd @hg @hw @encV.eq_1 @hal @hbl @qaz (cJ5 @qaI @List.length_map.{0,0} @hk3 @hk4 @hk5))
     refine qaa qcv.eq_1 ?_
     refine W_gc ?_
     refine wR0 300 [2,4,5,12,13,14,15] fX ?_
     refine wT fX ?_
     refine wR0 400 [2,4,5,6,7,12,13,14] fX ?_
     refine wR0 500 [2,4,5,6,7,12,13,14,21] fX ?_
     refine wF fX ?_
     refine wR0 700 [2,4,5,7,12,13,14,39] fX ?_
     refine wF fX ?_
     refine wRn 900 [2,4,5,7,12,13,14] fX ?_
     refine rC fX ?_
     refine⟨_,hc,rE fX ?_⟩
     refine wR0 1000 [2,4,5,12,13,14] fX ?_
     refine wR0 1100 [2,4,5,12,13,14] fX ?_
     refine wN ?_
     refine qaC [0,1,2,103,1004] (by simp[inL]) (by simp[inL,T.cl]) (by simp[qam,inL,Slot.cl,T.cl,clL,qay,qao,qae,qaG,qai]) ?_
     have:=ih (p::(pre++[(V.mk a bs,V.mk c ds)])) (n+1) (by simpa using he) (by simp at hn;simp;omega) hQ
     have hs:qaq (p.2::(pre.map (fun x:V×V=>x.2)++[V.mk c ds]))=qaq (p.2::pre.map (fun x:V×V=>x.2))++[.int .i64 c,.list (qac ds)]:=qbk (p.2::pre.map (fun x:V×V=>x.2)) (.mk c ds)
     have hm:(pre.length+1+1)*2=(pre.length+1)*2+2:=(by omega)
     simp only[List.map_cons,List.map_append,List.map_nil,rowT,rowH,hs,List.length_append,List.length_map,List.length_cons,List.length_nil,Nat.zero_add,hm] at this
     simpa [qam,inL] using this
set_option maxHeartbeats 4000000 in
theorem qpB:∀(t:Ty) (v:V) (d:Int),t.fit→v.fit→qar t d=true→TP Tryz.prog 116 [qal t,encV v] (encV (qbi t v))
 | .mk k s rs ps,.mk N ks,d,ht,hv,hval=>by
  obtain⟨hf1,hf2,hf3⟩:=Ty.fit_all ht
  have hv':=V.fit_kids hv
  simp only[V.kids] at hv'
  have hrl:=qey k ps ks
  have hrf:=qlh k ps ks hv'.2
  have hst:∀j,j<(ks.zip (rowOf k ps ks)).length→StepA k ps j ((ks.zip (rowOf k ps ks)).getD j (v0,v0)).1 ((ks.zip (rowOf k ps ks)).getD j (v0,v0)).2:=fun j hj=>by
   have hj':j<ks.length:=by simpa [hrl] using hj
   have e:(ks.zip (rowOf k ps ks)).getD j (v0,v0)=(ks.getD j v0,(rowOf k ps ks).getD j v0):=by
    have h2:j<(rowOf k ps ks).length:=by omega
    simp[List.getD_eq_getElem?_getD,List.getElem?_eq_getElem hj',List.getElem?_eq_getElem h2,List.getElem?_eq_getElem hj]
   rw[e]
   have hkf:(ks.getD j v0).fit:=hv'.2 _ (getD_mem' hj')
   simp only
   by_cases k3:k=3
   ·have hvp:=qfy k3 hval
    rw[rowOf,if_pos k3,qjZ ps ks j hj']
    by_cases hjp:j<ps.length
    ·rw[if_pos hjp]
     have hm:=getD_mem' (d:=tyD) hjp
     exact .inl ⟨k3,hjp,qpB (ps.getD j tyD) (ks.getD j v0) (d - 1) (hf3 _ hm) hkf (qbV hvp _ hm)⟩
    ·rw[if_neg hjp]
     exact .inr (.inr ⟨fun h=>hjp h.2,by omega,by omega,rfl,hkf⟩)
   ·by_cases k45:k=4∨k=5
    ·obtain⟨p,hp,hvp⟩:=qdW k45 hval
     subst hp
     have e2:rowOf k [p] ks=ks.map fun v=>qbi p v:=by
      rcases k45 with rfl | rfl<;>rw[rowOf,if_neg k3]<;>simp[qd8]
     rw[e2]
     have e3:(ks.map fun v=>qbi p v).getD j v0=qbi p (ks.getD j v0):=by simp[List.getD_eq_getElem?_getD,List.getElem?_eq_getElem hj']
     rw[e3]
     exact .inr (.inl ⟨k45,by simp,qpB p (ks.getD j v0) (d - 1) (hf3 _ (by simp)) hkf hvp⟩)
    ·have e2:rowOf k ps ks=ks:=by rw[rowOf,if_neg k3,if_neg (fun h=>k45 (.inl h)),if_neg (fun h=>k45 (.inr h))]
     rw[e2]
     exact .inr (.inr ⟨fun h=>k3 h.1,fun h=>k45 (.inl h),fun h=>k45 (.inr h),rfl,hkf⟩)
  have hm1:(ks.zip (rowOf k ps ks)).map (·.1)=ks:=by rw[List.map_fst_zip];omega
  have hm2:(ks.zip (rowOf k ps ks)).map (·.2)=rowOf k ps ks:=by rw[List.map_snd_zip];omega
  have hzl:(ks.zip (rowOf k ps ks)).length=ks.length:=by simp[hrl]
  have hkl:(qac ks).length=ks.length:=qag ks
  have hlp:=fun Q=>qr2 k s N rs ps hf2 (ks.zip (rowOf k ps ks)) (by omega) hst Q _ [] 0 rfl rfl
  rw[hm1,hm2,hzl] at hlp
  simp only[List.map_nil,rowT,rowH,List.append_nil] at hlp
  rw[qb4]
  rcases hk5:k==5 with _ | _
  ·have k5:k≠5:=by simpa using hk5
   rw[if_neg k5]
   have fX:=(cJ2 @hk5 @hkl)
   refine qan quz (by simp) ?_
   unfold i116
   simp only[argL,encV,qal]
   refine wR0 0 [2,3,4] fX ?_
   refine wR0 100 [2,3,4,5] fX ?_
   refine wR0 200 [2,4,5,12,13,14] fX ?_
   refine wL ?_
   refine hlp _ ?_
   ·intro i
    refine wN ?_
    refine wN ?_
    rcases hR:rowOf k ps ks with _ | ⟨p,pre⟩
    ·skip
     refine wN ?_
     simp only[List.cons_append,List.nil_append]
     refine wR0 1200 [4,5,63] fX ?_
     refine wF fX ?_
     refine wR0 1400 [4] fX ?_
     refine wP ?_
     first | exact qaS .nil rfl | exact qaS (qbS _ rfl rfl rfl) rfl
    ·skip
     refine wN ?_
     simp only[List.cons_append,List.nil_append]
     refine wR0 1200 [4,5,63] fX ?_
     refine wF fX ?_
     refine wR0 1400 [4] fX ?_
     refine wP ?_
     first | exact qaS .nil rfl | exact qaS (qbS _ rfl rfl rfl) rfl
  ·have k5:k=5:=by simpa using hk5
   rw[if_pos k5]
   rcases hR:rowOf k ps ks with _ | ⟨p,pre⟩
   ·rw[hR] at hlp
    simp only[List.append_nil] at hlp
    have fX:=(cJ2 @hk5 @hkl)
    refine qan quz (by simp) ?_
    unfold i116
    simp only[argL,encV,qal]
    refine wR0 0 [2,3,4] fX ?_
    refine wR0 100 [2,3,4,5] fX ?_
    refine wR0 200 [2,4,5,12,13,14] fX ?_
    refine wL ?_
    refine hlp _ ?_
    ·intro i
     refine wN ?_
     refine wR0 1200 [4,5,63] fX ?_
     refine wT fX ?_
     refine wRn 1300 [4,5] fX ?_
     refine rC fX ?_
     refine⟨_,qgA _,rE fX ?_⟩
     refine wR0 1400 [4] fX ?_
     refine wP ?_
     exact qaS .nil rfl
   ·rw[hR] at hlp hrl hrf
    have hpl:pre.length+1≤1000000:=by simp at hrl;omega
    have hso:=qn4 1004 25 (p::pre) (by simp) (by simpa using hpl) hrf
    rw[List.length_cons] at hso
    simp only[List.cons_append,List.nil_append] at hlp
    have hsl:(qbu (p::pre)).length=pre.length+1:=by rw[qcJ];rfl
    have e5:(qcg [] (p::pre)).reverse=qbu (p::pre):=rfl
    rw[e5]
    have fX:=(cJ2 @hk5 @hkl)
    refine qan quz (by simp) ?_
    unfold i116
    simp only[argL,encV,qal]
    refine wR0 0 [2,3,4] fX ?_
    refine wR0 100 [2,3,4,5] fX ?_
    refine wR0 200 [2,4,5,12,13,14] fX ?_
    refine wL ?_
    refine hlp _ ?_
    ·intro i
     refine wN ?_
     refine wR0 1200 [4,5,63] fX ?_
     refine wT fX ?_
     refine wRn 1300 [4,5] fX ?_
     refine rU [(1004,.live ⟨25,qaq (p::pre)⟩)] [(1004,.live ⟨25,qaq (qbu (p::pre))⟩)] fX ?_
     refine⟨_,hso.full1,rE fX ?_⟩
     refine wR0 1400 [4] fX ?_
     refine wP ?_
     exact qaS (qbS (qbu (p::pre)) rfl (by rw[hsl]) (by rw[hsl])) rfl
termination_by t=>SizeOf.sizeOf t
decreasing_by all_goals first | exact qod hjp | (subst hp;exact qds (by simp) k s rs)
theorem qoU (t:Ty)(v:V)(ht:t.fit)(hv:v.fit):TP Tryz.prog 66 [qal t,encV v] (.tup [encV (qaX t v).1,.int .i64 (qaX t v).2]):=by
 have hck:=qkW t ht
 have hsz:=qnF v hv
 rcases hvt:qar t 8 with _ | _
 ·have hc:qba t=6:=by simp[qba,hvt]
  have hr:qaX t v=(v0,6):=by rw[qaX,if_pos hvt]
  rw[hc] at hck
  rw[hr]
  have hz:((6:Int) != 0)=true:=rfl
  rcases t with⟨k,s,rs,ps⟩
  rcases v with⟨N,ks⟩
  have fX:=@hz
  refine qan fn66 (by simp) ?_
  unfold i66
  simp only[argL,encV,qal]
  refine wR0 0 [2,3,4] fX ?_
  refine wRn 100 [2,3,4,6] fX ?_
  refine rC fX ?_
  refine⟨_,hck,rE fX ?_⟩
  refine wR0 200 [2,3,4,6,11] fX ?_
  refine wT fX ?_
  refine wR0 300 [4,5] fX ?_
  refine wP ?_
  exact Frz.tupL (.cons (.aggL (.cons (.same rfl) (.cons .nil .nil)) rfl) (.cons (.same rfl) .nil))
 ·have hc:qba t=0:=by simp[qba,hvt]
  rw[hc] at hck
  have hz:((0:Int) != 0)=false:=rfl
  by_cases h2:qbt v 128 > 128
  ·have hr:qaX t v=(v0,5):=by rw[qaX,if_neg (by simp[hvt]),if_pos h2]
   rw[hr]
   have hd:decide (qgy v > 128)=true:=decide_eq_true (by rw[qgy,if_pos h2];omega)
   rcases t with⟨k,s,rs,ps⟩
   rcases v with⟨N,ks⟩
   have fX:=(cJ2 @hz @hd)
   refine qan fn66 (by simp) ?_
   unfold i66
   simp only[argL,encV,qal]
   refine wR0 0 [2,3,4] fX ?_
   refine wRn 100 [2,3,4,6] fX ?_
   refine rC fX ?_
   refine⟨_,hck,rE fX ?_⟩
   refine wR0 200 [2,3,4,6,11] fX ?_
   refine wF fX ?_
   refine wRn 400 [2,3,4,16] fX ?_
   refine rC fX ?_
   refine⟨_,hsz,rE fX ?_⟩
   refine wT fX ?_
   refine wR0 500 [4,5] fX ?_
   refine wP ?_
   exact Frz.tupL (.cons (.aggL (.cons (.same rfl) (.cons .nil .nil)) rfl) (.cons (.same rfl) .nil))
  ·have hd:decide (qgy v > 128)=false:=decide_eq_false (by rw[qgy,if_neg h2];exact h2)
   have har:=qpB t v 8 ht hv hvt
   have hon:=qkY t (qbi t v) 8 ht (qeB t v hv) hvt
   have hval:qaR t (qbi t v)=ofV t (qbi t v):=by
    have h3:qbt (qbi t v) 128≤128:=(qnY _ _).2 (by rw[qhc];exact (qnY _ _).1 (by omega))
    rw[qaR,hc,decide_eq_true h3];rfl
   have hr:qaX t v=if ofV t (qbi t v)=false then (v0,5) else (qbi t v,0):=by
    rw[qaX,if_neg (by simp[hvt]),if_neg h2,hval]
   rw[hr]
   rcases hsv:qbi t v with⟨c,ds⟩
   rw[hsv] at har hon
   rcases hof:ofV t (.mk c ds) with _ | _
   ·rw[hof] at hon
    rw[if_pos rfl]
    rcases t with⟨k,s,rs,ps⟩
    rcases v with⟨N,ks⟩
    simp only[encV,qal] at har hon
    have fX:=(cJ2 @hz @hd)
    refine qan fn66 (by simp) ?_
    unfold i66
    simp only[argL,encV,qal]
    refine wR0 0 [2,3,4] fX ?_
    refine wRn 100 [2,3,4,6] fX ?_
    refine rC fX ?_
    refine⟨_,hck,rE fX ?_⟩
    refine wR0 200 [2,3,4,6,11] fX ?_
    refine wF fX ?_
    refine wRn 400 [2,3,4,16] fX ?_
    refine rC fX ?_
    refine⟨_,hsz,rE fX ?_⟩
    refine wF fX ?_
    refine wRn 600 [2,4,7] fX ?_
    refine rC fX ?_
    refine⟨_,har,rE fX ?_⟩
    refine wRn 700 [4,7,24] fX ?_
    refine rC fX ?_
    refine⟨_,hon,rE fX ?_⟩
    refine wT @Bool.not_false ?_
    refine wR0 800 [4,5] fX ?_
    refine wP ?_
    exact Frz.tupL (.cons (.aggL (.cons (.same rfl) (.cons .nil .nil)) rfl) (.cons (.same rfl) .nil))
   ·rw[hof] at hon
    rw[if_neg (by simp)]
    rcases t with⟨k,s,rs,ps⟩
    rcases v with⟨N,ks⟩
    simp only[encV,qal] at har hon
    have fX:=(cJ2 @hz @hd)
    refine qan fn66 (by simp) ?_
    unfold i66
    simp only[argL,encV,qal]
    refine wR0 0 [2,3,4] fX ?_
    refine wRn 100 [2,3,4,6] fX ?_
    refine rC fX ?_
    refine⟨_,hck,rE fX ?_⟩
    refine wR0 200 [2,3,4,6,11] fX ?_
    refine wF fX ?_
    refine wRn 400 [2,3,4,16] fX ?_
    refine rC fX ?_
    refine⟨_,hsz,rE fX ?_⟩
    refine wF fX ?_
    refine wRn 600 [2,4,7] fX ?_
    refine rC fX ?_
    refine⟨_,har,rE fX ?_⟩
    refine wRn 700 [4,7,24] fX ?_
    refine rC fX ?_
    refine⟨_,hon,rE fX ?_⟩
    refine wF @Bool.not_true ?_
    refine wR0 900 [4,5] fX ?_
    refine wP ?_
    exact Frz.tupL (.cons (.same (by simp[mkEl,esz,T.cl,clL,qai])) (.cons (.same rfl) .nil))
end
end Go.Proofs.YtpplncjaihgimaaGreat
