/- Contracts of functions of the program, for all arguments that they name. -/
import Derived.Test.YtkbjpglehdhjfaaGreatDoorK14
namespace Go.Proofs.YtkbjpglehdhjfaaGreatDoor
set_option linter.unusedVariables false
section
open Go.RowKit
set_option maxHeartbeats 2000000
attribute [local simp] qau qav qaD qaJ qa1 qbo qaB qah
theorem qa5 (D:Nat→Bool)(l:List Ev):clL D (l.flatMap evC)=true:=by
 induction l with
 | nil=>rfl
 | cons x l ih=>rw[List.flatMap_cons,qab,qbo,ih];rfl
theorem qrM (x:Ev):Ones (evC x):=fun c hc=>by
 simp only[evC,List.mem_cons,List.not_mem_nil,or_false] at hc
 rcases hc with rfl | rfl | rfl | rfl | rfl<;>rfl
theorem qdV (l:List Ev):(l.flatMap evC).length=l.length*5:=qch evC 5 (fun _=>rfl) l
theorem qbb {H:Heap}{id ty n tot:Nat}(l:List Ev)(hb:H id=.live ⟨ty,l.flatMap evC⟩)(hn:n=l.length)(ht:tot=l.length*5):Frz H (.sl id tot 5 0 n) (.list (qaG l)):=by
 subst hn ht
 have he:esz 5=5:=rfl
 have hfl:flat (qaG l)=l.flatMap evC:=qfl evC 5 (by omega) (fun _=>rfl) _
 refine .sl hb (qdV l) (by rw[he];omega) (by simp[qaG]) (fun x hx=>?_) ?_ fun k hk=>?_
 ·obtain⟨a,_,rfl⟩:=List.mem_map.1 hx
  rfl
 ·rw[hfl]
  intro c hc
  obtain⟨a,_,hc⟩:=List.mem_flatMap.1 hc
  exact qrM a c hc
 ·rw[hfl,Nat.zero_add]
  exact .same (qbk (qa5 _ l) k)
theorem qdu {H:Heap}{D:Nat→Bool}{id ty:Nat}(x:Int)(hd:D id=false)(hb:H id=.live ⟨ty,[.int .i64 x]⟩):Fz H D (.sl id 1 0 0 1) (.list (qad [x])):=qcR [x] hb hd rfl rfl
def qbt (id:Nat)(done:List Ev):T:=match done with
 | []=>.nil
 | d::ds=>.sl id ((ds.length+1)*5) 5 0 (ds.length+1)
def qbj (id ty:Nat)(done:List Ev):List (Nat×Slot):=match done with
 | []=>[]
 | d::ds=>[(id,.live ⟨ty,(d::ds).flatMap evC⟩)]
theorem qm4 (a b:Int):TP Tryz.prog 139 [.int .i64 a,.int .i64 b] (.list (qad (qcs a b))):=by
 by_cases h1:a=b
 ·have e1:(a==b)=true:=by simpa using h1
  rw[qcs,if_pos h1]
  refine qag qt1 (by simp) ?_
  unfold i139
  simp only[argL]
  refine wR0 0 [0,1] cJ0 ?_
  refine wR0 100 [0,1,5] cJ0 ?_
  refine wT @e1 ?_
  refine wR0 200 [4] cJ0 ?_
  refine wP ?_
  exact qbn [a] rfl rfl rfl
 ·have e1:(a==b)=false:=by simpa using h1
  rw[qcs,if_neg h1]
  by_cases h2:0≤b∧b<a
  ·have e2:decide (b≥0)=true:=decide_eq_true h2.1
   have e3:decide (b<a)=true:=decide_eq_true h2.2
   rw[if_pos h2]
   have fX:=(cJ2 @e2 @e3)
   refine qag qt1 (by simp) ?_
   unfold i139
   simp only[argL]
   refine wR0 0 [0,1] fX ?_
   refine wR0 100 [0,1,5] fX ?_
   refine wF @e1 ?_
   refine wR0 300 [0,1,11] fX ?_
   refine wT fX ?_
   refine wR0 400 [4] fX ?_
   refine wP ?_
   exact qbn [b,a] rfl rfl rfl
  ·have e2:(decide (b≥0)&&decide (b<a))=false:=by
    rw[Bool.eq_false_iff]
    intro e
    rw[Bool.and_eq_true,decide_eq_true_eq,decide_eq_true_eq] at e
    exact h2 ⟨e.1,e.2⟩
   rw[if_neg h2]
   refine qag qt1 (by simp) ?_
   unfold i139
   simp only[argL]
   refine wR0 0 [0,1] cJ0 ?_
   refine wR0 100 [0,1,5] cJ0 ?_
   refine wF @e1 ?_
   refine wR0 300 [0,1,11] cJ0 ?_
   refine wF @e2 ?_
   refine wR0 500 [4] cJ0 ?_
   refine wP ?_
   exact qbn [a,b] rfl rfl rfl
abbrev evE (v:Int)(xs:List Int)(i:Int)(done:List Ev):List (Nat×T):=[(2,.int .i64 v),(4,.ref 1 2 0),(8,.ref 206 3 0),(11,qbt 2511 done),(64,.list (qad xs)),(65,.int .i64 (qad xs).length),(66,.int .i64 i)]
abbrev evH (p:Pg)(i k:Nat)(t:Th)(l:Lne):List (Nat×Slot):=[(0,.live ⟨28,pgC p⟩),(1,.live ⟨102,[.int .i64 (i:Int),.int .i64 (k:Int)]⟩),(106,.live ⟨88,thC t⟩),(206,.live ⟨85,lnC l⟩)]
set_option maxHeartbeats 8000000 in
theorem qgI (p:Pg)(i k:Nat)(t:Th)(l:Lne)(v:Int)(xs:List Int)(hx:xs.length≤100)(Q:IExit→(Nat→T)→Heap→Prop)
 (hQ:∀j:Int,Q (.exit 1) (ofL (evE v xs j (xs.map fun n=>⟨i,k,l.num,v,n⟩)++[(67,.bool false)])) (hpL (evH p i k t l++[(601,.dead)]++qbj 2511 64 (xs.map fun n=>⟨i,k,l.num,v,n⟩)))) :
 ∀(rest pre:List Int),xs=pre++rest→
 WL Tryz.prog 84 qdE (ofL (evE v xs pre.length (pre.map fun n=>⟨i,k,l.num,v,n⟩))) (hpL (evH p i k t l++[(601,.dead)]++qbj 2511 64 (pre.map fun n=>⟨i,k,l.num,v,n⟩))) Q:=by
 have z0:(0:Int).toNat=0:=rfl
 have z1:(1:Int).toNat=1:=rfl
 simp only[evE,evH,lnC,List.cons_append,List.nil_append] at hQ ⊢
 intro rest
 induction rest with
 | nil=>
  intro pre he
  have hd:decide ((pre.length:Int)<((qad xs).length:Int))=false:=decide_eq_false (by rw[qae,he];simp)
  simp only[List.append_nil] at he
  subst he
  have fX:=@hd
  refine qaa qdE.eq_1 ?_
  refine wR0 2300 [2,4,8,11,64,65,66,67] fX ?_
  refine wF @hd ?_
  refine wX ?_
  refine wN ?_
  exact hQ _
 | cons n rest ih=>
  intro pre he
  have hlt:(pre.length:Int)<((qad xs).length:Int):=by rw[qae,he];simp;omega
  have hd:decide ((pre.length:Int)<((qad xs).length:Int))=true:=decide_eq_true hlt
  have hpl:pre.length≤100:=by rw[he] at hx;simp at hx;omega
  have hw:IntKind.wrap .i64 ((pre.length:Int)+1)=((pre.length+1:Nat):Int):=by rw[wrap64 (by omega) (by omega)];rfl
  have hg:(qad xs).getD (pre.length:Int).toNat .undef=.int .i64 n:=by rw[he];exact qgT pre n rest _ rfl
  have hQ':=ih (pre++[n]) (by rw[he];simp)
  rw[List.map_append,List.length_append,List.map_singleton,List.length_singleton] at hQ'
  cases hpre:pre.map (fun n=>(⟨i,k,l.num,v,n⟩:Ev)) with
  | nil=>
   rw[hpre] at hQ'
   simp only[qbt,qbj,List.nil_append,List.append_nil,List.length_nil,List.flatMap_cons,List.flatMap_nil,Nat.zero_add] at hQ' ⊢
   have fX:=(cJ6 @hd @hw @hg @z0 @z1 @qb0)
   refine qaa qdE.eq_1 ?_
   refine W_gc ?_
   refine wR0 2300 [2,4,8,11,64,65,66,67] fX ?_
   refine wT @hd ?_
   refine wR0 2400 [2,4,8,11,13,64,65,66] fX ?_
   refine wR0 2500 [2,4,8,11,64,65,66] fX ?_
   refine wR0 2600 [2,4,8,11,64,65,66] fX ?_
   refine wN ?_
   refine qay [0,1,106,206,601,2511] (by simp[inL]) (by simp[inL,T.cl]) (by simp[qaf,inL,Slot.cl,T.cl,clL]) ?_
   simpa [qaf,inL,evC] using hQ'
  | cons z zs=>
   have hsn:∀c:Ev,(z::(zs++[c])).flatMap evC=(z::zs).flatMap evC++evC c:=fun c=>by simp[List.flatMap_append]
   have hm2:(zs.length+1+1)*5=(zs.length+1)*5+5:=by omega
   have hfl:((z::zs).flatMap evC).length=(zs.length+1)*5:=qdV _
   rw[hpre] at hQ'
   have hzb:zs.length+1≤1000:=by
    have:=congrArg List.length hpre
    simp at this;omega
   simp only[qbt,qbj,List.cons_append,List.length_append,List.length_cons,List.length_nil,Nat.zero_add,hsn,hm2] at hQ' ⊢
   have fX:=(cJ7 @hd @hw @hg @z0 @z1 @qb0 @hfl)
   refine qaa qdE.eq_1 ?_
   refine W_gc ?_
   refine wR0 2300 [2,4,8,11,64,65,66,67] fX ?_
   refine wT @hd ?_
   refine wR0 2400 [2,4,8,11,13,64,65,66] fX ?_
   refine wR0 2500 [2,4,8,11,64,65,66] fX ?_
   refine wR0 2600 [2,4,8,11,64,65,66] fX ?_
   refine wN ?_
   refine qay [0,1,106,206,601,2511] (by simp[inL]) (by simp[inL,T.cl]) (by simp[qaf,inL,Slot.cl,T.cl,clL,qab,evC,qa5]) ?_
   simpa [qaf,inL,evC] using hQ'
set_option maxHeartbeats 8000000 in
theorem qtx (p:Pg)(i k:Nat)(t:Th)(l:Lne)(v:Int)(xs:List Int)(hx:xs.length≤100)(Q:IExit→(Nat→T)→Heap→Prop)
 (hQ:∀j:Int,Q (.exit 1) (ofL (evE v xs j (xs.map fun n=>⟨i,k,l.num,v,n⟩)++[(67,.bool false)])) (hpL (evH p i k t l++[(601,.dead),(1402,.dead)]++qbj 2511 64 (xs.map fun n=>⟨i,k,l.num,v,n⟩)))) :
 ∀(rest pre:List Int),xs=pre++rest→
 WL Tryz.prog 84 qdE (ofL (evE v xs pre.length (pre.map fun n=>⟨i,k,l.num,v,n⟩))) (hpL (evH p i k t l++[(601,.dead),(1402,.dead)]++qbj 2511 64 (pre.map fun n=>⟨i,k,l.num,v,n⟩))) Q:=by
 have z0:(0:Int).toNat=0:=rfl
 have z1:(1:Int).toNat=1:=rfl
 simp only[evE,evH,lnC,List.cons_append,List.nil_append] at hQ ⊢
 intro rest
 induction rest with
 | nil=>
  intro pre he
  have hd:decide ((pre.length:Int)<((qad xs).length:Int))=false:=decide_eq_false (by rw[qae,he];simp)
  simp only[List.append_nil] at he
  subst he
  have fX:=@hd
  refine qaa qdE.eq_1 ?_
  refine wR0 2300 [2,4,8,11,64,65,66,67] fX ?_
  refine wF @hd ?_
  refine wX ?_
  refine wN ?_
  exact hQ _
 | cons n rest ih=>
  intro pre he
  have hlt:(pre.length:Int)<((qad xs).length:Int):=by rw[qae,he];simp;omega
  have hd:decide ((pre.length:Int)<((qad xs).length:Int))=true:=decide_eq_true hlt
  have hpl:pre.length≤100:=by rw[he] at hx;simp at hx;omega
  have hw:IntKind.wrap .i64 ((pre.length:Int)+1)=((pre.length+1:Nat):Int):=by rw[wrap64 (by omega) (by omega)];rfl
  have hg:(qad xs).getD (pre.length:Int).toNat .undef=.int .i64 n:=by rw[he];exact qgT pre n rest _ rfl
  have hQ':=ih (pre++[n]) (by rw[he];simp)
  rw[List.map_append,List.length_append,List.map_singleton,List.length_singleton] at hQ'
  cases hpre:pre.map (fun n=>(⟨i,k,l.num,v,n⟩:Ev)) with
  | nil=>
   rw[hpre] at hQ'
   simp only[qbt,qbj,List.nil_append,List.append_nil,List.length_nil,List.flatMap_cons,List.flatMap_nil,Nat.zero_add] at hQ' ⊢
   have fX:=(cJ6 @hd @hw @hg @z0 @z1 @qb0)
   refine qaa qdE.eq_1 ?_
   refine W_gc ?_
   refine wR0 2300 [2,4,8,11,64,65,66,67] fX ?_
   refine wT @hd ?_
   refine wR0 2400 [2,4,8,11,13,64,65,66] fX ?_
   refine wR0 2500 [2,4,8,11,64,65,66] fX ?_
   refine wR0 2600 [2,4,8,11,64,65,66] fX ?_
   refine wN ?_
   refine qay [0,1,106,206,601,1402,2511] (by simp[inL]) (by simp[inL,T.cl]) (by simp[qaf,inL,Slot.cl,T.cl,clL]) ?_
   simpa [qaf,inL,evC] using hQ'
  | cons z zs=>
   have hsn:∀c:Ev,(z::(zs++[c])).flatMap evC=(z::zs).flatMap evC++evC c:=fun c=>by simp[List.flatMap_append]
   have hm2:(zs.length+1+1)*5=(zs.length+1)*5+5:=by omega
   have hfl:((z::zs).flatMap evC).length=(zs.length+1)*5:=qdV _
   rw[hpre] at hQ'
   have hzb:zs.length+1≤1000:=by
    have:=congrArg List.length hpre
    simp at this;omega
   simp only[qbt,qbj,List.cons_append,List.length_append,List.length_cons,List.length_nil,Nat.zero_add,hsn,hm2] at hQ' ⊢
   have fX:=(cJ7 @hd @hw @hg @z0 @z1 @qb0 @hfl)
   refine qaa qdE.eq_1 ?_
   refine W_gc ?_
   refine wR0 2300 [2,4,8,11,64,65,66,67] fX ?_
   refine wT @hd ?_
   refine wR0 2400 [2,4,8,11,13,64,65,66] fX ?_
   refine wR0 2500 [2,4,8,11,64,65,66] fX ?_
   refine wR0 2600 [2,4,8,11,64,65,66] fX ?_
   refine wN ?_
   refine qay [0,1,106,206,601,1402,2511] (by simp[inL]) (by simp[inL,T.cl]) (by simp[qaf,inL,Slot.cl,T.cl,clL,qab,evC,qa5]) ?_
   simpa [qaf,inL,evC] using hQ'
set_option maxHeartbeats 8000000 in
theorem qty (p:Pg)(i k:Nat)(t:Th)(l:Lne)(v:Int)(xs:List Int)(hx:xs.length≤100)(Q:IExit→(Nat→T)→Heap→Prop)
 (hQ:∀j:Int,Q (.exit 1) (ofL (evE v xs j (xs.map fun n=>⟨i,k,l.num,v,n⟩)++[(67,.bool false)])) (hpL (evH p i k t l++[(601,.dead),(1800,.dead)]++qbj 2511 64 (xs.map fun n=>⟨i,k,l.num,v,n⟩)))) :
 ∀(rest pre:List Int),xs=pre++rest→
 WL Tryz.prog 84 qdE (ofL (evE v xs pre.length (pre.map fun n=>⟨i,k,l.num,v,n⟩))) (hpL (evH p i k t l++[(601,.dead),(1800,.dead)]++qbj 2511 64 (pre.map fun n=>⟨i,k,l.num,v,n⟩))) Q:=by
 have z0:(0:Int).toNat=0:=rfl
 have z1:(1:Int).toNat=1:=rfl
 simp only[evE,evH,lnC,List.cons_append,List.nil_append] at hQ ⊢
 intro rest
 induction rest with
 | nil=>
  intro pre he
  have hd:decide ((pre.length:Int)<((qad xs).length:Int))=false:=decide_eq_false (by rw[qae,he];simp)
  simp only[List.append_nil] at he
  subst he
  have fX:=@hd
  refine qaa qdE.eq_1 ?_
  refine wR0 2300 [2,4,8,11,64,65,66,67] fX ?_
  refine wF @hd ?_
  refine wX ?_
  refine wN ?_
  exact hQ _
 | cons n rest ih=>
  intro pre he
  have hlt:(pre.length:Int)<((qad xs).length:Int):=by rw[qae,he];simp;omega
  have hd:decide ((pre.length:Int)<((qad xs).length:Int))=true:=decide_eq_true hlt
  have hpl:pre.length≤100:=by rw[he] at hx;simp at hx;omega
  have hw:IntKind.wrap .i64 ((pre.length:Int)+1)=((pre.length+1:Nat):Int):=by rw[wrap64 (by omega) (by omega)];rfl
  have hg:(qad xs).getD (pre.length:Int).toNat .undef=.int .i64 n:=by rw[he];exact qgT pre n rest _ rfl
  have hQ':=ih (pre++[n]) (by rw[he];simp)
  rw[List.map_append,List.length_append,List.map_singleton,List.length_singleton] at hQ'
  cases hpre:pre.map (fun n=>(⟨i,k,l.num,v,n⟩:Ev)) with
  | nil=>
   rw[hpre] at hQ'
   simp only[qbt,qbj,List.nil_append,List.append_nil,List.length_nil,List.flatMap_cons,List.flatMap_nil,Nat.zero_add] at hQ' ⊢
   have fX:=(cJ6 @hd @hw @hg @z0 @z1 @qb0)
   refine qaa qdE.eq_1 ?_
   refine W_gc ?_
   refine wR0 2300 [2,4,8,11,64,65,66,67] fX ?_
   refine wT @hd ?_
   refine wR0 2400 [2,4,8,11,13,64,65,66] fX ?_
   refine wR0 2500 [2,4,8,11,64,65,66] fX ?_
   refine wR0 2600 [2,4,8,11,64,65,66] fX ?_
   refine wN ?_
   refine qay [0,1,106,206,601,1800,2511] (by simp[inL]) (by simp[inL,T.cl]) (by simp[qaf,inL,Slot.cl,T.cl,clL]) ?_
   simpa [qaf,inL,evC] using hQ'
  | cons z zs=>
   have hsn:∀c:Ev,(z::(zs++[c])).flatMap evC=(z::zs).flatMap evC++evC c:=fun c=>by simp[List.flatMap_append]
   have hm2:(zs.length+1+1)*5=(zs.length+1)*5+5:=by omega
   have hfl:((z::zs).flatMap evC).length=(zs.length+1)*5:=qdV _
   rw[hpre] at hQ'
   have hzb:zs.length+1≤1000:=by
    have:=congrArg List.length hpre
    simp at this;omega
   simp only[qbt,qbj,List.cons_append,List.length_append,List.length_cons,List.length_nil,Nat.zero_add,hsn,hm2] at hQ' ⊢
   have fX:=(cJ7 @hd @hw @hg @z0 @z1 @qb0 @hfl)
   refine qaa qdE.eq_1 ?_
   refine W_gc ?_
   refine wR0 2300 [2,4,8,11,64,65,66,67] fX ?_
   refine wT @hd ?_
   refine wR0 2400 [2,4,8,11,13,64,65,66] fX ?_
   refine wR0 2500 [2,4,8,11,64,65,66] fX ?_
   refine wR0 2600 [2,4,8,11,64,65,66] fX ?_
   refine wN ?_
   refine qay [0,1,106,206,601,1800,2511] (by simp[inL]) (by simp[inL,T.cl]) (by simp[qaf,inL,Slot.cl,T.cl,clL,qab,evC,qa5]) ?_
   simpa [qaf,inL,evC] using hQ'
theorem qbR (l:Lne):Ones (lnC l):=fun c hc=>by
 simp only[lnC,List.mem_cons,List.not_mem_nil,or_false] at hc
 rcases hc with rfl | rfl | rfl<;>rfl
theorem qbY (t:Th):Ones (thC t):=fun c hc=>by
 simp only[thC,List.mem_cons,List.not_mem_nil,or_false] at hc
 rcases hc with rfl | rfl<;>rfl
theorem qa3 (p:Pg):Ones (pgC p):=fun c hc=>by
 simp only[pgC,List.mem_cons,List.not_mem_nil,or_false] at hc
 rcases hc with rfl | rfl<;>rfl
theorem qbD (a b:Int):Ones [.int .i64 a,.int .i64 b]:=fun c hc=>by
 simp only[List.mem_cons,List.not_mem_nil,or_false] at hc
 rcases hc with rfl | rfl<;>rfl
structure EvHd (p:Pg) (i k:Nat) (t:Th) (l:Lne):Prop where
 h1:(i:Int)<((qa4 p.ths).length:Int)
 h2:(k:Int)<((qa7 t.lines).length:Int)
 g1:(qa4 p.ths).getD (i:Int).toNat .undef=.agg (thC t)
 g2:(qa7 t.lines).getD (k:Int).toNat .undef=.agg (lnC l)
 w:IntKind.wrap .i64 ((k:Int)+1)=((k+1:Nat):Int)
theorem qeo {p:Pg}(hp:p.fit){i k:Nat}(h:IsPl p i k):EvHd p i k (p.ths.getD i default) ((p.ths.getD i default).lines.getD k default) where
 h1:=by rw[qbd];have:=h.1;omega
 h2:=by rw[qa8];have:=h.2;omega
 g1:=qeQ p.ths i h.1
 g2:=qgc _ k h.2
 w:=by
  have hlf:(p.ths.getD i default).lines.length≤1000000000:=by
   have e:p.ths.getD i default=p.ths[i]'h.1:=by simp[List.getD_eq_getElem?_getD,h.1]
   rw[e];exact hp.lines _ (List.getElem_mem h.1)
  have:=h.2
  rw[wrap64 (by omega) (by omega)];rfl
def evK (i k:Nat)(l:Lne)(v b:Int):List Ev:=
 if l.k=1 then [⟨i,k,l.num,l.a,b⟩] else if l.k=2 then (if v=l.a then [⟨i,k,l.num,v,b⟩] else []) else if l.k=3 then [⟨i,k,l.num,v,l.a⟩]
 else if l.k=4 then (qcs l.a b).map fun n=>⟨i,k,l.num,v,n⟩ else if l.k=5 then [⟨i,k,l.num,v,b⟩] else if l.k=6 then [⟨i,k,l.num,v,-1⟩] else []
theorem evL_K (p:Pg)(v:Int)(i k:Nat):evL p v i k=evK i k ((p.ths.getD i default).lines.getD k default) v (behL (p.ths.getD i default).lines.length k):=rfl
set_option maxHeartbeats 8000000 in
theorem pev_t (p:Pg)(i k:Nat)(t:Th)(l:Lne)(v:Int)(H:EvHd p i k t l)(h1:1≤l.k∧l.k≤7)(hb:((((k+1:Nat):Int))==((qa7 t.lines).length:Int))=true):TP Tryz.prog 92 [qar p,encP ((i:Int),(k:Int)),.int .i64 v] (.list (qaG (evK i k l v (-1)))):=by
 have hlt1:=H.h1
 have hlt2:=H.h2
 have hg1:=H.g1
 have hg2:=H.g2
 have hw:=H.w
 clear H
 have z0:(0:Int).toNat=0:=rfl
 have z1:(1:Int).toNat=1:=rfl
 obtain⟨kk,a,num⟩:=l
 simp only at h1
 have hbo:=qm4 a (-1)
 have hcs:kk=1∨kk=2∨kk=3∨kk=4∨kk=5∨kk=6∨kk=7:=by omega
 simp only[thC,lnC] at hg1 hg2 ⊢
 rcases hcs with rfl | rfl | rfl | rfl | rfl | rfl | rfl
 ·rw[show evK i k ⟨1,a,num⟩ v (-1)=[⟨i,k,num,a,-1⟩] from by simp[evK]]
  have hL:=fun Q x=>qgI p i k t ⟨1,a,num⟩ (a) ([-1]) (by simp) Q x _ [] rfl
  simp only[evE,evH,lnC,qbt,qbj,List.map_cons,List.map_nil,List.cons_append,List.nil_append,List.append_nil,List.length_nil,Int.natCast_zero] at hL
  have fX:=(cJ6 @hg1 @hg2 @z0 @z1 @hw @hb)
  refine qag fn92 (by simp) ?_
  unfold i92
  simp only[argL,qar,pgC,encP]
  refine wR0 0 [2,3,4] fX ?_
  refine wR0 100 [2,4,7] fX ?_
  refine wR0 200 [2,4,7,8] fX ?_
  refine wR0 300 [2,4,7,8,9] fX ?_
  refine wR0 400 [2,4,8,9,33] fX ?_
  refine wT @hb ?_
  refine wR0 500 [2,4,8,9] fX ?_
  refine wR0 600 [2,4,8,9,10] fX ?_
  refine wR0 700 [2,4,8,9,10,37] fX ?_
  refine wR0 800 [2,4,8,9,10,37,38] fX ?_
  refine wT fX ?_
  refine wR0 900 [2,4,8,10] fX ?_
  refine wR0 2100 [2,4,8,10,11] fX ?_
  simp only[thn]
  refine qbZ (l':=[(2,.int .i64 (a)),(4,.ref 1 2 0),(8,.ref 206 3 0),(10,.list (qad ([-1]))),(11,.nil)]) (hl':=evH p i k t ⟨1,a,num⟩++[(601,.dead)]) [0,1,106,206] (.cons (.same rfl) (.cons (.same rfl) (.cons (.same rfl) (.cons (qdu _ rfl rfl) (.cons (.same rfl) .nil))))) (.keep rfl (.liveS (qaD _ p) (qa3 p)) (.keep rfl (.liveS rfl (qbD _ _)) (.keep rfl (.liveS (qaJ _ t) (qbY t)) (.keep rfl (.liveS rfl (qbR ⟨1,a,num⟩)) (.dead rfl (fun h=>by cases h) .nil))))) ?_
  simp only[evH,lnC,List.cons_append,List.nil_append]
  refine wR0 2200 [2,4,8,11,64,65,66] fX ?_
  refine wL ?_
  refine hL _ ?_
  ·intro j
   refine wN ?_
   refine wR0 2700 [6] fX ?_
   refine wP ?_
   exact qbb [⟨i,k,num,a,-1⟩] rfl rfl rfl
 ·by_cases hv:v=a
  ·have hva:(v != a)=false:=by simp[hv]
   have e:evK i k ⟨2,a,num⟩ v (-1)=[⟨i,k,num,v,-1⟩]:=by simp[evK,hv]
   rw[e]
   have hL:=fun Q x=>qgI p i k t ⟨2,a,num⟩ (v) ([-1]) (by simp) Q x _ [] rfl
   simp only[evE,evH,lnC,qbt,qbj,List.map_cons,List.map_nil,List.cons_append,List.nil_append,List.append_nil,List.length_nil,Int.natCast_zero] at hL
   have fX:=(cJ7 @hg1 @hg2 @z0 @z1 @hw @hb @hva)
   refine qag fn92 (by simp) ?_
   unfold i92
   simp only[argL,qar,pgC,encP]
   refine wR0 0 [2,3,4] fX ?_
   refine wR0 100 [2,4,7] fX ?_
   refine wR0 200 [2,4,7,8] fX ?_
   refine wR0 300 [2,4,7,8,9] fX ?_
   refine wR0 400 [2,4,8,9,33] fX ?_
   refine wT @hb ?_
   refine wR0 500 [2,4,8,9] fX ?_
   refine wR0 600 [2,4,8,9,10] fX ?_
   refine wR0 700 [2,4,8,9,10,37] fX ?_
   refine wR0 800 [2,4,8,9,10,37,38] fX ?_
   refine wF fX ?_
   refine wR0 1000 [2,4,8,9,10,37,42] fX ?_
   refine wT fX ?_
   refine wR0 1100 [2,4,8,10,47] fX ?_
   refine wF @hva ?_
   refine wR0 2100 [2,4,8,10,11] fX ?_
   simp only[thn]
   refine qbZ (l':=[(2,.int .i64 (v)),(4,.ref 1 2 0),(8,.ref 206 3 0),(10,.list (qad ([-1]))),(11,.nil)]) (hl':=evH p i k t ⟨2,a,num⟩++[(601,.dead)]) [0,1,106,206] (.cons (.same rfl) (.cons (.same rfl) (.cons (.same rfl) (.cons (qdu _ rfl rfl) (.cons (.same rfl) .nil))))) (.keep rfl (.liveS (qaD _ p) (qa3 p)) (.keep rfl (.liveS rfl (qbD _ _)) (.keep rfl (.liveS (qaJ _ t) (qbY t)) (.keep rfl (.liveS rfl (qbR ⟨2,a,num⟩)) (.dead rfl (fun h=>by cases h) .nil))))) ?_
   simp only[evH,lnC,List.cons_append,List.nil_append]
   refine wR0 2200 [2,4,8,11,64,65,66] fX ?_
   refine wL ?_
   refine hL _ ?_
   ·intro j
    refine wN ?_
    refine wR0 2700 [6] fX ?_
    refine wP ?_
    exact qbb [⟨i,k,num,v,-1⟩] rfl rfl rfl
  ·have hva:(v != a)=true:=by simpa using hv
   have e:evK i k ⟨2,a,num⟩ v (-1)=[]:=by simp[evK,hv]
   rw[e]
   have fX:=(cJ7 @hg1 @hg2 @z0 @z1 @hw @hb @hva)
   refine qag fn92 (by simp) ?_
   unfold i92
   simp only[argL,qar,pgC,encP]
   refine wR0 0 [2,3,4] fX ?_
   refine wR0 100 [2,4,7] fX ?_
   refine wR0 200 [2,4,7,8] fX ?_
   refine wR0 300 [2,4,7,8,9] fX ?_
   refine wR0 400 [2,4,8,9,33] fX ?_
   refine wT @hb ?_
   refine wR0 500 [2,4,8,9] fX ?_
   refine wR0 600 [2,4,8,9,10] fX ?_
   refine wR0 700 [2,4,8,9,10,37] fX ?_
   refine wR0 800 [2,4,8,9,10,37,38] fX ?_
   refine wF fX ?_
   refine wR0 1000 [2,4,8,9,10,37,42] fX ?_
   refine wT fX ?_
   refine wR0 1100 [2,4,8,10,47] fX ?_
   refine wT @hva ?_
   refine wR0 1200 [6] fX ?_
   refine wP ?_
   exact .nil
 ·rw[show evK i k ⟨3,a,num⟩ v (-1)=[⟨i,k,num,v,a⟩] from by simp[evK]]
  have hL:=fun Q x=>qtx p i k t ⟨3,a,num⟩ (v) ([a]) (by simp) Q x _ [] rfl
  simp only[evE,evH,lnC,qbt,qbj,List.map_cons,List.map_nil,List.cons_append,List.nil_append,List.append_nil,List.length_nil,Int.natCast_zero] at hL
  have fX:=(cJ6 @hg1 @hg2 @z0 @z1 @hw @hb)
  refine qag fn92 (by simp) ?_
  unfold i92
  simp only[argL,qar,pgC,encP]
  refine wR0 0 [2,3,4] fX ?_
  refine wR0 100 [2,4,7] fX ?_
  refine wR0 200 [2,4,7,8] fX ?_
  refine wR0 300 [2,4,7,8,9] fX ?_
  refine wR0 400 [2,4,8,9,33] fX ?_
  refine wT @hb ?_
  refine wR0 500 [2,4,8,9] fX ?_
  refine wR0 600 [2,4,8,9,10] fX ?_
  refine wR0 700 [2,4,8,9,10,37] fX ?_
  refine wR0 800 [2,4,8,9,10,37,38] fX ?_
  refine wF fX ?_
  refine wR0 1000 [2,4,8,9,10,37,42] fX ?_
  refine wF fX ?_
  refine wR0 1300 [2,4,8,9,10,37,48] fX ?_
  refine wT fX ?_
  refine wR0 1400 [2,4,8,10] fX ?_
  refine wR0 2100 [2,4,8,10,11] fX ?_
  simp only[thn]
  refine qbZ (l':=[(2,.int .i64 (v)),(4,.ref 1 2 0),(8,.ref 206 3 0),(10,.list (qad ([a]))),(11,.nil)]) (hl':=evH p i k t ⟨3,a,num⟩++[(601,.dead),(1402,.dead)]) [0,1,106,206] (.cons (.same rfl) (.cons (.same rfl) (.cons (.same rfl) (.cons (qdu _ rfl rfl) (.cons (.same rfl) .nil))))) (.keep rfl (.liveS (qaD _ p) (qa3 p)) (.keep rfl (.liveS rfl (qbD _ _)) (.keep rfl (.liveS (qaJ _ t) (qbY t)) (.keep rfl (.liveS rfl (qbR ⟨3,a,num⟩)) (.dead rfl (fun h=>by cases h) (.dead rfl (fun h=>by cases h) .nil)))))) ?_
  simp only[evH,lnC,List.cons_append,List.nil_append]
  refine wR0 2200 [2,4,8,11,64,65,66] fX ?_
  refine wL ?_
  refine hL _ ?_
  ·intro j
   refine wN ?_
   refine wR0 2700 [6] fX ?_
   refine wP ?_
   exact qbb [⟨i,k,num,v,a⟩] rfl rfl rfl
 ·have e4:evK i k ⟨4,a,num⟩ v (-1)=(qcs a (-1)).map fun n=>⟨i,k,num,v,n⟩:=by simp[evK]
  rw[e4]
  have hbl:=qhb a (-1)
  have hbc:∀D,T.cl D (.list (qad (qcs a (-1))))=true:=fun D=>by simp[T.cl,qah]
  have hL:=fun Q x=>qgI p i k t ⟨4,a,num⟩ v (qcs a (-1)) (by omega) Q x (qcs a (-1)) [] rfl
  generalize qcs a (-1)=B at*
  rcases hm:(B.map fun n=>(⟨i,k,num,v,n⟩:Ev)) with _ | ⟨z,zs⟩
  ·simp only[evE,evH,lnC,hm,qbt,qbj,List.map_nil,List.cons_append,List.nil_append,List.append_nil,List.length_nil,Int.natCast_zero] at hL
   have fX:=(cJ6 @hg1 @hg2 @z0 @z1 @hw @hb)
   refine qag fn92 (by simp) ?_
   unfold i92
   simp only[argL,qar,pgC,encP]
   refine wR0 0 [2,3,4] fX ?_
   refine wR0 100 [2,4,7] fX ?_
   refine wR0 200 [2,4,7,8] fX ?_
   refine wR0 300 [2,4,7,8,9] fX ?_
   refine wR0 400 [2,4,8,9,33] fX ?_
   refine wT @hb ?_
   refine wR0 500 [2,4,8,9] fX ?_
   refine wR0 600 [2,4,8,9,10] fX ?_
   refine wR0 700 [2,4,8,9,10,37] fX ?_
   refine wR0 800 [2,4,8,9,10,37,38] fX ?_
   refine wF fX ?_
   refine wR0 1000 [2,4,8,9,10,37,42] fX ?_
   refine wF fX ?_
   refine wR0 1300 [2,4,8,9,10,37,48] fX ?_
   refine wF fX ?_
   refine wR0 1500 [2,4,8,9,10,37,53] fX ?_
   refine wT fX ?_
   refine wRn 1600 [2,4,8,10] fX ?_
   refine rC fX ?_
   refine⟨_,hbo,rE fX ?_⟩
   refine wR0 2100 [2,4,8,10,11] fX ?_
   simp only[thn]
   refine qbZ (l':=[(2,.int .i64 v),(4,.ref 1 2 0),(8,.ref 206 3 0),(10,.list (qad B)),(11,.nil)]) (hl':=evH p i k t ⟨4,a,num⟩++[(601,.dead)]) [0,1,106,206] (.cons (.same rfl) (.cons (.same rfl) (.cons (.same rfl) (.cons (.same (hbc _)) (.cons (.same rfl) .nil))))) (.keep rfl (.liveS (qaD _ p) (qa3 p)) (.keep rfl (.liveS rfl (qbD _ _)) (.keep rfl (.liveS (qaJ _ t) (qbY t)) (.keep rfl (.liveS rfl (qbR ⟨4,a,num⟩)) (.dead rfl (fun h=>by cases h) .nil))))) ?_
   simp only[evH,lnC,List.cons_append,List.nil_append]
   refine wR0 2200 [2,4,8,11,64,65,66] fX ?_
   refine wL ?_
   refine hL _ ?_
   ·intro j
    refine wN ?_
    refine wR0 2700 [6] fX ?_
    refine wP ?_
    exact .nil
  ·simp only[evE,evH,lnC,hm,qbt,qbj,List.map_nil,List.cons_append,List.nil_append,List.append_nil,List.length_nil,Int.natCast_zero] at hL
   have fX:=(cJ6 @hg1 @hg2 @z0 @z1 @hw @hb)
   refine qag fn92 (by simp) ?_
   unfold i92
   simp only[argL,qar,pgC,encP]
   refine wR0 0 [2,3,4] fX ?_
   refine wR0 100 [2,4,7] fX ?_
   refine wR0 200 [2,4,7,8] fX ?_
   refine wR0 300 [2,4,7,8,9] fX ?_
   refine wR0 400 [2,4,8,9,33] fX ?_
   refine wT @hb ?_
   refine wR0 500 [2,4,8,9] fX ?_
   refine wR0 600 [2,4,8,9,10] fX ?_
   refine wR0 700 [2,4,8,9,10,37] fX ?_
   refine wR0 800 [2,4,8,9,10,37,38] fX ?_
   refine wF fX ?_
   refine wR0 1000 [2,4,8,9,10,37,42] fX ?_
   refine wF fX ?_
   refine wR0 1300 [2,4,8,9,10,37,48] fX ?_
   refine wF fX ?_
   refine wR0 1500 [2,4,8,9,10,37,53] fX ?_
   refine wT fX ?_
   refine wRn 1600 [2,4,8,10] fX ?_
   refine rC fX ?_
   refine⟨_,hbo,rE fX ?_⟩
   refine wR0 2100 [2,4,8,10,11] fX ?_
   simp only[thn]
   refine qbZ (l':=[(2,.int .i64 v),(4,.ref 1 2 0),(8,.ref 206 3 0),(10,.list (qad B)),(11,.nil)]) (hl':=evH p i k t ⟨4,a,num⟩++[(601,.dead)]) [0,1,106,206] (.cons (.same rfl) (.cons (.same rfl) (.cons (.same rfl) (.cons (.same (hbc _)) (.cons (.same rfl) .nil))))) (.keep rfl (.liveS (qaD _ p) (qa3 p)) (.keep rfl (.liveS rfl (qbD _ _)) (.keep rfl (.liveS (qaJ _ t) (qbY t)) (.keep rfl (.liveS rfl (qbR ⟨4,a,num⟩)) (.dead rfl (fun h=>by cases h) .nil))))) ?_
   simp only[evH,lnC,List.cons_append,List.nil_append]
   refine wR0 2200 [2,4,8,11,64,65,66] fX ?_
   refine wL ?_
   refine hL _ ?_
   ·intro j
    refine wN ?_
    refine wR0 2700 [6] fX ?_
    refine wP ?_
    exact qbb (z::zs) rfl rfl rfl
 ·rw[show evK i k ⟨5,a,num⟩ v (-1)=[⟨i,k,num,v,-1⟩] from by simp[evK]]
  have hL:=fun Q x=>qgI p i k t ⟨5,a,num⟩ (v) ([-1]) (by simp) Q x _ [] rfl
  simp only[evE,evH,lnC,qbt,qbj,List.map_cons,List.map_nil,List.cons_append,List.nil_append,List.append_nil,List.length_nil,Int.natCast_zero] at hL
  have fX:=(cJ6 @hg1 @hg2 @z0 @z1 @hw @hb)
  refine qag fn92 (by simp) ?_
  unfold i92
  simp only[argL,qar,pgC,encP]
  refine wR0 0 [2,3,4] fX ?_
  refine wR0 100 [2,4,7] fX ?_
  refine wR0 200 [2,4,7,8] fX ?_
  refine wR0 300 [2,4,7,8,9] fX ?_
  refine wR0 400 [2,4,8,9,33] fX ?_
  refine wT @hb ?_
  refine wR0 500 [2,4,8,9] fX ?_
  refine wR0 600 [2,4,8,9,10] fX ?_
  refine wR0 700 [2,4,8,9,10,37] fX ?_
  refine wR0 800 [2,4,8,9,10,37,38] fX ?_
  refine wF fX ?_
  refine wR0 1000 [2,4,8,9,10,37,42] fX ?_
  refine wF fX ?_
  refine wR0 1300 [2,4,8,9,10,37,48] fX ?_
  refine wF fX ?_
  refine wR0 1500 [2,4,8,9,10,37,53] fX ?_
  refine wF fX ?_
  refine wR0 1700 [2,4,8,10,37,59] fX ?_
  refine wF fX ?_
  refine wR0 1900 [2,4,8,10,62] fX ?_
  refine wF fX ?_
  refine wR0 2100 [2,4,8,10,11] fX ?_
  simp only[thn]
  refine qbZ (l':=[(2,.int .i64 (v)),(4,.ref 1 2 0),(8,.ref 206 3 0),(10,.list (qad ([-1]))),(11,.nil)]) (hl':=evH p i k t ⟨5,a,num⟩++[(601,.dead)]) [0,1,106,206] (.cons (.same rfl) (.cons (.same rfl) (.cons (.same rfl) (.cons (qdu _ rfl rfl) (.cons (.same rfl) .nil))))) (.keep rfl (.liveS (qaD _ p) (qa3 p)) (.keep rfl (.liveS rfl (qbD _ _)) (.keep rfl (.liveS (qaJ _ t) (qbY t)) (.keep rfl (.liveS rfl (qbR ⟨5,a,num⟩)) (.dead rfl (fun h=>by cases h) .nil))))) ?_
  simp only[evH,lnC,List.cons_append,List.nil_append]
  refine wR0 2200 [2,4,8,11,64,65,66] fX ?_
  refine wL ?_
  refine hL _ ?_
  ·intro j
   refine wN ?_
   refine wR0 2700 [6] fX ?_
   refine wP ?_
   exact qbb [⟨i,k,num,v,-1⟩] rfl rfl rfl
 ·rw[show evK i k ⟨6,a,num⟩ v (-1)=[⟨i,k,num,v,-1⟩] from by simp[evK]]
  have hL:=fun Q x=>qty p i k t ⟨6,a,num⟩ (v) ([-1]) (by simp) Q x _ [] rfl
  simp only[evE,evH,lnC,qbt,qbj,List.map_cons,List.map_nil,List.cons_append,List.nil_append,List.append_nil,List.length_nil,Int.natCast_zero] at hL
  have fX:=(cJ6 @hg1 @hg2 @z0 @z1 @hw @hb)
  refine qag fn92 (by simp) ?_
  unfold i92
  simp only[argL,qar,pgC,encP]
  refine wR0 0 [2,3,4] fX ?_
  refine wR0 100 [2,4,7] fX ?_
  refine wR0 200 [2,4,7,8] fX ?_
  refine wR0 300 [2,4,7,8,9] fX ?_
  refine wR0 400 [2,4,8,9,33] fX ?_
  refine wT @hb ?_
  refine wR0 500 [2,4,8,9] fX ?_
  refine wR0 600 [2,4,8,9,10] fX ?_
  refine wR0 700 [2,4,8,9,10,37] fX ?_
  refine wR0 800 [2,4,8,9,10,37,38] fX ?_
  refine wF fX ?_
  refine wR0 1000 [2,4,8,9,10,37,42] fX ?_
  refine wF fX ?_
  refine wR0 1300 [2,4,8,9,10,37,48] fX ?_
  refine wF fX ?_
  refine wR0 1500 [2,4,8,9,10,37,53] fX ?_
  refine wF fX ?_
  refine wR0 1700 [2,4,8,10,37,59] fX ?_
  refine wT fX ?_
  refine wR0 1800 [2,4,8,10] fX ?_
  refine wR0 2100 [2,4,8,10,11] fX ?_
  simp only[thn]
  refine qbZ (l':=[(2,.int .i64 (v)),(4,.ref 1 2 0),(8,.ref 206 3 0),(10,.list (qad ([-1]))),(11,.nil)]) (hl':=evH p i k t ⟨6,a,num⟩++[(601,.dead),(1800,.dead)]) [0,1,106,206] (.cons (.same rfl) (.cons (.same rfl) (.cons (.same rfl) (.cons (qdu _ rfl rfl) (.cons (.same rfl) .nil))))) (.keep rfl (.liveS (qaD _ p) (qa3 p)) (.keep rfl (.liveS rfl (qbD _ _)) (.keep rfl (.liveS (qaJ _ t) (qbY t)) (.keep rfl (.liveS rfl (qbR ⟨6,a,num⟩)) (.dead rfl (fun h=>by cases h) (.dead rfl (fun h=>by cases h) .nil)))))) ?_
  simp only[evH,lnC,List.cons_append,List.nil_append]
  refine wR0 2200 [2,4,8,11,64,65,66] fX ?_
  refine wL ?_
  refine hL _ ?_
  ·intro j
   refine wN ?_
   refine wR0 2700 [6] fX ?_
   refine wP ?_
   exact qbb [⟨i,k,num,v,-1⟩] rfl rfl rfl
 ·rw[show evK i k ⟨7,a,num⟩ v (-1)=[] from by simp[evK]]
  have fX:=(cJ6 @hg1 @hg2 @z0 @z1 @hw @hb)
  refine qag fn92 (by simp) ?_
  unfold i92
  simp only[argL,qar,pgC,encP]
  refine wR0 0 [2,3,4] fX ?_
  refine wR0 100 [2,4,7] fX ?_
  refine wR0 200 [2,4,7,8] fX ?_
  refine wR0 300 [2,4,7,8,9] fX ?_
  refine wR0 400 [2,4,8,9,33] fX ?_
  refine wT @hb ?_
  refine wR0 500 [2,4,8,9] fX ?_
  refine wR0 600 [2,4,8,9,10] fX ?_
  refine wR0 700 [2,4,8,9,10,37] fX ?_
  refine wR0 800 [2,4,8,9,10,37,38] fX ?_
  refine wF fX ?_
  refine wR0 1000 [2,4,8,9,10,37,42] fX ?_
  refine wF fX ?_
  refine wR0 1300 [2,4,8,9,10,37,48] fX ?_
  refine wF fX ?_
  refine wR0 1500 [2,4,8,9,10,37,53] fX ?_
  refine wF fX ?_
  refine wR0 1700 [2,4,8,10,37,59] fX ?_
  refine wF fX ?_
  refine wR0 1900 [2,4,8,10,62] fX ?_
  refine wT fX ?_
  refine wR0 2000 [6] fX ?_
  refine wP ?_
  exact .nil
set_option maxHeartbeats 8000000 in
theorem pev_f (p:Pg)(i k:Nat)(t:Th)(l:Lne)(v:Int)(H:EvHd p i k t l)(h1:1≤l.k∧l.k≤7)(hb:((((k+1:Nat):Int))==((qa7 t.lines).length:Int))=false):TP Tryz.prog 92 [qar p,encP ((i:Int),(k:Int)),.int .i64 v] (.list (qaG (evK i k l v (((k+1:Nat):Int))))):=by
 have hlt1:=H.h1
 have hlt2:=H.h2
 have hg1:=H.g1
 have hg2:=H.g2
 have hw:=H.w
 clear H
 have z0:(0:Int).toNat=0:=rfl
 have z1:(1:Int).toNat=1:=rfl
 obtain⟨kk,a,num⟩:=l
 simp only at h1
 have hbo:=qm4 a (((k+1:Nat):Int))
 have hcs:kk=1∨kk=2∨kk=3∨kk=4∨kk=5∨kk=6∨kk=7:=by omega
 simp only[thC,lnC] at hg1 hg2 ⊢
 rcases hcs with rfl | rfl | rfl | rfl | rfl | rfl | rfl
 ·rw[show evK i k ⟨1,a,num⟩ v (((k+1:Nat):Int))=[⟨i,k,num,a,((k+1:Nat):Int)⟩] from by simp[evK]]
  have hL:=fun Q x=>qgI p i k t ⟨1,a,num⟩ (a) ([((k+1:Nat):Int)]) (by simp) Q x _ [] rfl
  simp only[evE,evH,lnC,qbt,qbj,List.map_cons,List.map_nil,List.cons_append,List.nil_append,List.append_nil,List.length_nil,Int.natCast_zero] at hL
  have fX:=(cJ6 @hg1 @hg2 @z0 @z1 @hw @hb)
  refine qag fn92 (by simp) ?_
  unfold i92
  simp only[argL,qar,pgC,encP]
  refine wR0 0 [2,3,4] fX ?_
  refine wR0 100 [2,4,7] fX ?_
  refine wR0 200 [2,4,7,8] fX ?_
  refine wR0 300 [2,4,7,8,9] fX ?_
  refine wR0 400 [2,4,8,9,33] fX ?_
  refine wF @hb ?_
  refine wR0 600 [2,4,8,9,10] fX ?_
  refine wR0 700 [2,4,8,9,10,37] fX ?_
  refine wR0 800 [2,4,8,9,10,37,38] fX ?_
  refine wT fX ?_
  refine wR0 900 [2,4,8,10] fX ?_
  refine wR0 2100 [2,4,8,10,11] fX ?_
  simp only[thn]
  refine qbZ (l':=[(2,.int .i64 (a)),(4,.ref 1 2 0),(8,.ref 206 3 0),(10,.list (qad ([((k+1:Nat):Int)]))),(11,.nil)]) (hl':=evH p i k t ⟨1,a,num⟩++[(601,.dead)]) [0,1,106,206] (.cons (.same rfl) (.cons (.same rfl) (.cons (.same rfl) (.cons (qdu _ rfl rfl) (.cons (.same rfl) .nil))))) (.keep rfl (.liveS (qaD _ p) (qa3 p)) (.keep rfl (.liveS rfl (qbD _ _)) (.keep rfl (.liveS (qaJ _ t) (qbY t)) (.keep rfl (.liveS rfl (qbR ⟨1,a,num⟩)) (.dead rfl (fun h=>by cases h) .nil))))) ?_
  simp only[evH,lnC,List.cons_append,List.nil_append]
  refine wR0 2200 [2,4,8,11,64,65,66] fX ?_
  refine wL ?_
  refine hL _ ?_
  ·intro j
   refine wN ?_
   refine wR0 2700 [6] fX ?_
   refine wP ?_
   exact qbb [⟨i,k,num,a,((k+1:Nat):Int)⟩] rfl rfl rfl
 ·by_cases hv:v=a
  ·have hva:(v != a)=false:=by simp[hv]
   have e:evK i k ⟨2,a,num⟩ v (((k+1:Nat):Int))=[⟨i,k,num,v,((k+1:Nat):Int)⟩]:=by simp[evK,hv]
   rw[e]
   have hL:=fun Q x=>qgI p i k t ⟨2,a,num⟩ (v) ([((k+1:Nat):Int)]) (by simp) Q x _ [] rfl
   simp only[evE,evH,lnC,qbt,qbj,List.map_cons,List.map_nil,List.cons_append,List.nil_append,List.append_nil,List.length_nil,Int.natCast_zero] at hL
   have fX:=(cJ7 @hg1 @hg2 @z0 @z1 @hw @hb @hva)
   refine qag fn92 (by simp) ?_
   unfold i92
   simp only[argL,qar,pgC,encP]
   refine wR0 0 [2,3,4] fX ?_
   refine wR0 100 [2,4,7] fX ?_
   refine wR0 200 [2,4,7,8] fX ?_
   refine wR0 300 [2,4,7,8,9] fX ?_
   refine wR0 400 [2,4,8,9,33] fX ?_
   refine wF @hb ?_
   refine wR0 600 [2,4,8,9,10] fX ?_
   refine wR0 700 [2,4,8,9,10,37] fX ?_
   refine wR0 800 [2,4,8,9,10,37,38] fX ?_
   refine wF fX ?_
   refine wR0 1000 [2,4,8,9,10,37,42] fX ?_
   refine wT fX ?_
   refine wR0 1100 [2,4,8,10,47] fX ?_
   refine wF @hva ?_
   refine wR0 2100 [2,4,8,10,11] fX ?_
   simp only[thn]
   refine qbZ (l':=[(2,.int .i64 (v)),(4,.ref 1 2 0),(8,.ref 206 3 0),(10,.list (qad ([((k+1:Nat):Int)]))),(11,.nil)]) (hl':=evH p i k t ⟨2,a,num⟩++[(601,.dead)]) [0,1,106,206] (.cons (.same rfl) (.cons (.same rfl) (.cons (.same rfl) (.cons (qdu _ rfl rfl) (.cons (.same rfl) .nil))))) (.keep rfl (.liveS (qaD _ p) (qa3 p)) (.keep rfl (.liveS rfl (qbD _ _)) (.keep rfl (.liveS (qaJ _ t) (qbY t)) (.keep rfl (.liveS rfl (qbR ⟨2,a,num⟩)) (.dead rfl (fun h=>by cases h) .nil))))) ?_
   simp only[evH,lnC,List.cons_append,List.nil_append]
   refine wR0 2200 [2,4,8,11,64,65,66] fX ?_
   refine wL ?_
   refine hL _ ?_
   ·intro j
    refine wN ?_
    refine wR0 2700 [6] fX ?_
    refine wP ?_
    exact qbb [⟨i,k,num,v,((k+1:Nat):Int)⟩] rfl rfl rfl
  ·have hva:(v != a)=true:=by simpa using hv
   have e:evK i k ⟨2,a,num⟩ v (((k+1:Nat):Int))=[]:=by simp[evK,hv]
   rw[e]
   have fX:=(cJ7 @hg1 @hg2 @z0 @z1 @hw @hb @hva)
   refine qag fn92 (by simp) ?_
   unfold i92
   simp only[argL,qar,pgC,encP]
   refine wR0 0 [2,3,4] fX ?_
   refine wR0 100 [2,4,7] fX ?_
   refine wR0 200 [2,4,7,8] fX ?_
   refine wR0 300 [2,4,7,8,9] fX ?_
   refine wR0 400 [2,4,8,9,33] fX ?_
   refine wF @hb ?_
   refine wR0 600 [2,4,8,9,10] fX ?_
   refine wR0 700 [2,4,8,9,10,37] fX ?_
   refine wR0 800 [2,4,8,9,10,37,38] fX ?_
   refine wF fX ?_
   refine wR0 1000 [2,4,8,9,10,37,42] fX ?_
   refine wT fX ?_
   refine wR0 1100 [2,4,8,10,47] fX ?_
   refine wT @hva ?_
   refine wR0 1200 [6] fX ?_
   refine wP ?_
   exact .nil
 ·rw[show evK i k ⟨3,a,num⟩ v (((k+1:Nat):Int))=[⟨i,k,num,v,a⟩] from by simp[evK]]
  have hL:=fun Q x=>qtx p i k t ⟨3,a,num⟩ (v) ([a]) (by simp) Q x _ [] rfl
  simp only[evE,evH,lnC,qbt,qbj,List.map_cons,List.map_nil,List.cons_append,List.nil_append,List.append_nil,List.length_nil,Int.natCast_zero] at hL
  have fX:=(cJ6 @hg1 @hg2 @z0 @z1 @hw @hb)
  refine qag fn92 (by simp) ?_
  unfold i92
  simp only[argL,qar,pgC,encP]
  refine wR0 0 [2,3,4] fX ?_
  refine wR0 100 [2,4,7] fX ?_
  refine wR0 200 [2,4,7,8] fX ?_
  refine wR0 300 [2,4,7,8,9] fX ?_
  refine wR0 400 [2,4,8,9,33] fX ?_
  refine wF @hb ?_
  refine wR0 600 [2,4,8,9,10] fX ?_
  refine wR0 700 [2,4,8,9,10,37] fX ?_
  refine wR0 800 [2,4,8,9,10,37,38] fX ?_
  refine wF fX ?_
  refine wR0 1000 [2,4,8,9,10,37,42] fX ?_
  refine wF fX ?_
  refine wR0 1300 [2,4,8,9,10,37,48] fX ?_
  refine wT fX ?_
  refine wR0 1400 [2,4,8,10] fX ?_
  refine wR0 2100 [2,4,8,10,11] fX ?_
  simp only[thn]
  refine qbZ (l':=[(2,.int .i64 (v)),(4,.ref 1 2 0),(8,.ref 206 3 0),(10,.list (qad ([a]))),(11,.nil)]) (hl':=evH p i k t ⟨3,a,num⟩++[(601,.dead),(1402,.dead)]) [0,1,106,206] (.cons (.same rfl) (.cons (.same rfl) (.cons (.same rfl) (.cons (qdu _ rfl rfl) (.cons (.same rfl) .nil))))) (.keep rfl (.liveS (qaD _ p) (qa3 p)) (.keep rfl (.liveS rfl (qbD _ _)) (.keep rfl (.liveS (qaJ _ t) (qbY t)) (.keep rfl (.liveS rfl (qbR ⟨3,a,num⟩)) (.dead rfl (fun h=>by cases h) (.dead rfl (fun h=>by cases h) .nil)))))) ?_
  simp only[evH,lnC,List.cons_append,List.nil_append]
  refine wR0 2200 [2,4,8,11,64,65,66] fX ?_
  refine wL ?_
  refine hL _ ?_
  ·intro j
   refine wN ?_
   refine wR0 2700 [6] fX ?_
   refine wP ?_
   exact qbb [⟨i,k,num,v,a⟩] rfl rfl rfl
 ·have e4:evK i k ⟨4,a,num⟩ v (((k+1:Nat):Int))=(qcs a (((k+1:Nat):Int))).map fun n=>⟨i,k,num,v,n⟩:=by simp[evK]
  rw[e4]
  have hbl:=qhb a (((k+1:Nat):Int))
  have hbc:∀D,T.cl D (.list (qad (qcs a (((k+1:Nat):Int)))))=true:=fun D=>by simp[T.cl,qah]
  have hL:=fun Q x=>qgI p i k t ⟨4,a,num⟩ v (qcs a (((k+1:Nat):Int))) (by omega) Q x (qcs a (((k+1:Nat):Int))) [] rfl
  generalize qcs a (((k+1:Nat):Int))=B at*
  rcases hm:(B.map fun n=>(⟨i,k,num,v,n⟩:Ev)) with _ | ⟨z,zs⟩
  ·simp only[evE,evH,lnC,hm,qbt,qbj,List.map_nil,List.cons_append,List.nil_append,List.append_nil,List.length_nil,Int.natCast_zero] at hL
   have fX:=(cJ6 @hg1 @hg2 @z0 @z1 @hw @hb)
   refine qag fn92 (by simp) ?_
   unfold i92
   simp only[argL,qar,pgC,encP]
   refine wR0 0 [2,3,4] fX ?_
   refine wR0 100 [2,4,7] fX ?_
   refine wR0 200 [2,4,7,8] fX ?_
   refine wR0 300 [2,4,7,8,9] fX ?_
   refine wR0 400 [2,4,8,9,33] fX ?_
   refine wF @hb ?_
   refine wR0 600 [2,4,8,9,10] fX ?_
   refine wR0 700 [2,4,8,9,10,37] fX ?_
   refine wR0 800 [2,4,8,9,10,37,38] fX ?_
   refine wF fX ?_
   refine wR0 1000 [2,4,8,9,10,37,42] fX ?_
   refine wF fX ?_
   refine wR0 1300 [2,4,8,9,10,37,48] fX ?_
   refine wF fX ?_
   refine wR0 1500 [2,4,8,9,10,37,53] fX ?_
   refine wT fX ?_
   refine wRn 1600 [2,4,8,10] fX ?_
   refine rC fX ?_
   refine⟨_,hbo,rE fX ?_⟩
   refine wR0 2100 [2,4,8,10,11] fX ?_
   simp only[thn]
   refine qbZ (l':=[(2,.int .i64 v),(4,.ref 1 2 0),(8,.ref 206 3 0),(10,.list (qad B)),(11,.nil)]) (hl':=evH p i k t ⟨4,a,num⟩++[(601,.dead)]) [0,1,106,206] (.cons (.same rfl) (.cons (.same rfl) (.cons (.same rfl) (.cons (.same (hbc _)) (.cons (.same rfl) .nil))))) (.keep rfl (.liveS (qaD _ p) (qa3 p)) (.keep rfl (.liveS rfl (qbD _ _)) (.keep rfl (.liveS (qaJ _ t) (qbY t)) (.keep rfl (.liveS rfl (qbR ⟨4,a,num⟩)) (.dead rfl (fun h=>by cases h) .nil))))) ?_
   simp only[evH,lnC,List.cons_append,List.nil_append]
   refine wR0 2200 [2,4,8,11,64,65,66] fX ?_
   refine wL ?_
   refine hL _ ?_
   ·intro j
    refine wN ?_
    refine wR0 2700 [6] fX ?_
    refine wP ?_
    exact .nil
  ·simp only[evE,evH,lnC,hm,qbt,qbj,List.map_nil,List.cons_append,List.nil_append,List.append_nil,List.length_nil,Int.natCast_zero] at hL
   have fX:=(cJ6 @hg1 @hg2 @z0 @z1 @hw @hb)
   refine qag fn92 (by simp) ?_
   unfold i92
   simp only[argL,qar,pgC,encP]
   refine wR0 0 [2,3,4] fX ?_
   refine wR0 100 [2,4,7] fX ?_
   refine wR0 200 [2,4,7,8] fX ?_
   refine wR0 300 [2,4,7,8,9] fX ?_
   refine wR0 400 [2,4,8,9,33] fX ?_
   refine wF @hb ?_
   refine wR0 600 [2,4,8,9,10] fX ?_
   refine wR0 700 [2,4,8,9,10,37] fX ?_
   refine wR0 800 [2,4,8,9,10,37,38] fX ?_
   refine wF fX ?_
   refine wR0 1000 [2,4,8,9,10,37,42] fX ?_
   refine wF fX ?_
   refine wR0 1300 [2,4,8,9,10,37,48] fX ?_
   refine wF fX ?_
   refine wR0 1500 [2,4,8,9,10,37,53] fX ?_
   refine wT fX ?_
   refine wRn 1600 [2,4,8,10] fX ?_
   refine rC fX ?_
   refine⟨_,hbo,rE fX ?_⟩
   refine wR0 2100 [2,4,8,10,11] fX ?_
   simp only[thn]
   refine qbZ (l':=[(2,.int .i64 v),(4,.ref 1 2 0),(8,.ref 206 3 0),(10,.list (qad B)),(11,.nil)]) (hl':=evH p i k t ⟨4,a,num⟩++[(601,.dead)]) [0,1,106,206] (.cons (.same rfl) (.cons (.same rfl) (.cons (.same rfl) (.cons (.same (hbc _)) (.cons (.same rfl) .nil))))) (.keep rfl (.liveS (qaD _ p) (qa3 p)) (.keep rfl (.liveS rfl (qbD _ _)) (.keep rfl (.liveS (qaJ _ t) (qbY t)) (.keep rfl (.liveS rfl (qbR ⟨4,a,num⟩)) (.dead rfl (fun h=>by cases h) .nil))))) ?_
   simp only[evH,lnC,List.cons_append,List.nil_append]
   refine wR0 2200 [2,4,8,11,64,65,66] fX ?_
   refine wL ?_
   refine hL _ ?_
   ·intro j
    refine wN ?_
    refine wR0 2700 [6] fX ?_
    refine wP ?_
    exact qbb (z::zs) rfl rfl rfl
 ·rw[show evK i k ⟨5,a,num⟩ v (((k+1:Nat):Int))=[⟨i,k,num,v,((k+1:Nat):Int)⟩] from by simp[evK]]
  have hL:=fun Q x=>qgI p i k t ⟨5,a,num⟩ (v) ([((k+1:Nat):Int)]) (by simp) Q x _ [] rfl
  simp only[evE,evH,lnC,qbt,qbj,List.map_cons,List.map_nil,List.cons_append,List.nil_append,List.append_nil,List.length_nil,Int.natCast_zero] at hL
  have fX:=(cJ6 @hg1 @hg2 @z0 @z1 @hw @hb)
  refine qag fn92 (by simp) ?_
  unfold i92
  simp only[argL,qar,pgC,encP]
  refine wR0 0 [2,3,4] fX ?_
  refine wR0 100 [2,4,7] fX ?_
  refine wR0 200 [2,4,7,8] fX ?_
  refine wR0 300 [2,4,7,8,9] fX ?_
  refine wR0 400 [2,4,8,9,33] fX ?_
  refine wF @hb ?_
  refine wR0 600 [2,4,8,9,10] fX ?_
  refine wR0 700 [2,4,8,9,10,37] fX ?_
  refine wR0 800 [2,4,8,9,10,37,38] fX ?_
  refine wF fX ?_
  refine wR0 1000 [2,4,8,9,10,37,42] fX ?_
  refine wF fX ?_
  refine wR0 1300 [2,4,8,9,10,37,48] fX ?_
  refine wF fX ?_
  refine wR0 1500 [2,4,8,9,10,37,53] fX ?_
  refine wF fX ?_
  refine wR0 1700 [2,4,8,10,37,59] fX ?_
  refine wF fX ?_
  refine wR0 1900 [2,4,8,10,62] fX ?_
  refine wF fX ?_
  refine wR0 2100 [2,4,8,10,11] fX ?_
  simp only[thn]
  refine qbZ (l':=[(2,.int .i64 (v)),(4,.ref 1 2 0),(8,.ref 206 3 0),(10,.list (qad ([((k+1:Nat):Int)]))),(11,.nil)]) (hl':=evH p i k t ⟨5,a,num⟩++[(601,.dead)]) [0,1,106,206] (.cons (.same rfl) (.cons (.same rfl) (.cons (.same rfl) (.cons (qdu _ rfl rfl) (.cons (.same rfl) .nil))))) (.keep rfl (.liveS (qaD _ p) (qa3 p)) (.keep rfl (.liveS rfl (qbD _ _)) (.keep rfl (.liveS (qaJ _ t) (qbY t)) (.keep rfl (.liveS rfl (qbR ⟨5,a,num⟩)) (.dead rfl (fun h=>by cases h) .nil))))) ?_
  simp only[evH,lnC,List.cons_append,List.nil_append]
  refine wR0 2200 [2,4,8,11,64,65,66] fX ?_
  refine wL ?_
  refine hL _ ?_
  ·intro j
   refine wN ?_
   refine wR0 2700 [6] fX ?_
   refine wP ?_
   exact qbb [⟨i,k,num,v,((k+1:Nat):Int)⟩] rfl rfl rfl
 ·rw[show evK i k ⟨6,a,num⟩ v (((k+1:Nat):Int))=[⟨i,k,num,v,-1⟩] from by simp[evK]]
  have hL:=fun Q x=>qty p i k t ⟨6,a,num⟩ (v) ([-1]) (by simp) Q x _ [] rfl
  simp only[evE,evH,lnC,qbt,qbj,List.map_cons,List.map_nil,List.cons_append,List.nil_append,List.append_nil,List.length_nil,Int.natCast_zero] at hL
  have fX:=(cJ6 @hg1 @hg2 @z0 @z1 @hw @hb)
  refine qag fn92 (by simp) ?_
  unfold i92
  simp only[argL,qar,pgC,encP]
  refine wR0 0 [2,3,4] fX ?_
  refine wR0 100 [2,4,7] fX ?_
  refine wR0 200 [2,4,7,8] fX ?_
  refine wR0 300 [2,4,7,8,9] fX ?_
  refine wR0 400 [2,4,8,9,33] fX ?_
  refine wF @hb ?_
  refine wR0 600 [2,4,8,9,10] fX ?_
  refine wR0 700 [2,4,8,9,10,37] fX ?_
  refine wR0 800 [2,4,8,9,10,37,38] fX ?_
  refine wF fX ?_
  refine wR0 1000 [2,4,8,9,10,37,42] fX ?_
  refine wF fX ?_
  refine wR0 1300 [2,4,8,9,10,37,48] fX ?_
  refine wF fX ?_
  refine wR0 1500 [2,4,8,9,10,37,53] fX ?_
  refine wF fX ?_
  refine wR0 1700 [2,4,8,10,37,59] fX ?_
  refine wT fX ?_
  refine wR0 1800 [2,4,8,10] fX ?_
  refine wR0 2100 [2,4,8,10,11] fX ?_
  simp only[thn]
  refine qbZ (l':=[(2,.int .i64 (v)),(4,.ref 1 2 0),(8,.ref 206 3 0),(10,.list (qad ([-1]))),(11,.nil)]) (hl':=evH p i k t ⟨6,a,num⟩++[(601,.dead),(1800,.dead)]) [0,1,106,206] (.cons (.same rfl) (.cons (.same rfl) (.cons (.same rfl) (.cons (qdu _ rfl rfl) (.cons (.same rfl) .nil))))) (.keep rfl (.liveS (qaD _ p) (qa3 p)) (.keep rfl (.liveS rfl (qbD _ _)) (.keep rfl (.liveS (qaJ _ t) (qbY t)) (.keep rfl (.liveS rfl (qbR ⟨6,a,num⟩)) (.dead rfl (fun h=>by cases h) (.dead rfl (fun h=>by cases h) .nil)))))) ?_
  simp only[evH,lnC,List.cons_append,List.nil_append]
  refine wR0 2200 [2,4,8,11,64,65,66] fX ?_
  refine wL ?_
  refine hL _ ?_
  ·intro j
   refine wN ?_
   refine wR0 2700 [6] fX ?_
   refine wP ?_
   exact qbb [⟨i,k,num,v,-1⟩] rfl rfl rfl
 ·rw[show evK i k ⟨7,a,num⟩ v (((k+1:Nat):Int))=[] from by simp[evK]]
  have fX:=(cJ6 @hg1 @hg2 @z0 @z1 @hw @hb)
  refine qag fn92 (by simp) ?_
  unfold i92
  simp only[argL,qar,pgC,encP]
  refine wR0 0 [2,3,4] fX ?_
  refine wR0 100 [2,4,7] fX ?_
  refine wR0 200 [2,4,7,8] fX ?_
  refine wR0 300 [2,4,7,8,9] fX ?_
  refine wR0 400 [2,4,8,9,33] fX ?_
  refine wF @hb ?_
  refine wR0 600 [2,4,8,9,10] fX ?_
  refine wR0 700 [2,4,8,9,10,37] fX ?_
  refine wR0 800 [2,4,8,9,10,37,38] fX ?_
  refine wF fX ?_
  refine wR0 1000 [2,4,8,9,10,37,42] fX ?_
  refine wF fX ?_
  refine wR0 1300 [2,4,8,9,10,37,48] fX ?_
  refine wF fX ?_
  refine wR0 1500 [2,4,8,9,10,37,53] fX ?_
  refine wF fX ?_
  refine wR0 1700 [2,4,8,10,37,59] fX ?_
  refine wF fX ?_
  refine wR0 1900 [2,4,8,10,62] fX ?_
  refine wT fX ?_
  refine wR0 2000 [6] fX ?_
  refine wP ?_
  exact .nil
theorem qn2 (p:Pg)(hp:p.fit)(i k:Nat)(h:IsPl p i k)(hk:LnOk p (p.ths.getD i default).lines.length ((p.ths.getD i default).lines.getD k default))(v:Int):TP Tryz.prog 92 [qar p,encP ((i:Int),(k:Int)),.int .i64 v] (.list (qaG (evL p v i k))):=by
 rw[evL_K,behL]
 by_cases hb:k+1=(p.ths.getD i default).lines.length
 ·rw[if_pos hb]
  exact pev_t p i k _ _ v (qeo hp h) hk.k (by rw[qa8,beq_iff_eq];omega)
 ·rw[if_neg hb]
  exact pev_f p i k _ _ v (qeo hp h) hk.k (by rw[qa8,beq_eq_false_iff_ne];omega)
end
end Go.Proofs.YtkbjpglehdhjfaaGreatDoor
