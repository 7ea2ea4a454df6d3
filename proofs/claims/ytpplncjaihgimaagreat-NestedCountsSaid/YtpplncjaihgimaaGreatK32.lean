/- Contracts of functions of the program, for all arguments that they name. -/
import Derived.Test.YtpplncjaihgimaaGreatK29
import Derived.Test.YtpplncjaihgimaaGreatK31
namespace Go.Proofs.YtpplncjaihgimaaGreat
set_option linter.unusedVariables false
section
open Go.RowKit
set_option maxHeartbeats 2000000
attribute [local simp] qay qai qeS
theorem ql1 (ws:List Int)(hl:ws.length≤1000000)(Q:IExit→(Nat→T)→Heap→Prop):∀(rest pre:List Int) (n:Nat),ws=pre++rest→pre.length=n→
 (∀i:Int,Q (.exit 0) (ofL [(3,qdN 504 ws),(6,.list (qab ws)),(7,.int .i64 ws.length),(8,.int .i64 i),(9,.bool false)]) (hpL (qdM 504 25 ws)))→
 WL Tryz.prog 19 qkC (ofL [(3,qdN 504 pre),(6,.list (qab ws)),(7,.int .i64 ws.length),(8,.int .i64 n)]) (hpL (qdM 504 25 pre)) Q:=by
 have hal:(qab ws).length=ws.length:=qah ws
 intro rest
 induction rest with
 | nil=>
  intro pre n he hn hQ
  have hd:decide ((n:Int)<(ws.length:Int))=false:=by simp[he,hn]
  simp only[List.append_nil] at he
  subst he
  have fX:=@hd
  refine qaa qkC.eq_1 ?_
  refine wR0 300 [3,6,7,8,9] fX ?_
  refine wF @hd ?_
  refine wX ?_
  refine wN ?_
  exact hQ _
 | cons k rest ih=>
  intro pre n he hn hQ
  have hlt:(n:Int)<(ws.length:Int):=by rw[he];simp;omega
  have hlb:n≤1000000:=by rw[he] at hl;simp at hl;omega
  have hd:decide ((n:Int)<(ws.length:Int))=true:=decide_eq_true hlt
  have hg:(qab ws).getD (n:Int).toNat .undef=.int .i64 k:=by rw[qdu ws n (by rw[he];simp;omega),he,←hn];simp[List.getD_eq_getElem?_getD]
  have hw:IntKind.wrap .i64 ((n:Int)+1)=((n+1:Nat):Int):=by rw[wrap64 (by omega) (by omega)];rfl
  have hQ':=ih (pre++[k]) (n+1) (by simpa using he) (by simp[hn]) hQ
  cases pre with
  | nil=>
   simp only[qdN,qdM,List.nil_append] at hQ' ⊢
   have fX:=(cJ5 @hd @hg @hw @qaI @hal)
   refine qaa qkC.eq_1 ?_
   refine W_gc ?_
   refine wR0 300 [3,6,7,8,9] fX ?_
   refine wT fX ?_
   refine wR0 400 [3,5,6,7,8] fX ?_
   refine wR0 500 [3,6,7,8] fX ?_
   refine wR0 600 [3,6,7,8] fX ?_
   refine wN ?_
   refine qaC [504] (by simp[inL]) (by simp[inL,T.cl,qae]) (by simp[qam,inL,Slot.cl,T.cl,clL]) ?_
   simpa [qam,inL,qck] using hQ'
  | cons p pre=>
   have hp:pre.length+1≤1000000:=by simp at hn;omega
   have hs:qck (p::(pre++[k]))=qck (p::pre)++[.int .i64 k,.nil]:=qeT (p::pre) k
   have hm2:(pre.length+1+1)*2=(pre.length+1)*2+2:=by omega
   simp only[List.cons_append,qdN,qdM,hs,List.length_append,List.length_cons,List.length_nil,Nat.zero_add,hm2] at hQ' ⊢
   have fX:=(cJ6 @hd @hg @hw @qaI @hal @qdy)
   refine qaa qkC.eq_1 ?_
   refine W_gc ?_
   refine wR0 300 [3,6,7,8,9] fX ?_
   refine wT fX ?_
   refine wR0 400 [3,5,6,7,8] fX ?_
   refine wR0 500 [3,6,7,8] fX ?_
   refine wR0 600 [3,6,7,8] fX ?_
   refine wN ?_
   refine qaC [504] (by simp[inL]) (by simp[inL,T.cl,qae]) (by simp[qam,inL,Slot.cl,T.cl,clL,qeS,qao]) ?_
   simpa [qam,inL] using hQ'
theorem qqy (ws:List Int)(hl:ws.length≤1000000):TP Tryz.prog 64 [.list (qab ws)] (.list (qac (qaP ws))):=by
 have hal:(qab ws).length=ws.length:=qah ws
 have fX:=@hal
 refine qan fn64 (by simp) ?_
 unfold i64
 simp only[argL]
 refine wR0 0 [0] fX ?_
 refine wR0 100 [0,3] fX ?_
 refine wR0 200 [3,6,7,8] fX ?_
 refine wL ?_
 refine ql1 ws hl _ ws [] 0 rfl rfl ?_
 ·intro i
  refine wN ?_
  refine wN ?_
  rcases ws with _ | ⟨w,ws⟩
  ·skip
   refine wN ?_
   simp only[qdN,qdM]
   refine wR0 700 [2] fX ?_
   refine wP ?_
   first | exact .nil | exact qeU (w::ws) rfl rfl rfl
  ·skip
   refine wN ?_
   simp only[qdN,qdM]
   refine wR0 700 [2] fX ?_
   refine wP ?_
   first | exact .nil | exact qeU (w::ws) rfl rfl rfl
theorem qsO (m:Md)(hm:m.fit)(h0:qaM m=0):TP Tryz.prog 65 [qax m] (.tup [qal (qau m),.int .i64 0]):=by
 have hc:=qfO m hm
 rw[h0] at hc
 have ht:=qj7 m (qgb hm h0)
 have hz:((0:Int) != 0)=false:=rfl
 rcases hty:qau m with⟨tk,ts,trs,tps⟩
 rw[hty] at ht
 simp only[qal] at ht
 have fX:=@hz
 refine qan fn65 (by simp) ?_
 unfold i65
 simp only[argL,qax,mdC]
 refine wR0 0 [1,2] fX ?_
 refine wRn 100 [1,2,4] fX ?_
 refine rC fX ?_
 refine⟨_,hc,rE fX ?_⟩
 refine wR0 200 [1,2,4,8] fX ?_
 refine wF fX ?_
 refine wRn 400 [2,3] fX ?_
 refine rC fX ?_
 refine⟨_,ht,rE fX ?_⟩
 refine wP ?_
 exact Frz.tupL (.cons (.same (by simp[mkEl,esz,clL,T.cl,qae,qaG])) (.cons (.same rfl) .nil))
theorem qfF (D:Nat→Bool):∀l:List Nd,clL D (qaY (l.map nL))=true
 | []=>rfl
 | x::l=>by
  show clL D (encC (nL x)::qaY (l.map nL))=true
  simp only[clL,qfF D l,Bool.and_true]
  simp[encC,nL,T.cl,clL,qae]
set_option maxHeartbeats 8000000 in
theorem qmH (m:Md)(hlv:decide (m.levels > 1)=true)(s:Int)(l:List Nd)(hl:l.length≤1000000)(hk:∀x∈l,x.kids.length≤1000000)(Q:IExit→(Nat→T)→Heap→Prop):∀(rest pre:List Nd) (n:Nat),l=pre++rest→pre.length=n→
 (∀i:Int,Q (.exit 0) (ofL [(1,.int .i64 s),(3,.ref 0 10 0),(6,.ref 1 2 0),(8,.ref 101 2 0),(17,.list (qaY (l.map nL))),(18,.int .i64 l.length),(19,.int .i64 i),(20,.bool false)]) (hpL ([(0,sM m),(1,oSv 0 .nil),(101,oSv 0 (rowT 804 (l.map (qaD 2))))]++rowH 804 25 (l.map (qaD 2)))))→
 WL Tryz.prog 62 qfL (ofL [(1,.int .i64 s),(3,.ref 0 10 0),(6,.ref 1 2 0),(8,.ref 101 2 0),(17,.list (qaY (l.map nL))),(18,.int .i64 l.length),(19,.int .i64 n)]) (hpL ([(0,sM m),(1,oSv 0 .nil),(101,oSv 0 (rowT 804 (pre.map (qaD 2))))]++rowH 804 25 (pre.map (qaD 2)))) Q:=by
 have hmc:∀D,clL D (mdC m)=true:=fun D=>by simp
 have hmo:=qco m
 have hal:(qaY (l.map nL)).length=l.length:=by rw[qc3,List.length_map]
 have hpc:∀D,clL D (qaY (l.map nL))=true:=fun D=>qfF D l
 intro rest
 induction rest with
 | nil=>
  intro pre n he hn hQ
  have hd:decide ((n:Int)<(l.length:Int))=false:=by simp[he,hn]
  simp only[List.append_nil] at he
  subst he
  simp only[List.cons_append,List.nil_append] at hQ ⊢
  have fX:=@hd
  refine qaa qfL.eq_1 ?_
  refine wR0 300 [1,3,6,8,17,18,19,20] fX ?_
  refine wF @hd ?_
  refine wX ?_
  refine wN ?_
  exact hQ _
 | cons x rest ih=>
  intro pre n he hn hQ
  have hlt:(n:Int)<(l.length:Int):=by rw[he];simp;omega
  have hlb:n≤1000000:=by rw[he] at hl;simp at hl;omega
  have hkx:=hk x (by rw[he];simp)
  have hd:decide ((n:Int)<(l.length:Int))=true:=decide_eq_true hlt
  have hg:(qaY (l.map nL)).getD (n:Int).toNat .undef=.agg [.int .i64 x.lab,.list (qab x.kids)]:=by
   rw[he,List.map_append,List.map_cons]
   exact qi4 (pre.map nL) (nL x) (rest.map nL) n (by rw[List.length_map,hn])
  have hw:IntKind.wrap .i64 ((n:Int)+1)=((n+1:Nat):Int):=by rw[wrap64 (by omega) (by omega)];rfl
  have hlab:=qqy x.kids hkx
  have hfz:∀(H:Heap) (D:Nat→Bool) (ty:TypeId),H 707=.live ⟨ty,[.int .i64 x.lab,.nil,.int .i64 0,.list (qac (qaP x.kids))]⟩→D 707=false→Fz H D (.sl 707 4 2 0 2) (.list [encV (.mk x.lab []),encV (.mk 0 (qaP x.kids))]):=fun H D ty h hd=>.slL h hd rfl rfl rfl rfl rfl (.cons (.same rfl) (.cons .nil (.cons (.same rfl) (.cons (.same (by simp[T.cl,qai])) .nil))))
  have hQ':=ih (pre++[x]) (n+1) (by simpa using he) (by simp[hn]) hQ
  have hnv:qaD 2 x=.mk 0 [.mk x.lab [],.mk 0 (qaP x.kids)]:=rfl
  cases pre with
  | nil=>
   simp only[List.map_cons,List.map_nil,List.nil_append,rowT,rowH,List.append_nil,List.cons_append] at hQ' ⊢
   have fX:=(cJ6 @hd @hg @hw @qaI @qcp @hal)
   refine qaa qfL.eq_1 ?_
   refine W_gc ?_
   refine wR0 300 [1,3,6,8,17,18,19,20] fX ?_
   refine wT fX ?_
   refine wR0 400 [1,3,6,8,10,17,18,19] fX ?_
   refine wR0 500 [1,3,6,8,10,11,17,18,19] fX ?_
   refine wR0 600 [1,3,6,8,10,11,17,18,19,28] (cJ3 @mdC.eq_1 @hlv fX) ?_
   refine wT fX ?_
   refine wRn 700 [1,3,6,8,11,17,18,19] fX ?_
   refine rC fX ?_
   refine⟨_,hlab,rE fX ?_⟩
   simp only[thn]
   refine qbW (l':=[(1,.int .i64 s),(3,.ref 0 10 0),(6,.ref 1 2 0),(8,.ref 101 2 0),(11,.ref 503 2 0),(17,.list (qaY (l.map nL))),(18,.int .i64 l.length),(19,.int .i64 n)]) (hl':=[(0,_),(1,_),(101,_),(402,.dead),(503,oSv 0 (.list [encV (.mk x.lab []),encV (.mk 0 (qaP x.kids))])),(707,.dead)]) [0,1,101,503] (.cons (.same rfl) (.cons (.same rfl) (.cons (.same rfl) (.cons (.same rfl) (.cons (.same rfl) (.cons (.same (hpc _)) (.cons (.same rfl) (.cons (.same rfl) .nil)))))))) (.keep rfl (.liveS (hmc _) hmo) (.keep rfl (.liveA rfl rfl) (.keep rfl (.liveA rfl rfl) (.dead rfl (fun h=>by cases h) (.keep rfl (.liveL (.cons (.same rfl) (.cons (hfz _ _ _ rfl rfl) .nil)) rfl) (.dead rfl (fun h=>by cases h) .nil)))))) ?_
   refine wR0 800 [1,3,6,8,17,18,19] fX ?_
   refine wR0 900 [1,3,6,8,17,18,19] fX ?_
   refine wN ?_
   refine qaC [0,1,101,804] (by simp[inL]) (by simp[inL,T.cl,hpc]) (by simp[qam,inL,Slot.cl,T.cl,clL,hmc,qct]) ?_
   simpa [qam,inL,hnv,qaq,V.n,V.kids,qac] using hQ'
  | cons p pre=>
   have hp:pre.length+1≤1000000:=by simp at hn;omega
   have hs:qaq (qaD 2 p::(pre.map (qaD 2)++[qaD 2 x]))=qaq (qaD 2 p::pre.map (qaD 2))++[.int .i64 0,.list [encV (.mk x.lab []),encV (.mk 0 (qaP x.kids))]]:=qbk (qaD 2 p::pre.map (qaD 2)) (qaD 2 x)
   have hm2:(pre.length+1+1)*2=(pre.length+1)*2+2:=by omega
   simp only[List.map_cons,List.map_append,List.map_nil,rowT,rowH,List.cons_append,List.nil_append,hs,List.length_append,List.length_map,List.length_cons,List.length_nil,Nat.zero_add,hm2] at hQ' ⊢
   have fX:=(cJ8 @hd @hg @hw @qaI @qcp @hal @qaz @List.length_map.{0,0})
   refine qaa qfL.eq_1 ?_
   refine W_gc ?_
   refine wR0 300 [1,3,6,8,17,18,19,20] fX ?_
   refine wT fX ?_
   refine wR0 400 [1,3,6,8,10,17,18,19] fX ?_
   refine wR0 500 [1,3,6,8,10,11,17,18,19] fX ?_
   refine wR0 600 [1,3,6,8,10,11,17,18,19,28] (cJ3 @mdC.eq_1 @hlv fX) ?_
   refine wT fX ?_
   refine wRn 700 [1,3,6,8,11,17,18,19] fX ?_
   refine rC fX ?_
   refine⟨_,hlab,rE fX ?_⟩
   simp only[thn]
   refine qbW (l':=[(1,.int .i64 s),(3,.ref 0 10 0),(6,.ref 1 2 0),(8,.ref 101 2 0),(11,.ref 503 2 0),(17,.list (qaY (l.map nL))),(18,.int .i64 l.length),(19,.int .i64 n)]) (hl':=[(0,_),(1,_),(101,_),(804,.live ⟨25,qaq (qaD 2 p::pre.map (qaD 2))⟩),(402,.dead),(503,oSv 0 (.list [encV (.mk x.lab []),encV (.mk 0 (qaP x.kids))])),(707,.dead)]) [0,1,101,804,503] (.cons (.same rfl) (.cons (.same rfl) (.cons (.same rfl) (.cons (.same rfl) (.cons (.same rfl) (.cons (.same (hpc _)) (.cons (.same rfl) (.cons (.same rfl) .nil)))))))) (.keep rfl (.liveS (hmc _) hmo) (.keep rfl (.liveA rfl rfl) (.keep rfl (.liveA rfl rfl) (.keep rfl (.liveS (qay _ _) (qbI _)) (.dead rfl (fun h=>by cases h) (.keep rfl (.liveL (.cons (.same rfl) (.cons (hfz _ _ _ rfl rfl) .nil)) rfl) (.dead rfl (fun h=>by cases h) .nil))))))) ?_
   refine wR0 800 [1,3,6,8,17,18,19] fX ?_
   refine wR0 900 [1,3,6,8,17,18,19] fX ?_
   refine wN ?_
   refine qaC [0,1,101,804] (by simp[inL]) (by simp[inL,T.cl,hpc]) (by simp[qam,inL,Slot.cl,T.cl,clL,hmc,qct,qay,qao]) ?_
   simpa [qam,inL] using hQ'
theorem qmG (m:Md)(hlv:decide (m.levels > 1)=false)(s:Int)(l:List Nd)(hl:l.length≤1000000)(Q:IExit→(Nat→T)→Heap→Prop):∀(rest pre:List Nd) (n:Nat),l=pre++rest→pre.length=n→
 (∀i:Int,Q (.exit 0) (ofL [(1,.int .i64 s),(3,.ref 0 10 0),(6,.ref 1 2 0),(8,.ref 101 2 0),(17,.list (qaY (l.map nL))),(18,.int .i64 l.length),(19,.int .i64 i),(20,.bool false)]) (hpL ([(0,sM m),(1,oSv 0 .nil),(101,oSv 0 (qdN 804 (l.map (·.lab))))]++qdM 804 25 (l.map (·.lab)))))→
 WL Tryz.prog 62 qfL (ofL [(1,.int .i64 s),(3,.ref 0 10 0),(6,.ref 1 2 0),(8,.ref 101 2 0),(17,.list (qaY (l.map nL))),(18,.int .i64 l.length),(19,.int .i64 n)]) (hpL ([(0,sM m),(1,oSv 0 .nil),(101,oSv 0 (qdN 804 (pre.map (·.lab))))]++qdM 804 25 (pre.map (·.lab)))) Q:=by
 have hmc:∀D,clL D (mdC m)=true:=fun D=>by simp
 have hal:(qaY (l.map nL)).length=l.length:=by rw[qc3,List.length_map]
 have hpc:∀D,clL D (qaY (l.map nL))=true:=fun D=>qfF D l
 intro rest
 induction rest with
 | nil=>
  intro pre n he hn hQ
  have hd:decide ((n:Int)<(l.length:Int))=false:=by simp[he,hn]
  simp only[List.append_nil] at he
  subst he
  simp only[List.cons_append,List.nil_append] at hQ ⊢
  have fX:=@hd
  refine qaa qfL.eq_1 ?_
  refine wR0 300 [1,3,6,8,17,18,19,20] fX ?_
  refine wF @hd ?_
  refine wX ?_
  refine wN ?_
  exact hQ _
 | cons x rest ih=>
  intro pre n he hn hQ
  have hlt:(n:Int)<(l.length:Int):=by rw[he];simp;omega
  have hlb:n≤1000000:=by rw[he] at hl;simp at hl;omega
  have hd:decide ((n:Int)<(l.length:Int))=true:=decide_eq_true hlt
  have hg:(qaY (l.map nL)).getD (n:Int).toNat .undef=.agg [.int .i64 x.lab,.list (qab x.kids)]:=by
   rw[he,List.map_append,List.map_cons]
   exact qi4 (pre.map nL) (nL x) (rest.map nL) n (by rw[List.length_map,hn])
  have hw:IntKind.wrap .i64 ((n:Int)+1)=((n+1:Nat):Int):=by rw[wrap64 (by omega) (by omega)];rfl
  have hQ':=ih (pre++[x]) (n+1) (by simpa using he) (by simp[hn]) hQ
  cases pre with
  | nil=>
   simp only[List.map_cons,List.map_nil,List.nil_append,qdN,qdM,List.append_nil,List.cons_append] at hQ' ⊢
   have fX:=(cJ6 @hd @hg @hw @qaI @qcp @hal)
   refine qaa qfL.eq_1 ?_
   refine W_gc ?_
   refine wR0 300 [1,3,6,8,17,18,19,20] fX ?_
   refine wT fX ?_
   refine wR0 400 [1,3,6,8,10,17,18,19] fX ?_
   refine wR0 500 [1,3,6,8,10,11,17,18,19] fX ?_
   refine wR0 600 [1,3,6,8,10,11,17,18,19,28] (cJ3 @mdC.eq_1 @hlv fX) ?_
   refine wF fX ?_
   refine wR0 800 [1,3,6,8,17,18,19] fX ?_
   refine wR0 900 [1,3,6,8,17,18,19] fX ?_
   refine wN ?_
   refine qaC [0,1,101,804] (by simp[inL]) (by simp[inL,T.cl,hpc]) (by simp[qam,inL,Slot.cl,T.cl,clL,hmc]) ?_
   simpa [qam,inL,qck] using hQ'
  | cons p pre=>
   have hp:pre.length+1≤1000000:=by simp at hn;omega
   have hs:qck (p.lab::(pre.map (·.lab)++[x.lab]))=qck (p.lab::pre.map (·.lab))++[.int .i64 x.lab,.nil]:=qeT (p.lab::pre.map (fun y:Nd=>y.lab)) x.lab
   have hm2:(pre.length+1+1)*2=(pre.length+1)*2+2:=by omega
   simp only[List.map_cons,List.map_append,List.map_nil,qdN,qdM,List.cons_append,List.nil_append,hs,List.length_append,List.length_map,List.length_cons,List.length_nil,Nat.zero_add,hm2] at hQ' ⊢
   have fX:=(cJ8 @hd @hg @hw @qaI @qcp @hal @qdy @List.length_map.{0,0})
   refine qaa qfL.eq_1 ?_
   refine W_gc ?_
   refine wR0 300 [1,3,6,8,17,18,19,20] fX ?_
   refine wT fX ?_
   refine wR0 400 [1,3,6,8,10,17,18,19] fX ?_
   refine wR0 500 [1,3,6,8,10,11,17,18,19] fX ?_
   refine wR0 600 [1,3,6,8,10,11,17,18,19,28] (cJ3 @mdC.eq_1 @hlv fX) ?_
   refine wF fX ?_
   refine wR0 800 [1,3,6,8,17,18,19] fX ?_
   refine wR0 900 [1,3,6,8,17,18,19] fX ?_
   refine wN ?_
   refine qaC [0,1,101,804] (by simp[inL]) (by simp[inL,T.cl,hpc]) (by simp[qam,inL,Slot.cl,T.cl,clL,hmc,qeS,qao]) ?_
   simpa [qam,inL] using hQ'
theorem qsT (L:Int)(x:Nd)(h:x.kids.length≤1000000):(qaD L x).fit:=by
 unfold qaD
 split
 ·have:∀v∈qaP x.kids,v.fit:=fun v hv=>by
   obtain⟨w,_,rfl⟩:=List.mem_map.1 hv
   simp[V.fit,fitL]
  simp only[V.fit,fitL,qcF,and_true]
  exact⟨by simp,by simp,h,qdo this⟩
 ·simp[V.fit,fitL]
theorem qpD (L:Int)(l:List Nd)(hl:l.length≤1000000)(hk:∀x∈l,x.kids.length≤1000000):(V.mk 0 (l.map (qaD L))).fit:=by
 simp only[V.fit,List.length_map]
 refine⟨hl,qdo fun v hv=>?_⟩
 obtain⟨x,hx,rfl⟩:=List.mem_map.1 hv
 exact qsT L x (hk x hx)
theorem qmJ (L s:Int)(l:List Nd)(hl:l.length≤1000000)(hk:∀x∈l,x.kids.length≤1000000):(cfgN L s l).fit:=by
 have:=qpD L l hl hk
 simp only[V.fit] at this
 simp only[cfgN,bagV,V.fit,fitL,and_true]
 exact⟨by simp,by simp,this⟩
set_option maxHeartbeats 8000000 in
theorem qqJ (m:Md)(hm:m.fit)(h0:qaM m=0)(hv:m.levels=1∨m.levels=2)(s:Int)(l:List Nd)(hl:l.length≤1000000)(hlf:qdB m.levels l)(hk:∀x∈l,x.kids.length≤1000000) :
 TP Tryz.prog 41 [qax m,.int .i64 s,.list (qaY (l.map nL))] (.tup [encV (qaX (qau m) (cfgN m.levels s l)).1,.bool ((qaX (qau m) (cfgN m.levels s l)).2==0)]):=by
 have hmc:∀D,clL D (mdC m)=true:=fun D=>by simp
 have hal:(qaY (l.map nL)).length=l.length:=by rw[qc3,List.length_map]
 have hty:=qsO m hm h0
 have hso:=qoU (qau m) (cfgN m.levels s l) (typedM_fit' hm) (qmJ m.levels s l hl hk)
 have hwi:=qvp s [.mk 0 (l.map (qaD m.levels))] (by simp) (fun k hk'=>by rw[List.mem_singleton] at hk';subst hk';exact qpD m.levels l hl hk)
 have hwe:qvo s [.mk 0 (l.map (qaD m.levels))]=cfgN m.levels s l:=rfl
 rw[hwe] at hwi
 rcases hr:qaX (qau m) (cfgN m.levels s l) with⟨⟨ra,rks⟩,re⟩
 rw[hr] at hso
 rcases htt:qau m with⟨tk,ts,trs,tps⟩
 rw[htt] at hso hty
 simp only[cfgN,bagV,encV,qac,qal] at hso hwi hty
 rcases hv with hL | hL
 ·have hlv:decide (m.levels > 1)=false:=decide_eq_false (by omega)
  rw[hL] at hso hwi hlf
  have hlab:l.map (qaD 1)=qaP (l.map (·.lab)):=by
   rw[qaP,List.map_map]
   exact List.map_congr_left fun x _=>rfl
  rw[hlab] at hso hwi
  rcases hll:l.map (·.lab) with _ | ⟨w,ws⟩
  ·rw[hll] at hso hwi
   have fX:=(cJ2 @hal @qaI)
   refine qan fn41 (by simp) ?_
   unfold i41
   simp only[argL,encV,qax,mdC]
   refine wR0 0 [1,2,3,6] fX ?_
   refine wR0 100 [1,2,3,6,8] fX ?_
   refine wR0 200 [1,3,6,8,17,18,19] fX ?_
   refine wL ?_
   refine qmG m hlv s l hl _ l [] 0 rfl rfl ?_
   ·intro i
    refine wN ?_
    rw[hll]
    simp only[qdN,qdM,List.append_nil]
    refine wRn 1000 [1,6,8,12] (cJ2 @mdC.eq_1 fX) ?_
    refine rC (cJ2 @mdC.eq_1 fX) ?_
    refine⟨_,hty,rE (cJ2 @mdC.eq_1 fX) ?_⟩
    refine wRn 1100 [6,14,15] fX ?_
    refine rG [(1103,.live ⟨_,_⟩)] fX ?_
    refine⟨_,_,hwi,fZt,rN fX ?_⟩
    refine rC fX ?_
    refine⟨_,hso,rE fX ?_⟩
    refine wR0 1200 [6,7] fX ?_
    refine wP ?_
    exact Frz.tupL (.cons (.same (by simp[mkEl,esz,T.cl,clL,qai])) (.cons (.same rfl) .nil))
  ·rw[hll] at hso hwi
   have fX:=(cJ2 @hal @qaI)
   refine qan fn41 (by simp) ?_
   unfold i41
   simp only[argL,encV,qax,mdC]
   refine wR0 0 [1,2,3,6] fX ?_
   refine wR0 100 [1,2,3,6,8] fX ?_
   refine wR0 200 [1,3,6,8,17,18,19] fX ?_
   refine wL ?_
   refine qmG m hlv s l hl _ l [] 0 rfl rfl ?_
   ·intro i
    refine wN ?_
    rw[hll]
    simp only[qdN,qdM,List.cons_append,List.nil_append]
    refine wRn 1000 [1,6,8,12] (cJ2 @mdC.eq_1 fX) ?_
    refine rC (cJ2 @mdC.eq_1 fX) ?_
    refine⟨_,hty,rE (cJ2 @mdC.eq_1 fX) ?_⟩
    refine wRn 1100 [6,14,15] fX ?_
    refine rG [(1103,.live ⟨_,_⟩),(804,.live ⟨_,_⟩)] fX ?_
    refine⟨_,_,hwi,(by (refine .cons (.same rfl) (.cons (Frz.slL rfl rfl rfl rfl rfl rfl (.cons (.same rfl) (.cons (qeU (w::ws) rfl rfl rfl) .nil))) .nil))),rN fX ?_⟩
    refine rC fX ?_
    refine⟨_,hso,rE fX ?_⟩
    refine wR0 1200 [6,7] fX ?_
    refine wP ?_
    exact Frz.tupL (.cons (.same (by simp[mkEl,esz,T.cl,clL,qai])) (.cons (.same rfl) .nil))
 ·have hlv:decide (m.levels > 1)=true:=decide_eq_true (by omega)
  rw[hL] at hso hwi
  rcases hll:l.map (qaD 2) with _ | ⟨w,ws⟩
  ·rw[hll] at hso hwi
   have fX:=(cJ2 @hal @qaI)
   refine qan fn41 (by simp) ?_
   unfold i41
   simp only[argL,encV,qax,mdC]
   refine wR0 0 [1,2,3,6] fX ?_
   refine wR0 100 [1,2,3,6,8] fX ?_
   refine wR0 200 [1,3,6,8,17,18,19] fX ?_
   refine wL ?_
   refine qmH m hlv s l hl hk _ l [] 0 rfl rfl ?_
   ·intro i
    refine wN ?_
    rw[hll]
    simp only[rowT,rowH,List.append_nil]
    refine wRn 1000 [1,6,8,12] (cJ2 @mdC.eq_1 fX) ?_
    refine rC (cJ2 @mdC.eq_1 fX) ?_
    refine⟨_,hty,rE (cJ2 @mdC.eq_1 fX) ?_⟩
    refine wRn 1100 [6,14,15] fX ?_
    refine rG [(1103,.live ⟨_,_⟩)] fX ?_
    refine⟨_,_,hwi,fZt,rN fX ?_⟩
    refine rC fX ?_
    refine⟨_,hso,rE fX ?_⟩
    refine wR0 1200 [6,7] fX ?_
    refine wP ?_
    exact Frz.tupL (.cons (.same (by simp[mkEl,esz,T.cl,clL,qai])) (.cons (.same rfl) .nil))
  ·rw[hll] at hso hwi
   have fX:=(cJ2 @hal @qaI)
   refine qan fn41 (by simp) ?_
   unfold i41
   simp only[argL,encV,qax,mdC]
   refine wR0 0 [1,2,3,6] fX ?_
   refine wR0 100 [1,2,3,6,8] fX ?_
   refine wR0 200 [1,3,6,8,17,18,19] fX ?_
   refine wL ?_
   refine qmH m hlv s l hl hk _ l [] 0 rfl rfl ?_
   ·intro i
    refine wN ?_
    rw[hll]
    simp only[rowT,rowH,List.cons_append,List.nil_append]
    refine wRn 1000 [1,6,8,12] (cJ2 @mdC.eq_1 fX) ?_
    refine rC (cJ2 @mdC.eq_1 fX) ?_
    refine⟨_,hty,rE (cJ2 @mdC.eq_1 fX) ?_⟩
    refine wRn 1100 [6,14,15] fX ?_
    refine rG [(1103,.live ⟨_,_⟩),(804,.live ⟨_,_⟩)] fX ?_
    refine⟨_,_,hwi,(by (refine .cons (.same rfl) (.cons (Frz.slL rfl rfl rfl rfl rfl rfl (.cons (.same rfl) (.cons (qbS (w::ws) rfl rfl rfl) .nil))) .nil))),rN fX ?_⟩
    refine rC fX ?_
    refine⟨_,hso,rE fX ?_⟩
    refine wR0 1200 [6,7] fX ?_
    refine wP ?_
    exact Frz.tupL (.cons (.same (by simp[mkEl,esz,T.cl,clL,qai])) (.cons (.same rfl) .nil))
end
end Go.Proofs.YtpplncjaihgimaaGreat
