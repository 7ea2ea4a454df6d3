/- Contracts of functions of the program, for all arguments that they name. -/
import Derived.Test.YtpplncjaihgimaaGreatK07
import Derived.Test.YtpplncjaihgimaaGreatK19
namespace Go.Proofs.YtpplncjaihgimaaGreat
set_option linter.unusedVariables false
section
open Go.RowKit
set_option maxHeartbeats 2000000
theorem qiz {H:Heap}{D:Nat→Bool}{id ty n tot:Nat}(ks:List V)(hb:H id=.live ⟨ty,qaq ks⟩)(hd:D id=false)(hn:n=ks.length)(ht:tot=ks.length*2):Fz H D (.sl id tot 2 0 n) (.list (qac ks)):=by
 subst hn ht
 refine Fz.sl hb hd (qaz ks) (by simp[esz]) (qag ks) (qcD ks) (by rw[←qbr];exact qbI ks) fun k hk=>?_
 rw[←qbr,Nat.zero_add]
 exact .same (qbb (qay _ ks) k)
theorem qoK (N:Int)(ks:List V)(hl:ks.length≤1000000)(Q:IExit→(Nat→T)→Heap→Prop):∀(rest pre:List V) (n:Nat),ks=pre++rest→pre.length=n→
 (∀k∈rest,TP Tryz.prog 107 [encV k] (encV k))→
 (∀i:Int,Q (.exit 0) (ofL [(1,.ref 0 2 0),(2,.ref 1 2 0),(3,.ref 103 2 0),(4,.int .i64 i),(12,.bool false)])
  (hpL ([(0,.live ⟨129,[.int .i64 N,.list (qac ks)]⟩),(1,.live ⟨25,[.int .i64 0,.nil]⟩),(103,.live ⟨25,[.int .i64 N,rowT 409 ks]⟩)]++rowH 409 25 ks)))→
 WL Tryz.prog 27 qhu (ofL [(1,.ref 0 2 0),(2,.ref 1 2 0),(3,.ref 103 2 0),(4,.int .i64 n)])
  (hpL ([(0,.live ⟨129,[.int .i64 N,.list (qac ks)]⟩),(1,.live ⟨25,[.int .i64 0,.nil]⟩),(103,.live ⟨25,[.int .i64 N,rowT 409 pre]⟩)]++rowH 409 25 pre)) Q:=by
 intro rest
 induction rest with
 | nil=>
  intro pre n he hn hk hQ
  have hd:decide ((n:Int)<((qac ks).length:Int))=false:=by simp[qag,he,hn]
  simp only[List.append_nil] at he
  subst he
  simp only[List.cons_append,List.nil_append] at hQ ⊢
  refine qaa qhu.eq_1 ?_
  refine wN ?_
  refine wR0 300 [1,2,3,4,12] @hd ?_
  refine wN ?_
  refine qaj (eV cJ0) ?_
  simp only[Bool.false_eq_true,if_false]
  refine wN ?_
  refine qbE ?_
  (try simp only[thn])
  exact hQ _
 | cons k rest ih=>
  intro pre n he hn hk hQ
  rcases k with⟨a,bs⟩
  have hlt:(n:Int)<((qac ks).length:Int):=by simp[qag,he];omega
  have hlb:n≤1000000:=by rw[he] at hl;simp at hl;omega
  have hd:decide ((n:Int)<((qac ks).length:Int))=true:=decide_eq_true hlt
  have hg:(qac ks).getD (n:Int).toNat .undef=.agg [.int .i64 a,.list (qac bs)]:=by rw[Int.toNat_natCast,he,←hn];exact qaU _ (.mk a bs) _
  have hw:IntKind.wrap .i64 ((n:Int)+1)=(n:Int)+1:=wrap64 (by omega) (by omega)
  cases pre with
  | nil=>
   simp only[rowT,rowH,List.append_nil]
   refine qaa qhu.eq_1 ?_
   refine W_gc ?_
   refine wN ?_
   refine wR0 300 [1,2,3,4,12] @hd ?_
   refine wN ?_
   refine qaj (eV cJ0) ?_
   simp only[if_true]
   refine wN ?_
   have fX:=(cJ2 @hg @encV.eq_1)
   refine wRn 400 [1,2,3,4] fX ?_
   refine rC fX ?_
   refine⟨_,hk (.mk a bs) (List.mem_cons_self ..),rE fX ?_⟩
   refine wN ?_
   refine wR0 500 [1,2,3,4] @hw ?_
   refine wN ?_
   refine qaC [0,1,103,409] (by simp[inL]) (by simp[inL,T.cl]) (by simp[qam,inL,Slot.cl,T.cl,clL,qai]) ?_
   have:=ih [V.mk a bs] (n+1) (by simpa using he) (by simp at hn;simp;omega) (fun k' hk'=>hk k' (List.mem_cons_of_mem _ hk')) (by simpa using hQ)
   simpa [qam,inL,rowT,rowH,qaq,V.n,V.kids] using this
  | cons p pre=>
   have hp:pre.length+1≤1000000:=by simp at hn;omega
   simp only[rowT,rowH,List.cons_append,List.nil_append]
   refine qaa qhu.eq_1 ?_
   refine W_gc ?_
   refine wN ?_
   refine wR0 300 [1,2,3,4,12] @hd ?_
   refine wN ?_
   refine qaj (eV cJ0) ?_
   simp only[if_true]
   refine wN ?_
   have fX:=(cJ3 @hg @encV.eq_1 @qaz)
   refine wRn 400 [1,2,3,4] fX ?_
   refine rC fX ?_
   refine⟨_,hk (.mk a bs) (List.mem_cons_self ..),rE fX ?_⟩
   refine wN ?_
   refine wR0 500 [1,2,3,4] @hw ?_
   refine wN ?_
   refine qaC [0,1,103,409] (by simp[inL]) (by simp[inL,T.cl]) (by simp[qam,inL,Slot.cl,T.cl,clL,qai,qay,qao]) ?_
   have:=ih (p::(pre++[V.mk a bs])) (n+1) (by simpa using he) (by simp at hn;simp;omega) (fun k' hk'=>hk k' (List.mem_cons_of_mem _ hk')) (by simpa using hQ)
   have hs:qaq (p::(pre++[V.mk a bs]))=qaq (p::pre)++[.int .i64 a,.list (qac bs)]:=qbk (p::pre) (.mk a bs)
   have hm:(pre.length+1+1)*2=(pre.length+1)*2+2:=by omega
   simp only[rowT,rowH,hs,List.length_append,List.length_cons,List.length_nil,Nat.zero_add,hm] at this
   simpa [qam,inL] using this
theorem qnv:∀v:V,v.fit→TP Tryz.prog 107 [encV v] (encV v)
 | .mk N ks,hv=>by
  have hv':=V.fit_kids hv
  simp only[V.kids] at hv'
  refine qan fn107 (by simp) ?_
  unfold i107
  simp only[argL,encV]
  refine wN ?_
  refine wR0 0 [1,2] cJ0 ?_
  refine wN ?_
  refine wR0 100 [1,2,3] cJ0 ?_
  refine wN ?_
  refine wR0 200 [1,2,3,4] cJ0 ?_
  refine wN ?_
  refine qbN ?_
  refine qoK N ks hv'.1 _ ks [] 0 rfl rfl (fun k hk=>qnv k (hv'.2 k hk)) ?_
  intro i
  simp only[inB,if_true,thn]
  cases ks with
  | nil=>
   simp only[rowT,rowH,List.append_nil]
   refine wR0 600 [2] cJ0 ?_
   refine wN ?_
   refine qaE ?_
   exact⟨by simp,_,rfl,qaS .nil rfl⟩
  | cons k ks=>
   simp only[rowT,rowH,List.cons_append,List.nil_append]
   refine wR0 600 [2] cJ0 ?_
   refine wN ?_
   refine qaE ?_
   exact⟨by simp,_,rfl,qaS (qbS (k::ks) rfl rfl rfl) rfl⟩
termination_by v=>SizeOf.sizeOf v
decreasing_by exact qcR hk N
def qaP (ws:List Int):List V:=ws.map fun w=>.mk w []
def wordV (ws:List Int):V:=.mk 0 (qaP ws)
def qck (ws:List Int):List T:=ws.flatMap fun w=>[.int .i64 w,.nil]
theorem qdy:∀ws,(qck ws).length=ws.length*2
 | []=>rfl
 | w::ws=>by have:=qdy ws;simp only[qck] at this;simp[qck,this];omega
theorem qeS (D:Nat→Bool):∀ws,clL D (qck ws)=true
 | []=>rfl
 | w::ws=>by have:=qeS D ws;simp only[qck] at this;simp[qck,clL,T.cl,this]
theorem qeT (ws:List Int)(w:Int):qck (ws++[w])=qck ws++[.int .i64 w,.nil]:=by simp[qck]
theorem qks {H:Heap}:∀ws,FrzL H (qck ws) (flat (qac (qaP ws)))
 | []=>.nil
 | w::ws=>by
  have ih:=qks (H:=H) ws
  simp only[qck,qaP] at ih
  simp only[qck,qaP,List.flatMap_cons,List.map_cons,qac,qbe,List.cons_append,List.nil_append,encV,T.cells]
  exact .cons (.same rfl) (.cons .nil ih)
def qdN (id:Nat)(done:List Int):T:=match done with
 | []=>.nil
 | d::ds=>.sl id ((ds.length+1)*2) 2 0 (ds.length+1)
def qdM (id ty:Nat)(done:List Int):List (Nat×Slot):=match done with
 | []=>[]
 | d::ds=>[(id,.live ⟨ty,qck (d::ds)⟩)]
theorem qcF (ws:List Int):(qaP ws).length=ws.length:=by simp[qaP]
theorem qeU {H:Heap}{id ty n tot:Nat}(ws:List Int)(hb:H id=.live ⟨ty,qck ws⟩)(hn:n=ws.length)(ht:tot=ws.length*2):Frz H (.sl id tot 2 0 n) (.list (qac (qaP ws))):=by
 refine Frz.slL hb (by rw[qdy,ht]) (by rw[qag,qcF,hn]) (by simp[esz,hn,ht]) (qhm _) ?_ (qks ws)
 rw[←qbr,List.all_eq_true]
 exact fun c hc=>qbI _ c hc
theorem qpr (ws:List Int)(hl:ws.length≤1000000)(Q:IExit→(Nat→T)→Heap→Prop):∀(rest pre:List Int) (n:Nat),ws=pre++rest→pre.length=n→
 (∀i:Int,Q (.exit 0) (ofL [(0,.list (qab ws)),(2,.ref 0 2 0),(3,.ref 100 2 0),(4,.int .i64 i),(8,.bool false)]) (hpL ([(0,.live ⟨25,[.int .i64 0,.nil]⟩),(100,.live ⟨25,[.int .i64 0,qdN 408 ws]⟩)]++qdM 408 25 ws)))→
 WL Tryz.prog 22 qhv (ofL [(0,.list (qab ws)),(2,.ref 0 2 0),(3,.ref 100 2 0),(4,.int .i64 n)]) (hpL ([(0,.live ⟨25,[.int .i64 0,.nil]⟩),(100,.live ⟨25,[.int .i64 0,qdN 408 pre]⟩)]++qdM 408 25 pre)) Q:=by
 intro rest
 induction rest with
 | nil=>
  intro pre n he hn hQ
  have hd:decide ((n:Int)<((qab ws).length:Int))=false:=by simp[qah,he,hn]
  simp only[List.append_nil] at he
  subst he
  simp only[List.cons_append,List.nil_append] at hQ ⊢
  have fX:=@hd
  refine qaa qhv.eq_1 ?_
  refine wR0 300 [0,2,3,4,8] fX ?_
  refine wF @hd ?_
  refine wX ?_
  refine wN ?_
  exact hQ _
 | cons k rest ih=>
  intro pre n he hn hQ
  have hlt:(n:Int)<((qab ws).length:Int):=by simp[qah,he];omega
  have hlb:n≤1000000:=by rw[he] at hl;simp at hl;omega
  have hd:decide ((n:Int)<((qab ws).length:Int))=true:=decide_eq_true hlt
  have hg:(qab ws).getD (n:Int).toNat .undef=.int .i64 k:=by rw[qdu ws n (by rw[he];simp;omega),he,←hn];simp[List.getD_eq_getElem?_getD]
  have hw:IntKind.wrap .i64 ((n:Int)+1)=(n:Int)+1:=wrap64 (by omega) (by omega)
  cases pre with
  | nil=>
   simp only[qdN,qdM,List.append_nil]
   have fX:=(cJ4 @hd @hg @hw @qbp)
   refine qaa qhv.eq_1 ?_
   refine W_gc ?_
   refine wR0 300 [0,2,3,4,8] fX ?_
   refine wT fX ?_
   refine wR0 400 [0,2,3,4] fX ?_
   refine wR0 500 [0,2,3,4] fX ?_
   refine wN ?_
   refine qaC [0,100,408] (by simp[inL]) (by simp[inL,T.cl]) (by simp[qam,inL,Slot.cl,T.cl,clL]) ?_
   have:=ih [k] (n+1) (by simpa using he) (by simp at hn;simp;omega) hQ
   simpa [qam,inL,qdN,qdM,qck] using this
  | cons p pre=>
   have hp:pre.length+1≤1000000:=by simp at hn;omega
   simp only[qdN,qdM,List.cons_append,List.nil_append]
   have fX:=(cJ5 @hd @hg @hw @qbp @qdy)
   refine qaa qhv.eq_1 ?_
   refine W_gc ?_
   refine wR0 300 [0,2,3,4,8] fX ?_
   refine wT fX ?_
   refine wR0 400 [0,2,3,4] fX ?_
   refine wR0 500 [0,2,3,4] fX ?_
   refine wN ?_
   refine qaC [0,100,408] (by simp[inL]) (by simp[inL,T.cl]) (by simp[qam,inL,Slot.cl,T.cl,clL,qeS,qao]) ?_
   have:=ih (p::(pre++[k])) (n+1) (by simpa using he) (by simp at hn;simp;omega) hQ
   have hs:qck (p::(pre++[k]))=qck (p::pre)++[.int .i64 k,.nil]:=qeT (p::pre) k
   have hm:(pre.length+1+1)*2=(pre.length+1)*2+2:=(by omega)
   simp only[qdN,qdM,hs,List.length_append,List.length_cons,List.length_nil,Nat.zero_add,hm] at this
   simpa [qam,inL] using this
theorem qtK (ws:List Int)(hl:ws.length≤1000000):TP Tryz.prog 109 [.list (qab ws)] (encV (wordV ws)):=by
 refine qan fn109 (by simp) ?_
 unfold i109
 simp only[argL]
 refine wR0 0 [0,2] cJ0 ?_
 refine wR0 100 [0,2,3] cJ0 ?_
 refine wR0 200 [0,2,3,4] cJ0 ?_
 refine wL ?_
 refine qpr ws hl _ ws [] 0 rfl rfl ?_
 ·intro i
  refine wN ?_
  refine wN ?_
  rcases ws with _ | ⟨w,ws⟩
  ·skip
   refine wN ?_
   simp only[qdN,qdM,List.append_nil]
   refine wR0 600 [2] cJ0 ?_
   refine wP ?_
   first | exact qaS .nil rfl | exact qaS (qeU (w::ws) rfl rfl rfl) rfl
  ·skip
   refine wN ?_
   simp only[qdN,qdM,List.cons_append,List.nil_append]
   refine wR0 600 [2] cJ0 ?_
   refine wP ?_
   first | exact qaS .nil rfl | exact qaS (qeU (w::ws) rfl rfl rfl) rfl
theorem qrN (labels lab:Int)(M:Nat)(hM:M≤1000)(hrec:∀k:Nat,k<M→∀d:Dk,d.ok→∃(t:V) (d':Dk),t.fit∧d'.ok∧TC Tryz.prog 108 [dkR,.int .i64 labels,.int .i64 k] (hpL [(99999,dkB d)]) (encV t) (hpL [(99999,dkB d')])) :
 ∀(n:Nat) (left:Int) (done:List V) (d:Dk),left≤n→left<M → -10≤left→done.length+n≤1000→d.ok→
 ∃(ks:List V) (d':Dk),(∀k∈ks,k.fit)∧(done++ks).length≤1000∧d'.ok∧∀Q:IExit→(Nat→T)→Heap→Prop,
  (∀l:Int,Q (.exit 0) (ofL [(0,dkR),(1,.int .i64 labels),(6,.ref 0 2 0),(7,.ref 104 2 0),(8,.int .i64 l),(22,.bool false)]) (hpL ([(99999,dkB d'),(0,.live ⟨129,[.int .i64 0,.nil]⟩),(104,.live ⟨129,[.int .i64 lab,rowT 507 (done++ks)]⟩)]++rowH 507 129 (done++ks))))→
  WL Tryz.prog 40 qfo (ofL [(0,dkR),(1,.int .i64 labels),(6,.ref 0 2 0),(7,.ref 104 2 0),(8,.int .i64 left)]) (hpL ([(99999,dkB d),(0,.live ⟨129,[.int .i64 0,.nil]⟩),(104,.live ⟨129,[.int .i64 lab,rowT 507 done]⟩)]++rowH 507 129 done)) Q:=by
 intro n
 induction n with
 | zero=>
  intro left done d h1 h2 h3 h4 hd
  refine⟨[],d,(fun y hy=>absurd hy (List.not_mem_nil)),by simpa using h4,hd,fun Q hQ=>?_⟩
  have hb:decide (left > 0)=false:=decide_eq_false (by omega)
  rw[List.append_nil] at hQ
  simp only[List.cons_append,List.nil_append] at hQ ⊢
  have fX:=@hb
  refine qaa qfo.eq_1 ?_
  refine wR0 300 [0,1,6,7,8,22] fX ?_
  refine wF fX ?_
  refine wX ?_
  refine wN ?_
  exact hQ _
 | succ n ih=>
  intro left done d h1 h2 h3 h4 hd
  by_cases hl:left > 0
  ·have hb:decide (left > 0)=true:=decide_eq_true hl
   obtain⟨b,d1,hok1,hone⟩:=one_tc d 3 hd
   rcases b with _ | _
   ·obtain⟨x,d2,hx,hok2,hnx⟩:=qbC d1 left hok1
    have hxl:=hx.2.2 (by omega)
    obtain⟨m,rfl⟩:=Int.eq_ofNat_of_zero_le hx.1
    obtain⟨⟨a,bs⟩,d3,htf,hok3,htr⟩:=hrec (1+m) (by omega) d2 hok2
    obtain⟨ks,d',h5,h6,h7,hW⟩:=ih (left - (1+m)) (done++[.mk a bs]) d3 (by omega) (by omega) (by omega) (by simp;omega) hok3
    refine⟨.mk a bs::ks,d',fun y hy=>?_,by simpa using h6,h7,fun Q hQ=>?_⟩
    ·rcases List.mem_cons.1 hy with rfl | hy
     ·exact htf
     ·exact h5 y hy
    have hw:IntKind.wrap .i64 (1+(m:Int))=((1+m:Nat):Int):=by rw[wrap64 (by omega) (by omega)];omega
    have hw2:IntKind.wrap .i64 (left - ((1+m:Nat):Int))=left - (1+m):=by rw[wrap64 (by omega) (by omega)];omega
    have hQ':=hW Q (by simpa using hQ)
    simp only[encV] at htr
    cases done with
    | nil=>
     simp only[rowT,rowH,List.append_nil]
     have fX:=(cJ4 @hb @hw @hw2 @qbp)
     refine qaa qfo.eq_1 ?_
     refine W_gc ?_
     refine wRn 300 [0,1,6,7,8,22] fX ?_
     refine rU [(99999,dkB d)] [(99999,dkB d1)] fX ?_
     refine⟨_,hone.full1,rE fX ?_⟩
     refine wT @Bool.not_false ?_
     refine wRn 400 [0,1,6,7,8,9] fX ?_
     refine rU [(99999,dkB d1)] [(99999,dkB d2)] fX ?_
     refine⟨_,hnx.full1,rE fX ?_⟩
     refine wRn 500 [0,1,6,7,8,9] fX ?_
     refine rU [(99999,dkB d2)] [(99999,dkB d3)] fX ?_
     refine⟨_,htr.full1,rE fX ?_⟩
     refine wR0 600 [0,1,6,7,8] fX ?_
     refine wN ?_
     refine qaC [99999,0,104,507] (by simp[inL]) (by simp[inL,T.cl]) (by simp[qam,inL,Slot.cl,T.cl,clL,qae,qai]) ?_
     simpa [qam,inL,rowT,rowH,qaq,V.n,V.kids] using hQ'
    | cons z l=>
     have hlb:l.length+1≤1000000:=by simp at h4;omega
     simp only[rowT,rowH,List.cons_append,List.nil_append]
     have fX:=(cJ5 @hb @hw @hw2 @qbp @qaz)
     refine qaa qfo.eq_1 ?_
     refine W_gc ?_
     refine wRn 300 [0,1,6,7,8,22] fX ?_
     refine rU [(99999,dkB d)] [(99999,dkB d1)] fX ?_
     refine⟨_,hone.full1,rE fX ?_⟩
     refine wT @Bool.not_false ?_
     refine wRn 400 [0,1,6,7,8,9] fX ?_
     refine rU [(99999,dkB d1)] [(99999,dkB d2)] fX ?_
     refine⟨_,hnx.full1,rE fX ?_⟩
     refine wRn 500 [0,1,6,7,8,9] fX ?_
     refine rU [(99999,dkB d2)] [(99999,dkB d3)] fX ?_
     refine⟨_,htr.full1,rE fX ?_⟩
     refine wR0 600 [0,1,6,7,8] fX ?_
     refine wN ?_
     refine qaC [99999,0,104,507] (by simp[inL]) (by simp[inL,T.cl]) (by simp[qam,inL,Slot.cl,T.cl,clL,qae,qai,qay,qao]) ?_
     have hs:qaq (z::(l++[V.mk a bs]))=qaq (z::l)++[.int .i64 a,.list (qac bs)]:=qbk (z::l) (.mk a bs)
     have hm2:(l.length+1+1)*2=(l.length+1)*2+2:=(by omega)
     simp only[List.cons_append,List.nil_append,rowT,rowH,hs,List.length_append,List.length_cons,List.length_nil,Nat.zero_add,hm2] at hQ'
     simpa [qam,inL] using hQ'
   ·refine⟨[],d1,(fun y hy=>absurd hy (List.not_mem_nil)),by simp;omega,hok1,fun Q hQ=>?_⟩
    rw[List.append_nil] at hQ
    simp only[List.cons_append,List.nil_append] at hQ ⊢
    have fX:=@hb
    refine qaa qfo.eq_1 ?_
    refine wRn 300 [0,1,6,7,8,22] fX ?_
    refine rU [(99999,dkB d)] [(99999,dkB d1)] fX ?_
    refine⟨_,hone.full1,rE fX ?_⟩
    refine wF @Bool.not_true ?_
    refine wX ?_
    refine wN ?_
    exact hQ _
  ·refine⟨[],d,(fun y hy=>absurd hy (List.not_mem_nil)),by simp;omega,hd,fun Q hQ=>?_⟩
   have hb:decide (left > 0)=false:=decide_eq_false hl
   rw[List.append_nil] at hQ
   simp only[List.cons_append,List.nil_append] at hQ ⊢
   have fX:=@hb
   refine qaa qfo.eq_1 ?_
   refine wR0 300 [0,1,6,7,8,22] fX ?_
   refine wF fX ?_
   refine wX ?_
   refine wN ?_
   exact hQ _
theorem qvn (labels:Int):∀(most:Nat) (d:Dk),most≤1000→d.ok→∃(t:V) (d':Dk),t.fit∧d'.ok∧TC Tryz.prog 108 [dkR,.int .i64 labels,.int .i64 most] (hpL [(99999,dkB d)]) (encV t) (hpL [(99999,dkB d')]):=by
 intro most
 induction most using Nat.strongRecOn with
 | ind most ih=>
  intro d hm hd
  obtain⟨lab,d1,hx,hok,hnx⟩:=qbC d labels hd
  obtain⟨ks,d',h1,h2,h3,hW⟩:=qrN labels lab most hm (fun k hk d hd=>ih k hk d (by omega) hd) most ((most:Int) - 1) [] d1 (by omega) (by omega) (by omega) (by simpa using hm) hok
  refine⟨.mk lab ks,d',?_,h3,?_⟩
  ·simp only[V.fit];exact⟨by simp at h2;omega,qdo h1⟩
  have hw:IntKind.wrap .i64 ((most:Int) - 1)=(most:Int) - 1:=wrap64 (by omega) (by omega)
  have fX:=@hw
  refine qcy fn108 (by simp) ?_
  unfold i108
  simp only[argL,encV]
  refine wR0 0 [0,1,2,6] fX ?_
  refine wRn 100 [0,1,2,6,7] fX ?_
  refine rU [(99999,dkB d)] [(99999,dkB d1)] fX ?_
  refine⟨_,hnx.full1,rE fX ?_⟩
  refine wR0 200 [0,1,6,7,8] fX ?_
  refine wL ?_
  refine hW _ ?_
  ·intro l
   refine wN ?_
   refine wN ?_
   rcases ks with _ | ⟨y,l⟩
   ·skip
    refine wN ?_
    simp only[rowT,rowH,List.append_nil]
    refine wR0 700 [6] fX ?_
    refine wE ?_
    refine wN ?_
    first | exact⟨by simp,_,_,_,rfl,rfl,.aggL (.cons (.same rfl) (.cons .nil .nil)) rfl,.keep rfl (qaT _) (.dead rfl (fun h=>by cases h) (.dead rfl (fun h=>by cases h) .nil)),rfl⟩ | exact⟨by simp,_,_,_,rfl,rfl,.aggL (.cons (.same rfl) (.cons (qiz (y::l) rfl rfl rfl rfl) .nil)) rfl,.keep rfl (qaT _) (.dead rfl (fun h=>by cases h) (.dead rfl (fun h=>by cases h) (.dead rfl (fun h=>by cases h) .nil))),rfl⟩
   ·skip
    refine wN ?_
    simp only[rowT,rowH,List.nil_append,List.cons_append]
    refine wR0 700 [6] fX ?_
    refine wE ?_
    refine wN ?_
    first | exact⟨by simp,_,_,_,rfl,rfl,.aggL (.cons (.same rfl) (.cons .nil .nil)) rfl,.keep rfl (qaT _) (.dead rfl (fun h=>by cases h) (.dead rfl (fun h=>by cases h) .nil)),rfl⟩ | exact⟨by simp,_,_,_,rfl,rfl,.aggL (.cons (.same rfl) (.cons (qiz (y::l) rfl rfl rfl rfl) .nil)) rfl,.keep rfl (qaT _) (.dead rfl (fun h=>by cases h) (.dead rfl (fun h=>by cases h) (.dead rfl (fun h=>by cases h) .nil))),rfl⟩
end
end Go.Proofs.YtpplncjaihgimaaGreat
