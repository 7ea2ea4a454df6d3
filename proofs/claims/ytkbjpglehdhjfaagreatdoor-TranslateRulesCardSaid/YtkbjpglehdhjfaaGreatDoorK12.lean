/- Contracts of functions of the program, for all arguments that they name. -/
import Derived.Test.YtkbjpglehdhjfaaGreatDoorK11
namespace Go.Proofs.YtkbjpglehdhjfaaGreatDoor
set_option linter.unusedVariables false
section
open Go.RowKit
set_option maxHeartbeats 2000000
attribute [local simp] qah qak qax
def qtI (r:Rl)(s:Int)(v:List Int):T:=if qcn r s v=true then (if aftO r v=true then .tup [encV (cfV r.to_ (aftR r v)),.int .i64 0] else .tup [encV (.mk 0 []),.int .i64 1]) else .tup [encV (.mk 0 []),.int .i64 18]
set_option maxHeartbeats 8000000 in
theorem qnC (m:Md)(hm:m.fit)(hk:m.kind=1)(h0:qbm m=0)(q:Nat)(hq:q<m.rules.length)(s:Int)(v:List Int)(hl:v.length≤100000)(hr:RoomR (m.rules.getD q rlQ) v)(hmv:(m.rules.getD q rlQ).move=[])(hfin:∀j,v.getD j 0≤1048576)(hv:qdr m (cfV s v)=true) :
 TP Tryz.prog 60 [qaA m,.int .i64 q,encV (cfV s v)] (qtI (m.rules.getD q rlQ) s v):=by
 have hen:=qlU m hm hk h0 q hq s v hl hr.need hv
 have hg:=qkj m.rules q hq
 have hlt:(q:Int)<((qaR m.rules).length:Int):=by rw[qaS];omega
 have hd1:((0:Int) != 0)=false:=rfl
 rw[qbv] at hen ⊢
 obtain⟨r,hrE⟩:∃r,m.rules.getD q rlQ=r:=⟨_,rfl⟩
 rw[hrE] at hen hg hr hmv ⊢
 have hL0:=fun Q h=>qrq m s v r v.length rfl hl hr hmv hfin Q h v.length 0 (by omega)
 have hL1:=fun Q a b=>qrr m s v r v.length rfl hl hr hfin Q a b v.length 0 [r.to_] (by omega) rfl (fun j hj=>absurd hj (Nat.not_lt_zero _))
 have hdz:=qo0 r v
 have hln:(qad r.need).length=v.length:=by rw[qae];exact hr.need
 have hnl:((v.length:Nat):Int).toNat=v.length:=by simp
 have hel:(qad (difD r v 0)).length=v.length:=by rw[qae,qfC]
 have hrp:repl v.length [T.int .i64 0]=qad (difD r v 0):=hdz.symm
 have hen0:encV (.mk 0 [])=.agg [.int .i64 0,.list []]:=rfl
 have hfr:∀H:Heap,Frz H (.agg [.int .i64 0,.nil]) (.agg [.int .i64 0,.list []]):=fun H=>Frz.aggL (.cons (.same (x:=.int .i64 0) rfl) (.cons .nil .nil)) rfl
 rw[qtI]
 cases hf:qcn r s v with
 | false=>
  rw[hf] at hen
  rw[if_neg (by simp),hen0]
  simp only[qaA,mdC,qbQ,rlC,qa2] at hen hg ⊢
  have fX:=(cJ2 @hg @hd1)
  refine qag fn60 (by simp) ?_
  unfold i60
  simp only[argL]
  refine wR0 0 [1,3,5,6] fX ?_
  refine wRn 100 [1,3,5,6,8,9] fX ?_
  refine rC fX ?_
  refine⟨_,hen,rE fX ?_⟩
  refine wR0 200 [1,3,5,6,8,9,24] fX ?_
  refine wF @hd1 ?_
  refine wR0 400 [1,3,5,6,28] fX ?_
  refine wT fX ?_
  refine wR0 500 [6,7] fX ?_
  refine wP ?_
  exact qaK (hfr _) (.same rfl)
 | true=>
  rw[hf] at hen
  rw[if_pos rfl]
  cases ho:aftO r v with
  | true=>
   have hLT:=fun Q a=>hL1 Q (fun _=>a) (fun h=>by rw[ho] at h;cases h)
   rw[if_pos rfl,qbv]
   have hal:=qeL r v
   have hfz:∀H:Heap,H 1603=.live ⟨35,flatK (r.to_::aftR r v)⟩→Frz H (.agg [.int .i64 0,.sl 1603 ((r.to_::aftR r v).length*2) 2 0 (r.to_::aftR r v).length]) (.agg [.int .i64 0,.list (encV (natV r.to_)::qaj ((aftR r v).map natV))]):=fun H h=>
    Frz.aggL (.cons (.same (x:=.int .i64 0) rfl) (.cons (qmr (r.to_::aftR r v) h rfl rfl) .nil)) rfl
   generalize aftR r v=W at*
   simp only[qaA,apH2,apH,sMg,mdC,qbQ,rlC,qa2,flatK,List.cons_append,List.nil_append,List.length_cons,List.length_nil] at hen hg hL0 hLT hfz ⊢
   have fX:=(cJ7 @hg @hd1 @hln @hnl @hrp @hel @qaF)
   refine qag fn60 (by simp) ?_
   unfold i60
   simp only[argL]
   refine wR0 0 [1,3,5,6] fX ?_
   refine wRn 100 [1,3,5,6,8,9] fX ?_
   refine rC fX ?_
   refine⟨_,hen,rE fX ?_⟩
   refine wR0 200 [1,3,5,6,8,9,24] fX ?_
   refine wF @hd1 ?_
   refine wR0 400 [1,3,5,6,28] fX ?_
   refine wF fX ?_
   refine wR0 600 [5,6,10] fX ?_
   refine wR0 700 [5,6,10,11] fX ?_
   refine wR0 800 [5,6,10,11,12] fX ?_
   refine wL ?_
   refine hL0 _ ?_
   ·intro j
    refine wN ?_
    refine wR0 1600 [6,10,11,14] fX ?_
    refine wR0 1700 [6,10,11,14,15] fX ?_
    refine wL ?_
    refine hLT _ ?_
    ·intro j
     refine wN ?_
     refine wR0 2300 [6,7] fX ?_
     refine wP ?_
     exact qaK (hfz _ rfl) (.same rfl)
  | false=>
   have hLF:=fun Q a=>hL1 Q (fun h=>by rw[ho] at h;cases h) (fun _=>a)
   rw[if_neg (by simp),hen0]
   simp only[qaA,apH2,apH,sMg,mdC,qbQ,rlC,qa2,flatK,List.cons_append,List.nil_append,List.length_cons,List.length_nil] at hen hg hL0 hLF ⊢
   have fX:=(cJ7 @hg @hd1 @hln @hnl @hrp @hel @qaF)
   refine qag fn60 (by simp) ?_
   unfold i60
   simp only[argL]
   refine wR0 0 [1,3,5,6] fX ?_
   refine wRn 100 [1,3,5,6,8,9] fX ?_
   refine rC fX ?_
   refine⟨_,hen,rE fX ?_⟩
   refine wR0 200 [1,3,5,6,8,9,24] fX ?_
   refine wF @hd1 ?_
   refine wR0 400 [1,3,5,6,28] fX ?_
   refine wF fX ?_
   refine wR0 600 [5,6,10] fX ?_
   refine wR0 700 [5,6,10,11] fX ?_
   refine wR0 800 [5,6,10,11,12] fX ?_
   refine wL ?_
   refine hL0 _ ?_
   ·intro j
    refine wN ?_
    refine wR0 1600 [6,10,11,14] fX ?_
    refine wR0 1700 [6,10,11,14,15] fX ?_
    refine wL ?_
    refine hLF _ ?_
    ·intro done
     refine wN ?_
     exact⟨by simp,_,rfl,by exact qaK (hfr _) (.same rfl)⟩
end
section
open Go.RowKit
set_option maxHeartbeats 2000000
attribute [local simp] qah qak qax
theorem qg6 (m:Md)(hm:m.fit)(hk:m.kind=1)(h0:qbm m=0):TP Tryz.prog 56 [qaA m] (.int .i64 0):=by
 have hc:=qeC m hm
 rw[h0] at hc
 have hd1:((0:Int) != 0)=false:=rfl
 have hd2:(m.kind==6)=false:=by rw[hk];rfl
 simp only[qaA,mdC] at hc ⊢
 refine qag fn56 (by simp) ?_
 unfold i56
 simp only[argL]
 refine wR0 0 [1] cJ0 ?_
 refine wRn 100 [1,3] cJ0 ?_
 refine rC cJ0 ?_
 refine⟨_,hc,rE cJ0 ?_⟩
 refine wR0 200 [1,3,7] cJ0 ?_
 refine wF @hd1 ?_
 refine wR0 400 [11] cJ0 ?_
 refine wF @hd2 ?_
 refine wR0 600 [2] cJ0 ?_
 refine wP ?_
 exact .same rfl
def qoB (r:Rl)(s:Int)(v:List Int):T:=if qcn r s v=true then (if aftO r v=true then .tup [.list [encV (cfV r.to_ (aftR r v))],.int .i64 0] else .tup [.list [],.int .i64 1]) else .tup [.list [],.int .i64 0]
set_option maxHeartbeats 8000000 in
theorem qnD (m:Md)(hm:m.fit)(hk:m.kind=1)(h0:qbm m=0)(q:Nat)(hq:q<m.rules.length)(s:Int)(v:List Int)(hl:v.length≤100000)(hr:RoomR (m.rules.getD q rlQ) v)(hmv:(m.rules.getD q rlQ).move=[])(hfin:∀j,v.getD j 0≤1048576)(hv:qdr m (cfV s v)=true) :
 TP Tryz.prog 22 [qaA m,.int .i64 q,encV (cfV s v)] (qoB (m.rules.getD q rlQ) s v):=by
 have hap:=qnC m hm hk h0 q hq s v hl hr hmv hfin hv
 have hkd:=qg6 m hm hk h0
 have hvl:=qc1 m (cfV s v) hm (qct s v hl)
 rw[hv] at hvl
 rw[qbv] at hvl hap ⊢
 have hd1:((0:Int) != 0)=false:=rfl
 have hd4:decide ((q:Int) < -1)=false:=decide_eq_false (by omega)
 have hd5:decide ((q:Int)≥((qaR m.rules).length:Int))=false:=decide_eq_false (by rw[qaS];omega)
 have hd6:((q:Int) == -1)=false:=by rw[beq_eq_false_iff_ne];omega
 have hd7:(1:Int) != 0:=rfl
 have hk4:(m.kind==4)=false:=by rw[hk];rfl
 have hk5:(m.kind==5)=false:=by rw[hk];rfl
 have hk1:(m.kind != 1)=false:=by rw[hk];rfl
 rw[qtI] at hap
 rw[qoB]
 generalize m.rules.getD q rlQ=r at*
 have hen0:encV (.mk 0 [])=.agg [.int .i64 0,.list []]:=rfl
 cases hf:qcn r s v with
 | false=>
  rw[hf,if_neg (by simp),hen0] at hap
  rw[if_neg (by simp)]
  simp only[qaA,mdC,qa2] at hkd hvl hap ⊢
  have fX:=(cJ5 @hd4 @hd5 @hd6 @hd7 @qaF)
  refine qag fn22 (by simp) ?_
  unfold i22
  simp only[argL]
  refine wR0 0 [1,3,5] fX ?_
  refine wRn 100 [1,3,5,8] fX ?_
  refine rC fX ?_
  refine⟨_,hkd,rE fX ?_⟩
  refine wR0 200 [1,3,5,8,14] fX ?_
  refine wF @hd1 ?_
  refine wR0 400 [1,3,5,24] fX ?_
  refine wF fX ?_
  refine wRn 600 [1,3,5,28] fX ?_
  refine rC fX ?_
  refine⟨_,hvl,rE fX ?_⟩
  refine wF fX ?_
  refine wR0 800 [1,3,5,30] fX ?_
  refine wF @hd6 ?_
  refine wR0 1000 [1,3,5,37] fX ?_
  refine wR0 1100 [1,3,5,37,38] fX ?_
  refine wF @hk4 ?_
  refine wR0 1300 [1,3,5,46] fX ?_
  refine wF @hk5 ?_
  refine wRn 1500 [1,3,5,9,10] fX ?_
  refine rC fX ?_
  refine⟨_,hap,rE fX ?_⟩
  refine wR0 1600 [1,3,5,9,10,63] fX ?_
  refine wF @hk1 ?_
  refine wR0 1800 [9,10,72] fX ?_
  refine wT fX ?_
  refine wR0 1900 [6,7] fX ?_
  refine wP ?_
  exact qaK .nil (.same rfl)
 | true=>
  rw[hf,if_pos rfl] at hap
  rw[if_pos rfl]
  cases ho:aftO r v with
  | false=>
   rw[ho,if_neg (by simp),hen0] at hap
   rw[if_neg (by simp)]
   simp only[qaA,mdC,qa2] at hkd hvl hap ⊢
   have fX:=(cJ5 @hd4 @hd5 @hd6 @hd7 @qaF)
   refine qag fn22 (by simp) ?_
   unfold i22
   simp only[argL]
   refine wR0 0 [1,3,5] fX ?_
   refine wRn 100 [1,3,5,8] fX ?_
   refine rC fX ?_
   refine⟨_,hkd,rE fX ?_⟩
   refine wR0 200 [1,3,5,8,14] fX ?_
   refine wF @hd1 ?_
   refine wR0 400 [1,3,5,24] fX ?_
   refine wF fX ?_
   refine wRn 600 [1,3,5,28] fX ?_
   refine rC fX ?_
   refine⟨_,hvl,rE fX ?_⟩
   refine wF fX ?_
   refine wR0 800 [1,3,5,30] fX ?_
   refine wF @hd6 ?_
   refine wR0 1000 [1,3,5,37] fX ?_
   refine wR0 1100 [1,3,5,37,38] fX ?_
   refine wF @hk4 ?_
   refine wR0 1300 [1,3,5,46] fX ?_
   refine wF @hk5 ?_
   refine wRn 1500 [1,3,5,9,10] fX ?_
   refine rC fX ?_
   refine⟨_,hap,rE fX ?_⟩
   refine wR0 1600 [1,3,5,9,10,63] fX ?_
   refine wF @hk1 ?_
   refine wR0 1800 [9,10,72] fX ?_
   refine wF fX ?_
   refine wR0 2000 [9,10,74] fX ?_
   refine wT fX ?_
   refine wR0 2100 [6,7] fX ?_
   refine wP ?_
   exact qaK .nil (.same rfl)
  | true=>
   rw[ho,if_pos rfl,qbv] at hap
   rw[if_pos rfl,qbv]
   have hfz:∀(H:Heap) (x:T),H 2201=.live ⟨35,[.int .i64 0,x]⟩→x.fro=true→x.one=true→Frz H (.sl 2201 2 2 0 1) (.list [.agg [.int .i64 0,x]]):=fun H x h h1 h2=>
    Frz.slL h rfl rfl rfl rfl (by simp[flat,T.cells,h2];rfl) (.cons (.same rfl) (.cons (.same h1) .nil))
   simp only[qaA,mdC,qa2] at hkd hvl hap ⊢
   have fX:=(cJ5 @hd4 @hd5 @hd6 @hd7 @qaF)
   refine qag fn22 (by simp) ?_
   unfold i22
   simp only[argL]
   refine wR0 0 [1,3,5] fX ?_
   refine wRn 100 [1,3,5,8] fX ?_
   refine rC fX ?_
   refine⟨_,hkd,rE fX ?_⟩
   refine wR0 200 [1,3,5,8,14] fX ?_
   refine wF @hd1 ?_
   refine wR0 400 [1,3,5,24] fX ?_
   refine wF fX ?_
   refine wRn 600 [1,3,5,28] fX ?_
   refine rC fX ?_
   refine⟨_,hvl,rE fX ?_⟩
   refine wF fX ?_
   refine wR0 800 [1,3,5,30] fX ?_
   refine wF @hd6 ?_
   refine wR0 1000 [1,3,5,37] fX ?_
   refine wR0 1100 [1,3,5,37,38] fX ?_
   refine wF @hk4 ?_
   refine wR0 1300 [1,3,5,46] fX ?_
   refine wF @hk5 ?_
   refine wRn 1500 [1,3,5,9,10] fX ?_
   refine rC fX ?_
   refine⟨_,hap,rE fX ?_⟩
   refine wR0 1600 [1,3,5,9,10,63] fX ?_
   refine wF @hk1 ?_
   refine wR0 1800 [9,10,72] fX ?_
   refine wF fX ?_
   refine wR0 2000 [9,10,74] fX ?_
   refine wF fX ?_
   refine wR0 2200 [6,7] fX ?_
   refine wP ?_
   exact qaK (hfz _ _ rfl (by simp[T.fro,T.cl,clL,qak]) rfl) (.same rfl)
end
section
open Go.RowKit
def FinV (v:List Int):Prop:=∀j,v.getD j 0≤1048576
end
section
open Go.RowKit
attribute [local simp] qah qak qax qgU qaT
structure PlainM (m:Md) (N:Nat):Prop where
 fit:m.fit
 kind:m.kind=1
 check:qbm m=0
 rules:qi1 N m.rules
 move:∀r∈m.rules,r.move=[]
 to_:∀r∈m.rules,0≤r.to_∧r.to_<m.states.length
 places:m.places.length=N
 small:N≤6
theorem PlainM.valid {m:Md}{N:Nat}(h:PlainM m N){s:Int}{v:List Int}(hs:0≤s∧s<m.states.length)(hv:VecOk N v)(hf:FinV v):qdr m (cfV s v)=true:=by
 rw[qtc h.kind h.check s v (by rw[hv.len,h.places]),decide_eq_true hs.1,decide_eq_true hs.2,Bool.true_and,Bool.true_and,List.all_eq_true]
 intro x hx
 obtain⟨j,hj,rfl⟩:=List.getElem_of_mem hx
 have h1:=hv.ent j
 have h2:=hf j
 simp only[List.getD_eq_getElem?_getD,List.getElem?_eq_getElem hj,Option.getD_some] at h1 h2
 simp only[fin1,Bool.and_eq_true,decide_eq_true_eq]
 omega
theorem PlainM.apply {m:Md}{N:Nat}(h:PlainM m N){q:Nat}(hq:q<m.rules.length){s:Int}{v:List Int}(hs:0≤s∧s<m.states.length)(hv:VecOk N v)(hf:FinV v):TP Tryz.prog 22 [qaA m,.int .i64 q,encV (cfV s v)] (qoB (m.rules.getD q rlZ) s v):=by
 have hmem:m.rules.getD q rlZ∈m.rules:=by simp[List.getD_eq_getElem?_getD,hq]
 have:=h.small
 exact qnD m h.fit h.kind h.check q hq s v (by have:=hv.len;omega) (h.rules.room hv hmem) (h.move _ hmem) hf (h.valid hs hv hf)
end
section
open Go.RowKit
structure Lne where
 k:Int
 a:Int
 num:Int
instance:Inhabited Lne:=⟨⟨0,0,0⟩⟩
structure Th where
 name:ByteArray
 lines:List Lne
instance:Inhabited Th:=⟨⟨⟨#[]⟩,[]⟩⟩
structure Pg where
 vals:Int
 ths:List Th
structure Ev where
 th:Int
 ln:Int
 num:Int
 val:Int
 nxt:Int
instance:Inhabited Ev:=⟨⟨0,0,0,0,0⟩⟩
def lnC (l:Lne):List T:=[.int .i64 l.k,.int .i64 l.a,.int .i64 l.num]
def qa7 (l:List Lne):List T:=l.map fun x=>.agg (lnC x)
def thC (t:Th):List T:=[.str t.name,.list (qa7 t.lines)]
def qa4 (l:List Th):List T:=l.map fun x=>.agg (thC x)
def pgC (p:Pg):List T:=[.int .i64 p.vals,.list (qa4 p.ths)]
def qar (p:Pg):T:=.agg (pgC p)
def evC (e:Ev):List T:=[.int .i64 e.th,.int .i64 e.ln,.int .i64 e.num,.int .i64 e.val,.int .i64 e.nxt]
def qaG (l:List Ev):List T:=l.map fun x=>.agg (evC x)
theorem qa1 (D:Nat→Bool)(l:Lne):clL D (lnC l)=true:=rfl
theorem qbo (D:Nat→Bool)(e:Ev):clL D (evC e)=true:=rfl
theorem qa8 (l:List Lne):(qa7 l).length=l.length:=by simp[qa7]
theorem qbd (l:List Th):(qa4 l).length=l.length:=by simp[qa4]
theorem qbA (l:List Ev):(qaG l).length=l.length:=by simp[qaG]
theorem qau (D:Nat→Bool):∀l,clL D (qa7 l)=true
 | []=>rfl
 | x::l=>by have:=qau D l;simp only[qa7] at this;simp only[qa7,List.map_cons,clL,T.cl,qa1,Bool.true_and];exact this
theorem qaJ (D:Nat→Bool)(t:Th):clL D (thC t)=true:=by simp[thC,clL,T.cl,qau]
theorem qav (D:Nat→Bool):∀l,clL D (qa4 l)=true
 | []=>rfl
 | x::l=>by have:=qav D l;simp only[qa4] at this;simp only[qa4,List.map_cons,clL,T.cl,qaJ,Bool.true_and];exact this
theorem qaD (D:Nat→Bool)(p:Pg):clL D (pgC p)=true:=by simp[pgC,clL,T.cl,qav]
theorem qaB (D:Nat→Bool):∀l,clL D (qaG l)=true
 | []=>rfl
 | x::l=>by have:=qaB D l;simp only[qaG] at this;simp only[qaG,List.map_cons,clL,T.cl,qbo,Bool.true_and];exact this
theorem qgc (l:List Lne)(i:Nat)(h:i<l.length):(qa7 l).getD (i:Int).toNat .undef=.agg (lnC (l.getD i default)):=by
 simp[qa7,List.getD_eq_getElem?_getD,h]
theorem qeQ (l:List Th)(i:Nat)(h:i<l.length):(qa4 l).getD (i:Int).toNat .undef=.agg (thC (l.getD i default)):=by
 simp[qa4,List.getD_eq_getElem?_getD,h]
theorem qb4 (l:List Ev)(i:Nat)(h:i<l.length):(qaG l).getD (i:Int).toNat .undef=.agg (evC (l.getD i default)):=by
 simp[qaG,List.getD_eq_getElem?_getD,h]
def rsvS:List ByteArray:=[⟨#[118,97,108,117,101,115]⟩,⟨#[116,104,114,101,97,100]⟩,⟨#[101,110,100]⟩]
def qcr (s:ByteArray):Bool:=qdQ s&&!inS s rsvS
def qcV (p:Pg)(n:Nat)(k:Int):Int:=
 if k=1∨k=2 then p.vals else if k=3∨k=4 then n else if k=5 then p.ths.length else if k=6∨k=7 then 1 else -1
def qfL (p:Pg)(n:Nat)(l:Lne)(num:Int):Bool:=decide (0≤l.a)&&decide (l.a<qcV p n l.k)&&(l.num==num)
def qc8 (p:Pg)(n:Nat):List Lne→Int→Bool
 | [],_=>true
 | l::ls,num=>qfL p n l (num+1)&&qc8 p n ls (num+1)
def thsB (p:Pg):List Th→List ByteArray→Nat→Int→Bool
 | [],_,_,_=>true
 | t::ts,seen,c,num=>(!t.lines.isEmpty&&decide (c+t.lines.length≤6)&&qcr t.name&&!inS t.name seen)&&qc8 p t.lines.length t.lines (num+1)&&thsB p ts (seen++[t.name]) (c+t.lines.length) (num+1+t.lines.length+1)
def okP (p:Pg):Bool:=decide (1≤p.vals)&&decide (p.vals≤8)&&!p.ths.isEmpty&&thsB p p.ths [] 0 1
def plsT:Nat→List Th→List (Nat×Nat)
 | _,[]=>[]
 | i,t::ts=>(List.range t.lines.length).map (fun k=>(i,k))++plsT (i+1) ts
def plcs (p:Pg):List (Nat×Nat):=plsT 0 p.ths
def intP (x:Nat×Nat):Int×Int:=((x.1:Int),(x.2:Int))
def qcs (a b:Int):List Int:=if a=b then [a] else if 0≤b∧b<a then [b,a] else [a,b]
def behL (n k:Nat):Int:=if k+1=n then -1 else ((k+1:Nat):Int)
def evL (p:Pg)(v:Int)(i k:Nat):List Ev:=
 let t:=p.ths.getD i default
 let l:=t.lines.getD k default
 let b:=behL t.lines.length k
 if l.k=1 then [⟨i,k,l.num,l.a,b⟩]
 else if l.k=2 then (if v=l.a then [⟨i,k,l.num,v,b⟩] else [])
 else if l.k=3 then [⟨i,k,l.num,v,l.a⟩]
 else if l.k=4 then (qcs l.a b).map fun n=>⟨i,k,l.num,v,n⟩
 else if l.k=5 then [⟨i,k,l.num,v,b⟩]
 else if l.k=6 then [⟨i,k,l.num,v,-1⟩]
 else []
def stE (p:Pg)(v:Int)(c:List Int)(i:Nat):List Ev:=if c.getD i 0 > 0 then evL p v ((plcs p).getD i (0,0)).1 ((plcs p).getD i (0,0)).2 else []
def qaY (p:Pg)(v:Int)(c:List Int):List Ev:=(List.range' 0 (plcs p).length).flatMap (stE p v c)
def finN (x:Int):Bool:=decide (x≥0)&&decide (x≤1048576)
def rgtP (p:Pg)(v:Int)(c:List Int):Int:=
 if okP p=false then 47 else if v<0∨p.vals≤v then 2 else if c.all finN=false then 2 else if c.length≠(plcs p).length then 3 else 0
def qeb (p:Pg)(v:Int)(c:List Int):List Ev×Int:=if rgtP p v c=0 then (qaY p v c,0) else ([],rgtP p v c)
def plNo (p:Pg)(i k:Nat):Nat:=((p.ths.take i).map fun t=>t.lines.length).sum+k
def bump (c:List Int)(j:Nat)(by_:Int):List Int:=c.set j (c.getD j 0+by_)
def doC (p:Pg)(c:List Int)(e:Ev):List Int:=
 let l:=(p.ths.getD e.th.toNat default).lines.getD e.ln.toNat default
 let c1:=bump c (plNo p e.th.toNat e.ln.toNat) (-1)
 let c2:=if e.nxt≥0 then bump c1 (plNo p e.th.toNat e.nxt.toNat) 1 else c1
 if l.k=5 then bump c2 (plNo p l.a.toNat 0) 1 else c2
def evB (a b:Ev):Bool:=a.th==b.th&&(a.ln==b.ln&&(a.num==b.num&&(a.val==b.val&&a.nxt==b.nxt)))
theorem qfh (a b:Ev):evB a b=true↔a=b:=by
 obtain⟨a1,a2,a3,a4,a5⟩:=a
 obtain⟨b1,b2,b3,b4,b5⟩:=b
 simp[evB]
def doP (p:Pg)(v:Int)(c:List Int)(e:Ev):Int×List Int×Int:=
 if rgtP p v c≠0 then (0,[],rgtP p v c) else if (qaY p v c).any (fun x=>evB x e)=false then (0,[],18)
 else if (doC p c e).all (fun x=>decide (x≤1048576))=false then (0,[],1) else (e.val,doC p c e,0)
theorem qml {A:Type}{l r:List A}{k:Nat}{x:A}(hk:k<l.length)(h:l.drop k=x::r):l[k]=x:=by
 rw[List.drop_eq_getElem_cons hk] at h
 exact (List.cons.inj h).1
theorem drop_at {A:Type}{l r:List A}{k:Nat}{x d:A}(hk:k<l.length)(h:l.drop k=x::r):l.getD k d=x:=by
 rw[List.getD_eq_getElem?_getD,List.getElem?_eq_getElem hk,Option.getD_some]
 exact qml hk h
structure LnOk (p:Pg) (n:Nat) (l:Lne):Prop where
 k:1≤l.k∧l.k≤7
 a0:0≤l.a
 a12:l.k=1∨l.k=2→l.a<p.vals
 a34:l.k=3∨l.k=4→l.a<n
 a5:l.k=5→l.a<p.ths.length
theorem qjL {p:Pg}{n:Nat}{l:Lne}{num:Int}(h:qfL p n l num=true):LnOk p n l:=by
 simp only[qfL,Bool.and_eq_true,decide_eq_true_eq] at h
 obtain⟨⟨h1,h2⟩,_⟩:=h
 unfold qcV at h2
 by_cases e1:l.k=1∨l.k=2
 ·rw[if_pos e1] at h2
  exact⟨by omega,h1,fun _=>h2,fun _=>by omega,fun _=>by omega⟩
 ·rw[if_neg e1] at h2
  by_cases e2:l.k=3∨l.k=4
  ·rw[if_pos e2] at h2
   exact⟨by omega,h1,fun _=>by omega,fun _=>h2,fun _=>by omega⟩
  ·rw[if_neg e2] at h2
   by_cases e3:l.k=5
   ·rw[if_pos e3] at h2
    exact⟨by omega,h1,fun _=>by omega,fun _=>by omega,fun _=>h2⟩
   ·rw[if_neg e3] at h2
    by_cases e4:l.k=6∨l.k=7
    ·exact⟨by omega,h1,fun _=>by omega,fun _=>by omega,fun _=>by omega⟩
    ·rw[if_neg e4] at h2;omega
theorem qkM {p:Pg}{n:Nat}:∀ {ls:List Lne} {num:Int},qc8 p n ls num=true→∀l∈ls,LnOk p n l
 | [],_,_,l,hl=>by cases hl
 | x::ls,num,h,l,hl=>by
  rw[qc8,Bool.and_eq_true] at h
  rcases List.mem_cons.1 hl with rfl | hl
  ·exact qjL h.1
  ·exact qkM h.2 l hl
structure ThOk (p:Pg) (t:Th):Prop where
 pos:0<t.lines.length
 six:t.lines.length≤6
 name:qcr t.name=true
 line:∀l∈t.lines,LnOk p t.lines.length l
def qcd (ts:List Th):Nat:=(ts.map fun t=>t.lines.length).sum
theorem qrd {p:Pg}:∀ {ts:List Th} {seen:List ByteArray} {c:Nat} {num:Int},c≤6→thsB p ts seen c num=true→(∀t∈ts,ThOk p t)∧c+qcd ts≤6
 | [],_,c,_,hc,_=>⟨fun t ht=>(by cases ht),by simpa [qcd] using hc⟩
 | t::ts,seen,c,num,hc,h=>by
  simp only[thsB,Bool.and_eq_true,Bool.not_eq_true',decide_eq_true_eq] at h
  obtain⟨⟨⟨⟨⟨h1,h2⟩,h3⟩,h4⟩,h5⟩,h6⟩:=h
  have hp:0<t.lines.length:=by cases hl:t.lines with
   | nil=>rw[hl] at h1;simp at h1
   | cons x l=>simp
  have ih:=qrd (by omega) h6
  refine⟨fun x hx=>?_,?_⟩
  ·rcases List.mem_cons.1 hx with rfl | hx
   ·exact⟨hp,by omega,h3,qkM h5⟩
   ·exact ih.1 x hx
  ·have:=ih.2;simp only[qcd,List.map_cons,List.sum_cons] at this ⊢;omega
theorem qhO:∀ts:List Th,(∀t∈ts,0<t.lines.length)→ts.length≤qcd ts
 | [],_=>Nat.le_refl _
 | t::ts,h=>by
  have:=qhO ts fun x hx=>h x (List.mem_cons_of_mem _ hx)
  have:=h t (List.mem_cons_self ..)
  simp only[qcd,List.map_cons,List.sum_cons,List.length_cons] at *;omega
structure PgOk (p:Pg):Prop where
 vals:1≤p.vals∧p.vals≤8
 pos:0<p.ths.length
 th:∀t∈p.ths,ThOk p t
 six:qcd p.ths≤6
theorem qbq {p:Pg}(h:okP p=true):PgOk p:=by
 simp only[okP,Bool.and_eq_true,Bool.not_eq_true',decide_eq_true_eq] at h
 obtain⟨⟨⟨h1,h2⟩,h3⟩,h4⟩:=h
 have:=qrd (by omega) h4
 refine⟨⟨h1,h2⟩,?_,this.1,by omega⟩
 cases hp:p.ths with
 | nil=>rw[hp] at h3;simp at h3
 | cons x l=>simp
theorem PgOk.len {p:Pg}(h:PgOk p):p.ths.length≤6:=Nat.le_trans (qhO _ fun t ht=>(h.th t ht).pos) h.six
theorem PgOk.thGet {p:Pg}(h:PgOk p){i:Nat}(hi:i<p.ths.length):ThOk p (p.ths.getD i default):=by
 have e:p.ths.getD i default=p.ths[i]:=by simp[List.getD_eq_getElem?_getD,hi]
 rw[e];exact h.th _ (List.getElem_mem hi)
theorem ThOk.lnGet {p:Pg}{t:Th}(h:ThOk p t){k:Nat}(hk:k<t.lines.length):LnOk p t.lines.length (t.lines.getD k default):=by
 have e:t.lines.getD k default=t.lines[k]:=by simp[List.getD_eq_getElem?_getD,hk]
 rw[e];exact h.line _ (List.getElem_mem hk)
def IsPl (p:Pg)(i k:Nat):Prop:=i<p.ths.length∧k<(p.ths.getD i default).lines.length
theorem qm7:∀(i:Nat) (ts:List Th),(plsT i ts).length=qcd ts
 | _,[]=>rfl
 | i,t::ts=>by
  have:=qm7 (i+1) ts
  simp only[plsT,List.length_append,List.length_map,List.length_range,this,qcd,List.map_cons,List.sum_cons]
theorem qj0:∀(i:Nat) (ts:List Th) (x:Nat×Nat),x∈plsT i ts→i≤x.1∧x.1 - i<ts.length∧x.2<(ts.getD (x.1 - i) default).lines.length
 | _,[],x,h=>by cases h
 | i,t::ts,x,h=>by
  rw[plsT,List.mem_append] at h
  rcases h with h | h
  ·obtain⟨k,hk,rfl⟩:=List.mem_map.1 h
   simp only[Nat.sub_self,List.length_cons]
   exact⟨Nat.le_refl _,by omega,by simpa using hk⟩
  ·have:=qj0 (i+1) ts x h
   obtain⟨h1,h2,h3⟩:=this
   have e:x.1 - i=(x.1 - (i+1))+1:=by omega
   refine⟨by omega,by rw[e];simpa using h2,?_⟩
   rw[e];simpa using h3
theorem qbh (p:Pg):(plcs p).length=qcd p.ths:=qm7 0 p.ths
theorem qcJ {p:Pg}{j:Nat}(hj:j<(plcs p).length):IsPl p ((plcs p).getD j (0,0)).1 ((plcs p).getD j (0,0)).2:=by
 have e:(plcs p).getD j (0,0)=(plcs p)[j]:=by simp[List.getD_eq_getElem?_getD,hj]
 have:=qj0 0 p.ths ((plcs p)[j]) (List.getElem_mem hj)
 rw[e];simpa [IsPl] using this.2
theorem qqd:∀(ts:List Th) (s i k:Nat),i<ts.length→k<(ts.getD i default).lines.length→(plsT s ts)[((ts.take i).map fun t=>t.lines.length).sum+k]? = some (s+i,k)
 | [],_,i,_,h,_=>by simp at h
 | t::ts,s,0,k,_,hk=>by
  have hk':k<t.lines.length:=by simpa using hk
  simp only[plsT,List.take_zero,List.map_nil,List.sum_nil,Nat.zero_add,Nat.add_zero]
  rw[List.getElem?_append_left (by simpa using hk')]
  simp[hk']
 | t::ts,s,i+1,k,h,hk=>by
  have ih:=qqd ts (s+1) i k (by simpa using h) (by simpa using hk)
  simp only[plsT,List.take_succ_cons,List.map_cons,List.sum_cons]
  rw[List.getElem?_append_right (by simp;omega)]
  simp only[List.length_map,List.length_range]
  rw[show t.lines.length+((ts.take i).map fun t=>t.lines.length).sum+k - t.lines.length=((ts.take i).map fun t=>t.lines.length).sum+k from by omega,ih]
  congr 2;omega
theorem qjY {p:Pg}{i k:Nat}(h:IsPl p i k):(plcs p)[plNo p i k]? = some (i,k):=by
 have:=qqd p.ths 0 i k h.1 h.2
 simpa [plcs,plNo] using this
theorem qcS {p:Pg}{i k:Nat}(h:IsPl p i k):plNo p i k<(plcs p).length:=by
 have:=qjY h
 exact (List.getElem?_eq_some_iff.1 this).1
theorem qkR {p:Pg}{i k:Nat}(h:IsPl p i k):(plcs p).getD (plNo p i k) (0,0)=(i,k):=by
 rw[List.getD_eq_getElem?_getD,qjY h];rfl
theorem qiR:∀(ts:List Th) (s:Nat),(plsT s ts).Nodup
 | [],_=>List.nodup_nil
 | t::ts,s=>by
  rw[plsT,List.nodup_append]
  refine⟨?_,qiR ts (s+1),?_⟩
  ·rw[List.Nodup,List.pairwise_map]
   exact (List.nodup_range (n:=t.lines.length)).imp fun h e=>h (by simpa using e)
  ·intro a ha b hb e
   subst e
   obtain⟨k,_,rfl⟩:=List.mem_map.1 ha
   have:=(qj0 (s+1) ts _ hb).1
   simp at this;omega
theorem qm6 {p:Pg}{i j:Nat}(hi:i<(plcs p).length)(hj:j<(plcs p).length)(h:(plcs p).getD i (0,0)=(plcs p).getD j (0,0)):i=j:=by
 have e1:(plcs p).getD i (0,0)=(plcs p)[i]:=by simp[List.getD_eq_getElem?_getD,hi]
 have e2:(plcs p).getD j (0,0)=(plcs p)[j]:=by simp[List.getD_eq_getElem?_getD,hj]
 rw[e1,e2] at h
 exact (List.getElem_inj (qiR p.ths 0)).1 h
theorem quq {p:Pg}{j:Nat}(hj:j<(plcs p).length):plNo p ((plcs p).getD j (0,0)).1 ((plcs p).getD j (0,0)).2=j:=by
 have h:=qcJ hj
 exact qm6 (qcS h) hj (by rw[qkR h])
theorem qhb (a b:Int):(qcs a b).length≤2:=by unfold qcs;split<;>(try split)<;>simp
theorem qji (p:Pg)(v:Int)(i k:Nat):(evL p v i k).length≤2:=by
 unfold evL
 simp only
 (repeat' split)<;>simp[qhb]
structure EvOk (p:Pg) (v:Int) (i k:Nat) (e:Ev):Prop where
 th:e.th=i
 ln:e.ln=k
 num:e.num=((p.ths.getD i default).lines.getD k default).num
 val:e.val=v∨(0≤e.val∧e.val<p.vals)
 nxt:e.nxt = -1∨(0≤e.nxt∧e.nxt<(p.ths.getD i default).lines.length)
theorem qtM {n k:Nat}(hk:k<n):behL n k = -1∨(0≤behL n k∧behL n k<n):=by
 unfold behL;split<;>omega
theorem qrw {a b:Int}{n:Nat}(ha:0≤a∧a<n)(hb:b = -1∨(0≤b∧b<n)):∀x∈qcs a b,x = -1∨(0≤x∧x<n):=by
 intro x hx
 unfold qcs at hx
 split at hx
 ·simp at hx;omega
 ·split at hx<;>(simp at hx;omega)
theorem qo9 {p:Pg}(hp:PgOk p){v:Int}{i k:Nat}(h:IsPl p i k):∀e∈evL p v i k,EvOk p v i k e:=by
 have ht:=hp.thGet h.1
 have hl:=ht.lnGet h.2
 have hb:=qtM h.2
 intro e he
 unfold evL at he
 simp only at he
 generalize hl0:(p.ths.getD i default).lines.getD k default=l at*
 split at he
 ·rename_i e1
  rw[List.mem_singleton] at he;subst he
  exact⟨rfl,rfl,(by rw[hl0]),.inr ⟨hl.a0,hl.a12 (.inl e1)⟩,hb⟩
 ·split at he
  ·split at he
   ·rw[List.mem_singleton] at he;subst he
    exact⟨rfl,rfl,(by rw[hl0]),.inl rfl,hb⟩
   ·cases he
  ·split at he
   ·rename_i e3
    rw[List.mem_singleton] at he;subst he
    exact⟨rfl,rfl,(by rw[hl0]),.inl rfl,.inr ⟨hl.a0,hl.a34 (.inl e3)⟩⟩
   ·split at he
    ·rename_i e4
     obtain⟨x,hx,rfl⟩:=List.mem_map.1 he
     exact⟨rfl,rfl,(by rw[hl0]),.inl rfl,qrw ⟨hl.a0,hl.a34 (.inr e4)⟩ hb x hx⟩
    ·split at he
     ·rw[List.mem_singleton] at he;subst he
      exact⟨rfl,rfl,(by rw[hl0]),.inl rfl,hb⟩
     ·split at he
      ·rw[List.mem_singleton] at he;subst he
       exact⟨rfl,rfl,(by rw[hl0]),.inl rfl,.inl rfl⟩
      ·cases he
end
end Go.Proofs.YtkbjpglehdhjfaaGreatDoor
