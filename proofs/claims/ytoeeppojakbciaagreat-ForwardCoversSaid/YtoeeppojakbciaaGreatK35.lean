/- Contracts of functions of the program, for all arguments that they name. -/
import Derived.Test.YtoeeppojakbciaaGreatK28
import Derived.Test.YtoeeppojakbciaaGreatK32
import Derived.Test.YtoeeppojakbciaaGreatK33
import Derived.Test.YtoeeppojakbciaaGreatK34
namespace Go.Proofs.YtoeeppojakbciaaGreat
set_option linter.unusedVariables false
section
open Go.RowKit
set_option maxHeartbeats 2000000
attribute [local simp] qae qak qal
theorem qf7 (m:Md)(hm:m.fit)(hk:m.kind=1)(h0:qaV m=0):TP Tryz.prog 43 [qas m] (.int .i64 0):=by
 have hc:=qhc m hm
 rw[h0] at hc
 have hd1:((0:Int) != 0)=false:=rfl
 have hd2:(m.kind==6)=false:=by rw[hk];rfl
 simp only[qas,mdC] at hc ⊢
 refine qah fn43 (by simp) ?_
 unfold i43
 simp only[argL]
 refine wR0 0 [1] cJ0 ?_
 refine wRn 100 [1,3] cJ0 ?_
 refine rC cJ0 ?_
 refine⟨_,hc,rE cJ0 ?_⟩
 refine wR0 200 [1,3,7] cJ0 ?_
 refine wF @hd1 ?_
 refine wR0 400 [11] cJ0 ?_
 refine wF @hd2 ?_
 refine wR0 600 [2] cJ0 ?_
 refine wP ?_
 exact .same rfl
theorem qpz (m:Md)(hm:m.fit)(hk:m.kind=1)(h0:qaV m=0)(s:Int)(v:List Int)(hl:v.length≤100000)(hv:qfc m (cfV s v)=true):TP Tryz.prog 45 [qas m,encV (cfV s v)] (.tup [.list [],.int .i64 0]):=by
 have hkd:=qf7 m hm hk h0
 have hvl:=qdd m (cfV s v) hm (qgq s v hl)
 rw[hv] at hvl
 rw[qa3] at hvl ⊢
 have hd1:((0:Int) != 0)=false:=rfl
 have hd2:(m.kind==2)=false:=by rw[hk];rfl
 have hd3:(m.kind==3)=false:=by rw[hk];rfl
 have hd5:(m.kind==5)=false:=by rw[hk];rfl
 simp only[qas,mdC,qaI] at hkd hvl ⊢
 refine qah fn45 (by simp) ?_
 unfold i45
 simp only[argL]
 refine wR0 0 [2,3] cJ0 ?_
 refine wRn 100 [2,3,6] cJ0 ?_
 refine rC cJ0 ?_
 refine⟨_,hkd,rE cJ0 ?_⟩
 refine wR0 200 [2,3,6,12] cJ0 ?_
 refine wF @hd1 ?_
 refine wRn 400 [2,3,17] cJ0 ?_
 refine rC cJ0 ?_
 refine⟨_,hvl,rE cJ0 ?_⟩
 refine wF cJ0 ?_
 refine wR0 600 [2,3,19] cJ0 ?_
 refine wR0 700 [2,3,19,20] cJ0 ?_
 refine wF @hd2 ?_
 refine wR0 800 [2,3,19,20] cJ0 ?_
 refine wF @hd3 ?_
 refine wR0 1000 [2,3,28] cJ0 ?_
 refine wF @hd5 ?_
 refine wR0 1300 [4,5] cJ0 ?_
 refine wP ?_
 exact qbX .nil (.same rfl)
def qnX (r:Rl)(s:Int)(v:List Int):T:=if qbL r s v=true then (if aftO r v=true then .tup [.list [encV (cfV r.to_ (aftR r v))],.int .i64 0] else .tup [.list [],.int .i64 1]) else .tup [.list [],.int .i64 0]
set_option maxHeartbeats 8000000 in
theorem qmP (m:Md)(hm:m.fit)(hk:m.kind=1)(h0:qaV m=0)(q:Nat)(hq:q<m.rules.length)(s:Int)(v:List Int)(hl:v.length≤100000)(hr:RoomR (m.rules.getD q rlQ) v)(hmv:(m.rules.getD q rlQ).move=[])(hfin:∀j,v.getD j 0≤1048576)(hv:qfc m (cfV s v)=true) :
 TP Tryz.prog 18 [qas m,.int .i64 q,encV (cfV s v)] (qnX (m.rules.getD q rlQ) s v):=by
 have hap:=qmO m hm hk h0 q hq s v hl hr hmv hfin hv
 have hkd:=qf7 m hm hk h0
 have hvl:=qdd m (cfV s v) hm (qgq s v hl)
 rw[hv] at hvl
 rw[qa3] at hvl hap ⊢
 have hd1:((0:Int) != 0)=false:=rfl
 have hd4:decide ((q:Int) < -1)=false:=decide_eq_false (by omega)
 have hd5:decide ((q:Int)≥((qaB m.rules).length:Int))=false:=decide_eq_false (by rw[qaD];omega)
 have hd6:((q:Int) == -1)=false:=by rw[beq_eq_false_iff_ne];omega
 have hd7:(1:Int) != 0:=rfl
 have hk4:(m.kind==4)=false:=by rw[hk];rfl
 have hk5:(m.kind==5)=false:=by rw[hk];rfl
 have hk1:(m.kind != 1)=false:=by rw[hk];rfl
 rw[qsG] at hap
 rw[qnX]
 generalize m.rules.getD q rlQ=r at*
 have hen0:encV (.mk 0 [])=.agg [.int .i64 0,.list []]:=rfl
 cases hf:qbL r s v with
 | false=>
  rw[hf,if_neg (by simp),hen0] at hap
  rw[if_neg (by simp)]
  simp only[qas,mdC,qaI] at hkd hvl hap ⊢
  have fX:=(cJ5 @hd4 @hd5 @hd6 @hd7 @qaK)
  refine qah fn18 (by simp) ?_
  unfold i18
  simp only[argL]
  refine wR0 0 [1,3,5] fX ?_
  refine wRn 100 [1,3,5,8] fX ?_
  refine rC fX ?_
  refine⟨_,hkd,rE fX ?_⟩
  refine wR0 200 [1,3,5,8,14] fX ?_
  refine wF @hd1 ?_
  refine wR0 400 [1,3,5,24] fX ?_
  refine wF fX ?_
  refine wRn 600 [1,3,5,28] fX ?_
  refine rC fX ?_
  refine⟨_,hvl,rE fX ?_⟩
  refine wF fX ?_
  refine wR0 800 [1,3,5,30] fX ?_
  refine wF @hd6 ?_
  refine wR0 1000 [1,3,5,37] fX ?_
  refine wR0 1100 [1,3,5,37,38] fX ?_
  refine wF @hk4 ?_
  refine wR0 1300 [1,3,5,46] fX ?_
  refine wF @hk5 ?_
  refine wRn 1500 [1,3,5,9,10] fX ?_
  refine rC fX ?_
  refine⟨_,hap,rE fX ?_⟩
  refine wR0 1600 [1,3,5,9,10,63] fX ?_
  refine wF @hk1 ?_
  refine wR0 1800 [9,10,72] fX ?_
  refine wT fX ?_
  refine wR0 1900 [6,7] fX ?_
  refine wP ?_
  exact qbX .nil (.same rfl)
 | true=>
  rw[hf,if_pos rfl] at hap
  rw[if_pos rfl]
  cases ho:aftO r v with
  | false=>
   rw[ho,if_neg (by simp),hen0] at hap
   rw[if_neg (by simp)]
   simp only[qas,mdC,qaI] at hkd hvl hap ⊢
   have fX:=(cJ5 @hd4 @hd5 @hd6 @hd7 @qaK)
   refine qah fn18 (by simp) ?_
   unfold i18
   simp only[argL]
   refine wR0 0 [1,3,5] fX ?_
   refine wRn 100 [1,3,5,8] fX ?_
   refine rC fX ?_
   refine⟨_,hkd,rE fX ?_⟩
   refine wR0 200 [1,3,5,8,14] fX ?_
   refine wF @hd1 ?_
   refine wR0 400 [1,3,5,24] fX ?_
   refine wF fX ?_
   refine wRn 600 [1,3,5,28] fX ?_
   refine rC fX ?_
   refine⟨_,hvl,rE fX ?_⟩
   refine wF fX ?_
   refine wR0 800 [1,3,5,30] fX ?_
   refine wF @hd6 ?_
   refine wR0 1000 [1,3,5,37] fX ?_
   refine wR0 1100 [1,3,5,37,38] fX ?_
   refine wF @hk4 ?_
   refine wR0 1300 [1,3,5,46] fX ?_
   refine wF @hk5 ?_
   refine wRn 1500 [1,3,5,9,10] fX ?_
   refine rC fX ?_
   refine⟨_,hap,rE fX ?_⟩
   refine wR0 1600 [1,3,5,9,10,63] fX ?_
   refine wF @hk1 ?_
   refine wR0 1800 [9,10,72] fX ?_
   refine wF fX ?_
   refine wR0 2000 [9,10,74] fX ?_
   refine wT fX ?_
   refine wR0 2100 [6,7] fX ?_
   refine wP ?_
   exact qbX .nil (.same rfl)
  | true=>
   rw[ho,if_pos rfl,qa3] at hap
   rw[if_pos rfl,qa3]
   have hfz:∀(H:Heap) (x:T),H 2201=.live ⟨31,[.int .i64 0,x]⟩→x.fro=true→x.one=true→Frz H (.sl 2201 2 2 0 1) (.list [.agg [.int .i64 0,x]]):=fun H x h h1 h2=>
    Frz.slL h rfl rfl rfl rfl (by simp[flat,T.cells,h2];rfl) (.cons (.same rfl) (.cons (.same h1) .nil))
   simp only[qas,mdC,qaI] at hkd hvl hap ⊢
   have fX:=(cJ5 @hd4 @hd5 @hd6 @hd7 @qaK)
   refine qah fn18 (by simp) ?_
   unfold i18
   simp only[argL]
   refine wR0 0 [1,3,5] fX ?_
   refine wRn 100 [1,3,5,8] fX ?_
   refine rC fX ?_
   refine⟨_,hkd,rE fX ?_⟩
   refine wR0 200 [1,3,5,8,14] fX ?_
   refine wF @hd1 ?_
   refine wR0 400 [1,3,5,24] fX ?_
   refine wF fX ?_
   refine wRn 600 [1,3,5,28] fX ?_
   refine rC fX ?_
   refine⟨_,hvl,rE fX ?_⟩
   refine wF fX ?_
   refine wR0 800 [1,3,5,30] fX ?_
   refine wF @hd6 ?_
   refine wR0 1000 [1,3,5,37] fX ?_
   refine wR0 1100 [1,3,5,37,38] fX ?_
   refine wF @hk4 ?_
   refine wR0 1300 [1,3,5,46] fX ?_
   refine wF @hk5 ?_
   refine wRn 1500 [1,3,5,9,10] fX ?_
   refine rC fX ?_
   refine⟨_,hap,rE fX ?_⟩
   refine wR0 1600 [1,3,5,9,10,63] fX ?_
   refine wF @hk1 ?_
   refine wR0 1800 [9,10,72] fX ?_
   refine wF fX ?_
   refine wR0 2000 [9,10,74] fX ?_
   refine wF fX ?_
   refine wR0 2200 [6,7] fX ?_
   refine wP ?_
   exact qbX (hfz _ _ rfl (by simp[T.fro,T.cl,clL,qak]) rfl) (.same rfl)
end
section
open Go.RowKit
def FinV (v:List Int):Prop:=∀j,v.getD j 0≤1048576
theorem qkO {N:Nat}{a v:List Int}(hv:VecOk N v)(h:qcX a v=true):∃j,(qcn a v).getD j 0=1099511627776:=by
 simp only[qcX,Bool.and_eq_true,Bool.not_eq_true'] at h
 obtain⟨h0,h1⟩:=h
 have hab:a.length=v.length:=by
  simp only[vLe,Bool.and_eq_true,beq_iff_eq] at h0
  have:=h0.1.2;omega
 rw[←Bool.not_eq_true,qoW,qbv] at h1
 have:∃j,j<a.length∧(decide (a.getD j 0<v.getD j 0)&&(v.getD j 0 != 1099511627776))=true:=by
  refine Classical.byContradiction fun hn=>h1 fun j _ hj=>?_
  cases hc:(decide (a.getD j 0<v.getD j 0)&&(v.getD j 0 != 1099511627776)) with
  | false=>rfl
  | true=>exact absurd ⟨j,by omega,hc⟩ hn
 obtain⟨j,hj,hc⟩:=this
 rw[Bool.and_eq_true,decide_eq_true_eq] at hc
 exact⟨j,by rw[qcc a v j (by omega),if_pos hc.1]⟩
theorem qnn {N:Nat}(vs:List (List Int)):∀(f:Nat) (v:List Int),VecOk N v→FinV (qco vs f v)→qco vs f v=v
 | 0,_,_,_=>rfl
 | f+1,v,h,hf=>by
  rw[qco] at hf ⊢
  split at hf
  ·rfl
  ·rename_i a e
   have hl:=List.find?_some (p:=fun a=>qcX a v) e
   obtain⟨j,hj⟩:=qkO h hl
   have h1:=qha vs f _ (qg9 (a:=a) h) j
   have:=hf j
   omega
theorem FromF.fin {m:Md}{N:Nat}(hr:qbl N m.rules){l:List Nn}(hG:TreeG N l){i p q:Nat}(hi:i<l.length)(h:FromF m l i p q)(hf:FinV (l.getD i default).vec) :
 FinV (l.getD p default).vec∧(l.getD i default).vec=aftR (m.rules.getD q rlZ) (l.getD p default).vec:=by
 have hmem:m.rules.getD q rlZ∈m.rules:=by simp[List.getD_eq_getElem?_getD,h.rl]
 have hv:=hG.vec p (by have:=h.lt;omega)
 have ha:=qej hr hv hmem h.fits h.aft
 rw[h.node] at hf ⊢
 have e:=qnn (upV l (m.rules.getD q rlZ).to_ p) _ _ ha hf
 have e2:qbe (upV l (m.rules.getD q rlZ).to_ p) (aftR (m.rules.getD q rlZ) (l.getD p default).vec)=aftR (m.rules.getD q rlZ) (l.getD p default).vec:=e
 simp only at hf ⊢
 rw[e2] at hf
 refine⟨fun j=>?_,e2⟩
 have h3:=hv.ent j
 by_cases hj:j<(l.getD p default).vec.length
 ·have h4:=hf j
  rw[qbO _ _ _ hj,aft1] at h4
  split at h4<;>omega
 ·rw[qbk (by omega)];omega
inductive Chain (m:Md):List Int→Int→List Int→Int→List Int→Prop
 | nil (s:Int) (v:List Int):Chain m [] s v s v
 | cons {q:Nat} {path:List Int} {s s':Int} {v v':List Int} (hq:q<m.rules.length) (hf:qbL (m.rules.getD q rlZ) s v=true) (ha:aftO (m.rules.getD q rlZ) v=true) (hv:FinV v) (h:Chain m path (m.rules.getD q rlZ).to_ (aftR (m.rules.getD q rlZ) v) s' v'):Chain m ((q:Int)::path) s v s' v'
theorem Chain.snoc {m:Md}{path:List Int}{s s1:Int}{v v1:List Int}(h:Chain m path s v s1 v1):∀ {q:Nat},q<m.rules.length→qbL (m.rules.getD q rlZ) s1 v1=true→aftO (m.rules.getD q rlZ) v1=true→FinV v1→Chain m (path++[(q:Int)]) s v (m.rules.getD q rlZ).to_ (aftR (m.rules.getD q rlZ) v1):=by
 induction h with
 | nil s v=>exact fun hq hf ha hv=>.cons hq hf ha hv (.nil _ _)
 | cons hq hf ha hv _ ih=>exact fun a b c d=>.cons hq hf ha hv (ih a b c d)
theorem qnk {m:Md}{l:List Nn}(hp:Par l){i p q:Nat}(hi:i<l.length)(h:FromF m l i p q):qeZ l i=qeZ l p++[(q:Int)]:=by
 have hl:=h.lt
 rw[qeZ,qft,h.node]
 simp only
 rw[if_neg (by omega),List.reverse_cons,Int.toNat_natCast,qhO hp i (p+1) p (by omega) hl (by omega)]
 rfl
theorem qni {m:Md}{N:Nat}(hr:qbl N m.rules){s0:Int}{v0:List Int}{l:List Nn}{k:Nat}(h:TInv m N s0 v0 l k):∀(i:Nat),i<l.length→FinV (l.getD i default).vec→Chain m (qeZ l i) s0 v0 (l.getD i default).st (l.getD i default).vec:=by
 intro i
 induction i using Nat.strongRecOn with
 | ind i ih=>
  intro hi hf
  by_cases h0:i=0
  ·subst h0
   have e:qeZ l 0=[]:=by
    rw[qeZ,qft,h.root];rfl
   rw[e,h.root]
   exact .nil _ _
  ·obtain⟨p,q,_,hF⟩:=h.from_ i (by omega) hi
   obtain⟨f1,f2⟩:=hF.fin hr h.good hi hf
   have hc:=ih p hF.lt (by have:=hF.lt;omega) f1
   rw[qnk h.good.ok.par hi hF,f2]
   have e:(l.getD i default).st=(m.rules.getD q rlZ).to_:=by rw[hF.node]
   rw[e]
   exact hc.snoc hF.rl hF.fits hF.aft f1
end
section
open Go.RowKit
set_option maxHeartbeats 2000000
attribute [local simp] qae qak qal qaJ qaF
abbrev ptE (l:List Nn)(i:Nat)(path:List Int)(k:Int):List (Nat×T):=[(4,.ref 402 10 0),(5,.ref 505 2 0),(8,.ref 1103 4 0),(9,.ref 1302 2 0),(35,.list (qbj l)),(36,.int .i64 (qbj l).length),(37,.int .i64 i),(50,.list (qac path)),(51,.int .i64 (qac path).length),(52,.int .i64 k)]
abbrev ptH (m:Md)(l:List Nn)(kk:Int)(d:Dc)(n:Nn)(s:Int)(v:List Int):List (Nat×Slot):=[(99999,dcB d),(402,sMg m),(505,.live ⟨37,grC l kk⟩),(1103,.live ⟨55,nnC n⟩),(1302,.live ⟨31,apC s v⟩)]
structure PlainM (m:Md) (N:Nat):Prop where
 fit:m.fit
 kind:m.kind=1
 check:qaV m=0
 rules:qbl N m.rules
 move:∀r∈m.rules,r.move=[]
 to_:∀r∈m.rules,0≤r.to_∧r.to_<m.states.length
 places:m.places.length=N
 small:N≤6
theorem PlainM.valid {m:Md}{N:Nat}(h:PlainM m N){s:Int}{v:List Int}(hs:0≤s∧s<m.states.length)(hv:VecOk N v)(hf:FinV v):qfc m (cfV s v)=true:=by
 rw[qr5 h.kind h.check s v (by rw[hv.len,h.places]),decide_eq_true hs.1,decide_eq_true hs.2,Bool.true_and,Bool.true_and,List.all_eq_true]
 intro x hx
 obtain⟨j,hj,rfl⟩:=List.getElem_of_mem hx
 have h1:=hv.ent j
 have h2:=hf j
 simp only[List.getD_eq_getElem?_getD,List.getElem?_eq_getElem hj,Option.getD_some] at h1 h2
 simp only[fin1,Bool.and_eq_true,decide_eq_true_eq]
 omega
theorem PlainM.apply {m:Md}{N:Nat}(h:PlainM m N){q:Nat}(hq:q<m.rules.length){s:Int}{v:List Int}(hs:0≤s∧s<m.states.length)(hv:VecOk N v)(hf:FinV v):TP Tryz.prog 18 [qas m,.int .i64 q,encV (cfV s v)] (qnX (m.rules.getD q rlZ) s v):=by
 have hmem:m.rules.getD q rlZ∈m.rules:=by simp[List.getD_eq_getElem?_getD,hq]
 have:=h.small
 exact qmP m h.fit h.kind h.check q hq s v (by have:=hv.len;omega) (h.rules.room hv hmem) (h.move _ hmem) hf (h.valid hs hv hf)
set_option maxHeartbeats 8000000 in
theorem qrl (m:Md){N:Nat}(hM:PlainM m N)(l:List Nn)(kk:Int)(d:Dc)(n:Nn)(i:Nat)(path:List Int)(hpl:path.length≤1000)(s1:Int)(v1:List Int)(Q:IExit→(Nat→T)→Heap→Prop)
 (hQ:∀j:Int,Q (.exit 2) (ofL (ptE l i path j++[(53,.bool false)])) (hpL (ptH m l kk d n s1 v1))) :
 ∀(rest:List Int) (s:Int) (v:List Int) (s':Int) (v':List Int),Chain m rest s v s' v'→s'=s1→v'=v1→(0≤s∧s<m.states.length)→VecOk N v→∀pre:List Int,path=pre++rest→
 WL Tryz.prog 91 qqS (ofL (ptE l i path pre.length)) (hpL (ptH m l kk d n s v)) Q:=by
 simp only[ptE,ptH,grC,sMg,mdC,nnC,apC,List.cons_append,List.nil_append] at hQ ⊢
 intro rest s v s' v' hc
 induction hc with
 | nil s v=>
  intro es ev hs hv pre hp
  subst es
  subst ev
  have hd:decide ((pre.length:Int)<((qac path).length:Int))=false:=decide_eq_false (by rw[qad,hp];simp)
  have fX:=@hd
  refine qaa qqS.eq_1 ?_
  refine wR0 1500 [4,5,8,9,35,36,37,50,51,52,53] fX ?_
  refine wF @hd ?_
  refine wX ?_
  refine wN ?_
  exact hQ _
 | @cons q rest s s' v v' hq hf ha hfv hch ih=>
  intro es ev hs hv pre hp
  have hmem:m.rules.getD q rlZ∈m.rules:=by simp[List.getD_eq_getElem?_getD,hq]
  have hlt:(pre.length:Int)<((qac path).length:Int):=by rw[qad,hp];simp;omega
  have hd:decide ((pre.length:Int)<((qac path).length:Int))=true:=decide_eq_true hlt
  have hpl2:pre.length≤1000:=by rw[hp] at hpl;simp at hpl;omega
  have hw:IntKind.wrap .i64 ((pre.length:Int)+1)=((pre.length+1:Nat):Int):=by rw[wrap64 (by omega) (by omega)];rfl
  have hg:(qac path).getD (pre.length:Int).toNat .undef=.int .i64 (q:Int):=by rw[hp];exact qeL pre q rest _ rfl
  have hap:=hM.apply hq hs hv hfv
  rw[qnX,if_pos hf,if_pos ha,qa3,qa3] at hap
  have hQ':=ih es ev (hM.to_ _ hmem) (qej hM.rules hv hmem hf ha) (pre++[(q:Int)]) (by rw[hp];simp)
  rw[List.length_append,List.length_singleton] at hQ'
  generalize (m.rules.getD q rlZ).to_=s2 at*
  generalize aftR (m.rules.getD q rlZ) v=v2 at*
  have hg0:∀x:T,([x]:List T).getD (Int.toNat 0) .undef=x:=fun x=>rfl
  have hz:((0:Int) != 0)=false:=rfl
  simp only[qas,mdC,qaI] at hap
  have fX:=(cJ5 @hd @hw @hg @hg0 @hz)
  refine qaa qqS.eq_1 ?_
  refine W_gc ?_
  refine wR0 1500 [4,5,8,9,35,36,37,50,51,52,53] fX ?_
  refine wT @hd ?_
  refine wR0 1600 [4,5,8,9,11,35,36,37,50,51,52] fX ?_
  refine wRn 1700 [4,5,8,9,12,13,35,36,37,50,51,52] fX ?_
  refine rC fX ?_
  refine⟨_,hap,rE fX ?_⟩
  refine wR0 1800 [4,5,8,9,12,35,36,37,50,51,52,69] fX ?_
  refine wF fX ?_
  refine wR0 2000 [4,5,8,9,35,36,37,50,51,52] fX ?_
  refine wR0 2100 [4,5,8,9,35,36,37,50,51,52] fX ?_
  refine wN ?_
  refine qaP [99999,402,505,1103,1302] (by simp[inL]) (by simp[inL,T.cl,qaJ,qae]) (by simp[qan,inL,Slot.cl,T.cl,clL,qaJ,qal,qaU,qae,qak,qaF]) ?_
  simpa [qan,inL] using hQ'
end
section
open Go.RowKit
set_option maxHeartbeats 2000000
attribute [local simp] qae qak qal qaJ qaF
theorem qr4 {v:List Int}(h:vFin v=true):FinV v:=by
 intro j
 by_cases hj:j<v.length
 ·simp only[vFin,vOk,Bool.and_eq_true,List.all_eq_true] at h
  have h1:=h.1 v[j] (List.getElem_mem hj)
  have h2:=h.2.2 v[j] (List.getElem_mem hj)
  simp only[elO,Bool.or_eq_true,Bool.and_eq_true,decide_eq_true_eq,beq_iff_eq] at h2
  simp only[Bool.not_eq_true',beq_eq_false_iff_ne,ne_eq] at h1
  rw[List.getD_eq_getElem?_getD,List.getElem?_eq_getElem hj]
  show v[j]≤1048576
  omega
 ·rw[qbk (by omega)];omega
theorem qlD {d:Dc}(h:d.ok):PlainM (qfl d) (1+(ctD d).1.2.1):=by
 have hok:=qqB h
 have r1:=qa6 h (n:=2) (by omega)
 have h1:=qaQ h 2
 have r2:=qa6 h1 (n:=2) (by omega)
 have h2:=qaQ h1 2
 have hsp:=qew (qar d 2).1.toNat (qar (qar d 2).2 2).1.toNat 3 0 [] _ h2 rfl rfl (fun j hj=>by simp at hj)
 have b1:(qar d 2).1.toNat≤1:=by omega
 have b2:(qar (qar d 2).2 2).1.toNat≤1:=by omega
 refine⟨hok.fit,rfl,hok.check,hok.rules,fun r hr=>?_,fun r hr=>?_,qg6 _ b2,by have:=hok.a2;omega⟩
 ·obtain⟨c,_,rfl⟩:=List.mem_map.1 hr
  rfl
 ·obtain⟨c,hcm,rfl⟩:=List.mem_map.1 hr
  obtain⟨j,hj⟩:=qh9 hsp.1 hcm
  have h3:=hj.to_
  have h4:((qfl d).states.length:Int)=1+(qar d 2).1.toNat:=by
   have:(qfl d).states.length=1+(qar d 2).1.toNat:=qhk _ b1
   omega
  exact⟨h3.1,by rw[h4];exact h3.2⟩
abbrev p0E (l:List Nn)(i:Int):List (Nat×T):=[(4,.ref 402 10 0),(5,.ref 505 2 0),(35,.list (qbj l)),(36,.int .i64 (qbj l).length),(37,.int .i64 i)]
set_option maxHeartbeats 8000000 in
theorem qrk (m:Md){N:Nat}(hM:PlainM m N){v0:List Int}(hst:m.start=cfV 0 v0)(hs0:0<m.states.length)(hv0:VecOk N v0)(l:List Nn)(kk:Nat)(hI:TInv m N 0 v0 l kk)(d:Dc)(Q:IExit→(Nat→T)→Heap→Prop)
 (hQ:∀j:Int,Q (.exit 0) (ofL (p0E l j++[(38,.bool false)])) (hpL (c0H m l kk d))) :
 ∀(f i:Nat),i+f=l.length→WL Tryz.prog 91 qoK (ofL (p0E l i)) (hpL (c0H m l kk d)) Q:=by
 have hll:=hI.good.ok.len
 have hN:=hM.small
 have hsn:m.start.n=0:=by rw[hst];rfl
 have hsk:m.start.kids=natV 0::v0.map natV:=by rw[hst];rfl
 have hk0:qag (natV 0::v0.map natV)=encV (natV 0)::qag (v0.map natV):=rfl
 simp only[p0E,c0H,grC,sMg,mdC,hsn,hsk,hk0,qaI,List.cons_append,List.nil_append] at hQ ⊢
 intro f
 induction f with
 | zero=>
  intro i hk
  have hd:decide ((i:Int)<((qbj l).length:Int))=false:=decide_eq_false (by rw[qby];omega)
  have fX:=@hd
  refine qaa qoK.eq_1 ?_
  refine wR0 1000 [4,5,35,36,37,38] fX ?_
  refine wF @hd ?_
  refine wX ?_
  refine wN ?_
  exact hQ _
 | succ f ih=>
  intro i hk
  have hil:i<l.length:=by omega
  have hlt:(i:Int)<((qbj l).length:Int):=by rw[qby];omega
  have hd:decide ((i:Int)<((qbj l).length:Int))=true:=decide_eq_true hlt
  have hw:IntKind.wrap .i64 ((i:Int)+1)=((i+1:Nat):Int):=by rw[wrap64 (by omega) (by omega)];rfl
  have hg:=qeN l i hil
  have hQ':=ih (i+1) (by omega)
  have hvi:=(hI.good.vec i hil).len
  have hfn:=qtF (l.getD i default).vec (by omega)
  cases hfv:vFin (l.getD i default).vec with
  | false=>
   rw[hfv] at hfn
   generalize l.getD i default=n at*
   simp only[encN,nnC] at hg
   have fX:=(cJ3 @hd @hw @hg)
   refine qaa qoK.eq_1 ?_
   refine W_gc ?_
   refine wR0 1000 [4,5,35,36,37,38] fX ?_
   refine wT @hd ?_
   refine wR0 1100 [4,5,7,8,35,36,37] fX ?_
   refine wRn 1200 [4,5,7,8,35,36,37,45] fX ?_
   refine rC fX ?_
   refine⟨_,hfn,rE fX ?_⟩
   refine wT fX ?_
   refine wX ?_
   refine wR0 2400 [4,5,35,36,37] fX ?_
   refine wN ?_
   refine qaP [99999,402,505] (by simp[inL]) (by simp[inL,T.cl,qaJ]) (by simp[qan,inL,Slot.cl,T.cl,clL,qaJ,qal,qaU,qae,qak,qaF]) ?_
   simpa [qan,inL] using hQ'
  | true=>
   rw[hfv] at hfn
   have hch:=qni hM.rules hI i hil (qr4 hfv)
   have hpt:=qpg l kk hI.good.ok.par (by omega) i hil
   have hpl:(qeZ l i).length≤1000:=by
    rw[qeZ,List.length_reverse]
    have:=qg5 l (i+1) i
    omega
   have hL1:=fun Q h=>qrl m hM l kk d (l.getD i default) i (qeZ l i) hpl (l.getD i default).st (l.getD i default).vec Q h (qeZ l i) 0 v0 _ _ hch rfl rfl ⟨Int.le_refl 0,by omega⟩ hv0 [] rfl
   have hnm:=qg8 (l.getD i default).st (l.getD i default).vec (by omega)
   have hsm:=qpF (l.getD i default).vec (l.getD i default).vec (by omega) (by omega)
   have hbe:((l.getD i default).vec==(l.getD i default).vec)=true:=by simp
   rw[hbe] at hsm
   rw[qa3] at hnm
   generalize qeZ l i=path at*
   generalize l.getD i default=n at*
   have hg0:(T.agg [.int .i64 n.st,.list []]::qag (n.vec.map natV)).getD (Int.toNat 0) .undef=.agg [.int .i64 n.st,.list []]:=rfl
   have hne:(n.st != n.st)=false:=by simp
   simp only[encN,nnC] at hg
   simp only[qbs,grC] at hpt
   simp only[ptE,ptH,grC,sMg,mdC,nnC,apC,hsn,hsk,hk0,qaI,List.cons_append,List.nil_append,List.length_nil] at hL1 hnm
   have fX:=(cJ5 @hd @hw @hg @hg0 @hne)
   refine qaa qoK.eq_1 ?_
   refine W_gc ?_
   refine wR0 1000 [4,5,35,36,37,38] fX ?_
   refine wT @hd ?_
   refine wR0 1100 [4,5,7,8,35,36,37] fX ?_
   refine wRn 1200 [4,5,7,8,35,36,37,45] fX ?_
   refine rC fX ?_
   refine⟨_,hfn,rE fX ?_⟩
   refine wF fX ?_
   refine wR0 1300 [4,5,7,8,9,35,36,37] fX ?_
   refine wRn 1400 [4,5,8,9,35,36,37,50,51,52] fX ?_
   refine rC fX ?_
   refine⟨_,hpt,rE fX ?_⟩
   refine wL ?_
   refine hL1 _ ?_
   ·intro j
    refine wN ?_
    refine wRn 2200 [4,5,35,36,37,89] fX ?_
    refine rC fX ?_
    refine⟨_,hnm,rN fX ?_⟩
    refine rC fX ?_
    refine⟨_,hsm,rE fX ?_⟩
    refine wF fX ?_
    refine wR0 2400 [4,5,35,36,37] fX ?_
    refine wN ?_
    refine qaP [99999,402,505] (by simp[inL]) (by simp[inL,T.cl,qaJ]) (by simp[qan,inL,Slot.cl,T.cl,clL,qaJ,qal,qaU,qae,qak,qaF]) ?_
    simpa [qan,inL] using hQ'
end
section
open Go.RowKit
set_option maxHeartbeats 2000000
attribute [local simp] qae qak qal qaJ qaF
theorem qhW {m:Md}(h:qaV m=0):0<m.states.length:=by
 have hs:qaR m=true:=by
  rw[qaV] at h
  refine Classical.byContradiction fun hn=>?_
  have hn':qaR m=false:=by simpa using hn
  rw[hn'] at h
  (repeat' split at h)<;>simp_all
 have:=qhh hs
 cases hm:m.states with
 | nil=>exact absurd hm this
 | cons x l=>simp
set_option maxHeartbeats 8000000 in
theorem qoE (s:List Int)(hs:∀j,0≤s.getD j 0∧s.getD j 0≤255)(hsl:s.length≤9223372036854775807):TP Tryz.prog 4 [.list (qb3 s)] (.bool true):=by
 have hnew:=qk0 s hsl
 have hd:=qkR hs
 generalize newD s=d at*
 have hct:=qfk d hd
 have hok:=qqB hd
 have hM:=qlD hd
 obtain⟨o1,o2,o3,o4,o5,o6,o7,o8⟩:=hok
 generalize qfl d=m at*
 generalize (ctD d).2=d1 at*
 generalize (ctD d).1.2.2.2=v at*
 generalize (ctD d).1.2.1=a2 at*
 have hst:=qf8 m o1 o3 0 v o5 (by have:=o6.len;omega)
 have hrn:=qij m o1 o3 (1+a2) (by omega) (by omega) o4 20 (by omega) [qdf 0 v] 0 (qdN o6)
 obtain⟨hI,hk⟩:=TInv.run o4 20 [qdf 0 v] 0 0 (TInv.start (m:=m) o6) rfl
 obtain⟨R,hR⟩:∃R,runM m 20 [qdf 0 v] 0 0=R:=⟨_,rfl⟩
 rw[hR] at hrn hI hk
 obtain⟨t,k,n,e⟩:=R
 simp only at hI hk
 subst hk
 have hgd:=hI.good
 have hll:=hgd.ok.len
 have hz:((0:Int) != 0)=false:=rfl
 have hL:=fun Q h=>qrk m hM o5 (qhW o2) o6 t k hI d1 Q h t.length 0 (by omega)
 simp only[qas,qbs,grC,runT,p0E,c0H,sMg,mdC,List.cons_append,List.nil_append] at hct hst hrn hL
 have fX:=@hz
 refine qah fn4 (by simp) ?_
 unfold i4
 simp only[argL]
 refine wR0 0 [0] fX ?_
 refine wRn 100 [0,15] fX ?_
 refine rC fX ?_
 refine⟨_,qex,rE fX ?_⟩
 refine wF fX ?_
 refine wRn 300 [3] fX ?_
 refine rU [] [(99999,dcB d)] fX ?_
 refine⟨_,hnew,rE fX ?_⟩
 refine wRn 400 [4] fX ?_
 refine rU [(99999,dcB d)] [(99999,dcB d1)] fX ?_
 refine⟨_,hct.fulD,rE fX ?_⟩
 refine wRn 500 [4,5,6] fX ?_
 refine rC fX ?_
 refine⟨_,hst,rE fX ?_⟩
 refine wR0 600 [4,5,26] fX ?_
 refine wF @hz ?_
 refine wRn 800 [4,5] fX ?_
 refine rC fX ?_
 refine⟨_,hrn,rE fX ?_⟩
 refine wR0 900 [4,5,35,36,37] fX ?_
 refine wL ?_
 refine hL _ ?_
 ·intro j
  refine wN ?_
  refine wR0 2500 [2] fX ?_
  refine wP ?_
  exact .same rfl
end
end Go.Proofs.YtoeeppojakbciaaGreat
