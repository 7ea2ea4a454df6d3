/- Contracts of functions of the program, for all arguments that they name. -/
import Derived.Test.YtkbjpglehdhjfaaGreatDoorK25
import Derived.Test.YtkbjpglehdhjfaaGreatDoorK36
namespace Go.Proofs.YtkbjpglehdhjfaaGreatDoor
set_option linter.unusedVariables false
section
open Go.RowKit
set_option maxHeartbeats 2000000
def qri (m:Md):Ty×Int:=if qbm m=0 then (qa9 m,0) else (.mk 0 0 [] [],qbm m)
theorem qsz (m:Md)(hm:m.fit):TP Tryz.prog 13 [qaA m] (.tup [qaz (qri m).1,.int .i64 (qri m).2]):=by
 rcases hty:qa9 m with⟨tk,ts,trs,tps⟩
 by_cases h0:qbm m=0
 ·have ht:=qid m (qf9 hm h0)
  rw[hty,qaz] at ht
  have hc:=qeC m hm
  rw[h0] at hc
  have hd:((0:Int) != 0)=false:=rfl
  refine qag fn13 (by simp) ?_
  unfold i13
  simp only[argL,qaA,mdC]
  refine wR0 0 [1,2] cJ0 ?_
  refine wRn 100 [1,2,4] cJ0 ?_
  refine rC cJ0 ?_
  refine⟨_,hc,rE cJ0 ?_⟩
  refine wR0 200 [1,2,4,8] cJ0 ?_
  refine wF @hd ?_
  refine wRn 400 [2,3] cJ0 ?_
  refine rC cJ0 ?_
  refine⟨_,ht,rE cJ0 ?_⟩
  refine wP ?_
  (rw[qri,if_pos h0,hty];simp only[qaz];refine Frz.tupL (.cons (.same (by simp[mkEl,esz,clL,T.cl])) (.cons (.same rfl) .nil)))
 ·have hd:(qbm m != 0)=true:=by simpa using h0
  refine qag fn13 (by simp) ?_
  unfold i13
  simp only[argL,qaA,mdC]
  refine wR0 0 [1,2] cJ0 ?_
  refine wRn 100 [1,2,4] cJ0 ?_
  refine rC cJ0 ?_
  refine⟨_,qeC m hm,rE cJ0 ?_⟩
  refine wR0 200 [1,2,4,8] cJ0 ?_
  refine wT @hd ?_
  refine wR0 300 [2,3] cJ0 ?_
  refine wP ?_
  (rw[qri,if_neg h0];simp only[qaz,qam,qaw];(first | exact fF | exact fZt))
end
section
open Go.RowKit
def qnS (p:Pg)(c:List Int):Bool:=okP p&&(c.length==(plcs p).length)&&(List.range' 0 (plcs p).length).any fun i=>decide (c.getD i 0 > 0)&&((((p.ths.getD ((plcs p).getD i (0,0)).1 default).lines.getD ((plcs p).getD i (0,0)).2 default).k)==7)
theorem qrP {p:Pg}(hok:okP p=true){B v:Int}{c:List Int}(h:StOk p B v c):(∃w i:Nat,w<p.vals.toNat∧i<(plcs p).length∧isF p i=true∧(w:Int)=v∧c.getD i 0 > 0)↔qnS p c=true:=by
 have hv:=h.val
 simp only[qnS,hok,h.len,Bool.true_and,beq_self_eq_true,List.any_eq_true,Bool.and_eq_true,decide_eq_true_eq]
 constructor
 ·rintro ⟨w,i,h1,h2,h3,h4,h5⟩
  exact⟨i,by simpa [List.mem_range'_1] using h2,h5,h3⟩
 ·rintro ⟨i,h1,h2,h3⟩
  exact⟨v.toNat,i,by omega,by simpa [List.mem_range'_1] using h1,h3,by omega,h2⟩
end
section
open Go.RowKit
set_option maxHeartbeats 2000000
def tyD1:Ty:=.mk 0 0 [] []
def tyK:Ty→Int
 | .mk k _ _ _=>k
def qfK (t:Ty)(a b:V):Bool:=if tyK t=1 then decide (a.n≤b.n) else a.n==b.n
theorem qnP (ps:List Ty)(i:Nat)(h:i<ps.length):(qam ps).getD (i:Int).toNat .undef=qaz (ps.getD i tyD1):=by
 rw[qcZ]
 simp[List.getD_eq_getElem?_getD,List.getElem?_eq_getElem h]
theorem qem (X:List V)(i:Nat)(h:i<X.length):(qaj X).getD (i:Int).toNat .undef=encV (X.getD i v0):=by
 rw[qc6]
 simp[List.getD_eq_getElem?_getD,List.getElem?_eq_getElem h]
theorem qud (t:Ty)(a b:V)(h:tyK t=1∨tyK t=2):TP Tryz.prog 52 [qaz t,encV a,encV b] (.bool (qfK t a b)):=by
 rcases t with⟨k,s,rs,ps⟩
 rcases a with⟨na,xs⟩
 rcases b with⟨nb,ys⟩
 simp only[tyK] at h
 rcases h with rfl | rfl
 ·have e:qfK (.mk 1 s rs ps) (.mk na xs) (.mk nb ys)=decide (na≤nb):=rfl
  rw[e]
  have b1:((1:Int)==1)=true:=rfl
  have fX:=@b1
  refine qag fn52 (by simp) ?_
  unfold i52
  simp only[argL,encV,qaz]
  refine wR0 0 [3,4,5] fX ?_
  refine wR0 100 [3,4,5,16] fX ?_
  refine wR0 200 [3,4,5,16,17] fX ?_
  refine wT fX ?_
  refine wR0 300 [6] fX ?_
  refine wP ?_
  exact .same rfl
 ·have e:qfK (.mk 2 s rs ps) (.mk na xs) (.mk nb ys)=(na==nb):=rfl
  rw[e]
  have b1:((2:Int)==1)=false:=rfl
  have b2:((2:Int)==2)=true:=rfl
  have fX:=(cJ2 @b1 @b2)
  refine qag fn52 (by simp) ?_
  unfold i52
  simp only[argL,encV,qaz]
  refine wR0 0 [3,4,5] fX ?_
  refine wR0 100 [3,4,5,16] fX ?_
  refine wR0 200 [3,4,5,16,17] fX ?_
  refine wF fX ?_
  refine wR0 400 [3,4,5,16,24] fX ?_
  refine wT fX ?_
  refine wR0 500 [6] fX ?_
  refine wP ?_
  exact .same rfl
theorem qoK (k s na nb:Int)(rs:List Int)(ps:List Ty)(xs ys:List V)(hl:ps.length≤1000000)(ha:xs.length=ps.length)(hb:ys.length=ps.length)
 (hc:∀i,i<ps.length→tyK (ps.getD i tyD1)=1∨tyK (ps.getD i tyD1)=2) (Q:IExit→(Nat→T)→Heap→Prop):∀(g i:Nat),i+g=ps.length→
 ((∀j,i≤j→j<ps.length→qfK (ps.getD j tyD1) (xs.getD j v0) (ys.getD j v0)=true)→∀j:Int,Q (.exit 1) (ofL [(3,.ref 0 4 0),(4,.ref 1 2 0),(5,.ref 2 2 0),(7,.int .i64 j),(53,.bool false)]) (hpL [(0,.live ⟨45,[.int .i64 k,.int .i64 s,.list (qad rs),.list (qam ps)]⟩),(1,.live ⟨35,[.int .i64 na,.list (qaj xs)]⟩),(2,.live ⟨35,[.int .i64 nb,.list (qaj ys)]⟩)]))→
 ((∃j,i≤j∧j<ps.length∧qfK (ps.getD j tyD1) (xs.getD j v0) (ys.getD j v0)=false)→Q .ret (ofL [(6,.bool false)]) (hpL [(0,.live ⟨45,[.int .i64 k,.int .i64 s,.list (qad rs),.list (qam ps)]⟩),(1,.live ⟨35,[.int .i64 na,.list (qaj xs)]⟩),(2,.live ⟨35,[.int .i64 nb,.list (qaj ys)]⟩)]))→
 WL Tryz.prog 166 qkB (ofL [(3,.ref 0 4 0),(4,.ref 1 2 0),(5,.ref 2 2 0),(7,.int .i64 i)]) (hpL [(0,.live ⟨45,[.int .i64 k,.int .i64 s,.list (qad rs),.list (qam ps)]⟩),(1,.live ⟨35,[.int .i64 na,.list (qaj xs)]⟩),(2,.live ⟨35,[.int .i64 nb,.list (qaj ys)]⟩)]) Q:=by
 have hpl:(qam ps).length=ps.length:=qap ps
 have hal:(qaj xs).length=ps.length:=by rw[qal];exact ha
 have hbl:(qaj ys).length=ps.length:=by rw[qal];exact hb
 intro g
 induction g with
 | zero=>
  intro i hi hQ1 hQ2
  have hd:decide ((i:Int)<(ps.length:Int))=false:=decide_eq_false (by omega)
  have fX:=(cJ2 @hpl @hd)
  refine qaa qkB.eq_1 ?_
  refine wR0 1200 [3,4,5,7,53] fX ?_
  refine wF fX ?_
  refine wX ?_
  refine wN ?_
  exact hQ1 (fun j h1 h2=>by omega) _
 | succ g ih=>
  intro i hi hQ1 hQ2
  have hd:decide ((i:Int)<(ps.length:Int))=true:=decide_eq_true (by omega)
  have hw:IntKind.wrap .i64 ((i:Int)+1)=((i+1:Nat):Int):=by rw[wrap64 (by omega) (by omega)];rfl
  have hib:(i:Int)<(ps.length:Int):=by omega
  have hcall:=qud (ps.getD i tyD1) (xs.getD i v0) (ys.getD i v0) (hc i (by omega))
  have g1:=qnP ps i (by omega)
  have g2:=qem xs i (by omega)
  have g3:=qem ys i (by omega)
  obtain⟨r,hr⟩:∃r,qfK (ps.getD i tyD1) (xs.getD i v0) (ys.getD i v0)=r:=⟨_,rfl⟩
  rw[hr] at hcall
  clear hc
  rcases hp:ps.getD i tyD1 with⟨pk,p2,p3,p4⟩
  rcases hx:xs.getD i v0 with⟨x1,x2⟩
  rcases hy:ys.getD i v0 with⟨y1,y2⟩
  rw[hp,hx,hy] at hcall
  rw[hp] at g1
  rw[hx] at g2
  rw[hy] at g3
  simp only[qaz,encV] at g1 g2 g3 hcall
  rcases r with _ | _
  ·have hQ:=hQ2 ⟨i,Nat.le_refl _,by omega,hr⟩
   have fX:=(cJ7 @hpl @hal @hbl @hd @g1 @g2 @g3)
   refine qaa qkB.eq_1 ?_
   refine wR0 1200 [3,4,5,7,53] fX ?_
   refine wT fX ?_
   refine wRn 1300 [3,4,5,7,72] fX ?_
   refine rC fX ?_
   refine⟨_,hcall,rE fX ?_⟩
   refine wT fX ?_
   refine wR0 1400 [6] fX ?_
   refine wE ?_
   refine wN ?_
   exact hQ
  ·have hQ:=ih (i+1) (by omega) (fun h=>hQ1 fun j h1 h2=>by
    by_cases e:j=i
    ·rw[e];exact hr
    ·exact h j (by omega) h2) (fun ⟨j,h1,h2,h3⟩=>hQ2 ⟨j,by omega,h2,h3⟩)
   have fX:=(cJ8 @hpl @hal @hbl @hd @g1 @g2 @g3 @hw)
   refine qaa qkB.eq_1 ?_
   refine wR0 1200 [3,4,5,7,53] fX ?_
   refine wT fX ?_
   refine wRn 1300 [3,4,5,7,72] fX ?_
   refine rC fX ?_
   refine⟨_,hcall,rE fX ?_⟩
   refine wF fX ?_
   refine wR0 1500 [3,4,5,7] fX ?_
   refine wN ?_
   exact hQ
theorem qoL (s na nb:Int)(rs:List Int)(ps:List Ty)(xs ys:List V)(hl:ps.length≤1000000)(ha:xs.length=ps.length)(hb:ys.length=ps.length)
 (hc:∀i,i<ps.length→tyK (ps.getD i tyD1)=1∨tyK (ps.getD i tyD1)=2) (r:Bool) (hr:r=true↔∀j,j<ps.length→qfK (ps.getD j tyD1) (xs.getD j v0) (ys.getD j v0)=true) :
 TP Tryz.prog 52 [qaz (.mk 3 s rs ps),encV (.mk na xs),encV (.mk nb ys)] (.bool r):=by
 have b1:((3:Int)==1)=false:=rfl
 have b2:((3:Int)==2)=false:=rfl
 have b6:((3:Int)==6)=false:=rfl
 have b7:((3:Int)==7)=false:=rfl
 have b3:((3:Int)==3)=true:=rfl
 have fX:=(cJ5 @b1 @b2 @b6 @b7 @b3)
 refine qag fn52 (by simp) ?_
 unfold i52
 simp only[argL,encV,qaz]
 refine wR0 0 [3,4,5] fX ?_
 refine wR0 100 [3,4,5,16] fX ?_
 refine wR0 200 [3,4,5,16,17] fX ?_
 refine wF fX ?_
 refine wR0 400 [3,4,5,16,24] fX ?_
 refine wF fX ?_
 refine wR0 600 [3,4,5,16,31] fX ?_
 refine wF fX ?_
 refine wR0 800 [3,4,5,16,38] fX ?_
 refine wF fX ?_
 refine wR0 1000 [3,4,5,16,47] fX ?_
 refine wT fX ?_
 refine wR0 1100 [3,4,5,7] fX ?_
 refine wL ?_
 refine qoK 3 s na nb rs ps xs ys hl ha hb hc _ ps.length 0 (by omega) ?_ ?_
 ·intro hq i
  refine wN ?_
  (have er:r=true:=hr.2 fun j hj=>hq j (Nat.zero_le _) hj)
  subst er
  refine wR0 1600 [6] fX ?_
  refine wP ?_
  exact .same rfl
 ·intro hq
  refine wN ?_
  (have er:r=false:=(by rcases r with _ | _;rfl;(obtain⟨j,_,h1,h2⟩:=hq;exact absurd ((hr.1 rfl j h1).symm.trans h2) (by simp))));subst er;exact⟨by simp,_,rfl,.same rfl⟩
def leCf (w:Int)(u:List Int)(v:Int)(c:List Int):Bool:=(w==v)&&(List.range' 0 u.length).all fun i=>decide (u.getD i 0≤c.getD i 0)
theorem qsa {m:Md}(hk:m.kind=1){w v:Int}{u c:List Int}(hu:u.length=m.places.length)(hc:c.length=m.places.length) :
 leCf w u v c=true↔∀j,j<(qaU m.states.length::List.replicate m.places.length (.mk 1 0 [] [])).length→qfK ((qaU m.states.length::List.replicate m.places.length (.mk 1 0 [] [])).getD j tyD1) ((natV w::u.map natV).getD j v0) ((natV v::c.map natV).getD j v0)=true:=by
 have hg:∀(l:List Int) (j:Nat),j<l.length→((l.map natV).getD j v0).n=l.getD j 0:=fun l j hj=>by
  simp[List.getD_eq_getElem?_getD,List.getElem?_eq_getElem hj,natV,V.n]
 simp only[leCf,Bool.and_eq_true,beq_iff_eq,List.all_eq_true,List.mem_range'_1,decide_eq_true_eq]
 constructor
 ·rintro ⟨rfl,h⟩ j hj
  cases j with
  | zero=>simp[qfK,tyK,qaU,natV,V.n]
  | succ j=>
   simp only[List.length_cons,List.length_replicate] at hj
   have e:((List.replicate m.places.length (Ty.mk 1 0 [] [])).getD j tyD1)=.mk 1 0 [] []:=by simp[List.getD_eq_getElem?_getD,show j<m.places.length by omega]
   show qfK ((List.replicate m.places.length (Ty.mk 1 0 [] [])).getD j tyD1) ((u.map natV).getD j v0) ((c.map natV).getD j v0)=true
   rw[e,qfK,if_pos (show tyK (Ty.mk 1 0 [] [])=1 from rfl),hg u j (by omega),hg c j (by omega)]
   exact decide_eq_true (h j ⟨Nat.zero_le _,by omega⟩)
 ·intro h
  refine⟨?_,fun j hj=>?_⟩
  ·have:=h 0 (by simp)
   simpa [qfK,tyK,qaU,natV,V.n] using this
  ·have:=h (j+1) (by simp only[List.length_cons,List.length_replicate];omega)
   have e:((List.replicate m.places.length (Ty.mk 1 0 [] [])).getD j tyD1)=.mk 1 0 [] []:=by simp[List.getD_eq_getElem?_getD,show j<m.places.length by omega]
   change qfK ((List.replicate m.places.length (Ty.mk 1 0 [] [])).getD j tyD1) ((u.map natV).getD j v0) ((c.map natV).getD j v0)=true at this
   rw[e,qfK,if_pos (show tyK (Ty.mk 1 0 [] [])=1 from rfl),hg u j (by omega),hg c j (by omega)] at this
   exact of_decide_eq_true this
theorem leq_cf (m:Md)(hm:m.fit)(hk:m.kind=1)(w v:Int)(u c:List Int)(hu:u.length=m.places.length)(hc:c.length=m.places.length)(hpl:m.places.length≤100000)
 (h1:qdt (qa9 m) (cfV w u)=true) (h2:qdt (qa9 m) (cfV v c)=true) (hf1:(cfV w u).fit) (hf2:(cfV v c).fit) :
 TP Tryz.prog 17 [qaz (qa9 m),encV (cfV w u),encV (cfV v c)] (.bool (leCf w u v c)):=by
 have t1:=qf5 (qa9 m) _ (typedM_fit' hm) hf1
 have t2:=qf5 (qa9 m) _ (typedM_fit' hm) hf2
 rw[h1] at t1
 rw[h2] at t2
 rw[qf4 hk] at t1 t2 ⊢
 have t3:=qoL 0 0 0 [] (qaU m.states.length::List.replicate m.places.length (.mk 1 0 [] [])) (natV w::u.map natV) (natV v::c.map natV) (by simp;omega) (by simp[hu]) (by simp[hc]) (fun i hi=>by
  cases i with
  | zero=>exact .inr rfl
  | succ i=>
   left
   simp only[List.length_cons,List.length_replicate] at hi
   show tyK ((List.replicate m.places.length (Ty.mk 1 0 [] [])).getD i tyD1)=1
   simp[List.getD_eq_getElem?_getD,show i<m.places.length by omega,tyK]) _ (qsa hk hu hc)
 generalize (qaU m.states.length::List.replicate m.places.length (Ty.mk 1 0 [] []))=ps at*
 generalize leCf w u v c=r at*
 simp only[cfV,encV,qaz] at t1 t2 t3 ⊢
 generalize hAe:qaj (natV w::u.map natV)=A at*
 generalize hBe:qaj (natV v::c.map natV)=B at*
 have hA:∀D,clL D A=true:=fun D=>by rw[←hAe];exact qak D _
 have hB:∀D,clL D B=true:=fun D=>by rw[←hBe];exact qak D _
 clear hAe hBe
 have fX:=(cJ2 @hA @hB)
 refine qag fn17 (by simp) ?_
 unfold i17
 simp only[argL]
 refine wR0 0 [3,4,5] fX ?_
 refine wRn 100 [6] fX ?_
 refine rC fX ?_
 refine⟨_,t1,rN fX ?_⟩
 refine rC fX ?_
 refine⟨_,t2,rN fX ?_⟩
 refine rC fX ?_
 refine⟨_,t3,rE fX ?_⟩
 refine wP ?_
 exact .same rfl
end
section
open Go.RowKit
set_option maxHeartbeats 2000000
attribute [local simp] qau qav qaD qaJ qa1 qah qaI
abbrev rfE (c:List Int)(ps:List T)(i:Int):List (Nat×T):=[(1,.list (qad c)),(2,.ref 0 2 0),(5,.list ps),(6,.int .i64 i)]
abbrev rfH (p:Pg):List (Nat×Slot):=[(0,.live ⟨28,pgC p⟩)]
def qlt (p:Pg)(c:List Int)(i f:Nat):Bool:=(List.range' i f).any fun j=>decide (c.getD j 0 > 0)&&isF p j
theorem qnR (p:Pg)(c:List Int)(i f:Nat):qlt p c i (f+1)=((decide (c.getD i 0 > 0)&&isF p i) || qlt p c (i+1) f):=by
 simp[qlt,List.range'_succ]
set_option maxHeartbeats 4000000 in
theorem qqq (p:Pg)(hp:p.fit)(hok:okP p=true)(c:List Int)(hcl:c.length=(plcs p).length)(Q:IExit→(Nat→T)→Heap→Prop) :
 ∀(f i:Nat),i+f=(plcs p).length→
 (qlt p c i f=false→∀j:Int,Q (.exit 0) (ofL (rfE c (qbe (plP p)) j++[(17,.bool false)])) (hpL (rfH p)))→
 (qlt p c i f=true→Q .ret (ofL [(4,.bool true)]) (hpL (rfH p)))→
 WL Tryz.prog 46 qiH (ofL (rfE c (qbe (plP p)) i)) (hpL (rfH p)) Q:=by
 have ho:=qbq hok
 have hpl:=qbV hok
 have h6:(plcs p).length≤6:=by rw[qbh];exact ho.six
 have hpn:(qbe (plP p)).length=(plcs p).length:=by rw[qa0,hpl]
 have z0:(0:Int).toNat=0:=rfl
 have z1:(1:Int).toNat=1:=rfl
 simp only[rfE,rfH,List.cons_append,List.nil_append]
 intro f
 induction f with
 | zero=>
  intro i hi hQ1 hQ2
  have hd:decide ((i:Int)<((plcs p).length:Int))=false:=decide_eq_false (by omega)
  have hQ:=hQ1 rfl
  have fX:=(cJ2 @hpn @hd)
  refine qaa qiH.eq_1 ?_
  refine wR0 500 [1,2,5,6,17] fX ?_
  refine wF @hd ?_
  refine wX ?_
  refine wN ?_
  exact hQ _
 | succ f ih=>
  intro i hi hQ1 hQ2
  have hil:i<(plcs p).length:=by omega
  have hlt:(i:Int)<((plcs p).length:Int):=by omega
  have hlt2:(i:Int)<((qad c).length:Int):=by rw[qae];omega
  have hd:decide ((i:Int)<((plcs p).length:Int))=true:=decide_eq_true hlt
  have hw:IntKind.wrap .i64 ((i:Int)+1)=((i+1:Nat):Int):=by rw[wrap64 (by omega) (by omega)];rfl
  have hg:=qjZ hok i hil
  have hcg:=qcu c i (by omega)
  have hpi:=qcJ hil
  have hH:=qeo hp hpi
  have hg1:=hH.g1
  have hg2:=hH.g2
  have hlt3:=hH.h1
  have hlt4:=hH.h2
  clear hH hpi
  rw[qnR] at hQ1 hQ2
  have hisF:isF p i=((((p.ths.getD ((plcs p).getD i (0,0)).1 default).lines.getD ((plcs p).getD i (0,0)).2 default).k)==7):=rfl
  have ih':=ih (i+1) (by omega)
  rw[hisF] at hQ1 hQ2
  generalize ((plcs p).getD i (0,0)).1=pi at*
  generalize ((plcs p).getD i (0,0)).2=pk at*
  generalize p.ths.getD pi default=t at*
  generalize t.lines.getD pk default=ll at*
  obtain⟨kk,a,nm⟩:=ll
  simp only[encP,pgC,thC,lnC] at hg hg1 hg2 hQ1 hQ2 ih' ⊢
  by_cases hc:c.getD i 0 > 0
  ·have hcd:decide (c.getD i 0 > 0)=true:=decide_eq_true hc
   by_cases h7:kk=7
   ·have hk7:(kk==7)=true:=by simpa using h7
    have hQ:=hQ2 (by rw[hcd,hk7];rfl)
    have fX:=(cJ8 @hpn @hd @hw @hg @hcg @hg1 @hg2 (cJ4 @z0 @z1 @hcd @hk7))
    refine qaa qiH.eq_1 ?_
    refine wR0 500 [1,2,5,6,17] fX ?_
    refine wT @hd ?_
    refine wR0 600 [1,2,5,6,45] fX ?_
    refine wT fX ?_
    refine wR0 700 [4] fX ?_
    refine wE ?_
    refine wN ?_
    exact hQ
   ·have hk7:(kk==7)=false:=by simpa using h7
    rw[hcd,hk7] at hQ1 hQ2
    have hQ':=ih' (fun h=>hQ1 (by simpa using h)) (fun h=>hQ2 (by simpa using h))
    have fX:=(cJ8 @hpn @hd @hw @hg @hcg @hg1 @hg2 (cJ4 @z0 @z1 @hcd @hk7))
    refine qaa qiH.eq_1 ?_
    refine wR0 500 [1,2,5,6,17] fX ?_
    refine wT @hd ?_
    refine wR0 600 [1,2,5,6,45] fX ?_
    refine wF fX ?_
    refine wR0 800 [1,2,5,6] fX ?_
    refine wN ?_
    exact hQ'
  ·have hcd:decide (c.getD i 0 > 0)=false:=decide_eq_false hc
   rw[hcd] at hQ1 hQ2
   have hQ':=ih' (fun h=>hQ1 (by simpa using h)) (fun h=>hQ2 (by simpa using h))
   have hk7:True:=trivial
   have fX:=(cJ8 @hpn @hd @hw @hg @hcg @hg1 @hg2 (cJ4 @z0 @z1 @hcd @hk7))
   refine qaa qiH.eq_1 ?_
   refine wR0 500 [1,2,5,6,17] fX ?_
   refine wT @hd ?_
   refine wR0 600 [1,2,5,6,45] fX ?_
   refine wF fX ?_
   refine wR0 800 [1,2,5,6] fX ?_
   refine wN ?_
   exact hQ'
set_option maxHeartbeats 4000000 in
theorem qqr (p:Pg)(hp:p.fit)(hok:okP p=true)(c:List Int)(hcl:c.length=(plcs p).length):TP Tryz.prog 19 [qar p,.list (qad c)] (.bool (qnS p c)):=by
 have hpp:=qcF p hp hok
 have hpn:(qbe (plP p)).length=(plcs p).length:=by rw[qa0,qbV hok]
 have hci:(qad c).length=(plcs p).length:=by rw[qae,hcl]
 have hne:((((plcs p).length:Nat):Int) != (((plcs p).length:Nat):Int))=false:=by simp
 have hL:=fun Q=>qqq p hp hok c hcl Q (plcs p).length 0 (by omega)
 have hf:qnS p c=qlt p c 0 (plcs p).length:=by
  rw[qnS,hok,hcl];simp only[beq_self_eq_true,Bool.true_and];rfl
 rw[hf]
 generalize qlt p c 0 (plcs p).length=r at*
 simp only[qar,pgC,rfE,rfH,List.cons_append,List.nil_append,Int.natCast_zero] at hpp hL ⊢
 have fX:=(cJ3 @hpn @hci @hne)
 refine qag fn19 (by simp) ?_
 unfold i19
 simp only[argL]
 refine wR0 0 [1,2] fX ?_
 refine wRn 100 [1,2,5] fX ?_
 refine rC fX ?_
 refine⟨_,hpp,rE fX ?_⟩
 refine wR0 200 [1,2,5,13] fX ?_
 refine wF @hne ?_
 refine wR0 400 [1,2,5,6] fX ?_
 refine wL ?_
 refine hL _ ?_ ?_
 ·intro hq j
  refine wN ?_
  subst hq
  refine wR0 900 [4] fX ?_
  refine wP ?_
  exact .same rfl
 ·intro hq
  refine wN ?_
  subst hq;exact⟨by simp,_,rfl,.same rfl⟩
end
section
open Go.RowKit
set_option maxHeartbeats 2000000
attribute [local simp] qau qav qaD qaJ qa1 qah qaT qaO qak qax qc9 qdC
abbrev tyC (k s:Int)(rs:List Int)(ps:List Ty):List T:=[.int .i64 k,.int .i64 s,.list (qad rs),.list (qam ps)]
abbrev fkE (L:List V)(n:Nat)(v i:Int)(done:List Int):List (Nat×T):=[(3,dcR),(4,.ref 402 2 0),(7,.list (qaj L)),(8,.int .i64 0),(9,.ref 905 4 0),(11,.int .i64 v),(12,qef 1404 done),(54,.int .i64 (n:Int)),(55,.int .i64 i)]
abbrev fkH (p:Pg)(m:Md)(tk ts:Int)(rs:List Int)(ps:List Ty)(d:Dc)(done:List Int):List (Nat×Slot):=[(99999,dcB d),(402,.live ⟨28,pgC p⟩),(505,.live ⟨37,mdC m⟩),(905,.live ⟨45,tyC tk ts rs ps⟩)]++qee 1404 3 done
set_option maxHeartbeats 4000000 in
theorem qsX (p:Pg)(m:Md)(tk ts:Int)(rs:List Int)(ps:List Ty)(L:List V)(v:Int)(n:Nat)(hn:n≤100000)(R:List Int×Dc)(Q:IExit→(Nat→T)→Heap→Prop)
 (hQ:∀j:Int,Q (.exit 0) (ofL (fkE L n v j R.1++[(56,.bool false)])) (hpL (fkH p m tk ts rs ps R.2 R.1))) :
 ∀(f i:Nat) (done:List Int) (d:Dc),d.ok→i+f=n→done.length=i→(done++(qb3 f 1 d).1,(qb3 f 1 d).2)=R→
 WL Tryz.prog 110 qpm (ofL (fkE L n v i done)) (hpL (fkH p m tk ts rs ps d done)) Q:=by
 simp only[fkE,fkH,List.cons_append,List.nil_append] at hQ ⊢
 intro f
 induction f with
 | zero=>
  intro i done d hok hi hdn hR
  have hd:decide ((i:Int)<(n:Int))=false:=decide_eq_false (by omega)
  simp only[qb3,List.append_nil] at hR
  subst hR
  have fX:=@hd
  refine qaa qpm.eq_1 ?_
  refine wR0 1300 [3,4,7,8,9,11,12,54,55,56] fX ?_
  refine wF @hd ?_
  refine wX ?_
  refine wN ?_
  exact hQ _
 | succ f ih=>
  intro i done d hok hi hdn hR
  have hd:decide ((i:Int)<(n:Int))=true:=decide_eq_true (by omega)
  have hw:IntKind.wrap .i64 ((i:Int)+1)=((i+1:Nat):Int):=by rw[wrap64 (by omega) (by omega)];rfl
  have hpk:=qbN d hok 2 (by omega)
  have h89:(1:Int)+1=2:=rfl
  have hQ':=ih (i+1) (done++[(qao d 2).1]) (qao d 2).2 (qaL hok _) (by omega) (by simp[hdn]) (by rw[←hR];simp[qb3])
  simp only[pgC,mdC] at hQ' ⊢
  cases done with
  | nil=>
   simp only[qef,qee,List.nil_append,List.length_nil] at hQ' ⊢
   have fX:=(cJ3 @hd @hw @qaF)
   refine qaa qpm.eq_1 ?_
   refine W_gc ?_
   refine wR0 1300 [3,4,7,8,9,11,12,54,55,56] fX ?_
   refine wT @hd ?_
   refine wRn 1400 [3,4,7,8,9,11,12,54,55] fX ?_
   refine rU [(99999,dcB d)] [(99999,dcB (qao d 2).2)] fX ?_
   refine⟨_,hpk.fulD,rE fX ?_⟩
   refine wR0 1500 [3,4,7,8,9,11,12,54,55] fX ?_
   refine wN ?_
   refine qay [99999,402,505,905,1404] (by simp[inL]) (by simp[inL,T.cl]) (by simp[qaf,inL,Slot.cl,T.cl,clL]) ?_
   simpa [qaf,inL,qad] using hQ'
  | cons z zs=>
   have hlb:zs.length+1≤100000:=by simp at hdn;omega
   have he:(qad (z::zs)).length=zs.length+1:=by simp[qad]
   simp only[qef,qee,List.cons_append] at hQ' ⊢
   have fX:=(cJ4 @hd @hw @qaF @he)
   refine qaa qpm.eq_1 ?_
   refine W_gc ?_
   refine wR0 1300 [3,4,7,8,9,11,12,54,55,56] fX ?_
   refine wT @hd ?_
   refine wRn 1400 [3,4,7,8,9,11,12,54,55] fX ?_
   refine rU [(99999,dcB d)] [(99999,dcB (qao d 2).2)] fX ?_
   refine⟨_,hpk.fulD,rE fX ?_⟩
   refine wR0 1500 [3,4,7,8,9,11,12,54,55] fX ?_
   refine wN ?_
   refine qay [99999,402,505,905,1404] (by simp[inL]) (by simp[inL,T.cl]) (by simp[qaf,inL,Slot.cl,T.cl,clL,qab]) ?_
   simpa [qaf,inL,qad] using hQ'
abbrev flE (L:List V)(c:List Int)(acc:Bool)(i:Int):List (Nat×T):=[(4,.ref 402 2 0),(7,.list (qaj L)),(8,.int .i64 0),(9,.ref 905 4 0),(12,.list (qad c)),(13,.ref 1607 2 0),(14,.int .i64 0),(15,.bool acc),(70,.list (qaj L)),(71,.int .i64 (qaj L).length),(72,.int .i64 i)]
abbrev flH (p:Pg)(tk ts:Int)(rs:List Int)(ps:List Ty)(yn:Int)(ys:List V):List (Nat×Slot):=[(99999,.dead),(402,.live ⟨28,pgC p⟩),(505,.dead),(905,.live ⟨45,tyC tk ts rs ps⟩),(1404,.dead),(1607,.live ⟨35,[.int .i64 yn,.list (qaj ys)]⟩)]
set_option maxHeartbeats 8000000 in
theorem qsY (p:Pg)(tk ts:Int)(rs:List Int)(ps:List Ty)(L:List V)(hL:L.length≤1000000)(c:List Int)(yn:Int)(ys:List V)(P:Nat→Bool)
 (hleq:∀i,i<L.length→TP Tryz.prog 17 [qaz (.mk tk ts rs ps),encV (L.getD i v0),encV (.mk yn ys)] (.bool (P i)))
 (hcmp:∀i,i+1<L.length→∃k:Int,k<0∧TP Tryz.prog 18 [encV (L.getD i v0),encV (L.getD (i+1) v0)] (.int .i64 k))
 (r:Bool) (Q:IExit→(Nat→T)→Heap→Prop) (hQ:∀j:Int,Q (.exit 2) (ofL (flE L c r j++[(73,.bool false)])) (hpL (flH p tk ts rs ps yn ys))) :
 ∀(f i:Nat) (acc:Bool),i+f=L.length→(acc || (List.range' i f).any P)=r→
 WL Tryz.prog 110 qlw (ofL (flE L c acc i)) (hpL (flH p tk ts rs ps yn ys)) Q:=by
 have hpl:(qaj L).length=L.length:=qal L
 simp only[flE,flH,tyC,pgC,List.cons_append,List.nil_append] at hQ ⊢
 intro f
 induction f with
 | zero=>
  intro i acc hi hr
  have hd:decide ((i:Int)<((qaj L).length:Int))=false:=decide_eq_false (by omega)
  simp only[List.range'_zero,List.any_nil,Bool.or_false] at hr
  subst hr
  have fX:=@hd
  refine qaa qlw.eq_1 ?_
  refine wR0 1900 [4,7,8,9,12,13,14,15,70,71,72,73] fX ?_
  refine wF @hd ?_
  refine wX ?_
  refine wN ?_
  exact hQ _
 | succ f ih=>
  intro i acc hi hr
  have hd:decide ((i:Int)<((qaj L).length:Int))=true:=decide_eq_true (by omega)
  have hlt:(i:Int)<((qaj L).length:Int):=by omega
  have hw:IntKind.wrap .i64 ((i:Int)+1)=((i+1:Nat):Int):=by rw[wrap64 (by omega) (by omega)];rfl
  have hg:=qem L i (by omega)
  have hlq:=hleq i (by omega)
  rw[List.range'_succ,List.any_cons,←Bool.or_assoc] at hr
  have hQ':=ih (i+1) (acc || P i) (by omega) hr
  rcases hx:L.getD i v0 with⟨x1,x2⟩
  rw[hx] at hg hlq
  simp only[encV,qaz] at hg hlq
  generalize P i=b at*
  clear ih hr hleq
  rcases acc with _ | _
  ·rw[Bool.false_or] at hQ'
   cases i with
   | zero=>
    have hi0:decide (((0:Nat):Int) > 0)=false:=rfl
    simp only[Int.natCast_zero] at*
    have fX:=(cJ5 @hd @hw @hg @hpl @hi0)
    refine qaa qlw.eq_1 ?_
    refine W_gc ?_
    refine wR0 1900 [4,7,8,9,12,13,14,15,70,71,72,73] fX ?_
    refine wT @hd ?_
    refine wR0 2000 [4,7,8,9,12,13,14,15,16,17,70,71,72] fX ?_
    refine wRn 2100 [4,7,8,9,12,13,14,15,16,17,70,71,72] fX ?_
    refine rC fX ?_
    refine⟨_,hlq,rE fX ?_⟩
    refine wR0 2200 [4,7,8,9,12,13,14,15,70,71,72,95] fX ?_
    refine wF fX ?_
    refine wR0 2400 [4,7,8,9,12,13,14,15,70,71,72] fX ?_
    refine wN ?_
    refine qay [99999,402,505,905,1404,1607] (by simp[inL]) (by simp[inL,T.cl]) (by simp[qaf,inL,Slot.cl,T.cl,clL]) ?_
    simpa [qaf,inL,hpl] using hQ'
   | succ i=>
    have hi0:decide (((i+1:Nat):Int) > 0)=true:=decide_eq_true (by omega)
    obtain⟨k,hk,hcm⟩:=hcmp i (by omega)
    have hw1:IntKind.wrap .i64 (((i+1:Nat):Int) - 1)=(i:Int):=by rw[wrap64 (by omega) (by omega)];omega
    have hg2:=qem L i (by omega)
    have hlt2:(i:Int)<((qaj L).length:Int):=by rw[qal];omega
    have hkg:decide (k≥0)=false:=decide_eq_false (by omega)
    rw[hx] at hcm
    rcases hy:L.getD i v0 with⟨y1,y2⟩
    rw[hy] at hcm hg2
    simp only[encV] at hcm hg2
    have fX:=(cJ8 @hd @hw @hg @hpl @hi0 @hw1 @hg2 @hkg)
    refine qaa qlw.eq_1 ?_
    refine W_gc ?_
    refine wR0 1900 [4,7,8,9,12,13,14,15,70,71,72,73] fX ?_
    refine wT @hd ?_
    refine wR0 2000 [4,7,8,9,12,13,14,15,16,17,70,71,72] fX ?_
    refine wRn 2100 [4,7,8,9,12,13,14,15,16,17,70,71,72] fX ?_
    refine rC fX ?_
    refine⟨_,hlq,rE fX ?_⟩
    refine wRn 2200 [4,7,8,9,12,13,14,15,70,71,72,95] fX ?_
    refine rC fX ?_
    refine⟨_,hcm,rE fX ?_⟩
    refine wF fX ?_
    refine wR0 2400 [4,7,8,9,12,13,14,15,70,71,72] fX ?_
    refine wN ?_
    refine qay [99999,402,505,905,1404,1607] (by simp[inL]) (by simp[inL,T.cl]) (by simp[qaf,inL,Slot.cl,T.cl,clL]) ?_
    simpa [qaf,inL,hpl] using hQ'
  ·rw[Bool.true_or] at hQ'
   cases i with
   | zero=>
    have hi0:decide (((0:Nat):Int) > 0)=false:=rfl
    simp only[Int.natCast_zero] at*
    have fX:=(cJ5 @hd @hw @hg @hpl @hi0)
    refine qaa qlw.eq_1 ?_
    refine W_gc ?_
    refine wR0 1900 [4,7,8,9,12,13,14,15,70,71,72,73] fX ?_
    refine wT @hd ?_
    refine wR0 2000 [4,7,8,9,12,13,14,15,16,17,70,71,72] fX ?_
    refine wR0 2100 [4,7,8,9,12,13,14,15,16,17,70,71,72] fX ?_
    refine wR0 2200 [4,7,8,9,12,13,14,15,70,71,72,95] fX ?_
    refine wF fX ?_
    refine wR0 2400 [4,7,8,9,12,13,14,15,70,71,72] fX ?_
    refine wN ?_
    refine qay [99999,402,505,905,1404,1607] (by simp[inL]) (by simp[inL,T.cl]) (by simp[qaf,inL,Slot.cl,T.cl,clL]) ?_
    simpa [qaf,inL,hpl] using hQ'
   | succ i=>
    have hi0:decide (((i+1:Nat):Int) > 0)=true:=decide_eq_true (by omega)
    obtain⟨k,hk,hcm⟩:=hcmp i (by omega)
    have hw1:IntKind.wrap .i64 (((i+1:Nat):Int) - 1)=(i:Int):=by rw[wrap64 (by omega) (by omega)];omega
    have hg2:=qem L i (by omega)
    have hlt2:(i:Int)<((qaj L).length:Int):=by rw[qal];omega
    have hkg:decide (k≥0)=false:=decide_eq_false (by omega)
    rw[hx] at hcm
    rcases hy:L.getD i v0 with⟨y1,y2⟩
    rw[hy] at hcm hg2
    simp only[encV] at hcm hg2
    have fX:=(cJ8 @hd @hw @hg @hpl @hi0 @hw1 @hg2 @hkg)
    refine qaa qlw.eq_1 ?_
    refine W_gc ?_
    refine wR0 1900 [4,7,8,9,12,13,14,15,70,71,72,73] fX ?_
    refine wT @hd ?_
    refine wR0 2000 [4,7,8,9,12,13,14,15,16,17,70,71,72] fX ?_
    refine wR0 2100 [4,7,8,9,12,13,14,15,16,17,70,71,72] fX ?_
    refine wRn 2200 [4,7,8,9,12,13,14,15,70,71,72,95] fX ?_
    refine rC fX ?_
    refine⟨_,hcm,rE fX ?_⟩
    refine wF fX ?_
    refine wR0 2400 [4,7,8,9,12,13,14,15,70,71,72] fX ?_
    refine wN ?_
    refine qay [99999,402,505,905,1404,1607] (by simp[inL]) (by simp[inL,T.cl]) (by simp[qaf,inL,Slot.cl,T.cl,clL]) ?_
    simpa [qaf,inL,hpl] using hQ'
end
end Go.Proofs.YtkbjpglehdhjfaaGreatDoor
