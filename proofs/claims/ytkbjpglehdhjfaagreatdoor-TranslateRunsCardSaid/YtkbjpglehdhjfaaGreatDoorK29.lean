/- Contracts of functions of the program, for all arguments that they name. -/
import Derived.Test.YtkbjpglehdhjfaaGreatDoorK24
import Derived.Test.YtkbjpglehdhjfaaGreatDoorK28
namespace Go.Proofs.YtkbjpglehdhjfaaGreatDoor
set_option linter.unusedVariables false
section
open Go.RowKit
set_option maxHeartbeats 2000000
attribute [local simp] qau qav qaD qaJ qa1 qbo qaB qah qa5 qaI
structure Wr (n:Nat) (c c':List Int) (j:Nat) (x:Int):Prop where
 lt:(j:Int)<(n:Int)
 j1:(j:Int).toNat*1=j
 el:(qad c).length=n
 sr:List.take 1 (List.drop j (qad c))=[.int .i64 (c.getD j 0)]
 w:IntKind.wrap .i64 x=x
 sw:List.take j (qad c)++[.int .i64 x]++List.drop (j+1) (qad c)=qad c'
theorem quX {n:Nat}{c:List Int}{j:Nat}(hc:c.length=n)(hj:j<n){b x:Int}(hb:-10≤b∧b≤10)(hx:x=c.getD j 0+b)(hr:∀j,-1000000000≤c.getD j 0∧c.getD j 0≤1000000000):Wr n c (bump c j b) j x:=by
 subst hx
 have:=hr j
 exact⟨by omega,by simp,by rw[qae,hc],qql c j (by omega),wrap64 (by omega) (by omega),qi0 c _ j (by omega)⟩
set_option maxHeartbeats 16000000 in
theorem qtB (p:Pg)(hp:p.fit)(v:Int)(c:List Int)(hr:rgtP p v c=0)(e:Ev)(he:e∈qaY p v c)(hlim:∀j,(doC p c e).getD j 0≤1048576):TP Tryz.prog 23 [qar p,.int .i64 v,.list (qad c),.agg (evC e)] (doT (e.val,doC p c e,0)):=by
 obtain⟨hok,hv,hfin,hcl0⟩:=qnd hr
 have ho:=qbq hok
 obtain⟨i,k,hpl,hev⟩:=qlg ho he
 have h6:(plcs p).length≤6:=by rw[qbh];exact ho.six
 have hst:=qh1 p hp hok v c (by omega)
 rw[qec,qeb,if_pos hr] at hst
 have hin:(false || ((qaY p v c).drop 0).any fun x=>evB x e)=true:=by
  rw[Bool.false_or,List.drop_zero]
  exact List.any_eq_true.2 ⟨e,he,(qfh _ _).2 rfl⟩
 have hsl:=qf2 ho v c
 have hL0:=fun Q hq=>rdo_l0 p e c (qaY p v c) (by omega) true Q hq (qaY p v c).length 0 false (by omega) hin
 generalize qaY p v c=L at*
 have hrg:=qpd hfin
 have hli:=(ho.thGet hpl.1).lnGet hpl.2
 have hH:=qeo hp hpl
 have hg1:=hH.g1
 have hg2:=hH.g2
 have hlt1:=hH.h1
 have hlt2:=hH.h2
 have hk1:∀m:Nat,IsPl p i m→m≤1000:=fun m hm=>by
  have:=(ho.th _ (List.getElem_mem hpl.1)).six
  have h2:=hm.2
  rw[List.getD_eq_getElem?_getD,List.getElem?_eq_getElem hpl.1,Option.getD_some] at h2
  omega
 clear hH hin he hsl
 obtain⟨th,ln,num,val,nxt⟩:=e
 obtain⟨e1,e2,e3,e4,e5⟩:=hev
 simp only at e1 e2 e3 e4 e5
 subst e1 e2
 have hpl1:=qh0 p hok i k (by have:=hpl.1;omega) (hk1 k hpl)
 have hdc:∀B5:List Int→List Int,(∀d,(if ((p.ths.getD i default).lines.getD k default).k=5 then bump d (plNo p ((p.ths.getD i default).lines.getD k default).a.toNat 0) 1 else d)=B5 d)→doC p c ⟨(i:Int),(k:Int),num,val,nxt⟩=B5 (if nxt≥0 then bump (bump c (plNo p i k) (-1)) (plNo p i nxt.toNat) 1 else bump c (plNo p i k) (-1)):=fun B5 h=>by
  unfold doC
  simp only[Int.toNat_natCast]
  exact h _
 have b0:∀j,-(1048576:Int)≤c.getD j 0∧c.getD j 0≤1048576:=fun j=>by have:=hrg j;omega
 have w1:=quX hcl0 (qcS hpl) (b := -1) (x:=c.getD (plNo p i k) 0 - 1) (by omega) rfl (fun j=>by have:=b0 j;omega)
 have hlw1:=w1.lt
 have b1:=qgQ b0 (by omega) (plNo p i k) (b := -1) (by omega)
 have l1:(bump c (plNo p i k) (-1)).length=(plcs p).length:=by rw[qbX,hcl0]
 have hz:((0:Int) != 0)=false:=rfl
 generalize bump c (plNo p i k) (-1)=c1 at*
 have hlt0:=qcS hpl
 have hnx:nxt≥0→∃m:Nat,nxt=m∧IsPl p i m:=fun hn=>by
  obtain⟨m,rfl⟩:=Int.eq_ofNat_of_zero_le hn
  exact⟨m,rfl,hpl.of (by omega)⟩
 have hk5:((p.ths.getD i default).lines.getD k default).k=5→∃q:Nat,((p.ths.getD i default).lines.getD k default).a=q∧IsPl p q 0:=fun h5=>by
  obtain⟨q,hq⟩:=Int.eq_ofNat_of_zero_le hli.a0
  exact⟨q,hq,IsPl.zero ho (by have:=hli.a5 h5;omega)⟩
 have hplm:=fun (m:Nat) (hm:IsPl p i m)=>qh0 p hok i m (by have:=hpl.1;omega) (hk1 m hm)
 have hplq:=fun (q:Nat) (hq:IsPl p q 0)=>qh0 p hok q 0 (by have:=hq.1;omega) (by omega)
 clear hli e3 e4 e5 hfin hrg b0
 obtain⟨x,l,rfl⟩:∃x l,c=x::l:=by
  cases c with
  | nil=>simp at hcl0;omega
  | cons x l=>exact⟨x,l,rfl⟩
 have hn1:(plcs p).length≤1000:=by omega
 have hn0:0<(plcs p).length:=by omega
 have hflat:flat (qad (x::l))=qad (x::l):=qb7 _
 have hsz:=qdT (x::l)
 have hne:qad (x::l)≠[]:=by simp
 have hel0:(qad (x::l)).length=(plcs p).length:=by rw[qae];exact hcl0
 have hw2:=fun (m:Nat) (hm:IsPl p i m)=>quX l1 (qcS hm) (b:=1) (x:=c1.getD (plNo p i m) 0+1) (by omega) rfl (fun j=>by have:=b1 j;omega)
 have hb2:=fun m:Nat=>qgQ b1 (by omega) (plNo p i m) (b:=1) (by omega)
 have hw3:=fun (q:Nat) (hq:IsPl p q 0) (c2:List Int) (l2:c2.length=(plcs p).length) (b2:∀j,-(1048576+1+1:Int)≤c2.getD j 0∧c2.getD j 0≤1048576+1+1)=>quX l2 (qcS hq) (b:=1) (x:=c2.getD (plNo p q 0) 0+1) (by omega) rfl (fun j=>by have:=b2 j;omega)
 clear hk1 hok ho hr hv
 generalize hnn:(plcs p).length=n at*
 generalize p.ths.getD i default=t at*
 generalize t.lines.getD k default=ll at*
 obtain⟨kk,a,nm⟩:=ll
 simp only at hdc hk5
 simp only[qar,pgC,thC,lnC,evC,rdoE,rdoH,List.cons_append,List.nil_append,Int.natCast_zero] at hst hpl1 hplm hplq hg1 hg2 hL0 ⊢
 by_cases hn:nxt≥0
 ·obtain⟨m,rfl,hm⟩:=hnx hn
  have hbn:decide ((m:Int)≥0)=true:=decide_eq_true hn
  have hplm:=hplm m hm
  have w2:=hw2 m hm
  have hlw2:=w2.lt
  have b2:=hb2 m
  rw[if_pos hn,Int.toNat_natCast] at hdc
  have l2:(bump c1 (plNo p i m) 1).length=n:=by rw[qbX,l1]
  generalize bump c1 (plNo p i m) 1=c2 at*
  by_cases h5:kk=5
  ·obtain⟨q,rfl,hq⟩:=hk5 h5
   subst h5
   have hbk:((5:Int)==5)=true:=rfl
   have w3:=hw3 q hq c2 l2 b2
   have hlw3:=w3.lt
   have hplq:=hplq q hq
   rw[hdc (fun d=>bump d (plNo p q 0) 1) (fun d=>by rw[if_pos rfl,Int.toNat_natCast])] at hlim ⊢
   have l3:(bump c2 (plNo p q 0) 1).length=n:=by rw[qbX,l2]
   generalize bump c2 (plNo p q 0) 1=c3 at*
   have hl3:n=c3.length:=l3.symm
   generalize plNo p q 0=jq at*
   generalize plNo p i m=jm at*
   generalize plNo p i k=jk at*
   clear hdc hk5 hnx hw2 hw3 hb2 b1 b2
   simp only[doT]
   have fX:=(cJ8 @hz @hbn @hbk @hg1 @hg2 @hflat @hsz (cJ8 @hne @hel0 @ne_eq.{1} @not_false_eq_true @w1.j1 @w1.el @w1.sr (cJ8 @w1.w @w1.sw @w2.j1 @w2.el @w2.sr @w2.w @w2.sw (cJ5 @w3.j1 @w3.el @w3.sr @w3.w @w3.sw))))
   refine qag fn23 (by simp) ?_
   unfold i23
   simp only[argL]
   refine wR0 0 [1,2,4,7] fX ?_
   refine wRn 100 [2,4,7,11,12] fX ?_
   refine rC fX ?_
   refine⟨_,hst,rE fX ?_⟩
   refine wR0 200 [2,4,7,11,12,26] fX ?_
   refine wF @hz ?_
   refine wR0 400 [2,4,7,11,13] fX ?_
   refine wR0 500 [2,4,7,11,13,14] fX ?_
   refine wL ?_
   refine hL0 _ ?_
   ·intro j0
    refine wN ?_
    refine wR0 900 [2,4,7,44] fX ?_
    refine wF fX ?_
    refine wR0 1100 [4,7,15] fX ?_
    refine wRn 1200 [4,7,15] fX ?_
    refine rC fX ?_
    refine⟨_,hpl1,rE fX ?_⟩
    refine wR0 1300 [4,7,15,60] fX ?_
    refine wT @hbn ?_
    refine wRn 1400 [4,7,15] fX ?_
    refine rC fX ?_
    refine⟨_,hplm,rE fX ?_⟩
    refine wR0 1500 [4,7,15,16] fX ?_
    refine wR0 1600 [4,7,15,16,85] fX ?_
    refine wT @hbk ?_
    refine wRn 1700 [7,15] fX ?_
    refine rC fX ?_
    refine⟨_,hplq,rE fX ?_⟩
    refine wR0 1800 [7,15,17] fX ?_
    refine wL ?_
    refine qm9 n c3 l3 hn1 hlim _ _ _ _ ?_ n 0 (by omega)
    ·intro j1
     refine wN ?_
     refine wR0 2300 [8,9,10] fX ?_
     refine wP ?_
     exact qbU (.same rfl) (qbn c3 rfl hl3 hl3) (.same rfl)
  ·have hbk:(kk==5)=false:=by simpa using h5
   rw[hdc (fun d=>d) (fun d=>by rw[if_neg h5])] at hlim ⊢
   have hl3:n=c2.length:=l2.symm
   generalize plNo p i m=jm at*
   generalize plNo p i k=jk at*
   clear hdc hk5 hnx hw2 hw3 hb2 b1 b2
   simp only[doT]
   have fX:=(cJ8 @hz @hbn @hbk @hg1 @hg2 @hflat @hsz (cJ8 @hne @hel0 @ne_eq.{1} @not_false_eq_true @w1.j1 @w1.el @w1.sr (cJ7 @w1.w @w1.sw @w2.j1 @w2.el @w2.sr @w2.w @w2.sw)))
   refine qag fn23 (by simp) ?_
   unfold i23
   simp only[argL]
   refine wR0 0 [1,2,4,7] fX ?_
   refine wRn 100 [2,4,7,11,12] fX ?_
   refine rC fX ?_
   refine⟨_,hst,rE fX ?_⟩
   refine wR0 200 [2,4,7,11,12,26] fX ?_
   refine wF @hz ?_
   refine wR0 400 [2,4,7,11,13] fX ?_
   refine wR0 500 [2,4,7,11,13,14] fX ?_
   refine wL ?_
   refine hL0 _ ?_
   ·intro j0
    refine wN ?_
    refine wR0 900 [2,4,7,44] fX ?_
    refine wF fX ?_
    refine wR0 1100 [4,7,15] fX ?_
    refine wRn 1200 [4,7,15] fX ?_
    refine rC fX ?_
    refine⟨_,hpl1,rE fX ?_⟩
    refine wR0 1300 [4,7,15,60] fX ?_
    refine wT @hbn ?_
    refine wRn 1400 [4,7,15] fX ?_
    refine rC fX ?_
    refine⟨_,hplm,rE fX ?_⟩
    refine wR0 1500 [4,7,15,16] fX ?_
    refine wR0 1600 [4,7,15,16,85] fX ?_
    refine wF @hbk ?_
    refine wR0 1800 [7,15,17] fX ?_
    refine wL ?_
    refine qm9 n c2 l2 hn1 hlim _ _ _ _ ?_ n 0 (by omega)
    ·intro j1
     refine wN ?_
     refine wR0 2300 [8,9,10] fX ?_
     refine wP ?_
     exact qbU (.same rfl) (qbn c2 rfl hl3 hl3) (.same rfl)
 ·have hbn:decide (nxt≥0)=false:=decide_eq_false hn
  rw[if_neg hn] at hdc
  by_cases h5:kk=5
  ·obtain⟨q,rfl,hq⟩:=hk5 h5
   subst h5
   have hbk:((5:Int)==5)=true:=rfl
   have w3:=hw3 q hq c1 l1 (fun j=>by have:=b1 j;omega)
   have hlw3:=w3.lt
   have hplq:=hplq q hq
   rw[hdc (fun d=>bump d (plNo p q 0) 1) (fun d=>by rw[if_pos rfl,Int.toNat_natCast])] at hlim ⊢
   have l3:(bump c1 (plNo p q 0) 1).length=n:=by rw[qbX,l1]
   generalize bump c1 (plNo p q 0) 1=c3 at*
   have hl3:n=c3.length:=l3.symm
   generalize plNo p q 0=jq at*
   generalize plNo p i k=jk at*
   clear hdc hk5 hnx hw2 hw3 hb2 b1
   simp only[doT]
   have fX:=(cJ8 @hz @hbn @hbk @hg1 @hg2 @hflat @hsz (cJ8 @hne @hel0 @ne_eq.{1} @not_false_eq_true @w1.j1 @w1.el @w1.sr (cJ7 @w1.w @w1.sw @w3.j1 @w3.el @w3.sr @w3.w @w3.sw)))
   refine qag fn23 (by simp) ?_
   unfold i23
   simp only[argL]
   refine wR0 0 [1,2,4,7] fX ?_
   refine wRn 100 [2,4,7,11,12] fX ?_
   refine rC fX ?_
   refine⟨_,hst,rE fX ?_⟩
   refine wR0 200 [2,4,7,11,12,26] fX ?_
   refine wF @hz ?_
   refine wR0 400 [2,4,7,11,13] fX ?_
   refine wR0 500 [2,4,7,11,13,14] fX ?_
   refine wL ?_
   refine hL0 _ ?_
   ·intro j0
    refine wN ?_
    refine wR0 900 [2,4,7,44] fX ?_
    refine wF fX ?_
    refine wR0 1100 [4,7,15] fX ?_
    refine wRn 1200 [4,7,15] fX ?_
    refine rC fX ?_
    refine⟨_,hpl1,rE fX ?_⟩
    refine wR0 1300 [4,7,15,60] fX ?_
    refine wF @hbn ?_
    refine wR0 1500 [4,7,15,16] fX ?_
    refine wR0 1600 [4,7,15,16,85] fX ?_
    refine wT @hbk ?_
    refine wRn 1700 [7,15] fX ?_
    refine rC fX ?_
    refine⟨_,hplq,rE fX ?_⟩
    refine wR0 1800 [7,15,17] fX ?_
    refine wL ?_
    refine qm9 n c3 l3 hn1 hlim _ _ _ _ ?_ n 0 (by omega)
    ·intro j1
     refine wN ?_
     refine wR0 2300 [8,9,10] fX ?_
     refine wP ?_
     exact qbU (.same rfl) (qbn c3 rfl hl3 hl3) (.same rfl)
  ·have hbk:(kk==5)=false:=by simpa using h5
   rw[hdc (fun d=>d) (fun d=>by rw[if_neg h5])] at hlim ⊢
   have hl3:n=c1.length:=l1.symm
   generalize plNo p i k=jk at*
   clear hdc hk5 hnx hw2 hw3 hb2 b1
   simp only[doT]
   have fX:=(cJ8 @hz @hbn @hbk @hg1 @hg2 @hflat @hsz (cJ8 @hne @hel0 @ne_eq.{1} @not_false_eq_true @w1.j1 @w1.el @w1.sr (cJ2 @w1.w @w1.sw)))
   refine qag fn23 (by simp) ?_
   unfold i23
   simp only[argL]
   refine wR0 0 [1,2,4,7] fX ?_
   refine wRn 100 [2,4,7,11,12] fX ?_
   refine rC fX ?_
   refine⟨_,hst,rE fX ?_⟩
   refine wR0 200 [2,4,7,11,12,26] fX ?_
   refine wF @hz ?_
   refine wR0 400 [2,4,7,11,13] fX ?_
   refine wR0 500 [2,4,7,11,13,14] fX ?_
   refine wL ?_
   refine hL0 _ ?_
   ·intro j0
    refine wN ?_
    refine wR0 900 [2,4,7,44] fX ?_
    refine wF fX ?_
    refine wR0 1100 [4,7,15] fX ?_
    refine wRn 1200 [4,7,15] fX ?_
    refine rC fX ?_
    refine⟨_,hpl1,rE fX ?_⟩
    refine wR0 1300 [4,7,15,60] fX ?_
    refine wF @hbn ?_
    refine wR0 1500 [4,7,15,16] fX ?_
    refine wR0 1600 [4,7,15,16,85] fX ?_
    refine wF @hbk ?_
    refine wR0 1800 [7,15,17] fX ?_
    refine wL ?_
    refine qm9 n c1 l1 hn1 hlim _ _ _ _ ?_ n 0 (by omega)
    ·intro j1
     refine wN ?_
     refine wR0 2300 [8,9,10] fX ?_
     refine wP ?_
     exact qbU (.same rfl) (qbn c1 rfl hl3 hl3) (.same rfl)
end
section
open Go.RowKit
set_option maxHeartbeats 2000000
attribute [local simp] qau qav qaD qaJ qa1 qbo qaB qah qaT qaO qak qax qc9 qaI
def bF (n j:Nat):List T:=List.replicate j (.bool true)++List.replicate (n - j) (.bool false)
theorem qoD (D:Nat→Bool)(n j:Nat):clL D (bF n j)=true:=by
 have h:∀(b:Bool) (k:Nat),clL D (List.replicate k (.bool b))=true:=fun b k=>by
  induction k with
  | zero=>rfl
  | succ k ih=>rw[List.replicate_succ];simp[clL,T.cl,ih]
 rw[bF,qab,h,h];rfl
attribute [local simp] qoD
end
section
open Go.RowKit
set_option maxHeartbeats 2000000
attribute [local simp] qau qav qaD qaJ qa1 qbo qaB qah qaT qaO qak qax qc9 qaI qoD
def cfL (s:Int)(c:List Int):List T:=encV (natV s)::qaj (c.map natV)
theorem qrx (s:Int)(c:List Int):encV (cfV s c)=.agg [.int .i64 0,.list (cfL s c)]:=rfl
theorem qeh (D:Nat→Bool)(s:Int)(c:List Int):clL D (cfL s c)=true:=by simp[cfL,clL,qak,qb2]
attribute [local simp] qeh
end
section
open Go.RowKit
set_option maxHeartbeats 2000000
attribute [local simp] qau qav qaD qaJ qa1 qbo qaB qah qaT qaO qak qax qc9 qaI qeh
theorem qeP (D:Nat→Bool)(l:List St3):clL D (qbG l)=true:=by
 induction l with
 | nil=>rfl
 | cons x l ih=>simp only[qbG] at ih;simp[qbG,clL,T.cl,qf1,ih]
attribute [local simp] qeP
theorem qgk {p:Pg}(hok:okP p=true)(hp:p.fit){q:Nat}(hq:q<(mngs p).length){B s:Int}{v:List Int}(hB:0≤B∧B≤1000000)(h:StOk p B s v)(hf:qcn ((mdl p).rules.getD q rlZ) s v=true) :
 aftO ((mdl p).rules.getD q rlZ) v=true∧((mdl p).rules.getD q rlZ).to_=(((mngs p).map (fun x:Int×Ev=>x.2)).getD q default).val∧aftR ((mdl p).rules.getD q rlZ) v=doC p v (((mngs p).map (fun x:Int×Ev=>x.2)).getD q default)∧
  ((mngs p).map (fun x:Int×Ev=>x.2)).getD q default∈qaY p s v∧StOk p (B+2) (((mngs p).map (fun x:Int×Ev=>x.2)).getD q default).val (doC p v (((mngs p).map (fun x:Int×Ev=>x.2)).getD q default)):=by
 have ho:=qbq hok
 have hm:=qjP ho hq (0,default)
 rw[qlB hq rlZ (0,default)] at hf ⊢
 have hg:((mngs p).map (fun x:Int×Ev=>x.2)).getD q default=((mngs p).getD q (0,default)).2:=by simp[List.getD_eq_getElem?_getD,hq]
 have hmem:(mngs p).getD q (0,default)∈mngs p:=by
  rw[List.getD_eq_getElem?_getD,List.getElem?_eq_getElem hq];exact List.getElem_mem hq
 rw[hg]
 rw[qeU hm q h] at hf
 have hcd:=qtk ho hok hmem hB h hf
 have hpos:v.getD (evNo p ((mngs p).getD q (0,default)).2) 0 > 0:=by
  simp only[canM,Bool.and_eq_true,decide_eq_true_eq] at hf
  exact hf.2
 refine⟨ql9 hm q hB h.len h.ent hpos,rfl,qoy hm q h.len (fun j=>by have:=h.ent j;omega),?_,hcd.2⟩
 rw[qe6 ho h.val]
 exact List.mem_map.2 ⟨_,List.mem_filter.2 ⟨hmem,hf⟩,rfl⟩
end
end Go.Proofs.YtkbjpglehdhjfaaGreatDoor
