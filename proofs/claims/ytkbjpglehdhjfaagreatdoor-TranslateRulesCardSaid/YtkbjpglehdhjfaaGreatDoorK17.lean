/- Contracts of functions of the program, for all arguments that they name. -/
import Derived.Test.YtkbjpglehdhjfaaGreatDoorK13
import Derived.Test.YtkbjpglehdhjfaaGreatDoorK16
namespace Go.Proofs.YtkbjpglehdhjfaaGreatDoor
set_option linter.unusedVariables false
section
open Go.RowKit
set_option maxHeartbeats 2000000
attribute [local simp] qau qav qaD qaJ qa1 qbo qaB qah qa5 qaI
theorem qqa {p:Pg}(hok:okP p=true){i k:Nat}(h:IsPl p i k):idxP ((i:Int),(k:Int)) (plP p) 0=(plNo p i k:Nat):=by
 have hg:=qjY h
 have hlt:=qcS h
 rw[qqb hok,qpr _ _ (plNo p i k) 0 (by rw[List.getElem?_map,hg];rfl) (fun j hj he=>?_)]
 ·simp
 ·rw[List.getElem?_map,List.getElem?_eq_getElem (by omega),Option.map_some,Option.some.injEq] at he
  have hjl:j<(plcs p).length:=by omega
  have e1:(plcs p)[j]=(i,k):=by
   have:=congrArg Prod.fst he
   have:=congrArg Prod.snd he
   simp only[intP] at*
   exact Prod.ext (by omega) (by omega)
  have:=qm6 hjl hlt (by rw[qkR h];simp[List.getD_eq_getElem?_getD,hjl,e1])
  omega
abbrev sBox (n:Nat):Slot:=.live ⟨31,[.sl 300 n 0 0 n]⟩
abbrev sPls (p:Pg):Slot:=.live ⟨49,[.list (qbe (plP p))]⟩
set_option maxHeartbeats 4000000 in
theorem qlO (p:Pg)(hok:okP p=true)(i k:Nat)(h:IsPl p i k)(b:Int)(hb:-10≤b∧b≤10)(c:List Int)(hc:c.length=(plcs p).length)(hr:∀j,-1000000000≤c.getD j 0∧c.getD j 0≤1000000000) :
 TC Tryz.prog 76 [.int .i64 (i:Int),.int .i64 (k:Int),.int .i64 b,.ref 605 1 0,.ref 604 1 0] (hpL [(604,sPls p),(605,sBox (plcs p).length),(300,sVv c)]) (.tup []) (hpL [(604,sPls p),(605,sBox (plcs p).length),(300,sVv (bump c (plNo p i k) b))]):=by
 have hix:=qp9 ((i:Int),(k:Int)) (plP p) (by rw[qbV hok];have:=(qbq hok).six;rw[qbh];omega)
 rw[qqa hok h] at hix
 have hlt:=qcS h
 obtain⟨j,hj⟩:∃j,plNo p i k=j:=⟨_,rfl⟩
 rw[hj] at hix hlt ⊢
 have hbj:=hr j
 have hw:IntKind.wrap .i64 (c.getD j 0+b)=c.getD j 0+b:=wrap64 (by omega) (by omega)
 have hltI:(j:Int)<((plcs p).length:Int):=by omega
 have hj1:(j:Int).toNat*1=j:=by simp
 have hel:(qad c).length=(plcs p).length:=by rw[qae];exact hc
 have hsr:=qql c j (by omega)
 have hsw:=qi0 c (c.getD j 0+b) j (by omega)
 have hbu:c.set j (c.getD j 0+b)=bump c j b:=rfl
 rw[hbu] at hsw
 generalize (plcs p).length=n at*
 simp only[pC,sPls,sBox] at hix ⊢
 have fX:=(cJ5 @hw @hj1 @hel @hsr @hsw)
 refine qi2 fn76 (by simp) ?_
 unfold i76
 simp only[argL]
 refine wRn 0 [] fX ?_
 refine rC fX ?_
 refine⟨_,hix,rE fX ?_⟩
 first | exact⟨by simp,rfl,rfl⟩ | exact⟨by simp,rfl,trivial⟩
def doT (x:Int×List Int×Int):T:=.tup [.int .i64 x.1,.list (qad x.2.1),.int .i64 x.2.2]
theorem qbU {H:Heap}{a b c a' b' c':T}(h1:Frz H a a')(h2:Frz H b b')(h3:Frz H c c'):Frz H (.tup [a,b,c]) (.tup [a',b',c']):=.tup rfl fun i hi=>by
 match i,hi with
 | 0,_=>exact h1
 | 1,_=>exact h2
 | 2,_=>exact h3
theorem qel (p:Pg)(n:Nat)(c c1:List Int):Heap.upd (hpL [(604,sPls p),(605,sBox n),(300,sVv c)]) [(604,sPls p),(605,sBox n),(300,sVv c1)]=hpL [(604,sPls p),(605,sBox n),(300,sVv c1)]:=by simp[qgv,qcG,qdc]
theorem qlg {p:Pg}(ho:PgOk p){v:Int}{c:List Int}{e:Ev}(h:e∈qaY p v c):∃i k,IsPl p i k∧EvOk p v i k e:=by
 rw[qaY,List.mem_flatMap] at h
 obtain⟨j,hj,he⟩:=h
 have hjl:j<(plcs p).length:=by simpa [List.mem_range'_1] using hj
 unfold stE at he
 split at he
 ·exact⟨_,_,qcJ hjl,qo9 ho (qcJ hjl) e he⟩
 ·cases he
theorem IsPl.of {p:Pg}{i k j:Nat}(h:IsPl p i k)(hj:j<(p.ths.getD i default).lines.length):IsPl p i j:=⟨h.1,hj⟩
theorem IsPl.zero {p:Pg}(ho:PgOk p){i:Nat}(hi:i<p.ths.length):IsPl p i 0:=⟨hi,(ho.thGet hi).pos⟩
theorem qjM (x:Int)(l:List Int):decide (maxI l x > 1048576)=!(x::l).all (fun y=>decide (y≤1048576)):=by
 rw[qpG,List.all_cons]
 have:(l.any fun y=>decide (y > 1048576))=!l.all fun y=>decide (y≤1048576):=by
  rw[List.not_all_eq_any_not]
  congr 1
  funext y
  rw[Bool.eq_iff_iff];simp
 rw[this,Bool.eq_iff_iff];simp
theorem qf2 {p:Pg}(ho:PgOk p)(v:Int)(c:List Int):(qaY p v c).length≤12:=by
 have h6:=ho.six
 have key:∀l:List Nat,(l.flatMap (stE p v c)).length≤2*l.length:=by
  intro l
  induction l with
  | nil=>simp
  | cons x l ih=>
   rw[List.flatMap_cons,List.length_append,List.length_cons]
   have:(stE p v c x).length≤2:=by unfold stE;split;exact qji _ _ _ _;simp
   omega
 have:=key (List.range' 0 (plcs p).length)
 rw[List.length_range',qbh] at this
 rw[qaY];rw[qbh];omega
theorem qnd {p:Pg}{v:Int}{c:List Int}(h:rgtP p v c=0):okP p=true∧(0≤v∧v<p.vals)∧c.all finN=true∧c.length=(plcs p).length:=by
 unfold rgtP at h
 by_cases h1:okP p=false
 ·rw[if_pos h1] at h;omega
 ·rw[if_neg h1] at h
  by_cases h2:v<0∨p.vals≤v
  ·rw[if_pos h2] at h;omega
  ·rw[if_neg h2] at h
   by_cases h3:c.all finN=false
   ·rw[if_pos h3] at h;omega
   ·rw[if_neg h3] at h
    by_cases h4:c.length≠(plcs p).length
    ·rw[if_pos h4] at h;omega
    ·exact⟨by simpa using h1,by omega,by simpa using h3,Classical.not_not.1 h4⟩
theorem qpd {c:List Int}(h:c.all finN=true)(j:Nat):0≤c.getD j 0∧c.getD j 0≤1048576:=by
 by_cases hj:j<c.length
 ·have:=List.all_eq_true.1 h c[j] (List.getElem_mem hj)
  simp only[finN,Bool.and_eq_true,decide_eq_true_eq] at this
  simp only[List.getD_eq_getElem?_getD,List.getElem?_eq_getElem hj,Option.getD_some]
  omega
 ·simp[List.getD_eq_getElem?_getD,Nat.le_of_not_lt hj]
theorem qgQ {c:List Int}{B:Int}(h:∀j,-B≤c.getD j 0∧c.getD j 0≤B)(hB:0≤B)(i:Nat){b:Int}(hb:-1≤b∧b≤1)(j:Nat):-(B+1)≤(bump c i b).getD j 0∧(bump c i b).getD j 0≤B+1:=by
 by_cases hj:j<c.length
 ·rw[qcT _ _ _ _ hj]
  have:=h j
  split<;>omega
 ·have:(bump c i b).getD j 0=0:=by simp[List.getD_eq_getElem?_getD,qbX,Nat.le_of_not_lt hj]
  omega
set_option maxHeartbeats 16000000 in
theorem pdo_in (p:Pg)(hp:p.fit)(v:Int)(c:List Int)(hr:rgtP p v c=0)(e:Ev)(he:e∈qaY p v c):TP Tryz.prog 44 [qar p,.int .i64 v,.list (qad c),.agg (evC e)] (doT (if (doC p c e).all (fun x=>decide (x≤1048576))=false then (0,[],1) else (e.val,doC p c e,0))):=by
 obtain⟨hok,hv,hfin,hcl0⟩:=qnd hr
 have ho:=qbq hok
 obtain⟨i,k,hpl,hev⟩:=qlg ho he
 have h6:(plcs p).length≤6:=by rw[qbh];exact ho.six
 have hst:=qfS p hp v c (by omega)
 rw[qec,qeb,if_pos hr] at hst
 have hco:=qgy e (qaY p v c) (by have:=qf2 ho v c;omega)
 have hin:(qaY p v c).any (fun x=>evB x e)=true:=List.any_eq_true.2 ⟨e,he,(qfh _ _).2 rfl⟩
 rw[hin] at hco
 generalize qaY p v c=L at*
 have hpp:=qc0 p hp
 have hrg:=qpd hfin
 have hli:=(ho.thGet hpl.1).lnGet hpl.2
 have hH:=qeo hp hpl
 have hg1:=hH.g1
 have hg2:=hH.g2
 have hlt1:=hH.h1
 have hlt2:=hH.h2
 clear hH hin he
 obtain⟨th,ln,num,val,nxt⟩:=e
 obtain⟨e1,e2,e3,e4,e5⟩:=hev
 simp only at e1 e2 e3 e4 e5
 subst e1 e2
 have hdc:∀B5:List Int→List Int,(∀d,(if ((p.ths.getD i default).lines.getD k default).k=5 then bump d (plNo p ((p.ths.getD i default).lines.getD k default).a.toNat 0) 1 else d)=B5 d)→doC p c ⟨(i:Int),(k:Int),num,val,nxt⟩=B5 (if nxt≥0 then bump (bump c (plNo p i k) (-1)) (plNo p i nxt.toNat) 1 else bump c (plNo p i k) (-1)):=fun B5 h=>by
  unfold doC
  simp only[Int.toNat_natCast]
  exact h _
 have b0:∀j,-(1048576:Int)≤c.getD j 0∧c.getD j 0≤1048576:=fun j=>by have:=hrg j;omega
 have hd1:=qlO p hok i k hpl (-1) (by omega) c hcl0 (fun j=>by have:=b0 j;omega)
 have b1:=qgQ b0 (by omega) (plNo p i k) (b := -1) (by omega)
 have l1:(bump c (plNo p i k) (-1)).length=(plcs p).length:=by rw[qbX,hcl0]
 obtain⟨x,l,hxl0⟩:∃x l,c=x::l:=by
  cases hq:c with
  | nil=>
   rw[hq] at hcl0
   have:=qcS hpl
   simp at hcl0;omega
  | cons x l=>exact⟨x,l,rfl⟩
 have hcl:=qrz x l (by rw[←hxl0];omega)
 have hxl:l.length+1=(plcs p).length:=by rw[←hcl0,hxl0];rfl
 have hz:((0:Int) != 0)=false:=rfl
 generalize hc1:bump c (plNo p i k) (-1)=c1 at*
 have hd2:=fun (m:Nat) (hm:IsPl p i m)=>qlO p hok i m hm 1 (by omega) c1 l1 (fun j=>by have:=b1 j;omega)
 have hnx:nxt≥0→∃m:Nat,nxt=m∧IsPl p i m:=fun hn=>by
  obtain⟨m,rfl⟩:=Int.eq_ofNat_of_zero_le hn
  exact⟨m,rfl,hpl.of (by omega)⟩
 have b2:=fun m:Nat=>qgQ b1 (by omega) (plNo p i m) (b:=1) (by omega)
 have hd3:=fun (q:Nat) (hq:IsPl p q 0) (c2:List Int) (l2:c2.length=(plcs p).length) (b2:∀j,-(1048576+1+1:Int)≤c2.getD j 0∧c2.getD j 0≤1048576+1+1)=>qlO p hok q 0 hq 1 (by omega) c2 l2 (fun j=>by have:=b2 j;omega)
 have hk5:((p.ths.getD i default).lines.getD k default).k=5→∃q:Nat,((p.ths.getD i default).lines.getD k default).a=q∧IsPl p q 0:=fun h5=>by
  obtain⟨q,hq⟩:=Int.eq_ofNat_of_zero_le hli.a0
  exact⟨q,hq,IsPl.zero ho (by have:=hli.a5 h5;omega)⟩
 clear hli e3 e4 e5 hpl hfin hrg b0
 generalize p.ths.getD i default=t at*
 generalize t.lines.getD k default=ll at*
 obtain⟨kk,a,nm⟩:=ll
 simp only at hdc hk5
 rw[←hxl] at hd1 hd2 hd3
 rw[hxl0] at hd1 hst ⊢
 simp only[qar,pgC,thC,lnC,evC] at hst hpp hco hg1 hg2 ⊢
 by_cases hn:nxt≥0
 ·obtain⟨m,rfl,hm⟩:=hnx hn
  have hbn:decide ((m:Int)≥0)=true:=decide_eq_true hn
  have hd2:=hd2 m hm
  have b2:=b2 m
  rw[hxl0,if_pos hn,Int.toNat_natCast] at hdc
  have l2:(bump c1 (plNo p i m) 1).length=(plcs p).length:=by rw[qbX,l1]
  generalize bump c1 (plNo p i m) 1=c2 at*
  by_cases h5:kk=5
  ·obtain⟨q,rfl,hq⟩:=hk5 h5
   subst h5
   have hbk:((5:Int)==5)=true:=rfl
   have hd3:=hd3 q hq c2 (l2.trans hxl.symm) b2
   rw[hdc (fun d=>bump d (plNo p q 0) 1) (fun d=>by rw[if_pos rfl,Int.toNat_natCast])]
   have l3:(bump c2 (plNo p q 0) 1).length=(plcs p).length:=by rw[qbX,l2]
   generalize bump c2 (plNo p q 0) 1=c3 at*
   have hl3:l.length+1=(c3).length:=by rw[l3];exact hxl
   obtain⟨y,ys,hy⟩:∃y ys,c3=y::ys:=by
    cases hq:c3 with
    | nil=>rw[hq] at hl3;simp at hl3
    | cons y ys=>exact⟨y,ys,rfl⟩
   have hmt:=qmR y ys (by rw[←hy];omega)
   have hmx:=qjM y ys
   rw[←hy] at hmt hmx
   generalize maxI ys y=M at*
   have hT:doT (if (c3).all (fun x=>decide (x≤1048576))=false then (0,[],1) else (val,c3,0))=if decide (M > 1048576)=true then .tup [.int .i64 0,.list [],.int .i64 1] else .tup [.int .i64 val,.list (qad (c3)),.int .i64 0]:=by
    rw[hmx]
    cases (c3).all (fun x=>decide (x≤1048576))<;>rfl
   rw[hT]
   clear hT hmx hy hdc hk5 hnx
   have fX:=(cJ5 @hz @hbn @hbk @hg1 @hg2)
   refine qag fn44 (by simp) ?_
   unfold i44
   simp only[argL]
   refine wR0 0 [1,2,4,7] fX ?_
   refine wRn 100 [2,4,7,11,12] fX ?_
   refine rC fX ?_
   refine⟨_,hst,rE fX ?_⟩
   refine wR0 200 [2,4,7,11,12,25] fX ?_
   refine wF @hz ?_
   refine wRn 400 [2,4,7,30] fX ?_
   refine rC fX ?_
   refine⟨_,hco,rE fX ?_⟩
   refine wF fX ?_
   refine wRn 600 [4,7,13,14] fX ?_
   refine rC fX ?_
   refine⟨_,hpp,rN fX ?_⟩
   refine rU [] [(300,sVv (x::l))] fX ?_
   refine⟨_,hcl,rE fX ?_⟩
   refine wR0 700 [4,7,14,15] fX ?_
   refine wRn 800 [4,7,14,15] fX ?_
   refine rUv [(604,sPls p),(605,sBox (l.length+1)),(300,sVv (x::l))] [(604,sPls p),(605,sBox (l.length+1)),(300,sVv c1)] fX ?_
   refine⟨_,hd1.fullL (by simp) (qel _ _ _ _),rE fX ?_⟩
   refine wR0 900 [4,7,14,15,44] fX ?_
   refine wT @hbn ?_
   refine wRn 1000 [4,7,14,15] fX ?_
   refine rUv [(604,sPls p),(605,sBox (l.length+1)),(300,sVv c1)] [(604,sPls p),(605,sBox (l.length+1)),(300,sVv c2)] fX ?_
   refine⟨_,hd2.fullL (by simp) (qel _ _ _ _),rE fX ?_⟩
   refine wR0 1100 [7,14,15,16] fX ?_
   refine wR0 1200 [7,14,15,16,64] fX ?_
   refine wT @hbk ?_
   refine wRn 1300 [7,14] fX ?_
   refine rUv [(604,sPls p),(605,sBox (l.length+1)),(300,sVv c2)] [(604,sPls p),(605,sBox (l.length+1)),(300,sVv c3)] fX ?_
   refine⟨_,hd3.fullL (by simp) (qel _ _ _ _),rE fX ?_⟩
   refine wRn 1400 [7,14,71] fX ?_
   refine rL [(300,sVv c3)] fX ?_
   refine⟨_,_,hmt,(by (exact .cons (qbn c3 rfl hl3 hl3) .nil)),rfl,rE fX ?_⟩
   refine wS cJ0 (fun hc1400=>?_) (fun hc1400=>?_)
   ·skip
    refine wR0 1500 [8,9,10] fX ?_
    refine wP ?_
    rw[if_pos hc1400];exact qbU (.same rfl) .nil (.same rfl)
   ·skip
    refine wR0 1600 [8,9,10] fX ?_
    refine wP ?_
    rw[if_neg (by rw[hc1400];simp)];exact qbU (.same rfl) (qbn c3 rfl hl3 hl3) (.same rfl)
  ·have hbk:(kk==5)=false:=by simpa using h5
   rw[hdc (fun d=>d) (fun d=>by rw[if_neg h5])]
   have hl3:l.length+1=(c2).length:=by rw[l2];exact hxl
   obtain⟨y,ys,hy⟩:∃y ys,c2=y::ys:=by
    cases hq:c2 with
    | nil=>rw[hq] at hl3;simp at hl3
    | cons y ys=>exact⟨y,ys,rfl⟩
   have hmt:=qmR y ys (by rw[←hy];omega)
   have hmx:=qjM y ys
   rw[←hy] at hmt hmx
   generalize maxI ys y=M at*
   have hT:doT (if (c2).all (fun x=>decide (x≤1048576))=false then (0,[],1) else (val,c2,0))=if decide (M > 1048576)=true then .tup [.int .i64 0,.list [],.int .i64 1] else .tup [.int .i64 val,.list (qad (c2)),.int .i64 0]:=by
    rw[hmx]
    cases (c2).all (fun x=>decide (x≤1048576))<;>rfl
   rw[hT]
   clear hT hmx hy hdc hk5 hnx
   have fX:=(cJ5 @hz @hbn @hbk @hg1 @hg2)
   refine qag fn44 (by simp) ?_
   unfold i44
   simp only[argL]
   refine wR0 0 [1,2,4,7] fX ?_
   refine wRn 100 [2,4,7,11,12] fX ?_
   refine rC fX ?_
   refine⟨_,hst,rE fX ?_⟩
   refine wR0 200 [2,4,7,11,12,25] fX ?_
   refine wF @hz ?_
   refine wRn 400 [2,4,7,30] fX ?_
   refine rC fX ?_
   refine⟨_,hco,rE fX ?_⟩
   refine wF fX ?_
   refine wRn 600 [4,7,13,14] fX ?_
   refine rC fX ?_
   refine⟨_,hpp,rN fX ?_⟩
   refine rU [] [(300,sVv (x::l))] fX ?_
   refine⟨_,hcl,rE fX ?_⟩
   refine wR0 700 [4,7,14,15] fX ?_
   refine wRn 800 [4,7,14,15] fX ?_
   refine rUv [(604,sPls p),(605,sBox (l.length+1)),(300,sVv (x::l))] [(604,sPls p),(605,sBox (l.length+1)),(300,sVv c1)] fX ?_
   refine⟨_,hd1.fullL (by simp) (qel _ _ _ _),rE fX ?_⟩
   refine wR0 900 [4,7,14,15,44] fX ?_
   refine wT @hbn ?_
   refine wRn 1000 [4,7,14,15] fX ?_
   refine rUv [(604,sPls p),(605,sBox (l.length+1)),(300,sVv c1)] [(604,sPls p),(605,sBox (l.length+1)),(300,sVv c2)] fX ?_
   refine⟨_,hd2.fullL (by simp) (qel _ _ _ _),rE fX ?_⟩
   refine wR0 1100 [7,14,15,16] fX ?_
   refine wR0 1200 [7,14,15,16,64] fX ?_
   refine wF @hbk ?_
   refine wRn 1400 [7,14,71] fX ?_
   refine rL [(300,sVv c2)] fX ?_
   refine⟨_,_,hmt,(by (exact .cons (qbn c2 rfl hl3 hl3) .nil)),rfl,rE fX ?_⟩
   refine wS cJ0 (fun hc1400=>?_) (fun hc1400=>?_)
   ·skip
    refine wR0 1500 [8,9,10] fX ?_
    refine wP ?_
    rw[if_pos hc1400];exact qbU (.same rfl) .nil (.same rfl)
   ·skip
    refine wR0 1600 [8,9,10] fX ?_
    refine wP ?_
    rw[if_neg (by rw[hc1400];simp)];exact qbU (.same rfl) (qbn c2 rfl hl3 hl3) (.same rfl)
 ·have hbn:decide (nxt≥0)=false:=decide_eq_false hn
  rw[hxl0,if_neg hn] at hdc
  by_cases h5:kk=5
  ·obtain⟨q,rfl,hq⟩:=hk5 h5
   subst h5
   have hbk:((5:Int)==5)=true:=rfl
   have hd3:=hd3 q hq c1 (l1.trans hxl.symm) (fun j=>by have:=b1 j;omega)
   rw[hdc (fun d=>bump d (plNo p q 0) 1) (fun d=>by rw[if_pos rfl,Int.toNat_natCast])]
   have l3:(bump c1 (plNo p q 0) 1).length=(plcs p).length:=by rw[qbX,l1]
   generalize bump c1 (plNo p q 0) 1=c3 at*
   have hl3:l.length+1=(c3).length:=by rw[l3];exact hxl
   obtain⟨y,ys,hy⟩:∃y ys,c3=y::ys:=by
    cases hq:c3 with
    | nil=>rw[hq] at hl3;simp at hl3
    | cons y ys=>exact⟨y,ys,rfl⟩
   have hmt:=qmR y ys (by rw[←hy];omega)
   have hmx:=qjM y ys
   rw[←hy] at hmt hmx
   generalize maxI ys y=M at*
   have hT:doT (if (c3).all (fun x=>decide (x≤1048576))=false then (0,[],1) else (val,c3,0))=if decide (M > 1048576)=true then .tup [.int .i64 0,.list [],.int .i64 1] else .tup [.int .i64 val,.list (qad (c3)),.int .i64 0]:=by
    rw[hmx]
    cases (c3).all (fun x=>decide (x≤1048576))<;>rfl
   rw[hT]
   clear hT hmx hy hdc hk5 hnx
   have fX:=(cJ5 @hz @hbn @hbk @hg1 @hg2)
   refine qag fn44 (by simp) ?_
   unfold i44
   simp only[argL]
   refine wR0 0 [1,2,4,7] fX ?_
   refine wRn 100 [2,4,7,11,12] fX ?_
   refine rC fX ?_
   refine⟨_,hst,rE fX ?_⟩
   refine wR0 200 [2,4,7,11,12,25] fX ?_
   refine wF @hz ?_
   refine wRn 400 [2,4,7,30] fX ?_
   refine rC fX ?_
   refine⟨_,hco,rE fX ?_⟩
   refine wF fX ?_
   refine wRn 600 [4,7,13,14] fX ?_
   refine rC fX ?_
   refine⟨_,hpp,rN fX ?_⟩
   refine rU [] [(300,sVv (x::l))] fX ?_
   refine⟨_,hcl,rE fX ?_⟩
   refine wR0 700 [4,7,14,15] fX ?_
   refine wRn 800 [4,7,14,15] fX ?_
   refine rUv [(604,sPls p),(605,sBox (l.length+1)),(300,sVv (x::l))] [(604,sPls p),(605,sBox (l.length+1)),(300,sVv c1)] fX ?_
   refine⟨_,hd1.fullL (by simp) (qel _ _ _ _),rE fX ?_⟩
   refine wR0 900 [4,7,14,15,44] fX ?_
   refine wF @hbn ?_
   refine wR0 1100 [7,14,15,16] fX ?_
   refine wR0 1200 [7,14,15,16,64] fX ?_
   refine wT @hbk ?_
   refine wRn 1300 [7,14] fX ?_
   refine rUv [(604,sPls p),(605,sBox (l.length+1)),(300,sVv c1)] [(604,sPls p),(605,sBox (l.length+1)),(300,sVv c3)] fX ?_
   refine⟨_,hd3.fullL (by simp) (qel _ _ _ _),rE fX ?_⟩
   refine wRn 1400 [7,14,71] fX ?_
   refine rL [(300,sVv c3)] fX ?_
   refine⟨_,_,hmt,(by (exact .cons (qbn c3 rfl hl3 hl3) .nil)),rfl,rE fX ?_⟩
   refine wS cJ0 (fun hc1400=>?_) (fun hc1400=>?_)
   ·skip
    refine wR0 1500 [8,9,10] fX ?_
    refine wP ?_
    rw[if_pos hc1400];exact qbU (.same rfl) .nil (.same rfl)
   ·skip
    refine wR0 1600 [8,9,10] fX ?_
    refine wP ?_
    rw[if_neg (by rw[hc1400];simp)];exact qbU (.same rfl) (qbn c3 rfl hl3 hl3) (.same rfl)
  ·have hbk:(kk==5)=false:=by simpa using h5
   rw[hdc (fun d=>d) (fun d=>by rw[if_neg h5])]
   have hl3:l.length+1=(c1).length:=by rw[l1];exact hxl
   obtain⟨y,ys,hy⟩:∃y ys,c1=y::ys:=by
    cases hq:c1 with
    | nil=>rw[hq] at hl3;simp at hl3
    | cons y ys=>exact⟨y,ys,rfl⟩
   have hmt:=qmR y ys (by rw[←hy];omega)
   have hmx:=qjM y ys
   rw[←hy] at hmt hmx
   generalize maxI ys y=M at*
   have hT:doT (if (c1).all (fun x=>decide (x≤1048576))=false then (0,[],1) else (val,c1,0))=if decide (M > 1048576)=true then .tup [.int .i64 0,.list [],.int .i64 1] else .tup [.int .i64 val,.list (qad (c1)),.int .i64 0]:=by
    rw[hmx]
    cases (c1).all (fun x=>decide (x≤1048576))<;>rfl
   rw[hT]
   clear hT hmx hy hdc hk5 hnx
   have fX:=(cJ5 @hz @hbn @hbk @hg1 @hg2)
   refine qag fn44 (by simp) ?_
   unfold i44
   simp only[argL]
   refine wR0 0 [1,2,4,7] fX ?_
   refine wRn 100 [2,4,7,11,12] fX ?_
   refine rC fX ?_
   refine⟨_,hst,rE fX ?_⟩
   refine wR0 200 [2,4,7,11,12,25] fX ?_
   refine wF @hz ?_
   refine wRn 400 [2,4,7,30] fX ?_
   refine rC fX ?_
   refine⟨_,hco,rE fX ?_⟩
   refine wF fX ?_
   refine wRn 600 [4,7,13,14] fX ?_
   refine rC fX ?_
   refine⟨_,hpp,rN fX ?_⟩
   refine rU [] [(300,sVv (x::l))] fX ?_
   refine⟨_,hcl,rE fX ?_⟩
   refine wR0 700 [4,7,14,15] fX ?_
   refine wRn 800 [4,7,14,15] fX ?_
   refine rUv [(604,sPls p),(605,sBox (l.length+1)),(300,sVv (x::l))] [(604,sPls p),(605,sBox (l.length+1)),(300,sVv c1)] fX ?_
   refine⟨_,hd1.fullL (by simp) (qel _ _ _ _),rE fX ?_⟩
   refine wR0 900 [4,7,14,15,44] fX ?_
   refine wF @hbn ?_
   refine wR0 1100 [7,14,15,16] fX ?_
   refine wR0 1200 [7,14,15,16,64] fX ?_
   refine wF @hbk ?_
   refine wRn 1400 [7,14,71] fX ?_
   refine rL [(300,sVv c1)] fX ?_
   refine⟨_,_,hmt,(by (exact .cons (qbn c1 rfl hl3 hl3) .nil)),rfl,rE fX ?_⟩
   refine wS cJ0 (fun hc1400=>?_) (fun hc1400=>?_)
   ·skip
    refine wR0 1500 [8,9,10] fX ?_
    refine wP ?_
    rw[if_pos hc1400];exact qbU (.same rfl) .nil (.same rfl)
   ·skip
    refine wR0 1600 [8,9,10] fX ?_
    refine wP ?_
    rw[if_neg (by rw[hc1400];simp)];exact qbU (.same rfl) (qbn c1 rfl hl3 hl3) (.same rfl)
set_option maxHeartbeats 16000000 in
theorem pdo_tp (p:Pg)(hp:p.fit)(v:Int)(c:List Int)(hc:c.length≤1000000)(e:Ev):TP Tryz.prog 44 [qar p,.int .i64 v,.list (qad c),.agg (evC e)] (doT (doP p v c e)):=by
 unfold doP
 have hst:=qfS p hp v c hc
 by_cases hr:rgtP p v c=0
 ·rw[if_neg (fun h=>h hr)]
  cases hin:(qaY p v c).any (fun x=>evB x e) with
  | true=>
   rw[if_neg (by simp)]
   obtain⟨x,hx,he⟩:=List.any_eq_true.1 hin
   obtain rfl:=(qfh _ _).1 he
   exact pdo_in p hp v c hr x hx
  | false=>
   rw[if_pos rfl]
   rw[qec,qeb,if_pos hr] at hst
   have hco:=qgy e (qaY p v c) (by have:=qf2 (qbq (qnd hr).1) v c;omega)
   rw[hin] at hco
   generalize qaY p v c=L at*
   have hz:((0:Int) != 0)=false:=rfl
   simp only[qar,pgC,evC] at hst hco ⊢
   clear hin
   have fX:=@hz
   refine qag fn44 (by simp) ?_
   unfold i44
   simp only[argL]
   refine wR0 0 [1,2,4,7] fX ?_
   refine wRn 100 [2,4,7,11,12] fX ?_
   refine rC fX ?_
   refine⟨_,hst,rE fX ?_⟩
   refine wR0 200 [2,4,7,11,12,25] fX ?_
   refine wF @hz ?_
   refine wRn 400 [2,4,7,30] fX ?_
   refine rC fX ?_
   refine⟨_,hco,rE fX ?_⟩
   refine wT fX ?_
   refine wR0 500 [8,9,10] fX ?_
   refine wP ?_
   exact qbU (.same rfl) .nil (.same rfl)
 ·rw[if_pos hr]
  rw[qec,qeb,if_neg hr] at hst
  have hz:(rgtP p v c != 0)=true:=by simpa using hr
  generalize rgtP p v c=r at*
  simp only[qar,pgC,evC] at hst ⊢
  have fX:=@hz
  refine qag fn44 (by simp) ?_
  unfold i44
  simp only[argL]
  refine wR0 0 [1,2,4,7] fX ?_
  refine wRn 100 [2,4,7,11,12] fX ?_
  refine rC fX ?_
  refine⟨_,hst,rE fX ?_⟩
  refine wR0 200 [2,4,7,11,12,25] fX ?_
  refine wT @hz ?_
  refine wR0 300 [8,9,10] fX ?_
  refine wP ?_
  exact qbU (.same rfl) .nil (.same rfl)
end
end Go.Proofs.YtkbjpglehdhjfaaGreatDoor
