/- Contracts of functions of the program, for all arguments that they name. -/
import Derived.Test.YtkbjpglehdhjfaaGreatDoorK15
namespace Go.Proofs.YtkbjpglehdhjfaaGreatDoor
set_option linter.unusedVariables false
section
open Go.RowKit
set_option maxHeartbeats 2000000
attribute [local simp] qaB qah qbo qaI
theorem qrL (a b:Ev):evB a b=evB b a:=by
 rw[Bool.eq_iff_iff,qfh,qfh];exact eq_comm
def idxE (e:Ev):List Ev→Int→Int
 | [],_ => -1
 | x::xs,i=>if evB e x=true then i else idxE e xs (i+1)
theorem qpq (e:Ev):∀(xs:List Ev) (i:Int),0≤i→decide (idxE e xs i≥0)=xs.any (fun x=>evB x e)
 | [],i,_=>rfl
 | x::xs,i,hi=>by
  rw[idxE,List.any_cons,qrL x e]
  by_cases h:evB e x=true
  ·rw[if_pos h,h,Bool.true_or];exact decide_eq_true hi
  ·rw[if_neg h,show evB e x=false from by simpa using h,Bool.false_or];exact qpq e xs (i+1) (by omega)
def idxP (e:Int×Int):List (Int×Int)→Int→Int
 | [],_ => -1
 | x::xs,i=>if (e.1==x.1&&e.2==x.2)=true then i else idxP e xs (i+1)
theorem qpr (e:Int×Int):∀(xs:List (Int×Int)) (j:Nat) (i:Int),xs[j]? = some e→(∀k,k<j→xs[k]?≠some e)→idxP e xs i=i+j
 | [],j,i,h,_=>by simp at h
 | x::xs,0,i,h,_=>by
  simp at h;subst h
  rw[idxP,if_pos (by simp)];simp
 | x::xs,j+1,i,h,hn=>by
  have h0:=hn 0 (by omega)
  simp at h0
  have:(e.1==x.1&&e.2==x.2)=false:=by
   rw[Bool.eq_false_iff]
   intro hc
   rw[Bool.and_eq_true,beq_iff_eq,beq_iff_eq] at hc
   exact h0 (Prod.ext hc.1.symm hc.2.symm)
  rw[idxP,if_neg (by rw[this];simp),qpr e xs j (i+1) (by simpa using h) (fun k hk=>by have:=hn (k+1) (by omega);simpa using this)]
  omega
set_option maxHeartbeats 4000000 in
theorem eidx_l (e:Ev)(xs:List Ev)(hl:xs.length≤1000000)(Q:IExit→(Nat→T)→Heap→Prop):∀(rest pre:List Ev),xs=pre++rest→
 (idxE e rest pre.length = -1→∀i:Int,Q (.exit 0) (ofL [(0,.list (qaG xs)),(3,.ref 0 5 0),(7,.int .i64 (qaG xs).length),(8,.int .i64 i),(9,.bool false)]) (hpL [(0,.live ⟨64,evC e⟩)]))→
 (idxE e rest pre.length ≠ -1→Q .ret (ofL [(4,.int .i64 (idxE e rest pre.length))]) (hpL [(0,.live ⟨64,evC e⟩)]))→
 WL Tryz.prog 19 qhv (ofL [(0,.list (qaG xs)),(3,.ref 0 5 0),(7,.int .i64 (qaG xs).length),(8,.int .i64 pre.length)]) (hpL [(0,.live ⟨64,evC e⟩)]) Q:=by
 intro rest
 induction rest with
 | nil=>
  intro pre he hQ0 hQ1
  have hd:decide ((pre.length:Int)<((qaG xs).length:Int))=false:=decide_eq_false (by rw[qbA,he];simp)
  have fX:=@hd
  refine qaa qhv.eq_1 ?_
  refine wR0 200 [0,3,7,8,9] fX ?_
  refine wF @hd ?_
  refine wX ?_
  refine wN ?_
  exact hQ0 rfl _
 | cons x rest ih=>
  intro pre he hQ0 hQ1
  have hlt:(pre.length:Int)<((qaG xs).length:Int):=by rw[qbA,he];simp;omega
  have hd:decide ((pre.length:Int)<((qaG xs).length:Int))=true:=decide_eq_true hlt
  have hpl:pre.length≤1000000:=by rw[he] at hl;simp at hl;omega
  have hw:IntKind.wrap .i64 ((pre.length:Int)+1)=((pre.length+1:Nat):Int):=by rw[wrap64 (by omega) (by omega)];rfl
  have hg:(qaG xs).getD (pre.length:Int).toNat .undef=.agg (evC x):=by have:=qb4 xs pre.length (by rw[he];simp);rw[this,he];simp[List.getD_eq_getElem?_getD]
  have hih:=ih (pre++[x]) (by rw[he];simp)
  rw[List.length_append,List.length_singleton] at hih
  rcases hb:evB e x with _ | _
  ·have e1:idxE e (x::rest) pre.length=idxE e rest ((pre.length+1:Nat):Int):=by rw[idxE,if_neg (by rw[hb];simp)];rfl
   rw[e1] at hQ0 hQ1
   simp only[evC,evB] at hb hg hih hQ0 hQ1 ⊢
   have fX:=(cJ8 @hd @hw @hg @qbx.eq_1 @qbx.eq_2 @eqT.eq_1 @eqT.eq_2 @hb)
   refine qaa qhv.eq_1 ?_
   refine wR0 200 [0,3,7,8,9] fX ?_
   refine wT @hd ?_
   refine wR0 300 [0,3,5,7,8] fX ?_
   refine wR0 400 [0,3,5,7,8,16] fX ?_
   refine wF fX ?_
   refine wR0 600 [0,3,7,8] fX ?_
   refine wN ?_
   exact hih hQ0 hQ1
  ·have e1:idxE e (x::rest) pre.length=pre.length:=by rw[idxE,if_pos hb]
   rw[e1] at hQ0 hQ1
   simp only[evC,evB] at hb hg hQ0 hQ1 ⊢
   have fX:=(cJ8 @hd @hw @hg @qbx.eq_1 @qbx.eq_2 @eqT.eq_1 @eqT.eq_2 @hb)
   refine qaa qhv.eq_1 ?_
   refine wR0 200 [0,3,7,8,9] fX ?_
   refine wT @hd ?_
   refine wR0 300 [0,3,5,7,8] fX ?_
   refine wR0 400 [0,3,5,7,8,16] fX ?_
   refine wT fX ?_
   refine wR0 500 [4] fX ?_
   refine wE ?_
   refine wN ?_
   exact hQ1 (by omega)
theorem qtU (e:Ev)(xs:List Ev)(hl:xs.length≤1000000):TP Tryz.prog 120 [.list (qaG xs),.agg (evC e)] (.int .i64 (idxE e xs 0)):=by
 have hL:=fun Q a b=>eidx_l e xs hl Q xs [] rfl a b
 simp only[evC,List.length_nil] at hL ⊢
 refine qag fn120 (by simp) ?_
 unfold i120
 simp only[argL]
 refine wR0 0 [0,3] cJ0 ?_
 refine wR0 100 [0,3,7,8] cJ0 ?_
 refine wL ?_
 refine hL _ ?_ ?_
 ·intro h i
  refine wN ?_
  refine wR0 700 [4] cJ0 ?_
  refine wP ?_
  exact qaC h.symm
 ·intro h
  refine wN ?_
  exact⟨by simp,_,rfl,by exact .same rfl⟩
set_option maxHeartbeats 4000000 in
theorem pidx_l (e:(Int×Int))(xs:List (Int×Int))(hl:xs.length≤1000000)(Q:IExit→(Nat→T)→Heap→Prop):∀(rest pre:List (Int×Int)),xs=pre++rest→
 (idxP e rest pre.length = -1→∀i:Int,Q (.exit 0) (ofL [(0,.list (qbe xs)),(3,.ref 0 2 0),(7,.int .i64 (qbe xs).length),(8,.int .i64 i),(9,.bool false)]) (hpL [(0,.live ⟨102,pC e⟩)]))→
 (idxP e rest pre.length ≠ -1→Q .ret (ofL [(4,.int .i64 (idxP e rest pre.length))]) (hpL [(0,.live ⟨102,pC e⟩)]))→
 WL Tryz.prog 19 qkA (ofL [(0,.list (qbe xs)),(3,.ref 0 2 0),(7,.int .i64 (qbe xs).length),(8,.int .i64 pre.length)]) (hpL [(0,.live ⟨102,pC e⟩)]) Q:=by
 intro rest
 induction rest with
 | nil=>
  intro pre he hQ0 hQ1
  have hd:decide ((pre.length:Int)<((qbe xs).length:Int))=false:=decide_eq_false (by rw[qa0,he];simp)
  have fX:=@hd
  refine qaa qkA.eq_1 ?_
  refine wR0 200 [0,3,7,8,9] fX ?_
  refine wF @hd ?_
  refine wX ?_
  refine wN ?_
  exact hQ0 rfl _
 | cons x rest ih=>
  intro pre he hQ0 hQ1
  have hlt:(pre.length:Int)<((qbe xs).length:Int):=by rw[qa0,he];simp;omega
  have hd:decide ((pre.length:Int)<((qbe xs).length:Int))=true:=decide_eq_true hlt
  have hpl:pre.length≤1000000:=by rw[he] at hl;simp at hl;omega
  have hw:IntKind.wrap .i64 ((pre.length:Int)+1)=((pre.length+1:Nat):Int):=by rw[wrap64 (by omega) (by omega)];rfl
  have hg:(qbe xs).getD (pre.length:Int).toNat .undef=.agg (pC x):=by rw[Int.toNat_natCast,he];exact qo5 pre x rest
  have hih:=ih (pre++[x]) (by rw[he];simp)
  rw[List.length_append,List.length_singleton] at hih
  rcases hb:(e.1==x.1&&e.2==x.2) with _ | _
  ·have e1:idxP e (x::rest) pre.length=idxP e rest ((pre.length+1:Nat):Int):=by rw[idxP,if_neg (by rw[hb];simp)];rfl
   rw[e1] at hQ0 hQ1
   simp only[pC] at hb hg hih hQ0 hQ1 ⊢
   have fX:=(cJ8 @hd @hw @hg @qbx.eq_1 @qbx.eq_2 @eqT.eq_1 @eqT.eq_2 @hb)
   refine qaa qkA.eq_1 ?_
   refine wR0 200 [0,3,7,8,9] fX ?_
   refine wT @hd ?_
   refine wR0 300 [0,3,5,7,8] fX ?_
   refine wR0 400 [0,3,5,7,8,16] fX ?_
   refine wF fX ?_
   refine wR0 600 [0,3,7,8] fX ?_
   refine wN ?_
   exact hih hQ0 hQ1
  ·have e1:idxP e (x::rest) pre.length=pre.length:=by rw[idxP,if_pos hb]
   rw[e1] at hQ0 hQ1
   simp only[pC] at hb hg hQ0 hQ1 ⊢
   have fX:=(cJ8 @hd @hw @hg @qbx.eq_1 @qbx.eq_2 @eqT.eq_1 @eqT.eq_2 @hb)
   refine qaa qkA.eq_1 ?_
   refine wR0 200 [0,3,7,8,9] fX ?_
   refine wT @hd ?_
   refine wR0 300 [0,3,5,7,8] fX ?_
   refine wR0 400 [0,3,5,7,8,16] fX ?_
   refine wT fX ?_
   refine wR0 500 [4] fX ?_
   refine wE ?_
   refine wN ?_
   exact hQ1 (by omega)
theorem qp9 (e:(Int×Int))(xs:List (Int×Int))(hl:xs.length≤1000000):TP Tryz.prog 43 [.list (qbe xs),.agg (pC e)] (.int .i64 (idxP e xs 0)):=by
 have hL:=fun Q a b=>pidx_l e xs hl Q xs [] rfl a b
 simp only[pC,List.length_nil] at hL ⊢
 refine qag fn43 (by simp) ?_
 unfold i43
 simp only[argL]
 refine wR0 0 [0,3] cJ0 ?_
 refine wR0 100 [0,3,7,8] cJ0 ?_
 refine wL ?_
 refine hL _ ?_ ?_
 ·intro h i
  refine wN ?_
  refine wR0 700 [4] cJ0 ?_
  refine wP ?_
  exact qaC h.symm
 ·intro h
  refine wN ?_
  exact⟨by simp,_,rfl,by exact .same rfl⟩
theorem qgy (e:Ev)(xs:List Ev)(hl:xs.length≤1000000):TP Tryz.prog 74 [.list (qaG xs),.agg (evC e)] (.bool (xs.any fun x=>evB x e)):=by
 have h:=qtU e xs hl
 simp only[evC] at h ⊢
 refine qag fn74 (by simp) ?_
 unfold i74
 simp only[argL]
 refine wR0 0 [0,3] cJ0 ?_
 refine wRn 100 [4] cJ0 ?_
 refine rC cJ0 ?_
 refine⟨_,h,rE cJ0 ?_⟩
 refine wP ?_
 exact qac (qpq e xs 0 (by omega))
def maxI:List Int→Int→Int
 | [],m=>m
 | x::xs,m=>maxI xs (if x > m then x else m)
theorem qpG:∀(xs:List Int) (m B:Int),decide (maxI xs m > B)=(decide (m > B) || xs.any fun x=>decide (x > B))
 | [],m,B=>by simp[maxI]
 | x::xs,m,B=>by
  rw[maxI,qpG xs,List.any_cons,←Bool.or_assoc]
  congr 1
  rw[Bool.eq_iff_iff]
  simp only[Bool.or_eq_true,decide_eq_true_eq]
  split<;>omega
set_option maxHeartbeats 4000000 in
theorem max_l (xs:List Int)(hl:xs.length≤1000000)(R:Int)(Q:IExit→(Nat→T)→Heap→Prop)(hQ:∀i:Int,Q (.exit 0) (ofL [(0,.list (qad xs)),(3,.int .i64 R),(4,.int .i64 i),(15,.bool false)]) (hpL [])):∀(rest pre:List Int) (m:Int),xs=pre++rest→maxI rest m=R→
 WL Tryz.prog 25 qmF (ofL [(0,.list (qad xs)),(3,.int .i64 m),(4,.int .i64 pre.length)]) (hpL []) Q:=by
 intro rest
 induction rest with
 | nil=>
  intro pre m he hR
  have hd:decide ((pre.length:Int)<((qad xs).length:Int))=false:=decide_eq_false (by rw[qae,he];simp)
  rw[maxI] at hR
  subst hR
  have fX:=@hd
  refine qaa qmF.eq_1 ?_
  refine wR0 500 [0,3,4,15] fX ?_
  refine wF @hd ?_
  refine wX ?_
  refine wN ?_
  exact hQ _
 | cons x rest ih=>
  intro pre m he hR
  have hlt:(pre.length:Int)<((qad xs).length:Int):=by rw[qae,he];simp;omega
  have hd:decide ((pre.length:Int)<((qad xs).length:Int))=true:=decide_eq_true hlt
  have hpl:pre.length≤1000000:=by rw[he] at hl;simp at hl;omega
  have hw:IntKind.wrap .i64 ((pre.length:Int)+1)=((pre.length+1:Nat):Int):=by rw[wrap64 (by omega) (by omega)];rfl
  have hg:(qad xs).getD (pre.length:Int).toNat .undef=.int .i64 x:=by rw[he];exact qgT pre x rest _ rfl
  have hih:=ih (pre++[x]) (if x > m then x else m) (by rw[he];simp) hR
  rw[List.length_append,List.length_singleton] at hih
  have fX:=(cJ3 @hd @hw @hg)
  refine qaa qmF.eq_1 ?_
  refine wR0 500 [0,3,4,15] fX ?_
  refine wT @hd ?_
  refine wR0 600 [0,3,4] fX ?_
  refine wR0 700 [0,3,4] fX ?_
  refine wN ?_
  exact hih
theorem qmR (x:Int)(xs:List Int)(hl:(x::xs).length≤1000000):TP Tryz.prog 77 [.list (qad (x::xs))] (.int .i64 (maxI xs x)):=by
 have hL:=fun Q a=>max_l (x::xs) hl (maxI xs x) Q a xs [x] x rfl rfl
 have hd:decide (((qad (x::xs)).length:Int)<1)=false:=decide_eq_false (by rw[qae];simp<;>omega)
 have h0:(0:Int)<((qad (x::xs)).length:Int):=by rw[qae];simp<;>omega
 have hg:(qad (x::xs)).getD (0:Int).toNat .undef=.int .i64 x:=rfl
 have hln:(([x]:List Int).length:Int)=1:=rfl
 rw[hln] at hL
 have fX:=(cJ2 @hd @hg)
 refine qag fn77 (by simp) ?_
 unfold i77
 simp only[argL]
 refine wR0 0 [0] fX ?_
 refine wR0 100 [0,7] fX ?_
 refine wF @hd ?_
 refine wR0 300 [0,3] fX ?_
 refine wR0 400 [0,3,4] fX ?_
 refine wL ?_
 refine hL _ ?_
 ·intro i
  refine wN ?_
  refine wR0 800 [2] fX ?_
  refine wP ?_
  exact .same rfl
end
section
open Go.RowKit
set_option maxHeartbeats 2000000
attribute [local simp] qau qav qaD qaJ qa1 qbo qaB qah qa5 qaI
theorem qdo (l:List Ev):sizedB 5 (qaG l)=true:=by
 rw[sizedB,List.all_eq_true]
 intro c hc
 obtain⟨x,_,rfl⟩:=List.mem_map.1 hc
 rfl
theorem qgV (l:List Ev):flat (qaG l)=l.flatMap evC:=qfl evC 5 (by omega) (fun _=>rfl) l
theorem qqb {p:Pg}(h:okP p=true):plP p=(plcs p).map intP:=by rw[plP,if_pos h,qtA];rfl
theorem qbV {p:Pg}(h:okP p=true):(plP p).length=(plcs p).length:=by rw[qqb h,List.length_map]
theorem qjZ {p:Pg}(h:okP p=true)(i:Nat)(hi:i<(plcs p).length):(qbe (plP p)).getD (i:Int).toNat .undef=encP ((((plcs p).getD i (0,0)).1:Int),(((plcs p).getD i (0,0)).2:Int)):=by
 rw[qqb h]
 simp[qbe,List.getD_eq_getElem?_getD,hi,intP]
theorem qiC (p:Pg)(v:Int)(c:List Int)(i f:Nat):(List.range' i (f+1)).flatMap (stE p v c)=stE p v c i++(List.range' (i+1) f).flatMap (stE p v c):=by
 rw[List.range'_succ,List.flatMap_cons]
abbrev psE (v:Int)(c:List Int)(ps:List T)(done:List Ev)(i:Int):List (Nat×T):=[(1,.int .i64 v),(2,.list (qad c)),(3,.ref 0 2 0),(10,qbt 1405 done),(37,.list ps),(38,.int .i64 ps.length),(39,.int .i64 i)]
abbrev psH (p:Pg)(done:List Ev):List (Nat×Slot):=[(0,.live ⟨28,pgC p⟩)]++qbj 1405 64 done
set_option maxHeartbeats 8000000 in
theorem qqf (p:Pg)(hp:p.fit)(hok:okP p=true)(v:Int)(c:List Int)(hcl:c.length=(plcs p).length)(R:List Ev)(Q:IExit→(Nat→T)→Heap→Prop)
 (hQ:∀j:Int,Q (.exit 0) (ofL (psE v c (qbe (plP p)) R j++[(40,.bool false)])) (hpL (psH p R))) :
 ∀(f i:Nat) (done:List Ev),i+f=(plcs p).length→done.length≤2*i→done++(List.range' i f).flatMap (stE p v c)=R→
 WL Tryz.prog 57 qer (ofL (psE v c (qbe (plP p)) done i)) (hpL (psH p done)) Q:=by
 have ho:=qbq hok
 have hpl:=qbV hok
 have h6:(plcs p).length≤6:=by rw[qbh];exact ho.six
 simp only[psE,psH,List.cons_append,List.nil_append] at hQ ⊢
 intro f
 induction f with
 | zero=>
  intro i done hi hdl hR
  have hd:decide ((i:Int)<((qbe (plP p)).length:Int))=false:=decide_eq_false (by rw[qa0];omega)
  simp only[List.range'_zero,List.flatMap_nil,List.append_nil] at hR
  subst hR
  have fX:=@hd
  refine qaa qer.eq_1 ?_
  refine wR0 1100 [1,2,3,10,37,38,39,40] fX ?_
  refine wF @hd ?_
  refine wX ?_
  refine wN ?_
  exact hQ _
 | succ f ih=>
  intro i done hi hdl hR
  have hil:i<(plcs p).length:=by omega
  have hlt:(i:Int)<((qbe (plP p)).length:Int):=by rw[qa0];omega
  have hlt2:(i:Int)<((qad c).length:Int):=by rw[qae];omega
  have hd:decide ((i:Int)<((qbe (plP p)).length:Int))=true:=decide_eq_true hlt
  have hw:IntKind.wrap .i64 ((i:Int)+1)=((i+1:Nat):Int):=by rw[wrap64 (by omega) (by omega)];rfl
  have hg:=qjZ hok i hil
  have hcg:=qcu c i (by omega)
  have hpi:=qcJ hil
  have hli:=(ho.thGet hpi.1).lnGet hpi.2
  have hev:=qn2 p hp _ _ hpi hli v
  have hel:=qji p v ((plcs p).getD i (0,0)).1 ((plcs p).getD i (0,0)).2
  have hst:stE p v c i=if c.getD i 0 > 0 then evL p v ((plcs p).getD i (0,0)).1 ((plcs p).getD i (0,0)).2 else []:=rfl
  rw[qiC] at hR
  have hQ':=ih (i+1) (done++stE p v c i) (by omega) (by rw[hst];split<;>simp only[List.length_append,List.length_nil]<;>omega) (by rw[←hR,List.append_assoc])
  generalize ((plcs p).getD i (0,0)).1=pi at*
  generalize ((plcs p).getD i (0,0)).2=pk at*
  simp only[encP,qar,pgC] at hg hev hQ hQ' ⊢
  by_cases hc:c.getD i 0 > 0
  ·have hcd:decide (c.getD i 0 > 0)=true:=decide_eq_true hc
   rw[hst,if_pos hc] at hQ'
   generalize evL p v pi pk=L at*
   match L,hel with
   | [],_=>
    rw[List.append_nil] at hQ'
    simp only[qaG,List.map_nil] at hev
    cases done with
    | nil=>
     simp only[qbt,qbj] at hQ' ⊢
     have fX:=(cJ5 @hd @hw @hg @hcg @hcd)
     refine qaa qer.eq_1 ?_
     refine W_gc ?_
     refine wR0 1100 [1,2,3,10,37,38,39,40] fX ?_
     refine wT @hd ?_
     refine wR0 1200 [1,2,3,10,11,12,37,38,39] fX ?_
     refine wR0 1300 [1,2,3,10,12,37,38,39,48] fX ?_
     refine wT @hcd ?_
     refine wRn 1400 [1,2,3,10,37,38,39] fX ?_
     refine rC fX ?_
     refine⟨_,hev,rE fX ?_⟩
     refine wR0 1500 [1,2,3,10,37,38,39] fX ?_
     refine wN ?_
     refine qay [0,1405] (by simp[inL]) (by simp[inL,T.cl]) (by simp[qaf,inL,Slot.cl,T.cl,clL]) ?_
     simpa [qaf,inL,evC] using hQ'
    | cons z zs=>
     simp only[qbt,qbj] at hQ' ⊢
     have fX:=(cJ5 @hd @hw @hg @hcg @hcd)
     refine qaa qer.eq_1 ?_
     refine W_gc ?_
     refine wR0 1100 [1,2,3,10,37,38,39,40] fX ?_
     refine wT @hd ?_
     refine wR0 1200 [1,2,3,10,11,12,37,38,39] fX ?_
     refine wR0 1300 [1,2,3,10,12,37,38,39,48] fX ?_
     refine wT @hcd ?_
     refine wRn 1400 [1,2,3,10,37,38,39] fX ?_
     refine rC fX ?_
     refine⟨_,hev,rE fX ?_⟩
     refine wR0 1500 [1,2,3,10,37,38,39] fX ?_
     refine wN ?_
     refine qay [0,1405] (by simp[inL]) (by simp[inL,T.cl]) (by simp[qaf,inL,Slot.cl,T.cl,clL,qa5,evC]) ?_
     simpa [qaf,inL,evC] using hQ'
   | [a],_=>
    have hsz:=qdo [a]
    have hff:=qgV [a]
    simp only[qaG,List.map_cons,List.map_nil,evC,List.flatMap_cons,List.flatMap_nil,List.append_nil] at hev hsz hff
    cases done with
    | nil=>
     simp only[qbt,qbj,List.nil_append,List.length_nil,List.flatMap_cons,List.flatMap_nil,List.append_nil] at hQ' ⊢
     have fX:=(cJ7 @hd @hw @hg @hcg @hcd @hsz @hff)
     refine qaa qer.eq_1 ?_
     refine W_gc ?_
     refine wR0 1100 [1,2,3,10,37,38,39,40] fX ?_
     refine wT @hd ?_
     refine wR0 1200 [1,2,3,10,11,12,37,38,39] fX ?_
     refine wR0 1300 [1,2,3,10,12,37,38,39,48] fX ?_
     refine wT @hcd ?_
     refine wRn 1400 [1,2,3,10,37,38,39] fX ?_
     refine rC fX ?_
     refine⟨_,hev,rE fX ?_⟩
     refine wR0 1500 [1,2,3,10,37,38,39] fX ?_
     refine wN ?_
     refine qay [0,1405] (by simp[inL]) (by simp[inL,T.cl]) (by simp[qaf,inL,Slot.cl,T.cl,clL]) ?_
     simpa [qaf,inL,evC] using hQ'
    | cons z zs=>
     have hsn:∀c:Ev,(z::(zs++[c])).flatMap evC=(z::zs).flatMap evC++evC c:=fun c=>by simp[List.flatMap_append]
     have hm2:(zs.length+1+1)*5=(zs.length+1)*5+5:=by omega
     have hfl:((z::zs).flatMap evC).length=(zs.length+1)*5:=qdV _
     have hzb:zs.length+1≤1000:=by simp at hdl;omega
     simp only[qbt,qbj,List.cons_append,List.length_append,List.length_cons,List.length_nil,Nat.zero_add,hsn,hm2] at hQ' ⊢
     have fX:=(cJ8 @hd @hw @hg @hcg @hcd @hsz @hff @hfl)
     refine qaa qer.eq_1 ?_
     refine W_gc ?_
     refine wR0 1100 [1,2,3,10,37,38,39,40] fX ?_
     refine wT @hd ?_
     refine wR0 1200 [1,2,3,10,11,12,37,38,39] fX ?_
     refine wR0 1300 [1,2,3,10,12,37,38,39,48] fX ?_
     refine wT @hcd ?_
     refine wRn 1400 [1,2,3,10,37,38,39] fX ?_
     refine rC fX ?_
     refine⟨_,hev,rE fX ?_⟩
     refine wR0 1500 [1,2,3,10,37,38,39] fX ?_
     refine wN ?_
     refine qay [0,1405] (by simp[inL]) (by simp[inL,T.cl]) (by simp[qaf,inL,Slot.cl,T.cl,clL,qab,qa5,evC]) ?_
     simpa [qaf,inL,evC] using hQ'
   | [a,b],_=>
    have hsz:=qdo [a,b]
    have hff:=qgV [a,b]
    simp only[qaG,List.map_cons,List.map_nil,evC,List.flatMap_cons,List.flatMap_nil,List.append_nil,List.cons_append,List.nil_append] at hev hsz hff
    cases done with
    | nil=>
     simp only[qbt,qbj,List.nil_append,List.length_nil,List.length_cons,List.flatMap_cons,List.flatMap_nil,List.append_nil,Nat.zero_add] at hQ' ⊢
     have fX:=(cJ7 @hd @hw @hg @hcg @hcd @hsz @hff)
     refine qaa qer.eq_1 ?_
     refine W_gc ?_
     refine wR0 1100 [1,2,3,10,37,38,39,40] fX ?_
     refine wT @hd ?_
     refine wR0 1200 [1,2,3,10,11,12,37,38,39] fX ?_
     refine wR0 1300 [1,2,3,10,12,37,38,39,48] fX ?_
     refine wT @hcd ?_
     refine wRn 1400 [1,2,3,10,37,38,39] fX ?_
     refine rC fX ?_
     refine⟨_,hev,rE fX ?_⟩
     refine wR0 1500 [1,2,3,10,37,38,39] fX ?_
     refine wN ?_
     refine qay [0,1405] (by simp[inL]) (by simp[inL,T.cl]) (by simp[qaf,inL,Slot.cl,T.cl,clL]) ?_
     simpa [qaf,inL,evC] using hQ'
    | cons z zs=>
     have hsn:∀c d:Ev,(z::(zs++[c,d])).flatMap evC=(z::zs).flatMap evC++(evC c++evC d):=fun c d=>by simp[List.flatMap_append]
     have hm2:(zs.length+1+1+1)*5=(zs.length+1)*5+10:=by omega
     have hfl:((z::zs).flatMap evC).length=(zs.length+1)*5:=qdV _
     have hzb:zs.length+1≤1000:=by simp at hdl;omega
     simp only[qbt,qbj,List.cons_append,List.length_append,List.length_cons,List.length_nil,Nat.zero_add,←Nat.add_assoc,hsn,hm2] at hQ' ⊢
     have fX:=(cJ8 @hd @hw @hg @hcg @hcd @hsz @hff @hfl)
     refine qaa qer.eq_1 ?_
     refine W_gc ?_
     refine wR0 1100 [1,2,3,10,37,38,39,40] fX ?_
     refine wT @hd ?_
     refine wR0 1200 [1,2,3,10,11,12,37,38,39] fX ?_
     refine wR0 1300 [1,2,3,10,12,37,38,39,48] fX ?_
     refine wT @hcd ?_
     refine wRn 1400 [1,2,3,10,37,38,39] fX ?_
     refine rC fX ?_
     refine⟨_,hev,rE fX ?_⟩
     refine wR0 1500 [1,2,3,10,37,38,39] fX ?_
     refine wN ?_
     refine qay [0,1405] (by simp[inL]) (by simp[inL,T.cl]) (by simp[qaf,inL,Slot.cl,T.cl,clL,qab,qa5,evC]) ?_
     simpa [qaf,inL,evC] using hQ'
   | a::b::e::l,h=>simp only[List.length_cons] at h;omega
  ·have hcd:decide (c.getD i 0 > 0)=false:=decide_eq_false hc
   rw[hst,if_neg hc,List.append_nil] at hQ'
   cases done with
   | nil=>
    simp only[qbt,qbj] at hQ' ⊢
    have fX:=(cJ5 @hd @hw @hg @hcg @hcd)
    refine qaa qer.eq_1 ?_
    refine W_gc ?_
    refine wR0 1100 [1,2,3,10,37,38,39,40] fX ?_
    refine wT @hd ?_
    refine wR0 1200 [1,2,3,10,11,12,37,38,39] fX ?_
    refine wR0 1300 [1,2,3,10,12,37,38,39,48] fX ?_
    refine wF @hcd ?_
    refine wR0 1500 [1,2,3,10,37,38,39] fX ?_
    refine wN ?_
    refine qay [0,1405] (by simp[inL]) (by simp[inL,T.cl]) (by simp[qaf,inL,Slot.cl,T.cl,clL]) ?_
    simpa [qaf,inL,evC] using hQ'
   | cons z zs=>
    simp only[qbt,qbj] at hQ' ⊢
    have fX:=(cJ5 @hd @hw @hg @hcg @hcd)
    refine qaa qer.eq_1 ?_
    refine W_gc ?_
    refine wR0 1100 [1,2,3,10,37,38,39,40] fX ?_
    refine wT @hd ?_
    refine wR0 1200 [1,2,3,10,11,12,37,38,39] fX ?_
    refine wR0 1300 [1,2,3,10,12,37,38,39,48] fX ?_
    refine wF @hcd ?_
    refine wR0 1500 [1,2,3,10,37,38,39] fX ?_
    refine wN ?_
    refine qay [0,1405] (by simp[inL]) (by simp[inL,T.cl]) (by simp[qaf,inL,Slot.cl,T.cl,clL,qa5,evC]) ?_
    simpa [qaf,inL,evC] using hQ'
theorem qiS (x:Int):TP Tryz.prog 91 [.int .i64 x] (.bool (!finN x)):=by
 refine qag fn91 (by simp) ?_
 unfold i91
 simp only[argL]
 refine wR0 0 [0] cJ0 ?_
 refine wR0 100 [2] cJ0 ?_
 refine wP ?_
 exact qac (by simp only[finN];rw[Bool.eq_iff_iff];simp)
def qec (p:Pg)(v:Int)(c:List Int):T:=.tup [.list (qaG (qeb p v c).1),.int .i64 (qeb p v c).2]
set_option maxHeartbeats 8000000 in
theorem qfS (p:Pg)(hp:p.fit)(v:Int)(c:List Int)(hc:c.length≤1000000):TP Tryz.prog 50 [qar p,.int .i64 v,.list (qad c)] (qec p v c):=by
 have hck:=qfR p hp
 have hpp:=qc0 p hp
 have hcf:=qir 91 [] rfl (fun x=>!finN x) c hc (fun x _=>qiS x)
 have z0:((0:Int) != 0)=false:=rfl
 have z47:((47:Int) != 0)=true:=rfl
 have hal:(c.any fun x=>!finN x)=!c.all finN:=by
  induction c with
  | nil=>rfl
  | cons x c ih=>rw[List.any_cons,List.all_cons,ih (by simp at hc;omega) (qir 91 [] rfl (fun x=>!finN x) c (by simp at hc;omega) (fun x _=>qiS x))];cases finN x<;>rfl
 rw[hal] at hcf
 rw[qec,qeb]
 rcases hok:okP p with _ | _
 ·have hr:rgtP p v c=47:=by rw[rgtP,if_pos hok]
  rw[ckPg,if_neg (by rw[hok];simp)] at hck
  rw[hr,if_neg (by omega)]
  simp only[qar,pgC] at hck ⊢
  have fX:=@z47
  refine qag fn50 (by simp) ?_
  unfold i50
  simp only[argL]
  refine wR0 0 [1,2,3] fX ?_
  refine wRn 100 [1,2,3,8] fX ?_
  refine rC fX ?_
  refine⟨_,hck,rE fX ?_⟩
  refine wR0 200 [1,2,3,8,16] fX ?_
  refine wT @z47 ?_
  refine wR0 300 [6,7] fX ?_
  refine wP ?_
  exact qaK .nil (.same rfl)
 ·rw[ckPg,if_pos hok] at hck
  by_cases hv:v<0∨p.vals≤v
  ·have hr:rgtP p v c=2:=by rw[rgtP,if_neg (by rw[hok];simp),if_pos hv]
   have hb:(decide (v<0) || decide (v≥p.vals))=true:=by simp;omega
   rw[hr,if_neg (by omega)]
   simp only[qar,pgC] at hck ⊢
   have fX:=(cJ4 @z0 @hb @Bool.true_or @Bool.or_true)
   refine qag fn50 (by simp) ?_
   unfold i50
   simp only[argL]
   refine wR0 0 [1,2,3] fX ?_
   refine wRn 100 [1,2,3,8] fX ?_
   refine rC fX ?_
   refine⟨_,hck,rE fX ?_⟩
   refine wR0 200 [1,2,3,8,16] fX ?_
   refine wF @z0 ?_
   refine wR0 400 [1,2,3,29] fX ?_
   refine wT fX ?_
   refine wR0 500 [6,7] fX ?_
   refine wP ?_
   exact qaK .nil (.same rfl)
  ·have hb:(decide (v<0) || decide (v≥p.vals))=false:=by simp;omega
   rcases hf:c.all finN with _ | _
   ·have hr:rgtP p v c=2:=by rw[rgtP,if_neg (by rw[hok];simp),if_neg hv,if_pos hf]
    rw[hf] at hcf
    rw[hr,if_neg (by omega)]
    simp only[qar,pgC] at hck ⊢
    have fX:=(cJ2 @z0 @hb)
    refine qag fn50 (by simp) ?_
    unfold i50
    simp only[argL]
    refine wR0 0 [1,2,3] fX ?_
    refine wRn 100 [1,2,3,8] fX ?_
    refine rC fX ?_
    refine⟨_,hck,rE fX ?_⟩
    refine wR0 200 [1,2,3,8,16] fX ?_
    refine wF @z0 ?_
    refine wRn 400 [1,2,3,29] fX ?_
    refine rCi fX ?_
    refine⟨_,fun hw=>hcf,rE fX ?_⟩
    refine wT fX ?_
    refine wR0 500 [6,7] fX ?_
    refine wP ?_
    exact qaK .nil (.same rfl)
   ·rw[hf] at hcf
    have hpl:=qbV hok
    by_cases hl:c.length=(plcs p).length
    ·have hr:rgtP p v c=0:=by rw[rgtP,if_neg (by rw[hok];simp),if_neg hv,if_neg (by rw[hf];simp),if_neg (fun h=>h hl)]
     have hn:(((qad c).length:Int) != ((qbe (plP p)).length:Int))=false:=by rw[qae,qa0,hpl,hl];simp
     have hL:=fun Q a=>qqf p hp hok v c hl (qaY p v c) Q a (plcs p).length 0 [] (by omega) (by simp) rfl
     rw[hr,if_pos rfl]
     generalize qaY p v c=R at*
     simp only[psE,psH,qar,pgC,qbt,qbj,List.cons_append,List.nil_append,List.append_nil] at hck hpp hL ⊢
     cases R with
     | nil=>
      simp only at hL
      have fX:=(cJ3 @z0 @hb @hn)
      refine qag fn50 (by simp) ?_
      unfold i50
      simp only[argL]
      refine wR0 0 [1,2,3] fX ?_
      refine wRn 100 [1,2,3,8] fX ?_
      refine rC fX ?_
      refine⟨_,hck,rE fX ?_⟩
      refine wR0 200 [1,2,3,8,16] fX ?_
      refine wF @z0 ?_
      refine wRn 400 [1,2,3,29] fX ?_
      refine rCi fX ?_
      refine⟨_,fun hw=>hcf,rE fX ?_⟩
      refine wF fX ?_
      refine wRn 600 [1,2,3,9] fX ?_
      refine rC fX ?_
      refine⟨_,hpp,rE fX ?_⟩
      refine wR0 700 [1,2,3,9,36] fX ?_
      refine wF @hn ?_
      refine wR0 900 [1,2,3,9,10] fX ?_
      refine wR0 1000 [1,2,3,10,37,38,39] fX ?_
      refine wL ?_
      refine hL _ ?_
      ·intro j
       refine wN ?_
       refine wR0 1600 [6,7] fX ?_
       refine wP ?_
       exact qaK .nil (.same rfl)
     | cons z zs=>
      simp only at hL
      have fX:=(cJ3 @z0 @hb @hn)
      refine qag fn50 (by simp) ?_
      unfold i50
      simp only[argL]
      refine wR0 0 [1,2,3] fX ?_
      refine wRn 100 [1,2,3,8] fX ?_
      refine rC fX ?_
      refine⟨_,hck,rE fX ?_⟩
      refine wR0 200 [1,2,3,8,16] fX ?_
      refine wF @z0 ?_
      refine wRn 400 [1,2,3,29] fX ?_
      refine rCi fX ?_
      refine⟨_,fun hw=>hcf,rE fX ?_⟩
      refine wF fX ?_
      refine wRn 600 [1,2,3,9] fX ?_
      refine rC fX ?_
      refine⟨_,hpp,rE fX ?_⟩
      refine wR0 700 [1,2,3,9,36] fX ?_
      refine wF @hn ?_
      refine wR0 900 [1,2,3,9,10] fX ?_
      refine wR0 1000 [1,2,3,10,37,38,39] fX ?_
      refine wL ?_
      refine hL _ ?_
      ·intro j
       refine wN ?_
       refine wR0 1600 [6,7] fX ?_
       refine wP ?_
       exact qaK (qbb (z::zs) rfl rfl rfl) (.same rfl)
    ·have hr:rgtP p v c=3:=by rw[rgtP,if_neg (by rw[hok];simp),if_neg hv,if_neg (by rw[hf];simp),if_pos hl]
     have hn:(((qad c).length:Int) != ((qbe (plP p)).length:Int))=true:=by rw[qae,qa0,hpl,bne_iff_ne];omega
     rw[hr,if_neg (by omega)]
     simp only[qar,pgC] at hck hpp ⊢
     have fX:=(cJ3 @z0 @hb @hn)
     refine qag fn50 (by simp) ?_
     unfold i50
     simp only[argL]
     refine wR0 0 [1,2,3] fX ?_
     refine wRn 100 [1,2,3,8] fX ?_
     refine rC fX ?_
     refine⟨_,hck,rE fX ?_⟩
     refine wR0 200 [1,2,3,8,16] fX ?_
     refine wF @z0 ?_
     refine wRn 400 [1,2,3,29] fX ?_
     refine rCi fX ?_
     refine⟨_,fun hw=>hcf,rE fX ?_⟩
     refine wF fX ?_
     refine wRn 600 [1,2,3,9] fX ?_
     refine rC fX ?_
     refine⟨_,hpp,rE fX ?_⟩
     refine wR0 700 [1,2,3,9,36] fX ?_
     refine wT @hn ?_
     refine wR0 800 [6,7] fX ?_
     refine wP ?_
     exact qaK .nil (.same rfl)
end
end Go.Proofs.YtkbjpglehdhjfaaGreatDoor
