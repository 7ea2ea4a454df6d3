/- Contracts of functions of the program, for all arguments that they name. -/
import Derived.Test.YtoeeppojakbciaaGreatK02
import Derived.Test.YtoeeppojakbciaaGreatK03
import Derived.Test.YtoeeppojakbciaaGreatK05
import Derived.Test.YtoeeppojakbciaaGreatK20
import Derived.Test.YtoeeppojakbciaaGreatK27
namespace Go.Proofs.YtoeeppojakbciaaGreat
set_option linter.unusedVariables false
section
open Go.RowKit
set_option maxHeartbeats 2000000
attribute [local simp] qcl qae qa2 qaJ
def idxL (p:Nat→Bool):Nat→Nat→Int
 | _,0 => -1
 | i,k+1=>if p i=true then i else idxL p (i+1) k
theorem qoM (p:Nat→Bool):∀(k i:Nat),decide (idxL p i k≥0)=!allI (fun j=>!p j) i k
 | 0,i=>by simp[idxL,allI]
 | k+1,i=>by
  have ih:=qoM p k (i+1)
  rw[idxL,allI]
  cases h:p i with
  | true=>simp
  | false=>simpa using ih
theorem lidx_l (f:FuncId)(caps:List T)(hcaps:clL (fun _=>false) caps=true)(p:Lm→Bool)(xs:List Lm)(hl:xs.length≤100000)(hk:∀x∈xs,TP Tryz.prog f ([qcp x]++caps) (.bool (p x)))(R:Int)(Q:IExit→(Nat→T)→Heap→Prop)
 (hQ0:R = -1→∀j:Int,Q (.exit 0) (ofL [(0,.list (qaA xs)),(1,.fn f caps),(7,.int .i64 (qaA xs).length),(8,.int .i64 j),(9,.bool false)]) (hpL []))
 (hQ1:Q .ret (ofL [(4,.int .i64 R)]) (hpL [])) :
 ∀(k i:Nat),i+k=xs.length→idxL (fun j=>p (xs.getD j default)) i k=R→
 WL Tryz.prog 19 qjF (ofL [(0,.list (qaA xs)),(1,.fn f caps),(7,.int .i64 (qaA xs).length),(8,.int .i64 i)]) (hpL []) Q:=by
 intro k
 induction k with
 | zero=>
  intro i hi hR
  have hd:decide ((i:Int)<((qaA xs).length:Int))=false:=decide_eq_false (by rw[qaZ];omega)
  rw[idxL] at hR
  have fX:=@hd
  refine qaa qjF.eq_1 ?_
  refine wR0 200 [0,1,7,8,9] fX ?_
  refine wF @hd ?_
  refine wX ?_
  refine wN ?_
  exact hQ0 hR.symm _
 | succ k ih=>
  intro i hi hR
  have hil:i<xs.length:=by omega
  have hlt:(i:Int)<((qaA xs).length:Int):=by rw[qaZ];omega
  have hd:decide ((i:Int)<((qaA xs).length:Int))=true:=decide_eq_true hlt
  have hw:IntKind.wrap .i64 ((i:Int)+1)=((i+1:Nat):Int):=by rw[wrap64 (by omega) (by omega)];rfl
  have hg:=qb8 xs i hil
  have hcl:=hk (xs.getD i default) (by simp[List.getD_eq_getElem?_getD,hil])
  rw[idxL] at hR
  have hih:=ih (i+1) (by omega)
  generalize xs.getD i default=x at*
  simp only[qcp,lmC] at hcl
  cases hp:p x with
  | true=>
   rw[hp] at hcl
   rw[hp,if_pos rfl] at hR
   subst hR
   have fX:=(cJ3 @hd @hw @hg)
   refine qaa qjF.eq_1 ?_
   refine wR0 200 [0,1,7,8,9] fX ?_
   refine wT @hd ?_
   refine wR0 300 [0,1,5,7,8] fX ?_
   refine wRn 400 [0,1,5,7,8,16] fX ?_
   refine rCv fX ?_
   refine⟨_,hcl,rE fX ?_⟩
   refine wT fX ?_
   refine wR0 500 [4] fX ?_
   refine wE ?_
   refine wN ?_
   exact hQ1
  | false=>
   rw[hp] at hcl
   rw[hp,if_neg (by simp)] at hR
   have hQ':=hih hR
   have fX:=(cJ3 @hd @hw @hg)
   refine qaa qjF.eq_1 ?_
   refine wR0 200 [0,1,7,8,9] fX ?_
   refine wT @hd ?_
   refine wR0 300 [0,1,5,7,8] fX ?_
   refine wRn 400 [0,1,5,7,8,16] fX ?_
   refine rCv fX ?_
   refine⟨_,hcl,rE fX ?_⟩
   refine wF fX ?_
   refine wR0 600 [0,1,7,8] fX ?_
   refine wN ?_
   exact hQ'
theorem qts (f:FuncId)(caps:List T)(hcaps:clL (fun _=>false) caps=true)(p:Lm→Bool)(xs:List Lm)(hl:xs.length≤100000)(hk:∀x∈xs,TP Tryz.prog f ([qcp x]++caps) (.bool (p x))):TP Tryz.prog 61 [.list (qaA xs),.fn f caps] (.int .i64 (idxL (fun j=>p (xs.getD j default)) 0 xs.length)):=by
 obtain⟨R,hR⟩:∃R,idxL (fun j=>p (xs.getD j default)) 0 xs.length=R:=⟨_,rfl⟩
 have hL:=fun Q h0 h1=>lidx_l f caps hcaps p xs hl hk R Q h0 h1 xs.length 0 (by omega) hR
 rw[hR]
 refine qah fn61 (by simp) ?_
 unfold i61
 simp only[argL]
 refine wR0 0 [0,1] cJ0 ?_
 refine wR0 100 [0,1,7,8] cJ0 ?_
 refine wL ?_
 refine hL _ ?_ ?_
 ·intro h j
  refine wN ?_
  refine wR0 700 [4] cJ0 ?_
  refine wP ?_
  (rw[h];exact .same rfl)
 ·skip
  refine wN ?_
  exact⟨by simp,_,rfl,by exact .same rfl⟩
theorem qq1 (f:FuncId)(caps:List T)(hcaps:clL (fun _=>false) caps=true)(p:Lm→Bool)(xs:List Lm)(hl:xs.length≤100000)(hk:∀x∈xs,TP Tryz.prog f ([qcp x]++caps) (.bool (p x))):TP Tryz.prog 39 [.list (qaA xs),.fn f caps] (.bool (xs.any p)):=by
 have hx:=qts f caps hcaps p xs hl hk
 have he:xs.any p=!allI (fun j=>!p (xs.getD j default)) 0 xs.length:=by
  rw[Bool.eq_iff_iff,Bool.not_eq_true',←Bool.not_eq_true,qbv,List.any_eq_true]
  constructor
  ·rintro ⟨x,hx,hp⟩ h
   obtain⟨j,hj,rfl⟩:=List.getElem_of_mem hx
   have:=h j (Nat.zero_le _) (by omega)
   simp[List.getD_eq_getElem?_getD,hj,hp] at this
  ·intro h
   refine Classical.byContradiction fun hn=>h fun j _ hj=>?_
   rw[Bool.not_eq_true',←Bool.not_eq_true]
   exact fun hp=>hn ⟨_,by simp[List.getD_eq_getElem?_getD,show j<xs.length by omega],hp⟩
 rw[he,←qoM]
 refine qah fn39 (by simp) ?_
 unfold i39
 simp only[argL]
 refine wR0 0 [0,1] cJ0 ?_
 refine wRn 100 [4] cJ0 ?_
 refine rC cJ0 ?_
 refine⟨_,hx,rE cJ0 ?_⟩
 refine wP ?_
 exact .same rfl
def covL (L:List Lm)(s:Int)(v:List Int):Bool:=L.any fun x=>(x.st==s)&&vLe v x.vec
theorem qsQ (x:Lm)(hx:x.vec.length≤1000000)(s:Int)(v:List Int)(hv:v.length≤1000000):TP Tryz.prog 40 [qcp x,.ptr [.int .i64 s],.ptr [.list (qac v)]] (.bool ((x.st==s)&&vLe v x.vec)):=by
 have hle:=qi5 v x.vec hv hx
 simp only[qcp,lmC]
 cases hs:(x.st==s) with
 | true=>
  have fX:=@hs
  refine qah fn40 (by simp) ?_
  unfold i40
  simp only[argL]
  refine wR0 0 [1,2,3] fX ?_
  refine wRn 100 [4] fX ?_
  refine rC fX ?_
  refine⟨_,hle,rE fX ?_⟩
  refine wP ?_
  exact .same rfl
 | false=>
  have fX:=@hs
  refine qah fn40 (by simp) ?_
  unfold i40
  simp only[argL]
  refine wR0 0 [1,2,3] fX ?_
  refine wR0 100 [4] fX ?_
  refine wP ?_
  exact .same rfl
theorem qeI (L:List Lm)(hl:L.length≤100000)(hv:∀x∈L,x.vec.length≤1000000)(s:Int)(v:List Int)(hvl:v.length≤1000000):TP Tryz.prog 14 [.list (qaA L),.int .i64 s,.list (qac v)] (.bool (covL L s v)):=by
 have hc:=qq1 40 [.ptr [.int .i64 s],.ptr [.list (qac v)]] (by simp[clL,T.cl]) (fun x=>(x.st==s)&&vLe v x.vec) L hl (fun x hx=>qsQ x (hv x hx) s v hvl)
 have hfz:∀H:Heap,H 0=.live ⟨3,[.int .i64 s]⟩→H 1=.live ⟨27,[.list (qac v)]⟩→FrzL H [.list (qaA L),.fn 40 [.ref 0 1 0,.ref 1 1 0]] [.list (qaA L),.fn 40 [.ptr [.int .i64 s],.ptr [.list (qac v)]]]:=fun H h0 h1=>by
  have one:∀(id:Nat) (ty:TypeId) (x:T),H id=.live ⟨ty,[x]⟩→x.one=true→x.fro=true→Frz H (.ref id 1 0) (.ptr [x]):=fun id ty x h h1 h2=>by
   refine .ref h rfl (Nat.le_refl 1) (fun c hc=>by rw[List.mem_singleton.1 hc];exact h1) fun k hk=>?_
   have:k=0:=by simpa using hk
   subst this
   exact .same h2
  refine .cons (.same (by simp[T.fro,T.cl])) (.cons (.fn rfl fun i hi=>?_) .nil)
  match i,hi with
  | 0,_=>exact one 0 _ _ h0 rfl rfl
  | 1,_=>exact one 1 _ _ h1 rfl (by simp[T.fro,T.cl])
 refine qah fn14 (by simp) ?_
 unfold i14
 simp only[argL]
 refine wR0 0 [0,4,5] cJ0 ?_
 refine wRn 100 [6] cJ0 ?_
 refine rL [(0,.live ⟨_,_⟩),(1,.live ⟨_,_⟩)] cJ0 ?_
 refine⟨_,_,hc,(by exact hfz _ rfl rfl),rfl,rE cJ0 ?_⟩
 refine wP ?_
 exact .same rfl
end
section
open Go.RowKit
set_option maxHeartbeats 2000000
attribute [local simp] qae qaJ
def qdu (l:List Int)(i:Nat):List Int:=(List.range l.length).map fun k=>if k<i∨l.length - i≤k then l.getD (l.length - 1 - k) 0 else l.getD k 0
theorem qcE (l:List Int)(i:Nat):(qdu l i).length=l.length:=by simp[qdu]
theorem qde (l:List Int)(i k:Nat)(h:k<l.length):(qdu l i).getD k 0=if k<i∨l.length - i≤k then l.getD (l.length - 1 - k) 0 else l.getD k 0:=by
 simp[qdu,List.getD_eq_getElem?_getD,h]
theorem qnw (l:List Int):qdu l 0=l:=by
 apply List.ext_getElem (qcE l 0)
 intro k h1 h2
 have:=qde l 0 k h2
 rw[if_neg (by omega)] at this
 simpa [List.getD_eq_getElem?_getD,h1,h2] using this
theorem qj4 (l:List Int)(i:Nat)(h:l.length≤2*i+1):qdu l i=l.reverse:=by
 apply List.ext_getElem (by rw[qcE,List.length_reverse])
 intro k h1 h2
 have hk:k<l.length:=by rw[qcE] at h1;exact h1
 have:=qde l i k hk
 have e:(qdu l i)[k]=(qdu l i).getD k 0:=by simp[List.getD_eq_getElem?_getD,h1]
 rw[e,this,List.getElem_reverse]
 split
 ·simp[List.getD_eq_getElem?_getD,show l.length - 1 - k<l.length by omega]
 ·have e:l.length - 1 - k=k:=by omega
  simp[List.getD_eq_getElem?_getD,hk,e]
theorem qnv (l:List Int)(i:Nat)(h:2*i+1<l.length):qdu l (i+1)=((qdu l i).set i ((qdu l i).getD (l.length - 1 - i) 0)).set (l.length - 1 - i) ((qdu l i).getD i 0):=by
 rw[qde l i _ (by omega),qde l i _ (by omega),if_neg (by omega),if_neg (by omega)]
 apply List.ext_getElem (by simp[qcE])
 intro k h1 h2
 have hk:k<l.length:=by rw[qcE] at h1;exact h1
 have e1:(qdu l (i+1))[k]=(qdu l (i+1)).getD k 0:=by simp[List.getD_eq_getElem?_getD,h1]
 have h3:k<(qdu l i).length:=by rw[qcE];exact hk
 have e2:(qdu l i)[k]=(qdu l i).getD k 0:=by simp[List.getD_eq_getElem?_getD,h3]
 rw[e1,qde l _ k hk,List.getElem_set,List.getElem_set,e2,qde l i k hk]
 by_cases a:l.length - 1 - i=k
 ·rw[if_pos (by omega),if_pos a]
  congr 1;omega
 ·rw[if_neg a]
  by_cases b:i=k
  ·rw[if_pos (by omega),if_pos b,b]
  ·rw[if_neg b]
   by_cases c:k<i∨l.length - i≤k
   ·rw[if_pos (by omega),if_pos c]
   ·rw[if_neg (by omega),if_neg c]
set_option maxHeartbeats 4000000 in
theorem rev_l (l:List Int)(n:Nat)(hn:l.length=n)(h0:0<n)(hl:n≤100000)(Q:IExit→(Nat→T)→Heap→Prop)
 (hQ:∀i j:Int,Q (.exit 0) (ofL [(0,.sl 508 n 0 0 n),(2,.int .i64 i),(3,.int .i64 j),(9,.bool false)]) (hpL [(508,sVv l.reverse)])) :
 ∀(f i j:Nat),n≤2*(i+f)→2*i≤n→j+1+i=n→
 WL Tryz.prog 28 qhI (ofL [(0,.sl 508 n 0 0 n),(2,.int .i64 i),(3,.int .i64 j)]) (hpL [(508,sVv (qdu l i))]) Q:=by
 intro f
 induction f with
 | zero=>
  intro i j hf hi hj
  have hd:decide ((i:Int)<(j:Int))=false:=decide_eq_false (by omega)
  rw[qj4 l i (by omega)]
  have fX:=@hd
  refine qaa qhI.eq_1 ?_
  refine wR0 100 [0,2,3,9] fX ?_
  refine wF @hd ?_
  refine wX ?_
  refine wN ?_
  exact hQ _ _
 | succ f ih=>
  intro i j hf hi hj
  by_cases hij:i<j
  ·have hd:decide ((i:Int)<(j:Int))=true:=decide_eq_true (by omega)
   have hw:IntKind.wrap .i64 ((i:Int)+1)=((i+1:Nat):Int):=by rw[wrap64 (by omega) (by omega)];rfl
   have hw2:IntKind.wrap .i64 ((j:Int) - 1)=((j - 1:Nat):Int):=by rw[wrap64 (by omega) (by omega)];omega
   have hst:=qnv l i (by omega)
   rw[show l.length - 1 - i=j by omega] at hst
   have hcl:=qcE l i
   have hin:(i:Int)<(n:Int):=by omega
   have hjn:(j:Int)<(n:Int):=by omega
   have hi1:((i:Nat):Int).toNat*1=i:=by simp
   have hj1:((j:Nat):Int).toNat*1=j:=by simp
   have hQ':=ih (i+1) (j - 1) (by omega) (by omega) (by omega)
   rw[hst] at hQ'
   generalize qdu l i=c at*
   have hel:(qac c).length=n:=by rw[qad];omega
   have hri:=qk6 c i (by omega)
   have hrj:=qk6 c j (by omega)
   have hs1:=qkw c (c.getD j 0) i (by omega)
   have hs2:=qkw (c.set i (c.getD j 0)) (c.getD i 0) j (by simp;omega)
   have hel2:(qac (c.set i (c.getD j 0))).length=n:=by rw[qad];simp;omega
   have fX:=(cJ8 @hd @hw @hw2 @hi1 @hj1 @hel @hri (cJ4 @hrj @hs1 @hs2 @hel2))
   refine qaa qhI.eq_1 ?_
   refine wR0 100 [0,2,3,9] fX ?_
   refine wT @hd ?_
   refine wR0 200 [0,2,3] fX ?_
   refine wR0 300 [0,2,3] fX ?_
   refine wN ?_
   exact hQ'
  ·have hd:decide ((i:Int)<(j:Int))=false:=decide_eq_false (by omega)
   rw[qj4 l i (by omega)]
   have fX:=@hd
   refine qaa qhI.eq_1 ?_
   refine wR0 100 [0,2,3,9] fX ?_
   refine wF @hd ?_
   refine wX ?_
   refine wN ?_
   exact hQ _ _
theorem qnx (l:List Int)(h0:l≠[])(hl:l.length≤100000):TC Tryz.prog 42 [.sl 508 l.length 0 0 l.length] (hpL [(508,sVv l)]) (.tup []) (hpL [(508,sVv l.reverse)]):=by
 have hp:0<l.length:=(by cases l with | nil=>exact absurd rfl h0 | cons x l=>simp)
 have hL:=fun Q h=>rev_l l l.length rfl hp hl Q h l.length 0 (l.length - 1) (by omega) (by omega) (by omega)
 rw[qnw] at hL
 have hw:IntKind.wrap .i64 ((l.length:Int) - 1)=((l.length - 1:Nat):Int):=by rw[wrap64 (by omega) (by omega)];omega
 refine qfe fn42 (by simp) ?_
 unfold i42
 simp only[argL]
 refine wR0 0 [0,2,3] hw ?_
 refine wL ?_
 refine hL _ ?_
 intro i j
 refine wN ?_
 first | exact⟨by simp,rfl,rfl⟩ | exact⟨by simp,rfl,trivial⟩
theorem qla:TP Tryz.prog 42 [.nil] (.tup []):=by
 refine qah fn42 (by simp) ?_
 unfold i42
 simp only[argL]
 refine wR0 0 [0,2,3] cJ0 ?_
 refine wL ?_
 refine qaa qhI.eq_1 ?_
 refine wR0 100 [0,2,3,9] cJ0 ?_
 refine wF cJ0 ?_
 refine wX ?_
 refine wN ?_
 exact⟨by simp,_,rfl,.same rfl⟩
def qft (l:List Nn):Nat→Nat→List Int
 | 0,_=>[]
 | f+1,j=>if (l.getD j default).par<0 then [] else (l.getD j default).rule::qft l f (l.getD j default).par.toNat
def qeZ (l:List Nn)(j:Nat):List Int:=(qft l (j+1) j).reverse
theorem qg5 (l:List Nn):∀(f j:Nat),(qft l f j).length≤f
 | 0,_=>Nat.le_refl _
 | f+1,j=>by
  rw[qft]
  split
  ·simp
  ·simp only[List.length_cons];have:=qg5 l f (l.getD j default).par.toNat;omega
theorem qhO {l:List Nn}(hp:Par l):∀(f g j:Nat),j<l.length→j<f→j<g→qft l f j=qft l g j
 | 0,_,_,_,h,_=>absurd h (Nat.not_lt_zero _)
 | _+1,0,_,_,_,h=>absurd h (Nat.not_lt_zero _)
 | f+1,g+1,j,hl,h1,h2=>by
  have hb:=hp j hl
  rw[qft,qft]
  split
  ·rfl
  ·rw[qhO hp f g _ (by omega) (by omega) (by omega)]
theorem qsc {P:Program}{N:Nat}{c:ICode}{H:Heap}{Q:IExit→(Nat→T)→Heap→Prop}(l:List (Nat×T))(p:Nat×T)(h:W P N c (ofL l) H Q):W P N c (ofL (l++[p])) H Q:=by
 refine qls (fun t=>?_) h
 clear h
 induction l with
 | nil=>exact .inr rfl
 | cons q l ih=>
  rw[List.cons_append,qbQ,qbQ]
  split
  ·exact .inl rfl
  ·exact ih
set_option maxHeartbeats 4000000 in
theorem path_l (l:List Nn)(next:Int)(hp:Par l)(hl:l.length≤100000)(R:List Int)(Q:IExit→(Nat→T)→Heap→Prop)
 (hQ:∀j:Int,Q (.exit 0) (ofL [(1,.int .i64 j),(2,.ref 0 2 0),(5,qb2 508 R),(22,.bool false)]) (hpL ([(0,.live ⟨37,grC l next⟩)]++qb1 508 3 R))) :
 ∀(f j:Nat) (done:List Int),j<f→j<l.length→done.length+f≤200000→done++qft l f j=R→
 WL Tryz.prog 41 qjA (ofL [(1,.int .i64 j),(2,.ref 0 2 0),(5,qb2 508 done)]) (hpL ([(0,.live ⟨37,grC l next⟩)]++qb1 508 3 done)) Q:=by
 simp only[grC,List.cons_append,List.nil_append] at hQ ⊢
 intro f
 induction f with
 | zero=>intro j done h;exact absurd h (Nat.not_lt_zero _)
 | succ f ih=>
  intro j done hjf hjl hdf hR
  have hlt:(j:Int)<((qbj l).length:Int):=by rw[qby];omega
  have hg:=qeN l j hjl
  have hb:=hp j hjl
  have hj:((j:Nat):Int).toNat=j:=by simp
  rw[qft] at hR
  have hih:=ih (l.getD j default).par.toNat (done++[(l.getD j default).rule])
  generalize l.getD j default=n at*
  simp only[encN,nnC] at hg
  by_cases hz:n.par<0
  ·have hd:decide (n.par≥0)=false:=decide_eq_false (by omega)
   rw[if_pos hz,List.append_nil] at hR
   subst hR
   have fX:=(cJ2 @hg @hd)
   refine qaa qjA.eq_1 ?_
   refine wR0 400 [1,2,5,22] fX ?_
   refine wF @hd ?_
   refine wX ?_
   refine wN ?_
   exact hQ _
  ·have hd:decide (n.par≥0)=true:=decide_eq_true (by omega)
   have hnn:((n.par.toNat:Nat):Int)=n.par:=by omega
   rw[if_neg hz] at hR
   have hQ':=hih (by omega) (by omega) (by simp;omega) (by rw[←hR];simp)
   rw[hnn] at hQ'
   cases done with
   | nil=>
    simp only[qb2,qb1,List.nil_append,List.length_nil] at hQ' ⊢
    have fX:=(cJ3 @hg @qaK @hd)
    refine qaa qjA.eq_1 ?_
    refine W_gc ?_
    refine wR0 400 [1,2,5,22] fX ?_
    refine wT @hd ?_
    refine wR0 500 [1,2,5] fX ?_
    refine wR0 600 [1,2,5] fX ?_
    refine wN ?_
    refine qaP [0,508] (by simp[inL]) (by simp[inL,T.cl]) (by simp[qan,inL,Slot.cl,T.cl,clL]) ?_
    simpa [qan,inL,qac] using hQ'
   | cons z zs=>
    have hlb:zs.length+1≤200000:=by simp at hdf;omega
    have he:(qac (z::zs)).length=zs.length+1:=by simp[qac]
    simp only[qb2,qb1,List.cons_append] at hQ' ⊢
    have fX:=(cJ4 @hg @qaK @hd @he)
    refine qaa qjA.eq_1 ?_
    refine W_gc ?_
    refine wR0 400 [1,2,5,22] fX ?_
    refine wT @hd ?_
    refine wR0 500 [1,2,5] fX ?_
    refine wR0 600 [1,2,5] fX ?_
    refine wN ?_
    refine qaP [0,508] (by simp[inL]) (by simp[inL,T.cl]) (by simp[qan,inL,Slot.cl,T.cl,clL,qap,qae]) ?_
    simpa [qan,inL,qac] using hQ'
theorem qpg (l:List Nn)(next:Int)(hp:Par l)(hl:l.length≤50000)(j:Nat)(hj:j<l.length):TP Tryz.prog 17 [qbs l next,.int .i64 j] (.list (qac (qeZ l j))):=by
 obtain⟨R,hR⟩:∃R,qft l (j+1) j=R:=⟨_,rfl⟩
 have hL:=fun Q h=>path_l l next hp (by omega) R Q h (j+1) j [] (by omega) hj (by simp;omega) hR
 have hRl:=qg5 l (j+1) j
 rw[hR] at hRl
 rw[qeZ,hR]
 have hd1:decide ((j:Int)<0)=false:=decide_eq_false (by omega)
 have hd2:decide ((j:Int)≥((qbj l).length:Int))=false:=decide_eq_false (by rw[qby];omega)
 cases R with
 | nil=>
  have hrv:=qla
  simp only[qb2,qb1,grC,List.cons_append,List.nil_append] at hL
  have fX:=(cJ2 @hd1 @hd2)
  refine qah fn17 (by simp) ?_
  unfold i17
  simp only[argL,qbs,grC]
  refine wR0 0 [1,2] fX ?_
  refine wR0 100 [1,2,5] fX ?_
  refine wR0 200 [1,2,5,14] fX ?_
  refine wF fX ?_
  refine wN ?_
  refine qsc [(1,.int .i64 j),(2,.ref 0 2 0),(5,.nil)] (14,.bool false) ?_
  refine wL ?_
  refine hL _ ?_
  ·intro k
   refine wN ?_
   refine wRn 700 [5] fX ?_
   refine rC fX ?_
   refine⟨_,hrv,rE fX ?_⟩
   refine wR0 800 [4] fX ?_
   refine wP ?_
   exact .nil
 | cons z zs=>
  have hrv:=qnx (z::zs) (by simp) (by omega)
  simp only[qb2,qb1,grC,List.cons_append,List.nil_append,List.length_cons] at hL hrv
  have hrl:(z::zs).reverse.length=zs.length+1:=by simp
  generalize (z::zs).reverse=W at*
  have fX:=(cJ2 @hd1 @hd2)
  refine qah fn17 (by simp) ?_
  unfold i17
  simp only[argL,qbs,grC]
  refine wR0 0 [1,2] fX ?_
  refine wR0 100 [1,2,5] fX ?_
  refine wR0 200 [1,2,5,14] fX ?_
  refine wF fX ?_
  refine wN ?_
  refine qsc [(1,.int .i64 j),(2,.ref 0 2 0),(5,.nil)] (14,.bool false) ?_
  refine wL ?_
  refine hL _ ?_
  ·intro k
   refine wN ?_
   refine wRn 700 [5] fX ?_
   refine rU [(508,sVv (z::zs))] [(508,sVv W)] fX ?_
   refine⟨_,hrv.full1,rE fX ?_⟩
   refine wR0 800 [4] fX ?_
   refine wP ?_
   exact qbx W rfl hrl.symm hrl.symm
end
section
open Go.RowKit
set_option maxHeartbeats 2000000
structure Dc where
 seeds:List Int
 at_:Nat
def qb3 (l:List Int):List T:=l.map fun x=>.int .u8 x
theorem qjl (l:List Int):(qb3 l).length=l.length:=by simp[qb3]
@[simp] theorem qaF (D:Nat→Bool)(l:List Int):clL D (qb3 l)=true:=by
 induction l with
 | nil=>rfl
 | cons x l ih=>simpa [qb3,clL,T.cl] using ih
theorem qox (l:List Int)(i:Nat)(h:i<l.length):(qb3 l).getD (i:Int).toNat .undef=.int .u8 (l.getD i 0):=by
 simp[qb3,List.getD_eq_getElem?_getD,h]
theorem qkE (l:List Int):sizedB 0 (qb3 l)=true:=by
 rw[sizedB,List.all_eq_true]
 intro c hc
 obtain⟨x,_,rfl⟩:=List.mem_map.1 hc
 rfl
abbrev dcB (d:Dc):Slot:=.live ⟨70,[.list (qb3 d.seeds),.int .i64 d.at_]⟩
abbrev dcR:T:=.ref 99999 2 0
structure Dc.ok (d:Dc):Prop where
 len:d.seeds.length≤200
 at_:d.at_≤d.seeds.length
 rng:∀j,0≤d.seeds.getD j 0∧d.seeds.getD j 0≤255
theorem qgw {H:Heap}{D:Nat→Bool}(d:Dc):SlotFz H D (dcB d) (dcB d):=by
 refine SlotFz.liveS (by simp[clL,T.cl]) fun c hc=>?_
 simp only[List.mem_cons,List.not_mem_nil,or_false] at hc
 rcases hc with rfl | rfl<;>rfl
theorem qlr {P:Program}{f:FuncId}{N:Nat}{ic:ICode}{rs:List (Nat×Option Nat)}{args:List T}{d d':Dc}{r:T}(h:FnOk P f N rs ic)(hn:args.length≤N)
 (hw:W P N ic (ofL (argL 0 args)) (hpL [(99999,dcB d)]) fun e env' H''=>(e=.ret∨e=.normal)∧∃x hl hl',resT env' H'' rs=some x∧H''=hpL hl∧Fz (hpL hl) (inL [99999]) x r∧LFz (hpL hl) [99999] hl hl'∧qan [99999] hl'=[(99999,dcB d')]):TC P f args (hpL [(99999,dcB d)]) r (hpL [(99999,dcB d')]):=
 qsa [99999] h hn rfl hw
theorem TC.fulD {P:Program}{f:FuncId}{xs:List T}{v:T}{i:Nat}{s s':Slot}(h:TC P f xs (hpL [(i,s)]) v (hpL [(i,s')])):TC P f xs (hp [(i,s)]) v ((hp [(i,s)]).upd [(i,s')]):=by
 rw[qlQ [(i,s)] (by simp),show Heap.upd (hpL [(i,s)]) [(i,s')]=hpL [(i,s')] from by simp[qfB,qcd,qcG]];exact h
def newD (s:List Int):Dc:=⟨s.take 200,0⟩
theorem qkR {s:List Int}(h:∀j,0≤s.getD j 0∧s.getD j 0≤255):(newD s).ok:=by
 refine⟨by simp[newD];omega,Nat.zero_le _,fun j=>?_⟩
 by_cases hj:j<200
 ·have e:(s.take 200).getD j 0=s.getD j 0:=by simp[List.getD_eq_getElem?_getD,hj]
  simp only[newD];rw[e];exact h j
 ·have e:(s.take 200).getD j 0=0:=by simp[List.getD_eq_getElem?_getD,List.getElem?_take,hj]
  simp only[newD];rw[e];omega
theorem qk0 (s:List Int)(hl:s.length≤9223372036854775807):TC Tryz.prog 7 [.list (qb3 s)] (hpL []) dcR (hpL [(99999,dcB (newD s))]):=by
 have hz:Int.toNat 0=0:=rfl
 have h200:Int.toNat 200=200:=rfl
 have hlen:=qjl s
 have hsz:=qkE s
 have key:∀t:List Int,t=s.take 200→TC Tryz.prog 7 [.list (qb3 s)] (hpL []) (.ref 302 2 0) (hpL [(302,.live ⟨70,[.list (qb3 t),.int .i64 0]⟩)]):=by
  intro t ht
  by_cases h:s.length≤200
  ·have hd:decide (((qb3 s).length:Int) > 200)=false:=decide_eq_false (by omega)
   obtain rfl:t=s:=by rw[ht,List.take_of_length_le h]
   have fX:=@hd
   refine qfe fn7 (by simp) ?_
   unfold i7
   simp only[argL]
   refine wR0 0 [0] fX ?_
   refine wR0 100 [0,5] fX ?_
   refine wF @hd ?_
   refine wR0 300 [2] fX ?_
   refine wE ?_
   refine wN ?_
   first | exact⟨by simp,rfl,rfl⟩ | exact⟨by simp,rfl,trivial⟩
  ·have hd:decide (((qb3 s).length:Int) > 200)=true:=decide_eq_true (by omega)
   have htk:List.take 200 (qb3 s)=qb3 t:=by rw[ht,qb3,qb3,List.map_take]
   have hle:(200:Int)≤((qb3 s).length:Int):=by omega
   have hle2:200≤(qb3 s).length:=by omega
   have fX:=(cJ7 @hd @h200 @hz @hle @hle2 @htk @hsz)
   refine qfe fn7 (by simp) ?_
   unfold i7
   simp only[argL]
   refine wR0 0 [0] fX ?_
   refine wR0 100 [0,5] fX ?_
   refine wT @hd ?_
   refine wR0 200 [0] fX ?_
   refine wR0 300 [2] fX ?_
   refine wE ?_
   refine wN ?_
   first | exact⟨by simp,rfl,rfl⟩ | exact⟨by simp,rfl,trivial⟩
 have r:∀(σ:Nat→Nat) (k:List Int),renL σ (qb3 k)=qb3 k:=fun σ k=>qbF _ (qaF _ k)
 refine qi6 [(302,99999)] (key _ rfl) ?_ rfl ?_ ?_
 ·simp[renL,T.ren,r]
 ·simp[T.ren,swps,swp]
 ·simp[Slot.ren,renL,T.ren,swps,swp,r,newD]
def qar (d:Dc)(n:Int):Int×Dc:=if d.seeds.length≤d.at_ then (0,d) else ((d.seeds.getD d.at_ 0).tmod n,⟨d.seeds,d.at_+1⟩)
theorem qaQ {d:Dc}(h:d.ok)(n:Int):(qar d n).2.ok:=by
 rw[qar]
 split
 ·exact h
 ·exact⟨h.len,by simp only;omega,h.rng⟩
theorem qa6 {d:Dc}(h:d.ok){n:Int}(hn:1≤n):0≤(qar d n).1∧(qar d n).1<n:=by
 rw[qar]
 split
 ·exact⟨Int.le_refl 0,by simp only;omega⟩
 ·exact⟨Int.tmod_nonneg n (h.rng _).1,Int.tmod_lt_of_pos _ (by omega)⟩
theorem qdr (d:Dc)(hd:d.ok)(n:Int)(hn:1≤n):TC Tryz.prog 23 [dcR,.int .i64 n] (hpL [(99999,dcB d)]) (.int .i64 (qar d n).1) (hpL [(99999,dcB (qar d n).2)]):=by
 have hl:=hd.len
 have ha:=hd.at_
 have hr:=hd.rng d.at_
 have hlen:=qjl d.seeds
 rw[qar]
 by_cases h:d.seeds.length≤d.at_
 ·rw[if_pos h]
  have hb:decide ((d.at_:Int)≥((qb3 d.seeds).length:Int))=true:=decide_eq_true (by omega)
  have fX:=@hb
  refine qfe fn23 (by simp) ?_
  unfold i23
  simp only[argL,dcB]
  refine wR0 0 [0,1] fX ?_
  refine wR0 100 [0,1,14] fX ?_
  refine wT @hb ?_
  refine wR0 200 [4] fX ?_
  refine wE ?_
  refine wN ?_
  first | exact⟨by simp,rfl,rfl⟩ | exact⟨by simp,rfl,trivial⟩
 ·rw[if_neg h]
  have hb:decide ((d.at_:Int)≥((qb3 d.seeds).length:Int))=false:=decide_eq_false (by omega)
  have hw:IntKind.wrap .i64 ((d.at_:Int)+1)=((d.at_+1:Nat):Int):=by rw[wrap64 (by omega) (by omega)];rfl
  have hw2:IntKind.wrap .i64 (((d.at_+1:Nat):Int) - 1)=(d.at_:Int):=by rw[wrap64 (by omega) (by omega)];omega
  have hlt:(d.at_:Int)<((qb3 d.seeds).length:Int):=by omega
  have hg:=qox d.seeds d.at_ (by omega)
  have hw3:IntKind.wrap .i64 (d.seeds.getD d.at_ 0)=d.seeds.getD d.at_ 0:=wrap64 (by omega) (by omega)
  have hn0:¬n=0:=by omega
  generalize d.seeds.getD d.at_ 0=x at*
  have fX:=(cJ6 @hb @hw @hw2 @hg @hw3 @hn0)
  refine qfe fn23 (by simp) ?_
  unfold i23
  simp only[argL,dcB]
  refine wR0 0 [0,1] fX ?_
  refine wR0 100 [0,1,14] fX ?_
  refine wF @hb ?_
  refine wR0 300 [0,1] fX ?_
  refine wR0 400 [4] fX ?_
  refine wE ?_
  refine wN ?_
  first | exact⟨by simp,rfl,rfl⟩ | exact⟨by simp,rfl,trivial⟩
end
end Go.Proofs.YtoeeppojakbciaaGreat
