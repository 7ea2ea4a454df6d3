/- Contracts of functions of the program, for all arguments that they name. -/
import Derived.Test.YtoeeppojakbciaaGreatK20
import Derived.Test.YtoeeppojakbciaaGreatK22
namespace Go.Proofs.YtoeeppojakbciaaGreat
set_option linter.unusedVariables false
section
open Go.RowKit
set_option maxHeartbeats 2000000
attribute [local simp] qae
theorem qpk (r:Rl):TP Tryz.prog 87 [qa0 r] (.bool (decide ((r.move.length:Int) > 0))):=by
 refine qah fn87 (by simp) ?_
 unfold i87
 simp only[argL,qa0,rlC]
 refine wR0 0 [1] cJ0 ?_
 refine wR0 100 [2] cJ0 ?_
 refine wP ?_
 exact qab (by rw[qad])
def qmo (m:Md):Bool:=(m.kind==1)&&!m.rules.any fun r=>decide ((r.move.length:Int) > 0)
theorem qrm (m:Md)(hm:m.fit):TP Tryz.prog 52 [qas m] (.bool (qmo m)):=by
 have hl:=hm.rules
 refine qah fn52 (by simp) ?_
 unfold i52
 simp only[argL,qas,mdC]
 refine wR0 0 [1] cJ0 ?_
 refine wRn 100 [2] cJ0 ?_
 refine rCi cJ0 ?_
 refine⟨_,fun hw=>qn1 87 [] rfl (fun r=>decide ((r.move.length:Int) > 0)) m.rules (by omega) (fun k hk=>qpk k),rE cJ0 ?_⟩
 refine wP ?_
 exact qab rfl
def qbW (m:Md):Int:=if qaV m≠0 then qaV m else if qmo m=true then 0 else 15
theorem qjh (m:Md)(hm:m.fit):TP Tryz.prog 26 [qas m] (.int .i64 (qbW m)):=by
 have hc:=qoZ m hm
 have hp:=qrm m hm
 simp only[qas] at hc hp
 refine qah fn26 (by simp) ?_
 unfold i26
 simp only[argL,qas,mdC]
 refine wR0 0 [1] cJ0 ?_
 refine wRn 100 [1,3] @mdC.eq_1 ?_
 refine rC @mdC.eq_1 ?_
 refine⟨_,hc,rE @mdC.eq_1 ?_⟩
 refine wR0 200 [1,3,7] cJ0 ?_
 refine wS cJ0 (fun hc200=>?_) (fun hc200=>?_)
 ·skip
  refine wR0 300 [2] cJ0 ?_
  refine wP ?_
  exact qaE (by simp at hc200;rw[qbW,if_pos hc200])
 ·skip
  refine wRn 400 [11] @mdC.eq_1 ?_
  refine rC @mdC.eq_1 ?_
  refine⟨_,hp,rE @mdC.eq_1 ?_⟩
  refine wS cJ0 (fun hc400=>?_) (fun hc400=>?_)
  ·skip
   refine wR0 500 [2] cJ0 ?_
   refine wP ?_
   exact qaE (by simp at hc200 hc400;rw[qbW,if_neg (by simp[hc200]),if_neg (by simp[hc400])])
  ·skip
   refine wR0 600 [2] cJ0 ?_
   refine wP ?_
   exact qaE (by simp at hc200 hc400;rw[qbW,if_neg (by simp[hc200]),if_pos (by simp[hc400])])
def qbL (r:Rl)(s:Int)(v:List Int):Bool:=(r.from_==s)&&allI (fun j=>!decide (v.getD j 0<r.need.getD j 0)) 0 r.need.length
theorem fits_l (r:Rl)(a b:List Int)(hl:a.length≤1000000)(hab:a.length=b.length)(Q:IExit→(Nat→T)→Heap→Prop):∀(k i:Nat),i+k=a.length→
 (allI (fun j=>!decide (b.getD j 0<a.getD j 0)) i k=true→∀j:Int,Q (.exit 0) (ofL [(2,.list (qac b)),(14,.list (qac a)),(15,.int .i64 (qac a).length),(16,.int .i64 j),(17,.bool false)]) (hpL [(0,.live ⟨66,rlC r⟩)]))→
 (allI (fun j=>!decide (b.getD j 0<a.getD j 0)) i k=false→Q .ret (ofL [(6,.bool false)]) (hpL [(0,.live ⟨66,rlC r⟩)]))→
 WL Tryz.prog 28 ql6 (ofL [(2,.list (qac b)),(14,.list (qac a)),(15,.int .i64 (qac a).length),(16,.int .i64 i)]) (hpL [(0,.live ⟨66,rlC r⟩)]) Q:=by
 simp only[rlC]
 intro k
 induction k with
 | zero=>
  intro i hk hQ0 hQ1
  have hd:decide ((i:Int)<((qac a).length:Int))=false:=decide_eq_false (by rw[qad];omega)
  have fX:=@hd
  refine qaa ql6.eq_1 ?_
  refine wR0 400 [2,14,15,16,17] fX ?_
  refine wF @hd ?_
  refine wX ?_
  refine wN ?_
  exact hQ0 rfl _
 | succ k ih=>
  intro i hk hQ0 hQ1
  have hlt:(i:Int)<((qac a).length:Int):=by rw[qad];omega
  have hd:decide ((i:Int)<((qac a).length:Int))=true:=decide_eq_true hlt
  have hw:IntKind.wrap .i64 ((i:Int)+1)=((i+1:Nat):Int):=by rw[wrap64 (by omega) (by omega)];rfl
  have hga:=qaN a i (by omega);have hgb:=qaN b i (by omega);have hlb:(i:Int)<((qac b).length:Int):=by rw[qad];omega
  have fX:=(cJ4 @hd @hw @hga @hgb)
  refine qaa ql6.eq_1 ?_
  refine wR0 400 [2,14,15,16,17] fX ?_
  refine wT @hd ?_
  refine wR0 500 [2,7,8,14,15,16] fX ?_
  refine wR0 600 [2,14,15,16,26] fX ?_
  refine wS cJ0 (fun hc600=>?_) (fun hc600=>?_)
  ·skip
   refine wR0 700 [6] fX ?_
   refine wE ?_
   refine wN ?_
   simp at hc600
   exact hQ1 (by simp[allI,hc600])
  ·skip
   refine wR0 800 [2,14,15,16] fX ?_
   refine wN ?_
   simp at hc600
   have e:allI (fun j=>!decide (b.getD j 0<a.getD j 0)) i (k+1)=allI (fun j=>!decide (b.getD j 0<a.getD j 0)) (i+1) k:=(by simp[allI,hc600])
   rw[e] at hQ0 hQ1
   exact ih (i+1) (by omega) hQ0 hQ1
theorem qsZ (r:Rl)(s:Int)(v:List Int)(hr:r.need.length=v.length)(hl:v.length≤1000000):TP Tryz.prog 90 [qa0 r,.int .i64 s,.list (qac v)] (.bool (qbL r s v)):=by
 refine qah fn90 (by simp) ?_
 unfold i90
 simp only[argL,qa0,rlC]
 refine wR0 0 [1,2,3] cJ0 ?_
 refine wR0 100 [2,3,12] cJ0 ?_
 refine wS cJ0 (fun hc100=>?_) (fun hc100=>?_)
 ·skip
  refine wR0 200 [6] cJ0 ?_
  refine wP ?_
  exact qab (by simp at hc100;simp[qbL,hc100])
 ·skip
  refine wR0 300 [2,14,15,16] cJ0 ?_
  refine wL ?_
  refine fits_l r r.need v (by omega) hr _ r.need.length 0 (by omega) ?_ ?_
  ·intro h i
   refine wN ?_
   refine wR0 900 [6] cJ0 ?_
   refine wP ?_
   exact qab (by simp at hc100;rw[qbL,h,hc100];simp)
  ·intro h
   refine wN ?_
   exact⟨by simp,_,rfl,by exact qab (by simp at hc100;rw[qbL,h];simp)⟩
def aft1 (r:Rl)(v:List Int)(j:Nat):Int:=if v.getD j 0=1099511627776 then 1099511627776 else v.getD j 0 - r.need.getD j 0+r.give.getD j 0
def aftR (r:Rl)(v:List Int):List Int:=(List.range v.length).map (aft1 r v)
def aftO (r:Rl)(v:List Int):Bool:=allI (fun j=>(v.getD j 0==1099511627776) || decide (aft1 r v j≤1048576)) 0 v.length
theorem qbq (r:Rl)(v:List Int):(aftR r v).length=v.length:=by simp[aftR]
theorem qbO (r:Rl)(v:List Int)(j:Nat)(h:j<v.length):(aftR r v).getD j 0=aft1 r v j:=by simp[aftR,List.getD_eq_getElem?_getD,h]
end
section
open Go.RowKit
set_option maxHeartbeats 2000000
attribute [local simp] qae
theorem rp0 (zs:List T):repl 0 zs=[]:=rfl
theorem qqt (x:Int)(l:List Int)(hl:(x::l).length≤1000000):TC Tryz.prog 32 [.list (qac (x::l))] (hpL []) (.sl 300 (l.length+1) 0 0 (l.length+1)) (hpL [(300,.live ⟨3,qac (x::l)⟩)]):=by
 have hsz:=qeo (x::l)
 have hle:l.length+1≤1000000000:=by simp at hl;omega
 have hne:qac (x::l)≠[]:=by simp
 have hlen:(qac (x::l)).length=l.length+1:=by simp[qad]
 have hq:binT .eql .slice (.list (qac (x::l))) .nil=some (.bool false):=rfl
 have fX:=(cJ5 @qbT @hsz @hq @rp0 @hlen)
 refine qfe fn32 (by simp) ?_
 unfold i32
 simp only[argL]
 refine wR0 0 [0] fX ?_
 refine wR0 100 [0,4] fX ?_
 refine wF @true_and ?_
 refine wR0 300 [2] fX ?_
 refine wE ?_
 refine wN ?_
 first | exact⟨by simp,rfl,rfl⟩ | exact⟨by simp,rfl,trivial⟩
theorem qn4 (v:List Int)(hv:v≠[])(hl:v.length≤1000000):TC Tryz.prog 32 [.list (qac v)] (hpL []) (.sl 701 v.length 0 0 v.length) (hpL [(701,sVv v)]):=by
 cases v with
 | nil=>exact absurd rfl hv
 | cons x l=>
  have q3:∀(σ:Nat→Nat) (l:List Int),renL σ (qac l)=qac l:=fun σ l=>qbF _ (qae _ l)
  refine qi6 [(300,701)] (qqt x l hl) ?_ rfl ?_ ?_
  ·simp[renL,T.ren,q3]
  ·simp[T.ren,swps,swp]
  ·simp[Slot.ren,swps,swp,q3]
structure RoomR (r:Rl) (v:List Int):Prop where
 need:r.need.length=v.length
 give:r.give.length=v.length
 needB:∀j,0≤r.need.getD j 0∧r.need.getD j 0≤1048576
 giveB:∀j,0≤r.give.getD j 0∧r.give.getD j 0≤1048576
 vec:∀j,0≤v.getD j 0∧(v.getD j 0≤1048576∨v.getD j 0=1099511627776)
def mixA (r:Rl)(v:List Int)(i:Nat):List Int:=(aftR r v).take i++v.drop i
theorem qiO (r:Rl)(v:List Int)(i:Nat)(h:i≤v.length):(mixA r v i).length=v.length:=by simp[mixA,qbq];omega
theorem qme (r:Rl)(v:List Int)(i:Nat)(h:i<v.length):(mixA r v i).getD i 0=v.getD i 0:=by
 simp only[mixA,List.getD_eq_getElem?_getD]
 rw[List.getElem?_append_right (by rw[List.length_take];omega),List.length_take,qbq,Nat.min_eq_left (by omega),Nat.sub_self]
 simp
theorem qjU (r:Rl)(v:List Int)(i:Nat)(h:i<v.length):mixA r v (i+1)=(mixA r v i).set i ((aftR r v).getD i 0):=by
 have hr:i<(aftR r v).length:=by rw[qbq];exact h
 rw[mixA,qcJ _ _ hr,mixA,List.set_append_right _ _ (by rw[List.length_take];omega),List.length_take,qbq,Nat.min_eq_left (by omega),Nat.sub_self,List.drop_eq_getElem_cons h,List.set_cons_zero]
 simp
theorem qo1 (r:Rl)(v:List Int)(i:Nat)(h:i<v.length)(hc:v.getD i 0=1099511627776):mixA r v (i+1)=mixA r v i:=by
 rw[qjU r v i h,qbO _ _ _ h,aft1,if_pos hc,←hc,←qme r v i h]
 have hm:i<(mixA r v i).length:=by rw[qiO r v i (by omega)];exact h
 apply List.ext_getElem
 ·simp
 ·intro k h1 h2
  rw[List.getElem_set]
  split
  ·rename_i e;subst e;simp[List.getD_eq_getElem?_getD,hm]
  ·rfl
abbrev afH (r:Rl)(w:List Int):List (Nat×Slot):=[(0,.live ⟨66,rlC r⟩),(701,sVv w)]
abbrev afE (n:Nat)(v:List Int)(b:Bool)(i:Int):List (Nat×T):=[(2,.ref 0 14 0),(6,.sl 701 n 0 0 n),(7,.bool b),(12,.list (qac v)),(13,.int .i64 (qac v).length),(14,.int .i64 i)]
set_option maxHeartbeats 4000000 in
theorem qsD (r:Rl)(v:List Int)(n:Nat)(hn:v.length=n)(hl:n≤1000000)(hr:RoomR r v)(Q:IExit→(Nat→T)→Heap→Prop)
 (hQ:∀j:Int,Q (.exit 0) (ofL (afE n v (aftO r v) j++[(15,.bool false)])) (hpL (afH r (aftR r v)))):∀(k i:Nat),i+k=n→∀b:Bool,(b&&allI (fun j=>(v.getD j 0==1099511627776) || decide (aft1 r v j≤1048576)) i k)=aftO r v→
 WL Tryz.prog 48 qjH (ofL (afE n v b i)) (hpL (afH r (mixA r v i))) Q:=by
 simp only[afE,afH,rlC,List.cons_append,List.nil_append] at hQ ⊢
 have hal:(qac v).length=n:=by rw[qad];exact hn
 intro k
 induction k with
 | zero=>
  intro i hk b hb
  have hd:decide ((i:Int)<((qac v).length:Int))=false:=decide_eq_false (by omega)
  have e:mixA r v i=aftR r v:=by
   rw[mixA,List.take_of_length_le (by rw[qbq];omega),List.drop_of_length_le (by omega),List.append_nil]
  simp only[allI,Bool.and_true] at hb
  rw[e,hb]
  have fX:=@hd
  refine qaa qjH.eq_1 ?_
  refine wR0 300 [2,6,7,12,13,14,15] fX ?_
  refine wF @hd ?_
  refine wX ?_
  refine wN ?_
  exact hQ _
 | succ k ih=>
  intro i hk b hb
  have hi:i<v.length:=by omega
  have hlt:(i:Int)<((qac v).length:Int):=by omega
  have hd:decide ((i:Int)<((qac v).length:Int))=true:=decide_eq_true hlt
  have hw:IntKind.wrap .i64 ((i:Int)+1)=((i+1:Nat):Int):=by rw[wrap64 (by omega) (by omega)];rfl
  have hga:=qaN v i (by omega)
  have hml:=qiO r v i (by omega)
  have hj1:((i:Nat):Int).toNat*1=i:=by simp
  have hin:(i:Int)<(n:Int):=by omega
  have hel:(qac (mixA r v i)).length=n:=by rw[qad];omega
  have hsr:=qk6 (mixA r v i) i (by omega)
  rw[qme r v i hi] at hsr
  by_cases hc:v.getD i 0=1099511627776
  ·have hcd:(!decide (v.getD i 0=1099511627776))=false:=by rw[hc];rfl
   have hQ':=ih (i+1) (by omega) b (by rw[←hb,allI,hc];simp)
   rw[qo1 r v i hi hc] at hQ'
   have fX:=(cJ7 @hd @hw @hga @hj1 @hel @hsr @hcd)
   refine qaa qjH.eq_1 ?_
   refine wR0 300 [2,6,7,12,13,14,15] fX ?_
   refine wT @hd ?_
   refine wR0 400 [2,6,7,8,9,12,13,14] fX ?_
   refine wR0 500 [2,6,7,8,9,12,13,14,20] fX ?_
   refine wF @hcd ?_
   refine wR0 800 [2,6,7,12,13,14] fX ?_
   refine wN ?_
   exact hQ'
  ·have hcd:(!decide (v.getD i 0=1099511627776))=true:=by rw[Bool.not_eq_true',decide_eq_false_iff_not];exact hc
   have hbe:(v.getD i 0==1099511627776)=false:=beq_eq_false_iff_ne.2 hc
   have hgn:=qaN r.need i (by have:=hr.need;omega)
   have hgg:=qaN r.give i (by have:=hr.give;omega)
   have hln:(i:Int)<((qac r.need).length:Int):=by rw[qad];have:=hr.need;omega
   have hlg:(i:Int)<((qac r.give).length:Int):=by rw[qad];have:=hr.give;omega
   have h1:=hr.needB i
   have h2:=hr.giveB i
   have h3:=hr.vec i
   have hw1:IntKind.wrap .i64 (v.getD i 0 - r.need.getD i 0)=v.getD i 0 - r.need.getD i 0:=wrap64 (by omega) (by omega)
   have hw2:IntKind.wrap .i64 (v.getD i 0 - r.need.getD i 0+r.give.getD i 0)=v.getD i 0 - r.need.getD i 0+r.give.getD i 0:=wrap64 (by omega) (by omega)
   have hsw:=qkw (mixA r v i) (v.getD i 0 - r.need.getD i 0+r.give.getD i 0) i (by omega)
   have ha1:aft1 r v i=v.getD i 0 - r.need.getD i 0+r.give.getD i 0:=by rw[aft1,if_neg hc]
   have hms:=qjU r v i hi
   rw[qbO _ _ _ hi,ha1] at hms
   rw[←hms] at hsw
   have hml2:=qiO r v (i+1) (by omega)
   have hel2:(qac (mixA r v (i+1))).length=n:=by rw[qad];omega
   have hsr2:=qk6 (mixA r v (i+1)) i (by omega)
   have hg2:(mixA r v (i+1)).getD i 0=v.getD i 0 - r.need.getD i 0+r.give.getD i 0:=by
    rw[hms,List.getD_eq_getElem?_getD,List.getElem?_set_self (by omega)];rfl
   rw[hg2] at hsr2
   have hQ':=ih (i+1) (by omega) (b&&decide (v.getD i 0 - r.need.getD i 0+r.give.getD i 0≤1048576)) (by rw[←hb,allI];simp only[ha1,hbe,Bool.false_or,Bool.and_assoc])
   have fX:=(cJ8 @hd @hw @hga @hj1 @hel @hsr @hcd (cJ7 @hgn @hgg @hw1 @hw2 @hsw @hel2 @hsr2))
   refine qaa qjH.eq_1 ?_
   refine wR0 300 [2,6,7,12,13,14,15] fX ?_
   refine wT @hd ?_
   refine wR0 400 [2,6,7,8,9,12,13,14] fX ?_
   refine wR0 500 [2,6,7,8,9,12,13,14,20] fX ?_
   refine wT @hcd ?_
   refine wR0 600 [2,6,7,8,12,13,14] fX ?_
   refine wR0 700 [2,6,7,12,13,14] fX ?_
   refine wR0 800 [2,6,7,12,13,14] fX ?_
   refine wN ?_
   exact hQ'
theorem qqm (r:Rl)(v:List Int)(hv:v≠[])(hl:v.length≤1000000)(hr:RoomR r v) :
 TC Tryz.prog 91 [qa0 r,.list (qac v)] (hpL []) (.tup [.sl 701 v.length 0 0 v.length,.bool (aftO r v)]) (hpL [(701,sVv (aftR r v))]):=by
 have hL:=fun Q h=>qsD r v v.length rfl hl hr Q h v.length 0 (by omega) true (by rw[Bool.true_and];rfl)
 have e0:mixA r v 0=v:=by simp[mixA]
 rw[e0] at hL
 have hcv:=qn4 v hv hl
 simp only[afE,afH,rlC,List.cons_append,List.nil_append] at hL
 have key:TC Tryz.prog 91 [qa0 r,.list (qac v)] (hpL []) (.tup [.sl 701 v.length 0 0 v.length,.bool (aftO r v)]) (hpL (afH r (aftR r v))):=by
  refine qfe fn91 (by simp) ?_
  unfold i91
  simp only[argL,qa0,rlC]
  refine wR0 0 [1,2] cJ0 ?_
  refine wRn 100 [1,2,6,7] cJ0 ?_
  refine rU [] [(701,sVv v)] cJ0 ?_
  refine⟨_,hcv,rE cJ0 ?_⟩
  refine wR0 200 [2,6,7,12,13,14] cJ0 ?_
  refine wL ?_
  refine hL _ ?_
  ·intro j
   refine wN ?_
   refine wR0 900 [4,5] cJ0 ?_
   refine wE ?_
   refine wN ?_
   first | exact⟨by simp,rfl,rfl⟩ | exact⟨by simp,rfl,trivial⟩
 exact qdU [701] key rfl rfl (by simp[qan,inL,Slot.cl,qae])
end
section
open Go.RowKit
set_option maxHeartbeats 2000000
attribute [local simp] qbd qae qal
theorem eqi_l (a b:List Int)(hl:a.length≤1000000)(hab:a.length=b.length)(Q:IExit→(Nat→T)→Heap→Prop):∀(k i:Nat),i+k=a.length→
 (allI (fun j=>decide (a.getD j 0=b.getD j 0)) i k=true→∀j:Int,Q (.exit 0) (ofL [(0,.list (qac a)),(1,.list (qac b)),(12,.int .i64 (qac a).length),(13,.int .i64 j),(14,.bool false)]) (hpL []))→
 (allI (fun j=>decide (a.getD j 0=b.getD j 0)) i k=false→Q .ret (ofL [(4,.bool false)]) (hpL []))→
 WL Tryz.prog 26 qgM (ofL [(0,.list (qac a)),(1,.list (qac b)),(12,.int .i64 (qac a).length),(13,.int .i64 i)]) (hpL []) Q:=by
 skip
 intro k
 induction k with
 | zero=>
  intro i hk hQ0 hQ1
  have hd:decide ((i:Int)<((qac a).length:Int))=false:=decide_eq_false (by rw[qad];omega)
  have fX:=@hd
  refine qaa qgM.eq_1 ?_
  refine wR0 400 [0,1,12,13,14] fX ?_
  refine wF @hd ?_
  refine wX ?_
  refine wN ?_
  exact hQ0 rfl _
 | succ k ih=>
  intro i hk hQ0 hQ1
  have hlt:(i:Int)<((qac a).length:Int):=by rw[qad];omega
  have hd:decide ((i:Int)<((qac a).length:Int))=true:=decide_eq_true hlt
  have hw:IntKind.wrap .i64 ((i:Int)+1)=((i+1:Nat):Int):=by rw[wrap64 (by omega) (by omega)];rfl
  have hga:=qaN a i (by omega);have hgb:=qaN b i (by omega);have hlb:(i:Int)<((qac b).length:Int):=by rw[qad];omega
  have fX:=(cJ4 @hd @hw @hga @hgb)
  refine qaa qgM.eq_1 ?_
  refine wR0 400 [0,1,12,13,14] fX ?_
  refine wT @hd ?_
  refine wR0 500 [0,1,5,12,13] fX ?_
  refine wR0 600 [0,1,12,13,24] fX ?_
  refine wS cJ0 (fun hc600=>?_) (fun hc600=>?_)
  ·skip
   refine wR0 700 [4] fX ?_
   refine wE ?_
   refine wN ?_
   simp at hc600
   exact hQ1 (by simp[allI,hc600])
  ·skip
   refine wR0 800 [0,1,12,13] fX ?_
   refine wN ?_
   simp at hc600
   have e:allI (fun j=>decide (a.getD j 0=b.getD j 0)) i (k+1)=allI (fun j=>decide (a.getD j 0=b.getD j 0)) (i+1) k:=(by simp[allI,hc600])
   rw[e] at hQ0 hQ1
   exact ih (i+1) (by omega) hQ0 hQ1
theorem qsU (a b:List Int)(h:a.length=b.length):allI (fun j=>decide (a.getD j 0=b.getD j 0)) 0 a.length=decide (a=b):=by
 rw[Bool.eq_iff_iff,qbv]
 simp only[decide_eq_true_eq]
 constructor
 ·intro hh
  apply List.ext_getElem h
  intro i h1 h2
  have:=hh i (Nat.zero_le _) (by omega)
  simpa [List.getD_eq_getElem?_getD,h1,h2] using this
 ·rintro rfl _ _ _;rfl
theorem qtp (a b:List Int)(hl:a.length≤1000000)(hm:b.length≤1000000):TP Tryz.prog 89 [.list (qac a),.list (qac b)] (.bool (decide (a=b))):=by
 have ha:=qad a
 have hb:=qad b
 by_cases hab:a.length=b.length
 ·have e:=qsU a b hab
  have hd:(!decide (((qac a).length:Int)=((qac b).length:Int)))=false:=by rw[ha,hb,hab];simp
  have fX:=@hd
  refine qah fn89 (by simp) ?_
  unfold i89
  simp only[argL]
  refine wR0 0 [0,1] fX ?_
  refine wR0 100 [0,1,10] fX ?_
  refine wF @hd ?_
  refine wR0 300 [0,1,12,13] fX ?_
  refine wL ?_
  refine eqi_l a b hl hab _ a.length 0 (by omega) ?_ ?_
  ·intro h i
   refine wN ?_
   refine wR0 900 [4] fX ?_
   refine wP ?_
   exact qab (by rw[←e];exact h.symm)
  ·intro h
   refine wN ?_
   exact⟨by simp,_,rfl,by exact qab (by rw[←e];exact h.symm)⟩
 ·have hd:(!decide (((qac a).length:Int)=((qac b).length:Int)))=true:=by rw[ha,hb];simp;omega
  have fX:=@hd
  refine qah fn89 (by simp) ?_
  unfold i89
  simp only[argL]
  refine wR0 0 [0,1] fX ?_
  refine wR0 100 [0,1,10] fX ?_
  refine wT @hd ?_
  refine wR0 200 [4] fX ?_
  refine wP ?_
  exact qab (by rw[decide_eq_false];intro h;exact hab (by rw[h]))
abbrev sMg (m:Md):Slot:=.live ⟨33,mdC m⟩
abbrev sGr (l:List Nn)(next:Int):Slot:=.live ⟨37,grT 700 l next⟩
abbrev gwH (m:Md)(l:List Nn)(next:Int):List (Nat×Slot):=[(700,sG l),(702,sGr l next),(0,sMg m),(1,.live ⟨38,[.int .i64 0]⟩)]
abbrev gwN (m:Md)(l:List Nn)(next:Int)(n:Nn):List (Nat×Slot):=gwH m l next++[(7,.live ⟨55,nnC n⟩)]
abbrev gwE (m:Md)(x5 x6 x8 x38 x40:T):List (Nat×T):=[(0,qas m),(1,.ref 702 2 0),(2,.ref 0 10 0),(4,.ref 1 1 0),(5,x5),(6,x6),(8,x8),(38,x38),(40,x40)]
theorem qs4 (m:Md)(l:List Nn)(next:Int)(Q:IExit→(Nat→T)→Heap→Prop)(hQ:Q .normal (ofL (gwE m .undef .undef .undef .undef .undef)) (hpL (gwH m l next))) :
 W Tryz.prog 101 qtg (ofL (argL 0 [qas m,.ref 702 2 0])) (hpL [(700,sG l),(702,sGr l next)]) Q:=by
 simp only[argL,gwE,gwH,qas,mdC] at hQ ⊢
 unfold qtg
 refine wR0 0 [0,1,2,4,5,6,8,38,40] cJ0 ?_
 refine wN ?_
 exact hQ
theorem qs5 (m:Md)(l:List Nn)(next:Int)(x5 x6 x8 x38 x40:T)(Q:IExit→(Nat→T)→Heap→Prop)(hQ:Q .normal (ofL (gwE m (.int .i64 next) x6 x8 x38 x40)) (hpL (gwH m l next))) :
 W Tryz.prog 101 qth (ofL (gwE m x5 x6 x8 x38 x40)) (hpL (gwH m l next)) Q:=by
 simp only[gwE,gwH,qas,mdC] at hQ ⊢
 unfold qth
 refine wR0 0 [0,1,2,4,5,6,8,38,40] cJ0 ?_
 refine wN ?_
 exact hQ
theorem qm5 (l:List Nn)(j:Nat)(h:j<l.length):List.take 4 (List.drop (j*4) (qcK l))=nnC (l.getD j default):=by
 have hl:=qcz l
 apply List.ext_getElem
 ·simp[hl,nnC];omega
 ·intro k h1 h2
  have hk:k<4:=by simpa [nnC] using h2
  have:=qgC l j k h hk
  rw[List.getD_eq_getElem?_getD,List.getD_eq_getElem?_getD (l:=nnC _),List.getElem?_eq_getElem (by omega),List.getElem?_eq_getElem h2] at this
  simp only[Option.getD_some] at this
  rw[←this]
  simp
theorem qs6 (m:Md)(l:List Nn)(j:Nat)(hj:j<l.length)(x6 x8 x38 x40:T)(Q:IExit→(Nat→T)→Heap→Prop)(hQ:Q .normal (ofL (gwE m (.int .i64 j) (.ref 7 4 0) x8 x38 x40)) (hpL (gwN m l j (l.getD j default)))) :
 W Tryz.prog 101 qti (ofL (gwE m (.int .i64 j) x6 x8 x38 x40)) (hpL (gwH m l j)) Q:=by
 have hlt:(j:Int)<(l.length:Int):=by omega
 have hlen:=qcz l
 have hr:=qm5 l j hj
 have hj4:((j:Nat):Int).toNat*4=j*4:=by simp
 simp only[gwE,gwH,gwN,nnC,qas,mdC,List.cons_append,List.nil_append] at hQ hr ⊢
 have fX:=(cJ4 @hlt @hlen @hr @hj4)
 unfold qti
 refine wR0 0 [0,1,2,4,5,6,8,38,40] fX ?_
 refine wN ?_
 exact hQ
theorem qs7 (m:Md)(l:List Nn)(j:Nat)(hj:j<100000)(n:Nn)(x8 x38 x40:T)(Q:IExit→(Nat→T)→Heap→Prop)(hQ:Q .normal (ofL (gwE m (.int .i64 j) (.ref 7 4 0) x8 x38 x40)) (hpL (gwN m l (j+1:Nat) n))) :
 W Tryz.prog 101 qtj (ofL (gwE m (.int .i64 j) (.ref 7 4 0) x8 x38 x40)) (hpL (gwN m l j n)) Q:=by
 have hw:IntKind.wrap .i64 ((j:Int)+1)=((j+1:Nat):Int):=by rw[wrap64 (by omega) (by omega)];rfl
 simp only[gwE,gwH,gwN,nnC,qas,mdC,List.cons_append,List.nil_append] at hQ ⊢
 have fX:=@hw
 unfold qtj
 refine wR0 0 [0,1,2,4,5,6,8,38,40] fX ?_
 refine wN ?_
 exact hQ
theorem qs8 (m:Md)(l:List Nn)(next:Int)(j:Int)(n:Nn)(x8 x38 x40:T)(Q:IExit→(Nat→T)→Heap→Prop)(hQ:Q .normal (ofL (gwE m (.int .i64 j) (.ref 7 4 0) x8 (.fn 150 (qfM 700 l next n.par n.st)) x40)) (hpL (gwN m l next n))) :
 W Tryz.prog 101 qtk (ofL (gwE m (.int .i64 j) (.ref 7 4 0) x8 x38 x40)) (hpL (gwN m l next n)) Q:=by
 simp only[gwE,gwH,gwN,nnC,qas,mdC,List.cons_append,List.nil_append] at hQ ⊢
 unfold qtk
 refine wRn 0 [0,1,2,4,5,6,8,38,40] cJ0 ?_
 refine rU [(700,sG l)] [(700,sG l)] cJ0 ?_
 refine⟨_,TC.full1 (up_tc l next n.par n.st),rE cJ0 ?_⟩
 refine wN ?_
 exact hQ
theorem qs9 (m:Md)(l:List Nn)(next:Int)(j:Int)(n:Nn)(x8 x38 x40:T)(Q:IExit→(Nat→T)→Heap→Prop)(hQ:Q .normal (ofL (gwE m (.int .i64 j) (.ref 7 4 0) x40 x38 x40)) (hpL (gwN m l next n))) :
 W Tryz.prog 101 qtl (ofL (gwE m (.int .i64 j) (.ref 7 4 0) x8 x38 x40)) (hpL (gwN m l next n)) Q:=by
 simp only[gwE,gwH,gwN,nnC,qas,mdC,List.cons_append,List.nil_append] at hQ ⊢
 unfold qtl
 refine wR0 0 [0,1,2,4,5,6,8,38,40] cJ0 ?_
 refine wN ?_
 exact hQ
theorem qta (m:Md)(l:List Nn)(next:Int)(j:Int)(n:Nn)(a:List Int)(ha:a.length≤1000000)(hn:n.vec.length≤1000000)(x38 x40:T)(Q:IExit→(Nat→T)→Heap→Prop)
 (hQ0:a≠n.vec→∀env,Q .normal env (hpL (gwN m l next n))) (hQ1:a=n.vec→Q .ret (ofL [(4,.ref 1 1 0)]) (hpL (gwN m l next n))) :
 W Tryz.prog 101 qqT (ofL (gwE m (.int .i64 j) (.ref 7 4 0) (.list (qac a)) x38 x40)) (hpL (gwN m l next n)) Q:=by
 have he:=qtp a n.vec ha hn
 simp only[gwE,gwH,gwN,nnC,qas,mdC,List.cons_append,List.nil_append] at hQ0 hQ1 ⊢
 by_cases h:a=n.vec
 ·have hb:decide (a=n.vec)=true:=decide_eq_true h
  rw[hb] at he
  unfold qqT
  refine wRn 0 [0,1,2,4,5,6,8,38,40,44] cJ0 ?_
  refine rC cJ0 ?_
  refine⟨_,he,rE cJ0 ?_⟩
  refine wT cJ0 ?_
  refine wR0 100 [4] cJ0 ?_
  refine wE ?_
  refine wN ?_
  exact hQ1 h
 ·have hb:decide (a=n.vec)=false:=decide_eq_false h
  rw[hb] at he
  unfold qqT
  refine wRn 0 [0,1,2,4,5,6,8,38,40,44] cJ0 ?_
  refine rC cJ0 ?_
  refine⟨_,he,rE cJ0 ?_⟩
  refine wF cJ0 ?_
  refine wN ?_
  exact hQ0 h _
end
end Go.Proofs.YtoeeppojakbciaaGreat
