/- Contracts of functions of the program, for all arguments that they name. -/
import Derived.Test.YtoeeppojakbciaaGreatK23
import Derived.Test.YtoeeppojakbciaaGreatK25
import Derived.Test.YtoeeppojakbciaaGreatK30
namespace Go.Proofs.YtoeeppojakbciaaGreat
set_option linter.unusedVariables false
section
open Go.RowKit
set_option maxHeartbeats 2000000
attribute [local simp] qae
def canR (r:Rl)(v:List Int):Bool:=allI (fun j=>!decide (v.getD j 0<r.need.getD j 0)) 0 v.length
def ovr (r:Rl)(v:List Int)(i:Nat):Bool:=(List.range i).any fun j=>!((v.getD j 0==1099511627776) || decide (aft1 r v j≤1048576))
theorem qtA (r:Rl)(v:List Int):ovr r v v.length=!aftO r v:=by
 rw[Bool.eq_iff_iff,ovr,Bool.not_eq_true',←Bool.not_eq_true,aftO,qbv,List.any_eq_true]
 constructor
 ·rintro ⟨j,hj,h⟩ h2
  have:=h2 j (Nat.zero_le _) (by have:=List.mem_range.1 hj;omega)
  rw[this] at h;simp at h
 ·intro h
  refine Classical.byContradiction fun hn=>h fun j _ hj=>?_
  refine Classical.byContradiction fun hc=>hn ⟨j,List.mem_range.2 (by omega),?_⟩
  rw[Bool.not_eq_true] at hc
  rw[hc];rfl
theorem qsW (r:Rl)(v:List Int)(hl:v.length≤1000000)(hn:r.need.length=v.length)(Q:IExit→(Nat→T)→Heap→Prop):∀(k i:Nat),i+k=v.length→
 (allI (fun j=>!decide (v.getD j 0<r.need.getD j 0)) i k=true→∀j:Int,Q (.exit 0) (ofL [(1,.list (qac v)),(2,.ref 0 14 0),(4,.nil),(6,.bool false),(7,.int .i64 j),(27,.bool false)]) (hpL [(0,.live ⟨66,rlC r⟩)]))→
 (allI (fun j=>!decide (v.getD j 0<r.need.getD j 0)) i k=false→Q .ret (ofL [(4,.nil),(5,.bool false),(6,.bool false)]) (hpL [(0,.live ⟨66,rlC r⟩)]))→
 WL Tryz.prog 76 qlU (ofL [(1,.list (qac v)),(2,.ref 0 14 0),(4,.nil),(6,.bool false),(7,.int .i64 i)]) (hpL [(0,.live ⟨66,rlC r⟩)]) Q:=by
 simp only[rlC]
 intro k
 induction k with
 | zero=>
  intro i hk hQ0 hQ1
  have hd:decide ((i:Int)<((qac v).length:Int))=false:=decide_eq_false (by rw[qad];omega)
  have fX:=@hd
  refine qaa qlU.eq_1 ?_
  refine wR0 400 [1,2,4,6,7,27] fX ?_
  refine wF @hd ?_
  refine wX ?_
  refine wN ?_
  exact hQ0 rfl _
 | succ k ih=>
  intro i hk hQ0 hQ1
  have hlt:(i:Int)<((qac v).length:Int):=by rw[qad];omega
  have hd:decide ((i:Int)<((qac v).length:Int))=true:=decide_eq_true hlt
  have hw:IntKind.wrap .i64 ((i:Int)+1)=((i+1:Nat):Int):=by rw[wrap64 (by omega) (by omega)];rfl
  have hga:=qaN v i (by omega);have hgb:=qaN r.need i (by omega);have hlb:(i:Int)<((qac r.need).length:Int):=by rw[qad];omega
  have fX:=(cJ4 @hd @hw @hga @hgb)
  refine qaa qlU.eq_1 ?_
  refine wR0 400 [1,2,4,6,7,27] fX ?_
  refine wT @hd ?_
  refine wR0 500 [1,2,4,6,7,39] fX ?_
  refine wS cJ0 (fun hc500=>?_) (fun hc500=>?_)
  ·skip
   refine wR0 600 [4,5,6] fX ?_
   refine wE ?_
   refine wN ?_
   simp at hc500
   exact hQ1 (by simp[allI,hc500])
  ·skip
   refine wR0 700 [1,2,4,6,7] fX ?_
   refine wN ?_
   simp at hc500
   have e:allI (fun j=>!decide (v.getD j 0<r.need.getD j 0)) i (k+1)=allI (fun j=>!decide (v.getD j 0<r.need.getD j 0)) (i+1) k:=(by simp[allI,hc500])
   rw[e] at hQ0 hQ1
   exact ih (i+1) (by omega) hQ0 hQ1
set_option maxHeartbeats 8000000 in
theorem qsX (r:Rl)(v:List Int)(hl:v.length≤1000000)(hr:RoomR r v)(Q:IExit→(Nat→T)→Heap→Prop)
 (hQ:∀j:Int,Q (.exit 2) (ofL [(1,.list (qac v)),(2,.ref 0 14 0),(4,qb2 1403 (aftR r v)),(6,.bool (ovr r v v.length)),(8,.int .i64 j),(43,.bool false)]) (hpL ([(0,.live ⟨66,rlC r⟩)]++qb1 1403 3 (aftR r v)))) :
 ∀(f i:Nat) (done:List Int) (b:Bool),i+f=v.length→done=(aftR r v).take i→b=ovr r v i→
 WL Tryz.prog 76 qeS (ofL [(1,.list (qac v)),(2,.ref 0 14 0),(4,qb2 1403 done),(6,.bool b),(8,.int .i64 i)]) (hpL ([(0,.live ⟨66,rlC r⟩)]++qb1 1403 3 done)) Q:=by
 simp only[rlC,List.cons_append,List.nil_append] at hQ ⊢
 have hal:=qbq r v
 intro f
 induction f with
 | zero=>
  intro i done b hk hdn hb
  have hd:decide ((i:Int)<((qac v).length:Int))=false:=decide_eq_false (by rw[qad];omega)
  have e:done=aftR r v:=by rw[hdn,List.take_of_length_le (by omega)]
  have ei:i=v.length:=by omega
  subst e
  subst ei
  subst hb
  have fX:=@hd
  refine qaa qeS.eq_1 ?_
  refine wR0 900 [1,2,4,6,8,43] fX ?_
  refine wF @hd ?_
  refine wX ?_
  refine wN ?_
  exact hQ _
 | succ f ih=>
  intro i done b hk hdn hb
  have hlt:(i:Int)<((qac v).length:Int):=by rw[qad];omega
  have hd:decide ((i:Int)<((qac v).length:Int))=true:=decide_eq_true hlt
  have hw:IntKind.wrap .i64 ((i:Int)+1)=((i+1:Nat):Int):=by rw[wrap64 (by omega) (by omega)];rfl
  have hga:=qaN v i (by omega)
  have hQ':=ih (i+1) (done++[(aftR r v).getD i 0]) (ovr r v (i+1)) (by omega) (by rw[hdn];exact (qcJ _ _ (by omega)).symm) rfl
  have hdl:done.length=i:=by rw[hdn,List.length_take];omega
  clear hdn
  cases done with
  | nil=>
   simp only[qb2,qb1,List.nil_append,List.length_nil] at hQ' ⊢
   by_cases hc:v.getD i 0=1099511627776
   ·have hcd:(v.getD i 0 != 1099511627776)=false:=by rw[hc];rfl
    have ha1:aft1 r v i=v.getD i 0:=by rw[aft1,if_pos hc,hc]
    have hbe:(v.getD i 0==1099511627776)=true:=beq_iff_eq.2 hc
    have hov:ovr r v (i+1)=ovr r v i:=by rw[ovr,List.range_succ,List.any_append];simp only[List.any_cons,List.any_nil,hbe,Bool.true_or,Bool.not_true,Bool.or_false];rfl
    rw[hov,←hb,qbO r v i (by omega),ha1] at hQ'
    have fX:=(cJ5 @hd @hw @hga @qaK @hcd)
    refine qaa qeS.eq_1 ?_
    refine W_gc ?_
    refine wR0 900 [1,2,4,6,8,43] fX ?_
    refine wT @hd ?_
    refine wR0 1000 [1,2,4,6,8,9] fX ?_
    refine wR0 1100 [1,2,4,6,8,9,51] fX ?_
    refine wF @hcd ?_
    refine wR0 1400 [1,2,4,6,8] fX ?_
    refine wR0 1500 [1,2,4,6,8] fX ?_
    refine wN ?_
    refine qaP [0,1403] (by simp[inL]) (by simp[inL,T.cl,qae]) (by simp[qan,inL,Slot.cl,T.cl,clL,qae]) ?_
    simpa [qan,inL,qac] using hQ'
   ·have hcd:(v.getD i 0 != 1099511627776)=true:=by simpa using hc
    have ha1:aft1 r v i=v.getD i 0 - r.need.getD i 0+r.give.getD i 0:=by rw[aft1,if_neg hc]
    have hgn:=qaN r.need i (by have:=hr.need;omega)
    have hgg:=qaN r.give i (by have:=hr.give;omega)
    have hln:(i:Int)<((qac r.need).length:Int):=by rw[qad];have:=hr.need;omega
    have hlg:(i:Int)<((qac r.give).length:Int):=by rw[qad];have:=hr.give;omega
    have k1:=hr.needB i
    have k2:=hr.giveB i
    have k3:=hr.vec i
    have hw1:IntKind.wrap .i64 (r.give.getD i 0 - r.need.getD i 0)=r.give.getD i 0 - r.need.getD i 0:=wrap64 (by omega) (by omega)
    have hw2:IntKind.wrap .i64 (v.getD i 0+(r.give.getD i 0 - r.need.getD i 0))=aft1 r v i:=by rw[wrap64 (by omega) (by omega),ha1];omega
    have hbe:(v.getD i 0==1099511627776)=false:=beq_eq_false_iff_ne.2 hc
    have hov:ovr r v (i+1)=(ovr r v i || decide (aft1 r v i > 1048576)):=by
     rw[ovr,List.range_succ,List.any_append];simp only[List.any_cons,List.any_nil,Bool.or_false,hbe,Bool.false_or]
     rw[show (!decide (aft1 r v i≤1048576))=decide (aft1 r v i > 1048576) from by rw[Bool.eq_iff_iff];simp,ovr]
    rw[hov,←hb,qbO r v i (by omega)] at hQ'
    generalize hX:aft1 r v i=X at*
    cases b with
    | true=>
     have fX:=(cJ8 @hd @hw @hga @qaK @hcd @hgn @hgg (cJ2 @hw1 @hw2))
     refine qaa qeS.eq_1 ?_
     refine W_gc ?_
     refine wR0 900 [1,2,4,6,8,43] fX ?_
     refine wT @hd ?_
     refine wR0 1000 [1,2,4,6,8,9] fX ?_
     refine wR0 1100 [1,2,4,6,8,9,51] fX ?_
     refine wT @hcd ?_
     refine wR0 1200 [1,2,4,6,8,9] fX ?_
     refine wR0 1300 [1,2,4,6,8,9] fX ?_
     refine wR0 1400 [1,2,4,6,8] fX ?_
     refine wR0 1500 [1,2,4,6,8] fX ?_
     refine wN ?_
     refine qaP [0,1403] (by simp[inL]) (by simp[inL,T.cl,qae]) (by simp[qan,inL,Slot.cl,T.cl,clL,qae]) ?_
     simpa [qan,inL,qac] using hQ'
    | false=>
     have fX:=(cJ8 @hd @hw @hga @qaK @hcd @hgn @hgg (cJ2 @hw1 @hw2))
     refine qaa qeS.eq_1 ?_
     refine W_gc ?_
     refine wR0 900 [1,2,4,6,8,43] fX ?_
     refine wT @hd ?_
     refine wR0 1000 [1,2,4,6,8,9] fX ?_
     refine wR0 1100 [1,2,4,6,8,9,51] fX ?_
     refine wT @hcd ?_
     refine wR0 1200 [1,2,4,6,8,9] fX ?_
     refine wR0 1300 [1,2,4,6,8,9] fX ?_
     refine wR0 1400 [1,2,4,6,8] fX ?_
     refine wR0 1500 [1,2,4,6,8] fX ?_
     refine wN ?_
     refine qaP [0,1403] (by simp[inL]) (by simp[inL,T.cl,qae]) (by simp[qan,inL,Slot.cl,T.cl,clL,qae]) ?_
     simpa [qan,inL,qac] using hQ'
  | cons z zs=>
   have hlb:zs.length+1≤1000000:=by simp at hdl;omega
   have he:(qac (z::zs)).length=zs.length+1:=by simp[qac]
   simp only[qb2,qb1,List.cons_append] at hQ' ⊢
   by_cases hc:v.getD i 0=1099511627776
   ·have hcd:(v.getD i 0 != 1099511627776)=false:=by rw[hc];rfl
    have ha1:aft1 r v i=v.getD i 0:=by rw[aft1,if_pos hc,hc]
    have hbe:(v.getD i 0==1099511627776)=true:=beq_iff_eq.2 hc
    have hov:ovr r v (i+1)=ovr r v i:=by rw[ovr,List.range_succ,List.any_append];simp only[List.any_cons,List.any_nil,hbe,Bool.true_or,Bool.not_true,Bool.or_false];rfl
    rw[hov,←hb,qbO r v i (by omega),ha1] at hQ'
    have fX:=(cJ6 @hd @hw @hga @qaK @hcd @he)
    refine qaa qeS.eq_1 ?_
    refine W_gc ?_
    refine wR0 900 [1,2,4,6,8,43] fX ?_
    refine wT @hd ?_
    refine wR0 1000 [1,2,4,6,8,9] fX ?_
    refine wR0 1100 [1,2,4,6,8,9,51] fX ?_
    refine wF @hcd ?_
    refine wR0 1400 [1,2,4,6,8] fX ?_
    refine wR0 1500 [1,2,4,6,8] fX ?_
    refine wN ?_
    refine qaP [0,1403] (by simp[inL]) (by simp[inL,T.cl,qae]) (by simp[qan,inL,Slot.cl,T.cl,clL,qap,qae]) ?_
    simpa [qan,inL,qac] using hQ'
   ·have hcd:(v.getD i 0 != 1099511627776)=true:=by simpa using hc
    have ha1:aft1 r v i=v.getD i 0 - r.need.getD i 0+r.give.getD i 0:=by rw[aft1,if_neg hc]
    have hgn:=qaN r.need i (by have:=hr.need;omega)
    have hgg:=qaN r.give i (by have:=hr.give;omega)
    have hln:(i:Int)<((qac r.need).length:Int):=by rw[qad];have:=hr.need;omega
    have hlg:(i:Int)<((qac r.give).length:Int):=by rw[qad];have:=hr.give;omega
    have k1:=hr.needB i
    have k2:=hr.giveB i
    have k3:=hr.vec i
    have hw1:IntKind.wrap .i64 (r.give.getD i 0 - r.need.getD i 0)=r.give.getD i 0 - r.need.getD i 0:=wrap64 (by omega) (by omega)
    have hw2:IntKind.wrap .i64 (v.getD i 0+(r.give.getD i 0 - r.need.getD i 0))=aft1 r v i:=by rw[wrap64 (by omega) (by omega),ha1];omega
    have hbe:(v.getD i 0==1099511627776)=false:=beq_eq_false_iff_ne.2 hc
    have hov:ovr r v (i+1)=(ovr r v i || decide (aft1 r v i > 1048576)):=by
     rw[ovr,List.range_succ,List.any_append];simp only[List.any_cons,List.any_nil,Bool.or_false,hbe,Bool.false_or]
     rw[show (!decide (aft1 r v i≤1048576))=decide (aft1 r v i > 1048576) from by rw[Bool.eq_iff_iff];simp,ovr]
    rw[hov,←hb,qbO r v i (by omega)] at hQ'
    generalize hX:aft1 r v i=X at*
    cases b with
    | true=>
     have fX:=(cJ8 @hd @hw @hga @qaK @hcd @he @hgn (cJ3 @hgg @hw1 @hw2))
     refine qaa qeS.eq_1 ?_
     refine W_gc ?_
     refine wR0 900 [1,2,4,6,8,43] fX ?_
     refine wT @hd ?_
     refine wR0 1000 [1,2,4,6,8,9] fX ?_
     refine wR0 1100 [1,2,4,6,8,9,51] fX ?_
     refine wT @hcd ?_
     refine wR0 1200 [1,2,4,6,8,9] fX ?_
     refine wR0 1300 [1,2,4,6,8,9] fX ?_
     refine wR0 1400 [1,2,4,6,8] fX ?_
     refine wR0 1500 [1,2,4,6,8] fX ?_
     refine wN ?_
     refine qaP [0,1403] (by simp[inL]) (by simp[inL,T.cl,qae]) (by simp[qan,inL,Slot.cl,T.cl,clL,qap,qae]) ?_
     simpa [qan,inL,qac] using hQ'
    | false=>
     have fX:=(cJ8 @hd @hw @hga @qaK @hcd @he @hgn (cJ3 @hgg @hw1 @hw2))
     refine qaa qeS.eq_1 ?_
     refine W_gc ?_
     refine wR0 900 [1,2,4,6,8,43] fX ?_
     refine wT @hd ?_
     refine wR0 1000 [1,2,4,6,8,9] fX ?_
     refine wR0 1100 [1,2,4,6,8,9,51] fX ?_
     refine wT @hcd ?_
     refine wR0 1200 [1,2,4,6,8,9] fX ?_
     refine wR0 1300 [1,2,4,6,8,9] fX ?_
     refine wR0 1400 [1,2,4,6,8] fX ?_
     refine wR0 1500 [1,2,4,6,8] fX ?_
     refine wN ?_
     refine qaP [0,1403] (by simp[inL]) (by simp[inL,T.cl,qae]) (by simp[qan,inL,Slot.cl,T.cl,clL,qap,qae]) ?_
     simpa [qan,inL,qac] using hQ'
end
section
open Go.RowKit
set_option maxHeartbeats 2000000
attribute [local simp] qae
def qsV (r:Rl)(v:List Int):T:=if canR r v=true then .tup [.list (qac (aftR r v)),.bool true,.bool (!aftO r v)] else .tup [.list [],.bool false,.bool false]
set_option maxHeartbeats 4000000 in
theorem qsY (r:Rl)(v:List Int)(hl:v.length≤1000000)(hr:RoomR r v):TP Tryz.prog 22 [qa0 r,.list (qac v)] (qsV r v):=by
 have hn:=hr.need
 have hg:=hr.give
 have hd1:(((qac r.need).length:Int) != ((qac v).length:Int))=false:=by rw[qad,qad,hn];simp
 have hd2:(((qac r.give).length:Int) != ((qac v).length:Int))=false:=by rw[qad,qad,hg];simp
 have hL0:=fun Q h0 h1=>qsW r v hl hn Q v.length 0 (by omega) h0 h1
 have hL1:=fun Q h=>qsX r v hl hr Q h v.length 0 [] false (by omega) rfl rfl
 have hov:=qtA r v
 have hal:=qbq r v
 have hcan:canR r v=allI (fun j=>!decide (v.getD j 0<r.need.getD j 0)) 0 v.length:=rfl
 rw[qsV]
 cases hc:canR r v with
 | false=>
  rw[hc] at hcan
  rw[←hcan] at hL0
  rw[if_neg (by simp)]
  have hLF:=fun Q h1=>hL0 Q (fun h=>by cases h) (fun _=>h1)
  simp only[rlC] at hLF
  have fX:=(cJ2 @hd1 @hd2)
  refine qah fn22 (by simp) ?_
  unfold i22
  simp only[argL,qa0,rlC]
  refine wR0 0 [1,2,4,6] fX ?_
  refine wR0 100 [1,2,4,6,23] fX ?_
  refine wF fX ?_
  refine wR0 300 [1,2,4,6,7] fX ?_
  refine wL ?_
  refine hLF _ ?_
  ·skip
   refine wN ?_
   exact⟨by simp,_,rfl,by exact qd2 .nil (.same rfl) (.same rfl)⟩
 | true=>
  rw[hc] at hcan
  rw[←hcan] at hL0
  rw[if_pos rfl]
  rw[hov] at hL1
  have hLT:=fun Q h0=>hL0 Q (fun _=>h0) (fun h=>by cases h)
  cases hA:aftR r v with
  | nil=>
   rw[hA] at hL1
   simp only[rlC,qb2,qb1,List.cons_append,List.nil_append] at hLT hL1
   have fX:=(cJ2 @hd1 @hd2)
   refine qah fn22 (by simp) ?_
   unfold i22
   simp only[argL,qa0,rlC]
   refine wR0 0 [1,2,4,6] fX ?_
   refine wR0 100 [1,2,4,6,23] fX ?_
   refine wF fX ?_
   refine wR0 300 [1,2,4,6,7] fX ?_
   refine wL ?_
   refine hLT _ ?_
   ·intro i
    refine wN ?_
    refine wR0 800 [1,2,4,6,8] fX ?_
    refine wL ?_
    refine hL1 _ ?_
    ·intro j
     refine wN ?_
     refine wR0 1600 [4,5,6] fX ?_
     refine wP ?_
     exact qd2 .nil (.same rfl) (.same rfl)
  | cons z zs=>
   rw[hA] at hL1
   simp only[rlC,qb2,qb1,List.cons_append,List.nil_append] at hLT hL1
   have fX:=(cJ2 @hd1 @hd2)
   refine qah fn22 (by simp) ?_
   unfold i22
   simp only[argL,qa0,rlC]
   refine wR0 0 [1,2,4,6] fX ?_
   refine wR0 100 [1,2,4,6,23] fX ?_
   refine wF fX ?_
   refine wR0 300 [1,2,4,6,7] fX ?_
   refine wL ?_
   refine hLT _ ?_
   ·intro i
    refine wN ?_
    refine wR0 800 [1,2,4,6,8] fX ?_
    refine wL ?_
    refine hL1 _ ?_
    ·intro j
     refine wN ?_
     refine wR0 1600 [4,5,6] fX ?_
     refine wP ?_
     exact qd2 (qbx (z::zs) rfl rfl rfl) (.same rfl) (.same rfl)
end
section
open Go.RowKit
attribute [local simp] qae qaJ qal qaF
def rlZ:Rl:=⟨⟨#[]⟩,0,0,[],[],[],0,0,0,[],[],[],[],0⟩
theorem qou (rs:List Rl)(q:Nat)(h:q<rs.length):(qaB rs).getD (q:Int).toNat .undef=qa0 (rs.getD q rlZ):=by
 simp[qaB,List.getD_eq_getElem?_getD,h]
structure FromP (m:Md) (l:List Nn) (i p q:Nat):Prop where
 par:(l.getD i default).par=p
 rule:(l.getD i default).rule=q
 lt:p<i
 rl:q<m.rules.length
 can:canR (m.rules.getD q rlZ) (l.getD p default).vec=true
 from_:(m.rules.getD q rlZ).from_=(l.getD p default).st
 to_:(m.rules.getD q rlZ).to_=(l.getD i default).st
 le:vLe (aftR (m.rules.getD q rlZ) (l.getD p default).vec) (l.getD i default).vec=true
 room:RoomR (m.rules.getD q rlZ) (l.getD p default).vec
end
section
open Go.RowKit
theorem qbZ {l z:List Nn}{j:Nat}(h:j<l.length):(l++z).getD j default=l.getD j default:=by
 simp[List.getD_eq_getElem?_getD,List.getElem?_append_left h]
theorem qp9 {l:List Nn}(hp:Par l)(z:List Nn)(s:Int):∀(f:Nat) (i:Int),i<l.length→upF (l++z) s f i=upF l s f i
 | 0,_,_=>rfl
 | f+1,i,h=>by
  by_cases hi:i<0
  ·rw[qeC _ _ _ _ hi,qeC _ _ _ _ hi]
  ·have hj:i.toNat<l.length:=by omega
   have hb:=hp i.toNat hj
   rw[upF,upF,if_neg hi,if_neg hi,qbZ hj,qp9 hp z s f _ (by omega)]
theorem qt2 {l:List Nn}(hp:Par l)(z:List Nn)(s i:Int)(h:i<l.length):upL (l++z) s i=upL l s i:=by
 rw[upL,upL,qp9 hp z s _ i h]
 exact qi4 hp s _ i _ h (by rw[List.length_append];omega) (by omega)
theorem qll {l:List Nn}(hp:Par l)(z:List Nn)(s i:Int)(h:i<l.length):upV (l++z) s i=upV l s i:=by
 rw[upV,upV,qt2 hp z s i h]
 exact List.map_congr_left fun j hj=>by rw[qbZ (qqb hp s i h j hj)]
structure FromF (m:Md) (l:List Nn) (i p q:Nat):Prop where
 lt:p<i
 rl:q<m.rules.length
 fits:qbL (m.rules.getD q rlZ) (l.getD p default).st (l.getD p default).vec=true
 aft:aftO (m.rules.getD q rlZ) (l.getD p default).vec=true
 node:l.getD i default=⟨(m.rules.getD q rlZ).to_,qbe (upV l (m.rules.getD q rlZ).to_ p) (aftR (m.rules.getD q rlZ) (l.getD p default).vec),p,q⟩
theorem FromF.app {m:Md}{l:List Nn}{i p q:Nat}(h:FromF m l i p q)(hp:Par l)(hi:i<l.length)(z:List Nn):FromF m (l++z) i p q:=by
 have h0:=h.lt
 refine⟨h.lt,h.rl,?_,?_,?_⟩
 ·rw[qbZ (by omega)];exact h.fits
 ·rw[qbZ (by omega)];exact h.aft
 ·rw[qbZ hi,qbZ (by omega),qll hp z _ _ (by omega)];exact h.node
theorem qfq {m:Md}{N:Nat}(hr:qbl N m.rules){l0:List Nn}{k:Nat}(hk:k<l0.length)(hG0:TreeG N l0):∀(rs:List Rl) (i:Nat) (l:List Nn),m.rules.drop i=rs→(∃z,l=l0++z)→TreeG N l→(qb0 k (l0.getD k default).st (l0.getD k default).vec rs i l).1=0→
 (∃z,(qb0 k (l0.getD k default).st (l0.getD k default).vec rs i l).2=l++z)∧
 (∀j,l.length≤j→j<(qb0 k (l0.getD k default).st (l0.getD k default).vec rs i l).2.length→∃q,FromF m (qb0 k (l0.getD k default).st (l0.getD k default).vec rs i l).2 j k q)∧
 (∀q,i≤q→q<m.rules.length→qbL (m.rules.getD q rlZ) (l0.getD k default).st (l0.getD k default).vec=true→∃j,l.length≤j∧j<(qb0 k (l0.getD k default).st (l0.getD k default).vec rs i l).2.length∧FromF m (qb0 k (l0.getD k default).st (l0.getD k default).vec rs i l).2 j k q)
 | [],i,l,hd,_,_,_=>by
  refine⟨⟨[],by simp[qb0]⟩,fun j h1 h2=>?_,fun q h1 h2 _=>?_⟩
  ·simp only[qb0] at h2;omega
  ·have:=List.drop_eq_nil_iff.1 hd;omega
 | r::rs,i,l,hd,hz,hG,h0=>by
  have hil:i<m.rules.length:=by
   refine Classical.byContradiction fun hn=>?_
   rw[List.drop_eq_nil_of_le (by omega)] at hd;cases hd
  have hdr:m.rules.getD i rlZ=r∧m.rules.drop (i+1)=rs:=by
   rw[List.drop_eq_getElem_cons hil] at hd
   injection hd with e1 e2
   exact⟨by rw[←e1];simp[List.getD_eq_getElem?_getD,hil],e2⟩
  have hlk:k<l.length:=by obtain⟨z,rfl⟩:=hz;rw[List.length_append];omega
  have hlg:l.getD k default=l0.getD k default:=by obtain⟨z,rfl⟩:=hz;exact qbZ hk
  have hmem:r∈m.rules:=by rw[←hdr.1];simp[List.getD_eq_getElem?_getD,hil]
  rw[qb0] at h0 ⊢
  by_cases hf:qbL r (l0.getD k default).st (l0.getD k default).vec=true
  ·rw[if_pos hf] at h0 ⊢
   by_cases hc:aftO r (l0.getD k default).vec=true∧l.length<256
   ·rw[if_pos hc] at h0 ⊢
    have hv:=hG0.vec k hk
    have hw:VecOk N (qbe (upV l r.to_ k) (aftR r (l0.getD k default).vec)):=qe1 _ _ _ (qej hr hv hmem hf hc.1)
    have hG1:=hG.app ⟨r.to_,qbe (upV l r.to_ k) (aftR r (l0.getD k default).vec),k,i⟩ (by simp) (by simpa using hlk) hc.2 hw
    have ih:=qfq hr hk hG0 rs (i+1) _ hdr.2 (by obtain⟨z,rfl⟩:=hz;exact⟨_,List.append_assoc _ _ _⟩) hG1 h0
    generalize hX:(⟨r.to_,qbe (upV l r.to_ k) (aftR r (l0.getD k default).vec),k,i⟩:Nn)=x at*
    generalize qb0 k (l0.getD k default).st (l0.getD k default).vec rs (i+1) (l++[x])=G at*
    obtain⟨⟨z,h1⟩,h2,h3⟩:=ih
    have hlen:G.2.length=l.length+1+z.length:=by rw[h1];simp;omega
    have hx:G.2.getD l.length default=x:=by rw[h1];simp[List.getD_eq_getElem?_getD]
    have hGk:G.2.getD k default=l0.getD k default:=by rw[h1,List.append_assoc,qbZ hlk,hlg]
    have hnew:FromF m G.2 l.length k i:=by
     refine⟨hlk,hil,?_,?_,?_⟩
     ·rw[hdr.1,hGk];exact hf
     ·rw[hdr.1,hGk];exact hc.1
     ·rw[hx,hdr.1,hGk,←hX,h1,List.append_assoc,qll hG.ok.par _ _ _ (by omega)]
    refine⟨⟨[x]++z,by rw[h1,List.append_assoc]⟩,fun j j1 j2=>?_,fun q q1 q2 q3=>?_⟩
    ·by_cases hj:j=l.length
     ·subst hj;exact⟨i,hnew⟩
     ·exact h2 j (by simp;omega) j2
    ·by_cases hq:q=i
     ·subst hq;exact⟨l.length,Nat.le_refl _,by omega,hnew⟩
     ·obtain⟨j,j1,j2,j3⟩:=h3 q (by omega) q2 q3
      exact⟨j,by simp at j1;omega,j2,j3⟩
   ·rw[if_neg hc] at h0
    cases h0
  ·rw[if_neg hf] at h0 ⊢
   have ih:=qfq hr hk hG0 rs (i+1) l hdr.2 hz hG h0
   obtain⟨h1,h2,h3⟩:=ih
   refine⟨h1,h2,fun q q1 q2 q3=>?_⟩
   by_cases hq:q=i
   ·subst hq;rw[hdr.1] at q3;exact absurd q3 hf
   ·exact h3 q (by omega) q2 q3
structure TInv (m:Md) (N:Nat) (s0:Int) (v0:List Int) (l:List Nn) (k:Nat):Prop where
 good:TreeG N l
 pos:0<l.length
 kl:k≤l.length
 root:l.getD 0 default=qdf s0 v0
 from_:∀i,0<i→i<l.length→∃p q,p<k∧FromF m l i p q
 done:∀j,j<k→(l.getD j default).vec∈upV l (l.getD j default).st (l.getD j default).par∨∀q,q<m.rules.length→qbL (m.rules.getD q rlZ) (l.getD j default).st (l.getD j default).vec=true→∃i,i<l.length∧FromF m l i j q
theorem TInv.start {m:Md}{N:Nat}{s0:Int}{v0:List Int}(h:VecOk N v0):TInv m N s0 v0 [qdf s0 v0] 0:=
 ⟨qdN h,by simp,Nat.zero_le _,rfl,fun i h1 h2=>by simp at h2;omega,fun j hj=>absurd hj (Nat.not_lt_zero _)⟩
theorem TInv.step {m:Md}{N:Nat}{s0:Int}{v0:List Int}{l:List Nn}{k:Nat}(hr:qbl N m.rules)(h:TInv m N s0 v0 l k)(hk:k<l.length)(h0:(qcq m l k).1=0):TInv m N s0 v0 (qcq m l k).2 (k+1):=by
 have hp:=h.good.ok.par
 rw[qcq] at h0 ⊢
 by_cases hm:(l.getD k default).vec∈upV l (l.getD k default).st (l.getD k default).par
 ·rw[if_pos hm]
  refine⟨h.good,h.pos,hk,h.root,fun i i1 i2=>?_,fun j hj=>?_⟩
  ·obtain⟨p,q,h1,h2⟩:=h.from_ i i1 i2
   exact⟨p,q,by omega,h2⟩
  ·by_cases e:j=k
   ·subst e;exact .inl hm
   ·exact h.done j (by omega)
 ·rw[if_neg hm] at h0 ⊢
  have hgd:=(qd3 hr (h.good.vec k hk) (at_:=k) (s:=(l.getD k default).st) m.rules 0 l (fun r hr=>hr) h.good hk).1
  obtain⟨⟨z,h1⟩,h2,h3⟩:=qfq hr hk h.good m.rules 0 l rfl ⟨[],by simp⟩ h.good h0
  generalize qb0 k (l.getD k default).st (l.getD k default).vec m.rules 0 l=G at*
  have hlen:G.2.length=l.length+z.length:=by rw[h1];simp
  have hgk:∀j,j<l.length→G.2.getD j default=l.getD j default:=fun j hj=>by rw[h1,qbZ hj]
  refine⟨hgd,by have:=h.pos;omega,by omega,by rw[hgk 0 h.pos];exact h.root,fun i i1 i2=>?_,fun j hj=>?_⟩
  ·by_cases hi:i<l.length
   ·obtain⟨p,q,a1,a2⟩:=h.from_ i i1 hi
    exact⟨p,q,by omega,by rw[h1];exact a2.app hp hi z⟩
   ·obtain⟨q,hq⟩:=h2 i (by omega) i2
    exact⟨k,q,by omega,hq⟩
  ·by_cases e:j=k
   ·subst e
    refine .inr fun q q1 q2=>?_
    rw[hgk j hk] at q2
    obtain⟨i,i1,i2,i3⟩:=h3 q (Nat.zero_le _) q1 q2
    exact⟨i,i2,i3⟩
   ·have hjl:j<l.length:=by have:=h.kl;omega
    have hpj:=hp j hjl
    rcases h.done j (by omega) with hd | hd
    ·left
     rw[hgk j hjl,h1,qll hp z _ _ (by omega)];exact hd
    ·right
     intro q q1 q2
     rw[hgk j hjl] at q2
     obtain⟨i,i1,i2⟩:=hd q q1 q2
     exact⟨i,by omega,by rw[h1];exact i2.app hp i1 z⟩
theorem TInv.run {m:Md}{N:Nat}{s0:Int}{v0:List Int}(hr:qbl N m.rules):∀(f:Nat) (l:List Nn) (k n:Nat),TInv m N s0 v0 l k→n=k→TInv m N s0 v0 (runM m f l k n).1 (runM m f l k n).2.1∧(runM m f l k n).2.1=(runM m f l k n).2.2.1
 | 0,l,k,n,h,e=>⟨h,e.symm⟩
 | f+1,l,k,n,h,e=>by
  rw[runM]
  split
  ·exact⟨h,e.symm⟩
  ·split
   ·rename_i h1 h2
    exact TInv.run hr f _ _ _ (h.step hr (by omega) h2) (by omega)
   ·exact⟨h,e.symm⟩
end
section
open Go.RowKit
attribute [local simp] qae qaJ qal qaF
theorem qsz {N:Nat}(hN:N≤6){v:List Int}(h:VecOk N v):vOk v=true:=by
 have hl:=h.len
 simp only[vOk,Bool.and_eq_true,decide_eq_true_eq,List.all_eq_true]
 refine⟨by omega,fun x hx=>?_⟩
 obtain⟨j,hj,rfl⟩:=List.getElem_of_mem hx
 have:=h.ent j
 simp only[List.getD_eq_getElem?_getD,List.getElem?_eq_getElem hj,Option.getD_some] at this
 simp only[elO,Bool.or_eq_true,Bool.and_eq_true,decide_eq_true_eq,beq_iff_eq]
 omega
theorem qeD {N:Nat}(hN:N≤6){a b:List Int}(ha:VecOk N a)(hb:VecOk N b):vLe a b=true↔∀j,a.getD j 0≤b.getD j 0:=by
 have h1:=qsz hN ha
 have h2:=qsz hN hb
 have h3:((a.length:Int)==b.length)=true:=by rw[ha.len,hb.len];simp
 rw[vLe,h1,h2,h3,Bool.true_and,Bool.true_and,Bool.true_and,leI,qbv]
 refine⟨fun h j=>?_,fun h j _ hj=>?_⟩
 ·by_cases hj:j<a.length
  ·have:=h j (Nat.zero_le _) (by omega)
   simp only[Bool.not_eq_true',decide_eq_false_iff_not] at this
   omega
  ·rw[qbk (by omega),qbk (by rw[hb.len,←ha.len];omega)];omega
 ·have:=h j
  simp only[Bool.not_eq_true',decide_eq_false_iff_not]
  omega
theorem qpn {N:Nat}{a v:List Int}(h:VecOk N v)(j:Nat):v.getD j 0≤(qcn a v).getD j 0:=by
 have:=h.ent j
 by_cases hj:j<v.length
 ·rw[qcc a v j hj];split<;>omega
 ·rw[qbk (by omega),qbk (by rw[qbo];omega)];omega
theorem qha {N:Nat}(vs:List (List Int)):∀(f:Nat) (v:List Int),VecOk N v→∀j,v.getD j 0≤(qco vs f v).getD j 0
 | 0,_,_,_=>Int.le_refl _
 | f+1,v,h,j=>by
  rw[qco]
  split
  ·exact Int.le_refl _
  ·exact Int.le_trans (qpn h j) (qha vs f _ (qg9 h) j)
end
end Go.Proofs.YtoeeppojakbciaaGreat
