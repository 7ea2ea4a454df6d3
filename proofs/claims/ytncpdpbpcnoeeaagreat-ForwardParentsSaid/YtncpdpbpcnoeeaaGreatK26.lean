/- Contracts of functions of the program, for all arguments that they name. -/
import Derived.Test.YtncpdpbpcnoeeaaGreatK16
import Derived.Test.YtncpdpbpcnoeeaaGreatK19
import Derived.Test.YtncpdpbpcnoeeaaGreatK25
namespace Go.Proofs.YtncpdpbpcnoeeaaGreat
set_option linter.unusedVariables false
section
open Go.RowKit
set_option maxHeartbeats 2000000
attribute [local simp] qae
def canR (r:Rl)(v:List Int):Bool:=allI (fun j=>!decide (v.getD j 0<r.need.getD j 0)) 0 v.length
def ovr (r:Rl)(v:List Int)(i:Nat):Bool:=(List.range i).any fun j=>!((v.getD j 0==1099511627776) || decide (aft1 r v j≤1048576))
theorem qqf (r:Rl)(v:List Int):ovr r v v.length=!aftO r v:=by
 rw[Bool.eq_iff_iff,ovr,Bool.not_eq_true',←Bool.not_eq_true,aftO,qbC,List.any_eq_true]
 constructor
 ·rintro ⟨j,hj,h⟩ h2
  have:=h2 j (Nat.zero_le _) (by have:=List.mem_range.1 hj;omega)
  rw[this] at h;simp at h
 ·intro h
  refine Classical.byContradiction fun hn=>h fun j _ hj=>?_
  refine Classical.byContradiction fun hc=>hn ⟨j,List.mem_range.2 (by omega),?_⟩
  rw[Bool.not_eq_true] at hc
  rw[hc];rfl
theorem qpC (r:Rl)(v:List Int)(hl:v.length≤1000000)(hn:r.need.length=v.length)(Q:IExit→(Nat→T)→Heap→Prop):∀(k i:Nat),i+k=v.length→
 (allI (fun j=>!decide (v.getD j 0<r.need.getD j 0)) i k=true→∀j:Int,Q (.exit 0) (ofL [(1,.list (qab v)),(2,.ref 0 14 0),(4,.nil),(6,.bool false),(7,.int .i64 j),(27,.bool false)]) (hpL [(0,.live ⟨66,rlC r⟩)]))→
 (allI (fun j=>!decide (v.getD j 0<r.need.getD j 0)) i k=false→Q .ret (ofL [(4,.nil),(5,.bool false),(6,.bool false)]) (hpL [(0,.live ⟨66,rlC r⟩)]))→
 WL Tryz.prog 76 qjv (ofL [(1,.list (qab v)),(2,.ref 0 14 0),(4,.nil),(6,.bool false),(7,.int .i64 i)]) (hpL [(0,.live ⟨66,rlC r⟩)]) Q:=by
 simp only[rlC]
 intro k
 induction k with
 | zero=>
  intro i hk hQ0 hQ1
  have hd:decide ((i:Int)<((qab v).length:Int))=false:=decide_eq_false (by rw[qac];omega)
  have fX:=@hd
  refine qaa qjv.eq_1 ?_
  refine wR0 400 [1,2,4,6,7,27] fX ?_
  refine wF @hd ?_
  refine wX ?_
  refine wN ?_
  exact hQ0 rfl _
 | succ k ih=>
  intro i hk hQ0 hQ1
  have hlt:(i:Int)<((qab v).length:Int):=by rw[qac];omega
  have hd:decide ((i:Int)<((qab v).length:Int))=true:=decide_eq_true hlt
  have hw:IntKind.wrap .i64 ((i:Int)+1)=((i+1:Nat):Int):=by rw[wrap64 (by omega) (by omega)];rfl
  have hga:=qaE v i (by omega);have hgb:=qaE r.need i (by omega);have hlb:(i:Int)<((qab r.need).length:Int):=by rw[qac];omega
  have fX:=(cJ4 @hd @hw @hga @hgb)
  refine qaa qjv.eq_1 ?_
  refine wR0 400 [1,2,4,6,7,27] fX ?_
  refine wT @hd ?_
  refine wR0 500 [1,2,4,6,7,39] fX ?_
  refine wS cJ0 (fun hc500=>?_) (fun hc500=>?_)
  ·skip
   refine wR0 600 [4,5,6] fX ?_
   refine wE ?_
   refine wN ?_
   simp at hc500
   exact hQ1 (by simp[allI,hc500])
  ·skip
   refine wR0 700 [1,2,4,6,7] fX ?_
   refine wN ?_
   simp at hc500
   have e:allI (fun j=>!decide (v.getD j 0<r.need.getD j 0)) i (k+1)=allI (fun j=>!decide (v.getD j 0<r.need.getD j 0)) (i+1) k:=(by simp[allI,hc500])
   rw[e] at hQ0 hQ1
   exact ih (i+1) (by omega) hQ0 hQ1
set_option maxHeartbeats 8000000 in
theorem qpD (r:Rl)(v:List Int)(hl:v.length≤1000000)(hr:RoomR r v)(Q:IExit→(Nat→T)→Heap→Prop)
 (hQ:∀j:Int,Q (.exit 2) (ofL [(1,.list (qab v)),(2,.ref 0 14 0),(4,qb0 1403 (aftR r v)),(6,.bool (ovr r v v.length)),(8,.int .i64 j),(43,.bool false)]) (hpL ([(0,.live ⟨66,rlC r⟩)]++qbZ 1403 3 (aftR r v)))) :
 ∀(f i:Nat) (done:List Int) (b:Bool),i+f=v.length→done=(aftR r v).take i→b=ovr r v i→
 WL Tryz.prog 76 qdT (ofL [(1,.list (qab v)),(2,.ref 0 14 0),(4,qb0 1403 done),(6,.bool b),(8,.int .i64 i)]) (hpL ([(0,.live ⟨66,rlC r⟩)]++qbZ 1403 3 done)) Q:=by
 simp only[rlC,List.cons_append,List.nil_append] at hQ ⊢
 have hal:=qbB r v
 intro f
 induction f with
 | zero=>
  intro i done b hk hdn hb
  have hd:decide ((i:Int)<((qab v).length:Int))=false:=decide_eq_false (by rw[qac];omega)
  have e:done=aftR r v:=by rw[hdn,List.take_of_length_le (by omega)]
  have ei:i=v.length:=by omega
  subst e
  subst ei
  subst hb
  have fX:=@hd
  refine qaa qdT.eq_1 ?_
  refine wR0 900 [1,2,4,6,8,43] fX ?_
  refine wF @hd ?_
  refine wX ?_
  refine wN ?_
  exact hQ _
 | succ f ih=>
  intro i done b hk hdn hb
  have hlt:(i:Int)<((qab v).length:Int):=by rw[qac];omega
  have hd:decide ((i:Int)<((qab v).length:Int))=true:=decide_eq_true hlt
  have hw:IntKind.wrap .i64 ((i:Int)+1)=((i+1:Nat):Int):=by rw[wrap64 (by omega) (by omega)];rfl
  have hga:=qaE v i (by omega)
  have hQ':=ih (i+1) (done++[(aftR r v).getD i 0]) (ovr r v (i+1)) (by omega) (by rw[hdn];exact (qc6 _ _ (by omega)).symm) rfl
  have hdl:done.length=i:=by rw[hdn,List.length_take];omega
  clear hdn
  cases done with
  | nil=>
   simp only[qb0,qbZ,List.nil_append,List.length_nil] at hQ' ⊢
   by_cases hc:v.getD i 0=1099511627776
   ·have hcd:(v.getD i 0 != 1099511627776)=false:=by rw[hc];rfl
    have ha1:aft1 r v i=v.getD i 0:=by rw[aft1,if_pos hc,hc]
    have hbe:(v.getD i 0==1099511627776)=true:=beq_iff_eq.2 hc
    have hov:ovr r v (i+1)=ovr r v i:=by rw[ovr,List.range_succ,List.any_append];simp only[List.any_cons,List.any_nil,hbe,Bool.true_or,Bool.not_true,Bool.or_false];rfl
    rw[hov,←hb,qcD r v i (by omega),ha1] at hQ'
    have fX:=(cJ5 @hd @hw @hga @qaK @hcd)
    refine qaa qdT.eq_1 ?_
    refine W_gc ?_
    refine wR0 900 [1,2,4,6,8,43] fX ?_
    refine wT @hd ?_
    refine wR0 1000 [1,2,4,6,8,9] fX ?_
    refine wR0 1100 [1,2,4,6,8,9,51] fX ?_
    refine wF @hcd ?_
    refine wR0 1400 [1,2,4,6,8] fX ?_
    refine wR0 1500 [1,2,4,6,8] fX ?_
    refine wN ?_
    refine qaT [0,1403] (by simp[inL]) (by simp[inL,T.cl,qae]) (by simp[qak,inL,Slot.cl,T.cl,clL,qae]) ?_
    simpa [qak,inL,qab] using hQ'
   ·have hcd:(v.getD i 0 != 1099511627776)=true:=by simpa using hc
    have ha1:aft1 r v i=v.getD i 0 - r.need.getD i 0+r.give.getD i 0:=by rw[aft1,if_neg hc]
    have hgn:=qaE r.need i (by have:=hr.need;omega)
    have hgg:=qaE r.give i (by have:=hr.give;omega)
    have hln:(i:Int)<((qab r.need).length:Int):=by rw[qac];have:=hr.need;omega
    have hlg:(i:Int)<((qab r.give).length:Int):=by rw[qac];have:=hr.give;omega
    have k1:=hr.needB i
    have k2:=hr.giveB i
    have k3:=hr.vec i
    have hw1:IntKind.wrap .i64 (r.give.getD i 0 - r.need.getD i 0)=r.give.getD i 0 - r.need.getD i 0:=wrap64 (by omega) (by omega)
    have hw2:IntKind.wrap .i64 (v.getD i 0+(r.give.getD i 0 - r.need.getD i 0))=aft1 r v i:=by rw[wrap64 (by omega) (by omega),ha1];omega
    have hbe:(v.getD i 0==1099511627776)=false:=beq_eq_false_iff_ne.2 hc
    have hov:ovr r v (i+1)=(ovr r v i || decide (aft1 r v i > 1048576)):=by
     rw[ovr,List.range_succ,List.any_append];simp only[List.any_cons,List.any_nil,Bool.or_false,hbe,Bool.false_or]
     rw[show (!decide (aft1 r v i≤1048576))=decide (aft1 r v i > 1048576) from by rw[Bool.eq_iff_iff];simp,ovr]
    rw[hov,←hb,qcD r v i (by omega)] at hQ'
    generalize hX:aft1 r v i=X at*
    cases b with
    | true=>
     have fX:=(cJ8 @hd @hw @hga @qaK @hcd @hgn @hgg (cJ2 @hw1 @hw2))
     refine qaa qdT.eq_1 ?_
     refine W_gc ?_
     refine wR0 900 [1,2,4,6,8,43] fX ?_
     refine wT @hd ?_
     refine wR0 1000 [1,2,4,6,8,9] fX ?_
     refine wR0 1100 [1,2,4,6,8,9,51] fX ?_
     refine wT @hcd ?_
     refine wR0 1200 [1,2,4,6,8,9] fX ?_
     refine wR0 1300 [1,2,4,6,8,9] fX ?_
     refine wR0 1400 [1,2,4,6,8] fX ?_
     refine wR0 1500 [1,2,4,6,8] fX ?_
     refine wN ?_
     refine qaT [0,1403] (by simp[inL]) (by simp[inL,T.cl,qae]) (by simp[qak,inL,Slot.cl,T.cl,clL,qae]) ?_
     simpa [qak,inL,qab] using hQ'
    | false=>
     have fX:=(cJ8 @hd @hw @hga @qaK @hcd @hgn @hgg (cJ2 @hw1 @hw2))
     refine qaa qdT.eq_1 ?_
     refine W_gc ?_
     refine wR0 900 [1,2,4,6,8,43] fX ?_
     refine wT @hd ?_
     refine wR0 1000 [1,2,4,6,8,9] fX ?_
     refine wR0 1100 [1,2,4,6,8,9,51] fX ?_
     refine wT @hcd ?_
     refine wR0 1200 [1,2,4,6,8,9] fX ?_
     refine wR0 1300 [1,2,4,6,8,9] fX ?_
     refine wR0 1400 [1,2,4,6,8] fX ?_
     refine wR0 1500 [1,2,4,6,8] fX ?_
     refine wN ?_
     refine qaT [0,1403] (by simp[inL]) (by simp[inL,T.cl,qae]) (by simp[qak,inL,Slot.cl,T.cl,clL,qae]) ?_
     simpa [qak,inL,qab] using hQ'
  | cons z zs=>
   have hlb:zs.length+1≤1000000:=by simp at hdl;omega
   have he:(qab (z::zs)).length=zs.length+1:=by simp[qab]
   simp only[qb0,qbZ,List.cons_append] at hQ' ⊢
   by_cases hc:v.getD i 0=1099511627776
   ·have hcd:(v.getD i 0 != 1099511627776)=false:=by rw[hc];rfl
    have ha1:aft1 r v i=v.getD i 0:=by rw[aft1,if_pos hc,hc]
    have hbe:(v.getD i 0==1099511627776)=true:=beq_iff_eq.2 hc
    have hov:ovr r v (i+1)=ovr r v i:=by rw[ovr,List.range_succ,List.any_append];simp only[List.any_cons,List.any_nil,hbe,Bool.true_or,Bool.not_true,Bool.or_false];rfl
    rw[hov,←hb,qcD r v i (by omega),ha1] at hQ'
    have fX:=(cJ6 @hd @hw @hga @qaK @hcd @he)
    refine qaa qdT.eq_1 ?_
    refine W_gc ?_
    refine wR0 900 [1,2,4,6,8,43] fX ?_
    refine wT @hd ?_
    refine wR0 1000 [1,2,4,6,8,9] fX ?_
    refine wR0 1100 [1,2,4,6,8,9,51] fX ?_
    refine wF @hcd ?_
    refine wR0 1400 [1,2,4,6,8] fX ?_
    refine wR0 1500 [1,2,4,6,8] fX ?_
    refine wN ?_
    refine qaT [0,1403] (by simp[inL]) (by simp[inL,T.cl,qae]) (by simp[qak,inL,Slot.cl,T.cl,clL,qan,qae]) ?_
    simpa [qak,inL,qab] using hQ'
   ·have hcd:(v.getD i 0 != 1099511627776)=true:=by simpa using hc
    have ha1:aft1 r v i=v.getD i 0 - r.need.getD i 0+r.give.getD i 0:=by rw[aft1,if_neg hc]
    have hgn:=qaE r.need i (by have:=hr.need;omega)
    have hgg:=qaE r.give i (by have:=hr.give;omega)
    have hln:(i:Int)<((qab r.need).length:Int):=by rw[qac];have:=hr.need;omega
    have hlg:(i:Int)<((qab r.give).length:Int):=by rw[qac];have:=hr.give;omega
    have k1:=hr.needB i
    have k2:=hr.giveB i
    have k3:=hr.vec i
    have hw1:IntKind.wrap .i64 (r.give.getD i 0 - r.need.getD i 0)=r.give.getD i 0 - r.need.getD i 0:=wrap64 (by omega) (by omega)
    have hw2:IntKind.wrap .i64 (v.getD i 0+(r.give.getD i 0 - r.need.getD i 0))=aft1 r v i:=by rw[wrap64 (by omega) (by omega),ha1];omega
    have hbe:(v.getD i 0==1099511627776)=false:=beq_eq_false_iff_ne.2 hc
    have hov:ovr r v (i+1)=(ovr r v i || decide (aft1 r v i > 1048576)):=by
     rw[ovr,List.range_succ,List.any_append];simp only[List.any_cons,List.any_nil,Bool.or_false,hbe,Bool.false_or]
     rw[show (!decide (aft1 r v i≤1048576))=decide (aft1 r v i > 1048576) from by rw[Bool.eq_iff_iff];simp,ovr]
    rw[hov,←hb,qcD r v i (by omega)] at hQ'
    generalize hX:aft1 r v i=X at*
    cases b with
    | true=>
     have fX:=(cJ8 @hd @hw @hga @qaK @hcd @he @hgn (cJ3 @hgg @hw1 @hw2))
     refine qaa qdT.eq_1 ?_
     refine W_gc ?_
     refine wR0 900 [1,2,4,6,8,43] fX ?_
     refine wT @hd ?_
     refine wR0 1000 [1,2,4,6,8,9] fX ?_
     refine wR0 1100 [1,2,4,6,8,9,51] fX ?_
     refine wT @hcd ?_
     refine wR0 1200 [1,2,4,6,8,9] fX ?_
     refine wR0 1300 [1,2,4,6,8,9] fX ?_
     refine wR0 1400 [1,2,4,6,8] fX ?_
     refine wR0 1500 [1,2,4,6,8] fX ?_
     refine wN ?_
     refine qaT [0,1403] (by simp[inL]) (by simp[inL,T.cl,qae]) (by simp[qak,inL,Slot.cl,T.cl,clL,qan,qae]) ?_
     simpa [qak,inL,qab] using hQ'
    | false=>
     have fX:=(cJ8 @hd @hw @hga @qaK @hcd @he @hgn (cJ3 @hgg @hw1 @hw2))
     refine qaa qdT.eq_1 ?_
     refine W_gc ?_
     refine wR0 900 [1,2,4,6,8,43] fX ?_
     refine wT @hd ?_
     refine wR0 1000 [1,2,4,6,8,9] fX ?_
     refine wR0 1100 [1,2,4,6,8,9,51] fX ?_
     refine wT @hcd ?_
     refine wR0 1200 [1,2,4,6,8,9] fX ?_
     refine wR0 1300 [1,2,4,6,8,9] fX ?_
     refine wR0 1400 [1,2,4,6,8] fX ?_
     refine wR0 1500 [1,2,4,6,8] fX ?_
     refine wN ?_
     refine qaT [0,1403] (by simp[inL]) (by simp[inL,T.cl,qae]) (by simp[qak,inL,Slot.cl,T.cl,clL,qan,qae]) ?_
     simpa [qak,inL,qab] using hQ'
end
section
open Go.RowKit
set_option maxHeartbeats 2000000
attribute [local simp] qae
def qpB (r:Rl)(v:List Int):T:=if canR r v=true then .tup [.list (qab (aftR r v)),.bool true,.bool (!aftO r v)] else .tup [.list [],.bool false,.bool false]
set_option maxHeartbeats 4000000 in
theorem qpE (r:Rl)(v:List Int)(hl:v.length≤1000000)(hr:RoomR r v):TP Tryz.prog 23 [qaU r,.list (qab v)] (qpB r v):=by
 have hn:=hr.need
 have hg:=hr.give
 have hd1:(((qab r.need).length:Int) != ((qab v).length:Int))=false:=by rw[qac,qac,hn];simp
 have hd2:(((qab r.give).length:Int) != ((qab v).length:Int))=false:=by rw[qac,qac,hg];simp
 have hL0:=fun Q h0 h1=>qpC r v hl hn Q v.length 0 (by omega) h0 h1
 have hL1:=fun Q h=>qpD r v hl hr Q h v.length 0 [] false (by omega) rfl rfl
 have hov:=qqf r v
 have hal:=qbB r v
 have hcan:canR r v=allI (fun j=>!decide (v.getD j 0<r.need.getD j 0)) 0 v.length:=rfl
 rw[qpB]
 cases hc:canR r v with
 | false=>
  rw[hc] at hcan
  rw[←hcan] at hL0
  rw[if_neg (by simp)]
  have hLF:=fun Q h1=>hL0 Q (fun h=>by cases h) (fun _=>h1)
  simp only[rlC] at hLF
  have fX:=(cJ2 @hd1 @hd2)
  refine qai fn23 (by simp) ?_
  unfold i23
  simp only[argL,qaU,rlC]
  refine wR0 0 [1,2,4,6] fX ?_
  refine wR0 100 [1,2,4,6,23] fX ?_
  refine wF fX ?_
  refine wR0 300 [1,2,4,6,7] fX ?_
  refine wL ?_
  refine hLF _ ?_
  ·skip
   refine wN ?_
   exact⟨by simp,_,rfl,by exact qde .nil (.same rfl) (.same rfl)⟩
 | true=>
  rw[hc] at hcan
  rw[←hcan] at hL0
  rw[if_pos rfl]
  rw[hov] at hL1
  have hLT:=fun Q h0=>hL0 Q (fun _=>h0) (fun h=>by cases h)
  cases hA:aftR r v with
  | nil=>
   rw[hA] at hL1
   simp only[rlC,qb0,qbZ,List.cons_append,List.nil_append] at hLT hL1
   have fX:=(cJ2 @hd1 @hd2)
   refine qai fn23 (by simp) ?_
   unfold i23
   simp only[argL,qaU,rlC]
   refine wR0 0 [1,2,4,6] fX ?_
   refine wR0 100 [1,2,4,6,23] fX ?_
   refine wF fX ?_
   refine wR0 300 [1,2,4,6,7] fX ?_
   refine wL ?_
   refine hLT _ ?_
   ·intro i
    refine wN ?_
    refine wR0 800 [1,2,4,6,8] fX ?_
    refine wL ?_
    refine hL1 _ ?_
    ·intro j
     refine wN ?_
     refine wR0 1600 [4,5,6] fX ?_
     refine wP ?_
     exact qde .nil (.same rfl) (.same rfl)
  | cons z zs=>
   rw[hA] at hL1
   simp only[rlC,qb0,qbZ,List.cons_append,List.nil_append] at hLT hL1
   have fX:=(cJ2 @hd1 @hd2)
   refine qai fn23 (by simp) ?_
   unfold i23
   simp only[argL,qaU,rlC]
   refine wR0 0 [1,2,4,6] fX ?_
   refine wR0 100 [1,2,4,6,23] fX ?_
   refine wF fX ?_
   refine wR0 300 [1,2,4,6,7] fX ?_
   refine wL ?_
   refine hLT _ ?_
   ·intro i
    refine wN ?_
    refine wR0 800 [1,2,4,6,8] fX ?_
    refine wL ?_
    refine hL1 _ ?_
    ·intro j
     refine wN ?_
     refine wR0 1600 [4,5,6] fX ?_
     refine wP ?_
     exact qde (qbt (z::zs) rfl rfl rfl) (.same rfl) (.same rfl)
end
section
open Go.RowKit
set_option maxHeartbeats 2000000
attribute [local simp] qae qbb qaV qbD
def rlZ:Rl:=⟨⟨#[]⟩,0,0,[],[],[],0,0,0,[],[],[],[],0⟩
theorem qlI (rs:List Rl)(q:Nat)(h:q<rs.length):(qaC rs).getD (q:Int).toNat .undef=qaU (rs.getD q rlZ):=by
 simp[qaC,List.getD_eq_getElem?_getD,h]
structure FromP (m:Md) (l:List Nn) (i p q:Nat):Prop where
 par:(l.getD i default).par=p
 rule:(l.getD i default).rule=q
 lt:p<i
 rl:q<m.rules.length
 can:canR (m.rules.getD q rlZ) (l.getD p default).vec=true
 from_:(m.rules.getD q rlZ).from_=(l.getD p default).st
 to_:(m.rules.getD q rlZ).to_=(l.getD i default).st
 le:vLe (aftR (m.rules.getD q rlZ) (l.getD p default).vec) (l.getD i default).vec=true
 room:RoomR (m.rules.getD q rlZ) (l.getD p default).vec
def NodeP (m:Md)(l:List Nn)(i:Nat):Prop:=(i=0∧(l.getD i default).par = -1∧(l.getD i default).rule = -1)∨(0<i∧∃p q,FromP m l i p q)
abbrev paE (l:List Nn)(i:Int):List (Nat×T):=[(4,.ref 402 10 0),(5,.ref 505 2 0),(40,.list (qa0 l)),(41,.int .i64 (qa0 l).length),(42,.int .i64 i)]
abbrev paH (m:Md)(l:List Nn)(k:Int)(d:Dc):List (Nat×Slot):=[(99999,dcB d),(402,sMg m),(505,.live ⟨37,grC l k⟩)]
set_option maxHeartbeats 8000000 in
theorem qmt (m:Md)(hm:m.rules.length≤1000)(l:List Nn)(hl:l.length≤1000)(hv:∀j,j<l.length→(l.getD j default).vec.length≤1000)(k:Int)(d:Dc)(hP:∀i,i<l.length→NodeP m l i)(Q:IExit→(Nat→T)→Heap→Prop)
 (hQ:∀j:Int,Q (.exit 0) (ofL (paE l j++[(43,.bool false)])) (hpL (paH m l k d))) :
 ∀(f i:Nat),i+f=l.length→WL Tryz.prog 127 qlY (ofL (paE l i)) (hpL (paH m l k d)) Q:=by
 simp only[paE,paH,grC,sMg,mdC,List.cons_append,List.nil_append] at hQ ⊢
 intro f
 induction f with
 | zero=>
  intro i hk
  have hd:decide ((i:Int)<((qa0 l).length:Int))=false:=decide_eq_false (by rw[qa7];omega)
  have fX:=@hd
  refine qaa qlY.eq_1 ?_
  refine wR0 1200 [4,5,40,41,42,43] fX ?_
  refine wF @hd ?_
  refine wX ?_
  refine wN ?_
  exact hQ _
 | succ f ih=>
  intro i hk
  have hil:i<l.length:=by omega
  have hlt:(i:Int)<((qa0 l).length:Int):=by rw[qa7];omega
  have hd:decide ((i:Int)<((qa0 l).length:Int))=true:=decide_eq_true hlt
  have hw:IntKind.wrap .i64 ((i:Int)+1)=((i+1:Nat):Int):=by rw[wrap64 (by omega) (by omega)];rfl
  have hg:=qc1 l i hil
  have hQ':=ih (i+1) (by omega)
  rcases hP i hil with⟨h0,h1,h2⟩ | ⟨h0,p,q,hF⟩
  ·subst h0
   generalize l.getD 0 default=n at*
   have hd1:(n.par != -1)=false:=by rw[h1];rfl
   have hd2:(n.rule != -1)=false:=by rw[h2];rfl
   have hd3:(((0:Nat):Int)==0)=true:=rfl
   simp only[encN,nnC] at hg
   have fX:=(cJ6 @hd @hw @hg @hd1 @hd2 @hd3)
   refine qaa qlY.eq_1 ?_
   refine W_gc ?_
   refine wR0 1200 [4,5,40,41,42,43] fX ?_
   refine wT @hd ?_
   refine wR0 1300 [4,5,9,10,40,41,42] fX ?_
   refine wR0 1400 [4,5,9,10,40,41,42,48] fX ?_
   refine wT @hd3 ?_
   refine wR0 1500 [4,5,40,41,42,56] fX ?_
   refine wF fX ?_
   refine wX ?_
   refine wR0 2300 [4,5,40,41,42] fX ?_
   refine wN ?_
   refine qaT [99999,402,505] (by simp[inL]) (by simp[inL,T.cl,qbb]) (by simp[qak,inL,Slot.cl,T.cl,clL,qbb,qaV,qdb,qae,qaz,qbD]) ?_
   simpa [qak,inL] using hQ'
  ·obtain⟨f1,f2,f3,f4,f5,f6,f7,f8,f9⟩:=hF
   have hgp:=qc1 l p (by omega)
   have hvi:=hv i hil
   have hvp:=hv p (by omega)
   have hgr:=qlI m.rules q f4
   have hltp:(p:Int)<((qa0 l).length:Int):=by rw[qa7];omega
   have hltq:(q:Int)<((qaC m.rules).length:Int):=by rw[qbo];omega
   generalize l.getD i default=n at*
   generalize l.getD p default=u at*
   generalize m.rules.getD q rlZ=r at*
   have hfr:=qpE r u.vec (by omega) f9
   rw[qpB,if_pos f5] at hfr
   have hle:=qoz (aftR r u.vec) n.vec (by rw[qbB];omega) (by omega)
   rw[f8] at hle
   generalize aftR r u.vec=W at*
   have hd1:((i:Int)==0)=false:=by rw[beq_eq_false_iff_ne];omega
   have hd2:decide (n.par<0)=false:=decide_eq_false (by omega)
   have hd3:decide (n.par≥(i:Int))=false:=decide_eq_false (by omega)
   have hd4:decide (n.rule<0)=false:=decide_eq_false (by omega)
   have hd5:decide (n.rule≥((qaC m.rules).length:Int))=false:=decide_eq_false (by omega)
   have hd6:(r.from_ != u.st)=false:=by simpa using f6
   have hd7:(r.to_ != n.st)=false:=by simpa using f7
   have hltp':n.par<((qa0 l).length:Int):=by rw[f1];exact hltp
   have hltq':n.rule<((qaC m.rules).length:Int):=by rw[f2];exact hltq
   rw[←f1] at hgp
   rw[←f2] at hgr
   have hp0:0≤n.par:=by omega
   have hq0:0≤n.rule:=by omega
   simp only[encN,nnC] at hg hgp
   simp only[qaU,rlC] at hgr hfr
   have hgr2:=hgr
   rw[List.getD_eq_getElem?_getD] at hgr2
   have fX:=(cJ8 @hd @hw @hg @hgp @hgr @hgr2 @hd1 (cJ6 @hd2 @hd3 @hd4 @hd5 @hd6 @hd7))
   refine qaa qlY.eq_1 ?_
   refine W_gc ?_
   refine wR0 1200 [4,5,40,41,42,43] fX ?_
   refine wT @hd ?_
   refine wR0 1300 [4,5,9,10,40,41,42] fX ?_
   refine wR0 1400 [4,5,9,10,40,41,42,48] fX ?_
   refine wF @hd1 ?_
   refine wR0 1700 [4,5,10,40,41,42,78] fX ?_
   refine wF fX ?_
   refine wR0 1900 [4,5,10,11,40,41,42] fX ?_
   refine wRn 2000 [4,5,10,11,12,13,40,41,42] fX ?_
   refine rC fX ?_
   refine⟨_,hfr,rE fX ?_⟩
   refine wRn 2100 [4,5,40,41,42,125] fX ?_
   refine rC fX ?_
   refine⟨_,hle,rE fX ?_⟩
   refine wF fX ?_
   refine wR0 2300 [4,5,40,41,42] fX ?_
   refine wN ?_
   refine qaT [99999,402,505] (by simp[inL]) (by simp[inL,T.cl,qbb]) (by simp[qak,inL,Slot.cl,T.cl,clL,qbb,qaV,qdb,qae,qaz,qbD]) ?_
   simpa [qak,inL] using hQ'
end
end Go.Proofs.YtncpdpbpcnoeeaaGreat
