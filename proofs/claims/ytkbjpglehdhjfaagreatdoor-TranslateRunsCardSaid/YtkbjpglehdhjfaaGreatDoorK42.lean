/- Contracts of functions of the program, for all arguments that they name. -/
import Derived.Test.YtkbjpglehdhjfaaGreatDoorK27
import Derived.Test.YtkbjpglehdhjfaaGreatDoorK41
namespace Go.Proofs.YtkbjpglehdhjfaaGreatDoor
set_option linter.unusedVariables false
section
open Go.RowKit
attribute [local simp] qdW qah qax qgU
theorem qrS {r:Rl}{s:Int}{v:List Int}(h:qcn r s v=true):r.from_=s∧∀j,j<r.need.length→r.need.getD j 0≤v.getD j 0:=by
 simp only[qcn,Bool.and_eq_true,beq_iff_eq] at h
 refine⟨h.1,fun j hj=>?_⟩
 have:=(qdR _ _ _).1 h.2 j (Nat.zero_le _) (by omega)
 simp only[Bool.not_eq_true',decide_eq_false_iff_not] at this
 omega
theorem qox {r:Rl}{v:List Int}(h:aftO r v=true)(j:Nat)(hj:j<v.length):v.getD j 0=1099511627776∨aft1 r v j≤1048576:=by
 have:=(qdR _ _ _).1 h j (Nat.zero_le _) (by omega)
 simpa [Bool.or_eq_true] using this
theorem qtG {N:Nat}{rs:List Rl}(h:qi1 N rs){v:List Int}(hv:VecOk N v){r:Rl}(hr:r∈rs){s:Int}(hf:qcn r s v=true)(ho:aftO r v=true):VecOk N (aftR r v):=by
 have hl:(aftR r v).length=v.length:=qeL r v
 refine⟨by rw[hl,hv.len],fun j=>?_⟩
 by_cases hj:j<v.length
 ·rw[qfy r v j hj]
  have h1:=(qrS hf).2 j (by rw[(h r hr).1.1,←hv.len];exact hj)
  have h2:=(h r hr).2 j
  have h3:=hv.ent j
  have h4:=qox ho j hj
  rw[aft1] at h4 ⊢
  split at h4
  ·rename_i e;rw[if_pos e];omega
  ·rename_i e;rw[if_neg e];omega
 ·rw[qdY (by omega)];omega
end
section
open Go.RowKit
set_option maxHeartbeats 2000000
attribute [local simp] qah qak qax
theorem qqy (m:Md)(hm:m.fit)(hk:m.kind=1)(h0:qbm m=0)(s:Int)(v:List Int)(hl:v.length≤100000)(hv:qdr m (cfV s v)=true):TP Tryz.prog 57 [qaA m,encV (cfV s v)] (.tup [.list [],.int .i64 0]):=by
 have hkd:=qg6 m hm hk h0
 have hvl:=qc1 m (cfV s v) hm (qct s v hl)
 rw[hv] at hvl
 rw[qbv] at hvl ⊢
 have hd1:((0:Int) != 0)=false:=rfl
 have hd2:(m.kind==2)=false:=by rw[hk];rfl
 have hd3:(m.kind==3)=false:=by rw[hk];rfl
 have hd5:(m.kind==5)=false:=by rw[hk];rfl
 simp only[qaA,mdC,qa2] at hkd hvl ⊢
 refine qag fn57 (by simp) ?_
 unfold i57
 simp only[argL]
 refine wR0 0 [2,3] cJ0 ?_
 refine wRn 100 [2,3,6] cJ0 ?_
 refine rC cJ0 ?_
 refine⟨_,hkd,rE cJ0 ?_⟩
 refine wR0 200 [2,3,6,12] cJ0 ?_
 refine wF @hd1 ?_
 refine wRn 400 [2,3,17] cJ0 ?_
 refine rC cJ0 ?_
 refine⟨_,hvl,rE cJ0 ?_⟩
 refine wF cJ0 ?_
 refine wR0 600 [2,3,19] cJ0 ?_
 refine wR0 700 [2,3,19,20] cJ0 ?_
 refine wF @hd2 ?_
 refine wR0 800 [2,3,19,20] cJ0 ?_
 refine wF @hd3 ?_
 refine wR0 1000 [2,3,28] cJ0 ?_
 refine wF @hd5 ?_
 refine wR0 1300 [4,5] cJ0 ?_
 refine wP ?_
 exact qaK .nil (.same rfl)
end
section
open Go.RowKit
set_option maxHeartbeats 2000000
attribute [local simp] qah qak qax
set_option maxHeartbeats 4000000 in
theorem qln (m:Md)(hm:m.fit)(hk:m.kind=1)(h0:qbm m=0)(s:Int)(v:List Int)(hl:v.length≤100000)(hv:qdr m (cfV s v)=true) :
 TP Tryz.prog 22 [qaA m,.int .i64 (-1),encV (cfV s v)] (.tup [.list [],.int .i64 0]):=by
 have hq:=qqy m hm hk h0 s v hl hv
 have hkd:=qg6 m hm hk h0
 have hvl:=qc1 m (cfV s v) hm (qct s v hl)
 rw[hv] at hvl
 rw[qbv] at hvl hq ⊢
 have hd1:((0:Int) != 0)=false:=rfl
 have hd4:decide ((-1:Int) < -1)=false:=rfl
 have hd5:decide ((-1:Int)≥((qaR m.rules).length:Int))=false:=decide_eq_false (by omega)
 have hd6:((-1:Int) == -1)=true:=rfl
 simp only[qaA,mdC,qa2] at hkd hvl hq ⊢
 have fX:=(cJ3 @hd4 @hd5 @hd6)
 refine qag fn22 (by simp) ?_
 unfold i22
 simp only[argL]
 refine wR0 0 [1,3,5] fX ?_
 refine wRn 100 [1,3,5,8] fX ?_
 refine rC fX ?_
 refine⟨_,hkd,rE fX ?_⟩
 refine wR0 200 [1,3,5,8,14] fX ?_
 refine wF @hd1 ?_
 refine wR0 400 [1,3,5,24] fX ?_
 refine wF fX ?_
 refine wRn 600 [1,3,5,28] fX ?_
 refine rC fX ?_
 refine⟨_,hvl,rE fX ?_⟩
 refine wF fX ?_
 refine wR0 800 [1,3,5,30] fX ?_
 refine wT @hd6 ?_
 refine wRn 900 [6,7] fX ?_
 refine rC fX ?_
 refine⟨_,hq,rE fX ?_⟩
 refine wP ?_
 exact .same rfl
theorem qh8 (D:Nat→Bool)(l:List St3):clL D (l.flatMap stC)=true:=by
 induction l with
 | nil=>rfl
 | cons x l ih=>rw[List.flatMap_cons,qab,qf1,ih];rfl
def qik (l:List St3):T:=match l with
 | []=>.nil
 | _::l=>.sl 1408 ((l.length+1)*3) 3 0 (l.length+1)
def qk2 (l:List St3):List (Nat×Slot):=match l with
 | []=>[]
 | x::l=>[(1408,.live ⟨73,(x::l).flatMap stC⟩)]
def allR (s:Int)(v:List Int):List Rl→Nat→List St3→Int×List St3
 | [],_,acc=>(0,acc)
 | r::rs,q,acc=>if qcn r s v=true then (if aftO r v=true then allR s v rs (q+1) (acc++[⟨q,r.to_,aftR r v⟩]) else (1,[])) else allR s v rs (q+1) acc
abbrev alH (m:Md)(s:Int)(v:List Int)(acc:List St3):List (Nat×Slot):=[(0,sMg m),(1,.live ⟨35,apC s v⟩)]++qk2 acc
set_option maxHeartbeats 8000000 in
theorem all_l0 (m:Md){N:Nat}(hM:PlainM m N)(hrl:m.rules.length≤1000)(s:Int)(v:List Int)(hs:0≤s∧s<m.states.length)(hv:VecOk N v)(hf:FinV v)(R:Int×List St3)(Q:IExit→(Nat→T)→Heap→Prop)
 (hQ0:R.1=0→∀j:Int,Q (.exit 0) (ofL [(2,.ref 0 10 0),(3,.ref 1 2 0),(7,qik R.2),(8,.int .i64 j),(25,.bool false)]) (hpL (alH m s v R.2)))
 (hQ1:R.1=1→∀acc,Q .ret (ofL [(4,.nil),(5,.int .i64 1)]) (hpL (alH m s v acc))) :
 ∀(rs:List Rl) (q:Nat) (acc:List St3),m.rules.drop q=rs→acc.length≤q→allR s v rs q acc=R→
 WL Tryz.prog 57 qe9 (ofL [(2,.ref 0 10 0),(3,.ref 1 2 0),(7,qik acc),(8,.int .i64 q)]) (hpL (alH m s v acc)) Q:=by
 have hg0:∀x:T,([x]:List T).getD (Int.toNat 0) .undef=x:=fun x=>rfl
 have hz:((0:Int) != 0)=false:=rfl
 have hd1:((1:Int) != 0)=true:=rfl
 simp only[alH,sMg,mdC,apC,List.cons_append,List.nil_append] at hQ0 hQ1 ⊢
 intro rs
 induction rs with
 | nil=>
  intro q acc hd hal hR
  have hql:=List.drop_eq_nil_iff.1 hd
  have hdd:decide ((q:Int)<((qaR m.rules).length:Int))=false:=decide_eq_false (by rw[qaS];omega)
  rw[allR] at hR
  subst hR
  have fX:=@hdd
  refine qaa qe9.eq_1 ?_
  refine wR0 800 [2,3,7,8,25] fX ?_
  refine wF @hdd ?_
  refine wX ?_
  refine wN ?_
  exact hQ0 rfl _
 | cons r rs ih=>
  intro q acc hdr hal hR
  have hql:q<m.rules.length:=by
   refine Classical.byContradiction fun hn=>?_
   rw[List.drop_eq_nil_of_le (by omega)] at hdr;cases hdr
  have hdr2:m.rules.getD q rlZ=r∧m.rules.drop (q+1)=rs:=by
   rw[List.drop_eq_getElem_cons hql] at hdr
   injection hdr with e1 e2
   exact⟨by rw[←e1];simp[List.getD_eq_getElem?_getD,hql],e2⟩
  have hd:decide ((q:Int)<((qaR m.rules).length:Int))=true:=decide_eq_true (by rw[qaS];omega)
  have hw:IntKind.wrap .i64 ((q:Int)+1)=((q+1:Nat):Int):=by rw[wrap64 (by omega) (by omega)];rfl
  have hap:=hM.apply hql hs hv hf
  rw[hdr2.1,qoB] at hap
  rw[allR] at hR
  have hih:=fun acc=>ih (q+1) acc hdr2.2
  cases hfi:qcn r s v with
  | false=>
   rw[hfi,if_neg (by simp),qbv] at hap
   rw[hfi,if_neg (by simp)] at hR
   have hQ':=hih acc (by omega) hR
   simp only[qaA,mdC,qa2] at hap
   cases acc with
   | nil=>
    simp only[qik,qk2] at hQ' ⊢
    have fX:=(cJ3 @hd @hw @hz)
    refine qaa qe9.eq_1 ?_
    refine W_gc ?_
    refine wR0 800 [2,3,7,8,25] fX ?_
    refine wT @hd ?_
    refine wRn 900 [2,3,7,8,9,10] fX ?_
    refine rC fX ?_
    refine⟨_,hap,rE fX ?_⟩
    refine wR0 1000 [2,3,7,8,9,10,36] fX ?_
    refine wF @hz ?_
    refine wR0 1200 [2,3,7,8,9,11] fX ?_
    refine wL ?_
    refine qaa qgD.eq_1 ?_
    refine wR0 1300 [2,3,7,8,9,11,41] fX ?_
    refine wF fX ?_
    refine wX ?_
    refine wR0 1600 [2,3,7,8] fX ?_
    refine wN ?_
    refine qay [0,1,1408] (by simp[inL]) (by simp[inL,T.cl]) (by simp[qaf,inL,Slot.cl,T.cl,clL,qak,qax,qaO,qah]) ?_
    simpa [qaf,inL,stC] using hQ'
   | cons z zs=>
    simp only[qik,qk2] at hQ' ⊢
    have fX:=(cJ3 @hd @hw @hz)
    refine qaa qe9.eq_1 ?_
    refine W_gc ?_
    refine wR0 800 [2,3,7,8,25] fX ?_
    refine wT @hd ?_
    refine wRn 900 [2,3,7,8,9,10] fX ?_
    refine rC fX ?_
    refine⟨_,hap,rE fX ?_⟩
    refine wR0 1000 [2,3,7,8,9,10,36] fX ?_
    refine wF @hz ?_
    refine wR0 1200 [2,3,7,8,9,11] fX ?_
    refine wL ?_
    refine qaa qgD.eq_1 ?_
    refine wR0 1300 [2,3,7,8,9,11,41] fX ?_
    refine wF fX ?_
    refine wX ?_
    refine wR0 1600 [2,3,7,8] fX ?_
    refine wN ?_
    refine qay [0,1,1408] (by simp[inL]) (by simp[inL,T.cl]) (by simp[qaf,inL,Slot.cl,T.cl,clL,qab,qh8,qf1,qak,qax,qaO,qah]) ?_
    simpa [qaf,inL,stC] using hQ'
  | true=>
   rw[hfi,if_pos rfl] at hap hR
   cases ho:aftO r v with
   | false=>
    rw[ho,if_neg (by simp),qbv] at hap
    rw[ho,if_neg (by simp)] at hR
    subst hR
    have hq1:=hQ1 rfl acc
    simp only[qaA,mdC,qa2] at hap
    have fX:=(cJ3 @hd @hw @hd1)
    refine qaa qe9.eq_1 ?_
    refine W_gc ?_
    refine wR0 800 [2,3,7,8,25] fX ?_
    refine wT @hd ?_
    refine wRn 900 [2,3,7,8,9,10] fX ?_
    refine rC fX ?_
    refine⟨_,hap,rE fX ?_⟩
    refine wR0 1000 [2,3,7,8,9,10,36] fX ?_
    refine wT @hd1 ?_
    refine wR0 1100 [4,5] fX ?_
    refine wE ?_
    refine wN ?_
    exact hq1
   | true=>
    rw[ho,if_pos rfl,qbv,qbv] at hap
    rw[ho,if_pos rfl] at hR
    have hQ':=hih _ (by simp;omega) hR
    generalize aftR r v=W at*
    simp only[qaA,mdC,qa2] at hap
    have hw0:IntKind.wrap .i64 ((0:Int)+1)=1:=by rw[wrap64 (by omega) (by omega)];rfl
    have hl0:decide ((0:Int)<((1:Nat):Int))=true:=rfl
    have hl1:decide ((1:Int)<((1:Nat):Int))=false:=rfl
    cases acc with
    | nil=>
     simp only[qik,qk2,List.nil_append,List.length_nil,List.flatMap_cons,List.flatMap_nil,List.append_nil,stC] at hQ' ⊢
     have fX:=(cJ8 @hd @hw @hz @hg0 @qaF @hw0 @hl0 @hl1)
     refine qaa qe9.eq_1 ?_
     refine W_gc ?_
     refine wR0 800 [2,3,7,8,25] fX ?_
     refine wT @hd ?_
     refine wRn 900 [2,3,7,8,9,10] fX ?_
     refine rC fX ?_
     refine⟨_,hap,rE fX ?_⟩
     refine wR0 1000 [2,3,7,8,9,10,36] fX ?_
     refine wF @hz ?_
     refine wR0 1200 [2,3,7,8,9,11] fX ?_
     refine wL ?_
     refine qaa qgD.eq_1 ?_
     refine wR0 1300 [2,3,7,8,9,11,41] fX ?_
     refine wT fX ?_
     refine wR0 1400 [2,3,7,8,9,11] fX ?_
     refine wR0 1500 [2,3,7,8,9,11] fX ?_
     refine wN ?_
     refine qaa qgD.eq_1 ?_
     refine wR0 1300 [2,3,7,8,9,11,41] fX ?_
     refine wF fX ?_
     refine wX ?_
     refine wR0 1600 [2,3,7,8] fX ?_
     refine wN ?_
     refine qay [0,1,1408] (by simp[inL]) (by simp[inL,T.cl]) (by simp[qaf,inL,Slot.cl,T.cl,clL,qak,qax,qaO,qah]) ?_
     simpa [qaf,inL,stC] using hQ'
    | cons z zs=>
     have he:((z::zs).flatMap stC).length=(zs.length+1)*3:=by rw[qch stC 3 (fun _=>rfl)];rfl
     have hm3:(zs.length+1+1)*3=(zs.length+1)*3+3:=by omega
     have hfa:∀c:St3,(z::(zs++[c])).flatMap stC=(z::zs).flatMap stC++stC c:=fun c=>by simp[List.flatMap_append]
     have hzl:zs.length+1≤1000:=by simp at hal;omega
     simp only[qik,qk2,List.cons_append,List.length_append,List.length_cons,List.length_nil,Nat.zero_add,hfa,hm3] at hQ' ⊢
     have fX:=(cJ8 @hd @hw @hz @hg0 @qaF @hw0 @hl0 (cJ2 @hl1 @he))
     refine qaa qe9.eq_1 ?_
     refine W_gc ?_
     refine wR0 800 [2,3,7,8,25] fX ?_
     refine wT @hd ?_
     refine wRn 900 [2,3,7,8,9,10] fX ?_
     refine rC fX ?_
     refine⟨_,hap,rE fX ?_⟩
     refine wR0 1000 [2,3,7,8,9,10,36] fX ?_
     refine wF @hz ?_
     refine wR0 1200 [2,3,7,8,9,11] fX ?_
     refine wL ?_
     refine qaa qgD.eq_1 ?_
     refine wR0 1300 [2,3,7,8,9,11,41] fX ?_
     refine wT fX ?_
     refine wR0 1400 [2,3,7,8,9,11] fX ?_
     refine wR0 1500 [2,3,7,8,9,11] fX ?_
     refine wN ?_
     refine qaa qgD.eq_1 ?_
     refine wR0 1300 [2,3,7,8,9,11,41] fX ?_
     refine wF fX ?_
     refine wX ?_
     refine wR0 1600 [2,3,7,8] fX ?_
     refine wN ?_
     refine qay [0,1,1408] (by simp[inL]) (by simp[inL,T.cl]) (by simp[qaf,inL,Slot.cl,T.cl,clL,qab,qh8,qf1,qak,qax,qaO,qah]) ?_
     simpa [qaf,inL,stC] using hQ'
end
section
open Go.RowKit
set_option maxHeartbeats 2000000
attribute [local simp] qah qak qax
theorem qgO (s:Int)(v:List Int):∀(rs:List Rl) (q:Nat) (acc:List St3),(allR s v rs q acc).2.length≤acc.length+rs.length
 | [],_,acc=>by simp[allR]
 | r::rs,q,acc=>by
  rw[allR]
  split
  ·split
   ·have:=qgO s v rs (q+1) (acc++[⟨q,r.to_,aftR r v⟩])
    simp only[List.length_append,List.length_cons,List.length_nil] at this ⊢;omega
   ·simp
  ·have:=qgO s v rs (q+1) acc
   simp only[List.length_cons];omega
theorem qma (s:Int)(v:List Int):∀(rs:List Rl) (q:Nat) (acc:List St3),(allR s v rs q acc).1=0∨allR s v rs q acc=(1,[])
 | [],_,_=>.inl rfl
 | r::rs,q,acc=>by
  rw[allR]
  split
  ·split
   ·exact qma s v rs _ _
   ·exact .inr rfl
  ·exact qma s v rs _ _
theorem qnt (x:St3):Ones (stC x):=fun c hc=>by
 simp only[stC,List.mem_cons,List.not_mem_nil,or_false] at hc
 rcases hc with rfl | rfl | rfl<;>rfl
theorem qt5 {H:Heap}(z:St3)(zs:List St3)(hb:H 1408=.live ⟨73,(z::zs).flatMap stC⟩):Frz H (.sl 1408 ((zs.length+1)*3) 3 0 (zs.length+1)) (.list (qbG (z::zs))):=by
 have he:esz 3=3:=rfl
 have hfl:flat (qbG (z::zs))=(z::zs).flatMap stC:=qfl stC 3 (by omega) (fun _=>rfl) _
 refine .sl hb (qch stC 3 (fun _=>rfl) _) (by rw[he];omega) (by simp[qbG]) (fun x hx=>?_) ?_ fun k hk=>?_
 ·obtain⟨a,_,rfl⟩:=List.mem_map.1 hx
  rfl
 ·rw[hfl]
  intro c hc
  obtain⟨a,_,hc⟩:=List.mem_flatMap.1 hc
  exact qnt a c hc
 ·rw[hfl,Nat.zero_add]
  exact .same (qbk (qh8 _ (z::zs)) k)
set_option maxHeartbeats 8000000 in
theorem all_f0 (m:Md){N:Nat}(hM:PlainM m N)(hrl:m.rules.length≤250)(s:Int)(v:List Int)(hs:0≤s∧s<m.states.length)(hv:VecOk N v)(hf:FinV v)(R:Int×List St3)(hR:allR s v m.rules 0 []=R)(Q:IExit→(Nat→T)→Heap→Prop)
 (hQ0:R.1=0→∀j:Int,Q (.exit 0) (ofL [(2,.ref 0 10 0),(3,.ref 1 2 0),(7,qik R.2),(8,.int .i64 j),(25,.bool false)]) (hpL (alH m s v R.2)))
 (hQ1:R.1=1→∀acc,Q .ret (ofL [(4,.nil),(5,.int .i64 1)]) (hpL (alH m s v acc))) :
 WL Tryz.prog 57 qe9 (ofL [(2,.ref 0 10 0),(3,.ref 1 2 0),(7,.nil),(8,.int .i64 (-1))]) (hpL [(0,sMg m),(1,.live ⟨35,apC s v⟩)]) Q:=by
 have hQ':=all_l0 m hM (by omega) s v hs hv hf R Q hQ0 hQ1 m.rules 0 [] rfl (Nat.zero_le _) hR
 have hN:=hM.small
 have hap:=qln m hM.fit hM.kind hM.check s v (by have:=hv.len;omega) (hM.valid hs hv hf)
 rw[qbv] at hap
 have hd:decide ((-1:Int)<((qaR m.rules).length:Int))=true:=decide_eq_true (by omega)
 have hw:IntKind.wrap .i64 ((-1:Int)+1)=0:=by rw[wrap64 (by omega) (by omega)];rfl
 have hz:((0:Int) != 0)=false:=rfl
 simp only[qaA,mdC,qa2] at hap
 simp only[alH,sMg,mdC,apC,qik,qk2,List.append_nil] at hQ' ⊢
 have fX:=(cJ3 @hd @hw @hz)
 refine qaa qe9.eq_1 ?_
 refine wR0 800 [2,3,7,8,25] fX ?_
 refine wT @hd ?_
 refine wRn 900 [2,3,7,8,9,10] fX ?_
 refine rC fX ?_
 refine⟨_,hap,rE fX ?_⟩
 refine wR0 1000 [2,3,7,8,9,10,36] fX ?_
 refine wF @hz ?_
 refine wR0 1200 [2,3,7,8,9,11] fX ?_
 refine wL ?_
 refine qaa qgD.eq_1 ?_
 refine wR0 1300 [2,3,7,8,9,11,41] fX ?_
 refine wF fX ?_
 refine wX ?_
 refine wR0 1600 [2,3,7,8] fX ?_
 refine wN ?_
 exact hQ'
theorem qqi (m:Md){N:Nat}(hM:PlainM m N)(hrl:m.rules.length≤250)(s:Int)(v:List Int)(hs:0≤s∧s<m.states.length)(hv:VecOk N v)(hf:FinV v) :
 TP Tryz.prog 27 [qaA m,encV (cfV s v)] (.tup [.list (qbG (allR s v m.rules 0 []).2),.int .i64 (allR s v m.rules 0 []).1]):=by
 obtain⟨R,hR⟩:∃R,allR s v m.rules 0 []=R:=⟨_,rfl⟩
 have hlen:=qgO s v m.rules 0 []
 have hre:=qma s v m.rules 0 []
 have hL:=fun Q a b=>all_f0 m hM hrl s v hs hv hf R hR Q a b
 rw[hR] at hlen hre ⊢
 simp only[List.length_nil,Nat.zero_add] at hlen
 have hN:=hM.small
 have hkd:=qg6 m hM.fit hM.kind hM.check
 have hvl:=qc1 m (cfV s v) hM.fit (qct s v (by have:=hv.len;omega))
 rw[hM.valid hs hv hf] at hvl
 rw[qbv] at hvl ⊢
 have hz:((0:Int) != 0)=false:=rfl
 rcases hre with he | he
 ·have hLT:=fun Q a=>hL Q (fun _=>a) (fun h=>by rw[he] at h;cases h)
  rw[he]
  generalize R.2=S at*
  cases S with
  | nil=>
   simp only[qaA,alH,sMg,mdC,apC,qik,qk2,qa2,List.append_nil] at hkd hvl hLT ⊢
   have fX:=@hz
   refine qag fn27 (by simp) ?_
   unfold i27
   simp only[argL]
   refine wR0 0 [2,3] fX ?_
   refine wRn 100 [2,3,6] fX ?_
   refine rC fX ?_
   refine⟨_,hkd,rE fX ?_⟩
   refine wR0 200 [2,3,6,15] fX ?_
   refine wF @hz ?_
   refine wRn 400 [2,3,20] fX ?_
   refine rC fX ?_
   refine⟨_,hvl,rE fX ?_⟩
   refine wF fX ?_
   refine wR0 600 [2,3,7] fX ?_
   refine wR0 700 [2,3,7,8] fX ?_
   refine wL ?_
   refine hLT _ ?_
   ·intro j
    refine wN ?_
    refine wR0 1700 [7,55] fX ?_
    refine wF fX ?_
    refine wR0 1900 [4,5] fX ?_
    refine wP ?_
    exact qaK .nil (.same rfl)
  | cons z zs=>
   simp only[List.length_cons] at hlen
   have hgt:decide (((zs.length+1:Nat):Int) > 256)=false:=decide_eq_false (by omega)
   simp only[qaA,alH,sMg,mdC,apC,qik,qk2,qa2,List.cons_append,List.nil_append] at hkd hvl hLT ⊢
   have fX:=(cJ2 @hz @hgt)
   refine qag fn27 (by simp) ?_
   unfold i27
   simp only[argL]
   refine wR0 0 [2,3] fX ?_
   refine wRn 100 [2,3,6] fX ?_
   refine rC fX ?_
   refine⟨_,hkd,rE fX ?_⟩
   refine wR0 200 [2,3,6,15] fX ?_
   refine wF @hz ?_
   refine wRn 400 [2,3,20] fX ?_
   refine rC fX ?_
   refine⟨_,hvl,rE fX ?_⟩
   refine wF fX ?_
   refine wR0 600 [2,3,7] fX ?_
   refine wR0 700 [2,3,7,8] fX ?_
   refine wL ?_
   refine hLT _ ?_
   ·intro j
    refine wN ?_
    refine wR0 1700 [7,55] fX ?_
    refine wF @hgt ?_
    refine wR0 1900 [4,5] fX ?_
    refine wP ?_
    exact qaK (qt5 z zs rfl) (.same rfl)
 ·subst he
  have hLF:=fun Q a=>hL Q (fun h=>by cases h) (fun _=>a)
  simp only[qaA,alH,sMg,mdC,apC,qa2] at hkd hvl hLF ⊢
  have fX:=@hz
  refine qag fn27 (by simp) ?_
  unfold i27
  simp only[argL]
  refine wR0 0 [2,3] fX ?_
  refine wRn 100 [2,3,6] fX ?_
  refine rC fX ?_
  refine⟨_,hkd,rE fX ?_⟩
  refine wR0 200 [2,3,6,15] fX ?_
  refine wF @hz ?_
  refine wRn 400 [2,3,20] fX ?_
  refine rC fX ?_
  refine⟨_,hvl,rE fX ?_⟩
  refine wF fX ?_
  refine wR0 600 [2,3,7] fX ?_
  refine wR0 700 [2,3,7,8] fX ?_
  refine wL ?_
  refine hLF _ ?_
  ·intro acc
   refine wN ?_
   exact⟨by simp,_,rfl,by exact qaK .nil (.same rfl)⟩
end
section
open Go.RowKit
set_option maxHeartbeats 2000000
attribute [local simp] qah qak qax qaT
structure CfOk (m:Md) (N:Nat) (s:Int) (v:List Int):Prop where
 st:0≤s∧s<m.states.length
 vec:VecOk N v
 fin:FinV v
theorem qrp {r:Rl}{v:List Int}(hf:FinV v)(ho:aftO r v=true):FinV (aftR r v):=by
 intro j
 by_cases hj:j<v.length
 ·rw[qfy r v j hj]
  rcases qox ho j hj with h | h
  ·have:=hf j;omega
  ·exact h
 ·rw[qdY (by rw[qeL];omega)];omega
theorem qlm {m:Md}{N:Nat}(hM:PlainM m N){s:Int}{v:List Int}(hc:CfOk m N s v):∀(rs:List Rl) (q:Nat) (acc:List St3),m.rules.drop q=rs→(∀x∈acc,CfOk m N x.s x.v∧∃r∈m.rules,qcn r s v=true∧aftO r v=true∧x.s=r.to_∧x.v=aftR r v)→∀x∈(allR s v rs q acc).2,CfOk m N x.s x.v∧∃r∈m.rules,qcn r s v=true∧aftO r v=true∧x.s=r.to_∧x.v=aftR r v
 | [],_,_,_,h=>h
 | r::rs,q,acc,hd,h=>by
  have hmem:r∈m.rules:=List.mem_of_mem_drop (i:=q) (by rw[hd];exact List.mem_cons_self ..)
  have hd2:m.rules.drop (q+1)=rs:=by rw[←List.drop_drop,hd];rfl
  rw[allR]
  split
  ·rename_i hf
   split
   ·rename_i ho
    refine qlm hM hc rs (q+1) _ hd2 fun x hx=>?_
    rcases List.mem_append.1 hx with hx | hx
    ·exact h x hx
    ·rw[List.mem_singleton.1 hx]
     exact⟨⟨hM.to_ r hmem,qtG hM.rules hc.vec hmem hf ho,qrp hc.fin ho⟩,r,hmem,hf,ho,rfl,rfl⟩
   ·intro x hx;cases hx
  ·exact qlm hM hc rs (q+1) acc hd2 h
def qfo (m:Md):Nat→Int→List Int→List St3→Dc→(Int×List Int)×List St3×Dc
 | 0,s,v,out,d=>((s,v),out,d)
 | n+1,s,v,out,d=>
  if (allR s v m.rules 0 []).1≠0∨(allR s v m.rules 0 []).2=[] then ((s,v),out,d)
  else qfo m n ((allR s v m.rules 0 []).2.getD (qao d (allR s v m.rules 0 []).2.length).1.toNat default).s ((allR s v m.rules 0 []).2.getD (qao d (allR s v m.rules 0 []).2.length).1.toNat default).v (out++[(allR s v m.rules 0 []).2.getD (qao d (allR s v m.rules 0 []).2.length).1.toNat default]) (qao d (allR s v m.rules 0 []).2.length).2
def qqx (l:List St3):T:=match l with
 | []=>.nil
 | _::l=>.sl 805 ((l.length+1)*3) 3 0 (l.length+1)
def qqw (l:List St3):List (Nat×Slot):=match l with
 | []=>[]
 | x::l=>[(805,.live ⟨73,(x::l).flatMap stC⟩)]
theorem qiy (l:List St3)(i:Nat)(h:i<l.length):(qbG l).getD (i:Int).toNat .undef=.agg (stC (l.getD i default)):=by
 simp[qbG,List.getD_eq_getElem?_getD,h]
abbrev neH (m:Md)(s:Int)(v:List Int)(d:Dc)(out:List St3):List (Nat×Slot):=[(99999,dcB d),(0,sMg m),(1,.live ⟨35,[.int .i64 0,.nil]⟩),(102,.live ⟨35,apC s v⟩)]++qqw out
abbrev neE (out:List St3)(n:Int):List (Nat×T):=[(0,dcR),(4,.ref 0 10 0),(6,.ref 1 2 0),(8,.ref 102 2 0),(9,qqx out),(10,.int .i64 n)]
set_option maxHeartbeats 8000000 in
theorem quj (m:Md){N:Nat}(hM:PlainM m N)(hrl:m.rules.length≤250)(R:(Int×List Int)×List St3×Dc)(Q:IExit→(Nat→T)→Heap→Prop)
 (hQ0:∀n:Int,Q (.exit 0) (ofL (neE R.2.1 n++[(21,.bool false)])) (hpL (neH m R.1.1 R.1.2 R.2.2 R.2.1)))
 (hQ1:∀(n:Int) (x:T),Q (.exit 0) (ofL (neE R.2.1 n++[(11,x),(36,.bool true)])) (hpL (neH m R.1.1 R.1.2 R.2.2 R.2.1))) :
 ∀(n:Nat) (s:Int) (v:List Int) (out:List St3) (d:Dc),d.ok→CfOk m N s v→n+out.length≤100→qfo m n s v out d=R→
 WL Tryz.prog 52 qhB (ofL (neE out n)) (hpL (neH m s v d out)) Q:=by
 have hz:((0:Int) != 0)=false:=rfl
 simp only[neE,neH,sMg,mdC,apC,List.cons_append,List.nil_append] at hQ0 hQ1 ⊢
 intro n
 induction n with
 | zero=>
  intro s v out d hok hc hn hR
  rw[qfo] at hR
  subst hR
  have hd:decide (((0:Nat):Int) > 0)=false:=rfl
  have fX:=@hd
  refine qaa qhB.eq_1 ?_
  refine wR0 400 [0,4,6,8,9,10,21] fX ?_
  refine wF @hd ?_
  refine wX ?_
  refine wN ?_
  exact hQ0 _
 | succ n ih=>
  intro s v out d hok hc hn hR
  have hd:decide (((n+1:Nat):Int) > 0)=true:=decide_eq_true (by omega)
  have hw:IntKind.wrap .i64 (((n+1:Nat):Int) - 1)=(n:Int):=by rw[wrap64 (by omega) (by omega)];omega
  have hal:=qqi m hM hrl s v hc.st hc.vec hc.fin
  have hao:=qlm hM hc m.rules 0 [] rfl (fun x hx=>by cases hx)
  have hlen:=qgO s v m.rules 0 []
  have hre:=qma s v m.rules 0 []
  rw[qfo] at hR
  rw[qbv] at hal
  generalize allR s v m.rules 0 []=A at*
  obtain⟨e,S⟩:=A
  simp only[qaA,mdC,qa2] at hal
  simp only[List.length_nil,Nat.zero_add] at hlen
  by_cases hst:e≠0∨S=[]
  ·rw[if_pos hst] at hR
   subst hR
   have hq1:=fun n x=>hQ1 n x
   simp only at hq1
   rcases hre with he | he
   ·simp only at he
    subst he
    have hS:S=[]:=by
     rcases hst with h | h
     ·exact absurd rfl h
     ·exact h
    subst hS
    have hl0:(qbG []).length=0:=rfl
    have fX:=(cJ3 @hd @hz @hl0)
    refine qaa qhB.eq_1 ?_
    refine wR0 400 [0,4,6,8,9,10,21] fX ?_
    refine wT @hd ?_
    refine wRn 500 [0,4,6,8,9,10,11,12] fX ?_
    refine rC fX ?_
    refine⟨_,hal,rE fX ?_⟩
    refine wR0 600 [0,4,6,8,9,10,11,36] fX ?_
    refine wT fX ?_
    refine wX ?_
    refine wN ?_
    exact hq1 _ _
   ·simp only[Prod.mk.injEq] at he
    obtain⟨rfl,rfl⟩:=he
    have hz1:((1:Int) != 0)=true:=rfl
    have fX:=(cJ2 @hd @hz1)
    refine qaa qhB.eq_1 ?_
    refine wR0 400 [0,4,6,8,9,10,21] fX ?_
    refine wT @hd ?_
    refine wRn 500 [0,4,6,8,9,10,11,12] fX ?_
    refine rC fX ?_
    refine⟨_,hal,rE fX ?_⟩
    refine wR0 600 [0,4,6,8,9,10,11,36] fX ?_
    refine wT fX ?_
    refine wX ?_
    refine wN ?_
    exact hq1 _ _
  ·rw[if_neg hst] at hR
   have he:e=0:=Classical.byContradiction fun h=>hst (.inl h)
   have hS:S≠[]:=fun h=>hst (.inr h)
   subst he
   have hSl:0<S.length:=by cases S with | nil=>exact absurd rfl hS | cons x l=>simp
   have hpk:=qbN d hok (S.length:Nat) (by omega)
   have hpr:=qa6 hok (n:=(S.length:Nat)) (by omega)
   have hok1:=qaL hok (S.length:Nat)
   obtain⟨p,hp⟩:=Int.eq_ofNat_of_zero_le hpr.1
   rw[hp] at hpk hpr hR
   rw[Int.toNat_natCast] at hR
   have hpl:p<S.length:=by omega
   have hg:=qiy S p hpl
   have hxo:=hao (S.getD p default) (by simp[List.getD_eq_getElem?_getD,hpl])
   have hsl:(qbG S).length=S.length:=by simp[qbG]
   have hlt:(p:Int)<((qbG S).length:Int):=by omega
   rw[←hsl] at hpk hok1 hR
   have hne:(((qbG S).length:Int)==0)=false:=by rw[beq_eq_false_iff_ne];omega
   generalize (qao d ((qbG S).length:Nat)).2=d1 at*
   generalize S.getD p default=x at*
   have hQ':=ih x.s x.v (out++[x]) d1 hok1 hxo.1 (by simp;omega) hR
   simp only[stC] at hg
   cases out with
   | nil=>
    simp only[qqx,qqw,List.nil_append,List.length_nil,List.flatMap_cons,List.flatMap_nil,List.append_nil,stC] at hQ' ⊢
    have fX:=(cJ6 @hd @hw @hz @hne @hg @qaF)
    refine qaa qhB.eq_1 ?_
    refine W_gc ?_
    refine wR0 400 [0,4,6,8,9,10,21] fX ?_
    refine wT @hd ?_
    refine wRn 500 [0,4,6,8,9,10,11,12] fX ?_
    refine rC fX ?_
    refine⟨_,hal,rE fX ?_⟩
    refine wR0 600 [0,4,6,8,9,10,11,36] fX ?_
    refine wF fX ?_
    refine wRn 700 [0,4,6,8,9,10,13] fX ?_
    refine rU [(99999,dcB d)] [(99999,dcB d1)] fX ?_
    refine⟨_,hpk.fulD,rE fX ?_⟩
    refine wR0 800 [0,4,6,8,9,10] fX ?_
    refine wR0 900 [0,4,6,8,9,10] fX ?_
    refine wN ?_
    refine qay [99999,0,1,102,805] (by simp[inL]) (by simp[inL,T.cl]) (by simp[qaf,inL,Slot.cl,T.cl,clL,qak,qax,qaO,qah,qaT]) ?_
    simpa [qaf,inL,stC] using hQ'
   | cons z zs=>
    have he3:((z::zs).flatMap stC).length=(zs.length+1)*3:=by rw[qch stC 3 (fun _=>rfl)];rfl
    have hm3:(zs.length+1+1)*3=(zs.length+1)*3+3:=by omega
    have hfa:∀c:St3,(z::(zs++[c])).flatMap stC=(z::zs).flatMap stC++stC c:=fun c=>by simp[List.flatMap_append]
    have hzl:zs.length+1≤1000:=by simp at hn;omega
    simp only[qqx,qqw,List.cons_append,List.length_append,List.length_cons,List.length_nil,Nat.zero_add,hfa,hm3] at hQ' ⊢
    have fX:=(cJ7 @hd @hw @hz @hne @hg @qaF @he3)
    refine qaa qhB.eq_1 ?_
    refine W_gc ?_
    refine wR0 400 [0,4,6,8,9,10,21] fX ?_
    refine wT @hd ?_
    refine wRn 500 [0,4,6,8,9,10,11,12] fX ?_
    refine rC fX ?_
    refine⟨_,hal,rE fX ?_⟩
    refine wR0 600 [0,4,6,8,9,10,11,36] fX ?_
    refine wF fX ?_
    refine wRn 700 [0,4,6,8,9,10,13] fX ?_
    refine rU [(99999,dcB d)] [(99999,dcB d1)] fX ?_
    refine⟨_,hpk.fulD,rE fX ?_⟩
    refine wR0 800 [0,4,6,8,9,10] fX ?_
    refine wR0 900 [0,4,6,8,9,10] fX ?_
    refine wN ?_
    refine qay [99999,0,1,102,805] (by simp[inL]) (by simp[inL,T.cl]) (by simp[qaf,inL,Slot.cl,T.cl,clL,qab,qh8,qf1,qak,qax,qaO,qah,qaT]) ?_
    simpa [qaf,inL,stC] using hQ'
end
section
open Go.RowKit
attribute [local simp] qah qak qax qaT
theorem fz_sts {H:Heap}{D:Nat→Bool}(l:List St3)(hd:D 805=false)(hb:H 805=.live ⟨73,l.flatMap stC⟩):Fz H D (.sl 805 (l.length*3) 3 0 l.length) (.list (qbG l)):=
 qgW (x0:=default) stC stC 3 805 73 (by omega) (fun _=>rfl) (fun _=>rfl) qnt l hd (fun a k _=>.same (qbk (qf1 _ a) k)) hb
end
section
open Go.RowKit
set_option maxHeartbeats 2000000
attribute [local simp] qah qak qax qaT
def qn0 (m:Md)(v0:List Int)(most:Int)(d:Dc):(Int×List Int)×List St3×Dc:=qfo m (qao d (most+1)).1.toNat 0 v0 [] (qao d (most+1)).2
set_option maxHeartbeats 8000000 in
theorem quk (m:Md){N:Nat}(hM:PlainM m N)(hrl:m.rules.length≤250){v0:List Int}(hst:m.start=cfV 0 v0)(hc:CfOk m N 0 v0)(most:Int)(hmo:0≤most∧most≤90)(d:Dc)(hok:d.ok) :
 TC Tryz.prog 26 [dcR,qaA m,.int .i64 most] (hpL [(99999,dcB d)]) (.tup [encV (cfV (qn0 m v0 most d).1.1 (qn0 m v0 most d).1.2),.list (qbG (qn0 m v0 most d).2.1)]) (hpL [(99999,dcB (qn0 m v0 most d).2.2)]):=by
 have hpk:=qbN d hok (most+1) (by omega)
 have hpr:=qa6 hok (n:=most+1) (by omega)
 have hok1:=qaL hok (most+1)
 obtain⟨p,hp⟩:=Int.eq_ofNat_of_zero_le hpr.1
 rw[qn0]
 rw[hp] at hpk hpr ⊢
 rw[Int.toNat_natCast]
 generalize (qao d (most+1)).2=d1 at*
 obtain⟨R,hR⟩:∃R,qfo m p 0 v0 [] d1=R:=⟨_,rfl⟩
 have hL:=fun Q a b=>quj m hM hrl R Q a b p 0 v0 [] d1 hok1 hc (by simp;omega) hR
 rw[hR]
 obtain⟨⟨s,v⟩,out,d2⟩:=R
 have hsn:m.start.n=0:=by rw[hst];rfl
 have hsk:m.start.kids=natV 0::v0.map natV:=by rw[hst];rfl
 have hk0:qaj (natV 0::v0.map natV)=encV (natV 0)::qaj (v0.map natV):=rfl
 have hw:IntKind.wrap .i64 (most+1)=most+1:=wrap64 (by omega) (by omega)
 have hcl:T.cl (inL [99999]) (.agg [.int .i64 0,.list (.agg [.int .i64 s,.list []]::qaj (v.map natV))])=true:=by simp[T.cl,clL,qak]
 have hmf:∀H:Heap,SlotFz H (inL [99999]) (dcB d2) (dcB d2):=fun H=>qe8 d2
 simp only[qbv,qa2]
 cases out with
 | nil=>
  simp only[qaA,neE,neH,sMg,mdC,apC,qqx,qqw,hsn,hsk,hk0,qa2,List.cons_append,List.nil_append,List.append_nil] at hL ⊢
  have fX:=@hw
  refine ql7 fn26 (by simp) ?_
  unfold i26
  simp only[argL]
  refine wR0 0 [0,2,4,6] fX ?_
  refine wR0 100 [0,2,4,6,8] fX ?_
  refine wR0 200 [0,2,4,6,8,9] fX ?_
  refine wRn 300 [0,4,6,8,9,10] fX ?_
  refine rU [(99999,dcB d)] [(99999,dcB d1)] fX ?_
  refine⟨_,hpk.fulD,rE fX ?_⟩
  refine wL ?_
  refine hL _ ?_ ?_
  ·intro n
   refine wN ?_
   refine wR0 1000 [6,7] fX ?_
   refine wE ?_
   refine wN ?_
   exact⟨by simp,_,_,_,rfl,rfl,Fz.tupL (.cons (.same hcl) (.cons .nil .nil)),.keep rfl (qe8 d2) (.dead rfl (fun h=>by cases h) (.dead rfl (fun h=>by cases h) (.dead rfl (fun h=>by cases h) .nil))),rfl⟩
  ·intro n x
   refine wN ?_
   refine wR0 1000 [6,7] fX ?_
   refine wE ?_
   refine wN ?_
   exact⟨by simp,_,_,_,rfl,rfl,Fz.tupL (.cons (.same hcl) (.cons .nil .nil)),.keep rfl (qe8 d2) (.dead rfl (fun h=>by cases h) (.dead rfl (fun h=>by cases h) (.dead rfl (fun h=>by cases h) .nil))),rfl⟩
 | cons z zs=>
  have hfz:∀H:Heap,H 805=.live ⟨73,(z::zs).flatMap stC⟩→Fz H (inL [99999]) (.sl 805 ((zs.length+1)*3) 3 0 (zs.length+1)) (.list (qbG (z::zs))):=fun H h=>fz_sts (z::zs) rfl h
  simp only[qaA,neE,neH,sMg,mdC,apC,qqx,qqw,hsn,hsk,hk0,qa2,List.cons_append,List.nil_append,List.append_nil] at hL ⊢
  have fX:=@hw
  refine ql7 fn26 (by simp) ?_
  unfold i26
  simp only[argL]
  refine wR0 0 [0,2,4,6] fX ?_
  refine wR0 100 [0,2,4,6,8] fX ?_
  refine wR0 200 [0,2,4,6,8,9] fX ?_
  refine wRn 300 [0,4,6,8,9,10] fX ?_
  refine rU [(99999,dcB d)] [(99999,dcB d1)] fX ?_
  refine⟨_,hpk.fulD,rE fX ?_⟩
  refine wL ?_
  refine hL _ ?_ ?_
  ·intro n
   refine wN ?_
   refine wR0 1000 [6,7] fX ?_
   refine wE ?_
   refine wN ?_
   exact⟨by simp,_,_,_,rfl,rfl,Fz.tupL (.cons (.same hcl) (.cons (hfz _ rfl) .nil)),.keep rfl (qe8 d2) (.dead rfl (fun h=>by cases h) (.dead rfl (fun h=>by cases h) (.dead rfl (fun h=>by cases h) (.dead rfl (fun h=>by cases h) .nil)))),rfl⟩
  ·intro n x
   refine wN ?_
   refine wR0 1000 [6,7] fX ?_
   refine wE ?_
   refine wN ?_
   exact⟨by simp,_,_,_,rfl,rfl,Fz.tupL (.cons (.same hcl) (.cons (hfz _ rfl) .nil)),.keep rfl (qe8 d2) (.dead rfl (fun h=>by cases h) (.dead rfl (fun h=>by cases h) (.dead rfl (fun h=>by cases h) (.dead rfl (fun h=>by cases h) .nil)))),rfl⟩
end
end Go.Proofs.YtkbjpglehdhjfaaGreatDoor
