/- Contracts of functions of the program, for all arguments that they name. -/
import Derived.Test.YtpplncjaihgimaaGreatK41
namespace Go.Proofs.YtpplncjaihgimaaGreat
set_option linter.unusedVariables false
section
open Go.RowKit
set_option maxHeartbeats 2000000
attribute [local simp] qay qae qai
theorem qrM {L:Int}{l:List Nd}(h:qdB L l):totN (qe9 L l)=totN l:=(qtF (qe2 h)).trans (qtE l)
theorem qoh {m:Md}(g:Gmd m){r:Rl}(hr:r∈m.rules){s:Int}{c:List Nd}(o:OkN m s c):∀y∈(qa7 m r s c).1,∃(s':Int) (y':List Nd),y=cfgN m.levels s' y'∧OkN m s' y'∧totN y'+r.path.length≤totN c+r.next.length∧(r.path.length≤r.next.length→totN y'+r.path.length=totN c+r.next.length):=by
 have hk:=g.tm.kind
 obtain⟨r1,r2,r3,r4,r5,r6,r7⟩:=qdF hk g.check hr
 obtain⟨b1,b2,b3,b4,b5,b6,b7⟩:=qbf hk g.check
 have hL:m.levels=1∨m.levels=2:=by omega
 intro y hy
 rw[qa7] at hy
 split at hy
 ·simp at hy
 ·split at hy
  ·simp at hy
  ·rename_i hn
   simp only[qei,(qbJ _).mem_iff,List.mem_map] at hy
   obtain⟨p,hp,rfl⟩:=hy
   have h3:(outN m r c p).2=0:=by
    have:=List.any_eq_false.1 (Bool.eq_false_iff.2 hn) p hp
    simpa using this
   obtain⟨e,o2⟩:=qhR hk g.check hr o hp h3
   have l1:=(qdt hL r3 r4 r5 hp o.leaf fun x hx=>by have:=o.kids x hx;omega).1
   have ht:=qlL (next:=r.next) (by omega) (by omega) r5 hp
   refine⟨_,_,e,o2,?_⟩
   rw[qrM l1]
   exact ht
theorem tot_le {l:List Nd}(hl:l.length≤12)(hk:∀x∈l,x.kids.length≤12):totN l≤200:=by
 have:∀l:List Nd,(∀x∈l,x.kids.length≤12)→totN l≤13*l.length:=fun l=>by
  induction l with
  | nil=>intro _;exact Nat.le_refl _
  | cons x l ih=>
   intro h
   have h1:=ih fun y hy=>h y (List.mem_cons_of_mem _ hy)
   have h2:=h x (by simp)
   simp only[totN,List.map_cons,List.sum_cons,List.length_cons] at h1 ⊢
   omega
 have:=this l hk
 omega
set_option maxHeartbeats 20000000 in
theorem qtk {m:Md}(g:Gmd m)(i:Nat)(hi:i<m.rules.length){s:Int}{c:List Nd}(o:OkN m s c)(d:Dk)(X:List V)(hlX:X.length≤1000000)(E:Int)
 (hX:∀y∈X,∃(s':Int) (y':List Nd),y=cfgN m.levels s' y'∧OkN m s' y'∧totN y'+(qaA m i).path.length≤totN c+(qaA m i).next.length∧((qaA m i).path.length≤(qaA m i).next.length→totN y'+(qaA m i).path.length=totN c+(qaA m i).next.length)) (Q:IExit→(Nat→T)→Heap→Prop):∀(rest pre:List V) (n:Nat),X=pre++rest→pre.length=n→
 (∀j:Int,Q (.exit 4) (ofL [(4,.ref 402 10 0),(6,.int .i64 (totN c:Int)),(12,.int .i64 i),(14,.int .i64 E),(108,.list (qac X)),(109,.int .i64 X.length),(110,.int .i64 j),(111,.bool false)]) (hpL (szH d m s c)))→
 WL Tryz.prog 198 qqn (ofL [(4,.ref 402 10 0),(6,.int .i64 (totN c:Int)),(12,.int .i64 i),(14,.int .i64 E),(108,.list (qac X)),(109,.int .i64 X.length),(110,.int .i64 n)]) (hpL (szH d m s c)) Q:=by
 have hmc:∀D,clL D (mdC m)=true:=fun D=>by simp
 have hsl:(qas m.letters).length=m.letters.length:=qaf _
 obtain⟨b1,b2,b3,b4,b5,b6,b7⟩:=qbf g.tm.kind g.check
 have hal:(qac X).length=X.length:=qag X
 intro rest
 induction rest with
 | nil=>
  intro pre n he hn hQ
  have hd:decide ((n:Int)<(X.length:Int))=false:=by simp[he,hn]
  simp only[szH] at hQ ⊢
  have fX:=@hd
  refine qaa qqn.eq_1 ?_
  refine wR0 2300 [4,6,12,14,108,109,110,111] fX ?_
  refine wF @hd ?_
  refine wX ?_
  refine wN ?_
  exact hQ _
 | cons y rest ih=>
  intro pre n he hn hQ
  have hlt:(n:Int)<(X.length:Int):=by rw[he];simp;omega
  have hltX:(n:Int)<((qac X).length:Int):=by rw[hal];exact hlt
  have hlb:n≤1000000:=by rw[he] at hlX;simp at hlX;omega
  have hd:decide ((n:Int)<(X.length:Int))=true:=decide_eq_true hlt
  have hw:IntKind.wrap .i64 ((n:Int)+1)=((n+1:Nat):Int):=by rw[wrap64 (by omega) (by omega)];rfl
  have hg:(qac X).getD (n:Int).toNat .undef=encV y:=by rw[Int.toNat_natCast,he,←hn];exact qaU pre y rest
  obtain⟨s',y',rfl,oy,t1,t2⟩:=hX y (by rw[he];simp)
  have hQ':=ih (pre++[cfgN m.levels s' y']) (n+1) (by simpa using he) (by simp[hn]) hQ
  have hL:=fun AL R E NX IX Q=>qtl g oy d s c AL R E NX IX X Q m.letters.length 0 (by omega)
  have hgr:(qaN m.rules).getD (i:Int).toNat .undef=.agg (rlC (qaA m i)):=qhk m i (by omega)
  have hib:(i:Int)<((qaN m.rules).length:Int):=by rw[qaB];omega
  obtain⟨r1,r2,r3,r4,r5,r6,r7⟩:=qdF g.tm.kind g.check (qdO hi)
  have hpl:(qab (qaA m i).path).length=(qaA m i).path.length:=qah _
  have hnl:(qab (qaA m i).next).length=(qaA m i).next.length:=qah _
  have tc:=tot_le o.len o.kids
  have hws:IntKind.wrap .i64 (((qaA m i).next.length:Int) - ((qaA m i).path.length:Int))=((qaA m i).next.length:Int) - ((qaA m i).path.length:Int):=wrap64 (by omega) (by omega)
  simp only[cfgN,bagV,encV] at hg
  simp only[szH,szK,List.cons_append,List.nil_append] at hQ' hL ⊢
  by_cases hle:(qaA m i).path.length≤(qaA m i).next.length
  ·have ht:=t2 hle
   have hge:decide (((qaA m i).next.length:Int) - ((qaA m i).path.length:Int)≥0)=true:=decide_eq_true (by omega)
   have hlz:decide (((qaA m i).next.length:Int) - ((qaA m i).path.length:Int)<0)=false:=decide_eq_false (by omega)
   have hw3:IntKind.wrap .i64 ((totN c:Int)+(((qaA m i).next.length:Int) - ((qaA m i).path.length:Int)))=(totN y':Int):=by rw[wrap64 (by omega) (by omega)];omega
   have hnq:((totN y':Int) != (totN y':Int))=false:=by simp
   have fX:=(cJ8 @hd @hw @hg @hgr @hsl @hpl @hnl (cJ5 @hws @hge @hlz @hw3 @hnq))
   refine qaa qqn.eq_1 ?_
   refine W_gc ?_
   refine wR0 2300 [4,6,12,14,108,109,110,111] fX ?_
   refine wT fX ?_
   refine wR0 2400 [4,6,12,14,16,108,109,110] fX ?_
   refine wR0 2500 [4,6,12,14,16,17,108,109,110] fX ?_
   refine wR0 2600 [4,6,12,14,16,17,108,109,110,116,117] (cJ2 @mdC.eq_1 fX) ?_
   refine wL ?_
   refine qcZ [4,6,12,14,16,17,108,109,110,116,117] ?_
   refine hL _ _ _ _ _ _ ?_
   ·intro j
    refine wN ?_
    refine wR0 3700 [4,6,12,14,17,22,108,109,110] (cJ3 @mdC.eq_1 @rlC.eq_1 fX) ?_
    refine wR0 3800 [4,6,12,14,108,109,110,190] fX ?_
    refine wF (cJ4 @hge @hlz @hw3 @hnq) ?_
    refine wR0 4000 [4,6,12,14,108,109,110] fX ?_
    refine wN ?_
    refine qaC [99999,402,503] (by simp[inL]) (by simp[inL,T.cl]) (by simp[qam,inL,Slot.cl,T.cl,clL,hmc]) ?_
    exact hQ'
  ·have hge:decide (((qaA m i).next.length:Int) - ((qaA m i).path.length:Int)≥0)=false:=decide_eq_false (by omega)
   have hlz:decide (((qaA m i).next.length:Int) - ((qaA m i).path.length:Int)<0)=true:=decide_eq_true (by omega)
   have hw3:IntKind.wrap .i64 ((totN c:Int)+(((qaA m i).next.length:Int) - ((qaA m i).path.length:Int)))=(totN c:Int)+(((qaA m i).next.length:Int) - ((qaA m i).path.length:Int)):=wrap64 (by omega) (by omega)
   have hnq:decide ((totN y':Int) > (totN c:Int)+(((qaA m i).next.length:Int) - ((qaA m i).path.length:Int)))=false:=decide_eq_false (by omega)
   have fX:=(cJ8 @hd @hw @hg @hgr @hsl @hpl @hnl (cJ5 @hws @hge @hlz @hw3 @hnq))
   refine qaa qqn.eq_1 ?_
   refine W_gc ?_
   refine wR0 2300 [4,6,12,14,108,109,110,111] fX ?_
   refine wT fX ?_
   refine wR0 2400 [4,6,12,14,16,108,109,110] fX ?_
   refine wR0 2500 [4,6,12,14,16,17,108,109,110] fX ?_
   refine wR0 2600 [4,6,12,14,16,17,108,109,110,116,117] (cJ2 @mdC.eq_1 fX) ?_
   refine wL ?_
   refine qcZ [4,6,12,14,16,17,108,109,110,116,117] ?_
   refine hL _ _ _ _ _ _ ?_
   ·intro j
    refine wN ?_
    refine wR0 3700 [4,6,12,14,17,22,108,109,110] (cJ3 @mdC.eq_1 @rlC.eq_1 fX) ?_
    refine wR0 3800 [4,6,12,14,108,109,110,190] fX ?_
    refine wF (cJ4 @hge @hlz @hw3 @hnq) ?_
    refine wR0 4000 [4,6,12,14,108,109,110] fX ?_
    refine wN ?_
    refine qaC [99999,402,503] (by simp[inL]) (by simp[inL,T.cl]) (by simp[qam,inL,Slot.cl,T.cl,clL,hmc]) ?_
    exact hQ'
set_option maxHeartbeats 20000000 in
theorem qtn (l:List Int):TP Tryz.prog 6 [.list (qab l)] (.bool true):=by
 have hfew:=qm3 l
 by_cases hl:l.length≤400
 ·have hb:decide (l.length≤400)=true:=decide_eq_true hl
  rw[hb] at hfew
  have hnew:=qnx l
  obtain⟨m,d1,g,hk,hd1,hM⟩:=qfQ (dk0 l) (qm2 hl)
  have hz:((0:Int) != 0)=false:=rfl
  have hz0:((0:Int)==0)=true:=rfl
  have hsl:(qas m.letters).length=m.letters.length:=qaf _
  obtain⟨s,c,d2,o,hd2,hC⟩:=qin g d1 hd1
  have hL0:=fun Q=>qti g o d2 Q m.letters.length 0 (by omega)
  obtain⟨i,d3,hib',hd3,hR⟩:=qbC d2 m.rules.length hd2
  simp only[szH] at hL0
  simp only[qax] at hM hC
  by_cases hr0:m.rules.length=0
  ·have hrl0:((m.rules.length:Int)==0)=true:=by simp[hr0]
   have hA:=hM
   have hL2:=hM
   have fX:=(cJ5 @hz @hz0 @qaB @hrl0 @hsl)
   refine qan fn6 (by simp) ?_
   unfold i6
   simp only[argL]
   refine wR0 0 [0] fX ?_
   refine wRn 100 [0,29] fX ?_
   refine rC fX ?_
   refine⟨_,qbj,rN fX ?_⟩
   refine rC fX ?_
   refine⟨_,hfew,rE fX ?_⟩
   refine wF fX ?_
   refine wRn 300 [3] fX ?_
   refine rU [] [(99999,dkB (dk0 l))] fX ?_
   refine⟨_,hnew,rE fX ?_⟩
   refine wRn 400 [3,4] (cJ2 @mdC.eq_1 fX) ?_
   refine rU [(99999,dkB (dk0 l))] [(99999,dkB d1)] (cJ2 @mdC.eq_1 fX) ?_
   refine⟨_,hM.full1,rE (cJ2 @mdC.eq_1 fX) ?_⟩
   refine wRn 500 [3,4,5] (cJ2 @mdC.eq_1 fX) ?_
   refine rU [(99999,dkB d1)] [(99999,dkB d2)] (cJ2 @mdC.eq_1 fX) ?_
   refine⟨_,hC.full1,rE (cJ2 @mdC.eq_1 fX) ?_⟩
   refine wR0 600 [3,4,5,6,7] fX ?_
   refine wR0 700 [3,4,5,6,7,40,41] (cJ2 @mdC.eq_1 fX) ?_
   refine wL ?_
   refine qcZ [3,4,5,6,7,40,41] ?_
   refine hL0 _ ?_
   ·intro j
    refine wN ?_
    refine wR0 1800 [3,4,5,6,7,93] (cJ2 @mdC.eq_1 fX) ?_
    refine wT (cJ2 @hz @hrl0) ?_
    refine wR0 1900 [2] fX ?_
    refine wP ?_
    exact .same rfl
  ·have hrl0:((m.rules.length:Int)==0)=false:=by rw[beq_eq_false_iff_ne];omega
   obtain⟨i,rfl⟩:=Int.eq_ofNat_of_zero_le hib'.1
   have hi:i<m.rules.length:=by have:=hib'.2.2 (by omega);omega
   have hrm:=qdO hi
   have hA:=qdE m g.fit hk g.check i hi o
   have hT:=qoh g hrm o
   have h01:(qa7 m (qaA m i) s c).2=0∨(qa7 m (qaA m i) s c).2=1:=by
    rw[qa7]
    split
    ·exact .inl rfl
    ·split
     ·exact .inr rfl
     ·exact .inl rfl
   have hlen:(qa7 m (qaA m i) s c).1.length≤1000000:=by
    rw[qa7]
    split
    ·simp
    ·split
     ·simp
     ·have h1:=qdh (qbu ((qa4 c (qaA m i).path).map fun p=>(outN m (qaA m i) c p).1))
      have h2:=qbY o.len o.kids (qaA m i).path
      rw[qcJ,List.length_map,qcw] at h1
      exact Nat.le_trans h1 (Nat.le_trans h2 (by decide))
   obtain⟨X,e,hX⟩:∃X e,qa7 m (qaA m i) s c=(X,e):=⟨_,_,rfl⟩
   rw[hX] at hA hT h01 hlen
   simp only at h01 hlen hT
   have hal:(qac X).length=X.length:=qag X
   have hL2:=fun Q=>qtk g i hi o d3 X hlen e hT Q X [] 0 rfl rfl
   have t01:((1:Int)==0)=false:=rfl
   have t11:((1:Int)==1)=true:=rfl
   simp only[szH] at hL2
   simp only[qax,cfgN,bagV,encV] at hR hA
   rcases h01 with rfl | rfl
   ·have fX:=(cJ6 @hz @hz0 @qaB @hrl0 @hsl @hal)
    refine qan fn6 (by simp) ?_
    unfold i6
    simp only[argL]
    refine wR0 0 [0] fX ?_
    refine wRn 100 [0,29] fX ?_
    refine rC fX ?_
    refine⟨_,qbj,rN fX ?_⟩
    refine rC fX ?_
    refine⟨_,hfew,rE fX ?_⟩
    refine wF fX ?_
    refine wRn 300 [3] fX ?_
    refine rU [] [(99999,dkB (dk0 l))] fX ?_
    refine⟨_,hnew,rE fX ?_⟩
    refine wRn 400 [3,4] (cJ2 @mdC.eq_1 fX) ?_
    refine rU [(99999,dkB (dk0 l))] [(99999,dkB d1)] (cJ2 @mdC.eq_1 fX) ?_
    refine⟨_,hM.full1,rE (cJ2 @mdC.eq_1 fX) ?_⟩
    refine wRn 500 [3,4,5] (cJ2 @mdC.eq_1 fX) ?_
    refine rU [(99999,dkB d1)] [(99999,dkB d2)] (cJ2 @mdC.eq_1 fX) ?_
    refine⟨_,hC.full1,rE (cJ2 @mdC.eq_1 fX) ?_⟩
    refine wR0 600 [3,4,5,6,7] fX ?_
    refine wR0 700 [3,4,5,6,7,40,41] (cJ2 @mdC.eq_1 fX) ?_
    refine wL ?_
    refine qcZ [3,4,5,6,7,40,41] ?_
    refine hL0 _ ?_
    ·intro j
     refine wN ?_
     refine wR0 1800 [3,4,5,6,7,93] (cJ2 @mdC.eq_1 fX) ?_
     refine wF (cJ2 @hz @hrl0) ?_
     refine wRn 2000 [4,5,6,12] (cJ2 @mdC.eq_1 fX) ?_
     refine rU [(99999,dkB d2)] [(99999,dkB d3)] (cJ2 @mdC.eq_1 fX) ?_
     refine⟨_,hR.full1,rE (cJ2 @mdC.eq_1 fX) ?_⟩
     refine wRn 2100 [4,6,12,13,14] (cJ2 @mdC.eq_1 fX) ?_
     refine rC (cJ2 @mdC.eq_1 fX) ?_
     refine⟨_,hA,rE (cJ2 @mdC.eq_1 fX) ?_⟩
     refine wR0 2200 [4,6,12,14,108,109,110] fX ?_
     refine wL ?_
     refine qcZ [4,6,12,14,108,109,110] ?_
     refine hL2 _ ?_
     ·intro j
      refine wN ?_
      refine wR0 4100 [2] fX ?_
      refine wP ?_
      exact .same rfl
   ·have fX:=(cJ8 @hz @hz0 @qaB @hrl0 @hsl @hal @t01 @t11)
    refine qan fn6 (by simp) ?_
    unfold i6
    simp only[argL]
    refine wR0 0 [0] fX ?_
    refine wRn 100 [0,29] fX ?_
    refine rC fX ?_
    refine⟨_,qbj,rN fX ?_⟩
    refine rC fX ?_
    refine⟨_,hfew,rE fX ?_⟩
    refine wF fX ?_
    refine wRn 300 [3] fX ?_
    refine rU [] [(99999,dkB (dk0 l))] fX ?_
    refine⟨_,hnew,rE fX ?_⟩
    refine wRn 400 [3,4] (cJ2 @mdC.eq_1 fX) ?_
    refine rU [(99999,dkB (dk0 l))] [(99999,dkB d1)] (cJ2 @mdC.eq_1 fX) ?_
    refine⟨_,hM.full1,rE (cJ2 @mdC.eq_1 fX) ?_⟩
    refine wRn 500 [3,4,5] (cJ2 @mdC.eq_1 fX) ?_
    refine rU [(99999,dkB d1)] [(99999,dkB d2)] (cJ2 @mdC.eq_1 fX) ?_
    refine⟨_,hC.full1,rE (cJ2 @mdC.eq_1 fX) ?_⟩
    refine wR0 600 [3,4,5,6,7] fX ?_
    refine wR0 700 [3,4,5,6,7,40,41] (cJ2 @mdC.eq_1 fX) ?_
    refine wL ?_
    refine qcZ [3,4,5,6,7,40,41] ?_
    refine hL0 _ ?_
    ·intro j
     refine wN ?_
     refine wR0 1800 [3,4,5,6,7,93] (cJ2 @mdC.eq_1 fX) ?_
     refine wF (cJ2 @hz @hrl0) ?_
     refine wRn 2000 [4,5,6,12] (cJ2 @mdC.eq_1 fX) ?_
     refine rU [(99999,dkB d2)] [(99999,dkB d3)] (cJ2 @mdC.eq_1 fX) ?_
     refine⟨_,hR.full1,rE (cJ2 @mdC.eq_1 fX) ?_⟩
     refine wRn 2100 [4,6,12,13,14] (cJ2 @mdC.eq_1 fX) ?_
     refine rC (cJ2 @mdC.eq_1 fX) ?_
     refine⟨_,hA,rE (cJ2 @mdC.eq_1 fX) ?_⟩
     refine wR0 2200 [4,6,12,14,108,109,110] fX ?_
     refine wL ?_
     refine qcZ [4,6,12,14,108,109,110] ?_
     refine hL2 _ ?_
     ·intro j
      refine wN ?_
      refine wR0 4100 [2] fX ?_
      refine wP ?_
      exact .same rfl
 ·have hb:decide (l.length≤400)=false:=decide_eq_false hl
  rw[hb] at hfew
  refine qan fn6 (by simp) ?_
  unfold i6
  simp only[argL]
  refine wR0 0 [0] cJ0 ?_
  refine wRn 100 [0,29] cJ0 ?_
  refine rC cJ0 ?_
  refine⟨_,qbj,rN cJ0 ?_⟩
  refine rC cJ0 ?_
  refine⟨_,hfew,rE cJ0 ?_⟩
  refine wT cJ0 ?_
  refine wRn 200 [2] cJ0 ?_
  refine rC cJ0 ?_
  refine⟨_,qbj,rE cJ0 ?_⟩
  refine wP ?_
  exact .same rfl
end
end Go.Proofs.YtpplncjaihgimaaGreat
