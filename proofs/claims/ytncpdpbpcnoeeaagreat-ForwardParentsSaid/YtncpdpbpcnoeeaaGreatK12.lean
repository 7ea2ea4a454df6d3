/- Contracts of functions of the program, for all arguments that they name. -/
import Derived.Test.YtncpdpbpcnoeeaaGreatK11
namespace Go.Proofs.YtncpdpbpcnoeeaaGreat
set_option linter.unusedVariables false
section
open Go.RowKit
set_option maxHeartbeats 2000000
theorem qmi (m:Md)(r:Rl)(hm:m.fit)(hr:r.fit)(ha:0≤m.age∧m.age≤1000)(hk:btw m.kind 1 6=true):TP Tryz.prog 86 [qaA m,qaU r] (.bool (qds m r)):=by
 unfold qds
 rcases hb:qis m r with _ | _
 ·have h:=qop m r hm.states hb
  simpa using h
 ·unfold qis at hb
  simp only[Bool.and_eq_true,Bool.or_eq_true] at hb
  obtain⟨h1,h2⟩:=hb
  rw[Bool.true_and]
  rcases hf:btw r.from_ 0 ((m.states.length:Int) - 1) with _ | _
  ·rw[hf] at h2
   simp at h2
   exact absurd hm.kd (by unfold kindOk;omega)
  ·rcases qgd hk with h | h | h | h | h | h
   ·exact qkB m r hm hr ha h h1 hf
   ·exact absurd hm.kd (by unfold kindOk;omega)
   ·exact absurd hm.kd (by unfold kindOk;omega)
   ·exact absurd hm.kd (by unfold kindOk;omega)
   ·exact absurd hm.kd (by unfold kindOk;omega)
   ·exact absurd hm.kd (by unfold kindOk;omega)
theorem qlk (m:Md)(r:Rl)(h:TP Tryz.prog 86 [qaA m,qaU r] (.bool (qds m r))):TP Tryz.prog 85 [qaU r,.ptr (mdC m)] (.bool (!qds m r)):=by
 refine qai fn85 (by simp) ?_
 unfold i85
 simp only[argL,qaU,rlC,mdC]
 refine wR0 0 [1,2] cJ0 ?_
 refine wRn 100 [3] cJ0 ?_
 refine rC cJ0 ?_
 refine⟨_,h,rE cJ0 ?_⟩
 refine wP ?_
 exact qad rfl
theorem ql9 (n:Int):(qaI n).fit:=by simp[qaI,Ty.fit,qdy]
theorem qik {t0 t:Ty}(h0:t0.fit)(h:t.fit):∀j,qdy (qd7 t0 t j)
 | 0=>by simp[qd7,qdy,h0]
 | j+1=>by
  have ih:=qik h0 h j
  have:∀(l:List Ty),qdy l→qdy (l++[t]):=fun l=>by
   induction l with
   | nil=>intro _;simp[qdy,h]
   | cons x l ih=>intro hl;simp only[qdy] at hl;simp only[List.cons_append,qdy];exact⟨hl.1,ih hl.2⟩
  exact this _ ih
theorem qk5 (m:Md)(hp:m.places.length≤1000)(hr:m.ranks.length≤1000000):(qcf m).fit:=by
 unfold qcf qaS
 (repeat' split)
 ·unfold qdC
  split<;>simp[qa6,Ty.fit,qdy,qaI]
 ·simp[qa6,Ty.fit,qdy,qaI]
 ·have hpf:(qfD m).fit:=by
   unfold qfD
   (repeat' split)<;>simp[qa6,Ty.fit,qdy,qaI,hr]
  have:=qik (ql9 m.states.length) hpf m.places.length
  simp only[Ty.fit]
  exact⟨by simp,by rw[qfP];omega,this⟩
def qdt (m:Md):Bool:=if m.kind=6 then (m.start.n==0)&&((m.start.kids.length:Int)==0) else qgn (qcf m) m.start
theorem qli (m:Md)(hm:m.sane):TP Tryz.prog 87 [qaA m] (.bool (qdt m)):=by
 have ht:=qoO m hm
 have hv:=qmq (qcf m) m.start (qk5 m hm.fit.places hm.fit.ranks) hm.fit.start
 rw[qpx] at hv
 rcases hty:qcf m with⟨tk,ts,trs,tps⟩
 rw[hty] at ht hv
 simp only[qaw] at ht hv
 refine qai fn87 (by simp) ?_
 unfold i87
 simp only[argL,qaA,mdC]
 refine wR0 0 [1] cJ0 ?_
 refine wR0 100 [1,5] cJ0 ?_
 refine wS cJ0 (fun hc100=>?_) (fun hc100=>?_)
 ·skip
  refine wR0 200 [2] cJ0 ?_
  refine wP ?_
  exact qad (by simp at hc100;rw[qdt,if_pos hc100,qat])
 ·skip
  refine wRn 300 [2] cJ0 ?_
  refine rC cJ0 ?_
  refine⟨_,ht,rN cJ0 ?_⟩
  refine rC cJ0 ?_
  refine⟨_,hv,rE cJ0 ?_⟩
  refine wP ?_
  exact qad (by simp at hc100;rw[qdt,if_neg hc100,hty])
def qcM (m:Md):Int:=
 if btw m.kind 1 6=false then 15 else if qcP m=false then 1 else if qez m=false then 14 else if qhZ m=false then 13 else if (m.rules.any fun r=>!qds m r)=true then 16 else if qdt m=false then 17 else 0
theorem qmS {m:Md}(h:qcP m=true):m.states≠[]:=by
 simp only[qcP,Bool.and_eq_true,btw,decide_eq_true_eq] at h
 intro e
 rw[e] at h
 simp at h
theorem qkT {m:Md}(hm:m.fit)(hk:btw m.kind 1 6=true)(h:qcP m=true)(hr:qez m=true):m.sane:=by
 refine⟨hm,hk,fun h4=>?_,?_,fun h3 hn=>?_⟩
 ·have hl:limC m.kind=[0,0,1,6,1,2,0,0]:=by rw[h4];rfl
  simp[qcP,btw,hl] at h
  omega
 ·rcases qgd hk with k | k | k | k | k | k<;>(simp[qcP,btw,k,limC] at h;omega)
 ·have hl:limC m.kind=[1,2,1,6,0,0,0,0]:=by rw[h3];rfl
  simp[qcP,btw,hl] at h
  rw[qez,if_neg (by simp[h3]),hn] at hr
  simp at hr
  omega
set_option maxHeartbeats 4000000 in
theorem qmd (m:Md)(hm:m.fit):TP Tryz.prog 52 [qaA m] (.int .i64 (qcM m)):=by
 have hst:=qoC m
 have hrt:=qmC m hm
 have hmc:∀D,clL D (mdC m)=true:=fun D=>by simp
 rcases hk:btw m.kind 1 6 with _ | _
 ·have hb:=qa1 m.kind 1 6
  rw[hk] at hb
  have fX:=@Bool.not_false
  refine qai fn52 (by simp) ?_
  unfold i52
  simp only[argL,qaA,mdC]
  refine wR0 0 [1] fX ?_
  refine wRn 100 [1,3] fX ?_
  refine rC fX ?_
  refine⟨_,hb,rE fX ?_⟩
  refine wT fX ?_
  refine wR0 200 [2] fX ?_
  refine wP ?_
  exact qaB (by rw[qcM,if_pos hk])
 ·have hb:=qa1 m.kind 1 6
  rw[hk] at hb
  rcases hs:qcP m with _ | _
  ·rw[hs] at hst
   have fX:=(cJ2 @Bool.not_false @Bool.not_true)
   refine qai fn52 (by simp) ?_
   unfold i52
   simp only[argL,qaA,mdC]
   refine wR0 0 [1] fX ?_
   refine wRn 100 [1,3] fX ?_
   refine rC fX ?_
   refine⟨_,hb,rE fX ?_⟩
   refine wF fX ?_
   refine wRn 300 [1,8] fX ?_
   refine rC fX ?_
   refine⟨_,hst,rE fX ?_⟩
   refine wT fX ?_
   refine wR0 400 [2] fX ?_
   refine wP ?_
   exact qaB (by rw[qcM,if_neg (by simp[hk]),if_pos hs])
  ·rw[hs] at hst
   rcases hr:qez m with _ | _
   ·rw[hr] at hrt
    have fX:=(cJ2 @Bool.not_false @Bool.not_true)
    refine qai fn52 (by simp) ?_
    unfold i52
    simp only[argL,qaA,mdC]
    refine wR0 0 [1] fX ?_
    refine wRn 100 [1,3] fX ?_
    refine rC fX ?_
    refine⟨_,hb,rE fX ?_⟩
    refine wF fX ?_
    refine wRn 300 [1,8] fX ?_
    refine rC fX ?_
    refine⟨_,hst,rE fX ?_⟩
    refine wF fX ?_
    refine wRn 500 [1,12] fX ?_
    refine rC fX ?_
    refine⟨_,hrt,rE fX ?_⟩
    refine wT fX ?_
    refine wR0 600 [2] fX ?_
    refine wP ?_
    exact qaB (by rw[qcM,if_neg (by simp[hk]),if_neg (by simp[hs]),if_pos hr])
   ·rw[hr] at hrt
    have hsn:=qkT hm hk hs hr
    have hcf:=qlj 85 [.ptr (mdC m)] (by simp[clL,T.cl]) (fun r=>!qds m r) m.rules (by have:=hm.rules;omega) (fun r hr=>qlk m r (qmi m r hm (hm.rule r hr) hsn.age hk))
    have hch:qcM m=if qhZ m=false then 13 else if (m.rules.any fun r=>!qds m r)=true then 16 else if qdt m=false then 17 else 0:=by rw[qcM,if_neg (by simp[hk]),if_neg (by simp[hs]),if_neg (by simp[hr])]
    simp only[mdC] at hcf
    have fX:=(cJ2 @Bool.not_false @Bool.not_true)
    refine qai fn52 (by simp) ?_
    unfold i52
    simp only[argL,qaA,mdC]
    refine wR0 0 [1] fX ?_
    refine wRn 100 [1,3] fX ?_
    refine rC fX ?_
    refine⟨_,hb,rE fX ?_⟩
    refine wF fX ?_
    refine wRn 300 [1,8] fX ?_
    refine rC fX ?_
    refine⟨_,hst,rE fX ?_⟩
    refine wF fX ?_
    refine wRn 500 [1,12] fX ?_
    refine rC fX ?_
    refine⟨_,hrt,rE fX ?_⟩
    refine wF fX ?_
    refine wRn 700 [1,16] fX ?_
    refine rC fX ?_
    refine⟨_,qn6 m hm (qmS hs),rE fX ?_⟩
    refine wS cJ0 (fun hc700=>?_) (fun hc700=>?_)
    ·skip
     refine wR0 800 [2] fX ?_
     refine wP ?_
     exact qaB (by simp at hc700;rw[hch,if_pos hc700])
    ·skip
     refine wRn 900 [1,20] fX ?_
     refine rL [(0,.live ⟨_,mdC m⟩)] fX ?_
     refine⟨_,_,hcf,fZy,rfl,rE fX ?_⟩
     refine wS cJ0 (fun hc900=>?_) (fun hc900=>?_)
     ·skip
      refine wR0 1000 [2] fX ?_
      refine wP ?_
      exact qaB (by simp only[Bool.not_eq_false'] at hc700;rw[hch,if_neg (by simp[hc700]),if_pos hc900])
     ·skip
      refine wRn 1100 [25] fX ?_
      refine rC fX ?_
      refine⟨_,qli m hsn,rE fX ?_⟩
      refine wS cJ0 (fun hc1100=>?_) (fun hc1100=>?_)
      ·skip
       refine wR0 1200 [2] fX ?_
       refine wP ?_
       exact qaB (by simp only[Bool.not_eq_false'] at hc700;simp only[Bool.not_eq_true'] at hc1100;rw[hch,if_neg (by simp[hc700]),if_neg (by simp only[hc900];simp),if_pos hc1100])
      ·skip
       refine wR0 1300 [2] fX ?_
       refine wP ?_
       exact qaB (by simp only[Bool.not_eq_false'] at hc700 hc1100;rw[hch,if_neg (by simp[hc700]),if_neg (by simp only[hc900];simp),if_neg (by simp[hc1100])])
def allI (p:Nat→Bool):Nat→Nat→Bool
 | _,0=>true
 | i,k+1=>p i&&allI p (i+1) k
theorem qbC (p:Nat→Bool):∀(k i:Nat),allI p i k=true↔∀j,i≤j→j<i+k→p j=true
 | 0,i=>by simp[allI];intro j h1 h2;omega
 | k+1,i=>by
  rw[allI,Bool.and_eq_true,qbC p k (i+1)]
  refine⟨fun h j h1 h2=>?_,fun h=>⟨h i (Nat.le_refl _) (by omega),fun j h1 h2=>h j (by omega) (by omega)⟩⟩
  by_cases e:j=i
  ·rw[e];exact h.1
  ·exact h.2 j (by omega) (by omega)
theorem qaE (xs:List Int)(i:Nat)(h:i<xs.length):(qab xs).getD (i:Int).toNat .undef=.int .i64 (xs.getD i 0):=by
 simp[qab,List.getD_eq_getElem?_getD,h]
theorem qlH (p:Int→Bool)(xs:List Int):allI (fun j=>p (xs.getD j 0)) 0 xs.length=xs.all p:=by
 rw[Bool.eq_iff_iff,qbC,List.all_eq_true]
 refine⟨fun h x hx=>?_,fun h j _ hj=>?_⟩
 ·obtain⟨j,hj,rfl⟩:=List.getElem_of_mem hx
  have:=h j (Nat.zero_le _) (by omega)
  simpa [List.getD_eq_getElem?_getD,hj] using this
 ·have hj':j<xs.length:=by omega
  simpa [List.getD_eq_getElem?_getD,hj'] using h _ (List.getElem_mem hj')
def elO (x:Int):Bool:=decide (x≥0)&&decide (x≤1048576) || (x==1099511627776)
def vOk (v:List Int):Bool:=decide ((v.length:Int)≤6)&&v.all elO
def leI (a b:List Int):Bool:=allI (fun j=>!decide (a.getD j 0 > b.getD j 0)) 0 a.length
def vLe (a b:List Int):Bool:=vOk a&&vOk b&&((a.length:Int)==b.length)&&leI a b
def fin1 (x:Int):Bool:=decide (x≥0)&&decide (x≤1048576)
theorem qk9 (x:Int):TP Tryz.prog 108 [.int .i64 x] (.bool (fin1 x)):=by
 refine qai fn108 (by simp) ?_
 unfold i108
 simp only[argL]
 refine wR0 0 [0] cJ0 ?_
 refine wR0 100 [2] cJ0 ?_
 refine wP ?_
 exact qad rfl
theorem qla (x:Int):TP Tryz.prog 107 [.int .i64 x] (.bool (!elO x)):=by
 refine qai fn107 (by simp) ?_
 unfold i107
 simp only[argL]
 refine wR0 0 [0] cJ0 ?_
 refine wRn 100 [2] cJ0 ?_
 refine rC cJ0 ?_
 refine⟨_,qk9 x,rE cJ0 ?_⟩
 refine wP ?_
 exact qad (by simp[elO,fin1,bne])
theorem qpk {α:Type}(p:α→Bool)(l:List α):(!l.any fun x=>!p x)=l.all p:=by
 rw[List.all_eq_not_any_not]
theorem qin (v:List Int)(hl:v.length≤1000000):TP Tryz.prog 60 [.list (qab v)] (.bool (vOk v)):=by
 refine qai fn60 (by simp) ?_
 unfold i60
 simp only[argL]
 refine wR0 0 [0] cJ0 ?_
 refine wRn 100 [2] cJ0 ?_
 refine rCi cJ0 ?_
 refine⟨_,fun hw=>qhj 107 [] rfl (fun x=>!elO x) v hl (fun k hk=>qla k),rE cJ0 ?_⟩
 refine wP ?_
 exact qad (by simp only[vOk,qac];rw[←qpk])
theorem qoP (a b:List Int)(hl:a.length≤1000000)(hab:a.length=b.length)(Q:IExit→(Nat→T)→Heap→Prop):∀(k i:Nat),i+k=a.length→
 (allI (fun j=>!decide (a.getD j 0 > b.getD j 0)) i k=true→∀j:Int,Q (.exit 0) (ofL [(1,.list (qab b)),(7,.list (qab a)),(8,.int .i64 (qab a).length),(9,.int .i64 j),(10,.bool false)]) (hpL []))→
 (allI (fun j=>!decide (a.getD j 0 > b.getD j 0)) i k=false→Q .ret (ofL [(4,.bool false)]) (hpL []))→
 WL Tryz.prog 21 qjC (ofL [(1,.list (qab b)),(7,.list (qab a)),(8,.int .i64 (qab a).length),(9,.int .i64 i)]) (hpL []) Q:=by
 skip
 intro k
 induction k with
 | zero=>
  intro i hk hQ0 hQ1
  have hd:decide ((i:Int)<((qab a).length:Int))=false:=decide_eq_false (by rw[qac];omega)
  have fX:=@hd
  refine qaa qjC.eq_1 ?_
  refine wR0 200 [1,7,8,9,10] fX ?_
  refine wF @hd ?_
  refine wX ?_
  refine wN ?_
  exact hQ0 rfl _
 | succ k ih=>
  intro i hk hQ0 hQ1
  have hlt:(i:Int)<((qab a).length:Int):=by rw[qac];omega
  have hd:decide ((i:Int)<((qab a).length:Int))=true:=decide_eq_true hlt
  have hw:IntKind.wrap .i64 ((i:Int)+1)=((i+1:Nat):Int):=by rw[wrap64 (by omega) (by omega)];rfl
  have hga:=qaE a i (by omega);have hgb:=qaE b i (by omega);have hlb:(i:Int)<((qab b).length:Int):=by rw[qac];omega
  have fX:=(cJ4 @hd @hw @hga @hgb)
  refine qaa qjC.eq_1 ?_
  refine wR0 200 [1,7,8,9,10] fX ?_
  refine wT @hd ?_
  refine wR0 300 [1,5,6,7,8,9] fX ?_
  refine wR0 400 [1,7,8,9,19] fX ?_
  refine wS cJ0 (fun hc400=>?_) (fun hc400=>?_)
  ·skip
   refine wR0 500 [4] fX ?_
   refine wE ?_
   refine wN ?_
   simp at hc400
   exact hQ1 (by simp[allI,hc400])
  ·skip
   refine wR0 600 [1,7,8,9] fX ?_
   refine wN ?_
   simp at hc400
   have e:allI (fun j=>!decide (a.getD j 0 > b.getD j 0)) i (k+1)=allI (fun j=>!decide (a.getD j 0 > b.getD j 0)) (i+1) k:=(by simp[allI,hc400])
   rw[e] at hQ0 hQ1
   exact ih (i+1) (by omega) hQ0 hQ1
theorem qnk (a b:List Int)(hl:a.length≤1000000)(hab:a.length=b.length):TP Tryz.prog 61 [.list (qab a),.list (qab b)] (.bool (leI a b)):=by
 refine qai fn61 (by simp) ?_
 unfold i61
 simp only[argL]
 refine wR0 0 [0,1] cJ0 ?_
 refine wR0 100 [1,7,8,9] cJ0 ?_
 refine wL ?_
 refine qoP a b hl hab _ a.length 0 (by omega) ?_ ?_
 ·intro h i
  refine wN ?_
  refine wR0 700 [4] cJ0 ?_
  refine wP ?_
  exact qad h.symm
 ·intro h
  refine wN ?_
  exact⟨by simp,_,rfl,by exact qad h.symm⟩
theorem qhd (a b:List Int)(hl:a.length≤1000000)(hm:b.length≤1000000):TP Tryz.prog 38 [.list (qab a),.list (qab b)] (.bool (vLe a b)):=by
 have ha:=qin a hl
 have hb:=qin b hm
 by_cases hab:a.length=b.length
 ·have hc:=qnk a b hl hab
  refine qai fn38 (by simp) ?_
  unfold i38
  simp only[argL]
  refine wR0 0 [0,1] cJ0 ?_
  refine wRn 100 [4] cJ0 ?_
  refine rC cJ0 ?_
  refine⟨_,ha,rN cJ0 ?_⟩
  refine rCi cJ0 ?_
  refine⟨_,fun hw=>hb,rN cJ0 ?_⟩
  refine rCi cJ0 ?_
  refine⟨_,fun hw=>hc,rE cJ0 ?_⟩
  refine wP ?_
  exact qad (by simp only[vLe,qac])
 ·have hz:(((qab a).length:Int)==(qab b).length)=false:=by rw[qac,qac,beq_eq_false_iff_ne];omega
  have fX:=(cJ2 @hz @Bool.and_false)
  refine qai fn38 (by simp) ?_
  unfold i38
  simp only[argL]
  refine wR0 0 [0,1] fX ?_
  refine wRn 100 [4] fX ?_
  refine rC fX ?_
  refine⟨_,ha,rN fX ?_⟩
  refine rCi fX ?_
  refine⟨_,fun hw=>hb,rE fX ?_⟩
  refine wP ?_
  exact qad (by rw[vLe];have:((a.length:Int)==b.length)=false:=(by rw[beq_eq_false_iff_ne];omega);rw[this];simp)
end
end Go.Proofs.YtncpdpbpcnoeeaaGreat
