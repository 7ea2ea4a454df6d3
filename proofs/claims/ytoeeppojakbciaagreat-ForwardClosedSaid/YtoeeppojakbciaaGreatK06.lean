/- Contracts of functions of the program, for all arguments that they name. -/
import Derived.Test.YtoeeppojakbciaaGreatK05
namespace Go.Proofs.YtoeeppojakbciaaGreat
set_option linter.unusedVariables false
section
open Go.RowKit
set_option maxHeartbeats 2000000
theorem qab {H:Heap}{b c:Bool}(h:b=c):Frz H (.bool b) (.bool c):=h▸.same rfl
theorem qaE {H:Heap}{b c:Int}(h:b=c):Frz H (.int .i64 b) (.int .i64 c):=h▸.same rfl
mutual
def Ty.fit:Ty→Prop
 | .mk _ _ rs ps=>rs.length≤1000000∧ps.length≤1000000∧qeq ps
def qeq:List Ty→Prop
 | []=>True
 | p::ps=>p.fit∧qeq ps
end
theorem qjp:∀ {ps:List Ty},qeq ps→∀k∈ps,k.fit
 | [],_,k,hk=>by cases hk
 | x::ps,h,k,hk=>by
  simp only[qeq] at h
  rcases List.mem_cons.1 hk with rfl | hk
  ·exact h.1
  ·exact qjp h.2 k hk
theorem Ty.fit_all {k s:Int}{rs:List Int}{ps:List Ty}(h:(Ty.mk k s rs ps).fit):rs.length≤1000000∧ps.length≤1000000∧∀p∈ps,p.fit:=by
 simp only[Ty.fit] at h;exact⟨h.1,h.2.1,qjp h.2.2⟩
mutual
def qaC:Ty→Int→Bool
 | .mk k s rs ps,d=>
  if d=0 then false else if 0<rs.length∧k≠7 then false
  else if k=1 then (s==0)&&((ps.length:Int)==0)
  else if k=2∨k=6 then decide (s≥1)&&decide (s≤16)&&((ps.length:Int)==0)
  else if k=7 then decide (s≥1)&&decide (s≤6)&&((ps.length:Int)==0)&&((rs.length:Int)==s)&&qds rs
  else if k=4∨k=5 then (s==0)&&((ps.length:Int)==1)&&qaY ps (d - 1)
  else if k=3 then (s==0)&&!decide ((ps.length:Int)<1)&&!decide ((ps.length:Int) > 8)&&qaY ps (d - 1)
  else false
def qaY:List Ty→Int→Bool
 | [],_=>true
 | p::ps,d=>qaC p d&&qaY ps d
end
theorem qkr (k s d:Int)(rs:List Int)(ps:List Ty)(hd0:0<d)(hd1:d≤1000)(hl:ps.length≤1000000)(Q:IExit→(Nat→T)→Heap→Prop):∀(rest pre:List Ty) (i:Nat),ps=pre++rest→pre.length=i→
 (∀p∈rest,TP Tryz.prog 164 [qax p,.int .i64 (d - 1)] (.bool (qaC p (d - 1))))→
 (qaY rest (d - 1)=true→∀i:Int,Q (.exit 1) (ofL [(1,.int .i64 d),(2,.ref 0 4 0),(5,.int .i64 i),(120,.bool false)]) (hpL [(0,.live ⟨107,[.int .i64 k,.int .i64 s,.list (qac rs),.list (qaj ps)]⟩)]))→
 (qaY rest (d - 1)=false→Q .ret (ofL [(4,.bool false)]) (hpL [(0,.live ⟨107,[.int .i64 k,.int .i64 s,.list (qac rs),.list (qaj ps)]⟩)]))→
 WL Tryz.prog 132 qiA (ofL [(1,.int .i64 d),(2,.ref 0 4 0),(5,.int .i64 i)]) (hpL [(0,.live ⟨107,[.int .i64 k,.int .i64 s,.list (qac rs),.list (qaj ps)]⟩)]) Q:=by
 intro rest
 induction rest with
 | nil=>
  intro pre i he hn hk hQ0 hQ1
  have hd:decide ((i:Int)<((qaj ps).length:Int))=false:=by simp[qao,he,hn]
  refine qaa qiA.eq_1 ?_
  refine wN ?_
  refine wR0 1800 [1,2,5,120] @hd ?_
  refine wN ?_
  refine qai (eV cJ0) ?_
  simp only[Bool.false_eq_true,if_false]
  refine wN ?_
  refine qb4 ?_
  (try simp only[thn])
  exact hQ0 rfl _
 | cons p rest ih=>
  intro pre i he hn hk hQ0 hQ1
  have hlt:(i:Int)<((qaj ps).length:Int):=by simp[qao,he];omega
  have hlb:i≤1000000:=by rw[he] at hl;simp at hl;omega
  have hd:decide ((i:Int)<((qaj ps).length:Int))=true:=decide_eq_true hlt
  have hg:(qaj ps).getD (i:Int).toNat .undef=qax p:=by rw[Int.toNat_natCast,he,←hn];exact qdZ _ _ _
  have hw:IntKind.wrap .i64 ((i:Int)+1)=(i:Int)+1:=wrap64 (by omega) (by omega)
  have hw2:IntKind.wrap .i64 (d - 1)=d - 1:=wrap64 (by omega) (by omega)
  refine qaa qiA.eq_1 ?_
  refine wN ?_
  refine wR0 1800 [1,2,5,120] @hd ?_
  refine wN ?_
  refine qai (eV cJ0) ?_
  simp only[if_true]
  refine wN ?_
  have fX:=(cJ4 @hg @qcg @qbB @hw2)
  refine wRn 1900 [1,2,5,131] fX ?_
  refine rC fX ?_
  refine⟨_,hk p (List.mem_cons_self ..),rE fX ?_⟩
  refine wN ?_
  by_cases hc:qaC p (d - 1)=true
  ·have hb:(!qaC p (d - 1))=false:=by simp[hc]
   refine qai (eV cJ0) ?_
   simp only[hb,Bool.false_eq_true,if_false]
   refine wN ?_
   refine wR0 2100 [1,2,5] @hw ?_
   refine wN ?_
   have:=ih (pre++[p]) (i+1) (by simp[he]) (by simp;omega) (fun k' hk'=>hk k' (List.mem_cons_of_mem _ hk')) (by simpa [qaY,hc] using hQ0) (by simpa [qaY,hc] using hQ1)
   simpa using this
  ·have hb:(!qaC p (d - 1))=true:=by simp[hc]
   refine qai (eV cJ0) ?_
   simp only[hb,if_true]
   refine wN ?_
   refine wR0 2000 [4] cJ0 ?_
   refine wN ?_
   refine qaL ?_
   (try simp only[thn,inB])
   exact hQ1 (by simp[qaY,hc])
set_option maxHeartbeats 4000000 in
theorem qga:∀(t:Ty) (d:Int),t.fit→0≤d→d≤1000→TP Tryz.prog 164 [qax t,.int .i64 d] (.bool (qaC t d))
 | .mk k s rs ps,d,ht,h0,h1=>by
  obtain⟨hf1,hf2,hf3⟩:=Ty.fit_all ht
  refine qah fn164 (by simp) ?_
  unfold i164
  simp only[argL,qax]
  refine wR0 0 [1,2] cJ0 ?_
  refine wN ?_
  by_cases hd0:d=0
  ·subst hd0
   refine wR0 100 [1,2,18] cJ0 ?_
   refine wN ?_
   refine qai (eV cJ0) ?_
   simp only[if_true]
   refine wN ?_
   refine wR0 200 [4] cJ0 ?_
   refine wN ?_
   refine qaL ?_
   (try simp only[thn])
   exact⟨by simp,_,rfl,by exact qab (by simp[qaC])⟩
  have hdb:(d==0)=false:=by simp[hd0]
  have hw2:IntKind.wrap .i64 (d - 1)=d - 1:=wrap64 (by omega) (by omega)
  refine wR0 100 [1,2,18] @hdb ?_
  refine wN ?_
  by_cases hr:0<rs.length∧k≠7
  ·have hr1:(decide (((qac rs).length:Int) > 0)&&(k != 7))=true:=by simp[qad,hr.2];omega
   refine qai (eV cJ0) ?_
   simp only[hr1,if_true]
   refine wN ?_
   refine wR0 200 [4] cJ0 ?_
   refine wN ?_
   refine qaL ?_
   (try simp only[thn])
   exact⟨by simp,_,rfl,by exact qab (by simp only[qaC,if_neg hd0,if_pos hr])⟩
  have hb18:(decide (((qac rs).length:Int) > 0)&&(k != 7))=false:=by
   simp only[qad,Bool.and_eq_false_iff,decide_eq_false_iff_not,bne_eq_false_iff_eq]
   by_cases h7:k=7
   ·exact .inr h7
   ·left;intro hx;exact hr ⟨by omega,h7⟩
  refine qai (eV cJ0) ?_
  simp only[hb18,Bool.false_eq_true,if_false]
  refine wN ?_
  refine wR0 300 [1,2,20] cJ0 ?_
  refine wN ?_
  refine wR0 400 [1,2,20,21] cJ0 ?_
  refine wN ?_
  by_cases k1:k=1
  ·subst k1
   refine qai (eV cJ0) ?_
   simp only[if_true]
   refine wN ?_
   refine wR0 500 [4] cJ0 ?_
   refine wN ?_
   refine qaL ?_
   (try simp only[thn,inB])
   exact⟨by simp,_,rfl,by exact qab (by simp only[qaC,if_neg hd0,if_neg hr,qao,if_true])⟩
  have k1b:(k==1)=false:=by simp[k1]
  refine qai (eV cJ0) ?_
  simp only[k1b,Bool.false_eq_true,if_false]
  refine wN ?_
  by_cases k26:k=2∨k=6
  ·have e26:(qaC (.mk k s rs ps) d)=(decide (s≥1)&&decide (s≤16)&&((ps.length:Int)==0)):=by simp only[qaC,if_neg hd0,if_neg hr,if_neg k1,if_pos k26]
   by_cases k2:k=2
   ·have k2b:(k==2)=true:=by simp[k2]
    refine wR0 600 [1,2,20,32] cJ0 ?_
    refine wN ?_
    refine qai (eV cJ0) ?_
    simp only[k2b,if_true]
    refine wN ?_
    refine qai (eV cJ0) ?_
    simp only[if_true]
    refine wN ?_
    refine wR0 800 [4] cJ0 ?_
    refine wN ?_
    refine qaL ?_
    (try simp only[thn,inB])
    exact⟨by simp,_,rfl,by exact qab (by simp only[e26,qao])⟩
   ·have k2b:(k==2)=false:=by simp[k2]
    have k6b:(k==6)=true:=by rcases k26 with h | h<;>simp[h] at k2 ⊢
    refine wR0 600 [1,2,20,32] cJ0 ?_
    refine wN ?_
    refine qai (eV cJ0) ?_
    simp only[k2b,Bool.false_eq_true,if_false]
    refine wN ?_
    refine wR0 700 [1,2,20,32] cJ0 ?_
    refine wN ?_
    refine qai (eV cJ0) ?_
    simp only[k6b,if_true]
    refine wN ?_
    refine wR0 800 [4] cJ0 ?_
    refine wN ?_
    refine qaL ?_
    (try simp only[thn,inB])
    exact⟨by simp,_,rfl,by exact qab (by simp only[e26,qao])⟩
  have k2b:(k==2)=false:=by simp;omega
  have k6b:(k==6)=false:=by simp;omega
  refine wR0 600 [1,2,20,32] cJ0 ?_
  refine wN ?_
  refine qai (eV cJ0) ?_
  simp only[k2b,Bool.false_eq_true,if_false]
  refine wN ?_
  refine wR0 700 [1,2,20,32] cJ0 ?_
  refine wN ?_
  refine qai (eV cJ0) ?_
  simp only[k6b,Bool.false_eq_true,if_false]
  refine wN ?_
  refine wR0 900 [1,2,20,49] cJ0 ?_
  refine wN ?_
  by_cases k7:k=7
  ·have e7:(qaC (.mk k s rs ps) d)=(decide (s≥1)&&decide (s≤6)&&((ps.length:Int)==0)&&((rs.length:Int)==s)&&qds rs):=by simp only[qaC,if_neg hd0,if_neg hr,if_neg k1,if_neg k26,if_pos k7]
   have k7b:(k==7)=true:=by simp[k7]
   refine qai (eV cJ0) ?_
   simp only[k7b,if_true]
   refine wN ?_
   rcases hall:(decide (s≥1)&&decide (s≤6)&&(((qaj ps).length:Int)==0)&&(((qac rs).length:Int)==s)) with _ | _
   ·refine wR0 1000 [4] @hall ?_
    refine wN ?_
    refine qaL ?_
    (try simp only[thn,inB])
    exact⟨by simp,_,rfl,by exact qab (by simp only[e7,qao,qad] at hall ⊢;simp only[hall,Bool.false_and])⟩
   ·refine wRn 1000 [4] @hall ?_
    refine rC @hall ?_
    refine⟨_,qrw rs hf1,rE @hall ?_⟩
    refine wN ?_
    refine qaL ?_
    (try simp only[thn,inB])
    exact⟨by simp,_,rfl,by exact qab (by simp only[e7,qao,qad] at hall ⊢;simp only[hall,Bool.true_and])⟩
  have k7b:(k==7)=false:=by simp[k7]
  refine qai (eV cJ0) ?_
  simp only[k7b,Bool.false_eq_true,if_false]
  refine wN ?_
  by_cases k45:k=4∨k=5
  ·have e45:(qaC (.mk k s rs ps) d)=((s==0)&&((ps.length:Int)==1)&&qaY ps (d - 1)):=by simp only[qaC,if_neg hd0,if_neg hr,if_neg k1,if_neg k26,if_neg k7,if_pos k45]
   by_cases k4:k=4
   ·have k4b:(k==4)=true:=by simp[k4]
    refine wR0 1100 [1,2,20,78] cJ0 ?_
    refine wN ?_
    refine qai (eV cJ0) ?_
    simp only[k4b,if_true]
    refine wN ?_
    refine qai (eV cJ0) ?_
    simp only[if_true]
    refine wN ?_
    rcases hall:((s==0)&&(((qaj ps).length:Int)==1)) with _ | _
    ·refine wR0 1300 [4] @hall ?_
     refine wN ?_
     refine qaL ?_
     (try simp only[thn,inB])
     exact⟨by simp,_,rfl,by exact qab (by simp only[qao] at hall;simp only[e45,hall,Bool.false_and])⟩
    ·have hl1:ps.length=1:=by simp[qao] at hall;omega
     obtain⟨p,hp⟩:=List.length_eq_one_iff.1 hl1
     have hk:p∈ps:=by simp[hp]
     have hlt:(0:Int)<((qaj ps).length:Int):=by simp[qao,hl1]
     have hg:(qaj ps).getD (0:Int).toNat .undef=qax p:=by rw[hp];rfl
     have fX:=(cJ5 @hall @hg @qcg @qbB @hw2)
     refine wRn 1300 [4] fX ?_
     refine rC fX ?_
     refine⟨_,qga p (d - 1) (hf3 p hk) (by omega) (by omega),rE fX ?_⟩
     refine wN ?_
     refine qaL ?_
     (try simp only[thn,inB])
     exact⟨by simp,_,rfl,by exact qab (by simp only[qao] at hall;rw[e45,hall,Bool.true_and,hp];simp[qaY])⟩
   ·have k4b:(k==4)=false:=by simp[k4]
    have k5b:(k==5)=true:=by rcases k45 with h | h<;>simp[h] at k4 ⊢
    refine wR0 1100 [1,2,20,78] cJ0 ?_
    refine wN ?_
    refine qai (eV cJ0) ?_
    simp only[k4b,Bool.false_eq_true,if_false]
    refine wN ?_
    refine wR0 1200 [1,2,20,78] cJ0 ?_
    refine wN ?_
    refine qai (eV cJ0) ?_
    simp only[k5b,if_true]
    refine wN ?_
    rcases hall:((s==0)&&(((qaj ps).length:Int)==1)) with _ | _
    ·refine wR0 1300 [4] @hall ?_
     refine wN ?_
     refine qaL ?_
     (try simp only[thn,inB])
     exact⟨by simp,_,rfl,by exact qab (by simp only[qao] at hall;simp only[e45,hall,Bool.false_and])⟩
    ·have hl1:ps.length=1:=by simp[qao] at hall;omega
     obtain⟨p,hp⟩:=List.length_eq_one_iff.1 hl1
     have hk:p∈ps:=by simp[hp]
     have hlt:(0:Int)<((qaj ps).length:Int):=by simp[qao,hl1]
     have hg:(qaj ps).getD (0:Int).toNat .undef=qax p:=by rw[hp];rfl
     have fX:=(cJ5 @hall @hg @qcg @qbB @hw2)
     refine wRn 1300 [4] fX ?_
     refine rC fX ?_
     refine⟨_,qga p (d - 1) (hf3 p hk) (by omega) (by omega),rE fX ?_⟩
     refine wN ?_
     refine qaL ?_
     (try simp only[thn,inB])
     exact⟨by simp,_,rfl,by exact qab (by simp only[qao] at hall;rw[e45,hall,Bool.true_and,hp];simp[qaY])⟩
  have k4b:(k==4)=false:=by simp;omega
  have k5b:(k==5)=false:=by simp;omega
  refine wR0 1100 [1,2,20,78] cJ0 ?_
  refine wN ?_
  refine qai (eV cJ0) ?_
  simp only[k4b,Bool.false_eq_true,if_false]
  refine wN ?_
  refine wR0 1200 [1,2,20,78] cJ0 ?_
  refine wN ?_
  refine qai (eV cJ0) ?_
  simp only[k5b,Bool.false_eq_true,if_false]
  refine wN ?_
  refine wR0 1400 [1,2,99] cJ0 ?_
  refine wN ?_
  by_cases k3:k=3
  ·have k3b:(k==3)=true:=by simp[k3]
   have e3:(qaC (.mk k s rs ps) d)=((s==0)&&!decide ((ps.length:Int)<1)&&!decide ((ps.length:Int) > 8)&&qaY ps (d - 1)):=by simp only[qaC,if_neg hd0,if_neg hr,if_neg k1,if_neg k26,if_neg k7,if_neg k45,if_pos k3]
   refine qai (eV cJ0) ?_
   simp only[k3b,if_true]
   refine wN ?_
   refine wR0 1500 [1,2,115] cJ0 ?_
   refine wN ?_
   rcases hall:((s != 0) || decide (((qaj ps).length:Int)<1) || decide (((qaj ps).length:Int) > 8)) with _ | _
   ·refine qai (eV cJ0) ?_
    simp only[Bool.false_eq_true,if_false]
    refine wN ?_
    refine wR0 1700 [1,2,5] cJ0 ?_
    refine wN ?_
    refine qc1 ?_
    simp only[qao,Bool.or_eq_false_iff,bne_eq_false_iff_eq] at hall
    refine qkr k s d rs ps (by omega) (by omega) hf2 _ ps [] 0 rfl rfl (fun p hk=>qga p (d - 1) (hf3 p hk) (by omega) (by omega)) ?_ ?_
    ·intro h i
     simp only[inB,if_true,thn]
     refine wR0 2200 [4] cJ0 ?_
     refine wN ?_
     refine qaL ?_
     (try simp only[thn,inB])
     exact⟨by simp,_,rfl,by exact qab (by rw[e3,h];simp[hall])⟩
    ·intro h
     simp only[inB,thn]
     exact⟨by simp,_,rfl,qab (by simp[e3,h])⟩
   ·refine qai (eV cJ0) ?_
    simp only[if_true]
    refine wN ?_
    refine wR0 1600 [4] cJ0 ?_
    refine wN ?_
    refine qaL ?_
    (try simp only[thn,inB])
    exact⟨by simp,_,rfl,by exact qab (by simp only[qao,bne] at hall;rw[e3];revert hall;cases (s==0)<;>cases decide ((ps.length:Int)<1)<;>cases decide ((ps.length:Int) > 8)<;>simp)⟩
  have k3b:(k==3)=false:=by simp[k3]
  refine qai (eV cJ0) ?_
  simp only[k3b,Bool.false_eq_true,if_false]
  refine wN ?_
  refine wR0 2300 [4] cJ0 ?_
  refine wN ?_
  refine qaL ?_
  (try simp only)
  exact⟨by simp,_,rfl,by exact qab (by simp only[qaC,if_neg hd0,if_neg hr,if_neg k1,if_neg k26,if_neg k7,if_neg k45,if_neg k3])⟩
termination_by t=>SizeOf.sizeOf t
decreasing_by all_goals exact qi3 hk k s rs
def qb6 (t:Ty):Int:=if qaC t 8 then 0 else 6
theorem qh4 (t:Ty)(ht:t.fit):TP Tryz.prog 113 [qax t] (.int .i64 (qb6 t)):=by
 rcases t with⟨k,s,rs,ps⟩
 refine qah fn113 (by simp) ?_
 unfold i113
 simp only[argL,qax]
 refine wN ?_
 refine wR0 0 [1] cJ0 ?_
 refine wN ?_
 refine wRn 100 [5] cJ0 ?_
 refine rC cJ0 ?_
 refine⟨_,qga (.mk k s rs ps) 8 ht (by omega) (by omega),rE cJ0 ?_⟩
 refine wN ?_
 rcases hv:qaC (.mk k s rs ps) 8 with _ | _
 ·refine qai (eV cJ0) ?_
  simp only[Bool.not_false,if_true]
  refine wN ?_
  refine wR0 200 [2] cJ0 ?_
  refine wN ?_
  refine qaL ?_
  (try simp only[thn])
  exact⟨by simp,_,rfl,by exact qaE (by simp[qb6,hv])⟩
 ·refine qai (eV cJ0) ?_
  simp only[Bool.not_true,Bool.false_eq_true,if_false]
  refine wN ?_
  refine wR0 300 [2] cJ0 ?_
  refine wN ?_
  refine qaL ?_
  (try simp only)
  exact⟨by simp,_,rfl,by exact qaE (by simp[qb6,hv])⟩
end
end Go.Proofs.YtoeeppojakbciaaGreat
