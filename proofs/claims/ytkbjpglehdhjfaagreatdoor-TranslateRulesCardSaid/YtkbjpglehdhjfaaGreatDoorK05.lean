/- Contracts of functions of the program, for all arguments that they name. -/
import Derived.Test.YtkbjpglehdhjfaaGreatDoorK04
namespace Go.Proofs.YtkbjpglehdhjfaaGreatDoor
set_option linter.unusedVariables false
section
open Go.RowKit
set_option maxHeartbeats 2000000
theorem qac {H:Heap}{b c:Bool}(h:b=c):Frz H (.bool b) (.bool c):=h▸.same rfl
theorem qaC {H:Heap}{b c:Int}(h:b=c):Frz H (.int .i64 b) (.int .i64 c):=h▸.same rfl
mutual
def Ty.fit:Ty→Prop
 | .mk _ _ rs ps=>rs.length≤1000000∧ps.length≤1000000∧qfj ps
def qfj:List Ty→Prop
 | []=>True
 | p::ps=>p.fit∧qfj ps
end
theorem qko:∀ {ps:List Ty},qfj ps→∀k∈ps,k.fit
 | [],_,k,hk=>by cases hk
 | x::ps,h,k,hk=>by
  simp only[qfj] at h
  rcases List.mem_cons.1 hk with rfl | hk
  ·exact h.1
  ·exact qko h.2 k hk
theorem Ty.fit_all {k s:Int}{rs:List Int}{ps:List Ty}(h:(Ty.mk k s rs ps).fit):rs.length≤1000000∧ps.length≤1000000∧∀p∈ps,p.fit:=by
 simp only[Ty.fit] at h;exact⟨h.1,h.2.1,qko h.2.2⟩
mutual
def qaM:Ty→Int→Bool
 | .mk k s rs ps,d=>
  if d=0 then false else if 0<rs.length∧k≠7 then false
  else if k=1 then (s==0)&&((ps.length:Int)==0)
  else if k=2∨k=6 then decide (s≥1)&&decide (s≤16)&&((ps.length:Int)==0)
  else if k=7 then decide (s≥1)&&decide (s≤6)&&((ps.length:Int)==0)&&((rs.length:Int)==s)&&qd3 rs
  else if k=4∨k=5 then (s==0)&&((ps.length:Int)==1)&&qbi ps (d - 1)
  else if k=3 then (s==0)&&!decide ((ps.length:Int)<1)&&!decide ((ps.length:Int) > 8)&&qbi ps (d - 1)
  else false
def qbi:List Ty→Int→Bool
 | [],_=>true
 | p::ps,d=>qaM p d&&qbi ps d
end
theorem qlk (k s d:Int)(rs:List Int)(ps:List Ty)(hd0:0<d)(hd1:d≤1000)(hl:ps.length≤1000000)(Q:IExit→(Nat→T)→Heap→Prop):∀(rest pre:List Ty) (i:Nat),ps=pre++rest→pre.length=i→
 (∀p∈rest,TP Tryz.prog 140 [qaz p,.int .i64 (d - 1)] (.bool (qaM p (d - 1))))→
 (qbi rest (d - 1)=true→∀i:Int,Q (.exit 1) (ofL [(1,.int .i64 d),(2,.ref 0 4 0),(5,.int .i64 i),(120,.bool false)]) (hpL [(0,.live ⟨45,[.int .i64 k,.int .i64 s,.list (qad rs),.list (qam ps)]⟩)]))→
 (qbi rest (d - 1)=false→Q .ret (ofL [(4,.bool false)]) (hpL [(0,.live ⟨45,[.int .i64 k,.int .i64 s,.list (qad rs),.list (qam ps)]⟩)]))→
 WL Tryz.prog 132 qjt (ofL [(1,.int .i64 d),(2,.ref 0 4 0),(5,.int .i64 i)]) (hpL [(0,.live ⟨45,[.int .i64 k,.int .i64 s,.list (qad rs),.list (qam ps)]⟩)]) Q:=by
 intro rest
 induction rest with
 | nil=>
  intro pre i he hn hk hQ0 hQ1
  have hd:decide ((i:Int)<((qam ps).length:Int))=false:=by simp[qap,he,hn]
  refine qaa qjt.eq_1 ?_
  refine wN ?_
  refine wR0 1800 [1,2,5,120] @hd ?_
  refine wN ?_
  refine qan (eV cJ0) ?_
  simp only[Bool.false_eq_true,if_false]
  refine wN ?_
  refine qcz ?_
  (try simp only[thn])
  exact hQ0 rfl _
 | cons p rest ih=>
  intro pre i he hn hk hQ0 hQ1
  have hlt:(i:Int)<((qam ps).length:Int):=by simp[qap,he];omega
  have hlb:i≤1000000:=by rw[he] at hl;simp at hl;omega
  have hd:decide ((i:Int)<((qam ps).length:Int))=true:=decide_eq_true hlt
  have hg:(qam ps).getD (i:Int).toNat .undef=qaz p:=by rw[Int.toNat_natCast,he,←hn];exact qeR _ _ _
  have hw:IntKind.wrap .i64 ((i:Int)+1)=(i:Int)+1:=wrap64 (by omega) (by omega)
  have hw2:IntKind.wrap .i64 (d - 1)=d - 1:=wrap64 (by omega) (by omega)
  refine qaa qjt.eq_1 ?_
  refine wN ?_
  refine wR0 1800 [1,2,5,120] @hd ?_
  refine wN ?_
  refine qan (eV cJ0) ?_
  simp only[if_true]
  refine wN ?_
  have fX:=(cJ4 @hg @qcM @qb6 @hw2)
  refine wRn 1900 [1,2,5,131] fX ?_
  refine rC fX ?_
  refine⟨_,hk p (List.mem_cons_self ..),rE fX ?_⟩
  refine wN ?_
  by_cases hc:qaM p (d - 1)=true
  ·have hb:(!qaM p (d - 1))=false:=by simp[hc]
   refine qan (eV cJ0) ?_
   simp only[hb,Bool.false_eq_true,if_false]
   refine wN ?_
   refine wR0 2100 [1,2,5] @hw ?_
   refine wN ?_
   have:=ih (pre++[p]) (i+1) (by simp[he]) (by simp;omega) (fun k' hk'=>hk k' (List.mem_cons_of_mem _ hk')) (by simpa [qbi,hc] using hQ0) (by simpa [qbi,hc] using hQ1)
   simpa using this
  ·have hb:(!qaM p (d - 1))=true:=by simp[hc]
   refine qan (eV cJ0) ?_
   simp only[hb,if_true]
   refine wN ?_
   refine wR0 2000 [4] cJ0 ?_
   refine wN ?_
   refine qaW ?_
   (try simp only[thn,inB])
   exact hQ1 (by simp[qbi,hc])
set_option maxHeartbeats 4000000 in
theorem qg8:∀(t:Ty) (d:Int),t.fit→0≤d→d≤1000→TP Tryz.prog 140 [qaz t,.int .i64 d] (.bool (qaM t d))
 | .mk k s rs ps,d,ht,h0,h1=>by
  obtain⟨hf1,hf2,hf3⟩:=Ty.fit_all ht
  refine qag fn140 (by simp) ?_
  unfold i140
  simp only[argL,qaz]
  refine wR0 0 [1,2] cJ0 ?_
  refine wN ?_
  by_cases hd0:d=0
  ·subst hd0
   refine wR0 100 [1,2,18] cJ0 ?_
   refine wN ?_
   refine qan (eV cJ0) ?_
   simp only[if_true]
   refine wN ?_
   refine wR0 200 [4] cJ0 ?_
   refine wN ?_
   refine qaW ?_
   (try simp only[thn])
   exact⟨by simp,_,rfl,by exact qac (by simp[qaM])⟩
  have hdb:(d==0)=false:=by simp[hd0]
  have hw2:IntKind.wrap .i64 (d - 1)=d - 1:=wrap64 (by omega) (by omega)
  refine wR0 100 [1,2,18] @hdb ?_
  refine wN ?_
  by_cases hr:0<rs.length∧k≠7
  ·have hr1:(decide (((qad rs).length:Int) > 0)&&(k != 7))=true:=by simp[qae,hr.2];omega
   refine qan (eV cJ0) ?_
   simp only[hr1,if_true]
   refine wN ?_
   refine wR0 200 [4] cJ0 ?_
   refine wN ?_
   refine qaW ?_
   (try simp only[thn])
   exact⟨by simp,_,rfl,by exact qac (by simp only[qaM,if_neg hd0,if_pos hr])⟩
  have hb18:(decide (((qad rs).length:Int) > 0)&&(k != 7))=false:=by
   simp only[qae,Bool.and_eq_false_iff,decide_eq_false_iff_not,bne_eq_false_iff_eq]
   by_cases h7:k=7
   ·exact .inr h7
   ·left;intro hx;exact hr ⟨by omega,h7⟩
  refine qan (eV cJ0) ?_
  simp only[hb18,Bool.false_eq_true,if_false]
  refine wN ?_
  refine wR0 300 [1,2,20] cJ0 ?_
  refine wN ?_
  refine wR0 400 [1,2,20,21] cJ0 ?_
  refine wN ?_
  by_cases k1:k=1
  ·subst k1
   refine qan (eV cJ0) ?_
   simp only[if_true]
   refine wN ?_
   refine wR0 500 [4] cJ0 ?_
   refine wN ?_
   refine qaW ?_
   (try simp only[thn,inB])
   exact⟨by simp,_,rfl,by exact qac (by simp only[qaM,if_neg hd0,if_neg hr,qap,if_true])⟩
  have k1b:(k==1)=false:=by simp[k1]
  refine qan (eV cJ0) ?_
  simp only[k1b,Bool.false_eq_true,if_false]
  refine wN ?_
  by_cases k26:k=2∨k=6
  ·have e26:(qaM (.mk k s rs ps) d)=(decide (s≥1)&&decide (s≤16)&&((ps.length:Int)==0)):=by simp only[qaM,if_neg hd0,if_neg hr,if_neg k1,if_pos k26]
   by_cases k2:k=2
   ·have k2b:(k==2)=true:=by simp[k2]
    refine wR0 600 [1,2,20,32] cJ0 ?_
    refine wN ?_
    refine qan (eV cJ0) ?_
    simp only[k2b,if_true]
    refine wN ?_
    refine qan (eV cJ0) ?_
    simp only[if_true]
    refine wN ?_
    refine wR0 800 [4] cJ0 ?_
    refine wN ?_
    refine qaW ?_
    (try simp only[thn,inB])
    exact⟨by simp,_,rfl,by exact qac (by simp only[e26,qap])⟩
   ·have k2b:(k==2)=false:=by simp[k2]
    have k6b:(k==6)=true:=by rcases k26 with h | h<;>simp[h] at k2 ⊢
    refine wR0 600 [1,2,20,32] cJ0 ?_
    refine wN ?_
    refine qan (eV cJ0) ?_
    simp only[k2b,Bool.false_eq_true,if_false]
    refine wN ?_
    refine wR0 700 [1,2,20,32] cJ0 ?_
    refine wN ?_
    refine qan (eV cJ0) ?_
    simp only[k6b,if_true]
    refine wN ?_
    refine wR0 800 [4] cJ0 ?_
    refine wN ?_
    refine qaW ?_
    (try simp only[thn,inB])
    exact⟨by simp,_,rfl,by exact qac (by simp only[e26,qap])⟩
  have k2b:(k==2)=false:=by simp;omega
  have k6b:(k==6)=false:=by simp;omega
  refine wR0 600 [1,2,20,32] cJ0 ?_
  refine wN ?_
  refine qan (eV cJ0) ?_
  simp only[k2b,Bool.false_eq_true,if_false]
  refine wN ?_
  refine wR0 700 [1,2,20,32] cJ0 ?_
  refine wN ?_
  refine qan (eV cJ0) ?_
  simp only[k6b,Bool.false_eq_true,if_false]
  refine wN ?_
  refine wR0 900 [1,2,20,49] cJ0 ?_
  refine wN ?_
  by_cases k7:k=7
  ·have e7:(qaM (.mk k s rs ps) d)=(decide (s≥1)&&decide (s≤6)&&((ps.length:Int)==0)&&((rs.length:Int)==s)&&qd3 rs):=by simp only[qaM,if_neg hd0,if_neg hr,if_neg k1,if_neg k26,if_pos k7]
   have k7b:(k==7)=true:=by simp[k7]
   refine qan (eV cJ0) ?_
   simp only[k7b,if_true]
   refine wN ?_
   rcases hall:(decide (s≥1)&&decide (s≤6)&&(((qam ps).length:Int)==0)&&(((qad rs).length:Int)==s)) with _ | _
   ·refine wR0 1000 [4] @hall ?_
    refine wN ?_
    refine qaW ?_
    (try simp only[thn,inB])
    exact⟨by simp,_,rfl,by exact qac (by simp only[e7,qap,qae] at hall ⊢;simp only[hall,Bool.false_and])⟩
   ·refine wRn 1000 [4] @hall ?_
    refine rC @hall ?_
    refine⟨_,qss rs hf1,rE @hall ?_⟩
    refine wN ?_
    refine qaW ?_
    (try simp only[thn,inB])
    exact⟨by simp,_,rfl,by exact qac (by simp only[e7,qap,qae] at hall ⊢;simp only[hall,Bool.true_and])⟩
  have k7b:(k==7)=false:=by simp[k7]
  refine qan (eV cJ0) ?_
  simp only[k7b,Bool.false_eq_true,if_false]
  refine wN ?_
  by_cases k45:k=4∨k=5
  ·have e45:(qaM (.mk k s rs ps) d)=((s==0)&&((ps.length:Int)==1)&&qbi ps (d - 1)):=by simp only[qaM,if_neg hd0,if_neg hr,if_neg k1,if_neg k26,if_neg k7,if_pos k45]
   by_cases k4:k=4
   ·have k4b:(k==4)=true:=by simp[k4]
    refine wR0 1100 [1,2,20,78] cJ0 ?_
    refine wN ?_
    refine qan (eV cJ0) ?_
    simp only[k4b,if_true]
    refine wN ?_
    refine qan (eV cJ0) ?_
    simp only[if_true]
    refine wN ?_
    rcases hall:((s==0)&&(((qam ps).length:Int)==1)) with _ | _
    ·refine wR0 1300 [4] @hall ?_
     refine wN ?_
     refine qaW ?_
     (try simp only[thn,inB])
     exact⟨by simp,_,rfl,by exact qac (by simp only[qap] at hall;simp only[e45,hall,Bool.false_and])⟩
    ·have hl1:ps.length=1:=by simp[qap] at hall;omega
     obtain⟨p,hp⟩:=List.length_eq_one_iff.1 hl1
     have hk:p∈ps:=by simp[hp]
     have hlt:(0:Int)<((qam ps).length:Int):=by simp[qap,hl1]
     have hg:(qam ps).getD (0:Int).toNat .undef=qaz p:=by rw[hp];rfl
     have fX:=(cJ5 @hall @hg @qcM @qb6 @hw2)
     refine wRn 1300 [4] fX ?_
     refine rC fX ?_
     refine⟨_,qg8 p (d - 1) (hf3 p hk) (by omega) (by omega),rE fX ?_⟩
     refine wN ?_
     refine qaW ?_
     (try simp only[thn,inB])
     exact⟨by simp,_,rfl,by exact qac (by simp only[qap] at hall;rw[e45,hall,Bool.true_and,hp];simp[qbi])⟩
   ·have k4b:(k==4)=false:=by simp[k4]
    have k5b:(k==5)=true:=by rcases k45 with h | h<;>simp[h] at k4 ⊢
    refine wR0 1100 [1,2,20,78] cJ0 ?_
    refine wN ?_
    refine qan (eV cJ0) ?_
    simp only[k4b,Bool.false_eq_true,if_false]
    refine wN ?_
    refine wR0 1200 [1,2,20,78] cJ0 ?_
    refine wN ?_
    refine qan (eV cJ0) ?_
    simp only[k5b,if_true]
    refine wN ?_
    rcases hall:((s==0)&&(((qam ps).length:Int)==1)) with _ | _
    ·refine wR0 1300 [4] @hall ?_
     refine wN ?_
     refine qaW ?_
     (try simp only[thn,inB])
     exact⟨by simp,_,rfl,by exact qac (by simp only[qap] at hall;simp only[e45,hall,Bool.false_and])⟩
    ·have hl1:ps.length=1:=by simp[qap] at hall;omega
     obtain⟨p,hp⟩:=List.length_eq_one_iff.1 hl1
     have hk:p∈ps:=by simp[hp]
     have hlt:(0:Int)<((qam ps).length:Int):=by simp[qap,hl1]
     have hg:(qam ps).getD (0:Int).toNat .undef=qaz p:=by rw[hp];rfl
     have fX:=(cJ5 @hall @hg @qcM @qb6 @hw2)
     refine wRn 1300 [4] fX ?_
     refine rC fX ?_
     refine⟨_,qg8 p (d - 1) (hf3 p hk) (by omega) (by omega),rE fX ?_⟩
     refine wN ?_
     refine qaW ?_
     (try simp only[thn,inB])
     exact⟨by simp,_,rfl,by exact qac (by simp only[qap] at hall;rw[e45,hall,Bool.true_and,hp];simp[qbi])⟩
  have k4b:(k==4)=false:=by simp;omega
  have k5b:(k==5)=false:=by simp;omega
  refine wR0 1100 [1,2,20,78] cJ0 ?_
  refine wN ?_
  refine qan (eV cJ0) ?_
  simp only[k4b,Bool.false_eq_true,if_false]
  refine wN ?_
  refine wR0 1200 [1,2,20,78] cJ0 ?_
  refine wN ?_
  refine qan (eV cJ0) ?_
  simp only[k5b,Bool.false_eq_true,if_false]
  refine wN ?_
  refine wR0 1400 [1,2,99] cJ0 ?_
  refine wN ?_
  by_cases k3:k=3
  ·have k3b:(k==3)=true:=by simp[k3]
   have e3:(qaM (.mk k s rs ps) d)=((s==0)&&!decide ((ps.length:Int)<1)&&!decide ((ps.length:Int) > 8)&&qbi ps (d - 1)):=by simp only[qaM,if_neg hd0,if_neg hr,if_neg k1,if_neg k26,if_neg k7,if_neg k45,if_pos k3]
   refine qan (eV cJ0) ?_
   simp only[k3b,if_true]
   refine wN ?_
   refine wR0 1500 [1,2,115] cJ0 ?_
   refine wN ?_
   rcases hall:((s != 0) || decide (((qam ps).length:Int)<1) || decide (((qam ps).length:Int) > 8)) with _ | _
   ·refine qan (eV cJ0) ?_
    simp only[Bool.false_eq_true,if_false]
    refine wN ?_
    refine wR0 1700 [1,2,5] cJ0 ?_
    refine wN ?_
    refine qdx ?_
    simp only[qap,Bool.or_eq_false_iff,bne_eq_false_iff_eq] at hall
    refine qlk k s d rs ps (by omega) (by omega) hf2 _ ps [] 0 rfl rfl (fun p hk=>qg8 p (d - 1) (hf3 p hk) (by omega) (by omega)) ?_ ?_
    ·intro h i
     simp only[inB,if_true,thn]
     refine wR0 2200 [4] cJ0 ?_
     refine wN ?_
     refine qaW ?_
     (try simp only[thn,inB])
     exact⟨by simp,_,rfl,by exact qac (by rw[e3,h];simp[hall])⟩
    ·intro h
     simp only[inB,thn]
     exact⟨by simp,_,rfl,qac (by simp[e3,h])⟩
   ·refine qan (eV cJ0) ?_
    simp only[if_true]
    refine wN ?_
    refine wR0 1600 [4] cJ0 ?_
    refine wN ?_
    refine qaW ?_
    (try simp only[thn,inB])
    exact⟨by simp,_,rfl,by exact qac (by simp only[qap,bne] at hall;rw[e3];revert hall;cases (s==0)<;>cases decide ((ps.length:Int)<1)<;>cases decide ((ps.length:Int) > 8)<;>simp)⟩
  have k3b:(k==3)=false:=by simp[k3]
  refine qan (eV cJ0) ?_
  simp only[k3b,Bool.false_eq_true,if_false]
  refine wN ?_
  refine wR0 2300 [4] cJ0 ?_
  refine wN ?_
  refine qaW ?_
  (try simp only)
  exact⟨by simp,_,rfl,by exact qac (by simp only[qaM,if_neg hd0,if_neg hr,if_neg k1,if_neg k26,if_neg k7,if_neg k45,if_neg k3])⟩
termination_by t=>SizeOf.sizeOf t
decreasing_by all_goals exact qkb hk k s rs
def qcC (t:Ty):Int:=if qaM t 8 then 0 else 6
theorem qi8 (t:Ty)(ht:t.fit):TP Tryz.prog 93 [qaz t] (.int .i64 (qcC t)):=by
 rcases t with⟨k,s,rs,ps⟩
 refine qag fn93 (by simp) ?_
 unfold i93
 simp only[argL,qaz]
 refine wN ?_
 refine wR0 0 [1] cJ0 ?_
 refine wN ?_
 refine wRn 100 [5] cJ0 ?_
 refine rC cJ0 ?_
 refine⟨_,qg8 (.mk k s rs ps) 8 ht (by omega) (by omega),rE cJ0 ?_⟩
 refine wN ?_
 rcases hv:qaM (.mk k s rs ps) 8 with _ | _
 ·refine qan (eV cJ0) ?_
  simp only[Bool.not_false,if_true]
  refine wN ?_
  refine wR0 200 [2] cJ0 ?_
  refine wN ?_
  refine qaW ?_
  (try simp only[thn])
  exact⟨by simp,_,rfl,by exact qaC (by simp[qcC,hv])⟩
 ·refine qan (eV cJ0) ?_
  simp only[Bool.not_true,Bool.false_eq_true,if_false]
  refine wN ?_
  refine wR0 300 [2] cJ0 ?_
  refine wN ?_
  refine qaW ?_
  (try simp only)
  exact⟨by simp,_,rfl,by exact qaC (by simp[qcC,hv])⟩
def qce (s:Int)(x:V):Bool:=decide (x.n<0) || decide (x.n≥s) || decide ((x.kids.length:Int) > 0)
def qbW:List V→Bool
 | a::b::l=>!decide (cmpV a b > 0)&&qbW (b::l)
 | _=>true
mutual
def ofV:Ty→V→Bool
 | .mk k s rs ps,v=>
  if k=1 then decide (v.n≥0)&&decide (v.n≤1048576)&&((v.kids.length:Int)==0)
  else if k=2 then decide (v.n≥0)&&decide (v.n<s)&&((v.kids.length:Int)==0)
  else if k=6 then decide (qcb v 12≤12)&&qew s v
  else if k=3 then (v.n==0)&&((v.kids.length:Int)==ps.length)&&qd2 ps v.kids
  else (v.n==0)&&!decide ((v.kids.length:Int) > 12)&&(if k=7 then !v.kids.any (qce s) else qgG ps v.kids&&(!(k==5) || qbW v.kids))
def qd2:List Ty→List V→Bool
 | p::ps,v::vs=>ofV p v&&qd2 ps vs
 | _,_=>true
def qgG:List Ty→List V→Bool
 | p::_,vs=>vs.all fun v=>ofV p v
 | [],_=>true
end
def qq1 (prev:Option V)(l:List V):Bool:=match prev with
 | none=>qbW l
 | some p=>qbW (p::l)
def ascB (b:Bool)(prev:Option V)(x:V):Bool:=match prev with
 | none=>true
 | some p=>!(b&&decide (cmpV p x > 0))
def bagL (p:Ty)(b:Bool)(prev:Option V):List V→Bool
 | []=>true
 | x::l=>(ofV p x&&ascB b prev x)&&bagL p b (some x) l
theorem qoF (p:Ty)(b:Bool):∀(l:List V) (prev:Option V),bagL p b prev l=((l.all fun v=>ofV p v)&&(!b || qq1 prev l))
 | [],none=>by cases b<;>rfl
 | [],some q=>by cases b<;>rfl
 | x::l,prev=>by
  rw[bagL,qoF p b l (some x)]
  cases prev<;>cases b<;>simp only[ascB,qq1,qbW,List.all_cons,Bool.false_and,Bool.true_and,Bool.not_false,Bool.not_true,Bool.and_true,Bool.true_or,Bool.false_or,Bool.and_assoc]
  rw[Bool.and_left_comm (!_)]
theorem qtf (k s N:Int)(rs:List Int)(ps:List Ty)(ks:List V)(hp:ps.length≤1000000)(hl:ks.length=ps.length)(Q:IExit→(Nat→T)→Heap→Prop):∀(rest pre:List V) (ts us:List Ty) (i:Nat),ks=pre++rest→ps=us++ts→pre.length=i→us.length=i→
 (∀t∈ts,∀v∈rest,TP Tryz.prog 95 [qaz t,encV v] (.bool (ofV t v)))→
 (qd2 ts rest=true→∀i:Int,Q (.exit 1) (ofL [(2,.ref 0 4 0),(3,.ref 1 2 0),(5,.int .i64 i),(72,.bool false)]) (hpL [(0,.live ⟨45,[.int .i64 k,.int .i64 s,.list (qad rs),.list (qam ps)]⟩),(1,.live ⟨35,[.int .i64 N,.list (qaj ks)]⟩)]))→
 (qd2 ts rest=false→Q .ret (ofL [(4,.bool false)]) (hpL [(0,.live ⟨45,[.int .i64 k,.int .i64 s,.list (qad rs),.list (qam ps)]⟩),(1,.live ⟨35,[.int .i64 N,.list (qaj ks)]⟩)]))→
 WL Tryz.prog 169 qmN (ofL [(2,.ref 0 4 0),(3,.ref 1 2 0),(5,.int .i64 i)]) (hpL [(0,.live ⟨45,[.int .i64 k,.int .i64 s,.list (qad rs),.list (qam ps)]⟩),(1,.live ⟨35,[.int .i64 N,.list (qaj ks)]⟩)]) Q:=by
 intro rest
 induction rest with
 | nil=>
  intro pre ts us i he he2 hn hn2 hk hQ0 hQ1
  have hd:decide ((i:Int)<((qaj ks).length:Int))=false:=by simp[qal,he,hn]
  refine qaa qmN.eq_1 ?_
  refine wN ?_
  refine wR0 1200 [2,3,5,72] @hd ?_
  refine wN ?_
  refine qan (eV cJ0) ?_
  simp only[Bool.false_eq_true,if_false]
  refine wN ?_
  refine qcz ?_
  (try simp only[thn])
  exact hQ0 (by cases ts<;>rfl) _
 | cons v rest ih=>
  intro pre ts us i he he2 hn hn2 hk hQ0 hQ1
  cases ts with
  | nil=>rw[he,he2] at hl;simp at hl;omega
  | cons t ts=>
   have hlt:(i:Int)<((qaj ks).length:Int):=by simp[qal,he];omega
   have hlt2:(i:Int)<((qam ps).length:Int):=by simp[qap,he2];omega
   have hlb:i≤1000000:=by rw[he2] at hp;simp at hp;omega
   have hd:decide ((i:Int)<((qaj ks).length:Int))=true:=decide_eq_true hlt
   have hg:(qaj ks).getD (i:Int).toNat .undef=encV v:=by rw[Int.toNat_natCast,he,←hn];exact qbC _ _ _
   have hg2:(qam ps).getD (i:Int).toNat .undef=qaz t:=by rw[Int.toNat_natCast,he2,←hn2];exact qeR _ _ _
   have hw:IntKind.wrap .i64 ((i:Int)+1)=(i:Int)+1:=wrap64 (by omega) (by omega)
   refine qaa qmN.eq_1 ?_
   refine wN ?_
   refine wR0 1200 [2,3,5,72] @hd ?_
   refine wN ?_
   refine qan (eV cJ0) ?_
   simp only[if_true]
   refine wN ?_
   have fX:=(cJ6 @hg @hg2 @qdk @qcg @qcM @qb6)
   refine wRn 1300 [2,3,5,86] fX ?_
   refine rC fX ?_
   refine⟨_,hk t (List.mem_cons_self ..) v (List.mem_cons_self ..),rE fX ?_⟩
   refine wN ?_
   by_cases hc:ofV t v=true
   ·have hb:(!ofV t v)=false:=by simp[hc]
    refine qan (eV cJ0) ?_
    simp only[hb,Bool.false_eq_true,if_false]
    refine wN ?_
    refine wR0 1500 [2,3,5] @hw ?_
    refine wN ?_
    have:=ih (pre++[v]) ts (us++[t]) (i+1) (by simp[he]) (by simp[he2]) (by simp;omega) (by simp;omega) (fun t' ht' k' hk'=>hk t' (List.mem_cons_of_mem _ ht') k' (List.mem_cons_of_mem _ hk')) (by simpa [qd2,hc] using hQ0) (by simpa [qd2,hc] using hQ1)
    simpa using this
   ·have hb:(!ofV t v)=true:=by simp[hc]
    refine qan (eV cJ0) ?_
    simp only[hb,if_true]
    refine wN ?_
    refine wR0 1400 [4] cJ0 ?_
    refine wN ?_
    refine qaW ?_
    (try simp only[thn,inB])
    exact hQ1 (by simp[qd2,hc])
theorem qlA (s N:Int)(rs:List Int)(ps:List Ty)(ks:List V)(hl:ks.length≤1000000)(Q:IExit→(Nat→T)→Heap→Prop):∀(rest pre:List V) (i:Nat),ks=pre++rest→pre.length=i→
 (rest.any (qce s)=false→∀i:Int,Q (.exit 3) (ofL [(2,.ref 0 4 0),(3,.ref 1 2 0),(6,.int .i64 i),(100,.bool false)]) (hpL [(0,.live ⟨45,[.int .i64 7,.int .i64 s,.list (qad rs),.list (qam ps)]⟩),(1,.live ⟨35,[.int .i64 N,.list (qaj ks)]⟩)]))→
 (rest.any (qce s)=true→Q .ret (ofL [(4,.bool false)]) (hpL [(0,.live ⟨45,[.int .i64 7,.int .i64 s,.list (qad rs),.list (qam ps)]⟩),(1,.live ⟨35,[.int .i64 N,.list (qaj ks)]⟩)]))→
 WL Tryz.prog 169 qhG (ofL [(2,.ref 0 4 0),(3,.ref 1 2 0),(6,.int .i64 i)]) (hpL [(0,.live ⟨45,[.int .i64 7,.int .i64 s,.list (qad rs),.list (qam ps)]⟩),(1,.live ⟨35,[.int .i64 N,.list (qaj ks)]⟩)]) Q:=by
 intro rest
 induction rest with
 | nil=>
  intro pre i he hn hQ0 hQ1
  have hd:decide ((i:Int)<((qaj ks).length:Int))=false:=by simp[qal,he,hn]
  refine qaa qhG.eq_1 ?_
  refine wN ?_
  refine wR0 2000 [2,3,6,100] @hd ?_
  refine wN ?_
  refine qan (eV cJ0) ?_
  simp only[Bool.false_eq_true,if_false]
  refine wN ?_
  refine qcz ?_
  (try simp only[thn])
  exact hQ0 rfl _
 | cons v rest ih=>
  intro pre i he hn hQ0 hQ1
  rcases v with⟨a,bs⟩
  have hlt:(i:Int)<((qaj ks).length:Int):=by simp[qal,he];omega
  have hlb:i≤1000000:=by rw[he] at hl;simp at hl;omega
  have hd:decide ((i:Int)<((qaj ks).length:Int))=true:=decide_eq_true hlt
  have hg:(qaj ks).getD (i:Int).toNat .undef=.agg [.int .i64 a,.list (qaj bs)]:=by rw[Int.toNat_natCast,he,←hn];exact qbC _ (.mk a bs) _
  have hw:IntKind.wrap .i64 ((i:Int)+1)=(i:Int)+1:=wrap64 (by omega) (by omega)
  refine qaa qhG.eq_1 ?_
  refine wN ?_
  refine wR0 2000 [2,3,6,100] @hd ?_
  refine wN ?_
  refine qan (eV cJ0) ?_
  simp only[if_true]
  refine wN ?_
  refine wR0 2100 [2,3,6,105] cJ0 ?_
  refine wN ?_
  refine qan (eV cJ0) ?_
  simp only[if_true]
  refine wN ?_
  refine wR0 2200 [2,3,6,133] @hg ?_
  refine wN ?_
  have hbl:(decide (a<0) || decide (a≥s) || decide (((qaj bs).length:Int) > 0))=qce s (.mk a bs):=by simp only[qce,V.n,V.kids,qal];rfl
  by_cases hc:qce s (.mk a bs)=true
  ·rw[hc] at hbl
   refine qan (eV cJ0) ?_
   simp only[hbl,if_true]
   refine wN ?_
   refine wR0 2300 [4] cJ0 ?_
   refine wN ?_
   refine qaW ?_
   (try simp only[thn,inB])
   exact hQ1 (by simp[hc])
  ·rw[Bool.not_eq_true] at hc
   rw[hc] at hbl
   refine qan (eV cJ0) ?_
   simp only[hbl,Bool.false_eq_true,if_false]
   refine wN ?_
   refine qcz ?_
   (try simp only[thn,inB,if_true])
   refine wR0 2600 [2,3,6] @hw ?_
   refine wN ?_
   have:=ih (pre++[.mk a bs]) (i+1) (by simp[he]) (by simp;omega) (by simpa [hc] using hQ0) (by simpa [hc] using hQ1)
   simpa using this
theorem qrt (k s N:Int)(k7:k≠7)(rs:List Int)(ps:List Ty)(p:Ty)(hps:ps=[p])(ks:List V)(hl:ks.length≤1000000)(hf:∀v∈ks,v.fit)(Q:IExit→(Nat→T)→Heap→Prop):∀(rest pre:List V) (i:Nat),ks=pre++rest→pre.length=i→
 (∀v∈rest,TP Tryz.prog 95 [qaz p,encV v] (.bool (ofV p v)))→
 (bagL p (k==5) pre.getLast? rest=true→∀i:Int,Q (.exit 3) (ofL [(2,.ref 0 4 0),(3,.ref 1 2 0),(6,.int .i64 i),(100,.bool false)]) (hpL [(0,.live ⟨45,[.int .i64 k,.int .i64 s,.list (qad rs),.list (qam ps)]⟩),(1,.live ⟨35,[.int .i64 N,.list (qaj ks)]⟩)]))→
 (bagL p (k==5) pre.getLast? rest=false→Q .ret (ofL [(4,.bool false)]) (hpL [(0,.live ⟨45,[.int .i64 k,.int .i64 s,.list (qad rs),.list (qam ps)]⟩),(1,.live ⟨35,[.int .i64 N,.list (qaj ks)]⟩)]))→
 WL Tryz.prog 169 qhG (ofL [(2,.ref 0 4 0),(3,.ref 1 2 0),(6,.int .i64 i)]) (hpL [(0,.live ⟨45,[.int .i64 k,.int .i64 s,.list (qad rs),.list (qam ps)]⟩),(1,.live ⟨35,[.int .i64 N,.list (qaj ks)]⟩)]) Q:=by
 have k7b:(k==7)=false:=by simp[k7]
 have hlt2:(0:Int)<((qam ps).length:Int):=by simp[qap,hps]
 have hg2:(qam ps).getD (0:Int).toNat .undef=qaz p:=by rw[hps];rfl
 intro rest
 induction rest with
 | nil=>
  intro pre i he hn hk hQ0 hQ1
  have hd:decide ((i:Int)<((qaj ks).length:Int))=false:=by simp[qal,he,hn]
  refine qaa qhG.eq_1 ?_
  refine wN ?_
  refine wR0 2000 [2,3,6,100] @hd ?_
  refine wN ?_
  refine qan (eV cJ0) ?_
  simp only[Bool.false_eq_true,if_false]
  refine wN ?_
  refine qcz ?_
  (try simp only[thn])
  exact hQ0 rfl _
 | cons v rest ih=>
  intro pre i he hn hk hQ0 hQ1
  have hlt:(i:Int)<((qaj ks).length:Int):=by simp[qal,he];omega
  have hlb:i≤1000000:=by rw[he] at hl;simp at hl;omega
  have hd:decide ((i:Int)<((qaj ks).length:Int))=true:=decide_eq_true hlt
  have hg:(qaj ks).getD (i:Int).toNat .undef=encV v:=by rw[Int.toNat_natCast,he,←hn];exact qbC _ _ _
  have hw:IntKind.wrap .i64 ((i:Int)+1)=(i:Int)+1:=wrap64 (by omega) (by omega)
  have hb2:(pre++[v]).getLast? = some v:=by simp
  have hbag:bagL p (k==5) pre.getLast? (v::rest)=((ofV p v&&ascB (k==5) pre.getLast? v)&&bagL p (k==5) (pre++[v]).getLast? rest):=by rw[hb2];rfl
  refine qaa qhG.eq_1 ?_
  refine wN ?_
  refine wR0 2000 [2,3,6,100] @hd ?_
  refine wN ?_
  refine qan (eV cJ0) ?_
  simp only[if_true]
  refine wN ?_
  refine wR0 2100 [2,3,6,105] cJ0 ?_
  refine wN ?_
  refine qan (eV cJ0) ?_
  simp only[k7b,Bool.false_eq_true,if_false]
  refine wN ?_
  rcases hof:ofV p v with _ | _
  ·have fX:=(cJ8 @hg @hg2 @qdk @qcg @qcM @qb6 @hof @Bool.not_false)
   refine wRn 2400 [2,3,6,168] fX ?_
   refine rC fX ?_
   refine⟨_,hk v (List.mem_cons_self ..),rE fX ?_⟩
   refine wN ?_
   refine qan (eV cJ0) ?_
   simp only[if_true]
   refine wN ?_
   refine wR0 2500 [4] cJ0 ?_
   refine wN ?_
   refine qaW ?_
   (try simp only[thn,inB])
   exact hQ1 (by simp[bagL,hof])
  ·by_cases k5:k=5
   ·have k5b:(k==5)=true:=by simp[k5]
    rcases List.eq_nil_or_concat pre with rfl | ⟨pre',q,rfl⟩
    ·have hi:i=0:=by simpa using hn.symm
     have h0:decide ((i:Int) > 0)=false:=by simp[hi]
     have hasc:ascB (k==5) ([]:List V).getLast? v=true:=rfl
     have fX:=(cJ8 @hg @hg2 @qdk @qcg @qcM @qb6 @hof (cJ3 @Bool.not_true @k5b @h0))
     refine wRn 2400 [2,3,6,168] fX ?_
     refine rC fX ?_
     refine⟨_,hk v (List.mem_cons_self ..),rE fX ?_⟩
     refine wN ?_
     refine qan (eV cJ0) ?_
     simp only[Bool.false_eq_true,if_false]
     refine wN ?_
     refine wR0 2600 [2,3,6] @hw ?_
     refine wN ?_
     rw[hof,hasc,Bool.true_and,Bool.true_and] at hbag
     rw[hbag] at hQ0 hQ1
     have:=ih ([]++[v]) (i+1) (by simp[he]) (by simp at hn ⊢;omega) (fun k' hk'=>hk k' (List.mem_cons_of_mem _ hk')) hQ0 hQ1
     simpa using this
    ·have hi0:0<i:=by simp at hn;omega
     have hi0b:decide ((i:Int) > 0)=true:=by simp;omega
     have hw3:IntKind.wrap .i64 ((i:Int) - 1)=(i:Int) - 1:=wrap64 (by omega) (by omega)
     have hlt3:(i:Int) - 1<((qaj ks).length:Int):=by omega
     have hg3:(qaj ks).getD ((i:Int) - 1).toNat .undef=encV q:=by
      have:((i:Int) - 1).toNat=pre'.length:=by simp at hn;omega
      rw[this,he,List.concat_eq_append,List.append_assoc];exact qbC _ _ _
     have hq:q∈ks:=by rw[he];simp
     have fX:=(cJ8 @hg @hg2 @qdk @qcg @qcM @qb6 @hof (cJ5 @Bool.not_true @k5b @hi0b @hw3 @hg3))
     refine wRn 2400 [2,3,6,168] fX ?_
     refine rC fX ?_
     refine⟨_,hk v (List.mem_cons_self ..),rN fX ?_⟩
     refine rC fX ?_
     refine⟨_,qme q v (hf q hq),rE fX ?_⟩
     refine wN ?_
     have hasc0:ascB (k==5) (pre'.concat q).getLast? v=!decide (cmpV q v > 0):=by simp[ascB,k5b]
     rcases hc:decide (cmpV q v > 0) with _ | _
     ·refine qan (eV cJ0) ?_
      simp only[Bool.false_eq_true,if_false]
      refine wN ?_
      have hasc:ascB (k==5) (pre'.concat q).getLast? v=true:=by rw[hasc0,hc];rfl
      refine wR0 2600 [2,3,6] @hw ?_
      refine wN ?_
      rw[hof,hasc,Bool.true_and,Bool.true_and] at hbag
      rw[hbag] at hQ0 hQ1
      have:=ih (pre'.concat q++[v]) (i+1) (by simp[he]) (by simp at hn ⊢;omega) (fun k' hk'=>hk k' (List.mem_cons_of_mem _ hk')) hQ0 hQ1
      simpa using this
     ·refine qan (eV cJ0) ?_
      simp only[if_true]
      refine wN ?_
      refine wR0 2500 [4] cJ0 ?_
      refine wN ?_
      refine qaW ?_
      (try simp only[thn,inB])
      exact hQ1 (by rw[hbag,hasc0,hc];simp)
   ·have k5b:(k==5)=false:=by simp[k5]
    have fX:=(cJ8 @hg @hg2 @qdk @qcg @qcM @qb6 @hof (cJ2 @Bool.not_true @k5b))
    refine wRn 2400 [2,3,6,168] fX ?_
    refine rC fX ?_
    refine⟨_,hk v (List.mem_cons_self ..),rE fX ?_⟩
    refine wN ?_
    have hasc:ascB (k==5) pre.getLast? v=true:=by rw[k5b];cases pre.getLast?<;>rfl
    refine qan (eV cJ0) ?_
    simp only[Bool.false_eq_true,if_false]
    refine wN ?_
    refine wR0 2600 [2,3,6] @hw ?_
    refine wN ?_
    rw[hof,hasc,Bool.true_and,Bool.true_and] at hbag
    rw[hbag] at hQ0 hQ1
    have:=ih (pre++[v]) (i+1) (by simp[he]) (by simp at hn ⊢;omega) (fun k' hk'=>hk k' (List.mem_cons_of_mem _ hk')) hQ0 hQ1
    simpa using this
end
end Go.Proofs.YtkbjpglehdhjfaaGreatDoor
