/- Contracts of functions of the program, for all arguments that they name. -/
import Derived.Test.YtpplncjaihgimaaGreatK07
namespace Go.Proofs.YtpplncjaihgimaaGreat
set_option linter.unusedVariables false
section
open Go.RowKit
set_option maxHeartbeats 2000000
theorem qfy {k s d:Int}{rs:List Int}{ps:List Ty}(hk:k=3)(h:qar (.mk k s rs ps) d=true):qa1 ps (d - 1)=true:=by
 subst hk;exact (qdX h).1
def rowOf (k:Int)(ps:List Ty)(ks:List V):List V:=if k=3 then qcl ps ks else if k=4 then qd8 ps ks else if k=5 then qd8 ps ks else ks
theorem qb4 (k s n:Int)(rs:List Int)(ps:List Ty)(ks:List V):qbi (.mk k s rs ps) (.mk n ks)=.mk n (if k=5 then (qcg [] (rowOf k ps ks)).reverse else rowOf k ps ks):=by
 simp only[qbi,V.n,V.kids,rowOf,qcg]
 by_cases h3:k=3
 ·simp[h3]
 ·by_cases h4:k=4
  ·simp[h4]
  ·by_cases h5:k=5
   ·simp[h5]
   ·simp[h3,h4,h5]
theorem qey (k:Int)(ps:List Ty)(ks:List V):(rowOf k ps ks).length=ks.length:=by
 have:(qd8 ps ks).length=ks.length:=by cases ps<;>simp[qd8]
 unfold rowOf;split
 ·exact qeC ps ks
 ·split
  ·exact this
  ·split
   ·exact this
   ·rfl
theorem qlh (k:Int)(ps:List Ty)(ks:List V)(h:∀v∈ks,v.fit):∀v∈rowOf k ps ks,v.fit:=by
 unfold rowOf;split
 ·exact qh5 ps ks h
 ·split
  ·exact (qeA ps ks h).2
  ·split
   ·exact (qeA ps ks h).2
   ·exact h
set_option maxHeartbeats 4000000 in
theorem qf5:∀(t:Ty) (v:V) (d:Int),t.fit→v.fit→qar t d=true→TP Tryz.prog 85 [qal t,encV v] (encV (qbi t v))
 | .mk k s rs ps,.mk N ks,d,ht,hv,hval=>by
  obtain⟨hf1,hf2,hf3⟩:=Ty.fit_all ht
  have hv':=V.fit_kids hv
  simp only[V.kids] at hv'
  have hcopy:=qmX N ks hv
  refine qan fn85 (by simp) ?_
  unfold i85
  simp only[argL,encV,qal]
  refine wN ?_
  refine wR0 0 [2,3,4] cJ0 ?_
  refine wN ?_
  cases ks with
  | nil=>
   simp only[rowT,rowH] at hcopy
   apply W_r 100 [2,4,5] (by rfl)
   ·refine rN cJ0 ?_
    apply qhX [] []
    ·rfl
    ·exact eV cJ0
    ·exact fun p hp=>by cases hp
    ·exact hcopy
    ·exact fun p hp=>by cases hp
    ·exact fun p hp=>by cases hp
    ·simp[clL,T.cl]
    refine rN cJ0 ?_
    exact rFi
   ·exact eV cJ0
   simp only[thn]
   have hr0:rowOf k ps []=[]:=List.eq_nil_of_length_eq_zero (qey k ps [])
   have es:qbi (.mk k s rs ps) (.mk N [])=.mk N []:=by rw[qb4,hr0];split<;>rfl
   have hd:decide ((0:Int)<0)=false:=rfl
   have hd1:decide ((1:Int)<0)=false:=rfl
   refine wR0 200 [2,4,5,6] cJ0 ?_
   refine wN ?_
   refine qbN ?_
   refine qaa qeq.eq_1 ?_
   refine wN ?_
   refine wR0 300 [2,4,5,6,15] @hd ?_
   refine wN ?_
   refine qaj (eV cJ0) ?_
   simp only[Bool.false_eq_true,if_false]
   refine wN ?_
   refine qbE ?_
   (try simp only[thn,inB,if_true])
   refine wR0 900 [4,5,67] cJ0 ?_
   refine wN ?_
   rcases k5b:(k != 5) with _ | _
   ·refine qaj (eV cJ0) ?_
    simp only[Bool.false_eq_true,if_false]
    refine wN ?_
    refine wR0 1100 [4,5,7] cJ0 ?_
    refine wN ?_
    refine qbN ?_
    refine qaa qkD.eq_1 ?_
    refine wN ?_
    refine wR0 1200 [4,5,7,73] @hd1 ?_
    refine wN ?_
    refine qaj (eV cJ0) ?_
    simp only[Bool.false_eq_true,if_false]
    refine wN ?_
    refine qbE ?_
    (try simp only[thn,inB,if_true])
    refine wR0 1800 [4] cJ0 ?_
    refine wN ?_
    refine qaE ?_
    exact⟨by simp,_,rfl,by rw[es];exact qaS .nil rfl⟩
   ·refine qaj (eV cJ0) ?_
    simp only[if_true]
    refine wN ?_
    refine wR0 1000 [4] cJ0 ?_
    refine wN ?_
    refine qaE ?_
    exact⟨by simp,_,rfl,by rw[es];exact qaS .nil rfl⟩
  | cons u ks=>
   simp only[rowT,rowH] at hcopy
   apply W_r 100 [2,4,5] (by rfl)
   ·refine rN cJ0 ?_
    apply qhX [] [(409,.live ⟨25,qaq (u::ks)⟩)]
    ·rfl
    ·exact eV cJ0
    ·exact fun p hp=>by cases hp
    ·exact hcopy
    ·simp
    ·simp[hpL]
    ·simp[clL,T.cl]
    refine rN cJ0 ?_
    exact rFi
   ·exact eV cJ0
   simp only[thn]
   have hn0:ks.length+1≤1000000:=by simpa using hv'.1
   have hRl:=qey k ps (u::ks)
   have hRf:=qlh k ps (u::ks) hv'.2
   obtain⟨r,R',hR⟩:∃r R',rowOf k ps (u::ks)=r::R':=by
    cases hx:rowOf k ps (u::ks) with
    | nil=>rw[hx] at hRl;simp at hRl
    | cons r R'=>exact⟨r,R',rfl⟩
   rw[hR] at hRl hRf
   refine wR0 200 [2,4,5,6] cJ0 ?_
   refine wN ?_
   refine qbN ?_
   by_cases k3:k=3
   ·have hX:qcl ps (u::ks)=r::R':=by rw[←hR,rowOf,if_pos k3]
    have hvp:=qfy k3 hval
    have hl3:∀t∈ps,∀v∈u::ks,TP Tryz.prog 85 [qal t,encV v] (encV (qbi t v)):=fun t hk v hv1=>qf5 t v (d - 1) (hf3 t hk) (hv'.2 v hv1) (qbV hvp t hk)
    subst k3
    refine qk5 s N rs ps _ (ks.length+1) hn0 _ (u::ks) [] ps [] 0 rfl (by simp) rfl (.inl rfl) hl3 ?_
    intro i
    simp only[inB,if_true,thn,List.nil_append,hX]
    refine wR0 900 [4,5,67] cJ0 ?_
    refine wN ?_
    by_cases k5:(3:Int)=5
    ·have k5b:((3:Int) != 5)=false:=by simp[k5]
     refine qaj (eV cJ0) ?_
     simp only[k5b,Bool.false_eq_true,if_false]
     refine wN ?_
     refine wR0 1100 [4,5,7] cJ0 ?_
     refine wN ?_
     refine qbN ?_
     refine qgl N _ _ (ks.length+1) hn0 _ R' [r] 1 rfl (by simp at hRl ⊢;omega) (fun v hv=>hRf v (List.mem_cons_of_mem _ hv)) ?_
     intro j
     simp only[inB,thn,if_true]
     refine wR0 1800 [4] cJ0 ?_
     refine wN ?_
     refine qaE ?_
     exact⟨by simp,_,rfl,by rw[qb4,if_pos k5,hR];exact qaS (qbS (qcg [r] R').reverse rfl (by rw[List.length_reverse,qch];simp at hRl ⊢;omega) (by rw[List.length_reverse,qch];simp at hRl ⊢;omega)) rfl⟩
    ·have k5b:((3:Int) != 5)=true:=by simp
     refine qaj (eV cJ0) ?_
     simp only[k5b,if_true]
     refine wN ?_
     refine wR0 1000 [4] cJ0 ?_
     refine wN ?_
     refine qaE ?_
     exact⟨by simp,_,rfl,by rw[qb4,if_neg k5,hR];exact qaS (qbS (r::R') rfl (by simp at hRl ⊢;omega) (by simp at hRl ⊢;omega)) rfl⟩
   by_cases k45:k=4∨k=5
   ·obtain⟨p,hp,hvp⟩:=qdW k45 hval
    have hk:p∈ps:=by simp[hp]
    have hX:(u::ks).map (qbi p)=r::R':=by
     rw[←hR,rowOf,if_neg k3,hp];rcases k45 with h | h<;>simp[h,qd8]
    refine qrS k s N k45 rs ps p hp (u::ks) (ks.length+1) hn0 _ (u::ks) [] 0 rfl (by simp) (fun v hv1=>qf5 p v (d - 1) (hf3 p hk) (hv'.2 v hv1) hvp) ?_
    intro i
    simp only[inB,if_true,thn,List.nil_append,hX]
    refine wR0 900 [4,5,67] cJ0 ?_
    refine wN ?_
    by_cases k5:k=5
    ·have k5b:(k != 5)=false:=by simp[k5]
     refine qaj (eV cJ0) ?_
     simp only[k5b,Bool.false_eq_true,if_false]
     refine wN ?_
     refine wR0 1100 [4,5,7] cJ0 ?_
     refine wN ?_
     refine qbN ?_
     refine qgl N _ _ (ks.length+1) hn0 _ R' [r] 1 rfl (by simp at hRl ⊢;omega) (fun v hv=>hRf v (List.mem_cons_of_mem _ hv)) ?_
     intro j
     simp only[inB,thn,if_true]
     refine wR0 1800 [4] cJ0 ?_
     refine wN ?_
     refine qaE ?_
     exact⟨by simp,_,rfl,by rw[qb4,if_pos k5,hR];exact qaS (qbS (qcg [r] R').reverse rfl (by rw[List.length_reverse,qch];simp at hRl ⊢;omega) (by rw[List.length_reverse,qch];simp at hRl ⊢;omega)) rfl⟩
    ·have k5b:(k != 5)=true:=by simp[k5]
     refine qaj (eV cJ0) ?_
     simp only[k5b,if_true]
     refine wN ?_
     refine wR0 1000 [4] cJ0 ?_
     refine wN ?_
     refine qaE ?_
     exact⟨by simp,_,rfl,by rw[qb4,if_neg k5,hR];exact qaS (qbS (r::R') rfl (by simp at hRl ⊢;omega) (by simp at hRl ⊢;omega)) rfl⟩
   ·have hX:u::ks=r::R':=by
     rw[←hR,rowOf,if_neg k3,if_neg (fun h=>k45 (.inl h)),if_neg (fun h=>k45 (.inr h))]
    have hR:=hR
    rw[hX] at hR
    refine qqu k s N k3 (fun h=>k45 (.inl h)) (fun h=>k45 (.inr h)) rs ps _ (ks.length+1) _ hn0 _ (ks.length+1) 0 (by omega) ?_
    intro i
    simp only[inB,if_true,thn,hX]
    refine wR0 900 [4,5,67] cJ0 ?_
    refine wN ?_
    by_cases k5:k=5
    ·have k5b:(k != 5)=false:=by simp[k5]
     refine qaj (eV cJ0) ?_
     simp only[k5b,Bool.false_eq_true,if_false]
     refine wN ?_
     refine wR0 1100 [4,5,7] cJ0 ?_
     refine wN ?_
     refine qbN ?_
     refine qgl N _ _ (ks.length+1) hn0 _ R' [r] 1 rfl (by simp at hRl ⊢;omega) (fun v hv=>hRf v (List.mem_cons_of_mem _ hv)) ?_
     intro j
     simp only[inB,thn,if_true]
     refine wR0 1800 [4] cJ0 ?_
     refine wN ?_
     refine qaE ?_
     exact⟨by simp,_,rfl,by rw[qb4,if_pos k5,hR];exact qaS (qbS (qcg [r] R').reverse rfl (by rw[List.length_reverse,qch];simp at hRl ⊢;omega) (by rw[List.length_reverse,qch];simp at hRl ⊢;omega)) rfl⟩
    ·have k5b:(k != 5)=true:=by simp[k5]
     refine qaj (eV cJ0) ?_
     simp only[k5b,if_true]
     refine wN ?_
     refine wR0 1000 [4] cJ0 ?_
     refine wN ?_
     refine qaE ?_
     exact⟨by simp,_,rfl,by rw[qb4,if_neg k5,hR];exact qaS (qbS (r::R') rfl (by simp at hRl ⊢;omega) (by simp at hRl ⊢;omega)) rfl⟩
termination_by t=>SizeOf.sizeOf t
decreasing_by all_goals exact qds hk k s rs
def v0:V:=.mk 0 []
def qaX (t:Ty)(v:V):V×Int:=
 if qar t 8=false then (v0,6) else if qbt v 128 > 128 then (v0,5) else if qaR t (qbi t v)=false then (v0,5) else (qbi t v,0)
theorem qgJ {H:Heap}{a c:Int}{x:T}{v:V}{p:V×Int}(hp:p=(v,c))(hc:a=c)(h:Frz H x (encV v)):Frz H (.tup [x,.int .i64 a]) (.tup [encV p.1,.int .i64 p.2]):=by
 subst hp hc
 refine Frz.tup rfl fun i hi=>?_
 match i,hi with
 | 0,_=>exact h
 | 1,_=>exact .same rfl
set_option maxHeartbeats 1000000 in
theorem qe3 (t:Ty)(v:V)(ht:t.fit)(hv:v.fit):TP Tryz.prog 50 [qal t,encV v] (.tup [encV (qaX t v).1,.int .i64 (qaX t v).2]):=by
 rcases t with⟨k,s,rs,ps⟩
 rcases v with⟨N,ks⟩
 refine qan fn50 (by simp) ?_
 unfold i50
 simp only[argL,encV,qal]
 refine wN ?_
 refine wR0 0 [2,3,4] cJ0 ?_
 refine wN ?_
 refine wRn 100 [2,3,4,6] cJ0 ?_
 refine rC cJ0 ?_
 refine⟨_,qfC (.mk k s rs ps) ht,rE cJ0 ?_⟩
 refine wN ?_
 refine wR0 200 [2,3,4,6,11] cJ0 ?_
 refine wN ?_
 rcases h1:qar (.mk k s rs ps) 8 with _ | _
 ·have hc:qba (.mk k s rs ps)=6:=by simp[qba,h1]
  have hcb:(qba (.mk k s rs ps) != 0)=true:=by rw[hc];rfl
  refine qaj (eV cJ0) ?_
  simp only[hcb,if_true]
  refine wN ?_
  refine wR0 300 [4,5] cJ0 ?_
  refine wN ?_
  refine qaE ?_
  exact⟨by simp,_,rfl,qgJ (v:=v0) (by simp only[qaX,h1,if_true]) hc (qaS .nil rfl)⟩
 have hc:qba (.mk k s rs ps)=0:=by simp[qba,h1]
 have hcb:(qba (.mk k s rs ps) != 0)=false:=by rw[hc];rfl
 refine qaj (eV cJ0) ?_
 simp only[hcb,Bool.false_eq_true,if_false]
 refine wN ?_
 refine wRn 400 [2,3,4,16] cJ0 ?_
 refine rC cJ0 ?_
 refine⟨_,qft (.mk N ks) 128 hv (by omega) (by omega),rE cJ0 ?_⟩
 refine wN ?_
 rcases h2:decide (qbt (.mk N ks) 128 > 128) with _ | _
 ·have h2':¬qbt (.mk N ks) 128 > 128:=of_decide_eq_false h2
  refine qaj (eV cJ0) ?_
  simp only[Bool.false_eq_true,if_false]
  refine wN ?_
  have hsv:=qf5 (.mk k s rs ps) (.mk N ks) 8 ht hv h1
  have hsf:=qeB (.mk k s rs ps) (.mk N ks) hv
  rcases hs:qbi (.mk k s rs ps) (.mk N ks) with⟨N',ks'⟩
  rw[hs] at hsv hsf
  refine wRn 600 [2,4,7] @encV.eq_1 ?_
  refine rC @encV.eq_1 ?_
  refine⟨_,hsv,rE @encV.eq_1 ?_⟩
  refine wN ?_
  refine wRn 700 [4,7,24] cJ0 ?_
  refine rC cJ0 ?_
  refine⟨_,qcK (.mk k s rs ps) (.mk N' ks') ht hsf,rE cJ0 ?_⟩
  refine wN ?_
  rcases h3:qaR (.mk k s rs ps) (.mk N' ks') with _ | _
  ·refine qaj (eV cJ0) ?_
   simp only[Bool.not_false,if_true]
   refine wN ?_
   refine wR0 800 [4,5] cJ0 ?_
   refine wN ?_
   refine qaE ?_
   exact⟨by simp,_,rfl,qgJ (v:=v0) (by simp only[qaX,h1,hs,h3,if_neg h2',if_true,Bool.true_eq_false,if_false]) rfl (qaS .nil rfl)⟩
  ·refine qaj (eV cJ0) ?_
   simp only[Bool.not_true,Bool.false_eq_true,if_false]
   refine wN ?_
   refine wR0 900 [4,5] cJ0 ?_
   refine wN ?_
   refine qaE ?_
   exact⟨by simp,_,rfl,qgJ (v:=.mk N' ks') (by simp only[qaX,h1,hs,h3,if_neg h2',Bool.true_eq_false,if_false]) rfl (.same (qct _ (.mk N' ks')))⟩
 ·have h2':qbt (.mk N ks) 128 > 128:=of_decide_eq_true h2
  refine qaj (eV cJ0) ?_
  simp only[if_true]
  refine wN ?_
  refine wR0 500 [4,5] cJ0 ?_
  refine wN ?_
  refine qaE ?_
  exact⟨by simp,_,rfl,qgJ (v:=v0) (by simp only[qaX,h1,if_pos h2',Bool.true_eq_false,if_false]) rfl (qaS .nil rfl)⟩
theorem qt4 (a:Int):TP Tryz.prog 129 [.int .i64 a] (.bool false):=by
 have h:(a != a)=false:=by simp
 refine qan fn129 (by simp) ?_
 unfold i129
 simp only[argL]
 refine wN ?_
 refine wR0 0 [0] cJ0 ?_
 refine wN ?_
 refine wR0 100 [2] @h ?_
 refine wN ?_
 refine qaE ?_
 (try simp only)
 exact⟨by simp,_,rfl,by exact .same rfl⟩
theorem qpH (a b:Int):TP Tryz.prog 76 [.int .i64 a,.int .i64 b] (.int .i64 (ordI a b)):=by
 refine qan fn76 (by simp) ?_
 unfold i76
 simp only[argL]
 refine wN ?_
 refine wR0 0 [0,1] cJ0 ?_
 refine wN ?_
 refine wRn 100 [0,1,5] cJ0 ?_
 refine rC cJ0 ?_
 refine⟨_,qt4 a,rE cJ0 ?_⟩
 refine wN ?_
 refine wRn 200 [0,1,5,6] cJ0 ?_
 refine rC cJ0 ?_
 refine⟨_,qt4 b,rE cJ0 ?_⟩
 refine wN ?_
 refine wR0 300 [0,1,6,11] cJ0 ?_
 refine wN ?_
 refine qaj (eV cJ0) ?_
 simp only[Bool.false_eq_true,if_false]
 refine wN ?_
 refine wR0 700 [0,1,13] cJ0 ?_
 refine wN ?_
 refine qaj (eV cJ0) ?_
 simp only[Bool.false_eq_true,if_false]
 refine wN ?_
 refine wR0 900 [0,1,16] cJ0 ?_
 refine wN ?_
 rcases h1:decide (a<b) with _ | _
 ·refine qaj (eV cJ0) ?_
  simp only[Bool.false_eq_true,if_false]
  refine wN ?_
  refine wR0 1100 [19] cJ0 ?_
  refine wN ?_
  rcases h2:decide (a > b) with _ | _
  ·refine qaj (eV cJ0) ?_
   simp only[Bool.false_eq_true,if_false]
   refine wN ?_
   refine wR0 1300 [4] cJ0 ?_
   refine wN ?_
   refine qaE ?_
   (try simp only)
   exact⟨by simp,_,rfl,by exact qaW (by simp at h1 h2;unfold ordI;rw[if_neg (by omega),if_neg (by omega)])⟩
  ·refine qaj (eV cJ0) ?_
   simp only[if_true]
   refine wN ?_
   refine wR0 1200 [4] cJ0 ?_
   refine wN ?_
   refine qaE ?_
   (try simp only[thn])
   exact⟨by simp,_,rfl,by exact qaW (by simp at h1 h2;unfold ordI;rw[if_neg (by omega),if_pos (by omega)])⟩
 ·refine qaj (eV cJ0) ?_
  simp only[if_true]
  refine wN ?_
  refine wR0 1000 [4] cJ0 ?_
  refine wN ?_
  refine qaE ?_
  (try simp only[thn])
  exact⟨by simp,_,rfl,by exact qaW (by simp at h1;unfold ordI;rw[if_pos h1])⟩
theorem qgd (l:List Int):Ones (qab l):=fun c hc=>by
 obtain⟨x,_,rfl⟩:=List.mem_map.1 hc
 rfl
theorem qek (l:List Int):qcP (esz 0) (qab l):=fun c hc=>by
 obtain⟨x,_,rfl⟩:=List.mem_map.1 hc
 rfl
theorem qbx:∀l:List Int,flat (qab l)=qab l
 | []=>rfl
 | x::l=>by
  show flat (.int .i64 x::qab l)=.int .i64 x::qab l
  rw[qbe,qbx l];rfl
theorem qb0 {H:Heap}{id ty n tot:Nat}(l:List Int)(hb:H id=.live ⟨ty,qab l⟩)(hn:n=l.length)(ht:tot=l.length):Frz H (.sl id tot 0 0 n) (.list (qab l)):=by
 subst hn ht
 refine Frz.sl hb (qah l) (by simp[esz]) (qah l) (qek l) (by rw[qbx];exact qgd l) fun k hk=>?_
 rw[qbx,Nat.zero_add]
 exact .same (qbb (qae _ l) k)
theorem qeZ {H:Heap}{id:Nat}{s:Slot}(h:H id=s)(hs:s≠.free)(hcl:s.cl (fun i=>decide (i∈[id]))=true):qcY H [(id,s)]:=by
 intro p hp1
 rw[List.mem_singleton] at hp1
 subst hp1
 have e:hp [(id,s)] id=s:=by simp[hp,Heap.upd,Heap.set]
 exact⟨hs,by rw[e];exact h,by rw[e];exact hcl⟩
def orL:List Int→Int
 | []=>0
 | x::l=>if x≠0 then x else orL l
theorem qsj (xs:List Int)(hl:xs.length≤1000000)(Q:IExit→(Nat→T)→Heap→Prop):∀(rest pre:List Int) (i:Nat),xs=pre++rest→pre.length=i→
 (orL rest=0→∀i:Int,Q (.exit 0) (ofL [(3,.int .i64 0),(6,.list (qab xs)),(7,.int .i64 (qab xs).length),(8,.int .i64 i),(9,.bool false)]) (hpL []))→
 (orL rest≠0→Q .ret (ofL [(2,.int .i64 (orL rest))]) (hpL []))→
 WL Tryz.prog 18 qnf (ofL [(3,.int .i64 0),(6,.list (qab xs)),(7,.int .i64 (qab xs).length),(8,.int .i64 i)]) (hpL []) Q:=by
 intro rest
 induction rest with
 | nil=>
  intro pre i he hn hQ0 hQ1
  have hd:decide ((i:Int)<((qab xs).length:Int))=false:=by simp[qah,he,hn]
  refine qaa qnf.eq_1 ?_
  refine wN ?_
  refine wR0 300 [3,6,7,8,9] @hd ?_
  refine wN ?_
  refine qaj (eV cJ0) ?_
  simp only[Bool.false_eq_true,if_false]
  refine wN ?_
  refine qbE ?_
  (try simp only[thn])
  exact hQ0 rfl _
 | cons k rest ih=>
  intro pre i he hn hQ0 hQ1
  have hlt:(i:Int)<((qab xs).length:Int):=by simp[qah,he];omega
  have hlb:i≤1000000:=by rw[he] at hl;simp at hl;omega
  have hd:decide ((i:Int)<((qab xs).length:Int))=true:=decide_eq_true hlt
  have hg:(qab xs).getD (i:Int).toNat .undef=.int .i64 k:=by rw[Int.toNat_natCast,he,←hn];exact qc4 _ _ _
  have hw:IntKind.wrap .i64 ((i:Int)+1)=(i:Int)+1:=wrap64 (by omega) (by omega)
  refine qaa qnf.eq_1 ?_
  refine wN ?_
  refine wR0 300 [3,6,7,8,9] @hd ?_
  refine wN ?_
  refine qaj (eV cJ0) ?_
  simp only[if_true]
  refine wN ?_
  refine wR0 400 [3,5,6,7,8] @hg ?_
  refine wN ?_
  refine wR0 500 [3,5,6,7,8,14] cJ0 ?_
  refine wN ?_
  by_cases hc:k=0
  ·have hb:(k != 0)=false:=by simp[hc]
   refine qaj (eV cJ0) ?_
   simp only[hb,Bool.false_eq_true,if_false]
   refine wN ?_
   refine wR0 700 [3,6,7,8] @hw ?_
   refine wN ?_
   have:=ih (pre++[k]) (i+1) (by simp[he]) (by simp;omega) (by simpa [orL,hc] using hQ0) (by simpa [orL,hc] using hQ1)
   simpa using this
  ·have hb:(k != 0)=true:=by simp[hc]
   refine qaj (eV cJ0) ?_
   simp only[hb,if_true]
   refine wN ?_
   refine wR0 600 [2] cJ0 ?_
   refine wN ?_
   refine qaE ?_
   (try simp only[thn,inB])
   have:=hQ1 (by simp[orL,hc])
   simpa [orL,hc] using this
theorem cor_tp (xs:List Int)(hl:xs.length≤1000000):TP Tryz.prog 75 [.list (qab xs)] (.int .i64 (orL xs)):=by
 refine qan fn75 (by simp) ?_
 unfold i75
 simp only[argL]
 refine wN ?_
 refine wR0 0 [0] cJ0 ?_
 refine wN ?_
 refine wR0 100 [0,3] cJ0 ?_
 refine wN ?_
 refine wR0 200 [3,6,7,8] cJ0 ?_
 refine wN ?_
 refine qbN ?_
 refine qsj xs hl _ xs [] 0 rfl rfl ?_ ?_
 ·intro h i
  simp only[inB,if_true,thn]
  refine wR0 800 [2] cJ0 ?_
  refine wN ?_
  refine qaE ?_
  (try simp only)
  exact⟨by simp,_,rfl,by exact qaW h.symm⟩
 ·intro h
  simp only[inB,thn]
  exact⟨by simp,_,rfl,.same rfl⟩
theorem qot (most:Int)(hm0:0≤most)(hm1:most≤1000000)(N:Int)(ks:List V)(hl:ks.length≤1000000)(Q:IExit→(Nat→T)→Heap→Prop):∀(rest pre:List V) (i:Nat) (n:Int),ks=pre++rest→pre.length=i→1≤n→n≤most+1→
 (∀k∈rest,∀m:Int,0≤m→m≤1000000→TP Tryz.prog 159 [encV k,.int .i64 m] (.int .i64 (qbt k m)))→
 (∀l H,ofL l 5=.int .i64 (qcI rest n most)→Q (.exit 0) (ofL l) H)→
 WL Tryz.prog 27 qjs (ofL [(1,.int .i64 most),(5,.int .i64 n),(9,.list (qac ks)),(10,.int .i64 (qac ks).length),(11,.int .i64 i)]) (hpL [(0,.live ⟨25,[.int .i64 N,.list (qac ks)]⟩)]) Q:=by
 intro rest
 induction rest with
 | nil=>
  intro pre i n he hn h1 h2 hk hQ
  have hd:decide ((i:Int)<((qac ks).length:Int))=false:=by simp[qag,he,hn]
  refine qaa qjs.eq_1 ?_
  refine W_gc ?_
  refine wN ?_
  refine wR0 300 [1,5,9,10,11,12] @hd ?_
  refine wN ?_
  refine qaj (eV cJ0) ?_
  simp only[Bool.false_eq_true,if_false]
  refine wN ?_
  refine qbE ?_
  (try simp only[thn])
  exact hQ _ _ rfl
 | cons k rest ih=>
  intro pre i n he hn h1 h2 hk hQ
  rcases k with⟨a,bs⟩
  have hlt:(i:Int)<((qac ks).length:Int):=by simp[qag,he];omega
  have hlb:i≤1000000:=by rw[he] at hl;simp at hl;omega
  have hd:decide ((i:Int)<((qac ks).length:Int))=true:=decide_eq_true hlt
  have hg:(qac ks).getD (i:Int).toNat .undef=.agg [.int .i64 a,.list (qac bs)]:=by rw[Int.toNat_natCast,he,←hn];exact qaU _ (.mk a bs) _
  have hw:IntKind.wrap .i64 ((i:Int)+1)=(i:Int)+1:=wrap64 (by omega) (by omega)
  refine qaa qjs.eq_1 ?_
  refine W_gc ?_
  refine wN ?_
  refine wR0 300 [1,5,9,10,11,12] @hd ?_
  refine wN ?_
  refine qaj (eV cJ0) ?_
  simp only[if_true]
  refine wN ?_
  refine wR0 400 [1,5,7,9,10,11] @hg ?_
  refine wN ?_
  refine wR0 500 [1,5,7,9,10,11,17] cJ0 ?_
  refine wN ?_
  by_cases hc:n≤most
  ·have hb:decide (n > most)=false:=by simp;omega
   have hsz:=size_le (.mk a bs) (most - n) (by omega)
   have hw1:IntKind.wrap .i64 (most - n)=most - n:=wrap64 (by omega) (by omega)
   have hw2:IntKind.wrap .i64 (n+qbt (.mk a bs) (most - n))=n+qbt (.mk a bs) (most - n):=wrap64 (by omega) (by omega)
   refine qaj (eV cJ0) ?_
   simp only[hb,Bool.false_eq_true,if_false]
   refine wN ?_
   have fX:=(cJ2 @hw1 @hw2)
   refine wRn 600 [1,5,9,10,11] fX ?_
   refine rC fX ?_
   refine⟨_,hk (.mk a bs) (List.mem_cons_self ..) (most - n) (by omega) (by omega),rE fX ?_⟩
   refine wN ?_
   refine wR0 700 [1,5,9,10,11] @hw ?_
   refine wN ?_
   refine qaC [0] (by simp[inL]) (by simp[T.cl]) (by simp[qam,inL,Slot.cl,T.cl,clL]) ?_
   have:=ih (pre++[.mk a bs]) (i+1) (n+qbt (.mk a bs) (most - n)) (by simp[he]) (by simp;omega) (by omega) (by omega) (fun k' hk'=>hk k' (List.mem_cons_of_mem _ hk')) (by simpa [qcI,hc] using hQ)
   simpa [qam,inL] using this
  ·have hb:decide (n > most)=true:=by simp;omega
   refine qaj (eV cJ0) ?_
   simp only[hb,if_true]
   refine wN ?_
   refine qbE ?_
   (try simp only[thn,inB])
   exact hQ _ _ (by simp[ofL,qcI,hc])
theorem qi3:∀(v:V) (most:Int),v.fit→0≤most→most≤1000000→TP Tryz.prog 159 [encV v,.int .i64 most] (.int .i64 (qbt v most))
 | .mk N ks,most,hv,h0,h1=>by
  have hv':=V.fit_kids hv
  simp only[V.kids] at hv'
  refine qan fn159 (by simp) ?_
  unfold i159
  simp only[argL,encV]
  refine wN ?_
  refine wR0 0 [1,2] cJ0 ?_
  refine wN ?_
  refine wR0 100 [1,2,5] cJ0 ?_
  refine wN ?_
  refine wR0 200 [1,5,9,10,11] cJ0 ?_
  refine wN ?_
  refine qbN ?_
  refine qot most h0 h1 N ks hv'.1 _ ks [] 0 1 rfl rfl (by omega) (by omega) (fun k hk m hm0 hm1=>qi3 k m (hv'.2 k hk) hm0 hm1) ?_
  intro l H h5
  simp only[inB,if_true,thn]
  refine wR0 800 [4] @h5 ?_
  refine wN ?_
  refine qaE ?_
  (try simp only)
  exact⟨by simp,_,rfl,by exact qaW (by simp only[qbt])⟩
termination_by v=>SizeOf.sizeOf v
decreasing_by exact qcR hk N
def qgy (v:V):Int:=if qbt v 128 > 128 then 129 else qbt v 128
theorem qnF (v:V)(hv:v.fit):TP Tryz.prog 111 [encV v] (.int .i64 (qgy v)):=by
 rcases v with⟨N,ks⟩
 have hb:=size_le (.mk N ks) 128 (by omega)
 refine qan fn111 (by simp) ?_
 unfold i111
 simp only[argL,encV]
 refine wN ?_
 refine wR0 0 [1] cJ0 ?_
 refine wN ?_
 refine wRn 100 [2] cJ0 ?_
 refine rC cJ0 ?_
 refine⟨_,qi3 (.mk N ks) 128 hv (by omega) (by omega),rE cJ0 ?_⟩
 refine wN ?_
 refine qaE ?_
 (try simp only)
 exact⟨by simp,_,rfl,by exact qaW (by unfold qgy;split<;>split<;>omega)⟩
def cmpF:List V→List V→Int
 | [],[]=>0
 | [],_::_ => -1
 | _::_,[]=>1
 | k::ks,l::ls=>if cmpV k l≠0 then cmpV k l else cmpF ks ls
theorem qpL:∀(ks ls:List V),ks.length=ls.length→cmpF ks ls=cmpL ks ls
 | [],[],_=>rfl
 | k::ks,l::ls,h=>by simp only[cmpF,cmpL];rw[qpL ks ls (by simpa using h)]
theorem qpM (f:FuncId)(xs ys:List V)(hl:xs.length≤1000000)(Q:IExit→(Nat→T)→Heap→Prop):∀(r s pre qre:List V) (i:Nat),xs=pre++r→ys=qre++s→pre.length=i→qre.length=i→
 (∀k∈r,∀l∈s,TP Tryz.prog f [encV k,encV l] (.int .i64 (cmpV k l)))→
 (∀i:Int,(r.length≤s.length∧cmpF r s=if r.length<s.length then -1 else 0)→Q (.exit 0) (ofL [(0,.list (qac xs)),(1,.list (qac ys)),(2,.fn f []),(11,.list (qac xs)),(12,.int .i64 (qac xs).length),(13,.int .i64 i),(14,.bool false)]) (hpL []))→
 (∀H,Q .ret (ofL [(6,.int .i64 (cmpF r s))]) H)→
 WL Tryz.prog 39 qng (ofL [(0,.list (qac xs)),(1,.list (qac ys)),(2,.fn f []),(11,.list (qac xs)),(12,.int .i64 (qac xs).length),(13,.int .i64 i)]) (hpL []) Q:=by
 intro r
 induction r with
 | nil=>
  intro s pre qre i he he' hp hq hk hQ0 hQ1
  have hd:decide ((i:Int)<((qac xs).length:Int))=false:=by simp[qag,he,hp]
  refine qaa qng.eq_1 ?_
  refine W_gc ?_
  refine wN ?_
  refine wR0 200 [0,1,2,11,12,13,14] @hd ?_
  refine wN ?_
  refine qaj (eV cJ0) ?_
  simp only[Bool.false_eq_true,if_false]
  refine wN ?_
  refine qbE ?_
  (try simp only[thn])
  exact hQ0 _ ⟨by simp,by cases s<;>simp[cmpF]⟩
 | cons k r ih=>
  intro s pre qre i he he' hp hq hk hQ0 hQ1
  rcases k with⟨a,as'⟩
  have hlt:(i:Int)<((qac xs).length:Int):=by simp[qag,he];omega
  have hlb:i≤1000000:=by rw[he] at hl;simp at hl;omega
  have hd:decide ((i:Int)<((qac xs).length:Int))=true:=decide_eq_true hlt
  have hg1:(qac xs).getD (i:Int).toNat .undef=.agg [.int .i64 a,.list (qac as')]:=by rw[Int.toNat_natCast,he,←hp];exact qaU _ (.mk a as') _
  have hw:IntKind.wrap .i64 ((i:Int)+1)=(i:Int)+1:=wrap64 (by omega) (by omega)
  refine qaa qng.eq_1 ?_
  refine W_gc ?_
  refine wN ?_
  refine wR0 200 [0,1,2,11,12,13,14] @hd ?_
  refine wN ?_
  refine qaj (eV cJ0) ?_
  simp only[if_true]
  refine wN ?_
  refine wR0 300 [0,1,2,7,8,11,12,13] @hg1 ?_
  refine wN ?_
  refine wR0 400 [0,1,2,7,8,11,12,13,21] cJ0 ?_
  refine wN ?_
  cases s with
  | nil=>
   have hge:decide ((i:Int)≥((qac ys).length:Int))=true:=by simp[qag,he',hq]
   refine qaj (eV cJ0) ?_
   simp only[hge,if_true]
   refine wN ?_
   refine wR0 500 [6] cJ0 ?_
   refine wN ?_
   refine qaE ?_
   (try simp only[thn,inB])
   exact hQ1 _
  | cons l s=>
   rcases l with⟨b,cs⟩
   have hlt2:(i:Int)<((qac ys).length:Int):=by simp[qag,he'];omega
   have hge:decide ((i:Int)≥((qac ys).length:Int))=false:=decide_eq_false (by omega)
   have hg2:(qac ys).getD (i:Int).toNat .undef=.agg [.int .i64 b,.list (qac cs)]:=by rw[Int.toNat_natCast,he',←hq];exact qaU _ (.mk b cs) _
   refine qaj (eV cJ0) ?_
   simp only[hge,Bool.false_eq_true,if_false]
   refine wN ?_
   refine wR0 600 [0,1,2,8,9,11,12,13] @hg2 ?_
   refine wN ?_
   apply W_r 700 [0,1,2,10,11,12,13] (by rfl)
   ·refine rN cJ0 ?_
    apply qe1
    ·rfl
    ·exact eV cJ0
    ·exact eV cJ0
    ·exact hk (.mk a as') (List.mem_cons_self ..) (.mk b cs) (List.mem_cons_self ..)
    ·exact fRo
    refine rN cJ0 ?_
    exact rFi
   ·exact eV cJ0
   simp only[thn]
   refine wR0 800 [0,1,2,10,11,12,13,31] cJ0 ?_
   refine wN ?_
   by_cases hc:cmpV (.mk a as') (.mk b cs)=0
   ·have hb:(cmpV (.mk a as') (.mk b cs) != 0)=false:=by simp[hc]
    refine qaj (eV cJ0) ?_
    simp only[hb,Bool.false_eq_true,if_false]
    refine wN ?_
    refine wR0 1000 [0,1,2,11,12,13] @hw ?_
    refine wN ?_
    refine qaC [] (by simp) (by simp[T.cl,clL]) (by simp[qam,inL]) ?_
    have e:cmpF (.mk a as'::r) (.mk b cs::s)=cmpF r s:=by simp[cmpF,hc]
    rw[e] at hQ0 hQ1
    have:=ih s (pre++[.mk a as']) (qre++[.mk b cs]) (i+1) (by simp[he]) (by simp[he']) (by simp;omega) (by simp;omega) (fun k' hk' l' hl'=>hk k' (List.mem_cons_of_mem _ hk') l' (List.mem_cons_of_mem _ hl')) (fun i h=>hQ0 i (by simpa using h)) hQ1
    simpa [qam,inL] using this
   ·have hb:(cmpV (.mk a as') (.mk b cs) != 0)=true:=by simp[hc]
    have e:cmpF (.mk a as'::r) (.mk b cs::s)=cmpV (.mk a as') (.mk b cs):=by simp[cmpF,hc]
    refine qaj (eV cJ0) ?_
    simp only[hb,if_true]
    refine wN ?_
    refine wR0 900 [6] cJ0 ?_
    refine wN ?_
    refine qaE ?_
    (try simp only[thn,inB])
    rw[←e]
    exact hQ1 _
theorem qus (f:FuncId)(xs ys:List V)(hl:xs.length≤1000000)(hk:∀k∈xs,∀l∈ys,TP Tryz.prog f [encV k,encV l] (.int .i64 (cmpV k l))):TP Tryz.prog 77 [.list (qac xs),.list (qac ys),.fn f []] (.int .i64 (cmpF xs ys)):=by
 refine qan fn77 (by simp) ?_
 unfold i77
 simp only[argL]
 refine wN ?_
 refine wR0 0 [0,1,2] cJ0 ?_
 refine wN ?_
 refine wR0 100 [0,1,2,11,12,13] cJ0 ?_
 refine wN ?_
 refine qbN ?_
 refine qpM f xs ys hl _ xs ys [] [] 0 rfl rfl rfl rfl hk ?_ ?_
 ·intro i h
  simp only[inB,if_true,thn]
  refine wR0 1100 [38] cJ0 ?_
  refine wN ?_
  rcases hc:decide (((qac xs).length:Int)<((qac ys).length:Int)) with _ | _
  ·refine qaj (eV cJ0) ?_
   simp only[Bool.false_eq_true,if_false]
   refine wN ?_
   refine wR0 1300 [6] cJ0 ?_
   refine wN ?_
   refine qaE ?_
   (try simp only)
   exact⟨by simp,_,rfl,by exact qaW (by simp[qag] at hc;rw[h.2,if_neg (by omega)])⟩
  ·refine qaj (eV cJ0) ?_
   simp only[if_true]
   refine wN ?_
   refine wR0 1200 [6] cJ0 ?_
   refine wN ?_
   refine qaE ?_
   (try simp only[thn])
   exact⟨by simp,_,rfl,by exact qaW (by simp[qag] at hc;rw[h.2,if_pos (by omega)])⟩
 ·intro H
  simp only[inB,thn]
  exact⟨by simp,_,rfl,.same rfl⟩
theorem orL3 (A B:Int)(xs ys:List V):orL [ordI A B,ordI xs.length ys.length,cmpF xs ys]=cmpV (.mk A xs) (.mk B ys):=by
 simp only[orL,cmpV,ordI]
 by_cases h1:A=B
 ·subst h1
  by_cases h2:xs.length=ys.length
  ·simp[h2,qpL xs ys h2];exact fun h=>h.symm
  ·simp[h2]
   split
   ·simp
   ·split
    ·simp
    ·omega
 ·simp[h1]
  split
  ·simp
  ·split
   ·simp
   ·omega
theorem qjI:∀(v u:V),v.fit→u.fit→TP Tryz.prog 44 [encV v,encV u] (.int .i64 (cmpV v u))
 | .mk A xs,.mk B ys,hv,hu=>by
  have hv':=V.fit_kids hv
  have hu':=V.fit_kids hu
  simp only[V.kids] at hv' hu'
  have hrep:List.drop 1 (List.drop 1 (List.drop 1 (repl 3 [T.int .i64 0])))=[]:=rfl
  have hf:=qus 44 xs ys hv'.1 (fun k hk l hl=>qjI k l (hv'.2 k hk) (hu'.2 l hl))
  refine qan fn44 (by simp) ?_
  unfold i44
  simp only[argL,encV]
  refine wN ?_
  refine wR0 0 [2,3] cJ0 ?_
  refine wN ?_
  apply W_r 100 [4] (by rfl)
  ·refine rN cJ0 ?_
   apply qdP
   ·rfl
   ·exact eV cJ0
   ·exact qpH A B
   ·exact fRo
   refine rN cJ0 ?_
   apply qdP
   ·rfl
   ·exact eV cJ0
   ·exact qpH _ _
   ·exact fRo
   refine rN cJ0 ?_
   apply qdP
   ·rfl
   ·exact eV cJ0
   ·exact hf
   ·exact fRo
   refine rN @hrep ?_
   apply qez [(117,.live ⟨3,qab [ordI A B,ordI (qac xs).length (qac ys).length,cmpF xs ys]⟩)]
   ·rfl
   ·exact eV cJ0
   ·exact qeZ rfl (by simp) (by simp[Slot.cl])
   ·exact FrzL.cons (qb0 [ordI A B,ordI (qac xs).length (qac ys).length,cmpF xs ys] rfl rfl rfl) FrzL.nil
   ·exact cor_tp [ordI A B,ordI (qac xs).length (qac ys).length,cmpF xs ys] (by simp)
   ·rfl
   ·simp[clL,T.cl]
   refine rN cJ0 ?_
   exact qnR (by intro _;first | (simp[qbg,List.pairwise_cons,chkP];done) | (simp[qbg,List.pairwise_cons,chkP,Nat.testBit];done))
  ·exact eV cJ0
  simp only[thn]
  refine qaE ?_
  (try simp only)
  exact⟨by simp,_,rfl,by exact qaW (by rw[qag,qag];exact orL3 A B xs ys)⟩
termination_by v=>SizeOf.sizeOf v
decreasing_by exact qcR hk A
end
end Go.Proofs.YtpplncjaihgimaaGreat
