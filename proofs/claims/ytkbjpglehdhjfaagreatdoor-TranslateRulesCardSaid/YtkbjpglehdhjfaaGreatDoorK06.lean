/- Contracts of functions of the program, for all arguments that they name. -/
import Derived.Test.YtkbjpglehdhjfaaGreatDoorK05
namespace Go.Proofs.YtkbjpglehdhjfaaGreatDoor
set_option linter.unusedVariables false
section
open Go.RowKit
set_option maxHeartbeats 2000000
theorem qeJ:∀ {ps:List Ty} {d:Int},qbi ps d=true→∀p∈ps,qaM p d=true
 | [],_,_,p,hp=>by cases hp
 | x::ps,d,h,p,hp=>by
  simp only[qbi,Bool.and_eq_true] at h
  rcases List.mem_cons.1 hp with rfl | hp
  ·exact h.1
  ·exact qeJ h.2 p hp
theorem qiZ {s d:Int}{rs:List Int}{ps:List Ty}(h:qaM (.mk 3 s rs ps) d=true):qbi ps (d - 1)=true∧ps.length≤8:=by
 simp only[qaM] at h
 split at h
 ·cases h
 split at h
 ·cases h
 simp at h
 exact⟨h.2,by omega⟩
theorem qgw {k s d:Int}{rs:List Int}{ps:List Ty}(hk:k=4∨k=5)(h:qaM (.mk k s rs ps) d=true):∃p,ps=[p]∧qaM p (d - 1)=true:=by
 simp only[qaM] at h
 rw[if_neg (show ¬k=1 by omega),if_neg (show ¬(k=2∨k=6) by omega),if_neg (show ¬k=7 by omega),if_pos hk] at h
 split at h
 ·cases h
 split at h
 ·cases h
 simp at h
 obtain⟨p,rfl⟩:=List.length_eq_one_iff.1 (show ps.length=1 by omega)
 exact⟨p,rfl,by simpa [qbi] using h.2⟩
theorem qiY {k s d:Int}{rs:List Int}{ps:List Ty}(h:qaM (.mk k s rs ps) d=true)(h1:k≠1)(h2:k≠2)(h6:k≠6)(h3:k≠3):k=7∨k=4∨k=5:=by
 refine Decidable.byContradiction fun hc=>?_
 have h26:¬(k=2∨k=6):=by omega
 have h45:¬(k=4∨k=5):=by omega
 have h7:¬k=7:=by omega
 simp only[qaM,if_neg h1,if_neg h26,if_neg h7,if_neg h45,if_neg h3] at h
 split at h<;>simp at h
set_option maxHeartbeats 4000000 in
theorem qul:∀(t:Ty) (v:V) (d:Int),t.fit→v.fit→qaM t d=true→TP Tryz.prog 95 [qaz t,encV v] (.bool (ofV t v))
 | .mk k s rs ps,.mk n ks,d,ht,hv,hval=>by
  obtain⟨hf1,hf2,hf3⟩:=Ty.fit_all ht
  have hv':=V.fit_kids hv
  simp only[V.kids] at hv'
  refine qag fn95 (by simp) ?_
  unfold i95
  simp only[argL,encV,qaz]
  refine wN ?_
  refine wR0 0 [2,3] cJ0 ?_
  refine wN ?_
  refine wR0 100 [2,3,8] cJ0 ?_
  refine wN ?_
  refine wR0 200 [2,3,8,9] cJ0 ?_
  refine wN ?_
  by_cases k1:k=1
  ·have k1b:(k==1)=true:=by simp[k1]
   refine qan (eV cJ0) ?_
   simp only[k1b,if_true]
   refine wN ?_
   refine wR0 300 [4] cJ0 ?_
   refine wN ?_
   refine qaW ?_
   (try simp only[thn,inB])
   exact⟨by simp,_,rfl,by exact qac (by simp only[ofV,if_pos k1,V.n,V.kids,qal];rfl)⟩
  have k1b:(k==1)=false:=by simp[k1]
  refine qan (eV cJ0) ?_
  simp only[k1b,Bool.false_eq_true,if_false]
  refine wN ?_
  refine wR0 400 [2,3,8,25] cJ0 ?_
  refine wN ?_
  by_cases k2:k=2
  ·have k2b:(k==2)=true:=by simp[k2]
   refine qan (eV cJ0) ?_
   simp only[k2b,if_true]
   refine wN ?_
   refine wR0 500 [4] cJ0 ?_
   refine wN ?_
   refine qaW ?_
   (try simp only[thn,inB])
   exact⟨by simp,_,rfl,by exact qac (by simp only[ofV,if_neg k1,if_pos k2,V.n,V.kids,qal];rfl)⟩
  have k2b:(k==2)=false:=by simp[k2]
  refine qan (eV cJ0) ?_
  simp only[k2b,Bool.false_eq_true,if_false]
  refine wN ?_
  refine wR0 600 [2,3,8,43] cJ0 ?_
  refine wN ?_
  by_cases k6:k=6
  ·have k6b:(k==6)=true:=by simp[k6]
   refine qan (eV cJ0) ?_
   simp only[k6b,if_true]
   refine wN ?_
   rcases hs:decide (qcb (.mk n ks) 12≤12) with _ | _
   ·refine wRn 700 [4] @hs ?_
    refine rC @hs ?_
    refine⟨_,qh5 (.mk n ks) 12 hv (by omega) (by omega),rE @hs ?_⟩
    refine wN ?_
    refine qaW ?_
    (try simp only[thn,inB])
    exact⟨by simp,_,rfl,by exact qac (by simp only[ofV,if_neg k1,if_neg k2,if_pos k6,hs,Bool.false_and])⟩
   ·refine wRn 700 [4] @hs ?_
    refine rC @hs ?_
    refine⟨_,qh5 (.mk n ks) 12 hv (by omega) (by omega),rN @hs ?_⟩
    refine rC @hs ?_
    refine⟨_,qmZ (.mk n ks) s hv,rE @hs ?_⟩
    refine wN ?_
    refine qaW ?_
    (try simp only[thn,inB])
    exact⟨by simp,_,rfl,by exact qac (by simp only[ofV,if_neg k1,if_neg k2,if_pos k6,hs,Bool.true_and])⟩
  have k6b:(k==6)=false:=by simp[k6]
  refine qan (eV cJ0) ?_
  simp only[k6b,Bool.false_eq_true,if_false]
  refine wN ?_
  refine wR0 800 [2,3,54] cJ0 ?_
  refine wN ?_
  by_cases k3:k=3
  ·have k3b:(k==3)=true:=by simp[k3]
   have e3:ofV (.mk k s rs ps) (.mk n ks)=((n==0)&&((ks.length:Int)==ps.length)&&qd2 ps ks):=by simp only[ofV,if_neg k1,if_neg k2,if_neg k6,if_pos k3,V.n,V.kids]
   refine qan (eV cJ0) ?_
   simp only[k3b,if_true]
   refine wN ?_
   refine wR0 900 [2,3,67] cJ0 ?_
   refine wN ?_
   rcases hall:((n != 0) || (((qaj ks).length:Int) != ((qam ps).length:Int))) with _ | _
   ·refine qan (eV cJ0) ?_
    simp only[Bool.false_eq_true,if_false]
    refine wN ?_
    refine wR0 1100 [2,3,5] cJ0 ?_
    refine wN ?_
    refine qdx ?_
    simp only[qap,qal,Bool.or_eq_false_iff,bne_eq_false_iff_eq] at hall
    have hvp:=qiZ (by rw[k3] at hval;exact hval)
    refine qtf k s n rs ps ks hf2 (by omega) _ ks [] ps [] 0 rfl rfl rfl rfl (fun t hk u hu=>qul t u (d - 1) (hf3 t hk) (hv'.2 u hu) (qeJ hvp.1 t hk)) ?_ ?_
    ·intro h i
     simp only[inB,if_true,thn]
     refine wR0 1600 [4] cJ0 ?_
     refine wN ?_
     refine qaW ?_
     (try simp only[thn,inB])
     exact⟨by simp,_,rfl,by exact qac (by rw[e3,h];simp[hall])⟩
    ·intro h
     simp only[inB,thn]
     exact⟨by simp,_,rfl,qac (by simp[e3,h])⟩
   ·refine qan (eV cJ0) ?_
    simp only[if_true]
    refine wN ?_
    refine wR0 1000 [4] cJ0 ?_
    refine wN ?_
    refine qaW ?_
    (try simp only[thn,inB])
    exact⟨by simp,_,rfl,by exact qac (by simp only[qap,qal,bne] at hall;rw[e3];revert hall;cases (n==0)<;>cases ((ks.length:Int)==ps.length)<;>simp)⟩
  have k3b:(k==3)=false:=by simp[k3]
  have e0:ofV (.mk k s rs ps) (.mk n ks)=((n==0)&&!decide ((ks.length:Int) > 12)&&(if k=7 then !ks.any (qce s) else qgG ps ks&&(!(k==5) || qbW ks))):=by simp only[ofV,if_neg k1,if_neg k2,if_neg k6,if_neg k3,V.n,V.kids];rfl
  refine qan (eV cJ0) ?_
  simp only[k3b,Bool.false_eq_true,if_false]
  refine wN ?_
  refine wR0 1700 [2,3,95] cJ0 ?_
  refine wN ?_
  rcases hall:((n != 0) || decide (((qaj ks).length:Int) > 12)) with _ | _
  ·refine qan (eV cJ0) ?_
   simp only[Bool.false_eq_true,if_false]
   refine wN ?_
   refine wR0 1900 [2,3,6] cJ0 ?_
   refine wN ?_
   refine qdx ?_
   simp only[qal,Bool.or_eq_false_iff,bne_eq_false_iff_eq] at hall
   by_cases k7:k=7
   ·subst k7
    refine qlA s n rs ps ks hv'.1 _ ks [] 0 rfl rfl ?_ ?_
    ·intro h i
     simp only[inB,if_true,thn]
     refine wR0 2700 [4] cJ0 ?_
     refine wN ?_
     refine qaW ?_
     (try simp only)
     exact⟨by simp,_,rfl,by exact qac (by rw[e0,h];simp[hall])⟩
    ·intro h
     simp only[inB,thn]
     exact⟨by simp,_,rfl,qac (by rw[e0,h];simp)⟩
   ·have h45:k=4∨k=5:=(qiY hval k1 k2 k6 k3).resolve_left k7
    obtain⟨p,hp,hvp⟩:=qgw h45 hval
    have hk:p∈ps:=by simp[hp]
    have ebag:bagL p (k==5) none ks=(qgG ps ks&&(!(k==5) || qbW ks)):=by rw[qoF,hp];rfl
    refine qrt k s n k7 rs ps p hp ks hv'.1 hv'.2 _ ks [] 0 rfl rfl (fun u hu=>qul p u (d - 1) (hf3 p hk) (hv'.2 u hu) hvp) ?_ ?_
    ·intro h i
     have h':(qgG ps ks&&(!(k==5) || qbW ks))=true:=by rw[←ebag];exact h
     simp only[inB,if_true,thn]
     refine wR0 2700 [4] cJ0 ?_
     refine wN ?_
     refine qaW ?_
     (try simp only)
     exact⟨by simp,_,rfl,by exact qac (by rw[e0,if_neg k7,h'];simp[hall])⟩
    ·intro h
     have h':(qgG ps ks&&(!(k==5) || qbW ks))=false:=by rw[←ebag];exact h
     simp only[inB,thn]
     exact⟨by simp,_,rfl,qac (by rw[e0,if_neg k7,h'];simp)⟩
  ·refine qan (eV cJ0) ?_
   simp only[if_true]
   refine wN ?_
   refine wR0 1800 [4] cJ0 ?_
   refine wN ?_
   refine qaW ?_
   (try simp only[thn])
   exact⟨by simp,_,rfl,by exact qac (by simp only[qal,bne] at hall;rw[e0];revert hall;cases (n==0)<;>cases decide ((ks.length:Int) > 12)<;>simp)⟩
termination_by t=>SizeOf.sizeOf t
decreasing_by all_goals exact qkb hk k s rs
def qdt (t:Ty)(v:V):Bool:=(qcC t==0)&&decide (qcb v 128≤128)&&ofV t v
theorem qkh {t:Ty}:(qcC t==0)=qaM t 8:=by unfold qcC;cases qaM t 8<;>rfl
theorem qf5 (t:Ty)(v:V)(ht:t.fit)(hv:v.fit):TP Tryz.prog 51 [qaz t,encV v] (.bool (qdt t v)):=by
 rcases t with⟨k,s,rs,ps⟩
 rcases v with⟨n,ks⟩
 refine qag fn51 (by simp) ?_
 unfold i51
 simp only[argL,encV,qaz]
 refine wN ?_
 refine wR0 0 [2,3] cJ0 ?_
 refine wN ?_
 rcases h1:(qcC (.mk k s rs ps)==0) with _ | _
 ·refine wRn 100 [4] @h1 ?_
  refine rC @h1 ?_
  refine⟨_,qi8 (.mk k s rs ps) ht,rE @h1 ?_⟩
  refine wN ?_
  refine qaW ?_
  (try simp only)
  exact⟨by simp,_,rfl,by exact qac (by simp only[qdt,h1,Bool.false_and])⟩
 ·rcases h2:decide (qcb (.mk n ks) 128≤128) with _ | _
  ·have fX:=(cJ2 @h1 @h2)
   refine wRn 100 [4] fX ?_
   refine rC fX ?_
   refine⟨_,qi8 (.mk k s rs ps) ht,rN fX ?_⟩
   refine rC fX ?_
   refine⟨_,qh5 (.mk n ks) 128 hv (by omega) (by omega),rE fX ?_⟩
   refine wN ?_
   refine qaW ?_
   (try simp only)
   exact⟨by simp,_,rfl,by exact qac (by simp only[qdt,h1,h2,Bool.false_and,Bool.and_false])⟩
  ·have fX:=(cJ2 @h1 @h2)
   refine wRn 100 [4] fX ?_
   refine rC fX ?_
   refine⟨_,qi8 (.mk k s rs ps) ht,rN fX ?_⟩
   refine rC fX ?_
   refine⟨_,qh5 (.mk n ks) 128 hv (by omega) (by omega),rN fX ?_⟩
   refine rC fX ?_
   refine⟨_,qul (.mk k s rs ps) (.mk n ks) 8 ht hv (by rw[←qkh];exact h1),rE fX ?_⟩
   refine wN ?_
   refine qaW ?_
   (try simp only)
   exact⟨by simp,_,rfl,by exact qac (by simp only[qdt,h1,h2,Bool.true_and])⟩
def insR (x:V):List V→List V
 | []=>[x]
 | y::ys=>if cmpV x y<0 then y::insR x ys else x::y::ys
theorem qkr (xs ys:List V):qcv (xs++ys)=qcv xs++qcv ys:=by
 induction xs with
 | nil=>rfl
 | cons x xs ih=>simp[qcv,ih]
def qkJ (acc l:List V):List V:=l.foldl (fun acc x=>insR x acc) acc
theorem qhJ (acc l:List V)(x:V):qkJ acc (x::l)=qkJ (insR x acc) l:=rfl
def v0:V:=.mk 0 []
theorem qtw (a:Int):TP Tryz.prog 131 [.int .i64 a] (.bool false):=by
 have h:(a != a)=false:=by simp
 refine qag fn131 (by simp) ?_
 unfold i131
 simp only[argL]
 refine wN ?_
 refine wR0 0 [0] cJ0 ?_
 refine wN ?_
 refine wR0 100 [2] @h ?_
 refine wN ?_
 refine qaW ?_
 (try simp only)
 exact⟨by simp,_,rfl,by exact .same rfl⟩
theorem qoM (a b:Int):TP Tryz.prog 81 [.int .i64 a,.int .i64 b] (.int .i64 (ordI a b)):=by
 refine qag fn81 (by simp) ?_
 unfold i81
 simp only[argL]
 refine wN ?_
 refine wR0 0 [0,1] cJ0 ?_
 refine wN ?_
 refine wRn 100 [0,1,5] cJ0 ?_
 refine rC cJ0 ?_
 refine⟨_,qtw a,rE cJ0 ?_⟩
 refine wN ?_
 refine wRn 200 [0,1,5,6] cJ0 ?_
 refine rC cJ0 ?_
 refine⟨_,qtw b,rE cJ0 ?_⟩
 refine wN ?_
 refine wR0 300 [0,1,6,11] cJ0 ?_
 refine wN ?_
 refine qan (eV cJ0) ?_
 simp only[Bool.false_eq_true,if_false]
 refine wN ?_
 refine wR0 700 [0,1,13] cJ0 ?_
 refine wN ?_
 refine qan (eV cJ0) ?_
 simp only[Bool.false_eq_true,if_false]
 refine wN ?_
 refine wR0 900 [0,1,16] cJ0 ?_
 refine wN ?_
 rcases h1:decide (a<b) with _ | _
 ·refine qan (eV cJ0) ?_
  simp only[Bool.false_eq_true,if_false]
  refine wN ?_
  refine wR0 1100 [19] cJ0 ?_
  refine wN ?_
  rcases h2:decide (a > b) with _ | _
  ·refine qan (eV cJ0) ?_
   simp only[Bool.false_eq_true,if_false]
   refine wN ?_
   refine wR0 1300 [4] cJ0 ?_
   refine wN ?_
   refine qaW ?_
   (try simp only)
   exact⟨by simp,_,rfl,by exact qaC (by simp at h1 h2;unfold ordI;rw[if_neg (by omega),if_neg (by omega)])⟩
  ·refine qan (eV cJ0) ?_
   simp only[if_true]
   refine wN ?_
   refine wR0 1200 [4] cJ0 ?_
   refine wN ?_
   refine qaW ?_
   (try simp only[thn])
   exact⟨by simp,_,rfl,by exact qaC (by simp at h1 h2;unfold ordI;rw[if_neg (by omega),if_pos (by omega)])⟩
 ·refine qan (eV cJ0) ?_
  simp only[if_true]
  refine wN ?_
  refine wR0 1000 [4] cJ0 ?_
  refine wN ?_
  refine qaW ?_
  (try simp only[thn])
  exact⟨by simp,_,rfl,by exact qaC (by simp at h1;unfold ordI;rw[if_pos h1])⟩
theorem qiv (l:List Int):Ones (qad l):=fun c hc=>by
 obtain⟨x,_,rfl⟩:=List.mem_map.1 hc
 rfl
theorem qgz (l:List Int):qc3 (esz 0) (qad l):=fun c hc=>by
 obtain⟨x,_,rfl⟩:=List.mem_map.1 hc
 rfl
theorem qb7:∀l:List Int,flat (qad l)=qad l
 | []=>rfl
 | x::l=>by
  show flat (.int .i64 x::qad l)=.int .i64 x::qad l
  rw[qbH,qb7 l];rfl
theorem qbn {H:Heap}{id ty n tot:Nat}(l:List Int)(hb:H id=.live ⟨ty,qad l⟩)(hn:n=l.length)(ht:tot=l.length):Frz H (.sl id tot 0 0 n) (.list (qad l)):=by
 subst hn ht
 refine Frz.sl hb (qae l) (by simp[esz]) (qae l) (qgz l) (by rw[qb7];exact qiv l) fun k hk=>?_
 rw[qb7,Nat.zero_add]
 exact .same (qbk (qah _ l) k)
theorem qe1 {H:Heap}{id:Nat}{s:Slot}(h:H id=s)(hs:s≠.free)(hcl:s.cl (fun i=>decide (i∈[id]))=true):qcK H [(id,s)]:=by
 intro p hp1
 rw[List.mem_singleton] at hp1
 subst hp1
 have e:hp [(id,s)] id=s:=by simp[hp,Heap.upd,Heap.set]
 exact⟨hs,by rw[e];exact h,by rw[e];exact hcl⟩
def orL:List Int→Int
 | []=>0
 | x::l=>if x≠0 then x else orL l
theorem qrE (xs:List Int)(hl:xs.length≤1000000)(Q:IExit→(Nat→T)→Heap→Prop):∀(rest pre:List Int) (i:Nat),xs=pre++rest→pre.length=i→
 (orL rest=0→∀i:Int,Q (.exit 0) (ofL [(3,.int .i64 0),(6,.list (qad xs)),(7,.int .i64 (qad xs).length),(8,.int .i64 i),(9,.bool false)]) (hpL []))→
 (orL rest≠0→Q .ret (ofL [(2,.int .i64 (orL rest))]) (hpL []))→
 WL Tryz.prog 18 qmG (ofL [(3,.int .i64 0),(6,.list (qad xs)),(7,.int .i64 (qad xs).length),(8,.int .i64 i)]) (hpL []) Q:=by
 intro rest
 induction rest with
 | nil=>
  intro pre i he hn hQ0 hQ1
  have hd:decide ((i:Int)<((qad xs).length:Int))=false:=by simp[qae,he,hn]
  refine qaa qmG.eq_1 ?_
  refine wN ?_
  refine wR0 300 [3,6,7,8,9] @hd ?_
  refine wN ?_
  refine qan (eV cJ0) ?_
  simp only[Bool.false_eq_true,if_false]
  refine wN ?_
  refine qcz ?_
  (try simp only[thn])
  exact hQ0 rfl _
 | cons k rest ih=>
  intro pre i he hn hQ0 hQ1
  have hlt:(i:Int)<((qad xs).length:Int):=by simp[qae,he];omega
  have hlb:i≤1000000:=by rw[he] at hl;simp at hl;omega
  have hd:decide ((i:Int)<((qad xs).length:Int))=true:=decide_eq_true hlt
  have hg:(qad xs).getD (i:Int).toNat .undef=.int .i64 k:=by rw[Int.toNat_natCast,he,←hn];exact qcN _ _ _
  have hw:IntKind.wrap .i64 ((i:Int)+1)=(i:Int)+1:=wrap64 (by omega) (by omega)
  refine qaa qmG.eq_1 ?_
  refine wN ?_
  refine wR0 300 [3,6,7,8,9] @hd ?_
  refine wN ?_
  refine qan (eV cJ0) ?_
  simp only[if_true]
  refine wN ?_
  refine wR0 400 [3,5,6,7,8] @hg ?_
  refine wN ?_
  refine wR0 500 [3,5,6,7,8,14] cJ0 ?_
  refine wN ?_
  by_cases hc:k=0
  ·have hb:(k != 0)=false:=by simp[hc]
   refine qan (eV cJ0) ?_
   simp only[hb,Bool.false_eq_true,if_false]
   refine wN ?_
   refine wR0 700 [3,6,7,8] @hw ?_
   refine wN ?_
   have:=ih (pre++[k]) (i+1) (by simp[he]) (by simp;omega) (by simpa [orL,hc] using hQ0) (by simpa [orL,hc] using hQ1)
   simpa using this
  ·have hb:(k != 0)=true:=by simp[hc]
   refine qan (eV cJ0) ?_
   simp only[hb,if_true]
   refine wN ?_
   refine wR0 600 [2] cJ0 ?_
   refine wN ?_
   refine qaW ?_
   (try simp only[thn,inB])
   have:=hQ1 (by simp[orL,hc])
   simpa [orL,hc] using this
theorem cor_tp (xs:List Int)(hl:xs.length≤1000000):TP Tryz.prog 80 [.list (qad xs)] (.int .i64 (orL xs)):=by
 refine qag fn80 (by simp) ?_
 unfold i80
 simp only[argL]
 refine wN ?_
 refine wR0 0 [0] cJ0 ?_
 refine wN ?_
 refine wR0 100 [0,3] cJ0 ?_
 refine wN ?_
 refine wR0 200 [3,6,7,8] cJ0 ?_
 refine wN ?_
 refine qdx ?_
 refine qrE xs hl _ xs [] 0 rfl rfl ?_ ?_
 ·intro h i
  simp only[inB,if_true,thn]
  refine wR0 800 [2] cJ0 ?_
  refine wN ?_
  refine qaW ?_
  (try simp only)
  exact⟨by simp,_,rfl,by exact qaC h.symm⟩
 ·intro h
  simp only[inB,thn]
  exact⟨by simp,_,rfl,.same rfl⟩
def cmpF:List V→List V→Int
 | [],[]=>0
 | [],_::_ => -1
 | _::_,[]=>1
 | k::ks,l::ls=>if cmpV k l≠0 then cmpV k l else cmpF ks ls
theorem qoQ:∀(ks ls:List V),ks.length=ls.length→cmpF ks ls=cmpL ks ls
 | [],[],_=>rfl
 | k::ks,l::ls,h=>by simp only[cmpF,cmpL];rw[qoQ ks ls (by simpa using h)]
theorem qoR (f:FuncId)(xs ys:List V)(hl:xs.length≤1000000)(Q:IExit→(Nat→T)→Heap→Prop):∀(r s pre qre:List V) (i:Nat),xs=pre++r→ys=qre++s→pre.length=i→qre.length=i→
 (∀k∈r,∀l∈s,TP Tryz.prog f [encV k,encV l] (.int .i64 (cmpV k l)))→
 (∀i:Int,(r.length≤s.length∧cmpF r s=if r.length<s.length then -1 else 0)→Q (.exit 0) (ofL [(0,.list (qaj xs)),(1,.list (qaj ys)),(2,.fn f []),(11,.list (qaj xs)),(12,.int .i64 (qaj xs).length),(13,.int .i64 i),(14,.bool false)]) (hpL []))→
 (∀H,Q .ret (ofL [(6,.int .i64 (cmpF r s))]) H)→
 WL Tryz.prog 39 qmH (ofL [(0,.list (qaj xs)),(1,.list (qaj ys)),(2,.fn f []),(11,.list (qaj xs)),(12,.int .i64 (qaj xs).length),(13,.int .i64 i)]) (hpL []) Q:=by
 intro r
 induction r with
 | nil=>
  intro s pre qre i he he' hp hq hk hQ0 hQ1
  have hd:decide ((i:Int)<((qaj xs).length:Int))=false:=by simp[qal,he,hp]
  refine qaa qmH.eq_1 ?_
  refine W_gc ?_
  refine wN ?_
  refine wR0 200 [0,1,2,11,12,13,14] @hd ?_
  refine wN ?_
  refine qan (eV cJ0) ?_
  simp only[Bool.false_eq_true,if_false]
  refine wN ?_
  refine qcz ?_
  (try simp only[thn])
  exact hQ0 _ ⟨by simp,by cases s<;>simp[cmpF]⟩
 | cons k r ih=>
  intro s pre qre i he he' hp hq hk hQ0 hQ1
  rcases k with⟨a,as'⟩
  have hlt:(i:Int)<((qaj xs).length:Int):=by simp[qal,he];omega
  have hlb:i≤1000000:=by rw[he] at hl;simp at hl;omega
  have hd:decide ((i:Int)<((qaj xs).length:Int))=true:=decide_eq_true hlt
  have hg1:(qaj xs).getD (i:Int).toNat .undef=.agg [.int .i64 a,.list (qaj as')]:=by rw[Int.toNat_natCast,he,←hp];exact qbC _ (.mk a as') _
  have hw:IntKind.wrap .i64 ((i:Int)+1)=(i:Int)+1:=wrap64 (by omega) (by omega)
  refine qaa qmH.eq_1 ?_
  refine W_gc ?_
  refine wN ?_
  refine wR0 200 [0,1,2,11,12,13,14] @hd ?_
  refine wN ?_
  refine qan (eV cJ0) ?_
  simp only[if_true]
  refine wN ?_
  refine wR0 300 [0,1,2,7,8,11,12,13] @hg1 ?_
  refine wN ?_
  refine wR0 400 [0,1,2,7,8,11,12,13,21] cJ0 ?_
  refine wN ?_
  cases s with
  | nil=>
   have hge:decide ((i:Int)≥((qaj ys).length:Int))=true:=by simp[qal,he',hq]
   refine qan (eV cJ0) ?_
   simp only[hge,if_true]
   refine wN ?_
   refine wR0 500 [6] cJ0 ?_
   refine wN ?_
   refine qaW ?_
   (try simp only[thn,inB])
   exact hQ1 _
  | cons l s=>
   rcases l with⟨b,cs⟩
   have hlt2:(i:Int)<((qaj ys).length:Int):=by simp[qal,he'];omega
   have hge:decide ((i:Int)≥((qaj ys).length:Int))=false:=decide_eq_false (by omega)
   have hg2:(qaj ys).getD (i:Int).toNat .undef=.agg [.int .i64 b,.list (qaj cs)]:=by rw[Int.toNat_natCast,he',←hq];exact qbC _ (.mk b cs) _
   refine qan (eV cJ0) ?_
   simp only[hge,Bool.false_eq_true,if_false]
   refine wN ?_
   refine wR0 600 [0,1,2,8,9,11,12,13] @hg2 ?_
   refine wN ?_
   apply W_r 700 [0,1,2,10,11,12,13] (by rfl)
   ·refine rN cJ0 ?_
    apply qe3
    ·rfl
    ·exact eV cJ0
    ·exact eV cJ0
    ·exact hk (.mk a as') (List.mem_cons_self ..) (.mk b cs) (List.mem_cons_self ..)
    ·exact fRo
    refine rN cJ0 ?_
    exact rFi
   ·exact eV cJ0
   simp only[thn]
   refine wR0 800 [0,1,2,10,11,12,13,31] cJ0 ?_
   refine wN ?_
   by_cases hc:cmpV (.mk a as') (.mk b cs)=0
   ·have hb:(cmpV (.mk a as') (.mk b cs) != 0)=false:=by simp[hc]
    refine qan (eV cJ0) ?_
    simp only[hb,Bool.false_eq_true,if_false]
    refine wN ?_
    refine wR0 1000 [0,1,2,11,12,13] @hw ?_
    refine wN ?_
    refine qay [] (by simp) (by simp[T.cl,clL]) (by simp[qaf,inL]) ?_
    have e:cmpF (.mk a as'::r) (.mk b cs::s)=cmpF r s:=by simp[cmpF,hc]
    rw[e] at hQ0 hQ1
    have:=ih s (pre++[.mk a as']) (qre++[.mk b cs]) (i+1) (by simp[he]) (by simp[he']) (by simp;omega) (by simp;omega) (fun k' hk' l' hl'=>hk k' (List.mem_cons_of_mem _ hk') l' (List.mem_cons_of_mem _ hl')) (fun i h=>hQ0 i (by simpa using h)) hQ1
    simpa [qaf,inL] using this
   ·have hb:(cmpV (.mk a as') (.mk b cs) != 0)=true:=by simp[hc]
    have e:cmpF (.mk a as'::r) (.mk b cs::s)=cmpV (.mk a as') (.mk b cs):=by simp[cmpF,hc]
    refine qan (eV cJ0) ?_
    simp only[hb,if_true]
    refine wN ?_
    refine wR0 900 [6] cJ0 ?_
    refine wN ?_
    refine qaW ?_
    (try simp only[thn,inB])
    rw[←e]
    exact hQ1 _
theorem qtS (f:FuncId)(xs ys:List V)(hl:xs.length≤1000000)(hk:∀k∈xs,∀l∈ys,TP Tryz.prog f [encV k,encV l] (.int .i64 (cmpV k l))):TP Tryz.prog 82 [.list (qaj xs),.list (qaj ys),.fn f []] (.int .i64 (cmpF xs ys)):=by
 refine qag fn82 (by simp) ?_
 unfold i82
 simp only[argL]
 refine wN ?_
 refine wR0 0 [0,1,2] cJ0 ?_
 refine wN ?_
 refine wR0 100 [0,1,2,11,12,13] cJ0 ?_
 refine wN ?_
 refine qdx ?_
 refine qoR f xs ys hl _ xs ys [] [] 0 rfl rfl rfl rfl hk ?_ ?_
 ·intro i h
  simp only[inB,if_true,thn]
  refine wR0 1100 [38] cJ0 ?_
  refine wN ?_
  rcases hc:decide (((qaj xs).length:Int)<((qaj ys).length:Int)) with _ | _
  ·refine qan (eV cJ0) ?_
   simp only[Bool.false_eq_true,if_false]
   refine wN ?_
   refine wR0 1300 [6] cJ0 ?_
   refine wN ?_
   refine qaW ?_
   (try simp only)
   exact⟨by simp,_,rfl,by exact qaC (by simp[qal] at hc;rw[h.2,if_neg (by omega)])⟩
  ·refine qan (eV cJ0) ?_
   simp only[if_true]
   refine wN ?_
   refine wR0 1200 [6] cJ0 ?_
   refine wN ?_
   refine qaW ?_
   (try simp only[thn])
   exact⟨by simp,_,rfl,by exact qaC (by simp[qal] at hc;rw[h.2,if_pos (by omega)])⟩
 ·intro H
  simp only[inB,thn]
  exact⟨by simp,_,rfl,.same rfl⟩
theorem orL3 (A B:Int)(xs ys:List V):orL [ordI A B,ordI xs.length ys.length,cmpF xs ys]=cmpV (.mk A xs) (.mk B ys):=by
 simp only[orL,cmpV,ordI]
 by_cases h1:A=B
 ·subst h1
  by_cases h2:xs.length=ys.length
  ·simp[h2,qoQ xs ys h2];exact fun h=>h.symm
  ·simp[h2]
   split
   ·simp
   ·split
    ·simp
    ·omega
 ·simp[h1]
  split
  ·simp
  ·split
   ·simp
   ·omega
theorem qlF:∀(v u:V),v.fit→u.fit→TP Tryz.prog 46 [encV v,encV u] (.int .i64 (cmpV v u))
 | .mk A xs,.mk B ys,hv,hu=>by
  have hv':=V.fit_kids hv
  have hu':=V.fit_kids hu
  simp only[V.kids] at hv' hu'
  have hrep:List.drop 1 (List.drop 1 (List.drop 1 (repl 3 [T.int .i64 0])))=[]:=rfl
  have hf:=qtS 46 xs ys hv'.1 (fun k hk l hl=>qlF k l (hv'.2 k hk) (hu'.2 l hl))
  refine qag fn46 (by simp) ?_
  unfold i46
  simp only[argL,encV]
  refine wN ?_
  refine wR0 0 [2,3] cJ0 ?_
  refine wN ?_
  apply W_r 100 [4] (by rfl)
  ·refine rN cJ0 ?_
   apply qdL
   ·rfl
   ·exact eV cJ0
   ·exact qoM A B
   ·exact fRo
   refine rN cJ0 ?_
   apply qdL
   ·rfl
   ·exact eV cJ0
   ·exact qoM _ _
   ·exact fRo
   refine rN cJ0 ?_
   apply qdL
   ·rfl
   ·exact eV cJ0
   ·exact hf
   ·exact fRo
   refine rN @hrep ?_
   apply qeF [(117,.live ⟨3,qad [ordI A B,ordI (qaj xs).length (qaj ys).length,cmpF xs ys]⟩)]
   ·rfl
   ·exact eV cJ0
   ·exact qe1 rfl (by simp) (by simp[Slot.cl])
   ·exact FrzL.cons (qbn [ordI A B,ordI (qaj xs).length (qaj ys).length,cmpF xs ys] rfl rfl rfl) FrzL.nil
   ·exact cor_tp [ordI A B,ordI (qaj xs).length (qaj ys).length,cmpF xs ys] (by simp)
   ·rfl
   ·simp[clL,T.cl]
   refine rN cJ0 ?_
   exact qni (by intro _;first | (simp[qbw,List.pairwise_cons,chkP];done) | (simp[qbw,List.pairwise_cons,chkP,Nat.testBit];done))
  ·exact eV cJ0
  simp only[thn]
  refine qaW ?_
  (try simp only)
  exact⟨by simp,_,rfl,by exact qaC (by rw[qal,qal];exact orL3 A B xs ys)⟩
termination_by v=>SizeOf.sizeOf v
decreasing_by exact qe0 hk A
end
section
open Go.RowKit
theorem qm1 (a b:Int):ordI b a = - ordI a b:=by
 unfold ordI;split<;>split<;>(try split)<;>omega
mutual
theorem qcU:∀(a b:V),cmpV b a = - cmpV a b
 | .mk a ks,.mk b ls=>by
  simp only[cmpV]
  by_cases h1:a=b
  ·subst h1
   by_cases h2:ks.length=ls.length
   ·simp only[ne_eq,not_true_eq_false,if_false,h2];exact qmd ks ls
   ·have h2':¬ls.length=ks.length:=fun h=>h2 h.symm
    simp only[ne_eq,not_true_eq_false,if_false,h2,h2',not_false_eq_true,if_true];exact qm1 _ _
  ·have h1':¬b=a:=fun h=>h1 h.symm
   simp only[ne_eq,h1,h1',not_false_eq_true,if_true];exact qm1 _ _
theorem qmd:∀(ks ls:List V),cmpL ls ks = - cmpL ks ls
 | [],[]=>rfl
 | [],_::_=>rfl
 | _::_,[]=>rfl
 | k::ks,l::ls=>by
  have h:=qcU k l
  simp only[cmpL]
  by_cases h0:cmpV k l=0
  ·rw[if_neg (by omega),if_neg (by omega)];exact qmd ks ls
  ·rw[if_pos (by omega),if_pos h0];exact h
end
end
section
open Go.RowKit
set_option maxHeartbeats 2000000
def ixF {α:Type}(p:α→Bool):List α→Int→Int
 | [],_ => -1
 | k::ks,i=>if p k=true then i else ixF p ks (i+1)
theorem qmO {α:Type}(p:α→Bool):∀(ks:List α) (i:Int),0≤i→decide (ixF p ks i≥0)=ks.any p
 | [],i,_=>rfl
 | k::ks,i,hi=>by
  by_cases hp:p k=true
  ·simp only[ixF,List.any_cons,hp,Bool.true_or];exact decide_eq_true hi
  ·simp only[ixF,List.any_cons,Bool.eq_false_iff.2 hp,Bool.false_or];exact qmO p ks (i+1) (by omega)
def encI (n:Int):T:=.int .i64 n
theorem qr7 (f:FuncId)(caps:List T)(hcaps:clL (fun _=>false) caps=true)(p:Int→Bool)(xs:List Int)(hl:xs.length≤1000000)(Q:IExit→(Nat→T)→Heap→Prop):∀(rest pre:List Int) (i:Nat),xs=pre++rest→pre.length=i→
 (∀k∈rest,TP Tryz.prog f ([encI k]++caps) (.bool (p k)))→
 (ixF p rest i = -1→∀i:Int,Q (.exit 0) (ofL [(0,.list (qad xs)),(1,.fn f caps),(7,.int .i64 (qad xs).length),(8,.int .i64 i),(9,.bool false)]) (hpL []))→
 (ixF p rest i ≠ -1→Q .ret (ofL [(4,.int .i64 (ixF p rest i))]) (hpL []))→
 WL Tryz.prog 19 qjs (ofL [(0,.list (qad xs)),(1,.fn f caps),(7,.int .i64 (qad xs).length),(8,.int .i64 i)]) (hpL []) Q:=by
 intro rest
 induction rest with
 | nil=>
  intro pre i he hn hk hQ0 hQ1
  have hd:decide ((i:Int)<((qad xs).length:Int))=false:=by simp[qae,he,hn]
  have fX:=@hd
  refine qaa qjs.eq_1 ?_
  refine wR0 200 [0,1,7,8,9] fX ?_
  refine wF @hd ?_
  refine wX ?_
  refine wN ?_
  exact hQ0 rfl _
 | cons k rest ih=>
  intro pre i he hn hk hQ0 hQ1
  skip
  have hlt:(i:Int)<((qad xs).length:Int):=by simp[qae,he];omega
  have hlb:i≤1000000:=by rw[he] at hl;simp at hl;omega
  have hd:decide ((i:Int)<((qad xs).length:Int))=true:=decide_eq_true hlt
  have hg:(qad xs).getD (i:Int).toNat .undef=.int .i64 k:=by rw[Int.toNat_natCast,he,←hn];exact qcN _ k _
  have hw:IntKind.wrap .i64 ((i:Int)+1)=(i:Int)+1:=wrap64 (by omega) (by omega)
  have fX:=(cJ3 @hd @hg @hw)
  refine qaa qjs.eq_1 ?_
  refine wR0 200 [0,1,7,8,9] fX ?_
  refine wT @hd ?_
  refine wR0 300 [0,1,5,7,8] fX ?_
  refine wRn 400 [0,1,5,7,8,16] fX ?_
  refine rCv fX ?_
  refine⟨_,hk k (List.mem_cons_self ..),rE fX ?_⟩
  refine wS cJ0 (fun hc400=>?_) (fun hc400=>?_)
  ·skip
   refine wR0 500 [4] fX ?_
   refine wE ?_
   refine wN ?_
   have e:ixF p (k::rest) i=i:=(by simp[ixF,hc400])
   rw[e] at hQ1
   exact hQ1 (by omega)
  ·skip
   refine wR0 600 [0,1,7,8] fX ?_
   refine wN ?_
   have e:ixF p (k::rest) i=ixF p rest ((i+1:Nat):Int):=(by simp[ixF,hc400])
   rw[e] at hQ0 hQ1
   have:=ih (pre++[k]) (i+1) (by simp[he]) (by simp;omega) (fun k' hk'=>hk k' (List.mem_cons_of_mem _ hk')) hQ0 hQ1
   simpa using this
theorem ixI_tp (f:FuncId)(caps:List T)(hcaps:clL (fun _=>false) caps=true)(p:Int→Bool)(xs:List Int)(hl:xs.length≤1000000)(hk:∀k∈xs,TP Tryz.prog f ([encI k]++caps) (.bool (p k))):TP Tryz.prog 138 [.list (qad xs),.fn f caps] (.int .i64 (ixF p xs 0)):=by
 refine qag fn138 (by simp) ?_
 unfold i138
 simp only[argL]
 refine wR0 0 [0,1] cJ0 ?_
 refine wR0 100 [0,1,7,8] cJ0 ?_
 refine wL ?_
 refine qr7 f caps hcaps p xs hl _ xs [] 0 rfl rfl hk ?_ ?_
 ·intro h i
  refine wN ?_
  refine wR0 700 [4] cJ0 ?_
  refine wP ?_
  exact qaC h.symm
 ·intro h
  refine wN ?_
  exact⟨by simp,_,rfl,by exact .same rfl⟩
theorem qir (f:FuncId)(caps:List T)(hcaps:clL (fun _=>false) caps=true)(p:Int→Bool)(xs:List Int)(hl:xs.length≤1000000)(hk:∀k∈xs,TP Tryz.prog f ([encI k]++caps) (.bool (p k))):TP Tryz.prog 90 [.list (qad xs),.fn f caps] (.bool (xs.any p)):=by
 have hfr:froL [.list (qad xs),.fn f caps]=true:=by simp[froL,clL,T.cl,hcaps,qah]
 refine qag fn90 (by simp) ?_
 unfold i90
 simp only[argL]
 refine wR0 0 [0,1] cJ0 ?_
 refine wRn 100 [4] cJ0 ?_
 refine rC cJ0 ?_
 refine⟨_,ixI_tp f caps hcaps p xs hl hk,rE cJ0 ?_⟩
 refine wP ?_
 exact qac (qmO p xs 0 (by omega))
def qaq (l:List ByteArray):List T:=l.map .str
theorem qai (l:List ByteArray):(qaq l).length=l.length:=by simp[qaq]
theorem qdB (pre:List ByteArray)(k:ByteArray)(ks:List ByteArray):(qaq (pre++k::ks)).getD pre.length .undef=.str k:=by
 simp[qaq,List.getD_eq_getElem?_getD]
theorem qcO (xs ys:List ByteArray):qaq (xs++ys)=qaq xs++qaq ys:=by simp[qaq]
@[simp] theorem qaO (D:Nat→Bool)(l:List ByteArray):clL D (qaq l)=true:=by
 induction l with
 | nil=>rfl
 | cons x l ih=>simpa [qaq,clL,T.cl] using ih
structure Tk where
 place:Int
 low:Int
 high:Int
def qnN (t:Tk):T:=.agg [.int .i64 t.place,.int .i64 t.low,.int .i64 t.high]
def qb1 (l:List Tk):List T:=l.map qnN
theorem qcD (l:List Tk):(qb1 l).length=l.length:=by simp[qb1]
@[simp] theorem encTk_cl (D:Nat→Bool)(t:Tk):(qnN t).cl D=true:=rfl
@[simp] theorem qo6 (D:Nat→Bool)(l:List Tk):clL D (qb1 l)=true:=by
 induction l with
 | nil=>rfl
 | cons x l ih=>simpa [qb1,clL] using ih
structure Rl where
 name:ByteArray
 from_:Int
 to_:Int
 need:List Int
 give:List Int
 move:List Int
 chan:Int
 act:Int
 lett:Int
 path:List Int
 next:List Int
 takes:List Tk
 makes:List Int
 second:Int
def rlC (r:Rl):List T:=[.str r.name,.int .i64 r.from_,.int .i64 r.to_,.list (qad r.need),.list (qad r.give),.list (qad r.move),.int .i64 r.chan,.int .i64 r.act,.int .i64 r.lett,.list (qad r.path),.list (qad r.next),.list (qb1 r.takes),.list (qad r.makes),.int .i64 r.second]
def qbQ (r:Rl):T:=.agg (rlC r)
def qaR (l:List Rl):List T:=l.map qbQ
theorem qaS (l:List Rl):(qaR l).length=l.length:=by simp[qaR]
theorem qeO (pre:List Rl)(k:Rl)(ks:List Rl):(qaR (pre++k::ks)).getD pre.length .undef=qbQ k:=by
 simp[qaR,List.getD_eq_getElem?_getD]
@[simp] theorem rlC_cl (D:Nat→Bool)(r:Rl):clL D (rlC r)=true:=by simp[rlC,clL,T.cl]
@[simp] theorem qrJ (D:Nat→Bool)(r:Rl):(qbQ r).cl D=true:=by simp[qbQ,T.cl]
@[simp] theorem qax (D:Nat→Bool)(l:List Rl):clL D (qaR l)=true:=by
 induction l with
 | nil=>rfl
 | cons x l ih=>simp only[qaR,List.map_cons,clL,qrJ,Bool.true_and];exact ih
structure Md where
 kind:Int
 states:List ByteArray
 places:List ByteArray
 letters:List ByteArray
 ranks:List Int
 levels:Int
 age:Int
 rules:List Rl
 start:V
def mdC (m:Md):List T:=[.int .i64 m.kind,.list (qaq m.states),.list (qaq m.places),.list (qaq m.letters),.list (qad m.ranks),.int .i64 m.levels,.int .i64 m.age,.list (qaR m.rules),.int .i64 m.start.n,.list (qaj m.start.kids)]
def qaA (m:Md):T:=.agg (mdC m)
@[simp] theorem qc9 (D:Nat→Bool)(m:Md):clL D (mdC m)=true:=by simp[mdC,clL,T.cl]
@[simp] theorem encMd_cl (D:Nat→Bool)(m:Md):(qaA m).cl D=true:=by simp[qaA,T.cl]
def kindOk (k:Int):Prop:=k=1
structure Rl.fit (r:Rl):Prop where
 need:r.need.length≤1000000
 give:r.give.length≤1000000
 move:r.move.length≤1000000
 path:r.path.length≤1000000
 next:r.next.length≤1000000
 takes:r.takes.length≤1000000
 makes:r.makes.length≤1000000
 name:r.name.size≤1000000
structure Md.fit (m:Md):Prop where
 states:m.states.length≤1000
 places:m.places.length≤1000
 letters:m.letters.length≤1000
 ranks:m.ranks.length≤1000000
 rules:m.rules.length≤1000
 rule:∀r∈m.rules,r.fit
 start:m.start.fit
 names:∀s∈m.states++m.places++m.letters,s.size≤1000000
 kd:kindOk m.kind
def btw (x a b:Int):Bool:=decide (x≥a)&&decide (x≤b)
theorem qat (x a b:Int):TP Tryz.prog 83 [.int .i64 x,.int .i64 a,.int .i64 b] (.bool (btw x a b)):=by
 refine qag fn83 (by simp) ?_
 unfold i83
 simp only[argL]
 refine wR0 0 [0,1,2] cJ0 ?_
 refine wR0 100 [6] cJ0 ?_
 refine wP ?_
 exact qac rfl
def limC (k:Int):List Int:=
 if k=1∨k=6 then [1,6,0,0,0,0,0,0] else if k=2∨k=3 then [1,2,1,6,0,0,0,0] else if k=4 then [0,0,1,6,1,2,0,0] else [1,6,0,0,0,0,0,3]
def qbg (m:Md):Bool:=
 btw m.states.length 1 8&&decide ((m.rules.length:Int)≤12)&&btw m.places.length ((limC m.kind).getD 0 0) ((limC m.kind).getD 1 0)&&btw m.letters.length ((limC m.kind).getD 2 0) ((limC m.kind).getD 3 0)&&
  btw m.levels ((limC m.kind).getD 4 0) ((limC m.kind).getD 5 0)&&btw m.age ((limC m.kind).getD 6 0) ((limC m.kind).getD 7 0)
def qdq (m:Md):Bool:=if m.kind≠3 then (m.ranks.length:Int)==0 else ((m.ranks.length:Int)==m.letters.length)&&!m.ranks.any fun x=>!btw x 0 5
end
end Go.Proofs.YtkbjpglehdhjfaaGreatDoor
