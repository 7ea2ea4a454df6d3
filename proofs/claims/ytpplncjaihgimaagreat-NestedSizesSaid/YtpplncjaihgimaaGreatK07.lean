/- Contracts of functions of the program, for all arguments that they name. -/
import Derived.Test.YtpplncjaihgimaaGreatK02
import Derived.Test.YtpplncjaihgimaaGreatK06
namespace Go.Proofs.YtpplncjaihgimaaGreat
set_option linter.unusedVariables false
section
open Go.RowKit
set_option maxHeartbeats 2000000
theorem qbV:∀ {ps:List Ty} {d:Int},qa1 ps d=true→∀p∈ps,qar p d=true
 | [],_,_,p,hp=>by cases hp
 | x::ps,d,h,p,hp=>by
  simp only[qa1,Bool.and_eq_true] at h
  rcases List.mem_cons.1 hp with rfl | hp
  ·exact h.1
  ·exact qbV h.2 p hp
theorem qdX {s d:Int}{rs:List Int}{ps:List Ty}(h:qar (.mk 3 s rs ps) d=true):qa1 ps (d - 1)=true∧ps.length≤8:=by
 simp only[qar] at h
 split at h
 ·cases h
 split at h
 ·cases h
 simp at h
 exact⟨h.2,by omega⟩
theorem qdW {k s d:Int}{rs:List Int}{ps:List Ty}(hk:k=4∨k=5)(h:qar (.mk k s rs ps) d=true):∃p,ps=[p]∧qar p (d - 1)=true:=by
 simp only[qar] at h
 rw[if_neg (show ¬k=1 by omega),if_neg (show ¬(k=2∨k=6) by omega),if_neg (show ¬k=7 by omega),if_pos hk] at h
 split at h
 ·cases h
 split at h
 ·cases h
 simp at h
 obtain⟨p,rfl⟩:=List.length_eq_one_iff.1 (show ps.length=1 by omega)
 exact⟨p,rfl,by simpa [qa1] using h.2⟩
theorem qiT {k s d:Int}{rs:List Int}{ps:List Ty}(h:qar (.mk k s rs ps) d=true)(h1:k≠1)(h2:k≠2)(h6:k≠6)(h3:k≠3):k=7∨k=4∨k=5:=by
 refine Decidable.byContradiction fun hc=>?_
 have h26:¬(k=2∨k=6):=by omega
 have h45:¬(k=4∨k=5):=by omega
 have h7:¬k=7:=by omega
 simp only[qar,if_neg h1,if_neg h26,if_neg h7,if_neg h45,if_neg h3] at h
 split at h<;>simp at h
set_option maxHeartbeats 4000000 in
theorem quT:∀(t:Ty) (v:V) (d:Int),t.fit→v.fit→qar t d=true→TP Tryz.prog 100 [qal t,encV v] (.bool (ofV t v))
 | .mk k s rs ps,.mk n ks,d,ht,hv,hval=>by
  obtain⟨hf1,hf2,hf3⟩:=Ty.fit_all ht
  have hv':=V.fit_kids hv
  simp only[V.kids] at hv'
  refine qan fn100 (by simp) ?_
  unfold i100
  simp only[argL,encV,qal]
  refine wN ?_
  refine wR0 0 [2,3] cJ0 ?_
  refine wN ?_
  refine wR0 100 [2,3,8] cJ0 ?_
  refine wN ?_
  refine wR0 200 [2,3,8,9] cJ0 ?_
  refine wN ?_
  by_cases k1:k=1
  ·have k1b:(k==1)=true:=by simp[k1]
   refine qaj (eV cJ0) ?_
   simp only[k1b,if_true]
   refine wN ?_
   refine wR0 300 [4] cJ0 ?_
   refine wN ?_
   refine qaE ?_
   (try simp only[thn,inB])
   exact⟨by simp,_,rfl,by exact qad (by simp only[ofV,if_pos k1,V.n,V.kids,qag];rfl)⟩
  have k1b:(k==1)=false:=by simp[k1]
  refine qaj (eV cJ0) ?_
  simp only[k1b,Bool.false_eq_true,if_false]
  refine wN ?_
  refine wR0 400 [2,3,8,25] cJ0 ?_
  refine wN ?_
  by_cases k2:k=2
  ·have k2b:(k==2)=true:=by simp[k2]
   refine qaj (eV cJ0) ?_
   simp only[k2b,if_true]
   refine wN ?_
   refine wR0 500 [4] cJ0 ?_
   refine wN ?_
   refine qaE ?_
   (try simp only[thn,inB])
   exact⟨by simp,_,rfl,by exact qad (by simp only[ofV,if_neg k1,if_pos k2,V.n,V.kids,qag];rfl)⟩
  have k2b:(k==2)=false:=by simp[k2]
  refine qaj (eV cJ0) ?_
  simp only[k2b,Bool.false_eq_true,if_false]
  refine wN ?_
  refine wR0 600 [2,3,8,43] cJ0 ?_
  refine wN ?_
  by_cases k6:k=6
  ·have k6b:(k==6)=true:=by simp[k6]
   refine qaj (eV cJ0) ?_
   simp only[k6b,if_true]
   refine wN ?_
   rcases hs:decide (qbt (.mk n ks) 12≤12) with _ | _
   ·refine wRn 700 [4] @hs ?_
    refine rC @hs ?_
    refine⟨_,qft (.mk n ks) 12 hv (by omega) (by omega),rE @hs ?_⟩
    refine wN ?_
    refine qaE ?_
    (try simp only[thn,inB])
    exact⟨by simp,_,rfl,by exact qad (by simp only[ofV,if_neg k1,if_neg k2,if_pos k6,hs,Bool.false_and])⟩
   ·refine wRn 700 [4] @hs ?_
    refine rC @hs ?_
    refine⟨_,qft (.mk n ks) 12 hv (by omega) (by omega),rN @hs ?_⟩
    refine rC @hs ?_
    refine⟨_,qnz (.mk n ks) s hv,rE @hs ?_⟩
    refine wN ?_
    refine qaE ?_
    (try simp only[thn,inB])
    exact⟨by simp,_,rfl,by exact qad (by simp only[ofV,if_neg k1,if_neg k2,if_pos k6,hs,Bool.true_and])⟩
  have k6b:(k==6)=false:=by simp[k6]
  refine qaj (eV cJ0) ?_
  simp only[k6b,Bool.false_eq_true,if_false]
  refine wN ?_
  refine wR0 800 [2,3,54] cJ0 ?_
  refine wN ?_
  by_cases k3:k=3
  ·have k3b:(k==3)=true:=by simp[k3]
   have e3:ofV (.mk k s rs ps) (.mk n ks)=((n==0)&&((ks.length:Int)==ps.length)&&qdH ps ks):=by simp only[ofV,if_neg k1,if_neg k2,if_neg k6,if_pos k3,V.n,V.kids]
   refine qaj (eV cJ0) ?_
   simp only[k3b,if_true]
   refine wN ?_
   refine wR0 900 [2,3,67] cJ0 ?_
   refine wN ?_
   rcases hall:((n != 0) || (((qac ks).length:Int) != ((qak ps).length:Int))) with _ | _
   ·refine qaj (eV cJ0) ?_
    simp only[Bool.false_eq_true,if_false]
    refine wN ?_
    refine wR0 1100 [2,3,5] cJ0 ?_
    refine wN ?_
    refine qbN ?_
    simp only[qap,qag,Bool.or_eq_false_iff,bne_eq_false_iff_eq] at hall
    have hvp:=qdX (by rw[k3] at hval;exact hval)
    refine qtM k s n rs ps ks hf2 (by omega) _ ks [] ps [] 0 rfl rfl rfl rfl (fun t hk u hu=>quT t u (d - 1) (hf3 t hk) (hv'.2 u hu) (qbV hvp.1 t hk)) ?_ ?_
    ·intro h i
     simp only[inB,if_true,thn]
     refine wR0 1600 [4] cJ0 ?_
     refine wN ?_
     refine qaE ?_
     (try simp only[thn,inB])
     exact⟨by simp,_,rfl,by exact qad (by rw[e3,h];simp[hall])⟩
    ·intro h
     simp only[inB,thn]
     exact⟨by simp,_,rfl,qad (by simp[e3,h])⟩
   ·refine qaj (eV cJ0) ?_
    simp only[if_true]
    refine wN ?_
    refine wR0 1000 [4] cJ0 ?_
    refine wN ?_
    refine qaE ?_
    (try simp only[thn,inB])
    exact⟨by simp,_,rfl,by exact qad (by simp only[qap,qag,bne] at hall;rw[e3];revert hall;cases (n==0)<;>cases ((ks.length:Int)==ps.length)<;>simp)⟩
  have k3b:(k==3)=false:=by simp[k3]
  have e0:ofV (.mk k s rs ps) (.mk n ks)=((n==0)&&!decide ((ks.length:Int) > 12)&&(if k=7 then !ks.any (qb6 s) else qeu ps ks&&(!(k==5) || qbq ks))):=by simp only[ofV,if_neg k1,if_neg k2,if_neg k6,if_neg k3,V.n,V.kids];rfl
  refine qaj (eV cJ0) ?_
  simp only[k3b,Bool.false_eq_true,if_false]
  refine wN ?_
  refine wR0 1700 [2,3,95] cJ0 ?_
  refine wN ?_
  rcases hall:((n != 0) || decide (((qac ks).length:Int) > 12)) with _ | _
  ·refine qaj (eV cJ0) ?_
   simp only[Bool.false_eq_true,if_false]
   refine wN ?_
   refine wR0 1900 [2,3,6] cJ0 ?_
   refine wN ?_
   refine qbN ?_
   simp only[qag,Bool.or_eq_false_iff,bne_eq_false_iff_eq] at hall
   by_cases k7:k=7
   ·subst k7
    refine ql2 s n rs ps ks hv'.1 _ ks [] 0 rfl rfl ?_ ?_
    ·intro h i
     simp only[inB,if_true,thn]
     refine wR0 2700 [4] cJ0 ?_
     refine wN ?_
     refine qaE ?_
     (try simp only)
     exact⟨by simp,_,rfl,by exact qad (by rw[e0,h];simp[hall])⟩
    ·intro h
     simp only[inB,thn]
     exact⟨by simp,_,rfl,qad (by rw[e0,h];simp)⟩
   ·have h45:k=4∨k=5:=(qiT hval k1 k2 k6 k3).resolve_left k7
    obtain⟨p,hp,hvp⟩:=qdW h45 hval
    have hk:p∈ps:=by simp[hp]
    have ebag:bagL p (k==5) none ks=(qeu ps ks&&(!(k==5) || qbq ks)):=by rw[qpC,hp];rfl
    refine qr3 k s n k7 rs ps p hp ks hv'.1 hv'.2 _ ks [] 0 rfl rfl (fun u hu=>quT p u (d - 1) (hf3 p hk) (hv'.2 u hu) hvp) ?_ ?_
    ·intro h i
     have h':(qeu ps ks&&(!(k==5) || qbq ks))=true:=by rw[←ebag];exact h
     simp only[inB,if_true,thn]
     refine wR0 2700 [4] cJ0 ?_
     refine wN ?_
     refine qaE ?_
     (try simp only)
     exact⟨by simp,_,rfl,by exact qad (by rw[e0,if_neg k7,h'];simp[hall])⟩
    ·intro h
     have h':(qeu ps ks&&(!(k==5) || qbq ks))=false:=by rw[←ebag];exact h
     simp only[inB,thn]
     exact⟨by simp,_,rfl,qad (by rw[e0,if_neg k7,h'];simp)⟩
  ·refine qaj (eV cJ0) ?_
   simp only[if_true]
   refine wN ?_
   refine wR0 1800 [4] cJ0 ?_
   refine wN ?_
   refine qaE ?_
   (try simp only[thn])
   exact⟨by simp,_,rfl,by exact qad (by simp only[qag,bne] at hall;rw[e0];revert hall;cases (n==0)<;>cases decide ((ks.length:Int) > 12)<;>simp)⟩
termination_by t=>SizeOf.sizeOf t
decreasing_by all_goals exact qds hk k s rs
def qaR (t:Ty)(v:V):Bool:=(qba t==0)&&decide (qbt v 128≤128)&&ofV t v
theorem qki {t:Ty}:(qba t==0)=qar t 8:=by unfold qba;cases qar t 8<;>rfl
theorem qcK (t:Ty)(v:V)(ht:t.fit)(hv:v.fit):TP Tryz.prog 57 [qal t,encV v] (.bool (qaR t v)):=by
 rcases t with⟨k,s,rs,ps⟩
 rcases v with⟨n,ks⟩
 refine qan fn57 (by simp) ?_
 unfold i57
 simp only[argL,encV,qal]
 refine wN ?_
 refine wR0 0 [2,3] cJ0 ?_
 refine wN ?_
 rcases h1:(qba (.mk k s rs ps)==0) with _ | _
 ·refine wRn 100 [4] @h1 ?_
  refine rC @h1 ?_
  refine⟨_,qfC (.mk k s rs ps) ht,rE @h1 ?_⟩
  refine wN ?_
  refine qaE ?_
  (try simp only)
  exact⟨by simp,_,rfl,by exact qad (by simp only[qaR,h1,Bool.false_and])⟩
 ·rcases h2:decide (qbt (.mk n ks) 128≤128) with _ | _
  ·have fX:=(cJ2 @h1 @h2)
   refine wRn 100 [4] fX ?_
   refine rC fX ?_
   refine⟨_,qfC (.mk k s rs ps) ht,rN fX ?_⟩
   refine rC fX ?_
   refine⟨_,qft (.mk n ks) 128 hv (by omega) (by omega),rE fX ?_⟩
   refine wN ?_
   refine qaE ?_
   (try simp only)
   exact⟨by simp,_,rfl,by exact qad (by simp only[qaR,h1,h2,Bool.false_and,Bool.and_false])⟩
  ·have fX:=(cJ2 @h1 @h2)
   refine wRn 100 [4] fX ?_
   refine rC fX ?_
   refine⟨_,qfC (.mk k s rs ps) ht,rN fX ?_⟩
   refine rC fX ?_
   refine⟨_,qft (.mk n ks) 128 hv (by omega) (by omega),rN fX ?_⟩
   refine rC fX ?_
   refine⟨_,quT (.mk k s rs ps) (.mk n ks) 8 ht hv (by rw[←qki];exact h1),rE fX ?_⟩
   refine wN ?_
   refine qaE ?_
   (try simp only)
   exact⟨by simp,_,rfl,by exact qad (by simp only[qaR,h1,h2,Bool.true_and])⟩
theorem qlR (N:Int)(ks:List V)(hv:(V.mk N ks).fit):TC Tryz.prog 25 [.agg [.int .i64 N,.list (qac ks)]] (hpL []) (.agg [.int .i64 N,rowT 409 ks]) (hpL (rowH 409 25 ks)):=by
 have hv':=V.fit_kids hv
 simp only[V.kids] at hv'
 have h0:TC Tryz.prog 25 [.agg [.int .i64 N,.list (qac ks)]] (hpL []) (.agg [.int .i64 N,rowT 409 ks]) (hpL ([(0,.live ⟨25,[.int .i64 N,.list (qac ks)]⟩),(1,.live ⟨25,[.int .i64 N,rowT 409 ks]⟩),(103,.live ⟨25,[.int .i64 N,rowT 409 ks]⟩)]++rowH 409 25 ks)):=by
  refine qcj fn25 (by simp) ?_
  unfold i25
  simp only[argL]
  refine wR0 0 [1,2] cJ0 ?_
  refine wN ?_
  refine wR0 100 [1,2,3] cJ0 ?_
  refine wN ?_
  refine wR0 200 [1,2,3,4] cJ0 ?_
  refine wN ?_
  refine qbN ?_
  refine qkm N ks hv'.1 _ ks [] 0 rfl rfl (fun k hk=>qhf k (hv'.2 k hk)) ?_
  intro i
  simp only[inB,if_true,thn]
  cases ks with
  | nil=>
   simp only[rowT,rowH,List.append_nil]
   refine wR0 600 [2] cJ0 ?_
   refine wN ?_
   refine qaE ?_
   exact⟨by simp,rfl,rfl⟩
  | cons k ks=>
   simp only[rowT,rowH,List.cons_append,List.nil_append]
   refine wR0 600 [2] cJ0 ?_
   refine wN ?_
   refine qaE ?_
   exact⟨by simp,rfl,rfl⟩
 cases ks with
 | nil=>exact qdY [409] h0 rfl (by simp[T.cl,clL,rowT]) (by simp[qam,inL,rowH])
 | cons k ks=>exact qdY [409] h0 rfl (by simp[T.cl,clL,rowT,inL]) (by simp[qam,inL,rowH,Slot.cl,qay])
def insR (x:V):List V→List V
 | []=>[x]
 | y::ys=>if cmpV x y<0 then y::insR x ys else x::y::ys
mutual
def qbi:Ty→V→V
 | .mk k s rs ps,v=>.mk v.n (if k=3 then qcl ps v.kids else if k=4 then qd8 ps v.kids else if k=5 then ((qd8 ps v.kids).foldl (fun acc x=>insR x acc) []).reverse else v.kids)
def qcl:List Ty→List V→List V
 | p::ps,v::vs=>qbi p v::qcl ps vs
 | [],vs=>vs
 | _::_,[]=>[]
def qd8:List Ty→List V→List V
 | p::_,vs=>vs.map fun v=>qbi p v
 | [],vs=>vs
end
theorem qa8 (xs ys:List V):qaq (xs++ys)=qaq xs++qaq ys:=by
 induction xs with
 | nil=>rfl
 | cons x xs ih=>simp[qaq,ih]
theorem qd3 (xs:List V)(a:Int)(bs ys:List V)(i:Nat)(h:xs.length=i):List.take 2 (List.drop ((i:Int).toNat*2) (qaq (xs++V.mk a bs::ys)))=[.int .i64 a,.list (qac bs)]:=by
 rw[qa8,Int.toNat_natCast,←h,←qaz,List.drop_left];rfl
theorem qc6 (xs ys:List V)(i:Nat)(h:xs.length=i):List.take ((i:Int).toNat*2) (qaq (xs++ys))=qaq xs:=by
 rw[qa8,Int.toNat_natCast,←h,←qaz,List.take_left]
theorem qc5 (xs ys:List V)(v:V)(i:Nat)(h:xs.length=i):List.drop ((i:Int).toNat*2+2) (qaq (xs++v::ys))=qaq ys:=by
 rw[qa8,Int.toNat_natCast,←h,←qaz,←List.drop_drop,List.drop_left];rfl
theorem qrS (k s N:Int)(k45:k=4∨k=5)(rs:List Int)(ps:List Ty)(p:Ty)(hps:ps=[p])(ks0:List V)(n:Nat)(hn0:n≤1000000)(Q:IExit→(Nat→T)→Heap→Prop):∀(rest done:List V) (i:Nat),done.length=i→done.length+rest.length=n→
 (∀v∈rest,TP Tryz.prog 85 [qal p,encV v] (encV (qbi p v)))→
 (∀i:Int,Q (.exit 0) (ofL [(2,.ref 0 4 0),(4,.ref 2 2 0),(5,.ref 102 2 0),(6,.int .i64 i),(15,.bool false)]) (hpL [(0,.live ⟨50,[.int .i64 k,.int .i64 s,.list (qab rs),.list (qak ps)]⟩),(1,.live ⟨25,[.int .i64 N,.list (qac ks0)]⟩),(2,.live ⟨25,[.int .i64 0,.nil]⟩),(409,.live ⟨25,qaq (done++rest.map (qbi p))⟩),(102,.live ⟨25,[.int .i64 N,.sl 409 (n*2) 2 0 n]⟩)]))→
 WL Tryz.prog 117 qeq (ofL [(2,.ref 0 4 0),(4,.ref 2 2 0),(5,.ref 102 2 0),(6,.int .i64 i)]) (hpL [(0,.live ⟨50,[.int .i64 k,.int .i64 s,.list (qab rs),.list (qak ps)]⟩),(1,.live ⟨25,[.int .i64 N,.list (qac ks0)]⟩),(2,.live ⟨25,[.int .i64 0,.nil]⟩),(409,.live ⟨25,qaq (done++rest)⟩),(102,.live ⟨25,[.int .i64 N,.sl 409 (n*2) 2 0 n]⟩)]) Q:=by
 have hlt2:(0:Int)<((qak ps).length:Int):=by simp[qap,hps]
 have hg2:(qak ps).getD (0:Int).toNat .undef=qal p:=by rw[hps];rfl
 have k3b:(k==3)=false:=by simp;omega
 intro rest
 induction rest with
 | nil=>
  intro done i hi hn hk hQ
  have hd:decide ((i:Int)<(n:Int))=false:=by simp at hn ⊢;omega
  refine qaa qeq.eq_1 ?_
  refine wN ?_
  refine wR0 300 [2,4,5,6,15] @hd ?_
  refine wN ?_
  refine qaj (eV cJ0) ?_
  simp only[Bool.false_eq_true,if_false]
  refine wN ?_
  refine qbE ?_
  (try simp only[thn])
  have:=hQ i
  simpa using this
 | cons v rest ih=>
  intro done i hi hn hk hQ
  rcases v with⟨a,bs⟩
  have hlt:(i:Int)<(n:Int):=by simp at hn;omega
  have hd:decide ((i:Int)<(n:Int))=true:=decide_eq_true hlt
  have hw:IntKind.wrap .i64 ((i:Int)+1)=(i:Int)+1:=wrap64 (by omega) (by omega)
  have hlen:(qaq (done++V.mk a bs::rest)).length=n*2:=by rw[qaz];simp;simp at hn;omega
  refine qaa qeq.eq_1 ?_
  refine wN ?_
  refine wR0 300 [2,4,5,6,15] @hd ?_
  refine wN ?_
  refine qaj (eV cJ0) ?_
  simp only[if_true]
  refine wN ?_
  refine wR0 400 [2,4,5,6,27] @k3b ?_
  refine wN ?_
  refine qaj (eV cJ0) ?_
  simp only[Bool.false_eq_true,if_false]
  refine wN ?_
  rcases hall:((k==4) || (k==5)) with _ | _
  ·exfalso;rcases k45 with h | h<;>simp[h] at hall
  refine wR0 600 [2,4,5,6,50] @hall ?_
  refine wN ?_
  refine qaj (eV cJ0) ?_
  simp only[if_true]
  refine wN ?_
  have ht2:=qd3 done a bs rest i hi
  have htl:=qc6 done (V.mk a bs::rest) i hi
  have hdr:=qc5 done rest (V.mk a bs) i hi
  have hk1:=hk (V.mk a bs) (List.mem_cons_self ..)
  rcases hu:qbi p (V.mk a bs) with⟨a',bs'⟩
  rw[hu] at hk1
  have fX:=(cJ8 @hg2 @qbO @qbH @ht2 @encV.eq_1 @htl @hdr @hlen)
  refine wRn 700 [2,4,5,6] fX ?_
  refine rC fX ?_
  refine⟨_,hk1,rE fX ?_⟩
  refine wN ?_
  refine wR0 800 [2,4,5,6] @hw ?_
  refine wN ?_
  have:=ih (done++[V.mk a' bs']) (i+1) (by simp;omega) (by simp at hn ⊢;omega) (fun k' hk'=>hk k' (List.mem_cons_of_mem _ hk')) (by simpa [hu] using hQ)
  simpa [qa8,qaq,V.n,V.kids] using this
theorem qqu (k s N:Int)(k3:k≠3)(k4:k≠4)(k5:k≠5)(rs:List Int)(ps:List Ty)(s1:Slot)(n:Nat)(L:List T)(hn0:n≤1000000)(Q:IExit→(Nat→T)→Heap→Prop):∀(m i:Nat),i+m=n→
 (∀i:Int,Q (.exit 0) (ofL [(2,.ref 0 4 0),(4,.ref 2 2 0),(5,.ref 102 2 0),(6,.int .i64 i),(15,.bool false)]) (hpL [(0,.live ⟨50,[.int .i64 k,.int .i64 s,.list (qab rs),.list (qak ps)]⟩),(1,s1),(2,.live ⟨25,[.int .i64 0,.nil]⟩),(409,.live ⟨25,L⟩),(102,.live ⟨25,[.int .i64 N,.sl 409 (n*2) 2 0 n]⟩)]))→
 WL Tryz.prog 117 qeq (ofL [(2,.ref 0 4 0),(4,.ref 2 2 0),(5,.ref 102 2 0),(6,.int .i64 i)]) (hpL [(0,.live ⟨50,[.int .i64 k,.int .i64 s,.list (qab rs),.list (qak ps)]⟩),(1,s1),(2,.live ⟨25,[.int .i64 0,.nil]⟩),(409,.live ⟨25,L⟩),(102,.live ⟨25,[.int .i64 N,.sl 409 (n*2) 2 0 n]⟩)]) Q:=by
 have k3b:(k==3)=false:=by simp[k3]
 have k45b:((k==4) || (k==5))=false:=by simp[k4,k5]
 intro m
 induction m with
 | zero=>
  intro i hn hQ
  have hd:decide ((i:Int)<(n:Int))=false:=by simp;omega
  refine qaa qeq.eq_1 ?_
  refine wN ?_
  refine wR0 300 [2,4,5,6,15] @hd ?_
  refine wN ?_
  refine qaj (eV cJ0) ?_
  simp only[Bool.false_eq_true,if_false]
  refine wN ?_
  refine qbE ?_
  (try simp only[thn])
  exact hQ _
 | succ m ih=>
  intro i hn hQ
  have hd:decide ((i:Int)<(n:Int))=true:=by simp;omega
  have hw:IntKind.wrap .i64 ((i:Int)+1)=(i:Int)+1:=wrap64 (by omega) (by omega)
  refine qaa qeq.eq_1 ?_
  refine wN ?_
  refine wR0 300 [2,4,5,6,15] @hd ?_
  refine wN ?_
  refine qaj (eV cJ0) ?_
  simp only[if_true]
  refine wN ?_
  refine wR0 400 [2,4,5,6,27] @k3b ?_
  refine wN ?_
  refine qaj (eV cJ0) ?_
  simp only[Bool.false_eq_true,if_false]
  refine wN ?_
  refine wR0 600 [2,4,5,6,50] cJ0 ?_
  refine wN ?_
  refine qaj (eV cJ0) ?_
  simp only[k45b,Bool.false_eq_true,if_false]
  refine wN ?_
  refine wR0 800 [2,4,5,6] @hw ?_
  refine wN ?_
  have:=ih (i+1) (by omega) hQ
  simpa using this
theorem qk5 (s N:Int)(rs:List Int)(ps:List Ty)(s1:Slot)(n:Nat)(hn0:n≤1000000)(Q:IExit→(Nat→T)→Heap→Prop):∀(rest done:List V) (ts us:List Ty) (i:Nat),done.length=i→done.length+rest.length=n→ps=us++ts→(us.length=i∨ts=[]∧us.length≤i)→
 (∀t∈ts,∀v∈rest,TP Tryz.prog 85 [qal t,encV v] (encV (qbi t v)))→
 (∀i:Int,Q (.exit 0) (ofL [(2,.ref 0 4 0),(4,.ref 2 2 0),(5,.ref 102 2 0),(6,.int .i64 i),(15,.bool false)]) (hpL [(0,.live ⟨50,[.int .i64 3,.int .i64 s,.list (qab rs),.list (qak ps)]⟩),(1,s1),(2,.live ⟨25,[.int .i64 0,.nil]⟩),(409,.live ⟨25,qaq (done++qcl ts rest)⟩),(102,.live ⟨25,[.int .i64 N,.sl 409 (n*2) 2 0 n]⟩)]))→
 WL Tryz.prog 117 qeq (ofL [(2,.ref 0 4 0),(4,.ref 2 2 0),(5,.ref 102 2 0),(6,.int .i64 i)]) (hpL [(0,.live ⟨50,[.int .i64 3,.int .i64 s,.list (qab rs),.list (qak ps)]⟩),(1,s1),(2,.live ⟨25,[.int .i64 0,.nil]⟩),(409,.live ⟨25,qaq (done++rest)⟩),(102,.live ⟨25,[.int .i64 N,.sl 409 (n*2) 2 0 n]⟩)]) Q:=by
 have k3b:((3:Int)==3)=true:=rfl
 have k45b:(((3:Int)==4) || ((3:Int)==5))=false:=rfl
 intro rest
 induction rest with
 | nil=>
  intro done ts us i hi hn he hu hk hQ
  have hd:decide ((i:Int)<(n:Int))=false:=by simp at hn ⊢;omega
  refine qaa qeq.eq_1 ?_
  refine wN ?_
  refine wR0 300 [2,4,5,6,15] @hd ?_
  refine wN ?_
  refine qaj (eV cJ0) ?_
  simp only[Bool.false_eq_true,if_false]
  refine wN ?_
  refine qbE ?_
  (try simp only[thn])
  have:=hQ i
  cases ts<;>simpa [qcl] using this
 | cons v rest ih=>
  intro done ts us i hi hn he hu hk hQ
  rcases v with⟨a,bs⟩
  have hlt:(i:Int)<(n:Int):=by simp at hn;omega
  have hd:decide ((i:Int)<(n:Int))=true:=decide_eq_true hlt
  have hw:IntKind.wrap .i64 ((i:Int)+1)=(i:Int)+1:=wrap64 (by omega) (by omega)
  have hlen:(qaq (done++V.mk a bs::rest)).length=n*2:=by rw[qaz];simp;simp at hn;omega
  refine qaa qeq.eq_1 ?_
  refine wN ?_
  refine wR0 300 [2,4,5,6,15] @hd ?_
  refine wN ?_
  refine qaj (eV cJ0) ?_
  simp only[if_true]
  refine wN ?_
  cases ts with
  | nil=>
   have hd2:decide ((i:Int)<((qak ps).length:Int))=false:=by
    simp only[qap,he,List.append_nil];simp;rcases hu with h | h<;>omega
   have fX:=(cJ2 @k3b @hd2)
   refine wR0 400 [2,4,5,6,27] fX ?_
   refine wN ?_
   refine qaj (eV cJ0) ?_
   simp only[Bool.false_eq_true,if_false]
   refine wN ?_
   refine wR0 600 [2,4,5,6,50] cJ0 ?_
   refine wN ?_
   refine qaj (eV cJ0) ?_
   simp only[k45b,Bool.false_eq_true,if_false]
   refine wN ?_
   refine wR0 800 [2,4,5,6] @hw ?_
   refine wN ?_
   have:=ih (done++[V.mk a bs]) [] us (i+1) (by simp;omega) (by simp at hn ⊢;omega) he (.inr ⟨rfl,by rcases hu with h | h<;>omega⟩) (fun t ht=>by cases ht) (by cases rest<;>simpa [qcl] using hQ)
   simpa using this
  | cons p ts=>
   have hul:us.length=i:=hu.resolve_right (by simp)
   have hlt2:(i:Int)<((qak ps).length:Int):=by simp[qap,he];omega
   have hd2:decide ((i:Int)<((qak ps).length:Int))=true:=decide_eq_true hlt2
   have hg2:(qak ps).getD (i:Int).toNat .undef=qal p:=by rw[Int.toNat_natCast,he,←hul];exact qcW _ _ _
   have ht2:=qd3 done a bs rest i hi
   have htl:=qc6 done (V.mk a bs::rest) i hi
   have hdr:=qc5 done rest (V.mk a bs) i hi
   have hk1:=hk p (List.mem_cons_self ..) (V.mk a bs) (List.mem_cons_self ..)
   rcases hu1:qbi p (V.mk a bs) with⟨a',bs'⟩
   rw[hu1] at hk1
   have fX:=(cJ2 @k3b @hd2)
   refine wR0 400 [2,4,5,6,27] fX ?_
   refine wN ?_
   refine qaj (eV cJ0) ?_
   simp only[if_true]
   refine wN ?_
   have fX:=(cJ8 @hg2 @qbO @qbH @ht2 @encV.eq_1 @htl @hdr @hlen)
   refine wRn 500 [2,4,5,6] fX ?_
   refine rC fX ?_
   refine⟨_,hk1,rE fX ?_⟩
   refine wN ?_
   refine wR0 600 [2,4,5,6,50] cJ0 ?_
   refine wN ?_
   refine qaj (eV cJ0) ?_
   simp only[k45b,Bool.false_eq_true,if_false]
   refine wN ?_
   refine wR0 800 [2,4,5,6] @hw ?_
   refine wN ?_
   have:=ih (done++[V.mk a' bs']) ts (us++[p]) (i+1) (by simp;omega) (by simp at hn ⊢;omega) (by simp[he]) (.inl (by simp;omega)) (fun t ht k' hk'=>hk t (List.mem_cons_of_mem _ ht) k' (List.mem_cons_of_mem _ hk')) (by simpa [qcl,hu1] using hQ)
   simpa [qa8,qaq,V.n,V.kids] using this
theorem qsz (N:Int)(s0 s1:Slot)(n:Nat)(hn0:n≤1000000)(i:Int)(a:Int)(bs:List V)(ha:(V.mk a bs).fit)(Q:IExit→(Nat→T)→Heap→Prop):∀(ys zs:List V) (j:Nat),ys.length=j→ys.length+1+zs.length=n→
 (∀(j:Int),Q (.exit 4) (ofL [(4,.ref 2 2 0),(5,.ref 102 2 0),(7,.int .i64 i),(8,.int .i64 j),(93,.bool false)]) (hpL [(0,s0),(1,s1),(2,.live ⟨25,[.int .i64 0,.nil]⟩),(409,.live ⟨25,qaq ((insR (V.mk a bs) ys).reverse++zs)⟩),(102,.live ⟨25,[.int .i64 N,.sl 409 (n*2) 2 0 n]⟩)]))→
 WL Tryz.prog 117 qni (ofL [(4,.ref 2 2 0),(5,.ref 102 2 0),(7,.int .i64 i),(8,.int .i64 j)]) (hpL [(0,s0),(1,s1),(2,.live ⟨25,[.int .i64 0,.nil]⟩),(409,.live ⟨25,qaq (ys.reverse++V.mk a bs::zs)⟩),(102,.live ⟨25,[.int .i64 N,.sl 409 (n*2) 2 0 n]⟩)]) Q:=by
 intro ys
 induction ys with
 | nil=>
  intro zs j hj hn hQ
  have hd:decide ((j:Int) > 0)=false:=by simp at hj;simp[←hj]
  refine qaa qni.eq_1 ?_
  refine wN ?_
  refine wR0 1400 [4,5,7,8,93] @hd ?_
  refine wN ?_
  refine qaj (eV cJ0) ?_
  simp only[Bool.false_eq_true,if_false]
  refine wN ?_
  refine qbE ?_
  (try simp only[thn])
  have:=hQ j
  simpa [insR] using this
 | cons y ys ih=>
  intro zs j hj hn hQ
  rcases y with⟨b,cs⟩
  simp only[List.length_cons] at hj hn
  obtain⟨m,rfl⟩:∃m,j=m+1:=⟨ys.length,by omega⟩
  have hm:ys.length=m:=by omega
  have hlt:((m+1:Nat):Int)<(n:Int):=by omega
  have hlt2:(m:Int)<(n:Int):=by omega
  have hd:decide (((m+1:Nat):Int) > 0)=true:=decide_eq_true (by omega)
  have hw3:IntKind.wrap .i64 (((m+1:Nat):Int) - 1)=(m:Int):=by rw[wrap64 (by omega) (by omega)];omega
  rw[List.reverse_cons,List.append_assoc,List.singleton_append]
  have hlen:(qaq (ys.reverse++V.mk b cs::V.mk a bs::zs)).length=n*2:=by rw[qaz];simp;omega
  have hlen1:(qaq (ys.reverse++V.mk b cs::V.mk b cs::zs)).length=n*2:=by rw[qaz];simp;omega
  have hm':ys.reverse.length=m:=by simpa using hm
  have e0:ys.reverse++V.mk b cs::V.mk a bs::zs=(ys.reverse++[V.mk b cs])++V.mk a bs::zs:=by simp
  have hm1:(ys.reverse++[V.mk b cs]).length=m+1:=by simp[hm]
  have h1:List.take 2 (List.drop (((m+1:Nat):Int).toNat*2) (qaq (ys.reverse++V.mk b cs::V.mk a bs::zs)))=[.int .i64 a,.list (qac bs)]:=by rw[e0];exact qd3 _ a bs zs _ hm1
  have h2:=qd3 ys.reverse b cs (V.mk a bs::zs) m hm'
  have h3:List.take (((m+1:Nat):Int).toNat*2) (qaq (ys.reverse++V.mk b cs::V.mk a bs::zs))=qaq (ys.reverse++[V.mk b cs]):=by rw[e0];exact qc6 _ _ _ hm1
  have h4:List.drop (((m+1:Nat):Int).toNat*2+2) (qaq (ys.reverse++V.mk b cs::V.mk a bs::zs))=qaq zs:=by rw[e0];exact qc5 _ zs _ _ hm1
  have h5:qaq (ys.reverse++[V.mk b cs])++[T.int .i64 b,T.list (qac cs)]++qaq zs=qaq (ys.reverse++V.mk b cs::V.mk b cs::zs):=by simp[qa8,qaq,V.n,V.kids]
  have h6:=qc6 ys.reverse (V.mk b cs::V.mk b cs::zs) m hm'
  have h7:=qc5 ys.reverse (V.mk b cs::zs) (V.mk b cs) m hm'
  refine qaa qni.eq_1 ?_
  refine wN ?_
  have fX:=(cJ4 @hd @hw3 @h1 @h2)
  refine wRn 1400 [4,5,7,8,93] fX ?_
  refine rC fX ?_
  refine⟨_,qmP (V.mk a bs) (V.mk b cs) ha,rE fX ?_⟩
  refine wN ?_
  rcases hc:decide (cmpV (V.mk a bs) (V.mk b cs)<0) with _ | _
  ·refine qaj (eV cJ0) ?_
   simp only[Bool.false_eq_true,if_false]
   refine wN ?_
   refine qbE ?_
   (try simp only[thn])
   have:=hQ (m+1:Nat)
   have hc':¬cmpV (V.mk a bs) (V.mk b cs)<0:=by simpa using hc
   simpa [insR,hc'] using this
  ·refine qaj (eV cJ0) ?_
   simp only[if_true]
   refine wN ?_
   have hc':cmpV (V.mk a bs) (V.mk b cs)<0:=by simpa using hc
   have fX:=(cJ8 @hw3 @h1 @h2 @h3 @h4 @h5 @h6 (cJ3 @h7 @hlen @hlen1))
   refine wR0 1500 [4,5,7,8] fX ?_
   refine wN ?_
   refine wR0 1600 [4,5,7,8] @hw3 ?_
   refine wN ?_
   have:=ih (V.mk b cs::zs) m hm (by simp;omega) (by simpa [insR,hc'] using hQ)
   simpa [qa8,qaq,V.n,V.kids] using this
theorem qgM (x:V):∀ys:List V,(insR x ys).length=ys.length+1
 | []=>rfl
 | y::ys=>by simp only[insR];split<;>simp[qgM x ys]
def qcg (acc l:List V):List V:=l.foldl (fun acc x=>insR x acc) acc
theorem qd5 (acc l:List V)(x:V):qcg acc (x::l)=qcg (insR x acc) l:=rfl
theorem qgl (N:Int)(s0 s1:Slot)(n:Nat)(hn0:n≤1000000)(Q:IExit→(Nat→T)→Heap→Prop):∀(rest acc:List V) (i:Nat),acc.length=i→acc.length+rest.length=n→(∀v∈rest,v.fit)→
 (∀(j:Int),Q (.exit 2) (ofL [(4,.ref 2 2 0),(5,.ref 102 2 0),(7,.int .i64 j),(73,.bool false)]) (hpL [(0,s0),(1,s1),(2,.live ⟨25,[.int .i64 0,.nil]⟩),(409,.live ⟨25,qaq (qcg acc rest).reverse⟩),(102,.live ⟨25,[.int .i64 N,.sl 409 (n*2) 2 0 n]⟩)]))→
 WL Tryz.prog 117 qkD (ofL [(4,.ref 2 2 0),(5,.ref 102 2 0),(7,.int .i64 i)]) (hpL [(0,s0),(1,s1),(2,.live ⟨25,[.int .i64 0,.nil]⟩),(409,.live ⟨25,qaq (acc.reverse++rest)⟩),(102,.live ⟨25,[.int .i64 N,.sl 409 (n*2) 2 0 n]⟩)]) Q:=by
 intro rest
 induction rest with
 | nil=>
  intro acc i hi hn hf hQ
  have hd:decide ((i:Int)<(n:Int))=false:=decide_eq_false (by simp at hn;omega)
  refine qaa qkD.eq_1 ?_
  refine wN ?_
  refine wR0 1200 [4,5,7,73] @hd ?_
  refine wN ?_
  refine qaj (eV cJ0) ?_
  simp only[Bool.false_eq_true,if_false]
  refine wN ?_
  refine qbE ?_
  (try simp only[thn])
  have:=hQ i
  simpa [qcg] using this
 | cons v rest ih=>
  intro acc i hi hn hf hQ
  rcases v with⟨a,bs⟩
  simp only[List.length_cons] at hn
  have hd:decide ((i:Int)<(n:Int))=true:=decide_eq_true (by omega)
  have hw:IntKind.wrap .i64 ((i:Int)+1)=(i:Int)+1:=wrap64 (by omega) (by omega)
  refine qaa qkD.eq_1 ?_
  refine wN ?_
  refine wR0 1200 [4,5,7,73] @hd ?_
  refine wN ?_
  refine qaj (eV cJ0) ?_
  simp only[if_true]
  refine wN ?_
  refine wR0 1300 [4,5,7,8] cJ0 ?_
  refine wN ?_
  refine qbN ?_
  refine qsz N s0 s1 n hn0 i a bs (hf _ (List.mem_cons_self ..)) _ acc rest i hi (by omega) ?_
  intro j
  simp only[inB,thn,if_true]
  refine wR0 1700 [4,5,7] @hw ?_
  refine wN ?_
  have:=ih (insR (V.mk a bs) acc) (i+1) (by rw[qgM];omega) (by rw[qgM];omega) (fun v hv=>hf v (List.mem_cons_of_mem _ hv)) (by simpa [qd5] using hQ)
  simpa using this
theorem qmX (N:Int)(ks:List V)(hv:(V.mk N ks).fit):TC Tryz.prog 25 [.agg [.int .i64 N,.list (qac ks)]] (hp []) (.agg [.int .i64 N,rowT 409 ks]) ((hp []).upd (rowH 409 25 ks)):=by
 have h:=qlR N ks hv
 cases ks with
 | nil=>exact h
 | cons k ks=>
  have e:hpL (rowH 409 25 (k::ks))=(hp []).upd (rowH 409 25 (k::ks)):=(qbD 409 _ [] []).symm
  rw[←e];exact h
theorem qqa {N:Int}{ks ls:List V}(h:(V.mk N ks).fit)(hl:ls.length≤ks.length)(hf:∀v∈ls,v.fit):(V.mk N ls).fit:=by
 have:=V.fit_kids h
 simp only[V.kids] at this
 simp only[V.fit]
 exact⟨by omega,qdo hf⟩
theorem qno (x:V):∀(ys:List V),∀v∈insR x ys,v=x∨v∈ys
 | [],v,hv=>by simp only[insR,List.mem_singleton] at hv;exact .inl hv
 | y::ys,v,hv=>by
  simp only[insR] at hv
  split at hv
  ·rcases List.mem_cons.1 hv with rfl | hv
   ·exact .inr (List.mem_cons_self ..)
   ·rcases qno x ys v hv with h | h
    ·exact .inl h
    ·exact .inr (List.mem_cons_of_mem _ h)
  ·rcases List.mem_cons.1 hv with rfl | hv
   ·exact .inl rfl
   ·exact .inr hv
theorem qiB:∀(l acc:List V),∀v∈qcg acc l,v∈l∨v∈acc
 | [],acc,v,hv=>.inr hv
 | x::l,acc,v,hv=>by
  rcases qiB l _ v (by simpa [qcg] using hv) with h | h
  ·exact .inl (List.mem_cons_of_mem _ h)
  ·rcases qno x acc v h with rfl | h
   ·exact .inl (List.mem_cons_self ..)
   ·exact .inr h
theorem qch:∀(l acc:List V),(qcg acc l).length=l.length+acc.length
 | [],acc=>by simp[qcg]
 | x::l,acc=>by rw[qd5,qch l,qgM];simp;omega
theorem qeC:∀(ps:List Ty) (ks:List V),(qcl ps ks).length=ks.length
 | p::ps,v::vs=>by simp[qcl,qeC ps vs]
 | [],vs=>by simp[qcl]
 | _::_,[]=>by simp[qcl]
mutual
theorem qeB:∀(t:Ty) (v:V),v.fit→(qbi t v).fit
 | .mk k s rs ps,.mk n ks,hv=>by
  have hv':=V.fit_kids hv
  simp only[V.kids] at hv'
  simp only[qbi,V.n,V.kids]
  split
  ·exact qqa hv (by rw[qeC];omega) (qh5 ps ks hv'.2)
  split
  ·exact qqa hv (qeA ps ks hv'.2).1 (qeA ps ks hv'.2).2
  split
  ·have h:=qeA ps ks hv'.2
   refine qqa hv ?_ fun v hv=>?_
   ·show (qcg [] (qd8 ps ks)).reverse.length≤_
    rw[List.length_reverse,qch];simpa using h.1
   ·rcases qiB _ _ v (by simpa [qcg] using hv) with h' | h'
    ·exact h.2 v h'
    ·cases h'
  ·exact hv
theorem qh5:∀(ps:List Ty) (ks:List V),(∀v∈ks,v.fit)→∀v∈qcl ps ks,v.fit
 | p::ps,u::vs,h,v,hv=>by
  simp only[qcl] at hv
  rcases List.mem_cons.1 hv with rfl | hv
  ·exact qeB p u (h u (List.mem_cons_self ..))
  ·exact qh5 ps vs (fun v hv=>h v (List.mem_cons_of_mem _ hv)) v hv
 | [],vs,h,v,hv=>h v (by simpa [qcl] using hv)
 | _::_,[],h,v,hv=>by simp[qcl] at hv
theorem qeA:∀(ps:List Ty) (ks:List V),(∀v∈ks,v.fit)→(qd8 ps ks).length≤ks.length∧∀v∈qd8 ps ks,v.fit
 | p::_,vs,h=>⟨by simp[qd8],fun v hv=>by
  simp only[qd8,List.mem_map] at hv
  obtain⟨u,hu,rfl⟩:=hv
  exact qeB p u (h u hu)⟩
 | [],vs,h=>⟨by simp[qd8],fun v hv=>h v (by simpa [qd8] using hv)⟩
end
end
end Go.Proofs.YtpplncjaihgimaaGreat
