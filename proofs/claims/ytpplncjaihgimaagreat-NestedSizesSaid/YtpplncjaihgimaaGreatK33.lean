/- Contracts of functions of the program, for all arguments that they name. -/
import Derived.Test.YtpplncjaihgimaaGreatK31
namespace Go.Proofs.YtpplncjaihgimaaGreat
set_option linter.unusedVariables false
section
open Go.RowKit
set_option maxHeartbeats 2000000
def qb5 (ps:List (List Int)):List T:=ps.map fun p=>.list (qab p)
theorem qcB (ps:List (List Int)):(qb5 ps).length=ps.length:=by simp[qb5]
theorem qbc (D:Nat→Bool):∀ps,clL D (qb5 ps)=true
 | []=>rfl
 | p::ps=>by
  show clL D (.list (qab p)::qb5 ps)=true
  simp only[clL,qbc D ps,Bool.and_true]
  simp[T.cl,qae]
theorem qeM (ps:List (List Int)):Ones (qb5 ps):=fun c hc=>by
 obtain⟨p,_,rfl⟩:=List.mem_map.1 hc
 rfl
theorem qix (ps:List (List Int)):flat (qb5 ps)=qb5 ps:=by
 induction ps with
 | nil=>rfl
 | cons p ps ih=>simp only[qb5,List.map_cons,qbe] at ih ⊢;rw[ih];rfl
def qcf (id:Nat)(done:List (List Int)):T:=match done with
 | []=>.nil
 | _::ds=>.sl id (ds.length+1) 0 0 (ds.length+1)
abbrev sQ (ps:List (List Int)):Slot:=.live ⟨82,qb5 ps⟩
def qce (id:Nat)(done:List (List Int)):List (Nat×Slot):=match done with
 | []=>[]
 | d::ds=>[(id,sQ (d::ds))]
theorem qgK {H:Heap}{id:Nat}(d:List Int)(ds:List (List Int))(hb:H id=sQ (d::ds)):Frz H (.sl id (ds.length+1) 0 0 (ds.length+1)) (.list (qb5 (d::ds))):=by
 refine Frz.sl hb (qcB _) (by simp[esz]) (qcB _) (fun x hx=>?_) (by rw[qix];exact qeM _) fun k hk=>?_
 ·obtain⟨p,_,rfl⟩:=List.mem_map.1 hx
  rfl
 ·rw[qix,Nat.zero_add]
  exact .same (qbb (qbc _ _) k)
theorem fz2 {H:Heap}{D:Nat→Bool}{id ty:Nat}(a b:Int)(hb:H id=.live ⟨ty,[.int .i64 a,.int .i64 b]⟩)(hd:D id=false):Fz H D (.sl id 2 0 0 2) (.list (qab [a,b])):=qdp [a,b] hb hd rfl rfl
theorem fz1 {H:Heap}{D:Nat→Bool}{id ty:Nat}(a:Int)(hb:H id=.live ⟨ty,[.int .i64 a]⟩)(hd:D id=false):Fz H D (.sl id 1 0 0 1) (.list (qab [a])):=qdp [a] hb hd rfl rfl
theorem qgT (a:Int)(l:List Nd)(X:T)(hX:∀D,X.cl D=true)(hat:∀(A:List Nd) (x:Nd) (B:List Nd),l=A++x::B→∃ys,X=.list ys∧ys.length=l.length∧ys.getD (A.length:Int).toNat .undef=.agg [.int .i64 x.lab,kidT x.kids])(hl:l.length≤1000000)(Q:IExit→(Nat→T)→Heap→Prop):∀(rest pre:List Nd) (n:Nat) (done:List (List Int)),l=pre++rest→pre.length=n→done.length≤n→
 (∀i:Int,Q (.exit 0) (ofL [(1,.list (qab [a])),(5,qcf 904 (done++qbU [a] n rest)),(14,X),(15,.int .i64 l.length),(16,.int .i64 i),(17,.bool false)]) (hpL (qce 904 (done++qbU [a] n rest))))→
 WL Tryz.prog 59 qcM (ofL [(1,.list (qab [a])),(5,qcf 904 done),(14,X),(15,.int .i64 l.length),(16,.int .i64 n)]) (hpL (qce 904 done)) Q:=by
 have hg1:(qab [a]).getD (0:Int).toNat .undef=.int .i64 a:=rfl
 have hl1:(qab [a]).length=1:=rfl
 have hb1:(0:Int)<((qab [a]).length:Int):=by rw[hl1];decide
 have h11:(((1:Nat):Int)==1)=true:=rfl
 intro rest
 induction rest with
 | nil=>
  intro pre n done he hn hdl hQ
  have hd:decide ((n:Int)<(l.length:Int))=false:=by simp[he,hn]
  rw[qbU,List.append_nil] at hQ
  have fX:=@hd
  refine qaa qcM.eq_1 ?_
  refine wR0 500 [1,5,14,15,16,17] fX ?_
  refine wF @hd ?_
  refine wX ?_
  refine wN ?_
  exact hQ _
 | cons x rest ih=>
  intro pre n done he hn hdl hQ
  have hlt:(n:Int)<(l.length:Int):=by rw[he];simp;omega
  have hlb:n≤1000000:=by rw[he] at hl;simp at hl;omega
  have hd:decide ((n:Int)<(l.length:Int))=true:=decide_eq_true hlt
  obtain⟨ys,rfl,hyl,hg⟩:=hat pre x rest he
  rw[hn] at hg
  have hyn:(n:Int)<(ys.length:Int):=by rw[hyl];exact hlt
  have hyc:∀D,clL D ys=true:=fun D=>by have:=hX D;simpa [T.cl] using this
  have hw:IntKind.wrap .i64 ((n:Int)+1)=((n+1:Nat):Int):=by rw[wrap64 (by omega) (by omega)];rfl
  rw[qbU,←List.append_assoc] at hQ
  by_cases hx:x.lab=a
  ·have hne:(x.lab != a)=false:=by simp[hx]
   have hnp:qgj [a] n x=[[(n:Int)]]:=by simp[qgj,hx]
   rw[hnp] at hQ
   have hQ':=ih (pre++[x]) (n+1) (done++[[(n:Int)]]) (by simpa using he) (by simp[hn]) (by simp;omega) hQ
   cases done with
   | nil=>
    simp only[qcf,qce,List.nil_append] at hQ' ⊢
    have fX:=(cJ8 @hd @hg @hw @qaI @hg1 @hl1 @h11 @hne)
    refine qaa qcM.eq_1 ?_
    refine W_gc ?_
    refine wR0 500 [1,5,14,15,16,17] fX ?_
    refine wT fX ?_
    refine wR0 600 [1,5,6,7,14,15,16] fX ?_
    refine wR0 700 [1,5,6,7,14,15,16,41] fX ?_
    refine wF fX ?_
    refine wR0 800 [1,5,6,7,14,15,16,48] fX ?_
    refine wT fX ?_
    refine wR0 900 [1,5,14,15,16] fX ?_
    simp only[thn,inB]
    refine qbW (l':=[(1,.list (qab [a])),(5,.sl 904 1 0 0 1),(14,.list ys),(15,.int .i64 l.length),(16,.int .i64 n)]) (hl':=[(603,.dead),(902,.dead),(903,.dead),(904,sQ [[(n:Int)]])]) [904] (.cons (.same rfl) (.cons (.same rfl) (.cons (.same (by simp[T.cl,hyc])) (.cons (.same rfl) (.cons (.same rfl) .nil))))) (.dead rfl (fun h=>by cases h) (.dead rfl (fun h=>by cases h) (.dead rfl (fun h=>by cases h) (.keep rfl (.liveL (.cons (fz1 (n:Int) rfl rfl) .nil) rfl) .nil)))) ?_
    refine wR0 1600 [1,5,14,15,16] fX ?_
    refine wN ?_
    refine qaC [904] (by simp[inL]) (by simp[inL,T.cl,qae,hyc]) (by simp[qam,inL,Slot.cl,qbc]) ?_
    simpa [qam,inL] using hQ'
   | cons p done=>
    have hp:done.length+1≤1000000:=by simp at hdl;omega
    have hs:qb5 (p::(done++[[(n:Int)]]))=qb5 (p::done)++[.list (qab [(n:Int)])]:=by simp[qb5]
    simp only[List.cons_append,qcf,qce,sQ,hs,List.length_append,List.length_cons,List.length_nil,Nat.zero_add] at hQ' ⊢
    have fX:=(cJ8 @hd @hg @hw @qaI @hg1 @hl1 @h11 (cJ2 @hne @qcB))
    refine qaa qcM.eq_1 ?_
    refine W_gc ?_
    refine wR0 500 [1,5,14,15,16,17] fX ?_
    refine wT fX ?_
    refine wR0 600 [1,5,6,7,14,15,16] fX ?_
    refine wR0 700 [1,5,6,7,14,15,16,41] fX ?_
    refine wF fX ?_
    refine wR0 800 [1,5,6,7,14,15,16,48] fX ?_
    refine wT fX ?_
    refine wR0 900 [1,5,14,15,16] fX ?_
    simp only[thn,inB]
    refine qbW (l':=[(1,.list (qab [a])),(5,.sl 904 (done.length+1+1) 0 0 (done.length+1+1)),(14,.list ys),(15,.int .i64 l.length),(16,.int .i64 n)]) (hl':=[(904,.live ⟨82,qb5 (p::done)++[.list (qab [(n:Int)])]⟩),(603,.dead),(902,.dead),(903,.dead)]) [904] (.cons (.same rfl) (.cons (.same rfl) (.cons (.same (by simp[T.cl,hyc])) (.cons (.same rfl) (.cons (.same rfl) .nil))))) (.keep rfl (.liveApp (qbc _ _) (qeM _) (.cons (fz1 (n:Int) rfl rfl) .nil) rfl) (.dead rfl (fun h=>by cases h) (.dead rfl (fun h=>by cases h) (.dead rfl (fun h=>by cases h) .nil)))) ?_
    refine wR0 1600 [1,5,14,15,16] fX ?_
    refine wN ?_
    refine qaC [904] (by simp[inL]) (by simp[inL,T.cl,qae,hyc]) (by simp[qam,inL,Slot.cl,T.cl,clL,qao,qbc,qae]) ?_
    simpa [qam,inL] using hQ'
  ·have hne:(x.lab != a)=true:=by simpa using hx
   have hnp:qgj [a] n x=[]:=by simp[qgj,hx]
   rw[hnp,List.append_nil] at hQ
   have hQ':=ih (pre++[x]) (n+1) done (by simpa using he) (by simp[hn]) (by omega) hQ
   cases done with
   | nil=>
    simp only[qcf,qce] at hQ' ⊢
    have fX:=(cJ8 @hd @hg @hw @qaI @hg1 @hl1 @h11 @hne)
    refine qaa qcM.eq_1 ?_
    refine W_gc ?_
    refine wR0 500 [1,5,14,15,16,17] fX ?_
    refine wT fX ?_
    refine wR0 600 [1,5,6,7,14,15,16] fX ?_
    refine wR0 700 [1,5,6,7,14,15,16,41] fX ?_
    refine wT fX ?_
    refine wR0 1600 [1,5,14,15,16] fX ?_
    refine wN ?_
    refine qaC [904] (by simp[inL]) (by simp[T.cl,qae,hyc]) (by simp[qam,inL,Slot.cl]) ?_
    simpa [qam,inL] using hQ'
   | cons p done=>
    simp only[qcf,qce] at hQ' ⊢
    have fX:=(cJ8 @hd @hg @hw @qaI @hg1 @hl1 @h11 @hne)
    refine qaa qcM.eq_1 ?_
    refine W_gc ?_
    refine wR0 500 [1,5,14,15,16,17] fX ?_
    refine wT fX ?_
    refine wR0 600 [1,5,6,7,14,15,16] fX ?_
    refine wR0 700 [1,5,6,7,14,15,16,41] fX ?_
    refine wT fX ?_
    refine wR0 1600 [1,5,14,15,16] fX ?_
    refine wN ?_
    refine qaC [904] (by simp[inL]) (by simp[inL,T.cl,qae,hyc]) (by simp[qam,inL,Slot.cl,qbc]) ?_
    simpa [qam,inL] using hQ'
set_option maxHeartbeats 8000000 in
theorem qk3 (a b:Int)(lb:List Int)(X:T)(hX:∀D,X.cl D=true)(N i:Int)(ks:List Int)(c6:List T)(h6:∀D,clL D c6=true)(o6:Ones c6)(hl:ks.length≤1000000)(Q:IExit→(Nat→T)→Heap→Prop):∀(rest pre:List Int) (k:Nat) (done:List (List Int)),ks=pre++rest→pre.length=k→done.length≤k→
 (∀j:Int,Q (.exit 3) (ofL [(1,.list (qab (a::b::lb))),(5,qcf 1405 (done++qdq i b k rest)),(6,.int .i64 i),(14,X),(15,.int .i64 N),(16,.int .i64 i),(22,.list (qab ks)),(23,.int .i64 ks.length),(24,.int .i64 j),(25,.bool false)]) (hpL ((603,sN c6)::qce 1405 (done++qdq i b k rest))))→
 WL Tryz.prog 59 qdz (ofL [(1,.list (qab (a::b::lb))),(5,qcf 1405 done),(6,.int .i64 i),(14,X),(15,.int .i64 N),(16,.int .i64 i),(22,.list (qab ks)),(23,.int .i64 ks.length),(24,.int .i64 k)]) (hpL ((603,sN c6)::qce 1405 done)) Q:=by
 have hg1:(qab (a::b::lb)).getD (1:Int).toNat .undef=.int .i64 b:=rfl
 have hl1:(qab (a::b::lb)).length=lb.length+2:=by simp[qab]
 have hb1:(1:Int)<((qab (a::b::lb)).length:Int):=by rw[hl1];omega
 have hek:(qab ks).length=ks.length:=qah ks
 intro rest
 induction rest with
 | nil=>
  intro pre k done he hk hdl hQ
  have hd:decide ((k:Int)<(ks.length:Int))=false:=by simp[he,hk]
  rw[qdq,List.append_nil] at hQ
  have fX:=@hd
  refine qaa qdz.eq_1 ?_
  refine wR0 1100 [1,5,6,14,15,16,22,23,24,25] fX ?_
  refine wF @hd ?_
  refine wX ?_
  refine wN ?_
  exact hQ _
 | cons y rest ih=>
  intro pre k done he hk hdl hQ
  have hlt:(k:Int)<(ks.length:Int):=by rw[he];simp;omega
  have hlb:k≤1000000:=by rw[he] at hl;simp at hl;omega
  have hd:decide ((k:Int)<(ks.length:Int))=true:=decide_eq_true hlt
  have hg:(qab ks).getD (k:Int).toNat .undef=.int .i64 y:=by rw[qdu ks k (by rw[he];simp;omega),he,←hk];simp[List.getD_eq_getElem?_getD]
  have hw:IntKind.wrap .i64 ((k:Int)+1)=((k+1:Nat):Int):=by rw[wrap64 (by omega) (by omega)];rfl
  rw[qdq,←List.append_assoc] at hQ
  by_cases hy:y=b
  ·have hyb:(y==b)=true:=by simp[hy]
   rw[if_pos hy] at hQ
   have hQ':=ih (pre++[y]) (k+1) (done++[[i,(k:Int)]]) (by simpa using he) (by simp[hk]) (by simp;omega) hQ
   cases done with
   | nil=>
    simp only[qcf,qce,List.nil_append] at hQ' ⊢
    have fX:=(cJ8 @hd @hg @hw @qaI @qcp @hg1 @hl1 (cJ2 @hek @hyb))
    refine qaa qdz.eq_1 ?_
    refine W_gc ?_
    refine wR0 1100 [1,5,6,14,15,16,22,23,24,25] fX ?_
    refine wT fX ?_
    refine wR0 1200 [1,5,6,8,9,14,15,16,22,23,24] fX ?_
    refine wR0 1300 [1,5,6,8,14,15,16,22,23,24,33] fX ?_
    refine wT fX ?_
    refine wR0 1400 [1,5,6,14,15,16,22,23,24] fX ?_
    simp only[thn,inB]
    refine qbW (l':=[(1,.list (qab (a::b::lb))),(5,.sl 1405 1 0 0 1),(6,.int .i64 i),(14,X),(15,.int .i64 N),(16,.int .i64 i),(22,.list (qab ks)),(23,.int .i64 ks.length),(24,.int .i64 k)]) (hl':=[(603,sN c6),(1403,.dead),(1404,.dead),(1405,sQ [[i,(k:Int)]])]) [603,1405] (.cons (.same (by simp[T.cl,qae])) (.cons (.same rfl) (.cons (.same rfl) (.cons (.same (hX _)) (.cons (.same rfl) (.cons (.same rfl) (.cons (.same (by simp[T.cl,qae])) (.cons (.same rfl) (.cons (.same rfl) .nil))))))))) (.keep rfl (.liveS (h6 _) o6) (.dead rfl (fun h=>by cases h) (.dead rfl (fun h=>by cases h) (.keep rfl (.liveL (.cons (fz2 i (k:Int) rfl rfl) .nil) rfl) .nil)))) ?_
    refine wR0 1500 [1,5,6,14,15,16,22,23,24] fX ?_
    refine wN ?_
    refine qaC [603,1405] (by simp[inL]) (by simp[inL,T.cl,qae,hX]) (by simp[qam,inL,Slot.cl,qbc,h6]) ?_
    simpa [qam,inL] using hQ'
   | cons p done=>
    have hp:done.length+1≤1000000:=by simp at hdl;omega
    have hs:qb5 (p::(done++[[i,(k:Int)]]))=qb5 (p::done)++[.list (qab [i,(k:Int)])]:=by simp[qb5]
    simp only[List.cons_append,qcf,qce,sQ,hs,List.length_append,List.length_cons,List.length_nil,Nat.zero_add] at hQ' ⊢
    have fX:=(cJ8 @hd @hg @hw @qaI @qcp @hg1 @hl1 (cJ3 @hek @hyb @qcB))
    refine qaa qdz.eq_1 ?_
    refine W_gc ?_
    refine wR0 1100 [1,5,6,14,15,16,22,23,24,25] fX ?_
    refine wT fX ?_
    refine wR0 1200 [1,5,6,8,9,14,15,16,22,23,24] fX ?_
    refine wR0 1300 [1,5,6,8,14,15,16,22,23,24,33] fX ?_
    refine wT fX ?_
    refine wR0 1400 [1,5,6,14,15,16,22,23,24] fX ?_
    simp only[thn,inB]
    refine qbW (l':=[(1,.list (qab (a::b::lb))),(5,.sl 1405 (done.length+1+1) 0 0 (done.length+1+1)),(6,.int .i64 i),(14,X),(15,.int .i64 N),(16,.int .i64 i),(22,.list (qab ks)),(23,.int .i64 ks.length),(24,.int .i64 k)]) (hl':=[(603,sN c6),(1405,.live ⟨82,qb5 (p::done)++[.list (qab [i,(k:Int)])]⟩),(1403,.dead),(1404,.dead)]) [603,1405] (.cons (.same (by simp[T.cl,qae])) (.cons (.same rfl) (.cons (.same rfl) (.cons (.same (hX _)) (.cons (.same rfl) (.cons (.same rfl) (.cons (.same (by simp[T.cl,qae])) (.cons (.same rfl) (.cons (.same rfl) .nil))))))))) (.keep rfl (.liveS (h6 _) o6) (.keep rfl (.liveApp (qbc _ _) (qeM _) (.cons (fz2 i (k:Int) rfl rfl) .nil) rfl) (.dead rfl (fun h=>by cases h) (.dead rfl (fun h=>by cases h) .nil)))) ?_
    refine wR0 1500 [1,5,6,14,15,16,22,23,24] fX ?_
    refine wN ?_
    refine qaC [603,1405] (by simp[inL]) (by simp[inL,T.cl,qae,hX]) (by simp[qam,inL,Slot.cl,T.cl,clL,qao,qbc,qae,h6]) ?_
    simpa [qam,inL] using hQ'
  ·have hyb:(y==b)=false:=by simpa using hy
   rw[if_neg hy,List.append_nil] at hQ
   have hQ':=ih (pre++[y]) (k+1) done (by simpa using he) (by simp[hk]) (by omega) hQ
   cases done with
   | nil=>
    simp only[qcf,qce] at hQ' ⊢
    have fX:=(cJ8 @hd @hg @hw @qaI @qcp @hg1 @hl1 (cJ2 @hek @hyb))
    refine qaa qdz.eq_1 ?_
    refine W_gc ?_
    refine wR0 1100 [1,5,6,14,15,16,22,23,24,25] fX ?_
    refine wT fX ?_
    refine wR0 1200 [1,5,6,8,9,14,15,16,22,23,24] fX ?_
    refine wR0 1300 [1,5,6,8,14,15,16,22,23,24,33] fX ?_
    refine wF fX ?_
    refine wR0 1500 [1,5,6,14,15,16,22,23,24] fX ?_
    refine wN ?_
    refine qaC [603,1405] (by simp[inL]) (by simp[T.cl,qae,hX]) (by simp[qam,inL,Slot.cl,h6]) ?_
    simpa [qam,inL] using hQ'
   | cons p done=>
    simp only[qcf,qce] at hQ' ⊢
    have fX:=(cJ8 @hd @hg @hw @qaI @qcp @hg1 @hl1 (cJ2 @hek @hyb))
    refine qaa qdz.eq_1 ?_
    refine W_gc ?_
    refine wR0 1100 [1,5,6,14,15,16,22,23,24,25] fX ?_
    refine wT fX ?_
    refine wR0 1200 [1,5,6,8,9,14,15,16,22,23,24] fX ?_
    refine wR0 1300 [1,5,6,8,14,15,16,22,23,24,33] fX ?_
    refine wF fX ?_
    refine wR0 1500 [1,5,6,14,15,16,22,23,24] fX ?_
    refine wN ?_
    refine qaC [603,1405] (by simp[inL]) (by simp[inL,T.cl,qae,hX]) (by simp[qam,inL,Slot.cl,qbc,h6]) ?_
    simpa [qam,inL] using hQ'
set_option maxHeartbeats 8000000 in
theorem qqV (a b:Int)(lb:List Int)(X:T)(hX:∀D,X.cl D=true)(N i:Int)(M:Nat)(hM:M≤500000)(ks:List Int)(c6:List T)(h6:∀D,clL D c6=true)(o6:Ones c6)(hl:ks.length≤500000)(Q:IExit→(Nat→T)→Heap→Prop):∀(rest pre:List Int) (k:Nat) (p:List Int) (done:List (List Int)),ks=pre++rest→pre.length=k→done.length≤M+k→
 (∀j:Int,Q (.exit 3) (ofL [(1,.list (qab (a::b::lb))),(5,.sl 1405 ((done++qdq i b k rest).length+1) 0 0 ((done++qdq i b k rest).length+1)),(6,.int .i64 i),(14,X),(15,.int .i64 N),(16,.int .i64 i),(22,.list (qab ks)),(23,.int .i64 ks.length),(24,.int .i64 j),(25,.bool false)]) (hpL [(1405,sQ (p::(done++qdq i b k rest))),(603,sN c6)]))→
 WL Tryz.prog 59 qdz (ofL [(1,.list (qab (a::b::lb))),(5,.sl 1405 (done.length+1) 0 0 (done.length+1)),(6,.int .i64 i),(14,X),(15,.int .i64 N),(16,.int .i64 i),(22,.list (qab ks)),(23,.int .i64 ks.length),(24,.int .i64 k)]) (hpL [(1405,sQ (p::done)),(603,sN c6)]) Q:=by
 have hg1:(qab (a::b::lb)).getD (1:Int).toNat .undef=.int .i64 b:=rfl
 have hl1:(qab (a::b::lb)).length=lb.length+2:=by simp[qab]
 have hb1:(1:Int)<((qab (a::b::lb)).length:Int):=by rw[hl1];omega
 have hek:(qab ks).length=ks.length:=qah ks
 intro rest
 induction rest with
 | nil=>
  intro pre k p done he hk hdl hQ
  have hd:decide ((k:Int)<(ks.length:Int))=false:=by simp[he,hk]
  rw[qdq,List.append_nil] at hQ
  have fX:=@hd
  refine qaa qdz.eq_1 ?_
  refine wR0 1100 [1,5,6,14,15,16,22,23,24,25] fX ?_
  refine wF @hd ?_
  refine wX ?_
  refine wN ?_
  exact hQ _
 | cons y rest ih=>
  intro pre k p done he hk hdl hQ
  have hlt:(k:Int)<(ks.length:Int):=by rw[he];simp;omega
  have hlb:k≤1000000:=by rw[he] at hl;simp at hl;omega
  have hd:decide ((k:Int)<(ks.length:Int))=true:=decide_eq_true hlt
  have hg:(qab ks).getD (k:Int).toNat .undef=.int .i64 y:=by rw[qdu ks k (by rw[he];simp;omega),he,←hk];simp[List.getD_eq_getElem?_getD]
  have hw:IntKind.wrap .i64 ((k:Int)+1)=((k+1:Nat):Int):=by rw[wrap64 (by omega) (by omega)];rfl
  rw[qdq,←List.append_assoc] at hQ
  have hp:done.length+1≤1000001:=by omega
  by_cases hy:y=b
  ·have hyb:(y==b)=true:=by simp[hy]
   rw[if_pos hy] at hQ
   have hQ':=ih (pre++[y]) (k+1) p (done++[[i,(k:Int)]]) (by simpa using he) (by simp[hk]) (by simp;omega) hQ
   have hs:qb5 (p::(done++[[i,(k:Int)]]))=qb5 (p::done)++[.list (qab [i,(k:Int)])]:=by simp[qb5]
   simp only[sQ,hs,List.length_append,List.length_cons,List.length_nil,Nat.zero_add] at hQ' ⊢
   have fX:=(cJ8 @hd @hg @hw @qaI @qcp @hg1 @hl1 (cJ3 @hek @hyb @qcB))
   refine qaa qdz.eq_1 ?_
   refine W_gc ?_
   refine wR0 1100 [1,5,6,14,15,16,22,23,24,25] fX ?_
   refine wT fX ?_
   refine wR0 1200 [1,5,6,8,9,14,15,16,22,23,24] fX ?_
   refine wR0 1300 [1,5,6,8,14,15,16,22,23,24,33] fX ?_
   refine wT fX ?_
   refine wR0 1400 [1,5,6,14,15,16,22,23,24] fX ?_
   simp only[thn,inB]
   refine qbW (l':=[(1,.list (qab (a::b::lb))),(5,.sl 1405 (done.length+1+1) 0 0 (done.length+1+1)),(6,.int .i64 i),(14,X),(15,.int .i64 N),(16,.int .i64 i),(22,.list (qab ks)),(23,.int .i64 ks.length),(24,.int .i64 k)]) (hl':=[(1405,.live ⟨82,qb5 (p::done)++[.list (qab [i,(k:Int)])]⟩),(603,sN c6),(1403,.dead),(1404,.dead)]) [603,1405] (.cons (.same (by simp[T.cl,qae])) (.cons (.same rfl) (.cons (.same rfl) (.cons (.same (hX _)) (.cons (.same rfl) (.cons (.same rfl) (.cons (.same (by simp[T.cl,qae])) (.cons (.same rfl) (.cons (.same rfl) .nil))))))))) (.keep rfl (.liveApp (qbc _ _) (qeM _) (.cons (fz2 i (k:Int) rfl rfl) .nil) rfl) (.keep rfl (.liveS (h6 _) o6) (.dead rfl (fun h=>by cases h) (.dead rfl (fun h=>by cases h) .nil)))) ?_
   refine wR0 1500 [1,5,6,14,15,16,22,23,24] fX ?_
   refine wN ?_
   refine qaC [603,1405] (by simp[inL]) (by simp[inL,T.cl,qae,hX]) (by simp[qam,inL,Slot.cl,T.cl,clL,qao,qbc,qae,h6]) ?_
   simpa [qam,inL] using hQ'
  ·have hyb:(y==b)=false:=by simpa using hy
   rw[if_neg hy,List.append_nil] at hQ
   have hQ':=ih (pre++[y]) (k+1) p done (by simpa using he) (by simp[hk]) (by omega) hQ
   have fX:=(cJ8 @hd @hg @hw @qaI @qcp @hg1 @hl1 (cJ2 @hek @hyb))
   refine qaa qdz.eq_1 ?_
   refine W_gc ?_
   refine wR0 1100 [1,5,6,14,15,16,22,23,24,25] fX ?_
   refine wT fX ?_
   refine wR0 1200 [1,5,6,8,9,14,15,16,22,23,24] fX ?_
   refine wR0 1300 [1,5,6,8,14,15,16,22,23,24,33] fX ?_
   refine wF fX ?_
   refine wR0 1500 [1,5,6,14,15,16,22,23,24] fX ?_
   refine wN ?_
   refine qaC [603,1405] (by simp[inL]) (by simp[inL,T.cl,qae,hX]) (by simp[qam,inL,Slot.cl,qbc,h6]) ?_
   simpa [qam,inL] using hQ'
theorem qsF (i b:Int)(ks:List Int)(k:Nat):(qdq i b k ks).length≤ks.length:=by rw[qhI];exact List.count_le_length
theorem qk4 (a b:Int)(lb:List Int)(X O Y:T)(N i:Int)(H:List (Nat×Slot))(Q:IExit→(Nat→T)→Heap→Prop)
 (hQ:∀j:Int,Q (.exit 3) (ofL [(1,.list (qab (a::b::lb))),(5,O),(6,.int .i64 i),(14,X),(15,.int .i64 N),(16,.int .i64 i),(22,Y),(23,.int .i64 0),(24,.int .i64 j),(25,.bool false)]) (hpL H)) :
 WL Tryz.prog 59 qdz (ofL [(1,.list (qab (a::b::lb))),(5,O),(6,.int .i64 i),(14,X),(15,.int .i64 N),(16,.int .i64 i),(22,Y),(23,.int .i64 0),(24,.int .i64 0)]) (hpL H) Q:=by
 have hd:decide ((0:Int)<0)=false:=rfl
 have fX:=@hd
 refine qaa qdz.eq_1 ?_
 refine wR0 1100 [1,5,6,14,15,16,22,23,24,25] fX ?_
 refine wF @hd ?_
 refine wX ?_
 refine wN ?_
 exact hQ _
set_option maxHeartbeats 8000000 in
theorem qfU (a b:Int)(lb:List Int)(l:List Nd)(X:T)(hX:∀D,X.cl D=true)(hat:∀(A:List Nd) (x:Nd) (B:List Nd),l=A++x::B→∃ys,X=.list ys∧ys.length=l.length∧ys.getD (A.length:Int).toNat .undef=.agg [.int .i64 x.lab,kidT x.kids])(hl:l.length≤100)(hk:∀x∈l,x.kids.length≤100)(Q:IExit→(Nat→T)→Heap→Prop):∀(rest pre:List Nd) (n:Nat) (done:List (List Int)),l=pre++rest→pre.length=n→done.length≤100*n→
 (∀i:Int,Q (.exit 0) (ofL [(1,.list (qab (a::b::lb))),(5,qcf 1405 (done++qbU (a::b::lb) n rest)),(14,X),(15,.int .i64 l.length),(16,.int .i64 i),(17,.bool false)]) (hpL (qce 1405 (done++qbU (a::b::lb) n rest))))→
 WL Tryz.prog 59 qcM (ofL [(1,.list (qab (a::b::lb))),(5,qcf 1405 done),(14,X),(15,.int .i64 l.length),(16,.int .i64 n)]) (hpL (qce 1405 done)) Q:=by
 have hg1:(qab (a::b::lb)).getD (0:Int).toNat .undef=.int .i64 a:=rfl
 have hl1:(qab (a::b::lb)).length=lb.length+2:=by simp[qab]
 have hb1:(0:Int)<((qab (a::b::lb)).length:Int):=by rw[hl1];omega
 have h11:(((lb.length+2:Nat):Int)==1)=false:=by simp;omega
 intro rest
 induction rest with
 | nil=>
  intro pre n done he hn hdl hQ
  have hd:decide ((n:Int)<(l.length:Int))=false:=by simp[he,hn]
  rw[qbU,List.append_nil] at hQ
  have fX:=@hd
  refine qaa qcM.eq_1 ?_
  refine wR0 500 [1,5,14,15,16,17] fX ?_
  refine wF @hd ?_
  refine wX ?_
  refine wN ?_
  exact hQ _
 | cons x rest ih=>
  intro pre n done he hn hdl hQ
  have hlt:(n:Int)<(l.length:Int):=by rw[he];simp;omega
  have hlb:n≤100:=by rw[he] at hl;simp at hl;omega
  have hkx:=hk x (by rw[he];simp)
  have hd:decide ((n:Int)<(l.length:Int))=true:=decide_eq_true hlt
  obtain⟨ys,rfl,hyl,hg⟩:=hat pre x rest he
  rw[hn] at hg
  have hyn:(n:Int)<(ys.length:Int):=by rw[hyl];exact hlt
  have hyc:∀D,clL D ys=true:=fun D=>by have:=hX D;simpa [T.cl] using this
  have hw:IntKind.wrap .i64 ((n:Int)+1)=((n+1:Nat):Int):=by rw[wrap64 (by omega) (by omega)];rfl
  rw[qbU,←List.append_assoc] at hQ
  by_cases hx:x.lab=a
  ·have hne:(x.lab != a)=false:=by simp[hx]
   have hnp:qgj (a::b::lb) n x=qdq n b 0 x.kids:=by simp[qgj,hx]
   rw[hnp] at hQ
   have hkl:=qsF (n:Int) b x.kids 0
   have hQ':=ih (pre++[x]) (n+1) (done++qdq n b 0 x.kids) (by simpa using he) (by simp[hn]) (by rw[List.length_append];omega) hQ
   rcases hxk:x.kids with _ | ⟨k,ks⟩
   ·have hkt:kidT x.kids=.nil:=by rw[hxk];rfl
    rw[hkt] at hg
    rw[hxk,qdq,List.append_nil] at hQ'
    cases done with
    | nil=>
     simp only[qcf,qce] at hQ' ⊢
     have fX:=(cJ8 @hd @hg @hw @qaI @hg1 @hl1 @h11 @hne)
     refine qaa qcM.eq_1 ?_
     refine W_gc ?_
     refine wR0 500 [1,5,14,15,16,17] fX ?_
     refine wT fX ?_
     refine wR0 600 [1,5,6,7,14,15,16] fX ?_
     refine wR0 700 [1,5,6,7,14,15,16,41] fX ?_
     refine wF fX ?_
     refine wR0 800 [1,5,6,7,14,15,16,48] fX ?_
     refine wF fX ?_
     refine wR0 1000 [1,5,6,14,15,16,22,23,24] fX ?_
     refine wL ?_
     refine qk4 a b lb _ _ _ _ _ _ _ ?_
     ·intro j
      refine wN ?_
      skip
      refine wR0 1600 [1,5,14,15,16] fX ?_
      refine wN ?_
      refine qaC [1405] (by simp[inL]) (by simp[T.cl,qae,hyc]) (by simp[qam,inL,Slot.cl]) ?_
      simpa [qam,inL] using hQ'
    | cons p done=>
     simp only[qcf,qce] at hQ' ⊢
     have fX:=(cJ8 @hd @hg @hw @qaI @hg1 @hl1 @h11 @hne)
     refine qaa qcM.eq_1 ?_
     refine W_gc ?_
     refine wR0 500 [1,5,14,15,16,17] fX ?_
     refine wT fX ?_
     refine wR0 600 [1,5,6,7,14,15,16] fX ?_
     refine wR0 700 [1,5,6,7,14,15,16,41] fX ?_
     refine wF fX ?_
     refine wR0 800 [1,5,6,7,14,15,16,48] fX ?_
     refine wF fX ?_
     refine wR0 1000 [1,5,6,14,15,16,22,23,24] fX ?_
     refine wL ?_
     refine qk4 a b lb _ _ _ _ _ _ _ ?_
     ·intro j
      refine wN ?_
      skip
      refine wR0 1600 [1,5,14,15,16] fX ?_
      refine wN ?_
      refine qaC [1405] (by simp[inL]) (by simp[inL,T.cl,qae,hyc]) (by simp[qam,inL,Slot.cl,qbc]) ?_
      simpa [qam,inL] using hQ'
   ·have hkt:kidT x.kids=.list (qab (k::ks)):=by rw[hxk];rfl
    rw[hkt] at hg
    rw[hxk] at hQ' hkx
    have hel:(qab (k::ks)).length=(k::ks).length:=qah _
    have hc6:∀D,clL D [T.int .i64 x.lab,.list (qab (k::ks))]=true:=fun D=>by simp[clL,T.cl,qae]
    have ho6:Ones [T.int .i64 x.lab,.list (qab (k::ks))]:=fun c hc=>by
     simp only[List.mem_cons,List.not_mem_nil,or_false] at hc
     rcases hc with rfl | rfl<;>rfl
    cases done with
    | nil=>
     simp only[List.nil_append] at hQ'
     rcases hkp:qdq (n:Int) b 0 (k::ks) with _ | ⟨q,qs⟩
     ·rw[hkp] at hQ'
      simp only[qcf,qce] at hQ' ⊢
      have fX:=(cJ8 @hd @hg @hw @qaI @hg1 @hl1 @h11 (cJ2 @hne @hel))
      refine qaa qcM.eq_1 ?_
      refine W_gc ?_
      refine wR0 500 [1,5,14,15,16,17] fX ?_
      refine wT fX ?_
      refine wR0 600 [1,5,6,7,14,15,16] fX ?_
      refine wR0 700 [1,5,6,7,14,15,16,41] fX ?_
      refine wF fX ?_
      refine wR0 800 [1,5,6,7,14,15,16,48] fX ?_
      refine wF fX ?_
      refine wR0 1000 [1,5,6,14,15,16,22,23,24] fX ?_
      refine wL ?_
      refine qk3 a b lb (.list ys) hX l.length n (k::ks) _ hc6 ho6 (by omega) _ (k::ks) [] 0 [] rfl rfl (Nat.le_refl _) ?_
      ·intro j
       refine wN ?_
       rw[List.nil_append,hkp]
       simp only[qcf,qce]
       refine wR0 1600 [1,5,14,15,16] fX ?_
       refine wN ?_
       refine qaC [1405] (by simp[inL]) (by simp[T.cl,qae,hyc]) (by simp[qam,inL,Slot.cl]) ?_
       simpa [qam,inL] using hQ'
     ·rw[hkp] at hQ'
      simp only[qcf,qce] at hQ' ⊢
      have fX:=(cJ8 @hd @hg @hw @qaI @hg1 @hl1 @h11 (cJ2 @hne @hel))
      refine qaa qcM.eq_1 ?_
      refine W_gc ?_
      refine wR0 500 [1,5,14,15,16,17] fX ?_
      refine wT fX ?_
      refine wR0 600 [1,5,6,7,14,15,16] fX ?_
      refine wR0 700 [1,5,6,7,14,15,16,41] fX ?_
      refine wF fX ?_
      refine wR0 800 [1,5,6,7,14,15,16,48] fX ?_
      refine wF fX ?_
      refine wR0 1000 [1,5,6,14,15,16,22,23,24] fX ?_
      refine wL ?_
      refine qk3 a b lb (.list ys) hX l.length n (k::ks) _ hc6 ho6 (by omega) _ (k::ks) [] 0 [] rfl rfl (Nat.le_refl _) ?_
      ·intro j
       refine wN ?_
       rw[List.nil_append,hkp]
       simp only[qcf,qce]
       refine wR0 1600 [1,5,14,15,16] fX ?_
       refine wN ?_
       refine qaC [1405] (by simp[inL]) (by simp[inL,T.cl,qae,hyc]) (by simp[qam,inL,Slot.cl,qbc]) ?_
       simpa [qam,inL] using hQ'
    | cons p done=>
     simp only[List.cons_append,qcf,qce] at hQ' ⊢
     have fX:=(cJ8 @hd @hg @hw @qaI @hg1 @hl1 @h11 (cJ2 @hne @hel))
     refine qaa qcM.eq_1 ?_
     refine W_gc ?_
     refine wR0 500 [1,5,14,15,16,17] fX ?_
     refine wT fX ?_
     refine wR0 600 [1,5,6,7,14,15,16] fX ?_
     refine wR0 700 [1,5,6,7,14,15,16,41] fX ?_
     refine wF fX ?_
     refine wR0 800 [1,5,6,7,14,15,16,48] fX ?_
     refine wF fX ?_
     refine wR0 1000 [1,5,6,14,15,16,22,23,24] fX ?_
     refine wL ?_
     refine qqV a b lb (.list ys) hX l.length n done.length (by simp at hdl;omega) (k::ks) _ hc6 ho6 (by omega) _ (k::ks) [] 0 p done rfl rfl (by omega) ?_
     ·intro j
      refine wN ?_
      skip
      refine wR0 1600 [1,5,14,15,16] fX ?_
      refine wN ?_
      refine qaC [1405] (by simp[inL]) (by simp[inL,T.cl,qae,hyc]) (by simp[qam,inL,Slot.cl,qbc]) ?_
      simpa [qam,inL] using hQ'
  ·have hne:(x.lab != a)=true:=by simpa using hx
   have hnp:qgj (a::b::lb) n x=[]:=by simp[qgj,hx]
   rw[hnp,List.append_nil] at hQ
   have hQ':=ih (pre++[x]) (n+1) done (by simpa using he) (by simp[hn]) (by omega) hQ
   cases done with
   | nil=>
    simp only[qcf,qce] at hQ' ⊢
    have fX:=(cJ8 @hd @hg @hw @qaI @hg1 @hl1 @h11 @hne)
    refine qaa qcM.eq_1 ?_
    refine W_gc ?_
    refine wR0 500 [1,5,14,15,16,17] fX ?_
    refine wT fX ?_
    refine wR0 600 [1,5,6,7,14,15,16] fX ?_
    refine wR0 700 [1,5,6,7,14,15,16,41] fX ?_
    refine wT fX ?_
    refine wR0 1600 [1,5,14,15,16] fX ?_
    refine wN ?_
    refine qaC [1405] (by simp[inL]) (by simp[T.cl,qae,hyc]) (by simp[qam,inL,Slot.cl]) ?_
    simpa [qam,inL] using hQ'
   | cons p done=>
    simp only[qcf,qce] at hQ' ⊢
    have fX:=(cJ8 @hd @hg @hw @qaI @hg1 @hl1 @h11 @hne)
    refine qaa qcM.eq_1 ?_
    refine W_gc ?_
    refine wR0 500 [1,5,14,15,16,17] fX ?_
    refine wT fX ?_
    refine wR0 600 [1,5,6,7,14,15,16] fX ?_
    refine wR0 700 [1,5,6,7,14,15,16,41] fX ?_
    refine wT fX ?_
    refine wR0 1600 [1,5,14,15,16] fX ?_
    refine wN ?_
    refine qaC [1405] (by simp[inL]) (by simp[inL,T.cl,qae,hyc]) (by simp[qam,inL,Slot.cl,qbc]) ?_
    simpa [qam,inL] using hQ'
theorem qcL (D:Nat→Bool)(l:List Nd):(ndsT l).cl D=true:=by
 rcases l with _ | ⟨x,l⟩
 ·rfl
 ·have h:∀l:List Nd,clL D (qaY (l.map nN))=true:=fun l=>by
   induction l with
   | nil=>rfl
   | cons x l ih=>
    show clL D (encC (nN x)::qaY (l.map nN))=true
    simp only[clL,ih,Bool.and_true]
    simp[encC,nN,T.cl,clL,qhH]
  simpa [ndsT,T.cl] using h (x::l)
theorem qes (l:List Nd)(A:List Nd)(x:Nd)(B:List Nd)(h:l=A++x::B):∃ys,ndsT l=.list ys∧ys.length=l.length∧ys.getD (A.length:Int).toNat .undef=.agg [.int .i64 x.lab,kidT x.kids]:=by
 subst h
 refine⟨qaY ((A++x::B).map nN),?_,by rw[qc3,List.length_map],?_⟩
 ·cases A<;>rfl
 ·rw[List.map_append,List.map_cons]
  exact qi4 (A.map nN) (nN x) (B.map nN) A.length (by simp)
set_option maxHeartbeats 4000000 in
theorem qkV (l:List Nd)(labels:List Int)(hl:l.length≤100)(hk:∀x∈l,x.kids.length≤100):TP Tryz.prog 40 [ndsT l,.list (qab labels)] (.list (qb5 (qa4 l labels))):=by
 rcases l with _ | ⟨x,l⟩
 ·rw[show ndsT []=T.nil from rfl]
  rcases labels with _ | ⟨a,_ | ⟨b,lb⟩⟩
  ·have hl0:(qab []).length=0:=rfl
   have h00:(((0:Nat):Int)==0)=true:=rfl
   have fX:=(cJ3 @hl0 @h00 @qaI)
   refine qan fn40 (by simp) ?_
   unfold i40
   simp only[argL]
   refine wR0 0 [0,1] fX ?_
   refine wR0 100 [0,1,12] fX ?_
   refine wT fX ?_
   refine wR0 200 [4] fX ?_
   refine wP ?_
   exact Frz.slL rfl rfl rfl rfl rfl rfl (.cons .nil .nil)
  ·skip
   have hl0:(qab [a]).length=1:=rfl
   have h00:(((1:Nat):Int)==0)=false:=rfl
   have hp:qa4 ([]) [a]=qbU [a] 0 ([]):=rfl
   rw[hp]
   rcases hn:qbU [a] 0 ([]) with _ | ⟨q,qs⟩
   ·have fX:=(cJ2 @hl0 @h00)
    refine qan fn40 (by simp) ?_
    unfold i40
    simp only[argL]
    refine wR0 0 [0,1] fX ?_
    refine wR0 100 [0,1,12] fX ?_
    refine wF fX ?_
    refine wR0 300 [0,1,5] fX ?_
    refine wR0 400 [1,5,14,15,16] fX ?_
    refine wL ?_
    refine qgT a ([]) (T.nil) (fun D=>qcL D ([])) (qes ([])) (by omega) _ ([]) [] 0 [] rfl rfl (Nat.le_refl _) ?_
    ·intro i
     refine wN ?_
     rw[List.nil_append,hn]
     simp only[qcf,qce]
     refine wR0 1700 [4] fX ?_
     refine wP ?_
     exact .nil
   ·have fX:=(cJ2 @hl0 @h00)
    refine qan fn40 (by simp) ?_
    unfold i40
    simp only[argL]
    refine wR0 0 [0,1] fX ?_
    refine wR0 100 [0,1,12] fX ?_
    refine wF fX ?_
    refine wR0 300 [0,1,5] fX ?_
    refine wR0 400 [1,5,14,15,16] fX ?_
    refine wL ?_
    refine qgT a ([]) (T.nil) (fun D=>qcL D ([])) (qes ([])) (by omega) _ ([]) [] 0 [] rfl rfl (Nat.le_refl _) ?_
    ·intro i
     refine wN ?_
     rw[List.nil_append,hn]
     simp only[qcf,qce]
     refine wR0 1700 [4] fX ?_
     refine wP ?_
     exact qgK q qs rfl
  ·skip
   have hl0:(qab (a::b::lb)).length=lb.length+2:=by simp[qab]
   have h00:(((lb.length+2:Nat):Int)==0)=false:=by simp;omega
   have hp:qa4 ([]) (a::b::lb)=qbU (a::b::lb) 0 ([]):=rfl
   rw[hp]
   rcases hn:qbU (a::b::lb) 0 ([]) with _ | ⟨q,qs⟩
   ·have fX:=(cJ2 @hl0 @h00)
    refine qan fn40 (by simp) ?_
    unfold i40
    simp only[argL]
    refine wR0 0 [0,1] fX ?_
    refine wR0 100 [0,1,12] fX ?_
    refine wF fX ?_
    refine wR0 300 [0,1,5] fX ?_
    refine wR0 400 [1,5,14,15,16] fX ?_
    refine wL ?_
    refine qfU a b lb ([]) (T.nil) (fun D=>qcL D ([])) (qes ([])) hl hk _ ([]) [] 0 [] rfl rfl (Nat.le_refl _) ?_
    ·intro i
     refine wN ?_
     rw[List.nil_append,hn]
     simp only[qcf,qce]
     refine wR0 1700 [4] fX ?_
     refine wP ?_
     exact .nil
   ·have fX:=(cJ2 @hl0 @h00)
    refine qan fn40 (by simp) ?_
    unfold i40
    simp only[argL]
    refine wR0 0 [0,1] fX ?_
    refine wR0 100 [0,1,12] fX ?_
    refine wF fX ?_
    refine wR0 300 [0,1,5] fX ?_
    refine wR0 400 [1,5,14,15,16] fX ?_
    refine wL ?_
    refine qfU a b lb ([]) (T.nil) (fun D=>qcL D ([])) (qes ([])) hl hk _ ([]) [] 0 [] rfl rfl (Nat.le_refl _) ?_
    ·intro i
     refine wN ?_
     rw[List.nil_append,hn]
     simp only[qcf,qce]
     refine wR0 1700 [4] fX ?_
     refine wP ?_
     exact qgK q qs rfl
 ·have hln:(qaY (nN x::l.map nN)).length=(x::l).length:=by simp[qc3]
  rw[show ndsT (x::l)=T.list (qaY ((x::l).map nN)) from rfl]
  rcases labels with _ | ⟨a,_ | ⟨b,lb⟩⟩
  ·have hl0:(qab []).length=0:=rfl
   have h00:(((0:Nat):Int)==0)=true:=rfl
   have fX:=(cJ4 @hl0 @h00 @qaI @hln)
   refine qan fn40 (by simp) ?_
   unfold i40
   simp only[argL]
   refine wR0 0 [0,1] fX ?_
   refine wR0 100 [0,1,12] fX ?_
   refine wT fX ?_
   refine wR0 200 [4] fX ?_
   refine wP ?_
   exact Frz.slL rfl rfl rfl rfl rfl rfl (.cons .nil .nil)
  ·skip
   have hl0:(qab [a]).length=1:=rfl
   have h00:(((1:Nat):Int)==0)=false:=rfl
   have hp:qa4 (x::l) [a]=qbU [a] 0 (x::l):=rfl
   rw[hp]
   rcases hn:qbU [a] 0 (x::l) with _ | ⟨q,qs⟩
   ·have fX:=(cJ3 @hl0 @h00 @hln)
    refine qan fn40 (by simp) ?_
    unfold i40
    simp only[argL]
    refine wR0 0 [0,1] fX ?_
    refine wR0 100 [0,1,12] fX ?_
    refine wF fX ?_
    refine wR0 300 [0,1,5] fX ?_
    refine wR0 400 [1,5,14,15,16] fX ?_
    refine wL ?_
    refine qgT a (x::l) (T.list (qaY ((x::l).map nN))) (fun D=>qcL D (x::l)) (qes (x::l)) (by omega) _ (x::l) [] 0 [] rfl rfl (Nat.le_refl _) ?_
    ·intro i
     refine wN ?_
     rw[List.nil_append,hn]
     simp only[qcf,qce]
     refine wR0 1700 [4] fX ?_
     refine wP ?_
     exact .nil
   ·have fX:=(cJ3 @hl0 @h00 @hln)
    refine qan fn40 (by simp) ?_
    unfold i40
    simp only[argL]
    refine wR0 0 [0,1] fX ?_
    refine wR0 100 [0,1,12] fX ?_
    refine wF fX ?_
    refine wR0 300 [0,1,5] fX ?_
    refine wR0 400 [1,5,14,15,16] fX ?_
    refine wL ?_
    refine qgT a (x::l) (T.list (qaY ((x::l).map nN))) (fun D=>qcL D (x::l)) (qes (x::l)) (by omega) _ (x::l) [] 0 [] rfl rfl (Nat.le_refl _) ?_
    ·intro i
     refine wN ?_
     rw[List.nil_append,hn]
     simp only[qcf,qce]
     refine wR0 1700 [4] fX ?_
     refine wP ?_
     exact qgK q qs rfl
  ·skip
   have hl0:(qab (a::b::lb)).length=lb.length+2:=by simp[qab]
   have h00:(((lb.length+2:Nat):Int)==0)=false:=by simp;omega
   have hp:qa4 (x::l) (a::b::lb)=qbU (a::b::lb) 0 (x::l):=rfl
   rw[hp]
   rcases hn:qbU (a::b::lb) 0 (x::l) with _ | ⟨q,qs⟩
   ·have fX:=(cJ3 @hl0 @h00 @hln)
    refine qan fn40 (by simp) ?_
    unfold i40
    simp only[argL]
    refine wR0 0 [0,1] fX ?_
    refine wR0 100 [0,1,12] fX ?_
    refine wF fX ?_
    refine wR0 300 [0,1,5] fX ?_
    refine wR0 400 [1,5,14,15,16] fX ?_
    refine wL ?_
    refine qfU a b lb (x::l) (T.list (qaY ((x::l).map nN))) (fun D=>qcL D (x::l)) (qes (x::l)) hl hk _ (x::l) [] 0 [] rfl rfl (Nat.le_refl _) ?_
    ·intro i
     refine wN ?_
     rw[List.nil_append,hn]
     simp only[qcf,qce]
     refine wR0 1700 [4] fX ?_
     refine wP ?_
     exact .nil
   ·have fX:=(cJ3 @hl0 @h00 @hln)
    refine qan fn40 (by simp) ?_
    unfold i40
    simp only[argL]
    refine wR0 0 [0,1] fX ?_
    refine wR0 100 [0,1,12] fX ?_
    refine wF fX ?_
    refine wR0 300 [0,1,5] fX ?_
    refine wR0 400 [1,5,14,15,16] fX ?_
    refine wL ?_
    refine qfU a b lb (x::l) (T.list (qaY ((x::l).map nN))) (fun D=>qcL D (x::l)) (qes (x::l)) hl hk _ (x::l) [] 0 [] rfl rfl (Nat.le_refl _) ?_
    ·intro i
     refine wN ?_
     rw[List.nil_append,hn]
     simp only[qcf,qce]
     refine wR0 1700 [4] fX ?_
     refine wP ?_
     exact qgK q qs rfl
end
end Go.Proofs.YtpplncjaihgimaaGreat
