/- Contracts of functions of the program, for all arguments that they name. -/
import Derived.Test.YtpplncjaihgimaaGreatK07
import Derived.Test.YtpplncjaihgimaaGreatK09
import Derived.Test.YtpplncjaihgimaaGreatK19
import Derived.Test.YtpplncjaihgimaaGreatK22
import Derived.Test.YtpplncjaihgimaaGreatK24
namespace Go.Proofs.YtpplncjaihgimaaGreat
set_option linter.unusedVariables false
section
open Go.RowKit
set_option maxHeartbeats 2000000
def qfd (m:Md):Nat:=if m.kind=4∨m.kind=5 then 1 else m.places.length
def qb9 (m:Md):V:=.mk 0 (qaP (0::List.replicate (qfd m) 0))
theorem qqe (i:Nat):qck (0::List.replicate (i+1) 0)=qck (0::List.replicate i 0)++[.int .i64 0,.nil]:=by
 rw[List.replicate_succ',←List.cons_append,qeT]
theorem qoA (i:Nat):(qck (0::List.replicate i 0)).length=(i+1)*2:=by rw[qdy];simp
theorem qoI (m:Md)(n:Nat)(hn:n≤1000)(Q:IExit→(Nat→T)→Heap→Prop)
 (hQ:∀i:Int,Q (.exit 0) (ofL [(2,.ref 1 2 0),(3,.ref 103 2 0),(4,.int .i64 n),(5,.int .i64 i),(22,.bool false)]) (hpL [(0,sM m),(1,.live ⟨25,[.int .i64 0,.nil]⟩),(101,.live ⟨25,qck (0::List.replicate n 0)⟩),(103,.live ⟨25,[.int .i64 0,.sl 101 ((n+1)*2) 2 0 (n+1)]⟩)])) :
 ∀(k i:Nat),i+k=n→WL Tryz.prog 32 qne (ofL [(2,.ref 1 2 0),(3,.ref 103 2 0),(4,.int .i64 n),(5,.int .i64 i)]) (hpL [(0,sM m),(1,.live ⟨25,[.int .i64 0,.nil]⟩),(101,.live ⟨25,qck (0::List.replicate i 0)⟩),(103,.live ⟨25,[.int .i64 0,.sl 101 ((i+1)*2) 2 0 (i+1)]⟩)]) Q:=by
 have hmc:∀D,clL D (mdC m)=true:=fun D=>by simp
 intro k
 induction k with
 | zero=>
  intro i hi
  have hd:decide ((i:Int)<(n:Int))=false:=decide_eq_false (by omega)
  have e:i=n:=by omega
  subst e
  have fX:=@hd
  refine qaa qne.eq_1 ?_
  refine wR0 600 [2,3,4,5,22] fX ?_
  refine wF @hd ?_
  refine wX ?_
  refine wN ?_
  exact hQ _
 | succ k ih=>
  intro i hi
  have hd:decide ((i:Int)<(n:Int))=true:=decide_eq_true (by omega)
  have hw:IntKind.wrap .i64 ((i:Int)+1)=((i+1:Nat):Int):=by rw[wrap64 (by omega) (by omega)];rfl
  have hQ':=ih (i+1) (by omega)
  rw[qqe] at hQ'
  have hm2:(i+1+1)*2=(i+1)*2+2:=by omega
  rw[hm2] at hQ'
  have fX:=(cJ4 @hd @hw @qbp @qoA)
  refine qaa qne.eq_1 ?_
  refine W_gc ?_
  refine wR0 600 [2,3,4,5,22] fX ?_
  refine wT fX ?_
  refine wR0 700 [2,3,4,5] fX ?_
  refine wR0 800 [2,3,4,5] fX ?_
  refine wN ?_
  refine qaC [0,1,101,103] (by simp[inL]) (by simp[inL,T.cl]) (by simp[qam,inL,Slot.cl,T.cl,clL,qao,qeS,hmc]) ?_
  simpa [qam,inL] using hQ'
theorem qsG (m:Md)(hp:m.places.length≤1000):TP Tryz.prog 61 [qax m] (encV (qb9 m)):=by
 have hl0:qck [0]=[.int .i64 0,.nil]:=rfl
 have hsp:=qaf m.places
 have hlp:=fun (n:Nat) (hn:n≤1000) Q hQ=>qoI m n hn Q hQ n 0 (by omega)
 have hfin:∀(n:Nat) (H:Heap) (ty:TypeId),H 101=.live ⟨ty,qck (0::List.replicate n 0)⟩→Frz H (.sl 101 ((n+1)*2) 2 0 (n+1)) (.list (qac (qaP (0::List.replicate n 0)))):=fun n H ty h=>qeU _ h (by simp) (by simp)
 by_cases hk4:m.kind=4
 ·have b4:(m.kind==4)=true:=by simp[hk4]
  have hn:qfd m=1:=by rw[qfd,if_pos (.inl hk4)]
  rw[qb9,hn]
  have fX:=(cJ3 @b4 @qbp @hsp)
  refine qan fn61 (by simp) ?_
  unfold i61
  simp only[argL,encV,qax,mdC]
  refine wR0 0 [1,2] fX ?_
  refine wR0 100 [1,2,3] fX ?_
  refine wR0 200 [1,2,3,4] fX ?_
  refine wR0 300 [2,3,4,19] fX ?_
  refine wT fX ?_
  refine wR0 400 [2,3,4] fX ?_
  refine wR0 500 [2,3,4,5] fX ?_
  refine wL ?_
  refine hlp 1 (by omega) _ ?_
  ·intro i
   refine wN ?_
   refine wR0 900 [2] fX ?_
   refine wP ?_
   exact qaS (hfin 1 _ _ rfl) rfl
 ·have b4:(m.kind==4)=false:=by simpa using hk4
  by_cases hk5:m.kind=5
  ·have b5:(m.kind==5)=true:=by simp[hk5]
   have hn:qfd m=1:=by rw[qfd,if_pos (.inr hk5)]
   rw[qb9,hn]
   have fX:=(cJ4 @b4 @b5 @qbp @hsp)
   refine qan fn61 (by simp) ?_
   unfold i61
   simp only[argL,encV,qax,mdC]
   refine wR0 0 [1,2] fX ?_
   refine wR0 100 [1,2,3] fX ?_
   refine wR0 200 [1,2,3,4] fX ?_
   refine wR0 300 [2,3,4,19] fX ?_
   refine wT fX ?_
   refine wR0 400 [2,3,4] fX ?_
   refine wR0 500 [2,3,4,5] fX ?_
   refine wL ?_
   refine hlp 1 (by omega) _ ?_
   ·intro i
    refine wN ?_
    refine wR0 900 [2] fX ?_
    refine wP ?_
    exact qaS (hfin 1 _ _ rfl) rfl
  ·have b5:(m.kind==5)=false:=by simpa using hk5
   have hn:qfd m=m.places.length:=by rw[qfd,if_neg (by omega)]
   rw[qb9,hn]
   have fX:=(cJ4 @b4 @b5 @qbp @hsp)
   refine qan fn61 (by simp) ?_
   unfold i61
   simp only[argL,encV,qax,mdC]
   refine wR0 0 [1,2] fX ?_
   refine wR0 100 [1,2,3] fX ?_
   refine wR0 200 [1,2,3,4] fX ?_
   refine wR0 300 [2,3,4,19] fX ?_
   refine wF fX ?_
   refine wR0 500 [2,3,4,5] fX ?_
   refine wL ?_
   refine hlp m.places.length hp _ ?_
   ·intro i
    refine wN ?_
    refine wR0 900 [2] fX ?_
    refine wP ?_
    exact qaS (hfin m.places.length _ _ rfl) rfl
def qc0 (m:Md)(st:V):Md:={ m with rules:=[],start:=st }
def qcU (m:Md):Ty:=if qaM (qc0 m m.start)=0 then qau m else if qaM (qc0 m (qb9 m))=0 then qau m else .mk 1 0 [] []
theorem qiW {m:Md}(hm:m.fit){st:V}(hs:st.fit):(qc0 m st).fit:=
 ⟨hm.states,hm.places,hm.letters,hm.ranks,by simp[qc0],fun r hr=>by simp[qc0] at hr,hs,hm.names,hm.kd⟩
theorem qkK {m:Md}(hm:m.fit):(qb9 m).fit:=by
 have:=hm.places
 simp only[qb9,V.fit]
 refine⟨?_,qdo fun v hv=>?_⟩
 ·rw[qcF];simp[qfd];split<;>omega
 ·obtain⟨w,_,rfl⟩:=List.mem_map.1 hv
  simp[V.fit,fitL]
abbrev sB (m:Md)(st:V):Slot:=.live ⟨34,[.int .i64 m.kind,.list (qas m.states),.list (qas m.places),.list (qas m.letters),.list (qab m.ranks),.int .i64 m.levels,.int .i64 m.age,.nil,.int .i64 st.n,.list (qac st.kids)]⟩
abbrev sY:Slot:=.live ⟨50,[.int .i64 0,.int .i64 0,.nil,.nil]⟩
theorem qdU (m:Md)(st:V)(hm:m.fit)(hs:st.fit)(i:Nat)(hi:i<2)(Q:IExit→(Nat→T)→Heap→Prop)
 (h0:qaM (qc0 m st)=0→Q .ret (ofL [(2,.ref 1 4 0)]) (hpL [(0,sM m),(1,.live ⟨50,(qal (qau m)).cells⟩),(101,sB m st),(505,.live ⟨50,(qal (qau m)).cells⟩)]))
 (h1:qaM (qc0 m st)≠0→WL Tryz.prog 25 qhB (ofL [(2,.ref 1 4 0),(3,.ref 101 10 0),(4,.int .i64 ((i+1:Nat):Int))]) (hpL [(0,sM m),(1,sY),(101,sB m (qb9 m))]) Q) :
 WL Tryz.prog 25 qhB (ofL [(2,.ref 1 4 0),(3,.ref 101 10 0),(4,.int .i64 i)]) (hpL [(0,sM m),(1,sY),(101,sB m st)]) Q:=by
 have hmc:∀D,clL D (mdC m)=true:=fun D=>by simp
 have hd:decide ((i:Int)<2)=true:=decide_eq_true (by omega)
 have hw:IntKind.wrap .i64 ((i:Int)+1)=((i+1:Nat):Int):=by rw[wrap64 (by omega) (by omega)];rfl
 have ht:=qnP (qc0 m st) (qiW hm hs)
 have hl:=qsG (qc0 m st) hm.places
 have el:qb9 (qc0 m st)=qb9 m:=rfl
 rw[el] at hl
 rcases hlv:qb9 m with⟨l0,lks⟩
 rw[hlv] at hl h1
 simp only[encV] at hl
 by_cases hc:qaM (qc0 m st)=0
 ·have et:qii (qc0 m st)=(qau m,0):=by rw[qii,if_pos hc];rfl
  rw[et] at ht
  have h0':=h0 hc
  rcases hty:qau m with⟨tk,ts,trs,tps⟩
  rw[hty] at ht h0'
  simp only[qal] at ht h0'
  have fX:=(cJ2 @hd @hw)
  refine qaa qhB.eq_1 ?_
  refine W_gc ?_
  refine wR0 400 [2,3,4,10] fX ?_
  refine wT fX ?_
  refine wRn 500 [2,3,4,5,6] fX ?_
  refine rG [] fX ?_
  refine⟨_,_,ht,(by (exact .cons (.aggL (.cons (.same rfl) (.cons (.same (by simp[T.cl])) (.cons (.same (by simp[T.cl])) (.cons (.same (by simp[T.cl])) (.cons (.same (by simp[T.cl,qae])) (.cons (.same rfl) (.cons (.same rfl) (.cons .nil (.cons (.same rfl) (.cons (.same (by simp[T.cl,qai])) .nil)))))))))) rfl) .nil)),rE fX ?_⟩
  refine wR0 600 [2,3,4,5,19] fX ?_
  refine wT fX ?_
  refine wR0 700 [2] fX ?_
  refine wE ?_
  refine wN ?_
  exact h0'
 ·have et:qii (qc0 m st)=(.mk 0 0 [] [],qaM (qc0 m st)):=by rw[qii,if_neg hc]
  rw[et] at ht
  have hcb:(qaM (qc0 m st)==0)=false:=by simpa using hc
  have h1':=h1 hc
  simp only[qal,qak,qaw] at ht
  have fX:=(cJ3 @hd @hw @hcb)
  refine qaa qhB.eq_1 ?_
  refine W_gc ?_
  refine wR0 400 [2,3,4,10] fX ?_
  refine wT fX ?_
  refine wRn 500 [2,3,4,5,6] fX ?_
  refine rG [] fX ?_
  refine⟨_,_,ht,(by (exact .cons (.aggL (.cons (.same rfl) (.cons (.same (by simp[T.cl])) (.cons (.same (by simp[T.cl])) (.cons (.same (by simp[T.cl])) (.cons (.same (by simp[T.cl,qae])) (.cons (.same rfl) (.cons (.same rfl) (.cons .nil (.cons (.same rfl) (.cons (.same (by simp[T.cl,qai])) .nil)))))))))) rfl) .nil)),rE fX ?_⟩
  refine wR0 600 [2,3,4,5,19] fX ?_
  refine wF fX ?_
  refine wRn 800 [2,3,4] fX ?_
  refine rG [] fX ?_
  refine⟨_,_,hl,(by (exact .cons (.aggL (.cons (.same rfl) (.cons (.same (by simp[T.cl])) (.cons (.same (by simp[T.cl])) (.cons (.same (by simp[T.cl])) (.cons (.same (by simp[T.cl,qae])) (.cons (.same rfl) (.cons (.same rfl) (.cons .nil (.cons (.same rfl) (.cons (.same (by simp[T.cl,qai])) .nil)))))))))) rfl) .nil)),rE fX ?_⟩
  refine wR0 900 [2,3,4] fX ?_
  refine wN ?_
  refine qaC [0,1,101] (by simp[inL]) (by simp[inL,T.cl]) (by simp[qam,inL,Slot.cl,T.cl,clL,hmc,qae,qai]) ?_
  (simp[qam,inL])
  exact h1'
theorem qrP (m:Md)(st:V)(Q:IExit→(Nat→T)→Heap→Prop)
 (hQ:Q (.exit 0) (ofL [(2,.ref 1 4 0),(3,.ref 101 10 0),(4,.int .i64 ((1+1:Nat):Int)),(10,.bool false)]) (hpL [(0,sM m),(1,sY),(101,sB m st)])) :
 WL Tryz.prog 25 qhB (ofL [(2,.ref 1 4 0),(3,.ref 101 10 0),(4,.int .i64 ((1+1:Nat):Int))]) (hpL [(0,sM m),(1,sY),(101,sB m st)]) Q:=by
 have hd:decide (((1+1:Nat):Int)<2)=false:=rfl
 have fX:=@hd
 refine qaa qhB.eq_1 ?_
 refine wR0 400 [2,3,4,10] fX ?_
 refine wF @hd ?_
 refine wX ?_
 refine wN ?_
 exact hQ
theorem qmw (m:Md)(hm:m.fit):TP Tryz.prog 35 [qax m] (qal (qcU m)):=by
 have hfin:∀ {H:Heap} {x:T} (t:Ty),x=.agg (qal t).cells→Frz H x (qal t):=fun t h=>by
  rw[h,qbO];exact .same (qi6 _ t)
 by_cases h1:qaM (qc0 m m.start)=0
 ·have et:qcU m=qau m:=by rw[qcU,if_pos h1]
  rw[et]
  rcases hty:qau m with⟨tk,ts,trs,tps⟩
  refine qan fn35 (by simp) ?_
  unfold i35
  simp only[argL,qax,mdC]
  refine wR0 0 [1,2] cJ0 ?_
  refine wR0 100 [2,3] cJ0 ?_
  refine wR0 200 [2,3] cJ0 ?_
  refine wR0 300 [2,3,4] cJ0 ?_
  refine wL ?_
  refine qdU m m.start hm hm.start 0 (by omega) _ (fun _=>?_) (fun h=>absurd h1 h)
  ·skip
   refine wN ?_
   exact⟨by simp,_,rfl,by (rw[hty];exact .same (by simp[mkEl,esz,qal,T.cl,T.cells,clL,qae,qaG]))⟩
 ·by_cases h2:qaM (qc0 m (qb9 m))=0
  ·have et:qcU m=qau m:=by rw[qcU,if_neg h1,if_pos h2]
   rw[et]
   rcases hty:qau m with⟨tk,ts,trs,tps⟩
   refine qan fn35 (by simp) ?_
   unfold i35
   simp only[argL,qax,mdC]
   refine wR0 0 [1,2] cJ0 ?_
   refine wR0 100 [2,3] cJ0 ?_
   refine wR0 200 [2,3] cJ0 ?_
   refine wR0 300 [2,3,4] cJ0 ?_
   refine wL ?_
   refine qdU m m.start hm hm.start 0 (by omega) _ (fun h=>absurd h h1) (fun _=>qdU m (qb9 m) hm (qkK hm) 1 (by omega) _ (fun _=>?_) (fun h=>absurd h2 h))
   ·skip
    refine wN ?_
    exact⟨by simp,_,rfl,by (rw[hty];exact .same (by simp[mkEl,esz,qal,T.cl,T.cells,clL,qae,qaG]))⟩
  ·have et:qcU m=.mk 1 0 [] []:=by rw[qcU,if_neg h1,if_neg h2]
   rw[et]
   refine qan fn35 (by simp) ?_
   unfold i35
   simp only[argL,qax,mdC]
   refine wR0 0 [1,2] cJ0 ?_
   refine wR0 100 [2,3] cJ0 ?_
   refine wR0 200 [2,3] cJ0 ?_
   refine wR0 300 [2,3,4] cJ0 ?_
   refine wL ?_
   refine qdU m m.start hm hm.start 0 (by omega) _ (fun h=>absurd h h1) (fun _=>qdU m (qb9 m) hm (qkK hm) 1 (by omega) _ (fun h=>absurd h h2) (fun _=>qrP m (qb9 m) _ ?_))
   ·skip
    refine wN ?_
    refine wR0 1000 [2] cJ0 ?_
    refine wP ?_
    exact .aggL (.cons (.same rfl) (.cons (.same rfl) (.cons .nil (.cons .nil .nil)))) rfl
def cfM (m:Md):Md:=qc0 m v0
theorem qkl (m:Md)(d:Dk)(hm:m.fit)(hv:qar (qcU (cfM m)) 8=true)(hf:(qcU (cfM m)).fit)(hd:d.ok) :
 ∃(v:V) (d':Dk),v.fit∧(qhq (qcU (cfM m))→qaR (qcU (cfM m)) v=true)∧d'.ok∧TC Tryz.prog 14 [dkR,qax m] (hpL [(99999,dkB d)]) (encV v) (hpL [(99999,dkB d')]):=by
 have ht:=qmw (cfM m) (qiW hm (by simp[v0,V.fit,fitL]))
 obtain⟨⟨a,bs⟩,d',h1,h2,h3,h4⟩:=qtH (qcU (cfM m)) d hf hv hd
 refine⟨.mk a bs,d',h1,h2,h3,?_⟩
 rcases hty:qcU (cfM m) with⟨tk,ts,trs,tps⟩
 rw[hty] at ht h4
 simp only[qal,encV] at ht h4
 refine qcy fn14 (by simp) ?_
 unfold i14
 simp only[argL,encV,qax,mdC]
 refine wR0 0 [0,3,4] cJ0 ?_
 refine wR0 100 [0,4,5] cJ0 ?_
 refine wR0 200 [0,4,5] cJ0 ?_
 refine wR0 300 [0,4,5] cJ0 ?_
 refine wRn 400 [4] cJ0 ?_
 refine rG [] cJ0 ?_
 refine⟨_,_,ht,(by (exact .cons (.aggL (.cons (.same rfl) (.cons (.same (by simp[T.cl])) (.cons (.same (by simp[T.cl])) (.cons (.same (by simp[T.cl])) (.cons (.same (by simp[T.cl,qae])) (.cons (.same rfl) (.cons (.same rfl) (.cons .nil (.cons (.same rfl) (.cons .nil .nil)))))))))) rfl) .nil)),rN cJ0 ?_⟩
 refine rU [(99999,dkB d)] [(99999,dkB d')] cJ0 ?_
 refine⟨_,h4.full1,rE cJ0 ?_⟩
 refine wE ?_
 refine wN ?_
 exact⟨by simp,_,_,_,rfl,rfl,.same (by simp[mkEl,esz,T.cl,clL,qai]),.keep rfl (qaT _) (.dead rfl (fun h=>by cases h) (.dead rfl (fun h=>by cases h) (.dead rfl (fun h=>by cases h) .nil))),rfl⟩
end
section
open Go.RowKit
theorem qka {P:Program}{N:Nat}{c:ICode}{env:Nat→T}{H:Heap}{e:IExit}{env1:Nat→T}{H1:Heap}(ss:List Nat)(h:TRun P N c (ofL (ss.map fun s=>(s,env s))) H e env1 H1):TRun P N c env H e env1 H1:=by
 obtain⟨_,_,_,h',rfl,rfl,rfl⟩:=W_keep (env:=env) (Q:=fun e' v hh=>e'=e∧v=env1∧hh=H1) ss ⟨_,_,_,h,rfl,rfl,rfl⟩
 exact h'
theorem qcZ {P:Program}{N:Nat}{c:ICode}{env:Nat→T}{H:Heap}{Q:IExit→(Nat→T)→Heap→Prop}(ss:List Nat)(h:WL P N c (ofL (ss.map fun s=>(s,env s))) H Q):WL P N c env H Q:=by
 obtain⟨e,env1,H1,n,hr,hq⟩:=h
 refine⟨e,env1,H1,n,?_,hq⟩
 cases hr with
 | stop h hne=>exact .stop (qka ss h) hne
 | next h t=>exact .next (qka ss h) t
def qef (l:List Rl):List T:=l.flatMap rlC
theorem qhp:∀l:List Rl,(qef l).length=l.length*14
 | []=>rfl
 | x::l=>by have:=qhp l;simp only[qef] at this;simp[qef,this,rlC];omega
theorem qoB (xs:List Rl)(y:Rl):qef (xs++[y])=qef xs++rlC y:=by simp[qef]
theorem qge:∀l:List Rl,qef l=flat (qaN l)
 | []=>rfl
 | x::l=>by have:=qge l;simp only[qef,qaN] at this;simp[qef,qaN,qbK,qbe,this,T.cells]
@[simp] theorem qjc (D:Nat→Bool):∀l,clL D (qef l)=true
 | []=>rfl
 | x::l=>by have:=qjc D l;simp only[qef] at this;simp[qef,qao,this]
theorem qs7 (r:Rl):Ones (rlC r):=fun c hc=>List.all_eq_true.1 (show ((rlC r).all T.one)=true from rfl) c hc
theorem qgf:∀l,Ones (qef l)
 | []=>fun c hc=>by cases hc
 | x::l=>fun c hc=>by
  have:=qgf l
  simp only[qef,List.flatMap_cons,List.mem_append] at hc this
  rcases hc with hc | hc
  ·exact qs7 x c hc
  ·exact this c hc
theorem qi5 (l:List Rl):qcP (esz 14) (qaN l):=fun x hx=>by
 obtain⟨v,_,rfl⟩:=List.mem_map.1 hx
 rfl
theorem quB {H:Heap}{D:Nat→Bool}{id ty n tot:Nat}(l:List Rl)(hb:H id=.live ⟨ty,qef l⟩)(hd:D id=false)(hn:n=l.length)(ht:tot=l.length*14):Fz H D (.sl id tot 14 0 n) (.list (qaN l)):=by
 subst hn ht
 refine Fz.sl hb hd (qhp l) (by simp[esz]) (qaB l) (qi5 l) (by rw[←qge];exact qgf l) fun k hk=>?_
 rw[←qge,Nat.zero_add]
 exact .same (qbb (qjc _ l) k)
abbrev sW (rs:List Rl):Slot:=.live ⟨57,qef rs⟩
theorem sW_fz {H:Heap}{D:Nat→Bool}(rs:List Rl):SlotFz H D (sW rs) (sW rs):=SlotFz.liveS (qjc _ rs) (qgf rs)
theorem qpv {P:Program}{f:FuncId}{N:Nat}{ic:ICode}{rs:List (Nat×Option Nat)}{args:List T}{d d':Dk}{r:T}{l:List Rl}(h:FnOk P f N rs ic)(hn:args.length≤N)
 (hw:W P N ic (ofL (argL 0 args)) (hpL [(99999,dkB d),(2604,sW l)]) fun e env' H''=>(e=.ret∨e=.normal)∧∃x hl hl',resT env' H'' rs=some x∧H''=hpL hl∧Fz (hpL hl) (inL [99999,2604]) x r∧LFz (hpL hl) [99999,2604] hl hl'∧qam [99999,2604] hl'=[(99999,dkB d'),(2604,sW l)]):TC P f args (hpL [(99999,dkB d),(2604,sW l)]) r (hpL [(99999,dkB d'),(2604,sW l)]):=
 qj9 [99999,2604] h hn rfl hw
end
section
open Go.RowKit
set_option maxHeartbeats 2000000
def leV (t:Ty)(a b:V):Prop:=qaR t a=true∧qaR t b=true∧bel t a b
theorem qoe {t:Ty}{v:V}(h:qaR t v=true):ofV t v=true:=by
 simp only[qaR,Bool.and_eq_true] at h
 exact h.2
theorem qt0 (t:Ty)(a b:V)(hs:qh3 t)(ht:t.fit)(ha:a.fit)(hb:b.fit):∃r:Bool,(r=true↔leV t a b)∧TP Tryz.prog 24 [qal t,encV a,encV b] (.bool r):=by
 have h1:=qcK t a ht ha
 have h2:=qcK t b ht hb
 rcases ea:qaR t a with _ | _
 ·refine⟨false,by simp[leV,ea],?_⟩
  rw[ea] at h1
  rcases t with⟨k,s,rs,ps⟩
  rcases a with⟨na,xs⟩
  rcases b with⟨nb,ys⟩
  simp only[qal,encV] at h1
  refine qan fn24 (by simp) ?_
  unfold i24
  simp only[argL,encV,qal]
  refine wR0 0 [3,4,5] cJ0 ?_
  refine wRn 100 [6] cJ0 ?_
  refine rC cJ0 ?_
  refine⟨_,h1,rE cJ0 ?_⟩
  refine wP ?_
  exact .same rfl
 ·rcases eb:qaR t b with _ | _
  ·refine⟨false,by simp[leV,eb],?_⟩
   rw[ea] at h1
   rw[eb] at h2
   rcases t with⟨k,s,rs,ps⟩
   rcases a with⟨na,xs⟩
   rcases b with⟨nb,ys⟩
   simp only[qal,encV] at h1 h2
   refine qan fn24 (by simp) ?_
   unfold i24
   simp only[argL,encV,qal]
   refine wR0 0 [3,4,5] cJ0 ?_
   refine wRn 100 [6] cJ0 ?_
   refine rC cJ0 ?_
   refine⟨_,h1,rN cJ0 ?_⟩
   refine rC cJ0 ?_
   refine⟨_,h2,rE cJ0 ?_⟩
   refine wP ?_
   exact .same rfl
  ·obtain⟨r,e,h3⟩:=qmF t a b hs ht ha hb (qoe ea) (qoe eb)
   refine⟨r,by rw[e,leV,ea,eb];simp,?_⟩
   rw[ea] at h1
   rw[eb] at h2
   rcases t with⟨k,s,rs,ps⟩
   rcases a with⟨na,xs⟩
   rcases b with⟨nb,ys⟩
   simp only[qal,encV] at h1 h2 h3
   refine qan fn24 (by simp) ?_
   unfold i24
   simp only[argL,encV,qal]
   refine wR0 0 [3,4,5] cJ0 ?_
   refine wRn 100 [6] cJ0 ?_
   refine rC cJ0 ?_
   refine⟨_,h1,rN cJ0 ?_⟩
   refine rC cJ0 ?_
   refine⟨_,h2,rN cJ0 ?_⟩
   refine rC cJ0 ?_
   refine⟨_,h3,rE cJ0 ?_⟩
   refine wP ?_
   exact .same rfl
end
section
section
variable {α:Type}
def subP (l k:List α):Prop:=∃m,k.Perm (l++m)
theorem subP.refl (l:List α):subP l l:=⟨[],by simp⟩
theorem subP.perm {l k l' k':List α}(h:subP l k)(hl:l'.Perm l)(hk:k'.Perm k):subP l' k':=by
 obtain⟨m,hm⟩:=h
 exact⟨m,hk.trans (hm.trans (hl.symm.append_right m))⟩
theorem subP.append {l k:List α}(h:subP l k)(r:List α):subP (l++r) (k++r):=by
 obtain⟨m,hm⟩:=h
 refine⟨m,(hm.append_right r).trans ?_⟩
 rw[List.append_assoc,List.append_assoc]
 exact List.Perm.append_left l List.perm_append_comm
theorem subP.map {β:Type}{l k:List α}(h:subP l k)(f:α→β):subP (l.map f) (k.map f):=by
 obtain⟨m,hm⟩:=h
 exact⟨m.map f,by rw[←List.map_append];exact hm.map f⟩
theorem subP.len {l k:List α}(h:subP l k):l.length≤k.length:=by
 obtain⟨m,hm⟩:=h
 rw[hm.length_eq,List.length_append];omega
theorem qmf {l k:List α}(h:l.Perm k):∃g:Nat→Nat,(∀i j,i<l.length→j<l.length→g i=g j→i=j)∧∀i,i<l.length→g i<k.length∧l[i]? = k[g i]?:=by
 induction h with
 | nil=>exact⟨id,fun i j hi=>by simp at hi,fun i hi=>by simp at hi⟩
 | cons x h ih=>
  obtain⟨g,g1,g2⟩:=ih
  refine⟨fun i=>match i with | 0=>0 | i+1=>g i+1,?_,?_⟩
  ·intro i j hi hj e
   match i,j with
   | 0,0=>rfl
   | 0,j+1=>simp at e
   | i+1,0=>simp at e
   | i+1,j+1=>
    simp only[List.length_cons] at hi hj
    have:=g1 i j (by omega) (by omega) (by simpa using e)
    omega
  ·intro i hi
   match i with
   | 0=>simp
   | i+1=>
    simp only[List.length_cons] at hi
    have:=g2 i (by omega)
    simpa using this
 | swap x y l=>
  refine⟨fun i=>match i with | 0=>1 | 1=>0 | i+2=>i+2,?_,?_⟩
  ·intro i j hi hj e
   match i,j with
   | 0,0=>rfl
   | 0,1=>simp at e
   | 0,j+2=>simp at e
   | 1,0=>simp at e
   | 1,1=>rfl
   | 1,j+2=>simp at e
   | i+2,0=>simp at e
   | i+2,1=>simp at e
   | i+2,j+2=>simpa using e
  ·intro i hi
   match i with
   | 0=>simp
   | 1=>simp
   | i+2=>simpa using hi
 | trans h1 h2 ih1 ih2=>
  obtain⟨g,g1,g2⟩:=ih1
  obtain⟨f,f1,f2⟩:=ih2
  refine⟨fun i=>f (g i),fun i j hi hj e=>g1 i j hi hj (f1 _ _ (g2 i hi).1 (g2 j hj).1 e),fun i hi=>?_⟩
  have a:=g2 i hi
  have b:=f2 _ a.1
  exact⟨b.1,a.2.trans b.2⟩
theorem subP.places {l k:List α}(h:subP l k):∃f:Nat→Nat,(∀i j,i<l.length→j<l.length→f i=f j→i=j)∧∀i,i<l.length→f i<k.length∧l[i]? = k[f i]?:=by
 obtain⟨m,hm⟩:=h
 obtain⟨g,g1,g2⟩:=qmf hm.symm
 refine⟨g,fun i j hi hj=>g1 i j (by simp;omega) (by simp;omega),fun i hi=>?_⟩
 have:=g2 i (by simp;omega)
 exact⟨this.1,by rw[←this.2,List.getElem?_append_left hi]⟩
theorem qhW:∀(l k:List α) (f:Nat→Nat),(∀i j,i<l.length→j<l.length→f i=f j→i=j)→(∀i,i<l.length→f i<k.length∧l[i]? = k[f i]?)→subP l k
 | [],k,f,_,_=>⟨k,by simp⟩
 | x::l,k,f,h1,h2=>by
  have h0:=h2 0 (by simp)
  have hx:k[f 0]? = some x:=by rw[←h0.2];rfl
  have hk:k.Perm (x::k.eraseIdx (f 0)):=by
   have e:k=k.take (f 0)++x::k.drop (f 0+1):=by
    have hd:=List.drop_eq_getElem_cons h0.1
    have hg:k[f 0]=x:=by
     rw[List.getElem?_eq_getElem h0.1] at hx
     exact Option.some.inj hx
    rw[hg] at hd
    rw[←hd,List.take_append_drop]
   rw[List.eraseIdx_eq_take_drop_succ]
   conv=>lhs;rw[e]
   exact List.perm_middle
  have hne:∀i,i<l.length→f (i+1)≠f 0:=fun i hi e=>by
   have:=h1 (i+1) 0 (by simp;omega) (by simp) e
   omega
  have hlen:(k.eraseIdx (f 0)).length+1=k.length:=by rw[List.length_eraseIdx,if_pos h0.1];omega
  obtain⟨m,hm⟩:=qhW l (k.eraseIdx (f 0)) (fun i=>if f (i+1)<f 0 then f (i+1) else f (i+1) - 1) (fun i j hi hj e=>by
   have a:=hne i hi
   have b:=hne j hj
   have:f (i+1)=f (j+1):=by
    split at e<;>split at e<;>omega
   have:=h1 (i+1) (j+1) (by simp;omega) (by simp;omega) this
   omega) (fun i hi=>by
   have a:=hne i hi
   have b:=h2 (i+1) (by simp;omega)
   have c:l[i]? = k[f (i+1)]?:=by rw[←b.2];rfl
   split
   ·rename_i hlt
    refine⟨by omega,?_⟩
    rw[c,List.getElem?_eraseIdx,if_pos hlt]
   ·rename_i hge
    refine⟨by omega,?_⟩
    rw[c,List.getElem?_eraseIdx,if_neg (by omega)]
    congr 1
    omega)
  exact⟨m,hk.trans (hm.cons x)⟩
end
end
section
open Go.RowKit
set_option maxHeartbeats 2000000
attribute [local simp] qay qai
abbrev vB (n:Int)(x:T):Slot:=.live ⟨25,[.int .i64 n,x]⟩
abbrev rB (cs:List T):Slot:=.live ⟨25,cs⟩
theorem qmW (N:Int)(u:V)(ks:List V)(hv:(V.mk N (u::ks)).fit):TC Tryz.prog 25 [.agg [.int .i64 N,.list (qac (u::ks))]] (hpL []) (.agg [.int .i64 N,.sl 410 ((ks.length+1)*2) 2 0 (ks.length+1)]) (hpL [(410,rB (qaq (u::ks)))]):=by
 have h:=qlR N (u::ks) hv
 simp only[rowT,rowH] at h
 have r1:∀σ:Nat→Nat,renL σ (qac (u::ks))=qac (u::ks):=fun σ=>qby _ (qai _ _)
 have r2:∀σ:Nat→Nat,renL σ (qaq (u::ks))=qaq (u::ks):=fun σ=>qby _ (qay _ _)
 refine qg0 [(409,410)] h ?_ rfl ?_ ?_
 ·simp[renL,T.ren,r1]
 ·simp[renL,T.ren,swps,swp]
 ·simp[swps,swp,Slot.ren,r2]
theorem qpY (N s:Int)(x:V)(y:T)(K:List (Nat×Slot))(hK:K=[]∧y=.nil∨∃u ks,K=[(410,rB (qaq (u::ks)))]∧y=.sl 410 ((ks.length+1)*2) 2 0 (ks.length+1))
 (hx:∃a bs,x=.mk a bs∧TC Tryz.prog 25 [.agg [.int .i64 a,.list (qac bs)]] (hpL []) (.agg [.int .i64 a,y]) (hpL K)) (hs:TP Tryz.prog 25 [.agg [.int .i64 s,.list []]] (.agg [.int .i64 s,.list []])) (Q:IExit→(Nat→T)→Heap→Prop)
 (hQ:∀i:Int,Q (.exit 0) (ofL [(1,.ref 0 2 0),(2,.ref 1 2 0),(3,.ref 103 2 0),(4,.int .i64 i),(12,.bool false)]) (hpL ([(0,vB N (.list (qac [.mk s [],x]))),(1,vB 0 .nil),(103,vB N (.sl 409 4 2 0 2)),(409,rB [.int .i64 s,.list [],.int .i64 x.n,y])]++K))) :
 WL Tryz.prog 27 qeb (ofL [(1,.ref 0 2 0),(2,.ref 1 2 0),(3,.ref 103 2 0),(4,.int .i64 0)]) (hpL [(0,vB N (.list (qac [.mk s [],x]))),(1,vB 0 .nil),(103,vB N .nil)]) Q:=by
 obtain⟨a,bs,rfl,hx⟩:=hx
 simp only[V.n] at hQ
 have hl2:(qac [V.mk s [],V.mk a bs]).length=2:=rfl
 have g0:(qac [V.mk s [],V.mk a bs]).getD (0:Int).toNat .undef=.agg [.int .i64 s,.list []]:=rfl
 have g1:(qac [V.mk s [],V.mk a bs]).getD (1:Int).toNat .undef=.agg [.int .i64 a,.list (qac bs)]:=rfl
 have d0:decide ((0:Int)<((2:Nat):Int))=true:=rfl
 have d1:decide ((1:Int)<((2:Nat):Int))=true:=rfl
 have d2:decide ((2:Int)<((2:Nat):Int))=false:=rfl
 have w0:IntKind.wrap .i64 ((0:Int)+1)=1:=rfl
 have w1:IntKind.wrap .i64 ((1:Int)+1)=2:=rfl
 have rp:∀zs:List T,repl 1 zs=zs:=fun zs=>by simp[repl]
 have hl0:(0:Int)<((qac [V.mk s [],V.mk a bs]).length:Int):=by rw[hl2];decide
 have hl1:(1:Int)<((qac [V.mk s [],V.mk a bs]).length:Int):=by rw[hl2];decide
 have h2:WL Tryz.prog 27 qeb (ofL [(1,.ref 0 2 0),(2,.ref 1 2 0),(3,.ref 103 2 0),(4,.int .i64 2)]) (hpL ([(0,vB N (.list (qac [.mk s [],.mk a bs]))),(1,vB 0 .nil),(103,vB N (.sl 409 4 2 0 2)),(409,rB [.int .i64 s,.list [],.int .i64 a,y])]++K)) Q:=by
  simp only[List.cons_append,List.nil_append] at hQ ⊢
  have fX:=(cJ2 @hl2 @d2)
  refine qaa qeb.eq_1 ?_
  refine wR0 300 [1,2,3,4,12] fX ?_
  refine wF fX ?_
  refine wX ?_
  refine wN ?_
  exact hQ _
 have h1:WL Tryz.prog 27 qeb (ofL [(1,.ref 0 2 0),(2,.ref 1 2 0),(3,.ref 103 2 0),(4,.int .i64 1)]) (hpL [(0,vB N (.list (qac [.mk s [],.mk a bs]))),(1,vB 0 .nil),(103,vB N (.sl 409 2 2 0 1)),(409,rB [.int .i64 s,.list []])]) Q:=by
  rcases hK with⟨rfl,rfl⟩ | ⟨u,ks,rfl,rfl⟩
  ·simp only[List.append_nil] at h2
   have fX:=(cJ5 @hl2 @d1 @g1 @w1 @rp)
   refine qaa qeb.eq_1 ?_
   refine W_gc ?_
   refine wR0 300 [1,2,3,4,12] fX ?_
   refine wT fX ?_
   refine wRn 400 [1,2,3,4] fX ?_
   refine rC fX ?_
   refine⟨_,hx,rE fX ?_⟩
   refine wR0 500 [1,2,3,4] fX ?_
   refine wN ?_
   refine qaC [0,1,103,409] (by simp[inL]) (by simp[inL,T.cl]) (by simp[qam,inL,Slot.cl,T.cl,clL]) ?_
   exact h2
  ·simp only[List.cons_append,List.nil_append] at h2
   have fX:=(cJ5 @hl2 @d1 @g1 @w1 @rp)
   refine qaa qeb.eq_1 ?_
   refine W_gc ?_
   refine wR0 300 [1,2,3,4,12] fX ?_
   refine wT fX ?_
   refine wRn 400 [1,2,3,4] fX ?_
   refine rU [] [(410,rB (qaq (u::ks)))] fX ?_
   refine⟨_,hx,rE fX ?_⟩
   refine wR0 500 [1,2,3,4] fX ?_
   refine wN ?_
   refine qaC [0,1,103,409,410] (by simp[inL]) (by simp[inL,T.cl]) (by simp[qam,inL,Slot.cl,T.cl,clL]) ?_
   exact h2
 have fX:=(cJ5 @hl2 @d0 @g0 @w0 @rp)
 refine qaa qeb.eq_1 ?_
 refine W_gc ?_
 refine wR0 300 [1,2,3,4,12] fX ?_
 refine wT fX ?_
 refine wRn 400 [1,2,3,4] fX ?_
 refine rC fX ?_
 refine⟨_,hs,rE fX ?_⟩
 refine wR0 500 [1,2,3,4] fX ?_
 refine wN ?_
 refine qaC [0,1,103,409] (by simp[inL]) (by simp[inL,T.cl]) (by simp[qam,inL,Slot.cl,T.cl,clL]) ?_
 exact h1
theorem qsh (N s:Int)(u:V)(ks:List V)(hv:(V.mk 0 (u::ks)).fit):TC Tryz.prog 25 [.agg [.int .i64 N,.list (qac [.mk s [],.mk 0 (u::ks)])]] (hpL []) (.agg [.int .i64 N,.sl 409 4 2 0 2]) (hpL [(409,rB [.int .i64 s,.list [],.int .i64 0,.sl 410 ((ks.length+1)*2) 2 0 (ks.length+1)]),(410,rB (qaq (u::ks)))]):=by
 have hs:TP Tryz.prog 25 [.agg [.int .i64 s,.list []]] (.agg [.int .i64 s,.list []]):=qhf (.mk s []) (by simp[V.fit,fitL])
 have h0:TC Tryz.prog 25 [.agg [.int .i64 N,.list (qac [.mk s [],.mk 0 (u::ks)])]] (hpL []) (.agg [.int .i64 N,.sl 409 4 2 0 2]) (hpL [(0,vB N (.list (qac [.mk s [],.mk 0 (u::ks)]))),(1,vB N (.sl 409 4 2 0 2)),(103,vB N (.sl 409 4 2 0 2)),(409,rB [.int .i64 s,.list [],.int .i64 0,.sl 410 ((ks.length+1)*2) 2 0 (ks.length+1)]),(410,rB (qaq (u::ks)))]):=by
  refine qcj fn25 (by simp) ?_
  unfold i25
  simp only[argL]
  refine wR0 0 [1,2] cJ0 ?_
  refine wR0 100 [1,2,3] cJ0 ?_
  refine wR0 200 [1,2,3,4] cJ0 ?_
  refine wL ?_
  refine qpY N s (.mk 0 (u::ks)) _ _ (.inr ⟨u,ks,rfl,rfl⟩) ⟨0,u::ks,rfl,qmW 0 u ks hv⟩ hs _ ?_
  ·intro i
   refine wN ?_
   simp only[List.cons_append,List.nil_append,V.n]
   refine wR0 600 [2] cJ0 ?_
   refine wE ?_
   refine wN ?_
   first | exact⟨by simp,rfl,rfl⟩ | exact⟨by simp,rfl,trivial⟩
 exact qdY [409,410] h0 rfl (by simp[T.cl,clL,inL]) (by simp[qam,inL,Slot.cl,T.cl,clL])
theorem qpX (N s:Int):TC Tryz.prog 25 [.agg [.int .i64 N,.list (qac [.mk s [],.mk 0 []])]] (hpL []) (.agg [.int .i64 N,.sl 409 4 2 0 2]) (hpL [(409,rB [.int .i64 s,.list [],.int .i64 0,.nil])]):=by
 have hs:TP Tryz.prog 25 [.agg [.int .i64 s,.list []]] (.agg [.int .i64 s,.list []]):=qhf (.mk s []) (by simp[V.fit,fitL])
 have hc:TC Tryz.prog 25 [.agg [.int .i64 0,.list (qac [])]] (hpL []) (.agg [.int .i64 0,.nil]) (hpL []):=qlR 0 [] (by simp[V.fit,fitL])
 have h0:TC Tryz.prog 25 [.agg [.int .i64 N,.list (qac [.mk s [],.mk 0 []])]] (hpL []) (.agg [.int .i64 N,.sl 409 4 2 0 2]) (hpL [(0,vB N (.list (qac [.mk s [],.mk 0 []]))),(1,vB N (.sl 409 4 2 0 2)),(103,vB N (.sl 409 4 2 0 2)),(409,rB [.int .i64 s,.list [],.int .i64 0,.nil])]):=by
  refine qcj fn25 (by simp) ?_
  unfold i25
  simp only[argL]
  refine wR0 0 [1,2] cJ0 ?_
  refine wR0 100 [1,2,3] cJ0 ?_
  refine wR0 200 [1,2,3,4] cJ0 ?_
  refine wL ?_
  refine qpY N s (.mk 0 []) _ [] (.inl ⟨rfl,rfl⟩) ⟨0,[],rfl,hc⟩ hs _ ?_
  ·intro i
   refine wN ?_
   simp only[List.append_nil,V.n]
   refine wR0 600 [2] cJ0 ?_
   refine wE ?_
   refine wN ?_
   first | exact⟨by simp,rfl,rfl⟩ | exact⟨by simp,rfl,trivial⟩
 exact qdY [409] h0 rfl (by simp[T.cl,clL,inL]) (by simp[qam,inL,Slot.cl,T.cl,clL])
end
end Go.Proofs.YtpplncjaihgimaaGreat
