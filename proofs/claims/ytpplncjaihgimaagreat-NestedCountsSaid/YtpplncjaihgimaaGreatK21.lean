/- Contracts of functions of the program, for all arguments that they name. -/
import Derived.Test.YtpplncjaihgimaaGreatK08
import Derived.Test.YtpplncjaihgimaaGreatK19
import Derived.Test.YtpplncjaihgimaaGreatK20
namespace Go.Proofs.YtpplncjaihgimaaGreat
set_option linter.unusedVariables false
section
open Go.RowKit
set_option maxHeartbeats 2000000
def qdV (s:Nat→Bool)(m:Nat):Nat:=((List.range m).filter fun c=>!s c).length
theorem qmx {s s':Nat→Bool}{m:Nat}(h:∀c,s c=true→s' c=true):qdV s' m≤qdV s m:=by
 unfold qdV
 rw[←List.countP_eq_length_filter,←List.countP_eq_length_filter]
 refine List.countP_mono_left fun c _ hc=>?_
 cases hs:s c with
 | false=>rfl
 | true=>rw[h c hs] at hc;cases hc
theorem qrQ {s:Nat→Bool}{m j:Nat}(hj:j<m)(hs:s j=false):qdV (upd s j true) m<qdV s m:=by
 unfold qdV
 induction m with
 | zero=>omega
 | succ m ih=>
  simp only[List.range_succ,List.filter_append,List.length_append]
  by_cases h:j=m
  ·subst h
   have e:(List.range j).filter (fun c=>!upd s j true c)=(List.range j).filter fun c=>!s c:=by
    refine List.filter_congr fun c hc=>?_
    have:=List.mem_range.1 hc
    rw[upd_ne];omega
   rw[e]
   simp[upd_same,hs]
  ·have:=ih (by omega)
   have e:upd s j true m=s m:=upd_ne _ _ (fun e=>h e.symm)
   have e2:(List.filter (fun c=>!upd s j true c) [m]).length=(List.filter (fun c=>!s c) [m]).length:=by simp[List.filter_cons,e]
   omega
def qbG (l:List Bool):List T:=l.map T.bool
def qbn (t:List (List Bool)):List T:=t.map fun r=>.list (qbG r)
def owF (l:List Int)(c:Nat):Int:=l.getD c (-1)
def seF (l:List Bool)(c:Nat):Bool:=l.getD c false
def eF (t:List (List Bool))(r c:Nat):Bool:=(t.getD r []).getD c false
theorem qcm (l:List Bool):(qbG l).length=l.length:=by simp[qbG]
theorem qcA (t:List (List Bool)):(qbn t).length=t.length:=by simp[qbn]
theorem qeL (D:Nat→Bool)(l:List Bool):clL D (qbG l)=true:=by
 induction l with
 | nil=>rfl
 | cons b l ih=>simpa [qbG,clL,T.cl] using ih
theorem qdi (D:Nat→Bool)(t:List (List Bool)):clL D (qbn t)=true:=by
 induction t with
 | nil=>rfl
 | cons b l ih=>simpa [qbn,clL,T.cl,qeL] using ih
attribute [local simp] qeL qdi qae
theorem qqR (l:List Int)(j:Nat)(x:Int)(h:j<l.length):owF (l.set j x)=upd (owF l) j x:=by
 funext k
 simp only[owF,upd,List.getD_eq_getElem?_getD,List.getElem?_set]
 by_cases e:k=j
 ·subst e;simp[h]
 ·rw[if_neg (fun h=>e h.symm),if_neg e]
theorem qjX (l:List Bool)(j:Nat)(x:Bool)(h:j<l.length):seF (l.set j x)=upd (seF l) j x:=by
 funext k
 simp only[seF,upd,List.getD_eq_getElem?_getD,List.getElem?_set]
 by_cases e:k=j
 ·subst e;simp[h]
 ·rw[if_neg (fun h=>e h.symm),if_neg e]
theorem read1 {α:Type}(f:α→T)(l:List α)(d:α)(j:Nat)(h:j<l.length):List.take 1 (List.drop j (l.map f))=[f (l.getD j d)]:=by
 rw[←List.map_drop,List.drop_eq_getElem_cons h,List.map_cons,List.take_succ_cons,List.take_zero]
 simp[List.getD_eq_getElem?_getD,h]
theorem qog {α:Type}(f:α→T)(l:List α)(x:α)(j:Nat)(h:j<l.length):List.take j (l.map f)++[f x]++List.drop (j+1) (l.map f)=(l.set j x).map f:=by
 rw[List.set_eq_take_append_cons_drop,if_pos h]
 simp[List.map_take,List.map_drop]
abbrev bS (l:List Bool):Slot:=.live ⟨4,qbG l⟩
abbrev oS (l:List Int):Slot:=.live ⟨3,qab l⟩
def qsZ (n:Nat)(o:Nat→Int):Prop:=∀c,o c = -1∨∃x:Nat,o c=x∧x<n
abbrev TryC (tb:List (List Bool))(m x:Nat)(seen seen':List Bool)(owner owner':List Int)(b:Bool):Prop:=
 TC Tryz.prog 195 [.list (qbn tb),.int .i64 x,.sl 900 m 0 0 m,.sl 901 m 0 0 m] (hpL [(900,bS seen),(901,oS owner)]) (.bool b) (hpL [(900,bS seen'),(901,oS owner')])
theorem qtG (tb:List (List Bool))(n m K row:Nat)(hn:tb.length=n)(hr:∀r∈tb,r.length=m)(hm:m≤1000)(hn2:n≤1000)(hrow:row<n)
 (hrec:∀(x:Nat) (seen:List Bool) (owner:List Int),x<n→seen.length=m→owner.length=m→qsZ n (owF owner)→qdV (seF seen) m<K→
  ∃b seen' owner',Srch (eF tb) m x 0 (owF owner) (seF seen) b (owF owner') (seF seen')∧seen'.length=m∧owner'.length=m∧TryC tb m x seen seen' owner owner' b) :
 ∀(g j:Nat) (seen:List Bool) (owner:List Int),j+g=m→seen.length=m→owner.length=m→qsZ n (owF owner)→qdV (seF seen) m≤K→
  ∃b seen' owner',Srch (eF tb) m row j (owF owner) (seF seen) b (owF owner') (seF seen')∧seen'.length=m∧owner'.length=m∧∀Q:IExit→(Nat→T)→Heap→Prop,
   (b=true→Q .ret (ofL [(8,.bool true)]) (hpL [(900,bS seen'),(901,oS owner')]))→
   (b=false→∀i:Int,Q (.exit 0) (ofL [(0,.list (qbn tb)),(1,.int .i64 row),(2,.sl 900 m 0 0 m),(3,.sl 901 m 0 0 m),(9,.int .i64 i),(16,.bool false)]) (hpL [(900,bS seen'),(901,oS owner')]))→
   WL Tryz.prog 55 qeo (ofL [(0,.list (qbn tb)),(1,.int .i64 row),(2,.sl 900 m 0 0 m),(3,.sl 901 m 0 0 m),(9,.int .i64 j)]) (hpL [(900,bS seen),(901,oS owner)]) Q:=by
 obtain⟨R,hR,hRm⟩:∃R,tb.getD row []=R∧R.length=m:=⟨_,rfl,by
  rw[List.getD_eq_getElem?_getD,List.getElem?_eq_getElem (by omega)]
  exact hr _ (List.getElem_mem _)⟩
 have hrw:(qbn tb).getD (row:Int).toNat .undef=.list (qbG R):=by
  rw[←hR]
  simp[qbn,List.getD_eq_getElem?_getD,List.getElem?_eq_getElem (show row<tb.length by omega)]
 have hrb:(row:Int)<((qbn tb).length:Int):=by rw[qcA];omega
 have hRl:(qbG R).length=m:=by rw[qcm];exact hRm
 intro g
 induction g with
 | zero=>
  intro j seen owner hj hs ho hv hu
  have hd:decide ((j:Int)<(m:Int))=false:=decide_eq_false (by omega)
  refine⟨false,seen,owner,.fin (by omega),hs,ho,fun Q hQ1 hQ2=>?_⟩
  have fX:=(cJ3 @hrw @hRl @hd)
  refine qaa qeo.eq_1 ?_
  refine wR0 200 [0,1,2,3,9,16] fX ?_
  refine wF fX ?_
  refine wX ?_
  refine wN ?_
  exact hQ2 rfl _
 | succ g ih=>
  intro j seen owner hj hs ho hv hu
  have hd:decide ((j:Int)<(m:Int))=true:=decide_eq_true (by omega)
  have hw:IntKind.wrap .i64 ((j:Int)+1)=((j+1:Nat):Int):=by rw[wrap64 (by omega) (by omega)];rfl
  have hj1:((j:Nat):Int).toNat*1=j:=by simp
  have hjm:(j:Int)<(m:Int):=by omega
  have hg1:(qbG R).getD (j:Int).toNat .undef=.bool (eF tb row j):=by
   rw[eF,hR]
   simp[qbG,List.getD_eq_getElem?_getD,List.getElem?_eq_getElem (show j<R.length by omega)]
  have hsl:(qbG seen).length=m:=by rw[qcm];exact hs
  have hol:(qab owner).length=m:=by rw[qah];exact ho
  have hsr:List.take 1 (List.drop j (qbG seen))=[.bool (seF seen j)]:=read1 T.bool seen false j (by omega)
  have hor:List.take 1 (List.drop j (qab owner))=[.int .i64 (owF owner j)]:=read1 (T.int .i64) owner (-1) j (by omega)
  by_cases hE:eF tb row j=false∨seF seen j=true
  ·obtain⟨b,seen',owner',h1,h2,h3,h4⟩:=ih (j+1) seen owner (by omega) hs ho hv hu
   refine⟨b,seen',owner',.skip (by omega) hE h1,h2,h3,fun Q hQ1 hQ2=>?_⟩
   have hQ:=h4 Q hQ1 hQ2
   rcases hE1:eF tb row j with _ | _
   ·have fX:=(cJ8 @hrw @hRl @hd @hg1 @hE1 @hj1 @hw (cJ2 @hsl @hsr))
    refine qaa qeo.eq_1 ?_
    refine wR0 200 [0,1,2,3,9,16] fX ?_
    refine wT fX ?_
    refine wR0 300 [0,1,2,3,9,32] fX ?_
    refine wT fX ?_
    refine wX ?_
    refine wR0 800 [0,1,2,3,9] fX ?_
    refine wN ?_
    exact hQ
   ·have hE2:seF seen j=true:=by rcases hE with h | h;(rw[hE1] at h;cases h);exact h
    have fX:=(cJ8 @hrw @hRl @hd @hg1 @hE1 @hj1 @hw (cJ3 @hsl @hsr @hE2))
    refine qaa qeo.eq_1 ?_
    refine wR0 200 [0,1,2,3,9,16] fX ?_
    refine wT fX ?_
    refine wR0 300 [0,1,2,3,9,32] fX ?_
    refine wT fX ?_
    refine wX ?_
    refine wR0 800 [0,1,2,3,9] fX ?_
    refine wN ?_
    exact hQ
  ·have hE1:eF tb row j=true:=by cases h:eF tb row j<;>simp[h] at hE ⊢
   have hE2:seF seen j=false:=by cases h:seF seen j<;>simp[h] at hE ⊢
   have hsw:List.take j (qbG seen)++[.bool true]++List.drop (j+1) (qbG seen)=qbG (seen.set j true):=qog T.bool seen true j (by omega)
   have hs':(seen.set j true).length=m:=by rw[List.length_set];exact hs
   have hsl':(qbG (seen.set j true)).length=m:=by rw[qcm];exact hs'
   have hu':qdV (seF (seen.set j true)) m<qdV (seF seen) m:=by rw[qjX _ _ _ (by omega)];exact qrQ (by omega) hE2
   by_cases hfree:owF owner j = -1
   ·have hlt:decide ((-1:Int)<0)=true:=rfl
    have how:List.take j (qab owner)++[.int .i64 (row:Int)]++List.drop (j+1) (qab owner)=qab (owner.set j row):=qog (T.int .i64) owner (row:Int) j (by omega)
    refine⟨true,seen.set j true,owner.set j row,?_,hs',by rw[List.length_set];exact ho,fun Q hQ1 hQ2=>?_⟩
    ·rw[qjX _ _ _ (by omega),qqR _ _ _ (by omega)]
     exact .free (by omega) hE1 hE2 hfree
    have fX:=(cJ8 @hrw @hRl @hd @hg1 @hE1 @hj1 @hw (cJ8 @hsl @hsr @hE2 @hsw @hsl' @hol @hor (cJ3 @hfree @hlt @how)))
    refine qaa qeo.eq_1 ?_
    refine wR0 200 [0,1,2,3,9,16] fX ?_
    refine wT fX ?_
    refine wR0 300 [0,1,2,3,9,32] fX ?_
    refine wF fX ?_
    refine wR0 400 [0,1,2,3,9] fX ?_
    refine wR0 500 [0,1,2,3,9,50] fX ?_
    refine wT fX ?_
    refine wR0 600 [] fX ?_
    refine wR0 700 [8] fX ?_
    refine wE ?_
    refine wN ?_
    exact hQ1 rfl
   ·obtain⟨x,hx,hxn⟩:=(hv j).resolve_left hfree
    have hlt:decide ((x:Int)<0)=false:=decide_eq_false (by omega)
    obtain⟨b2,seen2,owner2,r1,r2,r3,r4⟩:=hrec x (seen.set j true) owner hxn hs' ho hv (by omega)
    rw[qjX _ _ _ (by omega)] at r1
    rcases b2 with _ | _
    ·have hsame:=r1.same rfl
     have hu2:qdV (seF seen2) m≤K:=by
      have q1:=qmx (m:=m) r1.mono
      rw[←qjX _ _ _ (by omega)] at q1
      omega
     obtain⟨b,seen',owner',h1,h2,h3,h4⟩:=ih (j+1) seen2 owner2 (by omega) r2 r3 (by rw[hsame];exact hv) hu2
     refine⟨b,seen',owner',.back (by omega) hE1 hE2 hx r1 h1,h2,h3,fun Q hQ1 hQ2=>?_⟩
     have hQ:=h4 Q hQ1 hQ2
     have fX:=(cJ8 @hrw @hRl @hd @hg1 @hE1 @hj1 @hw (cJ8 @hsl @hsr @hE2 @hsw @hsl' @hol @hor (cJ2 @hx @hlt)))
     refine qaa qeo.eq_1 ?_
     refine wR0 200 [0,1,2,3,9,16] fX ?_
     refine wT fX ?_
     refine wR0 300 [0,1,2,3,9,32] fX ?_
     refine wF fX ?_
     refine wR0 400 [0,1,2,3,9] fX ?_
     refine wRn 500 [0,1,2,3,9,50] fX ?_
     refine rU [(900,bS (seen.set j true)),(901,oS owner)] [(900,bS seen2),(901,oS owner2)] fX ?_
     refine⟨_,r4.fullL (by simp) (by simp[qbD,qaL,qa0]),rE fX ?_⟩
     refine wF fX ?_
     refine wR0 800 [0,1,2,3,9] fX ?_
     refine wN ?_
     exact hQ
    ·have how:List.take j (qab owner2)++[.int .i64 (row:Int)]++List.drop (j+1) (qab owner2)=qab (owner2.set j row):=qog (T.int .i64) owner2 (row:Int) j (by omega)
     have hol2:(qab owner2).length=m:=by rw[qah];exact r3
     refine⟨true,seen2,owner2.set j row,?_,r2,by rw[List.length_set];exact r3,fun Q hQ1 hQ2=>?_⟩
     ·rw[qqR _ _ _ (by omega)]
      exact .push (by omega) hE1 hE2 hx r1
     have fX:=(cJ8 @hrw @hRl @hd @hg1 @hE1 @hj1 @hw (cJ8 @hsl @hsr @hE2 @hsw @hsl' @hol @hor (cJ4 @hx @hlt @hol2 @how)))
     refine qaa qeo.eq_1 ?_
     refine wR0 200 [0,1,2,3,9,16] fX ?_
     refine wT fX ?_
     refine wR0 300 [0,1,2,3,9,32] fX ?_
     refine wF fX ?_
     refine wR0 400 [0,1,2,3,9] fX ?_
     refine wRn 500 [0,1,2,3,9,50] fX ?_
     refine rU [(900,bS (seen.set j true)),(901,oS owner)] [(900,bS seen2),(901,oS owner2)] fX ?_
     refine⟨_,r4.fullL (by simp) (by simp[qbD,qaL,qa0]),rE fX ?_⟩
     refine wT fX ?_
     refine wR0 600 [] fX ?_
     refine wR0 700 [8] fX ?_
     refine wE ?_
     refine wN ?_
     exact hQ1 rfl
theorem try_tc (tb:List (List Bool))(n m:Nat)(hn:tb.length=n)(hr:∀r∈tb,r.length=m)(hm:m≤1000)(hn2:n≤1000):∀(K x:Nat) (seen:List Bool) (owner:List Int),x<n→seen.length=m→owner.length=m→qsZ n (owF owner)→qdV (seF seen) m<K→
 ∃b seen' owner',Srch (eF tb) m x 0 (owF owner) (seF seen) b (owF owner') (seF seen')∧seen'.length=m∧owner'.length=m∧TryC tb m x seen seen' owner owner' b:=by
 intro K
 induction K with
 | zero=>intro x seen owner _ _ _ _ h;omega
 | succ K ih=>
  intro x seen owner hx hs ho hv hu
  obtain⟨b,seen',owner',h1,h2,h3,h4⟩:=qtG tb n m K x hn hr hm hn2 hx ih m 0 seen owner (by omega) hs ho hv (by omega)
  refine⟨b,seen',owner',h1,h2,h3,?_⟩
  refine qcj fn195 (by simp) ?_
  unfold i195
  simp only[argL]
  refine wR0 0 [0,1,2,3] cJ0 ?_
  refine wR0 100 [0,1,2,3,9] cJ0 ?_
  refine wL ?_
  refine h4 _ ?_ ?_
  ·intro hf
   refine wN ?_
   (subst hf;first | exact⟨by simp,rfl,rfl⟩ | exact⟨by simp,rfl,trivial⟩)
  ·intro hf i
   refine wN ?_
   subst hf
   refine wR0 900 [8] cJ0 ?_
   refine wE ?_
   refine wN ?_
   first | exact⟨by simp,rfl,rfl⟩ | exact⟨by simp,rfl,trivial⟩
end
end Go.Proofs.YtpplncjaihgimaaGreat
