/- Contracts of functions of the program, for all arguments that they name. -/
import Derived.Test.YtpplncjaihgimaaGreatK44
namespace Go.Proofs.YtpplncjaihgimaaGreat
set_option linter.unusedVariables false
section
open Go.RowKit
set_option maxHeartbeats 2000000
attribute [local simp] qay qae qai qaG
theorem qpz {m:Md}(g:Gmd m){r:Rl}(hr:r∈m.rules){s:Int}{c c':List Nd}(o:OkN m s c)(o':OkN m s c')(hs:subN c c')(h1:(qa7 m r s c).2=0)(h2:(qa7 m r s c').2=0) :
 (∀b∈(qa7 m r s c').1,b.fit)∧∀a∈(qa7 m r s c).1,a.fit∧∃b∈(qa7 m r s c').1,leV (qau m) a b:=by
 have hk:=g.tm.kind
 obtain⟨r1,r2,r3,r4,r5,r6,r7⟩:=qdF hk g.check hr
 obtain⟨b1,b2,b3,b4,b5,b6,b7⟩:=qbf hk g.check
 have hL:m.levels=1∨m.levels=2:=by omega
 have key:∀ {c:List Nd},s=r.from_→(qa7 m r s c).2=0→(∀p∈qa4 c r.path,(outN m r c p).2=0)∧∀a,a∈(qa7 m r s c).1↔∃p∈qa4 c r.path,(outN m r c p).1=a:=fun {c} he h=>by
  rw[qa7,if_neg (by simpa using he)] at h ⊢
  split at h
  ·cases h
  ·rename_i hn
   rw[if_neg hn]
   refine⟨fun p hp=>?_,fun a=>?_⟩
   ·have h3:=List.any_eq_false.1 (Bool.eq_false_iff.2 hn) p hp
    simpa using h3
   ·rw[qei,(qbJ _).mem_iff,List.mem_map]
 by_cases he:s=r.from_
 case neg=>
  have e:∀c:List Nd,qa7 m r s c=([],0):=fun c=>by rw[qa7,if_pos he]
  rw[e,e]
  exact⟨fun b hb=>by simp at hb,fun a ha=>by simp at ha⟩
 obtain⟨k1,k2⟩:=key (c:=c) he h1
 obtain⟨k3,k4⟩:=key (c:=c') he h2
 refine⟨fun b hb=>?_,fun a ha=>?_⟩
 ·obtain⟨q,hq,rfl⟩:=(k4 b).1 hb
  obtain⟨e,o3⟩:=qhR hk g.check hr o' hq (k3 q hq)
  rw[e];exact o3.fit
 ·obtain⟨p,hp,rfl⟩:=(k2 a).1 ha
  obtain⟨e,o2⟩:=qhR hk g.check hr o hp (k1 p hp)
  obtain⟨q,hq,hsub⟩:=quY (next:=r.next) hs (by omega) (by omega) r5 hp
  obtain⟨e',o3⟩:=qhR hk g.check hr o' hq (k3 q hq)
  have l1:=(qdt hL r3 r4 r5 hp o.leaf fun x hx=>by have:=o.kids x hx;omega).1
  have l2:=(qdt hL r3 r4 r5 hq o'.leaf fun x hx=>by have:=o'.kids x hx;omega).1
  refine⟨by rw[e];exact o2.fit,_,(k4 _).2 ⟨q,hq,rfl⟩,?_⟩
  rw[e,e']
  exact⟨(qcd hk (qc1 hk g.check).1 _).2 ⟨_,_,rfl,o2⟩,(qcd hk (qc1 hk g.check).1 _).2 ⟨_,_,rfl,o3⟩,(qmE hk _ _ o2.leaf o3.leaf).2 ⟨rfl,hsub.sortN l1 l2⟩⟩
abbrev grH (d:Dk)(m:Md)(k0 s0:Int)(rs:List Int)(ps:List Ty)(s:Int)(c c':List Nd):List (Nat×Slot):=[(99999,dkB d),(402,sM m),(505,tyB k0 s0 rs ps),(603,sVN m s c),(704,sVN m s c')]
set_option maxHeartbeats 20000000 in
theorem qsu (d:Dk)(m:Md)(k0 s0:Int)(rs:List Int)(ps:List Ty)(hsm:qh3 (.mk k0 s0 rs ps))(hfit:(Ty.mk k0 s0 rs ps).fit)(s:Int)(c c':List Nd)(X Y:List V)(hY:∀b∈Y,b.fit)(hl:Y.length≤1000000)(a:V)(ha:a.fit)(N I:Int)(Q:IExit→(Nat→T)→Heap→Prop):∀(rest pre:List V) (n:Nat) (fd:Bool),Y=pre++rest→pre.length=n→(fd=true∨∃b∈rest,leV (.mk k0 s0 rs ps) a b)→
 (∀i:Int,Q (.exit 2) (ofL [(5,.ref 505 4 0),(12,.list (qac Y)),(15,.ref 1902 2 0),(16,.bool true),(84,.list (qac X)),(85,.int .i64 N),(86,.int .i64 I),(90,.list (qac Y)),(91,.int .i64 Y.length),(92,.int .i64 i),(93,.bool false)]) (hpL (grH d m k0 s0 rs ps s c c'++[(1902,.live ⟨25,[.int .i64 a.n,.list (qac a.kids)]⟩)])))→
 WL Tryz.prog 107 qqm (ofL [(5,.ref 505 4 0),(12,.list (qac Y)),(15,.ref 1902 2 0),(16,.bool fd),(84,.list (qac X)),(85,.int .i64 N),(86,.int .i64 I),(90,.list (qac Y)),(91,.int .i64 Y.length),(92,.int .i64 n)]) (hpL (grH d m k0 s0 rs ps s c c'++[(1902,.live ⟨25,[.int .i64 a.n,.list (qac a.kids)]⟩)])) Q:=by
 have hmc:∀D,clL D (mdC m)=true:=fun D=>by simp
 have hal:(qac Y).length=Y.length:=qag Y
 intro rest
 induction rest with
 | nil=>
  intro pre n fd he hn hf hQ
  have hd:decide ((n:Int)<(Y.length:Int))=false:=by simp[he,hn]
  have hfd:fd=true:=by
   rcases hf with h | ⟨b,hb,_⟩
   ·exact h
   ·simp at hb
  subst hfd
  simp only[grH,List.cons_append,List.nil_append] at hQ ⊢
  have fX:=@hd
  refine qaa qqm.eq_1 ?_
  refine wR0 2200 [5,12,15,16,84,85,86,90,91,92,93] fX ?_
  refine wF @hd ?_
  refine wX ?_
  refine wN ?_
  exact hQ _
 | cons b rest ih=>
  intro pre n fd he hn hf hQ
  have hlt:(n:Int)<(Y.length:Int):=by rw[he];simp;omega
  have hltY:(n:Int)<((qac Y).length:Int):=by rw[hal];exact hlt
  have hlb:n≤1000000:=by rw[he] at hl;simp at hl;omega
  have hd:decide ((n:Int)<(Y.length:Int))=true:=decide_eq_true hlt
  have hw:IntKind.wrap .i64 ((n:Int)+1)=((n+1:Nat):Int):=by rw[wrap64 (by omega) (by omega)];rfl
  have hg:(qac Y).getD (n:Int).toNat .undef=encV b:=by rw[Int.toNat_natCast,he,←hn];exact qaU pre b rest
  have hbf:=hY b (by rw[he];simp)
  rcases a with⟨a0,ak⟩
  rcases b with⟨b0,bk⟩
  obtain⟨r,hr,hle⟩:=qt0 (.mk k0 s0 rs ps) (.mk a0 ak) (.mk b0 bk) hsm hfit ha hbf
  simp only[encV,qal] at hg hle
  simp only[V.n,V.kids] at hQ ih ⊢
  cases fd with
  | true=>
   have hQ':=ih (pre++[.mk b0 bk]) (n+1) true (by simpa using he) (by simp[hn]) (.inl rfl) hQ
   simp only[grH,List.cons_append,List.nil_append] at hQ' ⊢
   have fX:=(cJ3 @hd @hw @hg)
   refine qaa qqm.eq_1 ?_
   refine W_gc ?_
   refine wR0 2200 [5,12,15,16,84,85,86,90,91,92,93] fX ?_
   refine wT fX ?_
   refine wR0 2300 [5,12,15,16,18,84,85,86,90,91,92] fX ?_
   refine wR0 2400 [5,12,15,16,84,85,86,90,91,92] fX ?_
   refine wR0 2500 [5,12,15,16,84,85,86,90,91,92] fX ?_
   refine wN ?_
   refine qaC [99999,402,505,603,704,1902] (by simp[inL]) (by simp[inL,T.cl]) (by simp[qam,inL,Slot.cl,T.cl,clL,hmc]) ?_
   exact hQ'
  | false=>
   have hQ':=ih (pre++[.mk b0 bk]) (n+1) r (by simpa using he) (by simp[hn]) (by
    rcases r with _ | _
    ·refine .inr ?_
     rcases hf with h | ⟨x,hx,hxl⟩
     ·cases h
     ·rcases List.mem_cons.1 hx with rfl | hx
      ·exact absurd (hr.2 hxl) (by simp)
      ·exact⟨x,hx,hxl⟩
    ·exact .inl rfl) hQ
   simp only[grH,List.cons_append,List.nil_append] at hQ' ⊢
   have fX:=(cJ3 @hd @hw @hg)
   refine qaa qqm.eq_1 ?_
   refine W_gc ?_
   refine wR0 2200 [5,12,15,16,84,85,86,90,91,92,93] fX ?_
   refine wT fX ?_
   refine wR0 2300 [5,12,15,16,18,84,85,86,90,91,92] fX ?_
   refine wRn 2400 [5,12,15,16,84,85,86,90,91,92] fX ?_
   refine rC fX ?_
   refine⟨_,hle,rE fX ?_⟩
   refine wR0 2500 [5,12,15,16,84,85,86,90,91,92] fX ?_
   refine wN ?_
   refine qaC [99999,402,505,603,704,1902] (by simp[inL]) (by simp[inL,T.cl]) (by simp[qam,inL,Slot.cl,T.cl,clL,hmc]) ?_
   exact hQ'
set_option maxHeartbeats 20000000 in
theorem qst (d:Dk)(m:Md)(k0 s0:Int)(rs:List Int)(ps:List Ty)(hsm:qh3 (.mk k0 s0 rs ps))(hfit:(Ty.mk k0 s0 rs ps).fit)(s:Int)(c c':List Nd)(X Y:List V)(hY:∀b∈Y,b.fit)(hl:Y.length≤1000000)(hX:∀a∈X,a.fit∧∃b∈Y,leV (.mk k0 s0 rs ps) a b)(hlX:X.length≤1000000)(Q:IExit→(Nat→T)→Heap→Prop):∀(rest pre:List V) (n:Nat),X=pre++rest→pre.length=n→
 (∀i:Int,Q (.exit 0) (ofL [(5,.ref 505 4 0),(12,.list (qac Y)),(84,.list (qac X)),(85,.int .i64 X.length),(86,.int .i64 i),(87,.bool false)]) (hpL (grH d m k0 s0 rs ps s c c')))→
 WL Tryz.prog 107 qsw (ofL [(5,.ref 505 4 0),(12,.list (qac Y)),(84,.list (qac X)),(85,.int .i64 X.length),(86,.int .i64 n)]) (hpL (grH d m k0 s0 rs ps s c c')) Q:=by
 have hmc:∀D,clL D (mdC m)=true:=fun D=>by simp
 have hal:(qac X).length=X.length:=qag X
 have hyl:(qac Y).length=Y.length:=qag Y
 intro rest
 induction rest with
 | nil=>
  intro pre n he hn hQ
  have hd:decide ((n:Int)<(X.length:Int))=false:=by simp[he,hn]
  simp only[grH] at hQ ⊢
  have fX:=@hd
  refine qaa qsw.eq_1 ?_
  refine wR0 1800 [5,12,84,85,86,87] fX ?_
  refine wF @hd ?_
  refine wX ?_
  refine wN ?_
  exact hQ _
 | cons a rest ih=>
  intro pre n he hn hQ
  have hlt:(n:Int)<(X.length:Int):=by rw[he];simp;omega
  have hltX:(n:Int)<((qac X).length:Int):=by rw[hal];exact hlt
  have hlb:n≤1000000:=by rw[he] at hlX;simp at hlX;omega
  have hd:decide ((n:Int)<(X.length:Int))=true:=decide_eq_true hlt
  have hw:IntKind.wrap .i64 ((n:Int)+1)=((n+1:Nat):Int):=by rw[wrap64 (by omega) (by omega)];rfl
  have hg:(qac X).getD (n:Int).toNat .undef=encV a:=by rw[Int.toNat_natCast,he,←hn];exact qaU pre a rest
  obtain⟨haf,hab⟩:=hX a (by rw[he];simp)
  have hQ':=ih (pre++[a]) (n+1) (by simpa using he) (by simp[hn]) hQ
  rcases a with⟨a0,ak⟩
  have hL:=fun N I Q=>qsu d m k0 s0 rs ps hsm hfit s c c' X Y hY hl (.mk a0 ak) haf N I Q Y [] 0 false rfl rfl (.inr hab)
  simp only[encV] at hg
  simp only[grH,V.n,V.kids,List.cons_append,List.nil_append] at hQ' hL ⊢
  have fX:=(cJ4 @hd @hw @hg @hyl)
  refine qaa qsw.eq_1 ?_
  refine W_gc ?_
  refine wR0 1800 [5,12,84,85,86,87] fX ?_
  refine wT fX ?_
  refine wR0 1900 [5,12,15,84,85,86] fX ?_
  refine wR0 2000 [5,12,15,16,84,85,86] fX ?_
  refine wR0 2100 [5,12,15,16,84,85,86,90,91,92] fX ?_
  refine wL ?_
  refine hL _ _ _ ?_
  ·intro i
   refine wN ?_
   refine wR0 2600 [5,12,84,85,86,105] fX ?_
   refine wF @Bool.not_true ?_
   refine wR0 2800 [5,12,84,85,86] fX ?_
   refine wN ?_
   refine qaC [99999,402,505,603,704] (by simp[inL]) (by simp[inL,T.cl]) (by simp[qam,inL,Slot.cl,T.cl,clL,hmc]) ?_
   exact hQ'
set_option maxHeartbeats 20000000 in
theorem qsv (l:List Int):TP Tryz.prog 4 [.list (qab l)] (.bool true):=by
 have hfew:=qm3 l
 by_cases hl:l.length≤400
 ·have hb:decide (l.length≤400)=true:=decide_eq_true hl
  rw[hb] at hfew
  have hnew:=qnx l
  obtain⟨m,d1,g,hk,hd1,hM⟩:=qfQ (dk0 l) (qm2 hl)
  have hz:((0:Int) != 0)=false:=rfl
  have hT:=qnP m g.fit
  have hty:qii m=(qau m,0):=by rw[qii,if_pos g.check]
  rw[hty] at hT
  have hsm:=smp_4 g.tm.kind
  have hfit:=typedM_fit' g.fit
  obtain⟨s,c,d2,o,hd2,hC⟩:=qin g d1 hd1
  obtain⟨c',d3,o',hsub,hd3,hU⟩:=qkc g o d2 hd2
  rcases htt:qau m with⟨k0,s0,rs,ps⟩
  rw[htt] at hT hsm hfit
  simp only[qal] at hT
  obtain⟨i,d4,hib',hd4,hR⟩:=qbC d3 m.rules.length hd3
  have hal:True:=trivial
  have hA:True:=trivial
  have hA':True:=trivial
  simp only[qax] at hM hT hC hU
  by_cases hr0:m.rules.length=0
  ·have hrl0:((m.rules.length:Int)==0)=true:=by simp[hr0]
   have fX:=(cJ4 @hz @qaB @hrl0 @hal)
   refine qan fn4 (by simp) ?_
   unfold i4
   simp only[argL]
   refine wR0 0 [0] fX ?_
   refine wRn 100 [0,25] fX ?_
   refine rC fX ?_
   refine⟨_,qbj,rN fX ?_⟩
   refine rC fX ?_
   refine⟨_,hfew,rE fX ?_⟩
   refine wF fX ?_
   refine wRn 300 [3] fX ?_
   refine rU [] [(99999,dkB (dk0 l))] fX ?_
   refine⟨_,hnew,rE fX ?_⟩
   refine wRn 400 [3,4] (cJ2 @mdC.eq_1 fX) ?_
   refine rU [(99999,dkB (dk0 l))] [(99999,dkB d1)] (cJ2 @mdC.eq_1 fX) ?_
   refine⟨_,hM.full1,rE (cJ2 @mdC.eq_1 fX) ?_⟩
   refine wRn 500 [3,4,5,6] (cJ2 @mdC.eq_1 fX) ?_
   refine rC (cJ2 @mdC.eq_1 fX) ?_
   refine⟨_,hT,rE (cJ2 @mdC.eq_1 fX) ?_⟩
   refine wRn 600 [3,4,5,6,7] (cJ2 @mdC.eq_1 fX) ?_
   refine rU [(99999,dkB d1)] [(99999,dkB d2)] (cJ2 @mdC.eq_1 fX) ?_
   refine⟨_,hC.full1,rE (cJ2 @mdC.eq_1 fX) ?_⟩
   refine wRn 700 [3,4,5,6,7,8] (cJ2 @mdC.eq_1 fX) ?_
   refine rU [(99999,dkB d2)] [(99999,dkB d3)] (cJ2 @mdC.eq_1 fX) ?_
   refine⟨_,hU.full1,rE (cJ2 @mdC.eq_1 fX) ?_⟩
   refine wR0 800 [3,4,5,6,7,8,50] (cJ2 @mdC.eq_1 fX) ?_
   refine wT (cJ2 @hz @hrl0) ?_
   refine wR0 900 [2] fX ?_
   refine wP ?_
   exact .same rfl
  ·have hrl0:((m.rules.length:Int)==0)=false:=by rw[beq_eq_false_iff_ne];omega
   obtain⟨i,rfl⟩:=Int.eq_ofNat_of_zero_le hib'.1
   have hi:i<m.rules.length:=by have:=hib'.2.2 (by omega);omega
   have hrm:=qdO hi
   clear hA hA' hal
   have hA:=qdE m g.fit hk g.check i hi o
   have hA':=qdE m g.fit hk g.check i hi o'
   obtain⟨X,e,hX⟩:∃X e,qa7 m (qaA m i) s c=(X,e):=⟨_,_,rfl⟩
   obtain⟨Y,e',hY⟩:∃Y e,qa7 m (qaA m i) s c'=(Y,e):=⟨_,_,rfl⟩
   rw[hX] at hA
   rw[hY] at hA'
   have hal:(qac X).length=X.length:=qag X
   have h01:∀l:List Nd,(qa7 m (qaA m i) s l).2=0∨(qa7 m (qaA m i) s l).2=1:=fun l=>by
    rw[qa7]
    split
    ·exact .inl rfl
    ·split
     ·exact .inr rfl
     ·exact .inl rfl
   have hlen:∀ {l:List Nd},OkN m s l→(qa7 m (qaA m i) s l).1.length≤1000000:=fun {l} o=>by
    rw[qa7]
    split
    ·simp
    ·split
     ·simp
     ·have h1:=qdh (qbu ((qa4 l (qaA m i).path).map fun p=>(outN m (qaA m i) l p).1))
      have h2:=qbY o.len o.kids (qaA m i).path
      rw[qcJ,List.length_map,qcw] at h1
      exact Nat.le_trans h1 (Nat.le_trans h2 (by decide))
   have e1:=h01 c
   have e2:=h01 c'
   have lX:=hlen o
   have lY:=hlen o'
   rw[hX] at e1 lX
   rw[hY] at e2 lY
   simp only at e1 e2 lX lY
   simp only[qax,cfgN,bagV,encV] at hR hA hA'
   have t11:((1:Int)==1)=true:=rfl
   have t01:((0:Int)==1)=false:=rfl
   rcases e2 with rfl | rfl
   ·rcases e1 with rfl | rfl
    ·obtain⟨hYf,hXY⟩:=qpz g hrm o o' hsub (by rw[hX]) (by rw[hY])
     rw[hX,hY,htt] at hXY
     rw[hY] at hYf
     have hL:=fun Q=>qst d4 m k0 s0 rs ps hsm hfit s c c' X Y hYf lY hXY lX Q X [] 0 rfl rfl
     simp only[grH] at hL
     have fX:=(cJ5 @hz @qaB @hrl0 @hal @t01)
     refine qan fn4 (by simp) ?_
     unfold i4
     simp only[argL]
     refine wR0 0 [0] fX ?_
     refine wRn 100 [0,25] fX ?_
     refine rC fX ?_
     refine⟨_,qbj,rN fX ?_⟩
     refine rC fX ?_
     refine⟨_,hfew,rE fX ?_⟩
     refine wF fX ?_
     refine wRn 300 [3] fX ?_
     refine rU [] [(99999,dkB (dk0 l))] fX ?_
     refine⟨_,hnew,rE fX ?_⟩
     refine wRn 400 [3,4] (cJ2 @mdC.eq_1 fX) ?_
     refine rU [(99999,dkB (dk0 l))] [(99999,dkB d1)] (cJ2 @mdC.eq_1 fX) ?_
     refine⟨_,hM.full1,rE (cJ2 @mdC.eq_1 fX) ?_⟩
     refine wRn 500 [3,4,5,6] (cJ2 @mdC.eq_1 fX) ?_
     refine rC (cJ2 @mdC.eq_1 fX) ?_
     refine⟨_,hT,rE (cJ2 @mdC.eq_1 fX) ?_⟩
     refine wRn 600 [3,4,5,6,7] (cJ2 @mdC.eq_1 fX) ?_
     refine rU [(99999,dkB d1)] [(99999,dkB d2)] (cJ2 @mdC.eq_1 fX) ?_
     refine⟨_,hC.full1,rE (cJ2 @mdC.eq_1 fX) ?_⟩
     refine wRn 700 [3,4,5,6,7,8] (cJ2 @mdC.eq_1 fX) ?_
     refine rU [(99999,dkB d2)] [(99999,dkB d3)] (cJ2 @mdC.eq_1 fX) ?_
     refine⟨_,hU.full1,rE (cJ2 @mdC.eq_1 fX) ?_⟩
     refine wR0 800 [3,4,5,6,7,8,50] (cJ2 @mdC.eq_1 fX) ?_
     refine wF (cJ2 @hz @hrl0) ?_
     refine wRn 1000 [4,5,7,8,9] (cJ2 @mdC.eq_1 fX) ?_
     refine rU [(99999,dkB d3)] [(99999,dkB d4)] (cJ2 @mdC.eq_1 fX) ?_
     refine⟨_,hR.full1,rE (cJ2 @mdC.eq_1 fX) ?_⟩
     refine wRn 1100 [4,5,8,9,10,11] (cJ2 @mdC.eq_1 fX) ?_
     refine rC (cJ2 @mdC.eq_1 fX) ?_
     refine⟨_,hA,rE (cJ2 @mdC.eq_1 fX) ?_⟩
     refine wRn 1200 [5,10,11,12,13] (cJ2 @mdC.eq_1 fX) ?_
     refine rC (cJ2 @mdC.eq_1 fX) ?_
     refine⟨_,hA',rE (cJ2 @mdC.eq_1 fX) ?_⟩
     refine wR0 1300 [5,10,11,12,13,77] fX ?_
     refine wF @t01 ?_
     refine wR0 1500 [5,10,12,83] fX ?_
     refine wF @hz ?_
     refine wR0 1700 [5,12,84,85,86] fX ?_
     refine wL ?_
     refine hL _ ?_
     ·intro i
      refine wN ?_
      refine wR0 2900 [2] fX ?_
      refine wP ?_
      exact .same rfl
    ·have fX:=(cJ6 @hz @qaB @hrl0 @hal @t01 @t11)
     refine qan fn4 (by simp) ?_
     unfold i4
     simp only[argL]
     refine wR0 0 [0] fX ?_
     refine wRn 100 [0,25] fX ?_
     refine rC fX ?_
     refine⟨_,qbj,rN fX ?_⟩
     refine rC fX ?_
     refine⟨_,hfew,rE fX ?_⟩
     refine wF fX ?_
     refine wRn 300 [3] fX ?_
     refine rU [] [(99999,dkB (dk0 l))] fX ?_
     refine⟨_,hnew,rE fX ?_⟩
     refine wRn 400 [3,4] (cJ2 @mdC.eq_1 fX) ?_
     refine rU [(99999,dkB (dk0 l))] [(99999,dkB d1)] (cJ2 @mdC.eq_1 fX) ?_
     refine⟨_,hM.full1,rE (cJ2 @mdC.eq_1 fX) ?_⟩
     refine wRn 500 [3,4,5,6] (cJ2 @mdC.eq_1 fX) ?_
     refine rC (cJ2 @mdC.eq_1 fX) ?_
     refine⟨_,hT,rE (cJ2 @mdC.eq_1 fX) ?_⟩
     refine wRn 600 [3,4,5,6,7] (cJ2 @mdC.eq_1 fX) ?_
     refine rU [(99999,dkB d1)] [(99999,dkB d2)] (cJ2 @mdC.eq_1 fX) ?_
     refine⟨_,hC.full1,rE (cJ2 @mdC.eq_1 fX) ?_⟩
     refine wRn 700 [3,4,5,6,7,8] (cJ2 @mdC.eq_1 fX) ?_
     refine rU [(99999,dkB d2)] [(99999,dkB d3)] (cJ2 @mdC.eq_1 fX) ?_
     refine⟨_,hU.full1,rE (cJ2 @mdC.eq_1 fX) ?_⟩
     refine wR0 800 [3,4,5,6,7,8,50] (cJ2 @mdC.eq_1 fX) ?_
     refine wF (cJ2 @hz @hrl0) ?_
     refine wRn 1000 [4,5,7,8,9] (cJ2 @mdC.eq_1 fX) ?_
     refine rU [(99999,dkB d3)] [(99999,dkB d4)] (cJ2 @mdC.eq_1 fX) ?_
     refine⟨_,hR.full1,rE (cJ2 @mdC.eq_1 fX) ?_⟩
     refine wRn 1100 [4,5,8,9,10,11] (cJ2 @mdC.eq_1 fX) ?_
     refine rC (cJ2 @mdC.eq_1 fX) ?_
     refine⟨_,hA,rE (cJ2 @mdC.eq_1 fX) ?_⟩
     refine wRn 1200 [5,10,11,12,13] (cJ2 @mdC.eq_1 fX) ?_
     refine rC (cJ2 @mdC.eq_1 fX) ?_
     refine⟨_,hA',rE (cJ2 @mdC.eq_1 fX) ?_⟩
     refine wR0 1300 [5,10,11,12,13,77] fX ?_
     refine wT (cJ2 @t01 @t11) ?_
     refine wR0 1400 [2] fX ?_
     refine wP ?_
     exact .same rfl
   ·have fX:=(cJ5 @hz @qaB @hrl0 @hal @t11)
    refine qan fn4 (by simp) ?_
    unfold i4
    simp only[argL]
    refine wR0 0 [0] fX ?_
    refine wRn 100 [0,25] fX ?_
    refine rC fX ?_
    refine⟨_,qbj,rN fX ?_⟩
    refine rC fX ?_
    refine⟨_,hfew,rE fX ?_⟩
    refine wF fX ?_
    refine wRn 300 [3] fX ?_
    refine rU [] [(99999,dkB (dk0 l))] fX ?_
    refine⟨_,hnew,rE fX ?_⟩
    refine wRn 400 [3,4] (cJ2 @mdC.eq_1 fX) ?_
    refine rU [(99999,dkB (dk0 l))] [(99999,dkB d1)] (cJ2 @mdC.eq_1 fX) ?_
    refine⟨_,hM.full1,rE (cJ2 @mdC.eq_1 fX) ?_⟩
    refine wRn 500 [3,4,5,6] (cJ2 @mdC.eq_1 fX) ?_
    refine rC (cJ2 @mdC.eq_1 fX) ?_
    refine⟨_,hT,rE (cJ2 @mdC.eq_1 fX) ?_⟩
    refine wRn 600 [3,4,5,6,7] (cJ2 @mdC.eq_1 fX) ?_
    refine rU [(99999,dkB d1)] [(99999,dkB d2)] (cJ2 @mdC.eq_1 fX) ?_
    refine⟨_,hC.full1,rE (cJ2 @mdC.eq_1 fX) ?_⟩
    refine wRn 700 [3,4,5,6,7,8] (cJ2 @mdC.eq_1 fX) ?_
    refine rU [(99999,dkB d2)] [(99999,dkB d3)] (cJ2 @mdC.eq_1 fX) ?_
    refine⟨_,hU.full1,rE (cJ2 @mdC.eq_1 fX) ?_⟩
    refine wR0 800 [3,4,5,6,7,8,50] (cJ2 @mdC.eq_1 fX) ?_
    refine wF (cJ2 @hz @hrl0) ?_
    refine wRn 1000 [4,5,7,8,9] (cJ2 @mdC.eq_1 fX) ?_
    refine rU [(99999,dkB d3)] [(99999,dkB d4)] (cJ2 @mdC.eq_1 fX) ?_
    refine⟨_,hR.full1,rE (cJ2 @mdC.eq_1 fX) ?_⟩
    refine wRn 1100 [4,5,8,9,10,11] (cJ2 @mdC.eq_1 fX) ?_
    refine rC (cJ2 @mdC.eq_1 fX) ?_
    refine⟨_,hA,rE (cJ2 @mdC.eq_1 fX) ?_⟩
    refine wRn 1200 [5,10,11,12,13] (cJ2 @mdC.eq_1 fX) ?_
    refine rC (cJ2 @mdC.eq_1 fX) ?_
    refine⟨_,hA',rE (cJ2 @mdC.eq_1 fX) ?_⟩
    refine wR0 1300 [5,10,11,12,13,77] fX ?_
    refine wT @t11 ?_
    refine wR0 1400 [2] fX ?_
    refine wP ?_
    exact .same rfl
 ·have hb:decide (l.length≤400)=false:=decide_eq_false hl
  rw[hb] at hfew
  refine qan fn4 (by simp) ?_
  unfold i4
  simp only[argL]
  refine wR0 0 [0] cJ0 ?_
  refine wRn 100 [0,25] cJ0 ?_
  refine rC cJ0 ?_
  refine⟨_,qbj,rN cJ0 ?_⟩
  refine rC cJ0 ?_
  refine⟨_,hfew,rE cJ0 ?_⟩
  refine wT cJ0 ?_
  refine wRn 200 [2] cJ0 ?_
  refine rC cJ0 ?_
  refine⟨_,qbj,rE cJ0 ?_⟩
  refine wP ?_
  exact .same rfl
end
end Go.Proofs.YtpplncjaihgimaaGreat
