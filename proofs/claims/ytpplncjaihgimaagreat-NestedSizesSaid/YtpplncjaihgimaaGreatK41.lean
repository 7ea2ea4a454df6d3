/- Contracts of functions of the program, for all arguments that they name. -/
import Derived.Test.YtpplncjaihgimaaGreatK40
namespace Go.Proofs.YtpplncjaihgimaaGreat
set_option linter.unusedVariables false
section
open Go.RowKit
attribute [local simp] qay qae qai
def sumB (l:List Nd)(a:Int):Nat→Nat
 | 0=>0
 | k+1=>sumB l a k+cntF l [a,(k:Int)]
def lvB (m:Md)(l:List Nd)(a:Int):Nat:=if m.levels > 1 then sumB l a m.letters.length else 0
def sumA (m:Md)(l:List Nd):Nat→Nat
 | 0=>0
 | k+1=>sumA m l k+cntF l [(k:Int)]+lvB m l k
theorem qmS (x:Nd)(l:List Nd)(a:Int)(ls:List Int):cntF (x::l) (a::ls)=cntF [x] (a::ls)+cntF l (a::ls):=by simp[cntF]
theorem qlx (x:Nd)(l:List Nd)(a:Int):∀k,sumB (x::l) a k=sumB [x] a k+sumB l a k
 | 0=>rfl
 | k+1=>by rw[sumB,sumB,sumB,qlx x l a k,qmS];omega
theorem qsM (m:Md)(x:Nd)(l:List Nd)(a:Int):lvB m (x::l) a=lvB m [x] a+lvB m l a:=by
 unfold lvB
 split
 ·exact qlx x l a _
 ·rfl
theorem qlw (m:Md)(x:Nd)(l:List Nd):∀k,sumA m (x::l) k=sumA m [x] k+sumA m l k
 | 0=>rfl
 | k+1=>by rw[sumA,sumA,sumA,qlw m x l k,qmS,qsM];omega
theorem qn8 (a:Int):∀k,sumB [] a k=0
 | 0=>rfl
 | k+1=>by rw[sumB,qn8 a k];rfl
theorem qn6 (m:Md):∀k,sumA m [] k=0
 | 0=>rfl
 | k+1=>by
  rw[sumA,qn6 m k,lvB,qn8]
  simp[cntF]
def cntK (ks:List Int):Nat→Nat
 | 0=>0
 | k+1=>cntK ks k+ks.count (k:Int)
theorem qkj (y:Int)(ks:List Int)(h:0≤y):∀k:Nat,cntK (y::ks) k=cntK ks k+if y<k then 1 else 0
 | 0=>by rw[cntK,cntK,if_neg (by omega)]
 | k+1=>by
  rw[cntK,cntK,qkj y ks h k,List.count_cons]
  by_cases e:y=(k:Int)
  ·subst e
   rw[if_neg (by omega),if_pos (by simp),if_pos (by omega)];omega
  ·rw[if_neg (show ¬(y==(k:Int))=true by simpa using e)]
   by_cases h2:y<(k:Int)
   ·rw[if_pos h2,if_pos (by omega)]
    omega
   ·rw[if_neg h2,if_neg (by omega)]
    omega
theorem qmQ (n:Nat):∀ks:List Int,(∀k∈ks,0≤k∧k<n)→cntK ks n=ks.length
 | [],_=>by
  have h:∀n,cntK [] n=0:=fun n=>by
   induction n with
   | zero=>rfl
   | succ n ih=>rw[cntK,ih];rfl
  exact h n
 | y::ks,h=>by
  have h0:=h y (by simp)
  rw[qkj y ks h0.1,qmQ n ks fun k hk=>h k (List.mem_cons_of_mem _ hk),if_pos h0.2]
  rfl
theorem qn9 (x:Nd)(a:Int):∀k,sumB [x] a k=if x.lab=a then cntK x.kids k else 0
 | 0=>by rw[sumB,cntK];split<;>rfl
 | k+1=>by
  rw[sumB,qn9 x a k]
  by_cases h:x.lab=a
  ·simp[cntF,cntN,cntK,h]
  ·simp[cntF,cntN,h]
theorem qn7 (m:Md)(x:Nd)(h0:0≤x.lab):∀k:Nat,sumA m [x] k=if x.lab<k then 1+(if m.levels > 1 then cntK x.kids m.letters.length else 0) else 0
 | 0=>by rw[sumA,if_neg (by omega)]
 | k+1=>by
  rw[sumA,qn7 m x h0 k,lvB,qn9]
  by_cases h:x.lab=(k:Int)
  ·rw[if_neg (show ¬x.lab<(k:Int) by omega),if_pos h,if_pos (show x.lab<((k+1:Nat):Int) by omega)]
   simp[cntF,cntN,h]
  ·have e:cntF [x] [(k:Int)]=0:=by simp[cntF,cntN,h]
   rw[e,if_neg h]
   by_cases h2:x.lab<(k:Int)
   ·rw[if_pos h2,if_pos (show x.lab<((k+1:Nat):Int) by omega)];simp
   ·rw[if_neg h2,if_neg (show ¬x.lab<((k+1:Nat):Int) by omega)];simp
theorem qj0 (m:Md):∀l:List Nd,(∀x∈l,ndOk m.letters.length m.levels x)→sumA m l m.letters.length=totN l
 | [],_=>by rw[qn6];rfl
 | x::l,h=>by
  have hx:=h x (by simp)
  rw[qlw,qj0 m l fun y hy=>h y (List.mem_cons_of_mem _ hy),qn7 m x hx.1,if_pos hx.2.1]
  simp only[totN,List.map_cons,List.sum_cons]
  by_cases h2:m.levels > 1
  ·rw[if_pos h2,qmQ _ _ hx.2.2.2.1]
  ·rw[if_neg h2,hx.2.2.2.2.2 (by omega)];simp
theorem qj1 {l:List Nd}(hl:l.length≤12)(hk:∀x∈l,x.kids.length≤12)(a:Int):∀k,sumB l a k≤200*k
 | 0=>Nat.le_refl _
 | k+1=>by
  have:=qj1 hl hk a k
  have:=qbY hl hk [a,(k:Int)]
  rw[sumB];omega
theorem qmt {m:Md}{l:List Nd}(hm:m.letters.length≤6)(hl:l.length≤12)(hk:∀x∈l,x.kids.length≤12):∀k,sumA m l k≤1400*k
 | 0=>Nat.le_refl _
 | k+1=>by
  have h1:=qmt hm hl hk k
  have h2:=qbY hl hk [(k:Int)]
  have h3:=qj1 hl hk (k:Int) m.letters.length
  rw[sumA,lvB]
  split<;>omega
end
section
open Go.RowKit
set_option maxHeartbeats 2000000
attribute [local simp] qay qae qai
abbrev szH (d:Dk)(m:Md)(s:Int)(c:List Nd):List (Nat×Slot):=[(99999,dkB d),(402,sM m),(503,sVN m s c)]
abbrev szI (id:Nat)(k:Int):List (Nat×Slot):=[(id,.live ⟨3,[.int .i64 k]⟩)]
abbrev szK (d:Dk)(m:Md)(s0:Int)(c0:List Nd)(s:Int)(c:List Nd):List (Nat×Slot):=szH d m s0 c0++[(2402,sVN m s c)]
set_option maxHeartbeats 20000000 in
theorem qtj {m:Md}(g:Gmd m){s:Int}{c:List Nd}(o:OkN m s c)(d:Dk)(a:Nat)(hlv:m.levels > 1)(N I:Int)(base:Nat)(hbase:base≤100000)(Q:IExit→(Nat→T)→Heap→Prop):∀(n b:Nat),b+n=m.letters.length→
 (∀j:Int,Q (.exit 2) (ofL [(3,dkR),(4,.ref 402 10 0),(5,.ref 503 2 0),(6,.int .i64 ((base+sumB c a m.letters.length:Nat):Int)),(7,.int .i64 0),(8,.int .i64 a),(11,.int .i64 j),(40,.int .i64 N),(41,.int .i64 I),(67,.bool false)]) (hpL (szH d m s c++szI 1003 a)))→
 WL Tryz.prog 198 qoD (ofL [(3,dkR),(4,.ref 402 10 0),(5,.ref 503 2 0),(6,.int .i64 ((base+sumB c a b:Nat):Int)),(7,.int .i64 0),(8,.int .i64 a),(11,.int .i64 b),(40,.int .i64 N),(41,.int .i64 I)]) (hpL (szH d m s c++szI 1003 a)) Q:=by
 have hmc:∀D,clL D (mdC m)=true:=fun D=>by simp
 have hsl:(qas m.letters).length=m.letters.length:=qaf _
 obtain⟨b1,b2,b3,b4,b5,b6,b7⟩:=qbf g.tm.kind g.check
 have hlv1:decide (m.levels > 1)=true:=decide_eq_true hlv
 intro n
 induction n with
 | zero=>
  intro b hb hQ
  obtain rfl:b=m.letters.length:=by omega
  have hd:decide ((m.letters.length:Int)<(m.letters.length:Int))=false:=by simp
  simp only[szH,szI,List.cons_append,List.nil_append] at hQ ⊢
  have fX:=(cJ3 @hd @mdC.eq_1 @hsl)
  refine qaa qoD.eq_1 ?_
  refine wR0 1300 [3,4,5,6,7,8,11,40,41,67] fX ?_
  refine wF @hd ?_
  refine wX ?_
  refine wN ?_
  exact hQ _
 | succ n ih=>
  intro b hb hQ
  have hd:decide ((b:Int)<(m.letters.length:Int))=true:=decide_eq_true (by omega)
  have hw:IntKind.wrap .i64 ((b:Int)+1)=((b+1:Nat):Int):=by rw[wrap64 (by omega) (by omega)];rfl
  have hN:=qcG m g.fit g.tm.kind g.check o [(a:Int),b] (by simp;omega)
  have hs1:=qj1 o.len o.kids (a:Int) b
  have hc1:=qbY o.len o.kids [(a:Int),b]
  have hw2:IntKind.wrap .i64 (((base+sumB c a b:Nat):Int)+(cntF c [(a:Int),b]:Int))=((base+sumB c a (b+1):Nat):Int):=by rw[wrap64 (by omega) (by omega),sumB];omega
  have hmx:(if (0:Int)<0 then (0:Int) else 0)=0:=rfl
  have hfz:∀H:Heap,H 1404=.live ⟨3,[.int .i64 a,.int .i64 b]⟩→Frz H (.sl 1404 2 0 0 2) (.list (qab [(a:Int),b])):=fun H h=>qb0 [(a:Int),b] h rfl rfl
  have hQ':=ih (b+1) (by omega) hQ
  simp only[qax,cfgN,bagV,encV] at hN
  simp only[szH,szI,List.cons_append,List.nil_append] at hQ' ⊢
  have fX:=(cJ8 @hd @hlv1 @hw @hw2 @hmx @hsl @qcp @qaI)
  refine qaa qoD.eq_1 ?_
  refine W_gc ?_
  refine wR0 1300 [3,4,5,6,7,8,11,40,41,67] (cJ2 @mdC.eq_1 fX) ?_
  refine wT fX ?_
  refine wRn 1400 [3,4,5,6,7,8,9,10,11,40,41] (cJ2 @mdC.eq_1 fX) ?_
  refine rL [(1404,.live ⟨3,[.int .i64 a,.int .i64 b]⟩)] (cJ2 @mdC.eq_1 fX) ?_
  refine⟨_,_,hN,(by (exact .cons (.same (by simp[T.cl,clL])) (.cons (.same (by simp[T.cl,clL])) (.cons (hfz _ rfl) .nil)))),rfl,rE (cJ2 @mdC.eq_1 fX) ?_⟩
  refine wR0 1500 [3,4,5,6,7,8,11,40,41] fX ?_
  refine wR0 1600 [3,4,5,6,7,8,11,40,41] fX ?_
  refine wN ?_
  refine qaC [99999,402,503,1003] (by simp[inL]) (by simp[inL,T.cl]) (by simp[qam,inL,Slot.cl,T.cl,clL,hmc]) ?_
  exact hQ'
theorem qro {m:Md}(g:Gmd m){s:Int}{c:List Nd}(o:OkN m s c)(d:Dk)(a:Nat)(N I:Int)(base:Nat)(hbase:base≤100000)(Q:IExit→(Nat→T)→Heap→Prop)
 (hQ:∀j:Int,Q (.exit 2) (ofL [(3,dkR),(4,.ref 402 10 0),(5,.ref 503 2 0),(6,.int .i64 ((base+lvB m c a:Nat):Int)),(7,.int .i64 0),(8,.int .i64 a),(11,.int .i64 j),(40,.int .i64 N),(41,.int .i64 I),(67,.bool false)]) (hpL (szH d m s c++szI 1003 a))) :
 WL Tryz.prog 198 qoD (ofL [(3,dkR),(4,.ref 402 10 0),(5,.ref 503 2 0),(6,.int .i64 (base:Int)),(7,.int .i64 0),(8,.int .i64 a),(11,.int .i64 0),(40,.int .i64 N),(41,.int .i64 I)]) (hpL (szH d m s c++szI 1003 a)) Q:=by
 by_cases hlv:m.levels > 1
 ·rw[lvB,if_pos hlv] at hQ
  exact qtj g o d a hlv N I base hbase Q m.letters.length 0 (by omega) hQ
 ·have hmc:∀D,clL D (mdC m)=true:=fun D=>by simp
  have hsl:(qas m.letters).length=m.letters.length:=qaf _
  obtain⟨b1,b2,b3,b4,b5,b6,b7⟩:=qbf g.tm.kind g.check
  have hd:decide ((0:Int)<(m.letters.length:Int))=true:=decide_eq_true (by omega)
  have hlv0:decide (m.levels > 1)=false:=decide_eq_false hlv
  rw[lvB,if_neg hlv,Nat.add_zero] at hQ
  simp only[szH,szI,List.cons_append,List.nil_append] at hQ ⊢
  have fX:=(cJ4 @hd @hlv0 @mdC.eq_1 @hsl)
  refine qaa qoD.eq_1 ?_
  refine wR0 1300 [3,4,5,6,7,8,11,40,41,67] fX ?_
  refine wF @hd ?_
  refine wX ?_
  refine wN ?_
  exact hQ _
set_option maxHeartbeats 20000000 in
theorem qti {m:Md}(g:Gmd m){s:Int}{c:List Nd}(o:OkN m s c)(d:Dk)(Q:IExit→(Nat→T)→Heap→Prop):∀(n k:Nat),k+n=m.letters.length→
 (∀j:Int,Q (.exit 0) (ofL [(3,dkR),(4,.ref 402 10 0),(5,.ref 503 2 0),(6,.int .i64 (totN c:Int)),(7,.int .i64 0),(40,.int .i64 m.letters.length),(41,.int .i64 j),(42,.bool false)]) (hpL (szH d m s c)))→
 WL Tryz.prog 198 qsx (ofL [(3,dkR),(4,.ref 402 10 0),(5,.ref 503 2 0),(6,.int .i64 (sumA m c k:Int)),(7,.int .i64 0),(40,.int .i64 m.letters.length),(41,.int .i64 k)]) (hpL (szH d m s c)) Q:=by
 have hmc:∀D,clL D (mdC m)=true:=fun D=>by simp
 have hsl:(qas m.letters).length=m.letters.length:=qaf _
 obtain⟨b1,b2,b3,b4,b5,b6,b7⟩:=qbf g.tm.kind g.check
 intro n
 induction n with
 | zero=>
  intro k hk hQ
  obtain rfl:k=m.letters.length:=by omega
  have hd:decide ((m.letters.length:Int)<(m.letters.length:Int))=false:=by simp
  rw[qj0 m c o.nd]
  simp only[szH] at hQ ⊢
  have fX:=@hd
  refine qaa qsx.eq_1 ?_
  refine wR0 800 [3,4,5,6,7,40,41,42] fX ?_
  refine wF @hd ?_
  refine wX ?_
  refine wN ?_
  exact hQ _
 | succ n ih=>
  intro k hk hQ
  have hd:decide ((k:Int)<(m.letters.length:Int))=true:=decide_eq_true (by omega)
  have hw:IntKind.wrap .i64 ((k:Int)+1)=((k+1:Nat):Int):=by rw[wrap64 (by omega) (by omega)];rfl
  have hN:=qcG m g.fit g.tm.kind g.check o [(k:Int)] (by simp;omega)
  have hs1:=qmt (m:=m) (by omega) o.len o.kids k
  have hc1:=qbY o.len o.kids [(k:Int)]
  have hw2:IntKind.wrap .i64 ((sumA m c k:Int)+(cntF c [(k:Int)]:Int))=((sumA m c k+cntF c [(k:Int)]:Nat):Int):=by rw[wrap64 (by omega) (by omega)];omega
  have hmx:(if (0:Int)<0 then (0:Int) else 0)=0:=rfl
  have hfz:∀H:Heap,H 1003=.live ⟨3,[.int .i64 k]⟩→Frz H (.sl 1003 1 0 0 1) (.list (qab [(k:Int)])):=fun H h=>qb0 [(k:Int)] h rfl rfl
  have hQ':=ih (k+1) (by omega) hQ
  have hL:=fun N I Q=>qro g o d k N I (sumA m c k+cntF c [(k:Int)]) (by omega) Q
  simp only[qax,cfgN,bagV,encV] at hN
  simp only[szH,szI,List.cons_append,List.nil_append] at hQ' hL ⊢
  have fX:=(cJ5 @hd @hw @hw2 @hmx @qaI)
  refine qaa qsx.eq_1 ?_
  refine W_gc ?_
  refine wR0 800 [3,4,5,6,7,40,41,42] fX ?_
  refine wT fX ?_
  refine wR0 900 [3,4,5,6,7,8,40,41] fX ?_
  refine wRn 1000 [3,4,5,6,7,8,9,10,40,41] (cJ2 @mdC.eq_1 fX) ?_
  refine rL [(1003,.live ⟨3,[.int .i64 k]⟩)] (cJ2 @mdC.eq_1 fX) ?_
  refine⟨_,_,hN,(by (exact .cons (.same (by simp[T.cl,clL])) (.cons (.same (by simp[T.cl,clL])) (.cons (hfz _ rfl) .nil)))),rfl,rE (cJ2 @mdC.eq_1 fX) ?_⟩
  refine wR0 1100 [3,4,5,6,7,8,40,41] fX ?_
  refine wR0 1200 [3,4,5,6,7,8,11,40,41] fX ?_
  refine wL ?_
  refine qcZ [3,4,5,6,7,8,11,40,41] ?_
  refine hL _ _ _ ?_
  ·intro j
   refine wN ?_
   refine wR0 1700 [3,4,5,6,7,40,41] fX ?_
   refine wN ?_
   refine qaC [99999,402,503] (by simp[inL]) (by simp[inL,T.cl]) (by simp[qam,inL,Slot.cl,T.cl,clL,hmc]) ?_
   exact hQ'
set_option maxHeartbeats 20000000 in
theorem qtm {m:Md}(g:Gmd m){s:Int}{c:List Nd}(o:OkN m s c)(d:Dk)(s0:Int)(c0:List Nd)(AL R E NX IX:Int)(X:List V)(a:Nat)(hlv:m.levels > 1)(N I:Int)(base:Nat)(hbase:base≤100000)(Q:IExit→(Nat→T)→Heap→Prop):∀(n b:Nat),b+n=m.letters.length→
 (∀j:Int,Q (.exit 8) (ofL [(4,.ref 402 10 0),(6,.int .i64 AL),(12,.int .i64 R),(14,.int .i64 E),(16,.ref 2402 2 0),(17,.int .i64 ((base+sumB c a m.letters.length:Nat):Int)),(18,.int .i64 a),(21,.int .i64 j),(108,.list (qac X)),(109,.int .i64 NX),(110,.int .i64 IX),(116,.int .i64 N),(117,.int .i64 I),(140,.bool false)]) (hpL (szK d m s0 c0 s c++szI 2903 a)))→
 WL Tryz.prog 198 qoE (ofL [(4,.ref 402 10 0),(6,.int .i64 AL),(12,.int .i64 R),(14,.int .i64 E),(16,.ref 2402 2 0),(17,.int .i64 ((base+sumB c a b:Nat):Int)),(18,.int .i64 a),(21,.int .i64 b),(108,.list (qac X)),(109,.int .i64 NX),(110,.int .i64 IX),(116,.int .i64 N),(117,.int .i64 I)]) (hpL (szK d m s0 c0 s c++szI 2903 a)) Q:=by
 have hmc:∀D,clL D (mdC m)=true:=fun D=>by simp
 have hsl:(qas m.letters).length=m.letters.length:=qaf _
 obtain⟨b1,b2,b3,b4,b5,b6,b7⟩:=qbf g.tm.kind g.check
 have hlv1:decide (m.levels > 1)=true:=decide_eq_true hlv
 intro n
 induction n with
 | zero=>
  intro b hb hQ
  obtain rfl:b=m.letters.length:=by omega
  have hd:decide ((m.letters.length:Int)<(m.letters.length:Int))=false:=by simp
  simp only[szH,szK,szI,List.cons_append,List.nil_append] at hQ ⊢
  have fX:=(cJ3 @hd @mdC.eq_1 @hsl)
  refine qaa qoE.eq_1 ?_
  refine wR0 3200 [4,6,12,14,16,17,18,21,108,109,110,116,117,140] fX ?_
  refine wF @hd ?_
  refine wX ?_
  refine wN ?_
  exact hQ _
 | succ n ih=>
  intro b hb hQ
  have hd:decide ((b:Int)<(m.letters.length:Int))=true:=decide_eq_true (by omega)
  have hw:IntKind.wrap .i64 ((b:Int)+1)=((b+1:Nat):Int):=by rw[wrap64 (by omega) (by omega)];rfl
  have hN:=qcG m g.fit g.tm.kind g.check o [(a:Int),b] (by simp;omega)
  have hs1:=qj1 o.len o.kids (a:Int) b
  have hc1:=qbY o.len o.kids [(a:Int),b]
  have hw2:IntKind.wrap .i64 (((base+sumB c a b:Nat):Int)+(cntF c [(a:Int),b]:Int))=((base+sumB c a (b+1):Nat):Int):=by rw[wrap64 (by omega) (by omega),sumB];omega
  have hmx:(if (0:Int)<0 then (0:Int) else 0)=0:=rfl
  have hfz:∀H:Heap,H 3304=.live ⟨3,[.int .i64 a,.int .i64 b]⟩→Frz H (.sl 3304 2 0 0 2) (.list (qab [(a:Int),b])):=fun H h=>qb0 [(a:Int),b] h rfl rfl
  have hQ':=ih (b+1) (by omega) hQ
  simp only[qax,cfgN,bagV,encV] at hN
  simp only[szH,szK,szI,List.cons_append,List.nil_append] at hQ' ⊢
  have fX:=(cJ8 @hd @hlv1 @hw @hw2 @hmx @hsl @qcp @qaI)
  refine qaa qoE.eq_1 ?_
  refine W_gc ?_
  refine wR0 3200 [4,6,12,14,16,17,18,21,108,109,110,116,117,140] (cJ2 @mdC.eq_1 fX) ?_
  refine wT fX ?_
  refine wRn 3300 [4,6,12,14,16,17,18,19,21,108,109,110,116,117] (cJ2 @mdC.eq_1 fX) ?_
  refine rL [(3304,.live ⟨3,[.int .i64 a,.int .i64 b]⟩)] (cJ2 @mdC.eq_1 fX) ?_
  refine⟨_,_,hN,(by (exact .cons (.same (by simp[T.cl,clL])) (.cons (.same (by simp[T.cl,clL])) (.cons (hfz _ rfl) .nil)))),rfl,rE (cJ2 @mdC.eq_1 fX) ?_⟩
  refine wR0 3400 [4,6,12,14,16,17,18,21,108,109,110,116,117] fX ?_
  refine wR0 3500 [4,6,12,14,16,17,18,21,108,109,110,116,117] fX ?_
  refine wN ?_
  refine qaC [99999,402,503,2402,2903] (by simp[inL]) (by simp[inL,T.cl]) (by simp[qam,inL,Slot.cl,T.cl,clL,hmc]) ?_
  exact hQ'
theorem qrp {m:Md}(g:Gmd m){s:Int}{c:List Nd}(o:OkN m s c)(d:Dk)(s0:Int)(c0:List Nd)(AL R E NX IX:Int)(X:List V)(a:Nat)(N I:Int)(base:Nat)(hbase:base≤100000)(Q:IExit→(Nat→T)→Heap→Prop)
 (hQ:∀j:Int,Q (.exit 8) (ofL [(4,.ref 402 10 0),(6,.int .i64 AL),(12,.int .i64 R),(14,.int .i64 E),(16,.ref 2402 2 0),(17,.int .i64 ((base+lvB m c a:Nat):Int)),(18,.int .i64 a),(21,.int .i64 j),(108,.list (qac X)),(109,.int .i64 NX),(110,.int .i64 IX),(116,.int .i64 N),(117,.int .i64 I),(140,.bool false)]) (hpL (szK d m s0 c0 s c++szI 2903 a))) :
 WL Tryz.prog 198 qoE (ofL [(4,.ref 402 10 0),(6,.int .i64 AL),(12,.int .i64 R),(14,.int .i64 E),(16,.ref 2402 2 0),(17,.int .i64 (base:Int)),(18,.int .i64 a),(21,.int .i64 0),(108,.list (qac X)),(109,.int .i64 NX),(110,.int .i64 IX),(116,.int .i64 N),(117,.int .i64 I)]) (hpL (szK d m s0 c0 s c++szI 2903 a)) Q:=by
 by_cases hlv:m.levels > 1
 ·rw[lvB,if_pos hlv] at hQ
  exact qtm g o d s0 c0 AL R E NX IX X a hlv N I base hbase Q m.letters.length 0 (by omega) hQ
 ·have hmc:∀D,clL D (mdC m)=true:=fun D=>by simp
  have hsl:(qas m.letters).length=m.letters.length:=qaf _
  obtain⟨b1,b2,b3,b4,b5,b6,b7⟩:=qbf g.tm.kind g.check
  have hd:decide ((0:Int)<(m.letters.length:Int))=true:=decide_eq_true (by omega)
  have hlv0:decide (m.levels > 1)=false:=decide_eq_false hlv
  rw[lvB,if_neg hlv,Nat.add_zero] at hQ
  simp only[szH,szK,szI,List.cons_append,List.nil_append] at hQ ⊢
  have fX:=(cJ4 @hd @hlv0 @mdC.eq_1 @hsl)
  refine qaa qoE.eq_1 ?_
  refine wR0 3200 [4,6,12,14,16,17,18,21,108,109,110,116,117,140] fX ?_
  refine wF @hd ?_
  refine wX ?_
  refine wN ?_
  exact hQ _
set_option maxHeartbeats 20000000 in
theorem qtl {m:Md}(g:Gmd m){s:Int}{c:List Nd}(o:OkN m s c)(d:Dk)(s0:Int)(c0:List Nd)(AL R E NX IX:Int)(X:List V)(Q:IExit→(Nat→T)→Heap→Prop):∀(n k:Nat),k+n=m.letters.length→
 (∀j:Int,Q (.exit 6) (ofL [(4,.ref 402 10 0),(6,.int .i64 AL),(12,.int .i64 R),(14,.int .i64 E),(16,.ref 2402 2 0),(17,.int .i64 (totN c:Int)),(108,.list (qac X)),(109,.int .i64 NX),(110,.int .i64 IX),(116,.int .i64 m.letters.length),(117,.int .i64 j),(118,.bool false)]) (hpL (szK d m s0 c0 s c)))→
 WL Tryz.prog 198 qsy (ofL [(4,.ref 402 10 0),(6,.int .i64 AL),(12,.int .i64 R),(14,.int .i64 E),(16,.ref 2402 2 0),(17,.int .i64 (sumA m c k:Int)),(108,.list (qac X)),(109,.int .i64 NX),(110,.int .i64 IX),(116,.int .i64 m.letters.length),(117,.int .i64 k)]) (hpL (szK d m s0 c0 s c)) Q:=by
 have hmc:∀D,clL D (mdC m)=true:=fun D=>by simp
 have hsl:(qas m.letters).length=m.letters.length:=qaf _
 obtain⟨b1,b2,b3,b4,b5,b6,b7⟩:=qbf g.tm.kind g.check
 intro n
 induction n with
 | zero=>
  intro k hk hQ
  obtain rfl:k=m.letters.length:=by omega
  have hd:decide ((m.letters.length:Int)<(m.letters.length:Int))=false:=by simp
  rw[qj0 m c o.nd]
  simp only[szH,szK,List.cons_append,List.nil_append] at hQ ⊢
  have fX:=@hd
  refine qaa qsy.eq_1 ?_
  refine wR0 2700 [4,6,12,14,16,17,108,109,110,116,117,118] fX ?_
  refine wF @hd ?_
  refine wX ?_
  refine wN ?_
  exact hQ _
 | succ n ih=>
  intro k hk hQ
  have hd:decide ((k:Int)<(m.letters.length:Int))=true:=decide_eq_true (by omega)
  have hw:IntKind.wrap .i64 ((k:Int)+1)=((k+1:Nat):Int):=by rw[wrap64 (by omega) (by omega)];rfl
  have hN:=qcG m g.fit g.tm.kind g.check o [(k:Int)] (by simp;omega)
  have hs1:=qmt (m:=m) (by omega) o.len o.kids k
  have hc1:=qbY o.len o.kids [(k:Int)]
  have hw2:IntKind.wrap .i64 ((sumA m c k:Int)+(cntF c [(k:Int)]:Int))=((sumA m c k+cntF c [(k:Int)]:Nat):Int):=by rw[wrap64 (by omega) (by omega)];omega
  have hmx:(if (0:Int)<0 then (0:Int) else 0)=0:=rfl
  have hfz:∀H:Heap,H 2903=.live ⟨3,[.int .i64 k]⟩→Frz H (.sl 2903 1 0 0 1) (.list (qab [(k:Int)])):=fun H h=>qb0 [(k:Int)] h rfl rfl
  have hQ':=ih (k+1) (by omega) hQ
  have hL:=fun N I Q=>qrp g o d s0 c0 AL R E NX IX X k N I (sumA m c k+cntF c [(k:Int)]) (by omega) Q
  simp only[qax,cfgN,bagV,encV] at hN
  simp only[szH,szK,szI,List.cons_append,List.nil_append] at hQ' hL ⊢
  have fX:=(cJ5 @hd @hw @hw2 @hmx @qaI)
  refine qaa qsy.eq_1 ?_
  refine W_gc ?_
  refine wR0 2700 [4,6,12,14,16,17,108,109,110,116,117,118] fX ?_
  refine wT fX ?_
  refine wR0 2800 [4,6,12,14,16,17,18,108,109,110,116,117] fX ?_
  refine wRn 2900 [4,6,12,14,16,17,18,19,108,109,110,116,117] (cJ2 @mdC.eq_1 fX) ?_
  refine rL [(2903,.live ⟨3,[.int .i64 k]⟩)] (cJ2 @mdC.eq_1 fX) ?_
  refine⟨_,_,hN,(by (exact .cons (.same (by simp[T.cl,clL])) (.cons (.same (by simp[T.cl,clL])) (.cons (hfz _ rfl) .nil)))),rfl,rE (cJ2 @mdC.eq_1 fX) ?_⟩
  refine wR0 3000 [4,6,12,14,16,17,18,108,109,110,116,117] fX ?_
  refine wR0 3100 [4,6,12,14,16,17,18,21,108,109,110,116,117] fX ?_
  refine wL ?_
  refine qcZ [4,6,12,14,16,17,18,21,108,109,110,116,117] ?_
  refine hL _ _ _ ?_
  ·intro j
   refine wN ?_
   refine wR0 3600 [4,6,12,14,16,17,108,109,110,116,117] fX ?_
   refine wN ?_
   refine qaC [99999,402,503,2402] (by simp[inL]) (by simp[inL,T.cl]) (by simp[qam,inL,Slot.cl,T.cl,clL,hmc]) ?_
   exact hQ'
end
end Go.Proofs.YtpplncjaihgimaaGreat
