/- Contracts of functions of the program, for all arguments that they name. -/
import Derived.Test.YtpplncjaihgimaaGreatK37
namespace Go.Proofs.YtpplncjaihgimaaGreat
set_option linter.unusedVariables false
section
open Go.RowKit
set_option maxHeartbeats 2000000
attribute [local simp] qay qai qae qaG encVs_eq_nil' qgw
def qgz (l:List (Nat×Slot)):Prop:=∀p∈l,p.1≠99999∧p.2≠.free
theorem qmC {H:Heap}:∀ {l:List (Nat×Slot)},qgz l→LFz H [99999] l (l.map fun p=>(p.1,.dead))
 | [],_=>.nil
 | p::l,h=>.dead (by have:=(h p (by simp)).1;simp[inL,this]) (h p (by simp)).2 (qmC fun q hq=>h q (List.mem_cons_of_mem _ hq))
theorem qiC:∀ {l:List (Nat×Slot)},qgz l→qam [99999] (l.map fun p=>(p.1,Slot.dead))=[]
 | [],_=>rfl
 | p::l,h=>by
  have h1:=(h p (by simp)).1
  have:=qiC (l:=l) fun q hq=>h q (List.mem_cons_of_mem _ hq)
  simp only[qam,List.map_cons,inL] at this ⊢
  simpa [h1] using this
set_option maxHeartbeats 20000000 in
theorem qrZ {m:Md}(hk:m.kind=4∨m.kind=5)(k0 s0:Int)(rs:List Int)(ps:List Ty)(s:Int)(ks:List V)(hlk:ks.length≤1000)(k:Nat)(hk6:k<6)(d d1:Dk)(s':Int)(xs:List V)(hlx:xs.length≤1000)(z0:Int)(zk:List V)(e1:Int)(rl:Bool)
 (hval:TC Tryz.prog 32 [dkR,.agg [.int .i64 k0,.int .i64 s0,.list (qab rs),.list (qak ps)]] (hpL [(99999,dkB d)]) (.agg [.int .i64 0,.sl 409 4 2 0 2]) (hpL [(99999,dkB d1),(409,rB [.int .i64 s',.list [],.int .i64 0,.list (qac xs)])]))
 (hcopy:TC Tryz.prog 25 [.agg [.int .i64 0,.list (qac [.mk s [],.mk 0 ks])]] (hpL []) (.agg [.int .i64 0,.sl 419 4 2 0 2]) (hpL ((419,rB [.int .i64 s,.list [],.int .i64 0,bagT ks])::bagH ks)))
 (hso:TP Tryz.prog 50 [.agg [.int .i64 k0,.int .i64 s0,.list (qab rs),.list (qak ps)],.agg [.int .i64 0,.list (qac [.mk s [],.mk 0 (ks++xs)])]] (.tup [.agg [.int .i64 z0,.list (qac zk)],.int .i64 e1]))
 (hleq:TP Tryz.prog 24 [.agg [.int .i64 k0,.int .i64 s0,.list (qab rs),.list (qak ps)],.agg [.int .i64 0,.list (qac [.mk s [],.mk 0 ks])],.agg [.int .i64 z0,.list (qac zk)]] (.bool rl)) (Q:IExit→(Nat→T)→Heap→Prop)
 (hT:(e1==0)=true→rl=true→∀rest,qgz rest→Q .ret (ofL [(6,.ref 2 2 0)]) (hpL ([(99999,dkB d1),(0,sM m),(1,vB 0 (.list (qac [.mk s [],.mk 0 ks]))),(2,vB z0 (.list (qac zk))),(102,tyB k0 s0 rs ps)]++rest)))
 (hF:(((e1==0)&&rl)=false)→WL Tryz.prog 130 qfJ (ofL [(0,dkR),(4,.ref 0 10 0),(5,.ref 1 2 0),(6,.ref 2 2 0),(7,.ref 102 4 0),(8,.int .i64 ((k+1:Nat):Int))]) (hpL (abH m d1 s ks k0 s0 rs ps)) Q) :
 WL Tryz.prog 130 qfJ (ofL [(0,dkR),(4,.ref 0 10 0),(5,.ref 1 2 0),(6,.ref 2 2 0),(7,.ref 102 4 0),(8,.int .i64 k)]) (hpL (abH m d s ks k0 s0 rs ps)) Q:=by
 have hmc:∀D,clL D (mdC m)=true:=fun D=>by simp
 have hd:decide ((k:Int)<6)=true:=decide_eq_true (by omega)
 have hw:IntKind.wrap .i64 ((k:Int)+1)=((k+1:Nat):Int):=by rw[wrap64 (by omega) (by omega)];rfl
 have g0:(qac [.mk s [],.mk 0 ks]).getD (0:Int).toNat .undef=.agg [.int .i64 s,.list []]:=rfl
 have b0:(0:Int)<((qac [.mk s [],.mk 0 ks]).length:Int):=by simp[qac]
 have hfx:qaq [.mk s' [],.mk 0 xs]=[.int .i64 s',.list [],.int .i64 0,.list (qac xs)]:=rfl
 simp only[List.cons_append,List.nil_append] at hT
 rcases ks with _ | ⟨u,ks⟩<;>rcases xs with _ | ⟨x,xs⟩
 ·simp only[abH,bagT,bagH] at hcopy hF ⊢
  try simp only[List.append_nil] at hso
  have fX:=(cJ6 @hd @hw @g0 @b0 @hfx @mdC.eq_1)
  refine qaa qfJ.eq_1 ?_
  refine W_gc ?_
  refine wR0 300 [0,4,5,6,7,8,17] fX ?_
  refine wT fX ?_
  refine wRn 400 [0,4,5,6,7,8,9] fX ?_
  refine rU [(99999,dkB d)] [(99999,dkB d1),(409,rB [.int .i64 s',.list [],.int .i64 0,.list (qac ([]))])] fX ?_
  refine⟨_,hval.fullL (by simp) (by simp[qbD,qaL,qa0,qbm]),rE fX ?_⟩
  refine wR0 500 [0,4,5,6,7,8,9] fX ?_
  refine wRn 600 [0,4,5,6,7,8,9,10] fX ?_
  refine rU [] [(419,rB [.int .i64 s,.list [],.int .i64 0,.nil])] fX ?_
  refine⟨_,hcopy,rE fX ?_⟩
  refine wR0 700 [0,4,5,6,7,8,9,10,11] fX ?_
  refine wL ?_
  refine qgG hk d1 s ([]) ([]) ([]) (Nat.le_trans hlk (by decide)) (Nat.le_trans hlx (by decide)) _ _ _ _ k _ ?_
  ·skip
   refine wN ?_
   simp only[abH,dX,dW,List.cons_append,List.nil_append,List.append_nil]
   refine wRn 1500 [0,4,5,6,7,8,12,13] fX ?_
   refine rC fX ?_
   refine⟨_,hso,rE fX ?_⟩
   refine wRn 1600 [0,4,5,6,7,8,12,126] fX ?_
   refine rCi fX ?_
   refine⟨_,fun hw=>hleq,rE fX ?_⟩
   refine wS cJ0 (fun hc1600=>?_) (fun hc1600=>?_)
   ·skip
    refine wR0 1700 [6] fX ?_
    refine wE ?_
    refine wN ?_
    exact hT (by revert hc1600;cases (e1==0)<;>cases rl<;>simp) (by revert hc1600;cases (e1==0)<;>cases rl<;>simp) _ (by simp[qgz])
   ·skip
    refine wR0 1800 [0,4,5,6,7,8] fX ?_
    refine wN ?_
    refine qaC [99999,0,1,2,102] (by simp[inL]) (by simp[inL,T.cl]) (by simp[qam,inL,Slot.cl,T.cl,clL,hmc]) ?_
    exact hF (by revert hc1600;cases (e1==0)<;>cases rl<;>simp)
 ·simp only[abH,bagT,bagH] at hcopy hF ⊢
  try simp only[List.nil_append] at hso
  have fX:=(cJ6 @hd @hw @g0 @b0 @hfx @mdC.eq_1)
  refine qaa qfJ.eq_1 ?_
  refine W_gc ?_
  refine wR0 300 [0,4,5,6,7,8,17] fX ?_
  refine wT fX ?_
  refine wRn 400 [0,4,5,6,7,8,9] fX ?_
  refine rU [(99999,dkB d)] [(99999,dkB d1),(409,rB [.int .i64 s',.list [],.int .i64 0,.list (qac (x::xs))])] fX ?_
  refine⟨_,hval.fullL (by simp) (by simp[qbD,qaL,qa0,qbm]),rE fX ?_⟩
  refine wR0 500 [0,4,5,6,7,8,9] fX ?_
  refine wRn 600 [0,4,5,6,7,8,9,10] fX ?_
  refine rU [] [(419,rB [.int .i64 s,.list [],.int .i64 0,.nil])] fX ?_
  refine⟨_,hcopy,rE fX ?_⟩
  refine wR0 700 [0,4,5,6,7,8,9,10,11] fX ?_
  refine wL ?_
  refine qgG hk d1 s ([]) ([]) (x::xs) (Nat.le_trans hlk (by decide)) (Nat.le_trans hlx (by decide)) _ _ _ _ k _ ?_
  ·skip
   refine wN ?_
   simp only[abH,dX,dW,List.cons_append,List.nil_append]
   refine wRn 1500 [0,4,5,6,7,8,12,13] fX ?_
   refine rC fX ?_
   refine⟨_,hso,rE fX ?_⟩
   refine wRn 1600 [0,4,5,6,7,8,12,126] fX ?_
   refine rCi fX ?_
   refine⟨_,fun hw=>hleq,rE fX ?_⟩
   refine wS cJ0 (fun hc1600=>?_) (fun hc1600=>?_)
   ·skip
    refine wR0 1700 [6] fX ?_
    refine wE ?_
    refine wN ?_
    exact hT (by revert hc1600;cases (e1==0)<;>cases rl<;>simp) (by revert hc1600;cases (e1==0)<;>cases rl<;>simp) _ (by simp[qgz])
   ·skip
    refine wR0 1800 [0,4,5,6,7,8] fX ?_
    refine wN ?_
    refine qaC [99999,0,1,2,102] (by simp[inL]) (by simp[inL,T.cl]) (by simp[qam,inL,Slot.cl,T.cl,clL,hmc]) ?_
    exact hF (by revert hc1600;cases (e1==0)<;>cases rl<;>simp)
 ·simp only[abH,bagT,bagH] at hcopy hF ⊢
  try simp only[List.append_nil] at hso
  have fX:=(cJ6 @hd @hw @g0 @b0 @hfx @mdC.eq_1)
  refine qaa qfJ.eq_1 ?_
  refine W_gc ?_
  refine wR0 300 [0,4,5,6,7,8,17] fX ?_
  refine wT fX ?_
  refine wRn 400 [0,4,5,6,7,8,9] fX ?_
  refine rU [(99999,dkB d)] [(99999,dkB d1),(409,rB [.int .i64 s',.list [],.int .i64 0,.list (qac ([]))])] fX ?_
  refine⟨_,hval.fullL (by simp) (by simp[qbD,qaL,qa0,qbm]),rE fX ?_⟩
  refine wR0 500 [0,4,5,6,7,8,9] fX ?_
  refine wRn 600 [0,4,5,6,7,8,9,10] fX ?_
  refine rU [] [(419,rB [.int .i64 s,.list [],.int .i64 0,.sl 410 ((ks.length+1)*2) 2 0 (ks.length+1)]),(410,rB (qaq (u::ks)))] fX ?_
  refine⟨_,hcopy.fullL (by simp) (by simp[qbD,qaL,qa0,qbm]),rE fX ?_⟩
  refine wR0 700 [0,4,5,6,7,8,9,10,11] fX ?_
  refine wL ?_
  refine qgG hk d1 s (u::ks) (u::ks) ([]) (Nat.le_trans hlk (by decide)) (Nat.le_trans hlx (by decide)) _ _ _ _ k _ ?_
  ·skip
   refine wN ?_
   simp only[abH,dX,dW,List.cons_append,List.nil_append,List.append_nil]
   refine wRn 1500 [0,4,5,6,7,8,12,13] fX ?_
   refine rC fX ?_
   refine⟨_,hso,rE fX ?_⟩
   refine wRn 1600 [0,4,5,6,7,8,12,126] fX ?_
   refine rCi fX ?_
   refine⟨_,fun hw=>hleq,rE fX ?_⟩
   refine wS cJ0 (fun hc1600=>?_) (fun hc1600=>?_)
   ·skip
    refine wR0 1700 [6] fX ?_
    refine wE ?_
    refine wN ?_
    exact hT (by revert hc1600;cases (e1==0)<;>cases rl<;>simp) (by revert hc1600;cases (e1==0)<;>cases rl<;>simp) _ (by simp[qgz])
   ·skip
    refine wR0 1800 [0,4,5,6,7,8] fX ?_
    refine wN ?_
    refine qaC [99999,0,1,2,102] (by simp[inL]) (by simp[inL,T.cl]) (by simp[qam,inL,Slot.cl,T.cl,clL,hmc]) ?_
    exact hF (by revert hc1600;cases (e1==0)<;>cases rl<;>simp)
 ·simp only[abH,bagT,bagH] at hcopy hF ⊢
  try simp only[List.cons_append] at hso
  have fX:=(cJ6 @hd @hw @g0 @b0 @hfx @mdC.eq_1)
  refine qaa qfJ.eq_1 ?_
  refine W_gc ?_
  refine wR0 300 [0,4,5,6,7,8,17] fX ?_
  refine wT fX ?_
  refine wRn 400 [0,4,5,6,7,8,9] fX ?_
  refine rU [(99999,dkB d)] [(99999,dkB d1),(409,rB [.int .i64 s',.list [],.int .i64 0,.list (qac (x::xs))])] fX ?_
  refine⟨_,hval.fullL (by simp) (by simp[qbD,qaL,qa0,qbm]),rE fX ?_⟩
  refine wR0 500 [0,4,5,6,7,8,9] fX ?_
  refine wRn 600 [0,4,5,6,7,8,9,10] fX ?_
  refine rU [] [(419,rB [.int .i64 s,.list [],.int .i64 0,.sl 410 ((ks.length+1)*2) 2 0 (ks.length+1)]),(410,rB (qaq (u::ks)))] fX ?_
  refine⟨_,hcopy.fullL (by simp) (by simp[qbD,qaL,qa0,qbm]),rE fX ?_⟩
  refine wR0 700 [0,4,5,6,7,8,9,10,11] fX ?_
  refine wL ?_
  refine qgG hk d1 s (u::ks) (u::ks) (x::xs) (Nat.le_trans hlk (by decide)) (Nat.le_trans hlx (by decide)) _ _ _ _ k _ ?_
  ·skip
   refine wN ?_
   simp only[abH,dX,dW,List.cons_append,List.nil_append,List.append_nil]
   refine wRn 1500 [0,4,5,6,7,8,12,13] fX ?_
   refine rC fX ?_
   refine⟨_,hso,rE fX ?_⟩
   refine wRn 1600 [0,4,5,6,7,8,12,126] fX ?_
   refine rCi fX ?_
   refine⟨_,fun hw=>hleq,rE fX ?_⟩
   refine wS cJ0 (fun hc1600=>?_) (fun hc1600=>?_)
   ·skip
    refine wR0 1700 [6] fX ?_
    refine wE ?_
    refine wN ?_
    exact hT (by revert hc1600;cases (e1==0)<;>cases rl<;>simp) (by revert hc1600;cases (e1==0)<;>cases rl<;>simp) _ (by simp[qgz])
   ·skip
    refine wR0 1800 [0,4,5,6,7,8] fX ?_
    refine wN ?_
    refine qaC [99999,0,1,2,102] (by simp[inL]) (by simp[inL,T.cl]) (by simp[qam,inL,Slot.cl,T.cl,clL,hmc]) ?_
    exact hF (by revert hc1600;cases (e1==0)<;>cases rl<;>simp)
set_option maxHeartbeats 20000000 in
theorem qrY {m:Md}(hk:m.kind=4∨m.kind=5)(k0 s0:Int)(rs:List Int)(ps:List Ty)(hft:qhq (.mk k0 s0 rs ps))(hfit:(Ty.mk k0 s0 rs ps).fit)(hv8:qar (.mk k0 s0 rs ps) 8=true)(hsm:qh3 (.mk k0 s0 rs ps))
 (hsh:∀v,qaR (.mk k0 s0 rs ps) v=true→∃s xs,v=cfB s xs∧xs.length≤1000) (s:Int) (ks:List V) (hcf:(cfB s ks).fit) (hlk:ks.length≤1000):∀(n k:Nat),k+n=6→∀d:Dk,d.ok→∃(w:Option V) (d':Dk),d'.ok∧(∀z,w=some z→z.fit∧leV (.mk k0 s0 rs ps) (cfB s ks) z)∧∀Q:IExit→(Nat→T)→Heap→Prop,
  (w=none→Q (.exit 0) (ofL [(0,dkR),(4,.ref 0 10 0),(5,.ref 1 2 0),(6,.ref 2 2 0),(7,.ref 102 4 0),(8,.int .i64 6),(17,.bool false)]) (hpL (abH m d' s ks k0 s0 rs ps)))→
  (∀z,w=some z→∀rest,qgz rest→Q .ret (ofL [(6,.ref 2 2 0)]) (hpL ([(99999,dkB d'),(0,sM m),(1,vB 0 (.list (qac [.mk s [],.mk 0 ks]))),(2,vB z.n (.list (qac z.kids))),(102,tyB k0 s0 rs ps)]++rest)))→
  WL Tryz.prog 130 qfJ (ofL [(0,dkR),(4,.ref 0 10 0),(5,.ref 1 2 0),(6,.ref 2 2 0),(7,.ref 102 4 0),(8,.int .i64 k)]) (hpL (abH m d s ks k0 s0 rs ps)) Q:=by
 have hmc:∀D,clL D (mdC m)=true:=fun D=>by simp
 have hmo:=qco m
 intro n
 induction n with
 | zero=>
  intro k hkn d hd0
  obtain rfl:k=6:=by omega
  refine⟨none,d,hd0,fun z h=>(by cases h),fun Q hQ0 hQ1=>?_⟩
  have hQ:=hQ0 rfl
  have hd:decide (((6:Nat):Int)<6)=false:=rfl
  simp only[abH] at hQ ⊢
  have fX:=@hd
  refine qaa qfJ.eq_1 ?_
  refine wR0 300 [0,4,5,6,7,8,17] fX ?_
  refine wF @hd ?_
  refine wX ?_
  refine wN ?_
  exact hQ
 | succ n ih=>
  intro k hkn d hd0
  obtain⟨r,R',d1,hrf,hvv,hok,hval⟩:=qlF (.mk k0 s0 rs ps) d hft hfit hv8 hd0
  obtain⟨s',xs,e,hlx⟩:=hsh _ hvv
  simp only[V.mk.injEq,true_and] at e
  obtain⟨rfl,rfl⟩:r=.mk s' []∧R'=[.mk 0 xs]:=by simpa using e
  have hxf:∀v∈xs,v.fit:=fun v hv=>by
   have h1:(V.mk 0 xs).fit:=(V.fit_kids hrf).2 (.mk 0 xs) (by simp[V.kids])
   exact (V.fit_kids h1).2 v hv
  have hkf:∀v∈ks,v.fit:=fun v hv=>by
   have h1:(V.mk 0 ks).fit:=(V.fit_kids hcf).2 (.mk 0 ks) (by simp[V.kids])
   exact (V.fit_kids h1).2 v hv
  have hyf:(cfB s (ks++xs)).fit:=by
   simp only[V.fit,fitL]
   refine⟨by simp,⟨by simp,trivial⟩,⟨by simp;omega,qdo fun v hv=>?_⟩,trivial⟩
   rcases List.mem_append.1 hv with hv | hv
   ·exact hkf v hv
   ·exact hxf v hv
  have hcopy:=qsi s ks hcf
  have hso:=qe3 (.mk k0 s0 rs ps) (cfB s (ks++xs)) hfit hyf
  have hzf:=qcx (.mk k0 s0 rs ps) (cfB s (ks++xs)) hyf
  rcases hsr:qaX (.mk k0 s0 rs ps) (cfB s (ks++xs)) with⟨⟨z0,zk⟩,e1⟩
  rw[hsr] at hso hzf
  obtain⟨rl,hrl,hleq⟩:=qt0 (.mk k0 s0 rs ps) (cfB s ks) (.mk z0 zk) hsm hfit hcf hzf
  have hd:decide ((k:Int)<6)=true:=decide_eq_true (by omega)
  have hw:IntKind.wrap .i64 ((k:Int)+1)=((k+1:Nat):Int):=by rw[wrap64 (by omega) (by omega)];rfl
  have g0:(qac [.mk s [],.mk 0 ks]).getD (0:Int).toNat .undef=.agg [.int .i64 s,.list []]:=rfl
  have b0:(0:Int)<((qac [.mk s [],.mk 0 ks]).length:Int):=by simp[qac]
  have hfx:qaq [.mk s' [],.mk 0 xs]=[.int .i64 s',.list [],.int .i64 0,.list (qac xs)]:=rfl
  simp only[encK,sK,hfx,qal] at hval
  simp only[encV,qal] at hso hleq hcopy
  have hR:=fun Q=>qrZ hk k0 s0 rs ps s ks hlk k (by omega) d d1 s' xs hlx z0 zk e1 rl hval hcopy hso hleq Q
  rcases hgo:((e1==0)&&rl) with _ | _
  ·obtain⟨w,d',hok',hw',hL'⟩:=ih (k+1) (by omega) d1 hok
   refine⟨w,d',hok',hw',fun Q hQ0 hQ1=>hR Q (fun h1 h2=>?_) (fun _=>hL' Q hQ0 hQ1)⟩
   rw[h1,h2] at hgo
   cases hgo
  ·simp only[Bool.and_eq_true] at hgo
   refine⟨some (.mk z0 zk),d1,hok,fun z h=>(by simp only[Option.some.injEq] at h;subst h;exact⟨hzf,hrl.1 hgo.2⟩),fun Q hQ0 hQ1=>hR Q (fun h1 h2=>hQ1 _ rfl) (fun h=>?_)⟩
   rw[hgo.1,hgo.2] at h
   cases h
end
section
open Go.RowKit
set_option maxHeartbeats 2000000
attribute [local simp] qay qai qae qaG
set_option maxHeartbeats 20000000 in
theorem qr0 {m:Md}(hm:m.fit)(hk:m.kind=4∨m.kind=5)(htf:qcU m=qau m)(hft:qhq (qau m))(hfit:(qau m).fit)(hv8:qar (qau m) 8=true)(hsm:qh3 (qau m))
 (hsh:∀v,qaR (qau m) v=true→∃s xs,v=cfB s xs∧xs.length≤1000) (s:Int) (ks:List V) (hcf:(cfB s ks).fit) (hlk:ks.length≤1000) (d:Dk) (hd:d.ok) :
 ∃(z:V) (d':Dk),z.fit∧(z=cfB s ks∨leV (qau m) (cfB s ks) z)∧d'.ok∧TC Tryz.prog 23 [dkR,qax m,encV (cfB s ks)] (hpL [(99999,dkB d)]) (encV z) (hpL [(99999,dkB d')]):=by
 have ht:=qmw m hm
 rw[htf] at ht
 have hcp:=qhf (cfB s ks) hcf
 rcases hT:qau m with⟨k0,s0,rs,ps⟩
 rw[hT] at ht hft hfit hv8 hsm hsh
 obtain⟨w,d',hok,hw,hW⟩:=qrY hk k0 s0 rs ps hft hfit hv8 hsm hsh s ks hcf hlk 6 0 rfl d hd
 simp only[qal] at ht
 simp only[encV] at hcp
 rcases w with _ | z
 ·refine⟨cfB s ks,d',hcf,.inl rfl,hok,?_⟩
  refine qcy fn23 (by simp) ?_
  unfold i23
  simp only[argL,encV,qax,mdC]
  refine wR0 0 [0,4,5,6] cJ0 ?_
  refine wRn 100 [0,4,5,6,7] cJ0 ?_
  refine rC cJ0 ?_
  refine⟨_,ht,rE cJ0 ?_⟩
  refine wR0 200 [0,4,5,6,7,8] cJ0 ?_
  refine wL ?_
  refine hW _ (fun _=>?_) (fun z h=>by cases h)
  ·skip
   refine wN ?_
   simp only[abH]
   refine wRn 1900 [6] cJ0 ?_
   refine rC cJ0 ?_
   refine⟨_,hcp,rE cJ0 ?_⟩
   refine wE ?_
   refine wN ?_
   exact⟨by simp,_,_,_,rfl,rfl,.same (by simp[mkEl,esz,T.cl,clL,qai]),.keep rfl (qaT _) (.dead rfl (fun h=>by cases h) (.dead rfl (fun h=>by cases h) (.dead rfl (fun h=>by cases h) (.dead rfl (fun h=>by cases h) .nil)))),rfl⟩
 ·obtain⟨hzf,hle⟩:=hw z rfl
  refine⟨z,d',hzf,.inr hle,hok,?_⟩
  rcases z with⟨z0,zk⟩
  refine qcy fn23 (by simp) ?_
  unfold i23
  simp only[argL,encV,qax,mdC]
  refine wR0 0 [0,4,5,6] cJ0 ?_
  refine wRn 100 [0,4,5,6,7] cJ0 ?_
  refine rC cJ0 ?_
  refine⟨_,ht,rE cJ0 ?_⟩
  refine wR0 200 [0,4,5,6,7,8] cJ0 ?_
  refine wL ?_
  refine hW _ (fun h=>by cases h) (fun z' hz' rest hrest=>?_)
  ·skip
   refine wN ?_
   (obtain rfl:V.mk z0 zk=z':=(by simpa using hz'));exact⟨by simp,_,_,_,rfl,rfl,.same (by simp[V.n,V.kids,mkEl,esz,T.cl,clL,qai]),.keep rfl (qaT _) (.dead rfl (fun h=>by cases h) (.dead rfl (fun h=>by cases h) (.dead rfl (fun h=>by cases h) (.dead rfl (fun h=>by cases h) (qmC hrest))))),by simpa [qam,inL] using qiC hrest⟩
end
end Go.Proofs.YtpplncjaihgimaaGreat
