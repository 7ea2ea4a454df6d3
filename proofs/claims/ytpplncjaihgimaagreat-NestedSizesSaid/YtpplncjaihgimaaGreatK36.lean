/- Contracts of functions of the program, for all arguments that they name. -/
import Derived.Test.YtpplncjaihgimaaGreatK35
namespace Go.Proofs.YtpplncjaihgimaaGreat
set_option linter.unusedVariables false
section
open Go.RowKit
set_option maxHeartbeats 2000000
attribute [local simp] qay
theorem qtN {P:Program}{f:FuncId}{N:Nat}{ic:ICode}{rs:List (Nat×Option Nat)}{args:List T}{l2:List (Nat×Slot)}{r:T}(ids:List Nat)(h:FnOk P f N rs ic)(hn:args.length≤N)
 (hw:W P N ic (ofL (argL 0 args)) (hpL []) fun e env' H''=>(e=.ret∨e=.normal)∧∃x hl hl',resT env' H'' rs=some x∧H''=hpL hl∧Fz (hpL hl) (inL ids) x r∧LFz (hpL hl) ids hl hl'∧qam ids hl'=l2):TC P f args (hpL []) r (hpL l2):=qj9 ids h hn rfl hw
theorem qlI {P:Program}{f:FuncId}{N:Nat}{ic:ICode}{rs:List (Nat×Option Nat)}{args:List T}{d:Dk}{l2:List (Nat×Slot)}{r:T}(h:FnOk P f N rs ic)(hn:args.length≤N)
 (hw:W P N ic (ofL (argL 0 args)) (hpL [(99999,dkB d)]) fun e env' H''=>(e=.ret∨e=.normal)∧∃x hl hl',resT env' H'' rs=some x∧H''=hpL hl∧Fz (hpL hl) (inL [99999,409]) x r∧LFz (hpL hl) [99999,409] hl hl'∧qam [99999,409] hl'=l2):TC P f args (hpL [(99999,dkB d)]) r (hpL l2):=qj9 [99999,409] h hn rfl hw
theorem qpk (s N:Int)(rs:List Int)(ps:List Ty)(u:V)(ks:List V)(d:Int)(ht:(Ty.mk 3 s rs ps).fit)(hv:(V.mk N (u::ks)).fit)(hval:qar (.mk 3 s rs ps) d=true)(r:V)(R':List V)(hX:qcl ps (u::ks)=r::R') :
 TC Tryz.prog 85 [qal (.mk 3 s rs ps),.agg [.int .i64 N,.list (qac (u::ks))]] (hpL []) (.agg [.int .i64 N,.sl 409 ((R'.length+1)*2) 2 0 (R'.length+1)]) (hpL [(409,.live ⟨25,qaq (r::R')⟩)]):=by
 obtain⟨hf1,hf2,hf3⟩:=Ty.fit_all ht
 have hv':=V.fit_kids hv
 simp only[V.kids] at hv'
 have hcopy:=qmX N (u::ks) hv
 simp only[rowT,rowH] at hcopy
 have hn0:ks.length+1≤1000000:=by simpa using hv'.1
 have hRl:=qeC ps (u::ks)
 rw[hX] at hRl
 have hRl':R'.length=ks.length:=by simpa using hRl
 have hvp:=qfy rfl hval
 have hl3:∀t∈ps,∀v∈u::ks,TP Tryz.prog 85 [qal t,encV v] (encV (qbi t v)):=fun t hk v hv1=>qf5 t v (d - 1) (hf3 t hk) (hv'.2 v hv1) (qbV hvp t hk)
 have k5b:((3:Int) != 5)=true:=rfl
 rw[hRl']
 refine qtN [409] fn85 (by simp) ?_
 unfold i85
 simp only[argL,qal]
 refine wR0 0 [2,3,4] cJ0 ?_
 refine wRn 100 [2,4,5] cJ0 ?_
 refine rU [] [(409,.live ⟨25,qaq (u::ks)⟩)] cJ0 ?_
 refine⟨_,hcopy,rE cJ0 ?_⟩
 refine wR0 200 [2,4,5,6] cJ0 ?_
 refine wL ?_
 refine qk5 s N rs ps _ (ks.length+1) hn0 _ (u::ks) [] ps [] 0 rfl (by simp) rfl (.inl rfl) hl3 ?_
 ·intro i
  refine wN ?_
  simp only[List.nil_append,hX]
  refine wR0 900 [4,5,67] cJ0 ?_
  refine wT @k5b ?_
  refine wR0 1000 [4] cJ0 ?_
  refine wE ?_
  refine wN ?_
  exact⟨by simp,_,_,_,rfl,rfl,.same rfl,.dead rfl (fun h=>by cases h) (.dead rfl (fun h=>by cases h) (.dead rfl (fun h=>by cases h) (.keep rfl (.liveS (qay _ _) (qbI _)) (.dead rfl (fun h=>by cases h) .nil)))),rfl⟩
theorem qh7 (s N:Int)(rs:List Int)(ps:List Ty)(u:V)(ks:List V)(ht:(Ty.mk 3 s rs ps).fit)(hv:(V.mk N (u::ks)).fit)(h1:qar (.mk 3 s rs ps) 8=true)(h2:¬qbt (.mk N (u::ks)) 128 > 128)(r:V)(R':List V)(hX:qcl ps (u::ks)=r::R')(h3:qaR (.mk 3 s rs ps) (.mk N (r::R'))=true)(hrf:(V.mk N (r::R')).fit) :
 TC Tryz.prog 50 [qal (.mk 3 s rs ps),.agg [.int .i64 N,.list (qac (u::ks))]] (hpL []) (.tup [.agg [.int .i64 N,.sl 409 ((R'.length+1)*2) 2 0 (R'.length+1)],.int .i64 0]) (hpL [(409,.live ⟨25,qaq (r::R')⟩)]):=by
 have hc:qba (.mk 3 s rs ps)=0:=by simp[qba,h1]
 have hck:=qfC (.mk 3 s rs ps) ht
 rw[hc] at hck
 have hz:((0:Int) != 0)=false:=rfl
 have hsz:=qft (.mk N (u::ks)) 128 hv (by omega) (by omega)
 have hd:decide (qbt (.mk N (u::ks)) 128 > 128)=false:=decide_eq_false h2
 have hso:=qpk s N rs ps u ks 8 ht hv h1 r R' hX
 have hvv:=qcK (.mk 3 s rs ps) (.mk N (r::R')) ht hrf
 rw[h3] at hvv
 simp only[qal] at hck hso hvv
 have hfz:∀H:Heap,H 409=.live ⟨25,qaq (r::R')⟩→Frz H (.agg [.int .i64 N,.sl 409 ((R'.length+1)*2) 2 0 (R'.length+1)]) (encV (.mk N (r::R'))):=fun H h=>by
  simp only[encV]
  exact qaS (qbS (r::R') h rfl rfl) rfl
 have fX:=(cJ2 @hz @hd)
 refine qtN [409] fn50 (by simp) ?_
 unfold i50
 simp only[argL,qal]
 refine wR0 0 [2,3,4] fX ?_
 refine wRn 100 [2,3,4,6] fX ?_
 refine rC fX ?_
 refine⟨_,hck,rE fX ?_⟩
 refine wR0 200 [2,3,4,6,11] fX ?_
 refine wF @hz ?_
 refine wRn 400 [2,3,4,16] fX ?_
 refine rC fX ?_
 refine⟨_,hsz,rE fX ?_⟩
 refine wF @hd ?_
 refine wRn 600 [2,4,7] fX ?_
 refine rU [] [(409,.live ⟨25,qaq (r::R')⟩)] fX ?_
 refine⟨_,hso,rE fX ?_⟩
 refine wRn 700 [4,7,24] fX ?_
 refine rL [(409,.live ⟨25,qaq (r::R')⟩)] fX ?_
 refine⟨_,_,hvv,(by (exact .cons (.same (by simp[T.cl,clL,qae,qaG])) (.cons (hfz _ rfl) .nil))),rfl,rE fX ?_⟩
 refine wF fX ?_
 refine wR0 900 [4,5] fX ?_
 refine wE ?_
 refine wN ?_
 exact⟨by simp,_,_,_,rfl,rfl,.same rfl,.dead rfl (fun h=>by cases h) (.dead rfl (fun h=>by cases h) (.dead rfl (fun h=>by cases h) (.keep rfl (.liveS (qay _ _) (qbI _)) (.dead rfl (fun h=>by cases h) .nil)))),rfl⟩
theorem qic {s:Int}{rs:List Int}{ps:List Ty}{v:V}(ht:qar (.mk 3 s rs ps) 8=true)(h:qaR (.mk 3 s rs ps) v=true):∃r R',v=.mk 0 (r::R'):=by
 have h1:1≤ps.length:=by
  rw[qar] at ht
  split at ht
  ·cases ht
  ·split at ht
   ·cases ht
   ·simp at ht;omega
 rcases v with⟨n,ks⟩
 simp only[qaR,Bool.and_eq_true] at h
 have h2:=h.2
 simp[ofV,V.n,V.kids] at h2
 obtain⟨⟨rfl,h3⟩,_⟩:=h2
 rcases ks with _ | ⟨r,R'⟩
 ·simp at h3;omega
 ·exact⟨r,R',rfl⟩
theorem qgB {s:Int}{rs:List Int}{ps:List Ty}{v:V}(ht:qar (.mk 3 s rs ps) 8=true)(h:qaR (.mk 3 s rs ps) (qaX (.mk 3 s rs ps) v).1=true) :
 ∃u ks r R',v=.mk 0 (u::ks)∧¬qbt v 128 > 128∧qcl ps (u::ks)=r::R'∧(qaX (.mk 3 s rs ps) v).1=.mk 0 (r::R')∧qaR (.mk 3 s rs ps) (.mk 0 (r::R'))=true:=by
 have hv0:qaR (.mk 3 s rs ps) v0=true→False:=fun h0=>by
  obtain⟨r,R',e⟩:=qic ht h0
  simp[v0] at e
 rcases v with⟨n,ks⟩
 unfold qaX at h ⊢
 rw[if_neg (by simp[ht])] at h ⊢
 by_cases h2:qbt (.mk n ks) 128 > 128
 ·rw[if_pos h2] at h;exact (hv0 h).elim
 rw[if_neg h2] at h ⊢
 by_cases h3:qaR (.mk 3 s rs ps) (qbi (.mk 3 s rs ps) (.mk n ks))=false
 ·rw[if_pos h3] at h;exact (hv0 h).elim
 rw[if_neg h3] at h ⊢
 simp only at h ⊢
 have e:qbi (.mk 3 s rs ps) (.mk n ks)=.mk n (qcl ps ks):=by rw[qb4,if_neg (by omega),rowOf,if_pos rfl]
 rw[e] at h ⊢
 obtain⟨r,R',e2⟩:=qic ht h
 simp only[V.mk.injEq] at e2
 obtain⟨rfl,e2⟩:=e2
 have hl:=qeC ps ks
 rcases ks with _ | ⟨u,ks⟩
 ·rw[e2] at hl;simp at hl
 ·rw[e2] at h ⊢
  exact⟨u,ks,r,R',rfl,h2,e2,rfl,h⟩
abbrev sK (l:List V):Slot:=.live ⟨25,qaq l⟩
abbrev encK (n:Nat):T:=.agg [.int .i64 0,.sl 409 ((n+1)*2) 2 0 (n+1)]
theorem qlF (t:Ty)(d:Dk)(hft:qhq t)(ht:t.fit)(hv:qar t 8=true)(hd:d.ok) :
 ∃(r:V) (R':List V) (d':Dk),(V.mk 0 (r::R')).fit∧qaR t (.mk 0 (r::R'))=true∧d'.ok∧TC Tryz.prog 32 [dkR,qal t] (hpL [(99999,dkB d)]) (encK R'.length) (hpL [(99999,dkB d'),(409,sK (r::R'))]):=by
 have hft':=hft
 obtain⟨ps,rfl,hps⟩:=hft'
 obtain⟨v1,d1,f1,_,ok1,l1⟩:=qeX (.mk 3 0 [] ps) 8 3 d ht hv (by omega) hd
 rcases hb:qaR (.mk 3 0 [] ps) (qaX (.mk 3 0 [] ps) v1).1 with _ | _
 ·have s1:=qe3 (.mk 3 0 [] ps) v1 ht f1
  have g1:=qcx (.mk 3 0 [] ps) v1 f1
  rcases h1:(qaX (.mk 3 0 [] ps) v1).1 with⟨a1,b1⟩
  rw[h1] at s1 g1 hb
  have w1:=qcK (.mk 3 0 [] ps) (.mk a1 b1) ht g1
  rw[hb] at w1
  obtain⟨v2,d2,f2,lo,ok2,l2⟩:=qeX (.mk 3 0 [] ps) 8 0 d1 ht hv (by omega) ok1
  obtain⟨e1,e2⟩:=qiE hft hv (lo rfl)
  obtain⟨u,ks,r,R',rfl,q1,q2,q3,q4⟩:=qgB hv (v:=v2) (by rw[e1];exact e2)
  have hrf:(V.mk 0 (r::R')).fit:=by rw[←q3];exact qcx _ _ f2
  have hso:=qh7 0 0 [] ps u ks ht f2 hv q1 r R' q2 q4 hrf
  refine⟨r,R',d2,hrf,q4,ok2,?_⟩
  rcases v1 with⟨n1,k1⟩
  simp only[encV,qal] at l1 s1 w1 l2 hso
  refine qlI fn32 (by simp) ?_
  unfold i32
  simp only[argL,qal]
  refine wR0 0 [0,3,4] cJ0 ?_
  refine wRn 100 [0,3,4,5] cJ0 ?_
  refine rU [(99999,dkB d)] [(99999,dkB d1)] cJ0 ?_
  refine⟨_,l1.full1,rN cJ0 ?_⟩
  refine rC cJ0 ?_
  refine⟨_,s1,rE cJ0 ?_⟩
  refine wRn 200 [0,3,4,5,18] cJ0 ?_
  refine rC cJ0 ?_
  refine⟨_,w1,rE cJ0 ?_⟩
  refine wT @Bool.not_false ?_
  refine wRn 300 [4,5] cJ0 ?_
  refine rU [(99999,dkB d1)] [(99999,dkB d2)] cJ0 ?_
  refine⟨_,l2.full1,rN cJ0 ?_⟩
  refine rU [] [(409,sK (r::R'))] cJ0 ?_
  refine⟨_,hso,rE cJ0 ?_⟩
  refine wR0 400 [4] cJ0 ?_
  refine wE ?_
  refine wN ?_
  exact⟨by simp,_,_,_,rfl,rfl,.same rfl,.keep rfl (qaT _) (.dead rfl (fun h=>by cases h) (.dead rfl (fun h=>by cases h) (.dead rfl (fun h=>by cases h) (.keep rfl (.liveS (qay _ _) (qbI _)) .nil)))),rfl⟩
 ·obtain⟨u,ks,r,R',rfl,q1,q2,q3,q4⟩:=qgB hv hb
  have hrf:(V.mk 0 (r::R')).fit:=by rw[←q3];exact qcx _ _ f1
  have hso:=qh7 0 0 [] ps u ks ht f1 hv q1 r R' q2 q4 hrf
  have w1:=qcK (.mk 3 0 [] ps) (.mk 0 (r::R')) ht hrf
  rw[q4] at w1
  refine⟨r,R',d1,hrf,q4,ok1,?_⟩
  simp only[encV,qal] at l1 hso
  simp only[qal] at w1
  have hfz:∀H:Heap,H 409=sK (r::R')→Frz H (encK R'.length) (encV (.mk 0 (r::R'))):=fun H h=>by
   simp only[encV]
   exact qaS (qbS (r::R') h rfl rfl) rfl
  refine qlI fn32 (by simp) ?_
  unfold i32
  simp only[argL,qal]
  refine wR0 0 [0,3,4] cJ0 ?_
  refine wRn 100 [0,3,4,5] cJ0 ?_
  refine rU [(99999,dkB d)] [(99999,dkB d1)] cJ0 ?_
  refine⟨_,l1.full1,rN cJ0 ?_⟩
  refine rU [] [(409,sK (r::R'))] cJ0 ?_
  refine⟨_,hso,rE cJ0 ?_⟩
  refine wRn 200 [0,3,4,5,18] cJ0 ?_
  refine rL [(409,sK (r::R'))] cJ0 ?_
  refine⟨_,_,w1,(by (exact .cons (.same (by simp[T.cl,clL,qae,qaG])) (.cons (hfz _ rfl) .nil))),rfl,rE cJ0 ?_⟩
  refine wF @Bool.not_true ?_
  refine wR0 400 [4] cJ0 ?_
  refine wE ?_
  refine wN ?_
  exact⟨by simp,_,_,_,rfl,rfl,.same rfl,.keep rfl (qaT _) (.dead rfl (fun h=>by cases h) (.dead rfl (fun h=>by cases h) (.keep rfl (.liveS (qay _ _) (qbI _)) (.dead rfl (fun h=>by cases h) .nil)))),rfl⟩
end
end Go.Proofs.YtpplncjaihgimaaGreat
