/- Contracts of functions of the program, for all arguments that they name. -/
import Derived.RangeFuncCalls
import Derived.RangeFuncSeq
import Derived.ScopeJumps
import Derived.Shelf.SlSortCmp.NoneTotal
import Derived.Test.YtkbjpglehdhjfaaGreatDoorProg
import Derived.Test.YtkbjpglehdhjfaaGreatDoorK02
namespace Go.Proofs.YtkbjpglehdhjfaaGreatDoor
set_option linter.unusedVariables false
section
open Go.RowKit
theorem cJ0  : True:=trivial
theorem cJ2 {a b:Prop}(x:a)(y:b):a∧b:=⟨x,y⟩
theorem cJ3 {a b c:Prop}(x:a)(y:b)(z:c):a∧b∧c:=⟨x,y,z⟩
theorem cJ4 {a b c d:Prop}(x:a)(y:b)(z:c)(u:d):a∧b∧c∧d:=⟨x,y,z,u⟩
theorem cJ5 {a b c d e:Prop}(x:a)(y:b)(z:c)(u:d)(v:e):a∧b∧c∧d∧e:=⟨x,y,z,u,v⟩
theorem cJ6 {a b c d e f:Prop}(x:a)(y:b)(z:c)(u:d)(v:e)(w:f):a∧b∧c∧d∧e∧f:=⟨x,y,z,u,v,w⟩
theorem cJ7 {a b c d e f g:Prop}(x:a)(y:b)(z:c)(u:d)(v:e)(w:f)(s:g):a∧b∧c∧d∧e∧f∧g:=⟨x,y,z,u,v,w,s⟩
theorem cJ8 {a b c d e f g h:Prop}(x:a)(y:b)(z:c)(u:d)(v:e)(w:f)(s:g)(t:h):a∧b∧c∧d∧e∧f∧g∧h:=⟨x,y,z,u,v,w,s,t⟩
section
variable {P:Program} {base j:Nat} {d:Option Nat} {g:Option (Nat×Bool)} {rs:List IRow} {env env':Nat→T} {H H':Heap} {log log':List LogE} {K:(Nat→T)→Heap→List LogE→Prop} {f:FuncId} {args:List Opd} {xs ys:List T} {v:T} {F:Prop} {io:IOp} {o:IAct}
theorem eV {α:Type}{a b:α}(fx:F)(h:F→a=b:=by intro fx;(simp only[reqC,runC,Opd.ev,qdp,qlG,qg3,qfT,qaP,qbK,qgv,qcG,qdc,qe4,qbP,binT,binI,shI,qdZ,lenT,qhd,qlH,qf6,qjU,qhe,qlI,qhj,qlM,qf7,qjV,qhf,qlJ,qf8,qjW,qi5,qpY,qfe,qhU,qhh,qlL,qi7,qp0,qi6,qpZ,qff,qhV,qhg,qlK,esz,mkEl,splice,qcP,loI,hiI,Nat.reduceEqDiff,reduceIte,if_true,if_false,Option.map_some,Option.map_none,List.map_cons,List.map_nil,List.length_cons,List.length_nil,List.drop_succ_cons,List.drop_zero,List.take_succ_cons,List.take_zero,List.cons_append,List.nil_append,List.append_nil,List.getD_cons_zero,List.getD_cons_succ,Nat.zero_add,Nat.add_zero,Nat.reduceAdd,Nat.reduceMul,Bool.false_eq_true,beq_self_eq_true,qbw,qp8,qp7,qpt,qt9,fx]);(first | done | rfl)):a=b:=h fx
theorem eVi {α:Type}{a b:α}(fx:F)(h:F→a=b:=by intro fx;(simp only[reqC,runC,Opd.ev,qdp,qlG,qg3,qfT,qaP,qbK,qgv,qcG,qdc,qe4,qbP,binT,binI,shI,qdZ,lenT,qhd,qlH,qf6,qjU,qhe,qlI,qhj,qlM,qf7,qjV,qhf,qlJ,qf8,qjW,qi5,qpY,qfe,qhU,qhh,qlL,qi7,qp0,qi6,qpZ,qff,qhV,qhg,qlK,esz,mkEl,splice,qcP,loI,hiI,Nat.reduceEqDiff,reduceIte,if_true,if_false,Option.map_some,Option.map_none,List.map_cons,List.map_nil,List.length_cons,List.length_nil,List.drop_succ_cons,List.drop_zero,List.take_succ_cons,List.take_zero,List.cons_append,List.nil_append,List.append_nil,List.getD_cons_zero,List.getD_cons_succ,Nat.zero_add,Nat.add_zero,Nat.reduceAdd,Nat.reduceMul,Bool.false_eq_true,beq_self_eq_true,qbw,qp8,qp7,qpt,qt9,ite_self,fx]);(first | done | rfl)):a=b:=h fx
theorem pE {x:Nat→T}(h:putE env d v=x:=by first | exact qg3 _ _ _ | exact qfT _ _ | rfl):putE env d v=x:=h
theorem pK {C:List (Nat×Slot)}(h:qcK H C:=by first | (intro p hp;cases hp;done) | (first | exact qe1 rfl (by simp) (by first | (simp[Slot.cl,clL,T.cl,qb2,qak,qah];done) | (simp_all[Slot.cl,clL,T.cl];done) | (simp[Slot.cl,clL,T.cl];exact qdm (fun i hi=>by cases hi) _ (by assumption))) | exact qp2 rfl (fun p hp=>by simp only[List.mem_cons,List.not_mem_nil,or_false] at hp;rcases hp with rfl | rfl | rfl | rfl | rfl | rfl<;>rfl) (by simp[qmt,hpL,Slot.cl,clL,T.cl,qb2,qak,qah]))):qcK H C:=h
theorem fRo {a b:Bool}(h:a=b:=by (first | assumption | (simp[froL,clL,T.cl];done) | (simp[froL,clL,T.cl,qb2,qak];done) | (simp[froL,clL,T.cl,qb2,qak,qah];done) | (simp_all[froL,clL,T.cl];done))):a=b:=h
theorem uK1 {U:List (Nat×Slot)}(h:∀p∈U,p.2≠.free:=by first | (intro p hp;simp only[List.mem_cons,List.not_mem_nil,or_false] at hp;first | (subst hp;simp[qaP,qbK];done) | (rcases hp with rfl | rfl | rfl | rfl<;>simp[qaP,qbK];done) | (rcases hp with rfl | rfl | rfl<;>simp[qaP,qbK];done) | (rcases hp with rfl | rfl<;>simp[qaP,qbK];done) | (cases hp;done)) | (intro p hp;simp only[List.mem_cons,List.not_mem_nil,or_false] at hp;first | (rcases hp with rfl | rfl | rfl | rfl | rfl<;>simp[qaP,qbK];done) | (rcases hp with rfl | rfl | rfl | rfl | rfl | rfl<;>simp[qaP,qbK];done) | (rcases hp with rfl | rfl | rfl | rfl | rfl | rfl | rfl<;>simp[qaP,qbK];done))):∀p∈U,p.2≠.free:=h
theorem uK2 {U C:List (Nat×Slot)}(h:∀p∈U,p.1∉C.map (·.1)→H p.1=.free:=by first | (intro p hp;simp only[List.mem_cons,List.not_mem_nil,or_false] at hp;first | (subst hp;simp[qaP,qbK];done) | (rcases hp with rfl | rfl | rfl | rfl<;>simp[qaP,qbK];done) | (rcases hp with rfl | rfl | rfl<;>simp[qaP,qbK];done) | (rcases hp with rfl | rfl<;>simp[qaP,qbK];done) | (cases hp;done)) | (intro p hp;simp only[List.mem_cons,List.not_mem_nil,or_false] at hp;first | (rcases hp with rfl | rfl | rfl | rfl | rfl<;>simp[qaP,qbK];done) | (rcases hp with rfl | rfl | rfl | rfl | rfl | rfl<;>simp[qaP,qbK];done) | (rcases hp with rfl | rfl | rfl | rfl | rfl | rfl | rfl<;>simp[qaP,qbK];done))):∀p∈U,p.1∉C.map (·.1)→H p.1=.free:=h
theorem cHk {dd:Bool}{bm:List Nat}(h:dd=true→log.Pairwise (chkP bm):=by exact (by first | (intro h;cases h;done) | (intro _;simp[List.pairwise_cons,chkP];done) | (intro _;simp[List.pairwise_cons,chkP,Nat.testBit];done) | (intro _;decide) | (intro _;simp[qbw,List.pairwise_cons,chkP];done) | (intro _;simp[qbw,List.pairwise_cons,chkP,Nat.testBit];done))):dd=true→log.Pairwise (chkP bm):=h
theorem fF {x y:T}(h:Frz H x y:=by (repeat (first | exact FrzL.nil | refine FrzL.cons ?_ ?_ | exact Frz.nil | exact Frz.same rfl | exact Frz.same (by simp[T.cl,clL];done) | refine Frz.aggL ?_ (by rfl) | refine Frz.tupL ?_ | refine Frz.slL (by rfl) (by rfl) (by rfl) (by rfl) (by rfl) (by rfl) ?_))):Frz H x y:=h
theorem eG {G G1:Prop}(k:G1)(h:G1→G:=by intro hk;(try (simp only[reqC,runC,Opd.ev,qdp,qlG,qg3,qfT,qaP,qbK,qgv,qcG,qdc,qe4,qbP,binT,binI,shI,qdZ,lenT,qhd,qlH,qf6,qjU,qhe,qlI,qhj,qlM,qf7,qjV,qhf,qlJ,qf8,qjW,qi5,qpY,qfe,qhU,qhh,qlL,qi7,qp0,qi6,qpZ,qff,qhV,qhg,qlK,esz,mkEl,splice,qcP,loI,hiI,Nat.reduceEqDiff,reduceIte,if_true,if_false,Option.map_some,Option.map_none,List.map_cons,List.map_nil,List.length_cons,List.length_nil,List.drop_succ_cons,List.drop_zero,List.take_succ_cons,List.take_zero,List.cons_append,List.nil_append,List.append_nil,List.getD_cons_zero,List.getD_cons_succ,Nat.zero_add,Nat.add_zero,Nat.reduceAdd,Nat.reduceMul,Bool.false_eq_true,beq_self_eq_true,qbw,qp8,qp7,qpt,qt9]));exact hk):G:=h k
theorem fZt {xs ys:List T}(h:FrzL H xs ys:=by (repeat (first | exact FrzL.nil | refine FrzL.cons ?_ ?_ | exact Frz.nil | exact Frz.same rfl | exact Frz.same (by simp[T.cl,clL];done) | refine Frz.aggL ?_ (by rfl) | refine Frz.tupL ?_ | refine Frz.slL (by rfl) (by rfl) (by rfl) (by rfl) (by rfl) (by rfl) ?_))):FrzL H xs ys:=h
theorem wN {G G1:Prop}(k:G1)(st:G1→G:=by intro hk;(try simp only[thn,inB,if_true]);(repeat (first | refine qbS ?_ | refine qcB ?_ | (refine qcL ?_;(try simp only[thn,inB,if_true]))));exact hk):G:=st k
theorem rV (fx:F){c:Prop}(h:RunR P base (j+1) rs env' H log K)(hw:F→qbP env g=some true:=by intro fx;(first | rfl | exact eV fx))(hq:F→reqC env io=some (c,.val v):=by intro fx;exact eV fx)(hc:F→c:=by intro fx;(first | trivial | omega | (simp;done) | (simp;omega) | (refine⟨?_,?_⟩<;>first | trivial | omega | (simp;done)) | (refine⟨?_,?_,?_⟩<;>first | trivial | omega | (simp;done))))(he:putE env d v=env':=by exact pE):RunR P base j (⟨d,.op io,g⟩::rs) env H log K:=by
 subst he
 exact qsD (hw fx) (hq fx) (hc fx) h
theorem rM (fx:F){c c':Prop}{q:Req}{L:List Nat}{U:List (Nat×Slot)}(h:RunR P base (j+1) rs env' H' log' K)(hw:F→qbP env g=some true:=by intro fx;(first | rfl | exact eV fx))(hq:F→reqC env io=some (c,q):=by intro fx;exact eV fx)(hc:F→c:=by intro fx;(first | trivial | omega | (simp;done) | (simp;omega) | (refine⟨?_,?_⟩<;>first | trivial | omega | (simp;done)) | (refine⟨?_,?_,?_⟩<;>first | trivial | omega | (simp;done))))(hv:F→runC (base+j) H q=some (c',v,L,U):=by intro fx;exact eV fx)(hc':F→c':=by intro fx;(first | trivial | omega | (simp;done) | (simp;omega) | (refine⟨?_,?_⟩<;>first | trivial | omega | (simp;done)) | (refine⟨?_,?_,?_⟩<;>first | trivial | omega | (simp;done))))(he:putE env d v=env':=by exact pE)(hH:F→H.upd U=H':=by intro fx;exact eV fx)(hl:F→qbw j L U log=log':=by intro fx;exact eV fx):RunR P base j (⟨d,.op io,g⟩::rs) env H log K:=by
 subst he
 refine qsC (hw fx) (hq fx) (hc fx) (hv fx) (hc' fx) ?_
 rw[hH fx,hl fx]
 exact h
theorem rI (fx:F){t:Nat}{want b:Bool}{c:Prop}(h:RunR P base (j+1) rs env' H log K)(hb:F→env t=.bool b:=by intro fx;exact eV fx)(hq:F→(b==want)=true→reqC env io=some (c,.val v):=by intro fx hw;exact eVi (cJ2 fx hw))(hc:F→(b==want)=true→c:=by intro fx _;(first | trivial | omega | (simp;done) | (simp;omega) | (refine⟨?_,?_⟩<;>first | trivial | omega | (simp;done)) | (refine⟨?_,?_,?_⟩<;>first | trivial | omega | (simp;done))))(he:putE env d (if (b==want)=true then v else .tup [])=env':=by exact pE):RunR P base j (⟨d,.op io,some (t,want)⟩::rs) env H log K:=by
 subst he
 exact quz (hb fx) (hq fx) (hc fx) h
theorem rIm (fx:F){t:Nat}{want b:Bool}{c c':Prop}{q:Req}{L:List Nat}(h:RunR P base (j+1) rs env' H log' K)(hb:F→env t=.bool b:=by intro fx;exact eV fx)(hq:F→(b==want)=true→reqC env io=some (c,q):=by intro fx hw;exact eVi (cJ2 fx hw))(hc:F→(b==want)=true→c:=by intro fx _;(first | trivial | omega | (simp;done) | (simp;omega) | (refine⟨?_,?_⟩<;>first | trivial | omega | (simp;done)) | (refine⟨?_,?_,?_⟩<;>first | trivial | omega | (simp;done))))(hv:F→(b==want)=true→runC (base+j) H q=some (c',v,L,[]):=by intro fx hw;exact eVi (cJ2 fx hw))(hc':F→(b==want)=true→c':=by intro fx _;(first | trivial | omega | (simp;done) | (simp;omega) | (refine⟨?_,?_⟩<;>first | trivial | omega | (simp;done)) | (refine⟨?_,?_,?_⟩<;>first | trivial | omega | (simp;done))))(he:putE env d (if (b==want)=true then v else .tup [])=env':=by exact pE)(hl:F→qbw j L [] log=log':=by intro fx;exact eV fx):RunR P base j (⟨d,.op io,some (t,want)⟩::rs) env H log K:=by
 subst he
 refine qsB (hb fx) (hq fx) (hc fx) (hv fx) (hc' fx) ?_
 rw[hl fx]
 exact h
theorem rNt (fx:F)(h:RunR P base (j+1) rs env' H log K)(hw:F→qbP env g=some false:=by intro fx;exact eV fx)(he:putE env d (.tup [])=env':=by exact pE):RunR P base j (⟨d,o,g⟩::rs) env H log K:=by
 subst he
 exact qnj (hw fx) h
theorem rN {rs':List IRow}{j':Nat}(fx:F)(k:RunR P base j' rs' env' H' log' K)(h:F→RunR P base j' rs' env' H' log' K→RunR P base j rs env H log K:=by intro fx hk;(repeat (first | refine rV fx ?_ | refine rM fx ?_ | refine rI fx ?_ | refine rIm fx ?_ | refine rNt fx ?_));exact hk):RunR P base j rs env H log K:=h fx k
def FinK (dd:Bool)(bm:List Nat)(ss:List Nat)(R:(Nat→T)→Heap→Prop):(Nat→T)→Heap→List LogE→Prop:=fun env H log=>(dd=true→log.Pairwise (chkP bm))∧R (ofL (ss.map fun s=>(s,env s))) H
theorem rFi {dd:Bool}{bm:List Nat}(h:dd=true→log.Pairwise (chkP bm):=by exact cHk):RunR P base j [] env H log (Fin dd bm env H):=qni h
theorem rF {dd:Bool}{bm ss:List Nat}{l:List (Nat×T)}{R:(Nat→T)→Heap→Prop}(fx:F)(k:R (ofL l) H)(hc:dd=true→log.Pairwise (chkP bm):=by exact cHk)(hl:F→ss.map (fun s=>(s,env s))=l:=by intro fx;exact eV fx):RunR P base j [] env H log (FinK dd bm ss R):=
 ⟨hc,by rw[hl fx];exact k⟩
theorem rE {dd:Bool}{bm ss:List Nat}{l:List (Nat×T)}{R:(Nat→T)→Heap→Prop}(fx:F)(k:R (ofL l) H')(h:F→R (ofL l) H'→RunR P base j rs env H log (FinK dd bm ss R):=by intro fx hk;refine rN fx ?_;exact rF fx hk):RunR P base j rs env H log (FinK dd bm ss R):=h fx k
theorem rC (fx:F)(k:∃v,TC P f xs (fun _=>.free) v (fun _=>.free)∧RunR P base (j+1) rs (putE env d v) H log K)(hw:F→qbP env g=some true:=by intro fx;(first | rfl | exact eV fx))(ha:F→args.map (·.ev env)=xs:=by intro fx;exact eV fx)(hf:froL xs=true:=by exact fRo):RunR P base j (⟨d,.call (.call f args),g⟩::rs) env H log K:=
 let ⟨_,hc,h⟩:=k;qdL (hw fx) (ha fx) hc hf h
theorem rCv {x:Opd}{caps:List T}(fx:F)(k:∃v,TC P f xs (fun _=>.free) v (fun _=>.free)∧RunR P base (j+1) rs (putE env d v) H log K)(hw:F→qbP env g=some true:=by intro fx;(first | rfl | exact eV fx))(hx:F→x.ev env=.fn f caps:=by intro fx;exact eV fx)(ha:F→args.map (·.ev env)++caps=xs:=by intro fx;exact eV fx)(hf:froL xs=true:=by exact fRo):RunR P base j (⟨d,.call (.callv x args),g⟩::rs) env H log K:=
 let ⟨_,hc,h⟩:=k;qe3 (hw fx) (hx fx) (ha fx) hc hf h
theorem rCi {t:Nat}{want b:Bool}(fx:F)(k:∃v,((b==want)=true→TC P f xs (fun _=>.free) v (fun _=>.free))∧RunR P base (j+1) rs (putE env d (if (b==want)=true then v else .tup [])) H log K)(hb:F→env t=.bool b:=by intro fx;(first | rfl | exact eV fx))(ha:F→(b==want)=true→args.map (·.ev env)=xs:=by intro fx hw;exact eV (cJ2 fx hw))(hf:froL xs=true:=by exact fRo):RunR P base j (⟨d,.call (.call f args),some (t,want)⟩::rs) env H log K:=
 let ⟨_,hc,h⟩:=k;qk4 (hb fx) (ha fx) hc hf h
theorem rL (C:List (Nat×Slot))(fx:F)(k:∃ys v,TP P f ys v∧FrzL (hp C) xs ys∧v.scal=true∧RunR P base (j+1) rs (putE env d v) H (qbw j (C.map (·.1)) [] log) K)(hw:F→qbP env g=some true:=by intro fx;(first | rfl | exact eV fx))(ha:F→args.map (·.ev env)=xs:=by intro fx;exact eV fx)(hC:qcK H C:=by exact pK)(hcl:clL (fun i=>decide (i∈C.map (·.1))) xs=true:=by exact fRo):RunR P base j (⟨d,.call (.call f args),g⟩::rs) env H log K:=
 let ⟨_,_,hc,hz,hs,h⟩:=k;qeF C (hw fx) (ha fx) hC hz hc hs hcl h
theorem rU (C U:List (Nat×Slot))(fx:F)(k:∃v,TC P f xs (hp C) v ((hp C).upd U)∧RunR P base (j+1) rs (putE env d v) H' log' K)(hw:F→qbP env g=some true:=by intro fx;(first | rfl | exact eV fx))(ha:F→args.map (·.ev env)=xs:=by intro fx;exact eV fx)(hC:qcK H C:=by exact pK)(hU:∀p∈U,p.2≠.free:=by exact uK1)(hn:∀p∈U,p.1∉C.map (·.1)→H p.1=.free:=by exact uK2)(hcl:clL (fun i=>decide (i∈C.map (·.1))) xs=true:=by exact fRo)(hH:F→H.upd U=H':=by intro fx;exact eV fx)(hl:F→qbw j (C.map (·.1)) U log=log':=by intro fx;exact eV fx):RunR P base j (⟨d,.call (.call f args),g⟩::rs) env H log K:=by
 obtain⟨v,hc,h⟩:=k
 refine qqD C U (hw fx) (ha fx) hC hc hU hn hcl ?_
 rw[hH fx,hl fx]
 exact h
theorem rUv {x:Opd}{caps:List T}(C U:List (Nat×Slot))(fx:F)(k:∃v,TC P f xs (hp C) v ((hp C).upd U)∧RunR P base (j+1) rs (putE env d v) H' log' K)(hw:F→qbP env g=some true:=by intro fx;(first | rfl | exact eV fx))(hx:F→x.ev env=.fn f caps:=by intro fx;exact eV fx)(ha:F→args.map (·.ev env)++caps=xs:=by intro fx;exact eV fx)(hC:qcK H C:=by exact pK)(hU:∀p∈U,p.2≠.free:=by exact uK1)(hn:∀p∈U,p.1∉C.map (·.1)→H p.1=.free:=by exact uK2)(hcl:clL (fun i=>decide (i∈C.map (·.1))) xs=true:=by exact fRo)(hH:F→H.upd U=H':=by intro fx;exact eV fx)(hl:F→qbw j (C.map (·.1)) U log=log':=by intro fx;exact eV fx):RunR P base j (⟨d,.call (.callv x args),g⟩::rs) env H log K:=by
 obtain⟨v,hc,h⟩:=k
 refine qof C U (hw fx) (hx fx) (ha fx) hC hc hU hn hcl ?_
 rw[hH fx,hl fx]
 exact h
end
section
variable {P:Program} {N:Nat} {rows:List IRow} {bm:List Nat} {dd:Bool} {env:Nat→T} {H h':Heap} {Q:IExit→(Nat→T)→Heap→Prop} {l:List (Nat×T)} {F G:Prop}
theorem W_rK (base:Nat)(ss:List Nat)(hm:P.follows .mixedOrders=true)(h:RunR P base 0 rows env H [] (FinK dd bm ss (Q .normal))):W P N (.reg rows bm dd) env H Q:=by
 obtain⟨e,env1,H1,h1,h2⟩:=W_reg (N:=N) (Q:=fun e env' H'=>e=.normal∧Q .normal (ofL (ss.map fun s=>(s,env' s))) H') base hm (qh2 _ _ _ _ _ _ _ (fun a b c hh=>⟨hh.1,rfl,hh.2⟩) h)
 obtain⟨rfl,k⟩:=h2
 refine⟨.normal,_,_,fun code hc ro w A μ a he hS hN Q' hQ=>h1 code hc ro w A μ a he hS hN Q' fun a' w' A' μ' g1 g2 g3 g4 g5=>hQ a' w' A' μ' (fun t=>?_) g2 g3 g4 g5,k⟩
 rcases qlz env1 t ss with e | e
 ·rw[e];exact g1 t
 ·rw[e];exact .undef _
theorem wRn {j':Nat}{rs':List IRow}{env':Nat→T}{log':List LogE}(base:Nat)(ss:List Nat)(fx:F)(k:RunR P base j' rs' env' h' log' (FinK dd bm ss (Q .normal)))(st:W P N (.reg rows bm dd) env H Q→G:=by intro hk;(try simp only[thn,inB,if_true]);(repeat (first | refine qbS ?_ | refine qcB ?_ | (refine qcL ?_;(try simp only[thn,inB,if_true]))));exact hk)(hm:P.follows .mixedOrders=true:=by rfl)
 (h:F→RunR P base j' rs' env' h' log' (FinK dd bm ss (Q .normal))→RunR P base 0 rows env H [] (FinK dd bm ss (Q .normal)):=by intro fx hk;refine rN fx ?_;exact hk):G:=st (W_rK base ss hm (h fx k))
theorem wR0 (base:Nat)(ss:List Nat)(fx:F)(k:Q .normal (ofL l) h')(st:W P N (.reg rows bm dd) env H Q→G:=by intro hk;(try simp only[thn,inB,if_true]);(repeat (first | refine qbS ?_ | refine qcB ?_ | (refine qcL ?_;(try simp only[thn,inB,if_true]))));exact hk)(hm:P.follows .mixedOrders=true:=by rfl)
 (h:F→Q .normal (ofL l) h'→RunR P base 0 rows env H [] (FinK dd bm ss (Q .normal)):=by intro fx hk;refine rN fx ?_;exact rF fx hk):G:=st (W_rK base ss hm (h fx k))
theorem wT {x:Opd}{t:Bool}{a b:ICode}(fx:F)(k:W P N a env H Q)(st:W P N (.cond x a b) env H Q→G:=by intro hk;(try simp only[thn,inB,if_true]);(repeat (first | refine qbS ?_ | refine qcB ?_ | (refine qcL ?_;(try simp only[thn,inB,if_true]))));exact hk)(hx:F→x.ev env=.bool t:=by intro fx;exact eV fx)(ht:F→t=true:=by intro fx;(first | rfl | (simp only[fx,if_true,Bool.false_eq_true,if_false];done) | (simp[fx];done) | (simp_all;done))):G:=
 st (qan (hx fx) (by rw[ht fx];exact k))
theorem wF {x:Opd}{t:Bool}{a b:ICode}(fx:F)(k:W P N b env H Q)(st:W P N (.cond x a b) env H Q→G:=by intro hk;(try simp only[thn,inB,if_true]);(repeat (first | refine qbS ?_ | refine qcB ?_ | (refine qcL ?_;(try simp only[thn,inB,if_true]))));exact hk)(hx:F→x.ev env=.bool t:=by intro fx;exact eV fx)(ht:F→t=false:=by intro fx;(first | rfl | (simp only[fx,if_true,Bool.false_eq_true,if_false];done) | (simp[fx];done) | (simp_all;done))):G:=
 st (qan (hx fx) (by rw[ht fx];exact k))
theorem wS {x:Opd}{t:Bool}{a b:ICode}(fx:F)(h1:t=true→W P N a env H Q)(h2:t=false→W P N b env H Q)(st:W P N (.cond x a b) env H Q→G:=by intro hk;(try simp only[thn,inB,if_true]);(repeat (first | refine qbS ?_ | refine qcB ?_ | (refine qcL ?_;(try simp only[thn,inB,if_true]))));exact hk)(hx:F→x.ev env=.bool t:=by intro fx;exact eV fx):G:=st (qtF (hx fx) h1 h2)
theorem wX {id:Nat}(k:Q (.exit id) env H)(st:W P N (.exit id) env H Q→G:=by intro hk;(try simp only[thn,inB,if_true]);(repeat (first | refine qbS ?_ | refine qcB ?_ | (refine qcL ?_;(try simp only[thn,inB,if_true]))));exact hk):G:=st (qcz k)
theorem wE (k:Q .ret env H)(st:W P N .ret env H Q→G:=by intro hk;(try simp only[thn,inB,if_true]);(repeat (first | refine qbS ?_ | refine qcB ?_ | (refine qcL ?_;(try simp only[thn,inB,if_true]))));exact hk):G:=st (qaW k)
theorem wP {x r:T}(k:Frz H x r)(st:W P N .ret env H Q→G:=by intro hk;(try simp only[thn,inB,if_true]);(repeat (first | refine qbS ?_ | refine qcB ?_ | (refine qcL ?_;(try simp only[thn,inB,if_true]))));exact hk)(hq:Frz H x r→Q .ret env H:=by intro hk;(try simp only[thn,inB]);exact⟨by simp,_,rfl,hk⟩):G:=st (qaW (hq k))
theorem wL {c:ICode}(k:WL P N c env H Q)(st:W P N (.loop c) env H Q→G:=by intro hk;(try simp only[thn,inB,if_true]);(repeat (first | refine qbS ?_ | refine qcB ?_ | (refine qcL ?_;(try simp only[thn,inB,if_true]))));exact hk):G:=st (qdx k)
end
section
variable {w w':World} {A A':Sta} {μ μ':Nat→Nat} {H H':Heap} {v:Value} {x:T} {r:Nat} {o o':Obj}
theorem qmb (hr:w.heap[r]? = some o)(ho:o.isCells=false){p:Addr}{u:Value}(h:w.cell? p=some u):(w.putObj r o').cell? p=some u:=by
 have hne:p.block≠r:=fun e=>by
  obtain⟨oc,h1,h2⟩:=cells_of_cell h
  rw[e,hr] at h1
  injection h1 with h1
  rw[←h1,ho] at h2;cases h2
 exact (World.cell?_of_block (World.putObj_heap_other hne)).trans h
theorem Rep.put (hr:w.heap[r]? = some o)(ho:o.isCells=false)(h:Rep w A μ H v x):Rep (w.putObj r o') A μ H v x:=by
 induction h with
 | undef v=>exact .undef v
 | bool b=>exact .bool b
 | int k n=>exact .int k n
 | str s=>exact .str s
 | agg us cs hn h1 _ ih=>exact .agg us cs hn h1 ih
 | tup us vs hn _ ih=>exact .tup us vs hn ih
 | list a c k xs U hk hc h1 hA hU _ ih=>exact .list a c k xs U hk hc h1 hA (fun p hp=>qmb hr ho (hU p hp)) ih
 | lnil=>exact .lnil
 | nil=>exact .nil
 | emp p=>exact .emp p
 | ptr a cs U h1 hA hU _ ih=>exact .ptr a cs U h1 hA (fun p hp=>qmb hr ho (hU p hp)) ih
 | nilp=>exact .nilp
 | fn f us caps hn _ ih=>exact .fn f us caps hn ih
 | nilfn=>exact .nilfn
 | ref id tot off b hb ht=>exact .ref id tot off b hb ht
 | refS p id tot off hs=>exact .refS _ _ _ _ hs
 | sl id tot e off n c b cur hb ht hcur hn hm hc hf=>
  refine .sl id tot e off n c b cur hb ht ?_ hn hm hc hf
  rw[World.putObj_heap_other];exact hcur
  intro e;rw[e,hr] at hcur;injection hcur with hcur;rw[hcur] at ho;cases ho
 | slS p c id tot e off n hn hs=>exact .slS _ _ _ _ _ _ _ hn hs
 | mp id es he=>exact .mp id es he
 | mpS v id hd=>exact .mpS _ _ hd
 | nilmp=>exact .nilmp
theorem Sim.put (hr:w.heap[r]? = some o)(ho:o.isCells=false)(hu:∀i,(H i).owns=true→μ i≠r)(h:Sim w A μ H):Sim (w.putObj r o') A μ H where
 inj:=h.inj
 blk i b hb:=by
  obtain⟨cur,h1,h2,h3,h4⟩:=h.blk i b hb
  exact⟨cur,(World.putObj_heap_other (hu i (by rw[hb];rfl))).trans h1,h2,h3,fun k hk=>(h4 k hk).put hr ho⟩
 map i es he:=by
  obtain⟨ents,cl,h1,h2,h3⟩:=h.map i es he
  exact⟨ents,cl,(World.putObj_heap_other (hu i (by rw[he];rfl))).trans h1,h2,fun k hk=>⟨(h3 k hk).1.put hr ho,(h3 k hk).2.put hr ho⟩⟩
 dis:=h.dis
 sta b o ha:=by rw[World.putObj_size];exact h.sta b o ha
 glb:=fun e he=>(h.glb e he).put hr ho
theorem Trans.put (hn:w.heap.size≤r)(h:Trans w A μ H w' A' μ' H'):Trans w A μ H (w'.putObj r o') A' μ' H':=by
 have hne:∀b,b<w.heap.size→b≠r:=fun b hb=>by omega
 refine⟨h.os,h.tape,h.output,by rw[World.putObj_size];exact h.size,fun b hb hu=>?_,fun b o ha hb=>?_,h.an,fun i b hb=>?_,h.map,h.dead⟩
 ·obtain⟨h1,h2⟩:=h.un b hb hu
  exact⟨(World.putObj_heap_other (hne b hb)).trans h1,h2⟩
 ·obtain⟨h1,h2⟩:=h.st b o ha hb
  exact⟨h1,(World.cell?_of_block (w:=w') (World.putObj_heap_other (hne b hb))).trans h2⟩
 ·rcases h.own i b hb with h1 | ⟨b',h1,h2⟩
  ·exact .inl h1
  ·refine .inr ⟨b',h1,?_⟩
   rcases h2 with h2 | ⟨h2,h3,h4,h5⟩
   ·exact .inl h2
   ·refine .inr ⟨h2,h3,h4,fun cur hc=>?_⟩
    obtain⟨cur',k1,k2⟩:=h5 cur hc
    exact⟨cur',(World.putObj_heap_other (hne _ (qbu hc))).trans k1,k2⟩
end
inductive XE where
 | normal
 | exit (id:Nat)
 | ret
 | goto (l:Nat)
def XE.to:XE→Exit
 | .normal=>.normal
 | .exit id=>.exit id
 | .ret=>.ret
 | .goto l=>.goto l
def IExit.x:IExit→XE
 | .normal=>.normal
 | .exit id=>.exit id
 | .ret=>.ret
def XE.code:XE→Code
 | .normal=>.skip
 | .exit id=>.exit id
 | .ret=>.ret
 | .goto l=>.goto l

end
section
set_option maxHeartbeats 2000000
open Go.RowKit Go.Sort Go.Shelf
def rowW {X:Type}(enc:X→List T)(xs:List X):List T:=xs.flatMap enc
theorem qj6 {X:Type}{enc:X→List T}{k:Nat}(hk:∀x,(enc x).length=k):∀xs:List X,(rowW enc xs).length=xs.length*k
 | []=>by simp[rowW]
 | x::xs=>by
  have:=qj6 hk xs
  simp only[rowW,List.flatMap_cons,List.length_append,List.length_cons,hk,Nat.add_mul,Nat.one_mul] at this ⊢
  omega
theorem qj5 {X:Type}{enc:X→List T}{k:Nat}(hk:∀x,(enc x).length=k):∀(xs:List X) (i j:Nat) (x:X),xs[i]? = some x→j<k→(rowW enc xs).getD (i*k+j) .undef=(enc x).getD j .undef
 | [],i,j,x,h,_=>by simp at h
 | y::xs,0,j,x,h,hj=>by
  simp at h
  subst h
  simp only[rowW,List.flatMap_cons,Nat.zero_mul,Nat.zero_add,List.getD_eq_getElem?_getD]
  rw[List.getElem?_append_left (by rw[hk];exact hj)]
 | y::xs,i+1,j,x,h,hj=>by
  have:=qj5 hk xs i j x (by simpa using h) hj
  simp only[rowW,List.flatMap_cons,List.getD_eq_getElem?_getD] at this ⊢
  rw[List.getElem?_append_right (by rw[hk,Nat.add_mul];omega),hk]
  have e:(i+1)*k+j - k=i*k+j:=by rw[Nat.add_mul];omega
  rw[e]
  exact this
theorem ql5 {W w':World}(h1:w'.os=W.os)(h2:w'.tape=W.tape)(h3:W.drawn≤w'.drawn)(h4:w'.output=W.output)(h5:W.heap.size≤w'.heap.size)(h6:∀b,b<W.heap.size→w'.heap[b]? = W.heap[b]?) :
 ∃q os,w'=Sort.grow (W.drewN q) os:=by
 refine⟨w'.drawn - W.drawn,w'.heap.extract W.heap.size w'.heap.size,?_⟩
 have hh:w'.heap=W.heap++w'.heap.extract W.heap.size w'.heap.size:=by
  refine Array.ext (by simp;omega) fun i hi hi2=>?_
  by_cases hb:i<W.heap.size
  ·have:=h6 i hb
   rw[Array.getElem?_eq_getElem hi,Array.getElem?_eq_getElem hb] at this
   rw[Array.getElem_append_left hb]
   exact Option.some.inj this
  ·rw[Array.getElem_append_right (by omega)]
   simp only[Array.getElem_extract]
   congr 1
   omega
 obtain⟨h,t,d,o,u⟩:=w'
 obtain⟨h',t',d',o',u'⟩:=W
 simp only at h1 h2 h3 h4 hh
 subst h1 h2 h4
 simp only[Sort.grow,World.drewN]
 congr 1
 omega
theorem quP {α β:Type}{cf:α→α→Int}(h:SWO (ltOf cf))(f:β→α):SWO (ltOf fun i j=>cf (f i) (f j)):=
 ⟨fun x=>h.irrefl (f x),fun x y z=>h.trans (f x) (f y) (f z),fun x y z=>h.ntrans (f x) (f y) (f z)⟩
theorem qpb {β:Type}(a:Array β)(n:Nat)(h:a.size=n):a.extract 0 n=a:=by subst h;simp
theorem get!_at {β:Type}[Inhabited β](a:Array β)(i:Nat)(h:i<a.size):a[i]! = a[i]:=getElem!_pos a i h
theorem qcA (id:Nat)(s:Slot):hpL [(id,s)] id=s:=by simp[hpL]
theorem one_hp' {id i:Nat}{s:Slot}(h:i≠id):hpL [(id,s)] i=.free:=by simp[hpL,h]
theorem qle {w W:World}{A:Sta}{μ:Nat→Nat}{id ty:Nat}{cs:List T}(hS:Sim w A μ (hpL [(id,.live ⟨ty,cs⟩)]))(h1:W.os=w.os)(h2:W.tape=w.tape)(h3:w.drawn≤W.drawn)(h4:W.output=w.output)(h5:w.heap.size≤W.heap.size)(h6:∀b,b<w.heap.size→b≠μ id→W.heap[b]? = w.heap[b]?) :
 Trans w A μ (hpL [(id,.live ⟨ty,cs⟩)]) W A μ (hpL [(id,.dead)])∧Sim W A μ (fun _=>.free):=by
 refine⟨⟨h1,⟨h2,h3⟩,h4,h5,fun b hb hn=>⟨h6 b hb fun he=>hn id (by rw[qcA];rfl) he.symm,fun i hi=>?_⟩,fun b o ha hb=>⟨ha,?_⟩,fun _ _ h=>.inl h,fun i b hb=>?_,fun i es hb=>?_,fun i hb=>?_⟩,⟨fun i j hi=>?_,fun i b hb=>?_,fun i es hb=>?_,fun i hi=>?_,(fun b o ha=>Nat.lt_of_lt_of_le (hS.sta b o ha) h5),hS.glb.keep fun b o ha hb=>⟨ha,?_⟩⟩⟩
 ·by_cases he:i=id
  ·rw[he,qcA] at hi;cases hi
  ·rw[one_hp' he] at hi;cases hi
 ·have hne:b≠μ id:=fun he=>hS.dis id (by rw[qcA];rfl) o (he▸ha)
  simp[World.cell?,h6 b hb hne]
 ·by_cases he:i=id
  ·exact .inl (by rw[he,qcA])
  ·rw[one_hp' he] at hb;cases hb
 ·by_cases he:i=id
  ·rw[he,qcA] at hb;cases hb
  ·rw[one_hp' he] at hb;cases hb
 ·by_cases he:i=id
  ·rw[he,qcA] at hb;cases hb
  ·rw[one_hp' he] at hb;cases hb
 ·cases hi
 ·cases hb
 ·cases hb
 ·cases hi
 ·have hne:b≠μ id:=fun he=>hS.dis id (by rw[qcA];rfl) o (he▸ha)
  simp[World.cell?,h6 b hb hne]
theorem qf0 {α:Type}[Inhabited α](enc:α→List Value)(k:Nat)(w:World)(b m:Nat)(dk:Array α)(os:Array Obj) :
 (sortWorldK enc k w b 0 m dk os).os=w.os∧(sortWorldK enc k w b 0 m dk os).tape=w.tape∧w.drawn≤(sortWorldK enc k w b 0 m dk os).drawn∧(sortWorldK enc k w b 0 m dk os).output=w.output∧w.heap.size≤(sortWorldK enc k w b 0 m dk os).heap.size∧(∀c,c<w.heap.size→c≠b→(sortWorldK enc k w b 0 m dk os).heap[c]? = w.heap[c]?)∧
 ∀cur ty,w.heap[b]? = some (.cells cur ty)→(sortWorldK enc k w b 0 m dk os).heap[b]? = some (.cells (putCells (fun v:Value=>v) 0 (flatK enc k dk) cur) ty):=by
 refine⟨rfl,rfl,Nat.le_add_right _ _,rfl,by simp[sortWorldK,Sort.grow,putRowK,putRow,mapBlock,Sort.ahead],fun c hc hne=>?_,fun cur ty hcur=>?_⟩
 ·have hk':c<(putRowK enc k (Sort.ahead w m) b 0 dk).heap.size:=by simpa [putRowK,putRow,mapBlock,Sort.ahead] using hc
  show (Sort.grow _ _).heap[c]? = _
  rw[heap_grow_old _ _ hk']
  simp[putRowK,putRow,mapBlock,Sort.ahead,Array.getElem?_modify,Ne.symm hne]
 ·have hb:b<w.heap.size:=qbu hcur
  show (Sort.grow _ _).heap[b]? = _
  rw[heap_grow_old _ _ (by simpa [putRowK,putRow,mapBlock,Sort.ahead] using hb)]
  simp[putRowK,putRow,mapBlock,Sort.ahead,Array.getElem?_modify,hcur,onCells]
  rfl
variable {P:Program} {ρ:Ren}
theorem quN (L:SlLaysF0.n6 P ρ){X:Type}(enc:X→List T)(e:Nat)(hk:∀x,(enc x).length=esz e)(hcl:∀x D,clL D (enc x)=true)(h1:∀x,Ones (enc x))(aE:∀w,(isAgg (ρ.t 24)).run P w=.ok true w)(zE:∀w,(Go.sizeOf (ρ.t 24)).run P w=.ok (esz e) w)
 (cf:X→X→Int) (hO:SWO (ltOf cf)) (g id ty:Nat) (xs ys:List X) (hne:xs≠[]) (hn:xs.length≤1000000000) (hg:∀x∈xs,∀y∈xs,TP P g [.agg (enc x),.agg (enc y)] (.int .i64 (cf x y)))
 (hu:∀zs:List X,zs.Perm xs→zs.Pairwise (fun a b=>¬cf b a<0)→zs=ys) (hen:Enters P (ρ.f 6)) :
 TC P (ρ.f 6) [.sl id (xs.length*esz e) e 0 xs.length,.fn g []] (hpL [(id,.live ⟨ty,rowW enc xs⟩)]) (.tup []) (hpL [(id,.live ⟨ty,rowW enc ys⟩)]):=by
 refine⟨hen,fun w A μ vs hS hR=>?_⟩
 obtain⟨hs,hr⟩:=hR
 have hvs:vs=#[vs.getD 0 Go.undef,vs.getD 1 Go.undef]:=by
  refine Array.ext (by simpa using hs) fun i hi _=>?_
  have h2:vs.size=2:=by simpa using hs
  match i,(by omega:i<2) with
  | 0,_=>simp[hi]
  | 1,_=>simp[hi]
 have r0:=hr 0 (by simp)
 have r1:=hr 1 (by simp)
 rw[hvs]
 generalize vs.getD 0 Go.undef=v0 at r0 ⊢
 generalize vs.getD 1 Go.undef=v1 at r1 ⊢
 simp only[List.getD_eq_getElem?_getD,List.getElem?_cons_zero,List.getElem?_cons_succ,Option.getD_some] at r0 r1
 have hpos:0<esz e:=by unfold esz;split<;>omega
 have hl:=qj6 hk xs
 cases r1 with
 | fn _ us _ hus _=>
 obtain rfl:us=#[]:=Array.eq_empty_of_size_eq_zero (by simpa using hus)
 cases r0 with
 | slS p c _ _ _ _ _ hnc hst=>
  rcases hst with h | ⟨b,h,h'⟩
  ·rw[qcA] at h;cases h
  ·rw[qcA] at h;injection h with h;subst h;simp only at h';omega
 | sl _ _ _ _ _ c b0 cur hb0 ht hcur hnc hm hcc hff=>
 rw[qcA] at hb0
 injection hb0 with hb0
 subst hb0
 obtain⟨cur',hcur',hle,hones,hrep⟩:=hS.blk id _ (qcA _ _)
 rw[hcur] at hcur'
 injection hcur' with hcur'
 injection hcur' with hcur'
 subst hcur'
 simp only at hcur hle hones hrep ht
 have hmul:∀i j,i<xs.length→j<esz e→i*esz e+j<xs.length*esz e:=fun i j hi hj=>by
  have:=Nat.mul_le_mul_right (esz e) (show i+1≤xs.length from hi)
  rw[Nat.add_mul] at this;omega
 have hsz:xs.length*esz e≤cur.size:=by rw[←hl];exact hle
 have hpx:0<xs.length:=List.length_pos_iff.2 hne
 haveI:Inhabited (_root_.Fin xs.length):=⟨⟨0,hpx⟩⟩
 let encK:_root_.Fin xs.length→List Value:=fun i=>(cur.toList.drop (i.val*esz e)).take (esz e)
 have hkK:∀i,(encK i).length=esz e:=fun i=>by
  have:=hmul i.val (esz e - 1) i.isLt (by omega)
  simp only[encK,List.length_take,List.length_drop,Array.length_toList];omega
 have hgK:∀(i:_root_.Fin xs.length) (j:Nat),j<esz e→(encK i).getD j Go.undef=cur.getD (i.val*esz e+j) Go.undef:=fun i j hj=>by
  simp only[encK,List.getD_eq_getElem?_getD]
  rw[List.getElem?_take,if_pos hj,List.getElem?_drop]
  simp
 have hgK!:∀(i:_root_.Fin xs.length) (j:Nat),j<esz e→(encK i)[j]! = cur.getD (i.val*esz e+j) Go.undef:=fun i j hj=>by
  rw[←hgK i j hj,List.getD_eq_getElem?_getD,List.getElem!_eq_getElem?_getD]
  rw[List.getElem?_eq_getElem (by rw[hkK];exact hj)]
  rfl
 have hRK:∀(i:_root_.Fin xs.length) (j:Nat),j<esz e→Rep w A μ (hpL [(id,.live ⟨ty,rowW enc xs⟩)]) (cur.getD (i.val*esz e+j) Go.undef) ((enc xs[i]).getD j .undef):=fun i j hj=>by
  have:=hrep (i.val*esz e+j) (by rw[hl];exact hmul _ _ i.isLt hj)
  rwa [qj5 hk xs i.val j xs[i] (by simp) hj] at this
 let ids:Array (_root_.Fin xs.length):=Array.ofFn (fun i=>i)
 have hids:ids.size=xs.length:=by simp[ids]
 have hget:∀j,(hj:j<xs.length)→ids[j]! = ⟨j,hj⟩:=fun j hj=>by
  rw[get!_at ids j (by omega)];simp[ids]
 have hdm:∀j,j<xs.length*esz e→j / esz e<xs.length∧j % esz e<esz e∧j / esz e*esz e+j % esz e=j:=fun j hj=>
  ⟨(Nat.div_lt_iff_lt_mul hpos).2 hj,Nat.mod_lt _ hpos,Nat.div_add_mod' j (esz e)⟩
 have hH:HoldsK encK (esz e) w (μ id) 0 ids:=fun j hj=>by
  rw[size_flatK,hids] at hj
  obtain⟨d1,d2,d3⟩:=hdm j hj
  have hjc:j<cur.size:=by omega
  rw[get_flatK _ _ _ _ (by rw[hids];exact hj),hget _ d1,hgK! _ _ d2,Nat.zero_add]
  simp only[d3]
  refine⟨by simp[World.cell?,hcur,hjc],?_⟩
  simp[World.frozen?,hcur]
 have hone:∀x,∀v∈encK x,v.oneCell'=true:=fun x v hv=>by
  obtain⟨j,hj,rfl⟩:=List.getElem_of_mem hv
  rw[hkK] at hj
  have r:=hRK x j hj
  rw[←hgK x j hj,List.getD_eq_getElem?_getD,List.getElem?_eq_getElem (by rw[hkK];exact hj)] at r
  refine r.one (h1 xs[x] _ ?_)
  rw[List.getD_eq_getElem?_getD,List.getElem?_eq_getElem (by rw[hk];exact hj)]
  exact List.getElem_mem _
 have hcmp:CmpLays P g #[] encK (esz e) (fun i j:_root_.Fin xs.length=>cf xs[i] xs[j]) (μ id) 0 ids.size w:=fun m os dk hdk x y=>by
  obtain⟨k1,k2,k3,k4,k5,k6,_⟩:=qf0 encK (esz e) w (μ id) m dk os
  generalize sortWorldK encK (esz e) w (μ id) 0 m dk os=W at k1 k2 k3 k4 k5 k6 ⊢
  obtain⟨hT,hS'⟩:=qle hS k1 k2 k3 k4 k5 k6
  have hA:∀x:_root_.Fin xs.length,Rep W A μ (fun _=>.free) (.agg (encK x).toArray) (.agg (enc xs[x])):=fun x=>by
   refine .agg _ _ (by simp[hkK,hk]) (h1 _) fun i hi=>?_
   rw[hk] at hi
   have r:=(hRK x i hi).trans hT
   rw[←hgK x i hi] at r
   have hc:((enc xs[x]).getD i .undef).cl (fun _=>false)=true:=qbk (hcl xs[x] _) i
   have:=r.sub (H':=fun _=>.free) hc fun i hi=>by cases hi
   simpa [List.getD_eq_getElem?_getD] using this
  have hc:=(hg xs[x] (List.getElem_mem _) xs[y] (List.getElem_mem _)).2 W A μ #[.agg (encK x).toArray,.agg (encK y).toArray] hS' ⟨rfl,fun i hi=>by
   match i,hi with
   | 0,_=>exact hA x
   | 1,_=>exact hA y⟩
  refine hc.mono ?_
  rintro en w' ⟨v,A',μ',rfl,hv,hS2,hT2⟩
  cases hv with
  | int _ _=>
  exact⟨rfl,ql5 hT2.os hT2.tape.1 hT2.tape.2 hT2.output hT2.size fun b hb=>(hT2.un b hb fun i hi=>by cases hi).1⟩
 have eg:∀args w,(callFunc g args).run P w=.ok (.enter g args) w:=(hg xs[0] (List.getElem_mem _) xs[0] (List.getElem_mem _)).1
 have hmain:=AnyQ.slices_SortFunc (P:=P) (ρ:=ρ) L (esz e) aE zE encK hkK hone _ (quP hO fun i:_root_.Fin xs.length=>xs[i]) g #[] (μ id) 0 c ids w eg hcmp hH (qbu hcur) (by omega)
 rw[hids] at hmain
 refine hmain.mono ?_
 rintro en w' ⟨rfl,d',n',os,hp,hs',rfl⟩
 have hd':d'.size=xs.length:=by rw[hp.1,hids]
 have hperm:d'.toList.Perm ids.toList:=by
  have:=hp.2.2
  rwa [qpb d' _ hd',qpb ids _ hids] at this
 have hys:d'.toList.map (fun i=>xs[i])=ys:=by
  refine hu _ ?_ ?_
  ·have:=hperm.map (fun i=>xs[i])
   have e1:ids.toList.map (fun i=>xs[i])=xs:=List.ext_getElem (by simp[ids]) fun i h1 h2=>by simp[ids]
   rwa [e1] at this
  ·rw[List.pairwise_iff_getElem]
   intro i j hi hj hij
   simp only[List.length_map,Array.length_toList] at hi hj
   have:=hs' i j (by omega) hij (by omega)
   rw[get!_at d' i (by omega),get!_at d' j (by omega)] at this
   simpa [ltOf] using this
 have hyl:ys.length=xs.length:=by rw[←hys];simp[hd']
 have hly:=qj6 hk ys
 obtain⟨k1,k2,k3,k4,k5,k6,k7⟩:=qf0 encK (esz e) w (μ id) n' d' os
 have k7:=k7 cur ty hcur
 generalize sortWorldK encK (esz e) w (μ id) 0 n' d' os=W at k1 k2 k3 k4 k5 k6 k7 ⊢
 have hT:Trans w A μ (hpL [(id,.live ⟨ty,rowW enc xs⟩)]) W A μ (hpL [(id,.live ⟨ty,rowW enc ys⟩)]):=by
  obtain⟨hT,_⟩:=qle hS k1 k2 k3 k4 k5 k6
  refine⟨k1,⟨k2,k3⟩,k4,k5,fun b hb hn=>⟨(hT.un b hb hn).1,fun i hi=>?_⟩,hT.st,hT.an,fun i b hb=>?_,fun i es hb=>?_,fun i hb=>?_⟩
  ·by_cases he:i=id
   ·rw[he];exact hn id (by rw[qcA];rfl)
   ·rw[one_hp' he] at hi;cases hi
  ·by_cases he:i=id
   ·rw[he,qcA] at hb ⊢
    injection hb with hb
    subst hb
    refine .inr ⟨_,rfl,.inr ⟨by simp only;rw[hly,hl,hyl],rfl,rfl,fun cur1 hc1=>?_⟩⟩
    simp only at hc1
    rw[hcur] at hc1
    injection hc1 with hc1
    injection hc1 with hc1
    subst hc1
    exact⟨_,k7,by simp[putCells]⟩
   ·rw[one_hp' he] at hb;cases hb
  ·by_cases he:i=id
   ·rw[he,qcA] at hb;cases hb
   ·rw[one_hp' he] at hb;cases hb
  ·by_cases he:i=id
   ·rw[he,qcA] at hb;cases hb
   ·rw[one_hp' he] at hb;cases hb
 refine⟨_,A,μ,rfl,.tup #[] [] rfl (fun i hi=>by cases hi),⟨fun i j hi hj hij=>?_,fun i b hb=>?_,fun i es hb=>?_,fun i hi o=>?_,(fun b o ha=>Nat.lt_of_lt_of_le (hS.sta b o ha) k5),hS.glb.trans hT⟩,hT⟩
 ·have a1:i=id:=Classical.byContradiction fun he=>by rw[one_hp' he] at hi;cases hi
  have a2:j=id:=Classical.byContradiction fun he=>by rw[one_hp' he] at hj;cases hj
  rw[a1,a2]
 ·have a1:i=id:=Classical.byContradiction fun he=>by rw[one_hp' he] at hb;cases hb
  subst a1
  rw[qcA] at hb
  injection hb with hb
  subst hb
  refine⟨_,k7,by simp only[putCells,Array.size_mapIdx];rw[hly,hyl];exact hsz,fun c hc=>?_,fun t ht=>?_⟩
  ·obtain⟨y,_,hy⟩:=List.mem_flatMap.1 hc
   exact h1 y c hy
  ·simp only at ht ⊢
   rw[hly,hyl] at ht
   obtain⟨d1,d2,d3⟩:=hdm t ht
   have h6:t / esz e<d'.size:=by omega
   have hyt:ys[t / esz e]? = some xs[d'[t / esz e]]:=(congrArg (fun l:List X=>l[t / esz e]?) hys.symm).trans (by simp[h6])
   have hcell:(putCells (fun v:Value=>v) 0 (flatK encK (esz e) d') cur).getD t Go.undef=cur.getD (d'[t / esz e].val*esz e+t % esz e) Go.undef:=by
    have h5:t<cur.size:=by omega
    have h7:t<d'.size*esz e:=by rw[hd'];exact ht
    rw[←hgK! _ _ d2,←get!_at d' _ h6,←get_flatK encK (esz e) d' t h7]
    simp[putCells,h5,h7]
   have hg2:=qj5 hk ys _ _ _ hyt d2
   rw[d3] at hg2
   rw[hcell,hg2]
   have r:=hRK d'[t / esz e] _ d2
   have hc:((enc xs[d'[t / esz e]]).getD (t % esz e) .undef).cl (fun _=>false)=true:=qbk (hcl _ _) _
   have r2:=(r.sub (H':=fun _=>.free) hc fun i hi=>by cases hi)
   exact (r.trans hT)
 ·by_cases he:i=id
  ·rw[he,qcA] at hb;cases hb
  ·rw[one_hp' he] at hb;cases hb
 ·have a1:i=id:=Classical.byContradiction fun he=>by rw[one_hp' he] at hi;cases hi
  rw[a1]
  exact hS.dis id (by rw[qcA];rfl) o
end
section
set_option maxRecDepth 100000
open Go.RowKit
abbrev Bn (d:Nat)(o:BinOp)(a b:Nat):IRow:=⟨some d,.op (.bin o .none (.tmp a) (.tmp b)),none⟩
abbrev Bc (d:Nat)(o:BinOp)(a:Nat)(n:Int):IRow:=⟨some d,.op (.bin o .none (.tmp a) (.con (.int .i64 n))),none⟩
abbrev Mb (d:Nat)(b:Bool):IRow:=⟨some d,.op (.mv (.con (.bool b))),none⟩
abbrev Bx (d t s:Nat):IRow:=⟨some d,.op (.box t (.tmp s)),none⟩
abbrev Nt (d s:Nat):IRow:=⟨some d,.op (.un .not (.tmp s)),none⟩
abbrev Mc (d:Nat)(n:Int):IRow:=⟨some d,.op (.mv (.con (.int .i64 n))),none⟩
abbrev Cd (s:Nat)(a b:ICode):ICode:=.cond (.tmp s) a b
abbrev Rg (l:List IRow):ICode:=.reg l [] false
abbrev Sr (l:List IRow)(c:ICode):ICode:=.seq (.reg l [] false) c
theorem fnO {P:Program}{f N:Nat}{rs:List (Nat×Option Nat)}{ic:ICode}{fn:Func}(h1:P.funcs[f]? = some fn)(h5:Enters P f)(h2:fn.ntmps=N:=by kernel_rfl)(h3:fn.body.bind (qaQ P N)=some ic:=by kernel_rfl)(h4:qc5 P fn.results.toList=some rs:=by kernel_rfl):FnOk P f N rs ic:=⟨fn,h1,h2,h3,h4,h5⟩
abbrev ci (n:Int):Opd:=.con (.int .i64 n)
abbrev Mv (d s:Nat):IRow:=⟨some d,.op (.mv (.tmp s)),none⟩
abbrev Ld (d e s:Nat):IRow:=⟨some d,.op (.load e (.tmp s)),none⟩
abbrev Fa (d o k s:Nat):IRow:=⟨some d,.op (.faddr o k (.tmp s)),none⟩
abbrev Ex (d s i:Nat):IRow:=⟨some d,.op (.extract (.tmp s) i),none⟩
abbrev Ln (d s:Nat):IRow:=⟨some d,.op (.len (.tmp s)),none⟩
abbrev Sv (e a x:Nat):IRow:=⟨none,.op (.store e (.tmp a) (.tmp x)),none⟩
abbrev Ia (d e a i:Nat):IRow:=⟨some d,.op (.iaddr e none (.tmp a) (.tmp i)),none⟩
abbrev Gm (d s g:Nat)(b:Bool):IRow:=⟨some d,.op (.mv (.tmp s)),some (g,b)⟩
abbrev Op (d:Nat)(o:IOp):IRow:=⟨some d,.op o,none⟩
abbrev St (o:IOp):IRow:=⟨none,.op o,none⟩
abbrev Gd (d:Nat)(o:IOp)(g:Nat)(b:Bool):IRow:=⟨some d,.op o,some (g,b)⟩
abbrev Cl (d f:Nat)(l:List Opd):IRow:=⟨some d,.call (.call f l),none⟩
abbrev Cg (d f:Nat)(l:List Opd)(g:Nat)(b:Bool):IRow:=⟨some d,.call (.call f l),some (g,b)⟩
def i2:ICode:=(Rg [Cl 0 1 []])
def qpm:ICode:=(Sr [Bn 56 .lss 55 54] (.seq (Cd 56 .skip (.exit 0)) (.seq (.block 1 (Rg [Mv 57 12,Mv 58 3,Cl 59 14 [(.tmp 58),(ci 2)],Op 60 (.rows 3 0 1 [(.int .i64 0)] [(0,1,(.tmp 59))]),Op 61 (.app 3 0 (.tmp 57) (.tmp 60)),Mv 12 61])) (Rg [Bc 62 .add 55 1,Mv 55 62]))))
def qlw:ICode:=(Sr [Bn 73 .lss 72 71] (.seq (Cd 73 .skip (.exit 2)) (.seq (.block 3 (Sr [Mv 74 72,Ia 75 2 70 72,Ld 76 2 75,Op 17 (.alloc 35 [(.int .i64 0),.nil]),Mv 16 74,Sv 2 17 76] (Sr [Mv 77 15,Mv 78 77,Gd 79 (.load 4 (.tmp 9)) 78 false,Gd 80 (.load 2 (.tmp 17)) 78 false,Gd 81 (.load 2 (.tmp 13)) 78 false,Cg 82 17 [(.tmp 79),(.tmp 80),(.tmp 81)] 78 false,Op 83 (.pick (.tmp 78) (.con (.bool true)) (.tmp 82)),Mv 15 83] (.seq (.reg [Mv 84 16,Bc 85 .gtr 84 0,Mv 86 85,Gm 87 7 86 true,Gm 88 16 86 true,Gd 89 (.bin .sub .none (.tmp 88) (ci 1)) 86 true,Gd 90 (.iaddr 2 none (.tmp 87) (.tmp 89)) 86 true,Gd 91 (.load 2 (.tmp 90)) 86 true,Gd 92 (.load 2 (.tmp 17)) 86 true,Cg 93 18 [(.tmp 91),(.tmp 92)] 86 true,Gd 94 (.bin .geq .none (.tmp 93) (ci 0)) 86 true,Op 95 (.pick (.tmp 86) (.tmp 94) (.con (.bool false)))] [0,1,3,7,7,23,63,127,7,511,1023,2047] true) (Cd 95 (Sr [Mb 2 false] .ret) .skip))))) (Rg [Bc 96 .add 72 1,Mv 72 96]))))
def i3:ICode:=(Sr [Mb 2 false] (.seq (Sr [Cl 18 8 [],Nt 19 18] (Cd 19 (Sr [Mb 2 false] .ret) .skip)) (Sr [Mv 20 0,Cl 21 9 [(.tmp 20)],Mv 3 21] (Sr [Mv 22 3,Cl 23 10 [(.tmp 22)],Op 4 (.alloc 28 [(.int .i64 0),.nil]),Sv 2 4 23] (Sr [Ld 25 2 4,Cl 26 11 [(.tmp 25)],Mv 24 26,Ex 27 24 0,Ex 28 24 1,Op 5 (.alloc 37 [(.int .i64 0),.nil,.nil,.nil,.nil,(.int .i64 0),(.int .i64 0),.nil,(.int .i64 0),.nil]),Sv 10 5 27,Mv 6 28] (Sr [Ld 30 2 4,Cl 31 12 [(.tmp 30)],Mv 29 31,Ex 32 29 0,Ex 33 29 1,Mv 7 32,Mv 8 33] (.seq (Sr [Mv 34 6,Bc 35 .neq 34 0] (Cd 35 (Sr [Mv 36 6,Bc 37 .eql 36 1,Mv 38 37,Gm 39 8 38 true,Gm 40 6 38 true,Gd 41 (.bin .eql .none (.tmp 39) (.tmp 40)) 38 true,Op 42 (.pick (.tmp 38) (.tmp 41) (.con (.bool false))),Mv 2 42] .ret) .skip)) (Sr [Ld 44 10 5,Cl 45 13 [(.tmp 44)],Mv 43 45,Ex 46 43 0,Ex 47 43 1,Op 9 (.alloc 45 [(.int .i64 0),(.int .i64 0),.nil,.nil]),Sv 4 9 46,Mv 10 47] (Sr [Mv 48 3,Fa 49 0 1 4,Ld 50 0 49,Cl 51 14 [(.tmp 48),(.tmp 50)],Mv 11 51] (Sr [Op 12 (.mv (.con .nil))] (.seq (Sr [Ld 52 2 4,Cl 53 15 [(.tmp 52)],Ln 54 53,Mc 55 0] (.block 0 (.loop qpm))) (Sr [Ld 64 2 4,Mv 65 11,Mv 66 12,Cl 67 16 [(.tmp 64),(.tmp 65),(.tmp 66)],Mv 63 67,Ex 68 63 0,Ex 69 63 1,Op 13 (.alloc 35 [(.int .i64 0),.nil]),Sv 2 13 68,Mv 14 69] (Sr [Mb 15 false] (.seq (Sr [Mv 70 7,Ln 71 70,Mc 72 0] (.block 2 (.loop qlw))) (Sr [Mv 97 8,Bc 98 .eql 97 0,Mv 99 98,Gm 100 14 99 true,Gd 101 (.bin .eql .none (.tmp 100) (ci 0)) 99 true,Op 102 (.pick (.tmp 99) (.tmp 101) (.con (.bool false))),Mv 103 102,Gm 104 15 103 true,Gd 105 (.load 2 (.tmp 4)) 103 true,Gm 106 12 103 true,Cg 107 19 [(.tmp 105),(.tmp 106)] 103 true,Gd 108 (.bin .eql .bool (.tmp 104) (.tmp 107)) 103 true,Op 109 (.pick (.tmp 103) (.tmp 108) (.con (.bool false))),Mv 2 109] .ret)))))))))))))))
def i8:ICode:=(Sr [Mb 0 false] (Sr [Op 6 (.build [(.int .i64 0),(.int .i64 0),(.int .i64 0)] [(0,1,(ci 1)),(1,1,(ci 1)),(2,1,(ci 3))]),Op 7 (.build [(.int .i64 0),(.int .i64 0),(.int .i64 0)] [(0,1,(ci 7)),(2,1,(ci 4))]),Op 8 (.rows 85 3 2 [(.int .i64 0),(.int .i64 0),(.int .i64 0)] [(0,3,(.tmp 6)),(3,3,(.tmp 7))]),⟨some 9,.op (.build [(.str ⟨#[]⟩),.nil] [(0,1,(.con (.str ⟨#[109,97,105,110]⟩))),(1,1,(.tmp 8))]),none⟩,⟨some 10,.op (.rows 88 2 1 [(.str ⟨#[]⟩),.nil] [(0,2,(.tmp 9))]),none⟩,Op 11 (.build [(.int .i64 0),.nil] [(0,1,(ci 2)),(1,1,(.tmp 10))]),Op 1 (.alloc 28 [(.int .i64 0),.nil]),Sv 2 1 11] (Sr [Ld 13 2 1,Cl 14 11 [(.tmp 13)],Mv 12 14,Ex 15 12 0,Ex 16 12 1,Op 2 (.alloc 37 [(.int .i64 0),.nil,.nil,.nil,.nil,(.int .i64 0),(.int .i64 0),.nil,(.int .i64 0),.nil]),Sv 10 2 15,Mv 3 16] (Sr [Ld 18 2 1,Cl 19 12 [(.tmp 18)],Mv 17 19,Ex 20 17 0,Ex 21 17 1,Mv 4 20,Mv 5 21] (Sr [Mv 22 3,Bc 23 .eql 22 0,Mv 24 23,Gd 25 (.faddr 7 1 (.tmp 2)) 24 true,Gd 26 (.load 0 (.tmp 25)) 24 true,Gd 27 (.len (.tmp 26)) 24 true,Gd 28 (.bin .eql .none (.tmp 27) (ci 2)) 24 true,Op 29 (.pick (.tmp 24) (.tmp 28) (.con (.bool false))),Mv 30 29,Gd 31 (.faddr 7 1 (.tmp 2)) 30 true,Gd 32 (.load 0 (.tmp 31)) 30 true,Gd 33 (.iaddr 14 none (.tmp 32) (ci 0)) 30 true,Gd 34 (.faddr 1 1 (.tmp 33)) 30 true,Gd 35 (.load 0 (.tmp 34)) 30 true,Gd 36 (.bin .eql .none (.tmp 35) (ci 0)) 30 true,Op 37 (.pick (.tmp 30) (.tmp 36) (.con (.bool false))),Mv 38 37,Gd 39 (.faddr 7 1 (.tmp 2)) 38 true,Gd 40 (.load 0 (.tmp 39)) 38 true,Gd 41 (.iaddr 14 none (.tmp 40) (ci 1)) 38 true,Gd 42 (.faddr 1 1 (.tmp 41)) 38 true,Gd 43 (.load 0 (.tmp 42)) 38 true,Gd 44 (.bin .eql .none (.tmp 43) (ci 1)) 38 true,Op 45 (.pick (.tmp 38) (.tmp 44) (.con (.bool false))),Mv 46 45,Gd 47 (.faddr 7 1 (.tmp 2)) 46 true,Gd 48 (.load 0 (.tmp 47)) 46 true,Gd 49 (.iaddr 14 none (.tmp 48) (ci 1)) 46 true,Gd 50 (.faddr 2 1 (.tmp 49)) 46 true,Gd 51 (.load 0 (.tmp 50)) 46 true,Gd 52 (.bin .eql .none (.tmp 51) (ci 1)) 46 true,Op 53 (.pick (.tmp 46) (.tmp 52) (.con (.bool false))),Mv 54 53,Gm 55 5 54 true,Gd 56 (.bin .eql .none (.tmp 55) (ci 0)) 54 true,Op 57 (.pick (.tmp 54) (.tmp 56) (.con (.bool false))),Mv 58 57,Gm 59 4 58 true,Gd 60 (.len (.tmp 59)) 58 true,Gd 61 (.bin .eql .none (.tmp 60) (ci 2)) 58 true,Op 62 (.pick (.tmp 58) (.tmp 61) (.con (.bool false))),Mv 0 62] .ret)))))
theorem fn8:FnOk Tryz.prog 8 63 [(0,none)] i8:=fnO Tryz.func8 Tryz.call8
def i9:ICode:=(Sr [Op 2 (.mv (.con .nilp))] (.seq (Sr [Mv 3 0,Ln 4 3,Bc 5 .gtr 4 200] (Cd 5 (Rg [Mv 6 0,Op 7 (.slice 0 (.tmp 6) none (some (ci 200))),Mv 0 7]) .skip)) (Sr [Mv 8 0,Op 9 (.build [.nil,(.int .i64 0)] [(0,1,(.tmp 8))]),Bx 10 93 9,Mv 2 10] .ret)))
theorem fn9:FnOk Tryz.prog 9 11 [(2,none)] i9:=fnO Tryz.func9 Tryz.call9
def qbp:ICode:=(.seq (Sr [Mv 34 10,Mv 35 9,Bn 36 .lss 34 35] (Cd 36 .skip (.exit 2))) (.seq (.block 3 (Sr [Mv 39 5,Bc 40 .add 39 1,Mv 5 40] (Sr [Mv 41 0,Cl 42 14 [(.tmp 41),(ci 7)],Op 43 (.bin .add .none (ci 1) (.tmp 42)),Mv 44 5,Op 45 (.build [(.int .i64 0),(.int .i64 0),(.int .i64 0)] [(0,1,(.tmp 43)),(2,1,(.tmp 44))]),Op 11 (.alloc 85 [(.int .i64 0),(.int .i64 0),(.int .i64 0)]),Sv 3 11 45] (.seq (Sr [Fa 46 0 1 11,Ld 47 0 46] (.block 4 (.seq (Sr [Bc 49 .eql 47 1,Mv 48 49] (Cd 48 .skip (Rg [Bc 50 .eql 47 2,Mv 48 50]))) (Cd 48 (Rg [Mv 51 0,Fa 52 0 1 3,Ld 53 0 52,Cl 54 14 [(.tmp 51),(.tmp 53)],Fa 55 1 1 11,Sv 0 55 54]) (.seq (Sr [Bc 57 .eql 47 3,Mv 56 57] (Cd 56 .skip (Rg [Bc 58 .eql 47 4,Mv 56 58]))) (Cd 56 (Rg [Mv 59 0,Mv 60 9,Cl 61 14 [(.tmp 59),(.tmp 60)],Fa 62 1 1 11,Sv 0 62 61]) (Sr [Bc 64 .eql 47 5,Mv 63 64] (Cd 63 (Rg [Mv 65 0,Mv 66 4,Ln 67 66,Cl 68 14 [(.tmp 65),(.tmp 67)],Fa 69 1 1 11,Sv 0 69 68]) .skip)))))))) (Rg [Fa 70 1 1 8,Ld 71 0 70,Ld 72 3 11,Op 73 (.rows 85 3 1 [(.int .i64 0),(.int .i64 0),(.int .i64 0)] [(0,3,(.tmp 72))]),Op 74 (.app 85 3 (.tmp 71) (.tmp 73)),Fa 75 1 1 8,Sv 0 75 74]))))) (Rg [Mv 37 10,Bc 38 .add 37 1,Mv 10 38])))
def qep:ICode:=(Sr [Bn 24 .lss 23 22] (.seq (Cd 24 .skip (.exit 0)) (.seq (.block 1 (Sr [Ia 25 0 21 23,Ld 26 0 25,Mv 7 26] (Sr [Mv 27 7,⟨some 28,.op (.build [(.str ⟨#[]⟩),.nil] [(0,1,(.tmp 27))]),none⟩,⟨some 8,.op (.alloc 88 [(.str ⟨#[]⟩),.nil]),none⟩,Sv 2 8 28] (Sr [Mv 29 5,Bc 30 .add 29 1,Mv 5 30] (Sr [Mv 31 0,Cl 32 14 [(.tmp 31),(ci 3)],Op 33 (.bin .add .none (ci 1) (.tmp 32)),Mv 9 33] (.seq (Sr [Mc 10 0] (.block 2 (.loop qbp))) (Sr [Mv 76 5,Bc 77 .add 76 1,Mv 5 77] (Rg [Fa 78 1 1 3,Ld 79 0 78,Ld 80 2 8,⟨some 81,.op (.rows 88 2 1 [(.str ⟨#[]⟩),.nil] [(0,2,(.tmp 80))]),none⟩,Op 82 (.app 88 2 (.tmp 79) (.tmp 81)),Fa 83 1 1 3,Sv 0 83 82])))))))) (Rg [Bc 84 .add 23 1,Mv 23 84]))))
def i10:ICode:=(Sr [Op 2 (.alloc 28 [(.int .i64 0),.nil])] (Sr [Mv 12 0,Cl 13 14 [(.tmp 12),(ci 2)],Op 14 (.bin .add .none (ci 1) (.tmp 13)),Op 15 (.build [(.int .i64 0),.nil] [(0,1,(.tmp 14))]),Op 3 (.alloc 28 [(.int .i64 0),.nil]),Sv 2 3 15] (Sr [⟨some 16,.op (.rows 9 0 2 [(.str ⟨#[]⟩)] [(0,1,(.con (.str ⟨#[109,97,105,110]⟩))),(1,1,(.con (.str ⟨#[119,111,114,107]⟩)))]),none⟩,Mv 17 0,Cl 18 14 [(.tmp 17),(ci 2)],Op 19 (.bin .add .none (ci 1) (.tmp 18)),Op 20 (.slice 0 (.tmp 16) none (some (.tmp 19))),Mv 4 20] (Sr [Mc 5 1] (.seq (Sr [Mv 21 4,Ln 22 21,Mc 23 0] (.block 0 (.loop qep))) (Sr [Ld 85 2 3,Sv 2 2 85] .ret))))))
theorem fn10:FnOk Tryz.prog 10 86 [(2,some 2)] i10:=fnO Tryz.func10 Tryz.call10
def qku:ICode:=(Sr [Bn 50 .lss 49 48] (.seq (Cd 50 .skip (.exit 0)) (.seq (.block 1 (Sr [Mv 51 49,Ia 52 0 47 49,Ld 53 0 52,Mv 11 51,Mv 12 53] (Sr [Mv 54 4,Mv 55 11,Ia 56 6 54 55,Ld 57 6 56,Op 13 (.alloc 100 [(.int .i64 0),(.int .i64 0),(.int .i64 0),(.int .i64 0),(.int .i64 0),(.int .i64 0)]),Sv 6 13 57] (Sr [Mv 58 6,Ln 59 58,Op 60 (.mks 3 0 [(.int .i64 0)] (.tmp 59) (.tmp 59)),Mv 14 60] (Sr [Mv 61 14,Mv 62 6,Fa 63 1 5 13,Fa 64 0 1 63,Ld 65 0 64,Fa 66 1 5 13,Fa 67 1 1 66,Ld 68 0 67,Op 69 (.build [(.int .i64 0),(.int .i64 0)] [(0,1,(.tmp 65)),(1,1,(.tmp 68))]),Cl 70 43 [(.tmp 62),(.tmp 69)],Ia 71 0 61 70,St (.store 0 (.tmp 71) (ci 1))] (Sr [Ld 73 2 1,Fa 74 0 1 13,Ld 75 0 74,Mv 76 14,Fa 77 1 5 13,Ld 78 5 77,Cl 79 44 [(.tmp 73),(.tmp 75),(.tmp 76),(.tmp 78)],Mv 72 79,Ex 80 72 0,Ex 81 72 1,Ex 82 72 2,Mv 15 80,Mv 16 81,Mv 17 82] (Rg [Fa 83 7 1 10,Ld 84 0 83,Mv 85 12,Fa 86 0 1 13,Ld 87 0 86,Fa 88 1 5 13,Fa 89 3 1 88,Ld 90 0 89,Mv 91 14,Mv 92 16,⟨some 93,.op (.build [(.str ⟨#[]⟩),(.int .i64 0),(.int .i64 0),.nil,.nil,.nil,(.int .i64 0),(.int .i64 0),(.int .i64 0),.nil,.nil,.nil,.nil,(.int .i64 0)] [(0,1,(.tmp 85)),(1,1,(.tmp 87)),(2,1,(.tmp 90)),(3,1,(.tmp 91)),(4,1,(.tmp 92))]),none⟩,⟨some 94,.op (.rows 91 14 1 [(.str ⟨#[]⟩),(.int .i64 0),(.int .i64 0),.nil,.nil,.nil,(.int .i64 0),(.int .i64 0),(.int .i64 0),.nil,.nil,.nil,.nil,(.int .i64 0)] [(0,14,(.tmp 93))]),none⟩,Op 95 (.app 91 14 (.tmp 84) (.tmp 94)),Fa 96 7 1 10,Sv 0 96 95]))))))) (Rg [Bc 97 .add 49 1,Mv 49 97]))))
def i11:ICode:=(Sr [Bx 1 28 0,Op 2 (.alloc 37 [(.int .i64 0),.nil,.nil,.nil,.nil,(.int .i64 0),(.int .i64 0),.nil,(.int .i64 0),.nil]),Mc 3 0] (Sr [Ld 19 2 1,Cl 20 38 [(.tmp 19)],Mv 18 20,Ex 21 18 0,Ex 22 18 1,Mv 4 21,Mv 5 22] (.seq (Sr [Mv 23 5,Bc 24 .neq 23 0] (Cd 24 (Sr [Op 25 (.build [(.int .i64 0),.nil,.nil,.nil,.nil,(.int .i64 0),(.int .i64 0),.nil,(.int .i64 0),.nil] []),Mv 26 5,Sv 10 2 25,Mv 3 26] .ret) .skip)) (Sr [Ld 27 2 1,Cl 28 39 [(.tmp 27)],Mv 6 28] (Sr [Ld 30 2 1,Cl 31 40 [(.tmp 30)],Mv 29 31,Ex 32 29 0,Ex 33 29 1,Ex 34 29 2,Mv 7 32,Mv 8 33,Mv 9 34] (Sr [Fa 35 0 1 1,Ld 36 0 35,⟨some 37,.call (.call 41 [(.con (.str ⟨#[115]⟩)),(.tmp 36)]),none⟩,Mv 38 6,Ln 39 38,⟨some 40,.call (.call 41 [(.con (.str ⟨#[112]⟩)),(.tmp 39)]),none⟩,Mv 41 7,Mv 42 8,Cl 43 42 [(.tmp 41),(.tmp 42)],Op 44 (.build [(.int .i64 0),.nil,.nil,.nil,.nil,(.int .i64 0),(.int .i64 0),.nil,(.int .i64 0),.nil] [(0,1,(ci 1)),(1,1,(.tmp 37)),(2,1,(.tmp 40)),(8,2,(.tmp 43))]),Op 10 (.alloc 37 [(.int .i64 0),.nil,.nil,.nil,.nil,(.int .i64 0),(.int .i64 0),.nil,(.int .i64 0),.nil]),Sv 10 10 44] (.seq (Sr [Mv 45 4,Ln 46 45,⟨some 47,.call (.call 41 [(.con (.str ⟨#[114]⟩)),(.tmp 46)]),none⟩,Ln 48 47,Mc 49 0] (.block 0 (.loop qku))) (Sr [Ld 98 10 10,Sv 10 2 98,Mc 3 0] .ret))))))))
theorem fn11:FnOk Tryz.prog 11 99 [(2,some 10),(3,none)] i11:=fnO Tryz.func11 Tryz.call11
def qkv:ICode:=(Sr [Bn 45 .lss 44 43] (.seq (Cd 45 .skip (.exit 2)) (.seq (.block 3 (Sr [Mv 46 44,Mv 10 46] (Sr [Mv 47 7,Ln 48 47,Op 49 (.mks 3 0 [(.int .i64 0)] (.tmp 48) (.tmp 48)),Mv 11 49] (Sr [Mv 50 11,Mv 51 8,Ia 52 0 50 51,St (.store 0 (.tmp 52) (ci 1))] (Rg [Mv 53 6,Mv 54 10,Mv 55 11,Cl 56 42 [(.tmp 54),(.tmp 55)],Op 57 (.rows 35 2 1 [(.int .i64 0),.nil] [(0,2,(.tmp 56))]),Op 58 (.app 35 2 (.tmp 53) (.tmp 57)),Mv 6 58]))))) (Rg [Bc 59 .add 44 1,Mv 44 59]))))
def qfI:ICode:=(Sr [Bn 25 .lss 24 23] (.seq (Cd 25 .skip (.exit 0)) (.seq (.block 1 (Sr [Mv 26 24,Ia 27 2 22 24,Ld 28 2 27,Op 9 (.alloc 102 [(.int .i64 0),(.int .i64 0)]),Mv 8 26,Sv 2 9 28] (.seq (.seq (.reg [Fa 29 1 1 1,Ld 30 0 29,Op 31 (.iaddr 0 (some 2) (.tmp 9) (ci 0)),Ld 32 0 31,Ia 33 2 30 32,Fa 34 1 1 33,Ld 35 0 34,Op 36 (.iaddr 0 (some 2) (.tmp 9) (ci 1)),Ld 37 0 36,Ia 38 3 35 37,Fa 39 0 1 38,Ld 40 0 39,Bc 41 .neq 40 7] [0,1,0,4,15,31,63,0,128,511,1023,2047,4095] true) (Cd 41 (.exit 1) .skip)) (Sr [Fa 42 0 1 1,Ld 43 0 42,Mc 44 0] (.block 2 (.loop qkv)))))) (Rg [Bc 60 .add 24 1,Mv 24 60]))))
def i12:ICode:=(Sr [Bx 1 28 0,Op 2 (.mv (.con .nil)),Mc 3 0] (.seq (Sr [Ld 13 2 1,Cl 14 38 [(.tmp 13)],Mv 12 14,Ex 15 12 0,Ex 16 12 1,Mv 4 15,Mv 5 16] (Sr [Mv 17 5,Bc 18 .neq 17 0] (Cd 18 (Sr [Mv 19 5,Op 2 (.mv (.con .nil)),Mv 3 19] .ret) .skip))) (Sr [Op 6 (.mv (.con .nil))] (Sr [Ld 20 2 1,Cl 21 39 [(.tmp 20)],Mv 7 21] (.seq (Sr [Mv 22 7,Ln 23 22,Mc 24 0] (.block 0 (.loop qfI))) (Sr [Mv 61 6,Cl 62 45 [(.tmp 61),(.fnc 46)]] (Sr [Mv 63 6,Mv 2 63,Mc 3 0] .ret)))))))
theorem fn12:FnOk Tryz.prog 12 64 [(2,none),(3,none)] i12:=fnO Tryz.func12 Tryz.call12
def i14:ICode:=(Sr [Mc 4 0] (.seq (.seq (.reg [Mv 5 0,Op 6 (.nilck (.tmp 5)),Fa 7 1 1 6,Ld 8 0 7,Mv 9 0,Op 10 (.nilck (.tmp 9)),Fa 11 0 1 10,Ld 12 0 11,Ln 13 12,Bn 14 .geq 8 13] [0,1,3,7,0,16,48,112,240,511] true) (Cd 14 (Sr [Mc 4 0] .ret) .skip)) (Sr [Mv 15 0,Op 16 (.nilck (.tmp 15)),Fa 17 1 1 16,Ld 18 0 17,Bc 19 .add 18 1,Op 20 (.nilck (.tmp 15)),Fa 21 1 1 20,Sv 0 21 19] (.seq (.reg [Mv 22 0,Op 23 (.nilck (.tmp 22)),Fa 24 0 1 23,Ld 25 0 24,Mv 26 0,Op 27 (.nilck (.tmp 26)),Fa 28 1 1 27,Ld 29 0 28,Bc 30 .sub 29 1,Ia 31 0 25 30,Ld 32 0 31,Op 33 (.conv .i64 (.tmp 32)),Mv 34 1,Bn 35 .rem 33 34,Mv 4 35] [0,1,3,7,0,16,48,112,240,511,1023,2047,0,8191,16383] true) .ret))))
theorem fn14:FnOk Tryz.prog 14 36 [(4,none)] i14:=fnO Tryz.func14 Tryz.call14
def qkw:ICode:=(.seq (Sr [Mv 16 5,Fa 17 1 1 1,Ld 18 0 17,Mv 19 4,Ia 20 2 18 19,Fa 21 1 1 20,Ld 22 0 21,Ln 23 22,Bn 24 .lss 16 23] (Cd 24 .skip (.exit 2))) (.seq (.block 3 (Rg [Mv 27 3,Mv 28 4,Mv 29 5,Op 30 (.build [(.int .i64 0),(.int .i64 0)] [(0,1,(.tmp 28)),(1,1,(.tmp 29))]),Op 31 (.rows 102 2 1 [(.int .i64 0),(.int .i64 0)] [(0,2,(.tmp 30))]),Op 32 (.app 102 2 (.tmp 27) (.tmp 31)),Mv 3 32])) (Rg [Mv 25 5,Bc 26 .add 25 1,Mv 5 26])))
def qhw:ICode:=(.seq (Sr [Mv 9 4,Fa 10 1 1 1,Ld 11 0 10,Ln 12 11,Bn 13 .lss 9 12] (Cd 13 .skip (.exit 0))) (.seq (.block 1 (Sr [Mc 5 0] (.block 2 (.loop qkw)))) (Rg [Mv 14 4,Bc 15 .add 14 1,Mv 4 15])))
def i15:ICode:=(Sr [Bx 1 28 0,Op 2 (.mv (.con .nil))] (.seq (Sr [Ld 6 2 1,Cl 7 49 [(.tmp 6)],Bc 8 .neq 7 0] (Cd 8 (Sr [Op 2 (.mv (.con .nil))] .ret) .skip)) (Sr [Op 3 (.mv (.con .nil))] (.seq (Sr [Mc 4 0] (.block 0 (.loop qhw))) (Sr [Mv 33 3,Mv 2 33] .ret)))))
theorem fn15:FnOk Tryz.prog 15 34 [(2,none)] i15:=fnO Tryz.func15 Tryz.call15
def i16:ICode:=(Sr [Bx 3 28 0,Op 6 (.alloc 35 [(.int .i64 0),.nil]),Mc 7 0] (.seq (Sr [Ld 13 2 3,Cl 14 38 [(.tmp 13)],Mv 12 14,Ex 15 12 0,Ex 16 12 1,Mv 8 15,Mv 9 16] (Sr [Mv 17 9,Bc 18 .neq 17 0] (Cd 18 (Sr [Op 19 (.build [(.int .i64 0),.nil] []),Mv 20 9,Sv 2 6 19,Mv 7 20] .ret) .skip))) (.seq (Sr [Ld 22 2 3,Mv 23 1,Mv 24 2,Cl 25 50 [(.tmp 22),(.tmp 23),(.tmp 24)],Mv 21 25,Ex 26 21 0,Ex 27 21 1,Mv 10 26,Mv 11 27] (Sr [Mv 28 11,Bc 29 .neq 28 0] (Cd 29 (Sr [Op 30 (.build [(.int .i64 0),.nil] []),Mv 31 11,Sv 2 6 30,Mv 7 31] .ret) .skip))) (Sr [Mv 32 1,Mv 33 2,Cl 34 42 [(.tmp 32),(.tmp 33)],Sv 2 6 34,Mc 7 0] .ret))))
theorem fn16:FnOk Tryz.prog 16 35 [(6,some 2),(7,none)] i16:=fnO Tryz.func16 Tryz.call16
def qmv:ICode:=(.seq (Sr [Mv 31 5,Fa 32 1 1 2,Ld 33 0 32,Ln 34 33,Bn 35 .lss 31 34] (Cd 35 .skip (.exit 0))) (.seq (.block 1 (.seq (.reg [Fa 38 1 1 2,Ld 39 0 38,Mv 40 5,Ia 41 2 39 40,Ld 42 2 41,Fa 43 1 1 3,Ld 44 0 43,Mv 45 5,Ia 46 2 44 45,Ld 47 2 46,Cl 48 18 [(.tmp 42),(.tmp 47)],Mv 6 48] [0,1,0,7,15,0,32,0,224,480,1023,2047] true) (Sr [Mv 49 6,Bc 50 .neq 49 0] (Cd 50 (Sr [Mv 51 6,Mv 4 51] .ret) .skip)))) (Rg [Mv 36 5,Bc 37 .add 36 1,Mv 5 37])))
def i18:ICode:=(Sr [Bx 2 35 0,Bx 3 35 1,Mc 4 0] (.seq (Sr [Fa 7 0 1 2,Ld 8 0 7,Fa 9 0 1 3,Ld 10 0 9,Bn 11 .neq 8 10] (Cd 11 (Sr [Fa 12 0 1 2,Ld 13 0 12,Fa 14 0 1 3,Ld 15 0 14,Cl 16 53 [(.tmp 13),(.tmp 15)],Mv 4 16] .ret) .skip)) (.seq (Sr [Fa 17 1 1 2,Ld 18 0 17,Ln 19 18,Fa 20 1 1 3,Ld 21 0 20,Ln 22 21,Bn 23 .neq 19 22] (Cd 23 (Sr [Fa 24 1 1 2,Ld 25 0 24,Ln 26 25,Fa 27 1 1 3,Ld 28 0 27,Ln 29 28,Cl 30 53 [(.tmp 26),(.tmp 29)],Mv 4 30] .ret) .skip)) (.seq (Sr [Mc 5 0] (.block 0 (.loop qmv))) (Sr [Mc 4 0] .ret)))))
theorem fn18:FnOk Tryz.prog 18 52 [(4,none)] i18:=fnO Tryz.func18 Tryz.call18
def i22:ICode:=(Sr [Bx 3 37 0,Bx 5 35 2,Op 6 (.mv (.con .nil)),Mc 7 0] (.seq (Sr [Ld 11 10 3,Cl 12 56 [(.tmp 11)],Mv 8 12] (Sr [Mv 13 8,Bc 14 .neq 13 0] (Cd 14 (Sr [Mv 15 8,Op 6 (.mv (.con .nil)),Mv 7 15] .ret) .skip))) (.seq (Sr [Mv 16 1,Op 17 (.bin .lss .none (.tmp 16) (.con (.int .i64 (-1)))),Mv 18 17,Gm 19 1 18 false,Gd 20 (.faddr 7 1 (.tmp 3)) 18 false,Gd 21 (.load 0 (.tmp 20)) 18 false,Gd 22 (.len (.tmp 21)) 18 false,Gd 23 (.bin .geq .none (.tmp 19) (.tmp 22)) 18 false,Op 24 (.pick (.tmp 18) (.con (.bool true)) (.tmp 23))] (Cd 24 (Sr [Op 6 (.mv (.con .nil)),Mc 7 16] .ret) .skip)) (.seq (Sr [Ld 25 10 3,Ld 26 2 5,Cl 27 29 [(.tmp 25),(.tmp 26)],Nt 28 27] (Cd 28 (Sr [Op 6 (.mv (.con .nil)),Mc 7 17] .ret) .skip)) (.seq (Sr [Mv 29 1,Op 30 (.bin .eql .none (.tmp 29) (.con (.int .i64 (-1))))] (Cd 30 (Sr [Ld 31 10 3,Ld 32 2 5,Cl 33 57 [(.tmp 31),(.tmp 32)],Ex 34 33 0,Ex 35 33 1,Mv 6 34,Mv 7 35] .ret) .skip)) (.seq (Sr [Fa 36 0 1 3,Ld 37 0 36] (.block 0 (Sr [Bc 39 .eql 37 4,Mv 38 39] (Cd 38 (Sr [Ld 40 10 3,Mv 41 1,Ld 42 2 5,Cl 43 58 [(.tmp 40),(.tmp 41),(.tmp 42)],Ex 44 43 0,Ex 45 43 1,Mv 6 44,Mv 7 45] .ret) (Sr [Bc 47 .eql 37 5,Mv 46 47] (Cd 46 (Sr [Ld 48 10 3,Mv 49 1,Ld 50 2 5,Cl 51 59 [(.tmp 48),(.tmp 49),(.tmp 50)],Ex 52 51 0,Ex 53 51 1,Mv 6 52,Mv 7 53] .ret) .skip)))))) (Sr [Ld 55 10 3,Mv 56 1,Ld 57 2 5,Cl 58 60 [(.tmp 55),(.tmp 56),(.tmp 57)],Mv 54 58,Ex 59 54 0,Ex 60 54 1,Op 9 (.alloc 35 [(.int .i64 0),.nil]),Sv 2 9 59,Mv 10 60] (.seq (Sr [Fa 61 0 1 3,Ld 62 0 61,Bc 63 .neq 62 1] (Cd 63 (Rg [Ld 65 10 3,Mv 66 1,Ld 67 2 5,Cl 68 61 [(.tmp 65),(.tmp 66),(.tmp 67)],Mv 64 68,Ex 69 64 0,Ex 70 64 1,Sv 2 9 69,Mv 10 70]) .skip)) (.seq (Sr [Mv 71 10,Bc 72 .eql 71 18] (Cd 72 (Sr [Op 6 (.mv (.con .nil)),Mc 7 0] .ret) .skip)) (.seq (Sr [Mv 73 10,Bc 74 .neq 73 0] (Cd 74 (Sr [Mv 75 10,Op 6 (.mv (.con .nil)),Mv 7 75] .ret) .skip)) (Sr [Ld 76 2 9,Op 77 (.rows 35 2 1 [(.int .i64 0),.nil] [(0,2,(.tmp 76))]),Mv 6 77,Mc 7 0] .ret)))))))))))
theorem fn22:FnOk Tryz.prog 22 78 [(6,none),(7,none)] i22:=fnO Tryz.func22 Tryz.call22
def i29:ICode:=(Sr [Bx 2 37 0,Bx 3 35 1,Mb 4 false] (.seq (.reg [Ld 5 10 2,Cl 6 47 [(.tmp 5)],Bc 7 .eql 6 0,Mv 8 7,Gd 9 (.load 10 (.tmp 2)) 8 true,Cg 10 48 [(.tmp 9)] 8 true,Gd 11 (.load 2 (.tmp 3)) 8 true,Cg 12 51 [(.tmp 10),(.tmp 11)] 8 true,Op 13 (.pick (.tmp 8) (.tmp 12) (.con (.bool false))),Mv 4 13] [0,1,3,7,15,31,15,127,255,511] true) .ret))
theorem fn29:FnOk Tryz.prog 29 14 [(4,none)] i29:=fnO Tryz.func29 Tryz.call29
def i38:ICode:=(Sr [Bx 1 28 0,Op 2 (.mv (.con .nil)),Mc 3 0] (.seq (Sr [Ld 6 2 1,Cl 7 72 [(.tmp 6)],Mv 4 7] (Sr [Mv 8 4,Bc 9 .neq 8 0] (Cd 9 (Sr [Mv 10 4,Op 2 (.mv (.con .nil)),Mv 3 10] .ret) .skip))) (Sr [Ld 11 2 1,Cl 12 73 [(.tmp 11)],Mv 5 12] (.seq (Sr [Mv 13 5,Ln 14 13,Bc 15 .gtr 14 12] (Cd 15 (Sr [Op 2 (.mv (.con .nil)),Mc 3 1] .ret) .skip)) (Sr [Mv 16 5,Mv 2 16,Mc 3 0] .ret)))))
theorem fn38:FnOk Tryz.prog 38 17 [(2,none),(3,none)] i38:=fnO Tryz.func38 Tryz.call38
def qky:ICode:=(Sr [Bn 23 .lss 22 21] (.seq (Cd 23 .skip (.exit 2)) (.seq (.block 3 (Sr [Mv 24 22,Mv 6 24] (Rg [Mv 25 3,Mv 26 4,Mv 27 6,Op 28 (.build [(.int .i64 0),(.int .i64 0)] [(0,1,(.tmp 26)),(1,1,(.tmp 27))]),Op 29 (.rows 102 2 1 [(.int .i64 0),(.int .i64 0)] [(0,2,(.tmp 28))]),Op 30 (.app 102 2 (.tmp 25) (.tmp 29)),Mv 3 30]))) (Rg [Bc 31 .add 22 1,Mv 22 31]))))
def qhC:ICode:=(Sr [Bn 15 .lss 14 13] (.seq (Cd 15 .skip (.exit 0)) (.seq (.block 1 (Sr [Mv 16 14,Ia 17 2 12 14,Ld 18 2 17,⟨some 5,.op (.alloc 88 [(.str ⟨#[]⟩),.nil]),none⟩,Mv 4 16,Sv 2 5 18] (Sr [Fa 19 1 1 5,Ld 20 0 19,Ln 21 20,Mc 22 0] (.block 2 (.loop qky))))) (Rg [Bc 32 .add 14 1,Mv 14 32]))))
def i39:ICode:=(Sr [Bx 1 28 0,Op 2 (.mv (.con .nil))] (Sr [Op 3 (.mv (.con .nil))] (.seq (Sr [Ld 7 2 1,Cl 8 72 [(.tmp 7)],Bc 9 .neq 8 0] (Cd 9 (Sr [Mv 10 3,Mv 2 10] .ret) .skip)) (.seq (Sr [Fa 11 1 1 1,Ld 12 0 11,Ln 13 12,Mc 14 0] (.block 0 (.loop qhC))) (Sr [Mv 33 3,Mv 2 33] .ret)))))
theorem fn39:FnOk Tryz.prog 39 34 [(2,none)] i39:=fnO Tryz.func39 Tryz.call39
def i40:ICode:=(Sr [Bx 1 28 0,Mc 2 0,Op 3 (.mv (.con .nil)),Mc 4 0] (.seq (Sr [Ld 7 2 1,Cl 8 72 [(.tmp 7)],Mv 5 8] (Sr [Mv 9 5,Bc 10 .neq 9 0] (Cd 10 (Sr [Mv 11 5,Mc 2 0,Op 3 (.mv (.con .nil)),Mv 4 11] .ret) .skip))) (Sr [Ld 12 2 1,Cl 13 39 [(.tmp 12)],Ln 14 13,Op 15 (.mks 3 0 [(.int .i64 0)] (.tmp 14) (.tmp 14)),Mv 6 15] (Sr [Mv 16 6,Op 17 (.iaddr 0 none (.tmp 16) (ci 0)),St (.store 0 (.tmp 17) (ci 1))] (Sr [Mv 18 6,Mc 2 0,Mv 3 18,Mc 4 0] .ret)))))
theorem fn40:FnOk Tryz.prog 40 19 [(2,none),(3,none),(4,none)] i40:=fnO Tryz.func40 Tryz.call40
def qkz:ICode:=(Sr [Bn 9 .lss 8 7] (.seq (Cd 9 .skip (.exit 0)) (.seq (.block 1 (Sr [Mv 10 8,Mv 6 10] (Rg [Mv 11 5,Mv 12 0,Mv 13 6,Cl 14 67 [(.tmp 13)],Bn 15 .add 12 14,⟨some 16,.op (.rows 9 0 1 [(.str ⟨#[]⟩)] [(0,1,(.tmp 15))]),none⟩,Op 17 (.app 9 0 (.tmp 11) (.tmp 16)),Mv 5 17]))) (Rg [Bc 18 .add 8 1,Mv 8 18]))))
def i41:ICode:=(Sr [Op 4 (.mv (.con .nil))] (Sr [Op 5 (.mv (.con .nil))] (.seq (Sr [Mv 7 1,Mc 8 0] (.block 0 (.loop qkz))) (Sr [Mv 19 5,Mv 4 19] .ret))))
theorem fn41:FnOk Tryz.prog 41 20 [(4,none)] i41:=fnO Tryz.func41 Tryz.call41
def qmx:ICode:=(Sr [Bn 15 .lss 14 13] (.seq (Cd 15 .skip (.exit 0)) (.seq (.block 1 (Sr [Ia 16 0 12 14,Ld 17 0 16,Mv 7 17] (Rg [Fa 18 1 1 5,Ld 19 0 18,Mv 20 7,Op 21 (.build [(.int .i64 0),.nil] [(0,1,(.tmp 20))]),Op 22 (.rows 35 2 1 [(.int .i64 0),.nil] [(0,2,(.tmp 21))]),Op 23 (.app 35 2 (.tmp 19) (.tmp 22)),Fa 24 1 1 5,Sv 0 24 23]))) (Rg [Bc 25 .add 14 1,Mv 14 25]))))
def i42:ICode:=(Sr [Op 4 (.alloc 35 [(.int .i64 0),.nil])] (Sr [Mv 8 0,Op 9 (.build [(.int .i64 0),.nil] [(0,1,(.tmp 8))]),Op 10 (.rows 35 2 1 [(.int .i64 0),.nil] [(0,2,(.tmp 9))]),Op 11 (.build [(.int .i64 0),.nil] [(1,1,(.tmp 10))]),Op 5 (.alloc 35 [(.int .i64 0),.nil]),Sv 2 5 11] (.seq (Sr [Mv 12 1,Ln 13 12,Mc 14 0] (.block 0 (.loop qmx))) (Sr [Ld 26 2 5,Sv 2 4 26] .ret))))
theorem fn42:FnOk Tryz.prog 42 27 [(4,some 2)] i42:=fnO Tryz.func42 Tryz.call42
def qkA:ICode:=(Sr [Bn 9 .lss 8 7] (.seq (Cd 9 .skip (.exit 0)) (.seq (.block 1 (Sr [Mv 10 8,Mv 5 10] (.seq (.reg [Ld 11 2 3,Mv 12 0,Mv 13 5,Ia 14 2 12 13,Ld 15 2 14,Op 16 (.bin .eql (.ints 2) (.tmp 11) (.tmp 15))] [0,0,0,6,14,31] true) (Cd 16 (Sr [Mv 17 5,Mv 4 17] .ret) .skip)))) (Rg [Bc 18 .add 8 1,Mv 8 18]))))
def i43:ICode:=(Sr [Bx 3 102 1,Mc 4 0] (.seq (Sr [Mv 6 0,Ln 7 6,Mc 8 0] (.block 0 (.loop qkA))) (Sr [Op 4 (.mv (.con (.int .i64 (-1))))] .ret)))
theorem fn43:FnOk Tryz.prog 43 19 [(4,none)] i43:=fnO Tryz.func43 Tryz.call43
def i44:ICode:=(Sr [Bx 4 28 0,Bx 7 64 3,Mc 8 0,Op 9 (.mv (.con .nil)),Mc 10 0] (Sr [Ld 18 2 4,Mv 19 1,Mv 20 2,Cl 21 50 [(.tmp 18),(.tmp 19),(.tmp 20)],Mv 17 21,Ex 22 17 0,Ex 23 17 1,Mv 11 22,Mv 12 23] (.seq (Sr [Mv 24 12,Bc 25 .neq 24 0] (Cd 25 (Sr [Mv 26 12,Mc 8 0,Op 9 (.mv (.con .nil)),Mv 10 26] .ret) .skip)) (.seq (Sr [Mv 27 11,Ld 28 5 7,Cl 29 74 [(.tmp 27),(.tmp 28)],Nt 30 29] (Cd 30 (Sr [Mc 8 0,Op 9 (.mv (.con .nil)),Mc 10 18] .ret) .skip)) (Sr [Ld 31 2 4,Cl 32 39 [(.tmp 31)],Mv 33 2,Cl 34 75 [(.tmp 33)],Op 13 (.alloc 49 [.nil]),Op 14 (.alloc 31 [.nil]),Sv 0 13 32,Sv 0 14 34] (Sr [Op 35 (.mkfn 76 [(.tmp 14),(.tmp 13)]),Mv 15 35] (Sr [Mv 36 15,Fa 37 0 1 7,Ld 38 0 37,Fa 39 1 1 7,Ld 40 0 39,⟨some 41,.call (.callv (.tmp 36) [(.tmp 38),(.tmp 40),(.con (.int .i64 (-1)))]),none⟩] (.seq (Sr [Fa 42 4 1 7,Ld 43 0 42,Bc 44 .geq 43 0] (Cd 44 (Rg [Mv 45 15,Fa 46 0 1 7,Ld 47 0 46,Fa 48 4 1 7,Ld 49 0 48,⟨some 50,.call (.callv (.tmp 45) [(.tmp 47),(.tmp 49),(ci 1)]),none⟩]) .skip)) (.seq (.seq (.reg [Fa 51 1 1 4,Ld 52 0 51,Fa 53 0 1 7,Ld 54 0 53,Ia 55 2 52 54,Fa 56 1 1 55,Ld 57 0 56,Fa 58 1 1 7,Ld 59 0 58,Ia 60 3 57 59,Ld 61 3 60,Op 16 (.alloc 85 [(.int .i64 0),(.int .i64 0),(.int .i64 0)]),Sv 3 16 61] [0,1,0,4,15,31,63,0,128,511,1023,0,4095] true) (Sr [Fa 62 0 1 16,Ld 63 0 62,Bc 64 .eql 63 5] (Cd 64 (Rg [Mv 65 15,Fa 66 1 1 16,Ld 67 0 66,⟨some 68,.call (.callv (.tmp 65) [(.tmp 67),(ci 0),(ci 1)]),none⟩]) .skip))) (.seq (Sr [Ld 69 0 14,Cl 70 77 [(.tmp 69)],Bc 71 .gtr 70 1048576] (Cd 71 (Sr [Mc 8 0,Op 9 (.mv (.con .nil)),Mc 10 1] .ret) .skip)) (.seq (.reg [Fa 72 3 1 7,Ld 73 0 72,Ld 74 0 14,Mv 8 73,Mv 9 74,Mc 10 0] [0,1,0,3,15,31] true) .ret)))))))))))
theorem fn44:FnOk Tryz.prog 44 75 [(8,none),(9,none),(10,none)] i44:=fnO Tryz.func44 Tryz.call44
def i46:ICode:=(Sr [Bx 2 35 0,Bx 3 35 1,Mc 4 0] (.seq (.reg [Fa 5 0 1 2,Ld 6 0 5,Fa 7 0 1 3,Ld 8 0 7,Cl 9 81 [(.tmp 6),(.tmp 8)],Fa 10 1 1 2,Ld 11 0 10,Ln 12 11,Fa 13 1 1 3,Ld 14 0 13,Ln 15 14,Cl 16 81 [(.tmp 12),(.tmp 15)],Fa 17 1 1 2,Ld 18 0 17,Fa 19 1 1 3,Ld 20 0 19,Cl 21 82 [(.tmp 18),(.tmp 20),(.fnc 46)],Op 22 (.rows 3 0 3 [(.int .i64 0)] [(0,1,(.tmp 9)),(1,1,(.tmp 16)),(2,1,(.tmp 21))]),Cl 23 80 [(.tmp 22)],Mv 4 23] [0,1,0,4,15,0,32,96,0,256,768,2047,0,4096,0,16384,65535,131071,262143,524287] true) .ret))
theorem fn46:FnOk Tryz.prog 46 24 [(4,none)] i46:=fnO Tryz.func46 Tryz.call46
def qmy:ICode:=(.seq (Sr [Mv 17 3,Fa 18 7 1 1,Ld 19 0 18,Ln 20 19,Bn 21 .lss 17 20] (Cd 21 .skip (.exit 0))) (.seq (.block 1 (.seq (.reg [Ld 24 10 1,Fa 25 7 1 1,Ld 26 0 25,Mv 27 3,Ia 28 14 26 27,Ld 29 14 28,Cl 30 87 [(.tmp 24),(.tmp 29)],Nt 31 30] [0,0,2,0,14,30,63,127] true) (Cd 31 (Sr [Mc 2 16] .ret) .skip))) (Rg [Mv 22 3,Bc 23 .add 22 1,Mv 3 23])))
def i47:ICode:=(Sr [Bx 1 37 0,Mc 2 0] (.seq (Sr [Fa 4 0 1 1,Ld 5 0 4,Cl 6 83 [(.tmp 5),(ci 1),(ci 6)],Nt 7 6] (Cd 7 (Sr [Mc 2 15] .ret) .skip)) (.seq (Sr [Ld 8 10 1,Cl 9 84 [(.tmp 8)],Nt 10 9] (Cd 10 (Sr [Mc 2 1] .ret) .skip)) (.seq (Sr [Ld 11 10 1,Cl 12 85 [(.tmp 11)],Nt 13 12] (Cd 13 (Sr [Mc 2 14] .ret) .skip)) (.seq (Sr [Ld 14 10 1,Cl 15 86 [(.tmp 14)],Nt 16 15] (Cd 16 (Sr [Mc 2 13] .ret) .skip)) (.seq (Sr [Mc 3 0] (.block 0 (.loop qmy))) (.seq (Sr [Fa 32 0 1 1,Ld 33 0 32,Bc 34 .eql 33 6] (Cd 34 (.seq (Sr [Fa 35 8 2 1,Fa 36 0 1 35,Ld 37 0 36,Bc 38 .neq 37 0,Mv 39 38,Gd 40 (.faddr 8 2 (.tmp 1)) 39 false,Gd 41 (.faddr 1 1 (.tmp 40)) 39 false,Gd 42 (.load 0 (.tmp 41)) 39 false,Gd 43 (.len (.tmp 42)) 39 false,Gd 44 (.bin .gtr .none (.tmp 43) (ci 0)) 39 false,Op 45 (.pick (.tmp 39) (.con (.bool true)) (.tmp 44))] (Cd 45 (Sr [Mc 2 17] .ret) .skip)) (Sr [Mc 2 0] .ret)) .skip)) (.seq (.seq (.reg [Ld 46 10 1,Cl 47 48 [(.tmp 46)],Fa 48 8 2 1,Ld 49 2 48,Cl 50 51 [(.tmp 47),(.tmp 49)],Nt 51 50] [0,1,0,4,15,31] true) (Cd 51 (Sr [Mc 2 17] .ret) .skip)) (Sr [Mc 2 0] .ret)))))))))
theorem fn47:FnOk Tryz.prog 47 52 [(2,none)] i47:=fnO Tryz.func47 Tryz.call47
def qmz:ICode:=(.seq (Sr [Mv 55 6,Fa 56 5 1 1,Ld 57 0 56,Bn 58 .lss 55 57] (Cd 58 .skip (.exit 3))) (.seq (.block 4 (Rg [Ld 61 4 4,Ld 62 4 5,Op 63 (.rows 45 4 1 [(.int .i64 0),(.int .i64 0),.nil,.nil] [(0,4,(.tmp 62))]),Op 64 (.build [(.int .i64 0),(.int .i64 0),.nil,.nil] [(0,1,(ci 5)),(3,1,(.tmp 63))]),Op 65 (.rows 45 4 2 [(.int .i64 0),(.int .i64 0),.nil,.nil] [(0,4,(.tmp 61)),(4,4,(.tmp 64))]),Op 66 (.build [(.int .i64 0),(.int .i64 0),.nil,.nil] [(0,1,(ci 3)),(3,1,(.tmp 65))]),Sv 4 5 66])) (Rg [Mv 59 6,Bc 60 .add 59 1,Mv 6 60])))
def qfa:ICode:=(.seq (Sr [Mv 22 8,Fa 23 2 1 1,Ld 24 0 23,Ln 25 24,Bn 26 .lss 22 25] (Cd 26 .skip (.exit 1))) (.seq (.block 2 (Sr [Op 29 (.build [(.int .i64 0),(.int .i64 0),.nil,.nil] [(0,1,(ci 1))]),Op 9 (.alloc 45 [(.int .i64 0),(.int .i64 0),.nil,.nil]),Sv 4 9 29] (.seq (Sr [Fa 30 0 1 1,Ld 31 0 30,Bc 32 .eql 31 2] (Cd 32 (Rg [Ld 33 4 4,Op 34 (.rows 45 4 1 [(.int .i64 0),(.int .i64 0),.nil,.nil] [(0,4,(.tmp 33))]),Op 35 (.build [(.int .i64 0),(.int .i64 0),.nil,.nil] [(0,1,(ci 4)),(3,1,(.tmp 34))]),Sv 4 9 35]) .skip)) (.seq (Sr [Fa 36 0 1 1,Ld 37 0 36,Bc 38 .eql 37 3] (Cd 38 (.reg [Fa 39 3 1 1,Ld 40 0 39,Ln 41 40,Fa 42 4 1 1,Ld 43 0 42,Cl 44 88 [(.tmp 43)],Op 45 (.build [(.int .i64 0),(.int .i64 0),.nil,.nil] [(0,1,(ci 7)),(1,1,(.tmp 41)),(2,1,(.tmp 44))]),Sv 4 9 45] [0,1,3,0,8,24,63,127] true) .skip)) (Rg [Fa 46 3 1 3,Ld 47 0 46,Ld 48 4 9,Op 49 (.rows 45 4 1 [(.int .i64 0),(.int .i64 0),.nil,.nil] [(0,4,(.tmp 48))]),Op 50 (.app 45 4 (.tmp 47) (.tmp 49)),Fa 51 3 1 3,Sv 0 51 50]))))) (Rg [Mv 27 8,Bc 28 .add 27 1,Mv 8 28])))
def i48:ICode:=(Sr [Bx 1 37 0,Op 2 (.alloc 45 [(.int .i64 0),(.int .i64 0),.nil,.nil])] (Sr [Fa 10 1 1 1,Ld 11 0 10,Ln 12 11,Op 13 (.build [(.int .i64 0),(.int .i64 0),.nil,.nil] [(0,1,(ci 2)),(1,1,(.tmp 12))]),Op 14 (.rows 45 4 1 [(.int .i64 0),(.int .i64 0),.nil,.nil] [(0,4,(.tmp 13))]),Op 15 (.build [(.int .i64 0),(.int .i64 0),.nil,.nil] [(0,1,(ci 3)),(3,1,(.tmp 14))]),Op 3 (.alloc 45 [(.int .i64 0),(.int .i64 0),.nil,.nil]),Sv 4 3 15] (Sr [Fa 16 3 1 1,Ld 17 0 16,Ln 18 17,Op 19 (.build [(.int .i64 0),(.int .i64 0),.nil,.nil] [(0,1,(ci 2)),(1,1,(.tmp 18))]),Op 4 (.alloc 45 [(.int .i64 0),(.int .i64 0),.nil,.nil]),Sv 4 4 19] (.seq (Sr [Fa 20 0 1 1,Ld 21 0 20] (.block 0 (Sr [Bc 53 .eql 21 4,Mv 52 53] (Cd 52 (Sr [Ld 54 4 4,Op 5 (.alloc 45 [(.int .i64 0),(.int .i64 0),.nil,.nil]),Sv 4 5 54] (.seq (Sr [Mc 6 1] (.block 3 (.loop qmz))) (Rg [Fa 67 3 1 3,Ld 68 0 67,Ld 69 4 5,Op 70 (.rows 45 4 1 [(.int .i64 0),(.int .i64 0),.nil,.nil] [(0,4,(.tmp 69))]),Op 71 (.build [(.int .i64 0),(.int .i64 0),.nil,.nil] [(0,1,(ci 5)),(3,1,(.tmp 70))]),Op 72 (.rows 45 4 1 [(.int .i64 0),(.int .i64 0),.nil,.nil] [(0,4,(.tmp 71))]),Op 73 (.app 45 4 (.tmp 68) (.tmp 72)),Fa 74 3 1 3,Sv 0 74 73]))) (Sr [Bc 76 .eql 21 5,Mv 75 76] (Cd 75 (Sr [Fa 77 2 1 1,Ld 78 0 77,Ln 79 78,Op 80 (.build [(.int .i64 0),(.int .i64 0),.nil,.nil] [(0,1,(ci 2)),(1,1,(.tmp 79))]),Fa 81 6 1 1,Ld 82 0 81,Bc 83 .add 82 2,Op 84 (.build [(.int .i64 0),(.int .i64 0),.nil,.nil] [(0,1,(ci 2)),(1,1,(.tmp 83))]),Op 85 (.rows 45 4 2 [(.int .i64 0),(.int .i64 0),.nil,.nil] [(0,4,(.tmp 80)),(4,4,(.tmp 84))]),Op 86 (.build [(.int .i64 0),(.int .i64 0),.nil,.nil] [(0,1,(ci 3)),(3,1,(.tmp 85))]),Op 7 (.alloc 45 [(.int .i64 0),(.int .i64 0),.nil,.nil]),Sv 4 7 86] (Rg [Fa 87 3 1 3,Ld 88 0 87,Ld 89 4 7,Op 90 (.rows 45 4 1 [(.int .i64 0),(.int .i64 0),.nil,.nil] [(0,4,(.tmp 89))]),Op 91 (.build [(.int .i64 0),(.int .i64 0),.nil,.nil] [(0,1,(ci 5)),(3,1,(.tmp 90))]),Op 92 (.rows 45 4 1 [(.int .i64 0),(.int .i64 0),.nil,.nil] [(0,4,(.tmp 91))]),Op 93 (.app 45 4 (.tmp 88) (.tmp 92)),Fa 94 3 1 3,Sv 0 94 93])) (Sr [Mc 8 0] (.block 1 (.loop qfa))))))))) (Sr [Ld 95 4 3,Sv 4 2 95] .ret)))))
theorem fn48:FnOk Tryz.prog 48 96 [(2,some 4)] i48:=fnO Tryz.func48 Tryz.call48
def qmB:ICode:=(.seq (Sr [Mv 53 7,Mv 54 5,Bn 55 .lss 53 54] (Cd 55 .skip (.exit 2))) (.seq (.block 3 (.seq (.reg [Fa 58 1 1 1,Ld 59 0 58,Mv 60 7,Ia 61 2 59 60,Fa 62 0 1 61,Ld 63 0 62,Fa 64 0 1 6,Ld 65 0 64,Bn 66 .eql 63 65] [0,1,0,7,15,31,0,64,255] true) (Cd 66 (Sr [Mc 2 47] .ret) .skip))) (Rg [Mv 56 7,Bc 57 .add 56 1,Mv 7 57])))
def qfb:ICode:=(.seq (Sr [Mv 69 8,Fa 70 1 1 6,Ld 71 0 70,Ln 72 71,Bn 73 .lss 69 72] (Cd 73 .skip (.exit 4))) (.seq (.block 5 (Sr [Fa 76 1 1 6,Ld 77 0 76,Mv 78 8,Ia 79 3 77 78,Ld 80 3 79,Op 9 (.alloc 85 [(.int .i64 0),(.int .i64 0),(.int .i64 0)]),Sv 3 9 80] (Sr [Mv 81 4,Bc 82 .add 81 1,Mv 4 82] (Sr [Mv 83 3,Bc 84 .add 83 1,Mv 3 84] (Sr [Op 10 (.mv (.con (.int .i64 (-1))))] (.seq (Sr [Fa 85 0 1 9,Ld 86 0 85] (.block 6 (.seq (Sr [Bc 88 .eql 86 1,Mv 87 88] (Cd 87 .skip (Rg [Bc 89 .eql 86 2,Mv 87 89]))) (Cd 87 (Rg [Fa 90 0 1 1,Ld 91 0 90,Mv 10 91]) (.seq (Sr [Bc 93 .eql 86 3,Mv 92 93] (Cd 92 .skip (Rg [Bc 94 .eql 86 4,Mv 92 94]))) (Cd 92 (Rg [Fa 95 1 1 6,Ld 96 0 95,Ln 97 96,Mv 10 97]) (Sr [Bc 99 .eql 86 5,Mv 98 99] (Cd 98 (Rg [Fa 100 1 1 1,Ld 101 0 100,Ln 102 101,Mv 10 102]) (.seq (Sr [Bc 104 .eql 86 6,Mv 103 104] (Cd 103 .skip (Rg [Bc 105 .eql 86 7,Mv 103 105]))) (Cd 103 (Rg [Mc 10 1]) .skip)))))))))) (Sr [Fa 106 2 1 9,Ld 107 0 106,Mv 108 4,Bn 109 .neq 107 108,Mv 110 109,Gd 111 (.faddr 1 1 (.tmp 9)) 110 false,Gd 112 (.load 0 (.tmp 111)) 110 false,Gd 113 (.bin .lss .none (.tmp 112) (ci 0)) 110 false,Op 114 (.pick (.tmp 110) (.con (.bool true)) (.tmp 113)),Mv 115 114,Gd 116 (.faddr 1 1 (.tmp 9)) 115 false,Gd 117 (.load 0 (.tmp 116)) 115 false,Gm 118 10 115 false,Gd 119 (.bin .geq .none (.tmp 117) (.tmp 118)) 115 false,Op 120 (.pick (.tmp 115) (.con (.bool true)) (.tmp 119))] (Cd 120 (Sr [Mc 2 47] .ret) .skip)))))))) (Rg [Mv 74 8,Bc 75 .add 74 1,Mv 8 75])))
def qmA:ICode:=(.seq (Sr [Mv 31 5,Fa 32 1 1 1,Ld 33 0 32,Ln 34 33,Bn 35 .lss 31 34] (Cd 35 .skip (.exit 0))) (.seq (.block 1 (Sr [Fa 38 1 1 1,Ld 39 0 38,Mv 40 5,Ia 41 2 39 40,Ld 42 2 41,⟨some 6,.op (.alloc 88 [(.str ⟨#[]⟩),.nil]),none⟩,Sv 2 6 42] (.seq (Sr [Fa 43 0 1 6,Ld 44 0 43,Cl 45 89 [(.tmp 44)],Nt 46 45,Mv 47 46,Gd 48 (.faddr 1 1 (.tmp 6)) 47 false,Gd 49 (.load 0 (.tmp 48)) 47 false,Gd 50 (.len (.tmp 49)) 47 false,Gd 51 (.bin .lss .none (.tmp 50) (ci 1)) 47 false,Op 52 (.pick (.tmp 47) (.con (.bool true)) (.tmp 51))] (Cd 52 (Sr [Mc 2 47] .ret) .skip)) (.seq (Sr [Mc 7 0] (.block 2 (.loop qmB))) (Sr [Mv 67 4,Bc 68 .add 67 1,Mv 4 68] (.seq (Sr [Mc 8 0] (.block 4 (.loop qfb))) (Rg [Mv 121 4,Bc 122 .add 121 1,Mv 4 122]))))))) (Rg [Mv 36 5,Bc 37 .add 36 1,Mv 5 37])))
def i49:ICode:=(Sr [Bx 1 28 0,Mc 2 0] (.seq (Sr [Fa 11 0 1 1,Ld 12 0 11,Bc 13 .lss 12 1,Mv 14 13,Gd 15 (.faddr 0 1 (.tmp 1)) 14 false,Gd 16 (.load 0 (.tmp 15)) 14 false,Gd 17 (.bin .gtr .none (.tmp 16) (ci 8)) 14 false,Op 18 (.pick (.tmp 14) (.con (.bool true)) (.tmp 17)),Mv 19 18,Gd 20 (.faddr 1 1 (.tmp 1)) 19 false,Gd 21 (.load 0 (.tmp 20)) 19 false,Gd 22 (.len (.tmp 21)) 19 false,Gd 23 (.bin .lss .none (.tmp 22) (ci 1)) 19 false,Op 24 (.pick (.tmp 19) (.con (.bool true)) (.tmp 23)),Mv 25 24,Gd 26 (.faddr 1 1 (.tmp 1)) 25 false,Gd 27 (.load 0 (.tmp 26)) 25 false,Gd 28 (.len (.tmp 27)) 25 false,Gd 29 (.bin .gtr .none (.tmp 28) (ci 6)) 25 false,Op 30 (.pick (.tmp 25) (.con (.bool true)) (.tmp 29))] (Cd 30 (Sr [Mc 2 47] .ret) .skip)) (Sr [Mc 3 0,Mc 4 1] (.seq (Sr [Mc 5 0] (.block 0 (.loop qmA))) (.seq (Sr [Mv 123 3,Bc 124 .gtr 123 6] (Cd 124 (Sr [Mc 2 47] .ret) .skip)) (Sr [Mc 2 0] .ret))))))
theorem fn49:FnOk Tryz.prog 49 125 [(2,none)] i49:=fnO Tryz.func49 Tryz.call49
def qer:ICode:=(Sr [Bn 40 .lss 39 38] (.seq (Cd 40 .skip (.exit 0)) (.seq (.block 1 (Sr [Mv 41 39,Ia 42 2 37 39,Ld 43 2 42,Op 12 (.alloc 102 [(.int .i64 0),(.int .i64 0)]),Mv 11 41,Sv 2 12 43] (Sr [Mv 44 2,Mv 45 11,Ia 46 0 44 45,Ld 47 0 46,Bc 48 .gtr 47 0] (Cd 48 (Rg [Mv 49 10,Ld 50 2 3,Ld 51 2 12,Mv 52 1,Cl 53 92 [(.tmp 50),(.tmp 51),(.tmp 52)],Op 54 (.app 64 5 (.tmp 49) (.tmp 53)),Mv 10 54]) .skip)))) (Rg [Bc 55 .add 39 1,Mv 39 55]))))
def i50:ICode:=(Sr [Bx 3 28 0,Op 6 (.mv (.con .nil)),Mc 7 0] (.seq (Sr [Ld 13 2 3,Cl 14 72 [(.tmp 13)],Mv 8 14] (Sr [Mv 15 8,Bc 16 .neq 15 0] (Cd 16 (Sr [Mv 17 8,Op 6 (.mv (.con .nil)),Mv 7 17] .ret) .skip))) (.seq (Sr [Mv 18 1,Bc 19 .lss 18 0,Mv 20 19,Gm 21 1 20 false,Gd 22 (.faddr 0 1 (.tmp 3)) 20 false,Gd 23 (.load 0 (.tmp 22)) 20 false,Gd 24 (.bin .geq .none (.tmp 21) (.tmp 23)) 20 false,Op 25 (.pick (.tmp 20) (.con (.bool true)) (.tmp 24)),Mv 26 25,Gm 27 2 26 false,Cg 28 90 [(.tmp 27),(.fnc 91)] 26 false,Op 29 (.pick (.tmp 26) (.con (.bool true)) (.tmp 28))] (Cd 29 (Sr [Op 6 (.mv (.con .nil)),Mc 7 2] .ret) .skip)) (Sr [Ld 30 2 3,Cl 31 39 [(.tmp 30)],Mv 9 31] (.seq (Sr [Mv 32 2,Ln 33 32,Mv 34 9,Ln 35 34,Bn 36 .neq 33 35] (Cd 36 (Sr [Op 6 (.mv (.con .nil)),Mc 7 3] .ret) .skip)) (Sr [Op 10 (.mv (.con .nil))] (.seq (Sr [Mv 37 9,Ln 38 37,Mc 39 0] (.block 0 (.loop qer))) (Sr [Mv 56 10,Mv 6 56,Mc 7 0] .ret))))))))
theorem fn50:FnOk Tryz.prog 50 57 [(6,none),(7,none)] i50:=fnO Tryz.func50 Tryz.call50
def i51:ICode:=(Sr [Bx 2 45 0,Bx 3 35 1,Mb 4 false] (Sr [Ld 5 4 2,Cl 6 93 [(.tmp 5)],Bc 7 .eql 6 0,Mv 8 7,Gd 9 (.load 2 (.tmp 3)) 8 true,Cg 10 94 [(.tmp 9),(ci 128)] 8 true,Gd 11 (.bin .leq .none (.tmp 10) (ci 128)) 8 true,Op 12 (.pick (.tmp 8) (.tmp 11) (.con (.bool false))),Mv 13 12,Gd 14 (.load 4 (.tmp 2)) 13 true,Gd 15 (.load 2 (.tmp 3)) 13 true,Cg 16 95 [(.tmp 14),(.tmp 15)] 13 true,Op 17 (.pick (.tmp 13) (.tmp 16) (.con (.bool false))),Mv 4 17] .ret))
theorem fn51:FnOk Tryz.prog 51 18 [(4,none)] i51:=fnO Tryz.func51 Tryz.call51
def i53:ICode:=(Sr [Mc 4 0] (.seq (Sr [Mv 5 0,Mv 6 1,Bn 7 .lss 5 6] (Cd 7 (Sr [Op 4 (.mv (.con (.int .i64 (-1))))] .ret) .skip)) (.seq (Sr [Mv 8 0,Mv 9 1,Bn 10 .gtr 8 9] (Cd 10 (Sr [Mc 4 1] .ret) .skip)) (Sr [Mc 4 0] .ret))))
theorem fn53:FnOk Tryz.prog 53 11 [(4,none)] i53:=fnO Tryz.func53 Tryz.call53
def i56:ICode:=(Sr [Bx 1 37 0,Mc 2 0] (.seq (Sr [Ld 4 10 1,Cl 5 47 [(.tmp 4)],Mv 3 5] (Sr [Mv 6 3,Bc 7 .neq 6 0] (Cd 7 (Sr [Mv 8 3,Mv 2 8] .ret) .skip))) (.seq (Sr [Fa 9 0 1 1,Ld 10 0 9,Bc 11 .eql 10 6] (Cd 11 (Sr [Mc 2 15] .ret) .skip)) (Sr [Mc 2 0] .ret))))
theorem fn56:FnOk Tryz.prog 56 12 [(2,none)] i56:=fnO Tryz.func56 Tryz.call56
def qmC:ICode:=(.seq (Sr [Mv 39 12,Mv 40 11,Ln 41 40,Bn 42 .lss 39 41] (Cd 42 .skip (.exit 0))) (.seq (.block 1 (Sr [Mv 45 12,Mv 13 45] (.seq (Sr [Fa 46 5 1 10,Ld 47 0 46,Ln 48 47,Bc 49 .gtr 48 0] (Cd 49 (Rg [Fa 50 5 1 10,Ld 51 0 50,Mv 52 12,Ia 53 0 51 52,Ld 54 0 53,Mv 13 54]) .skip)) (Sr [Mv 55 13,Bc 56 .geq 55 0] (Cd 56 (.reg [Mv 57 11,Mv 58 13,Ia 59 0 57 58,Ld 60 0 59,Fa 61 1 1 5,Ld 62 0 61,Mv 63 12,Op 64 (.bin .add .none (ci 1) (.tmp 63)),Ia 65 2 62 64,Fa 66 0 1 65,Ld 67 0 66,Fa 68 3 1 10,Ld 69 0 68,Mv 70 12,Ia 71 0 69 70,Ld 72 0 71,Bn 73 .sub 67 72,Bn 74 .add 60 73,Ia 75 0 57 58,Sv 0 75 74] [0,0,3,7,0,16,0,64,240,496,1008,0,2048,0,14336,30720,65520,131071,262143,524287] true) .skip))))) (Rg [Mv 43 12,Bc 44 .add 43 1,Mv 12 44])))
def qkC:ICode:=(.seq (Sr [Mv 81 15,Mv 82 11,Ln 83 82,Bn 84 .lss 81 83] (Cd 84 .skip (.exit 2))) (.seq (.block 3 (.seq (.seq (.reg [Mv 87 11,Mv 88 15,Ia 89 0 87 88,Ld 90 0 89,Fa 91 4 1 10,Ld 92 0 91,Mv 93 15,Ia 94 0 92 93,Ld 95 0 94,Bn 96 .add 90 95,Bc 97 .gtr 96 1048576] [0,0,3,7,0,16,0,112,240,511,1023] true) (Cd 97 (Sr [Op 98 (.build [(.int .i64 0),.nil] []),Sv 2 6 98,Mc 7 1] .ret) .skip)) (.reg [Fa 99 1 1 14,Ld 100 0 99,Mv 101 11,Mv 102 15,Ia 103 0 101 102,Ld 104 0 103,Fa 105 4 1 10,Ld 106 0 105,Mv 107 15,Ia 108 0 106 107,Ld 109 0 108,Bn 110 .add 104 109,Op 111 (.build [(.int .i64 0),.nil] [(0,1,(.tmp 110))]),Op 112 (.rows 35 2 1 [(.int .i64 0),.nil] [(0,2,(.tmp 111))]),Op 113 (.app 35 2 (.tmp 100) (.tmp 112)),Fa 114 1 1 14,Sv 0 114 113] [0,1,0,0,12,28,0,64,0,448,960,2044,4092,8188,16383,32767,65535] true))) (Rg [Mv 85 15,Bc 86 .add 85 1,Mv 15 86])))
def i60:ICode:=(Sr [Bx 3 37 0,Bx 5 35 2,Op 6 (.alloc 35 [(.int .i64 0),.nil]),Mc 7 0] (Sr [Ld 17 10 3,Mv 18 1,Ld 19 2 5,Cl 20 110 [(.tmp 17),(.tmp 18),(.tmp 19)],Mv 16 20,Ex 21 16 0,Ex 22 16 1,Mv 8 21,Mv 9 22] (.seq (Sr [Mv 23 9,Bc 24 .neq 23 0] (Cd 24 (Sr [Op 25 (.build [(.int .i64 0),.nil] []),Mv 26 9,Sv 2 6 25,Mv 7 26] .ret) .skip)) (.seq (Sr [Mv 27 8,Nt 28 27] (Cd 28 (Sr [Op 29 (.build [(.int .i64 0),.nil] []),Sv 2 6 29,Mc 7 18] .ret) .skip)) (Sr [Fa 30 7 1 3,Ld 31 0 30,Mv 32 1,Ia 33 14 31 32,Ld 34 14 33,⟨some 10,.op (.alloc 91 [(.str ⟨#[]⟩),(.int .i64 0),(.int .i64 0),.nil,.nil,.nil,(.int .i64 0),(.int .i64 0),(.int .i64 0),.nil,.nil,.nil,.nil,(.int .i64 0)]),none⟩,Sv 14 10 34] (Sr [Fa 35 3 1 10,Ld 36 0 35,Ln 37 36,Op 38 (.mks 3 0 [(.int .i64 0)] (.tmp 37) (.tmp 37)),Mv 11 38] (.seq (Sr [Mc 12 0] (.block 0 (.loop qmC))) (Sr [Fa 76 2 1 10,Ld 77 0 76,Op 78 (.build [(.int .i64 0),.nil] [(0,1,(.tmp 77))]),Op 79 (.rows 35 2 1 [(.int .i64 0),.nil] [(0,2,(.tmp 78))]),Op 80 (.build [(.int .i64 0),.nil] [(1,1,(.tmp 79))]),Op 14 (.alloc 35 [(.int .i64 0),.nil]),Sv 2 14 80] (.seq (Sr [Mc 15 0] (.block 2 (.loop qkC))) (Sr [Ld 115 2 14,Sv 2 6 115,Mc 7 0] .ret))))))))))
theorem fn60:FnOk Tryz.prog 60 116 [(6,some 2),(7,none)] i60:=fnO Tryz.func60 Tryz.call60
def qkD:ICode:=(Sr [Bn 11 .lss 10 9] (.seq (Cd 11 .skip (.exit 0)) (.seq (.block 1 (Sr [Ia 12 2 8 10,Ld 13 2 12,Op 5 (.alloc 35 [(.int .i64 0),.nil]),Sv 2 5 13] (Rg [Mv 14 3,Fa 15 0 1 5,Ld 16 0 15,Op 17 (.rows 3 0 1 [(.int .i64 0)] [(0,1,(.tmp 16))]),Op 18 (.app 3 0 (.tmp 14) (.tmp 17)),Mv 3 18]))) (Rg [Bc 19 .add 10 1,Mv 10 19]))))
def i64:ICode:=(Sr [Bx 1 35 0,Op 2 (.mv (.con .nil))] (Sr [Op 3 (.mv (.con .nil))] (.seq (Sr [Fa 6 1 1 1,Ld 7 0 6,Op 8 (.slice 2 (.tmp 7) (some (ci 1)) none),Ln 9 8,Mc 10 0] (.block 0 (.loop qkD))) (Sr [Mv 20 3,Mv 2 20] .ret))))
def i67:ICode:=(Sr [⟨some 2,.op (.mv (.con (.str ⟨#[]⟩))),none⟩] (Sr [Mv 3 0,Cl 4 116 [(.tmp 3)],Mv 2 4] .ret))
theorem fn67:FnOk Tryz.prog 67 5 [(2,none)] i67:=fnO Tryz.func67 Tryz.call67
def qmE:ICode:=(Sr [Bn 66 .lss 65 64] (.seq (Cd 66 .skip (.exit 2)) (.seq (.block 3 (Sr [Ia 67 3 63 65,Ld 68 3 67,Op 9 (.alloc 85 [(.int .i64 0),(.int .i64 0),(.int .i64 0)]),Sv 3 9 68] (Sr [Mv 69 4,Bc 70 .add 69 1,Mv 4 70] (.seq (.reg [Fa 71 0 1 9,Ld 72 0 71,Bc 73 .lss 72 1,Mv 74 73,Gd 75 (.faddr 0 1 (.tmp 9)) 74 false,Gd 76 (.load 0 (.tmp 75)) 74 false,Gd 77 (.bin .gtr .none (.tmp 76) (ci 7)) 74 false,Op 78 (.pick (.tmp 74) (.con (.bool true)) (.tmp 77)),Mv 79 78,Gd 80 (.faddr 1 1 (.tmp 9)) 79 false,Gd 81 (.load 0 (.tmp 80)) 79 false,Gd 82 (.bin .lss .none (.tmp 81) (ci 0)) 79 false,Op 83 (.pick (.tmp 79) (.con (.bool true)) (.tmp 82)),Mv 84 83,Gd 85 (.faddr 1 1 (.tmp 9)) 84 false,Gd 86 (.load 0 (.tmp 85)) 84 false,Gd 87 (.load 2 (.tmp 1)) 84 false,Gd 88 (.load 2 (.tmp 7)) 84 false,Gd 89 (.load 3 (.tmp 9)) 84 false,Cg 90 119 [(.tmp 87),(.tmp 88),(.tmp 89)] 84 false,Gd 91 (.bin .geq .none (.tmp 86) (.tmp 90)) 84 false,Op 92 (.pick (.tmp 84) (.con (.bool true)) (.tmp 91)),Mv 93 92,Gd 94 (.faddr 2 1 (.tmp 9)) 93 false,Gd 95 (.load 0 (.tmp 94)) 93 false,Gm 96 4 93 false,Gd 97 (.bin .neq .none (.tmp 95) (.tmp 96)) 93 false,Op 98 (.pick (.tmp 93) (.con (.bool true)) (.tmp 97))] [0,1,3,7,15,31,63,127,255,511,1023,2047,4095,8191,16383,32767,16383,16383,16383,475135,1048575,2097151,4194303,8388607,16777215,8388607,67108863,134217727] true) (Cd 98 (Sr [Mc 2 47] .ret) .skip))))) (Rg [Bc 99 .add 65 1,Mv 65 99]))))
def qhD:ICode:=(Sr [Bn 29 .lss 28 27] (.seq (Cd 29 .skip (.exit 0)) (.seq (.block 1 (Sr [Ia 30 2 26 28,Ld 31 2 30,⟨some 7,.op (.alloc 88 [(.str ⟨#[]⟩),.nil]),none⟩,Sv 2 7 31] (Sr [Mv 32 3,Fa 33 1 1 7,Ld 34 0 33,Ln 35 34,Bn 36 .add 32 35,Mv 3 36] (.seq (Sr [Fa 37 1 1 7,Ld 38 0 37,Ln 39 38,Bc 40 .eql 39 0,Mv 41 40,Gm 42 3 41 false,Gd 43 (.bin .gtr .none (.tmp 42) (ci 6)) 41 false,Op 44 (.pick (.tmp 41) (.con (.bool true)) (.tmp 43)),Mv 45 44,Gd 46 (.faddr 0 1 (.tmp 7)) 45 false,Gd 47 (.load 0 (.tmp 46)) 45 false,Cg 48 118 [(.tmp 47)] 45 false,Gd 49 (.un .not (.tmp 48)) 45 false,Op 50 (.pick (.tmp 45) (.con (.bool true)) (.tmp 49)),Mv 51 50,Gm 52 5 51 false,Gd 53 (.faddr 0 1 (.tmp 7)) 51 false,Gd 54 (.load 0 (.tmp 53)) 51 false,Gd 55 (.look true (.bool false) false (.tmp 52) (.tmp 54)) 51 false,Op 56 (.pick (.tmp 51) (.con (.bool true)) (.tmp 55))] (Cd 56 (Sr [Mc 2 47] .ret) .skip)) (Sr [Mv 57 5,Fa 58 0 1 7,Ld 59 0 58,St (.mset true (.tmp 57) (.tmp 59) (.con (.bool true)))] (Sr [Mv 60 4,Bc 61 .add 60 1,Mv 4 61] (.seq (Sr [Fa 62 1 1 7,Ld 63 0 62,Ln 64 63,Mc 65 0] (.block 2 (.loop qmE))) (Rg [Mv 100 4,Bc 101 .add 100 1,Mv 4 101])))))))) (Rg [Bc 102 .add 28 1,Mv 28 102]))))
def i72:ICode:=(Sr [Bx 1 28 0,Mc 2 0] (.seq (Sr [Fa 10 0 1 1,Ld 11 0 10,Bc 12 .lss 11 1,Mv 13 12,Gd 14 (.faddr 0 1 (.tmp 1)) 13 false,Gd 15 (.load 0 (.tmp 14)) 13 false,Gd 16 (.bin .gtr .none (.tmp 15) (ci 8)) 13 false,Op 17 (.pick (.tmp 13) (.con (.bool true)) (.tmp 16)),Mv 18 17,Gd 19 (.faddr 1 1 (.tmp 1)) 18 false,Gd 20 (.load 0 (.tmp 19)) 18 false,Gd 21 (.len (.tmp 20)) 18 false,Gd 22 (.bin .eql .none (.tmp 21) (ci 0)) 18 false,Op 23 (.pick (.tmp 18) (.con (.bool true)) (.tmp 22))] (Cd 23 (Sr [Mc 2 47] .ret) .skip)) (Sr [Mc 3 0,Mc 4 1] (Sr [Op 24 (.mkmap),Mv 5 24] (.seq (Sr [Fa 25 1 1 1,Ld 26 0 25,Ln 27 26,Mc 28 0] (.block 0 (.loop qhD))) (Sr [Mc 2 0] .ret))))))
theorem fn72:FnOk Tryz.prog 72 103 [(2,none)] i72:=fnO Tryz.func72 Tryz.call72
def qkE:ICode:=(Sr [Bn 40 .lss 39 38] (.seq (Cd 40 .skip (.exit 4)) (.seq (.block 5 (Sr [Ia 41 5 37 39,Ld 42 5 41,Op 11 (.alloc 64 [(.int .i64 0),(.int .i64 0),(.int .i64 0),(.int .i64 0),(.int .i64 0)]),Sv 5 11 42] (Rg [Mv 43 3,Mv 44 7,Ld 45 5 11,Op 46 (.build [(.int .i64 0),(.int .i64 0),(.int .i64 0),(.int .i64 0),(.int .i64 0),(.int .i64 0)] [(0,1,(.tmp 44)),(1,5,(.tmp 45))]),Op 47 (.rows 100 6 1 [(.int .i64 0),(.int .i64 0),(.int .i64 0),(.int .i64 0),(.int .i64 0),(.int .i64 0)] [(0,6,(.tmp 46))]),Op 48 (.app 100 6 (.tmp 43) (.tmp 47)),Mv 3 48]))) (Rg [Bc 49 .add 39 1,Mv 39 49]))))
def qhF:ICode:=(Sr [Bn 28 .lss 27 26] (.seq (Cd 28 .skip (.exit 2)) (.seq (.block 3 (Sr [Mv 29 27,Mv 7 29] (Sr [Ld 31 2 1,Mv 32 7,Mv 33 6,Cl 34 50 [(.tmp 31),(.tmp 32),(.tmp 33)],Mv 30 34,Ex 35 30 0,Ex 36 30 1,Mv 8 35,Mv 9 36] (Sr [Mv 37 8,Ln 38 37,Mc 39 0] (.block 4 (.loop qkE)))))) (Rg [Bc 50 .add 27 1,Mv 27 50]))))
def qhE:ICode:=(Sr [Bn 17 .lss 16 15] (.seq (Cd 17 .skip (.exit 0)) (.seq (.block 1 (Sr [Mv 18 16,Mv 5 18] (Sr [Mv 19 4,Ln 20 19,Op 21 (.mks 3 0 [(.int .i64 0)] (.tmp 20) (.tmp 20)),Mv 6 21] (Sr [Mv 22 6,Mv 23 5,Ia 24 0 22 23,St (.store 0 (.tmp 24) (ci 1))] (Sr [Fa 25 0 1 1,Ld 26 0 25,Mc 27 0] (.block 2 (.loop qhF))))))) (Rg [Bc 51 .add 16 1,Mv 16 51]))))
def i73:ICode:=(Sr [Bx 1 28 0,Op 2 (.mv (.con .nil))] (Sr [Op 3 (.mv (.con .nil))] (Sr [Ld 12 2 1,Cl 13 39 [(.tmp 12)],Mv 4 13] (.seq (Sr [Mv 14 4,Ln 15 14,Mc 16 0] (.block 0 (.loop qhE))) (Sr [Mv 52 3,Mv 2 52] .ret)))))
theorem fn73:FnOk Tryz.prog 73 53 [(2,none)] i73:=fnO Tryz.func73 Tryz.call73
def i74:ICode:=(Sr [Bx 3 64 1,Mb 4 false] (Sr [Mv 5 0,Ld 6 5 3,Cl 7 120 [(.tmp 5),(.tmp 6)],Bc 8 .geq 7 0,Mv 4 8] .ret))
theorem fn74:FnOk Tryz.prog 74 9 [(4,none)] i74:=fnO Tryz.func74 Tryz.call74
def i75:ICode:=(Sr [Op 2 (.mv (.con .nil))] (.seq (Sr [Mv 3 0,Op 4 (.bin .eql .slice (.tmp 3) (.con .nil))] (Cd 4 (Sr [Op 2 (.mv (.con .nil))] .ret) .skip)) (Sr [Op 5 (.rows 3 0 0 [(.int .i64 0)] []),Mv 6 0,Op 7 (.app 3 0 (.tmp 5) (.tmp 6)),Mv 2 7] .ret)))
theorem fn75:FnOk Tryz.prog 75 8 [(2,none)] i75:=fnO Tryz.func75 Tryz.call75
def i76:ICode:=(.reg [Ld 8 0 3,Ld 9 0 4,Mv 10 0,Mv 11 1,Op 12 (.build [(.int .i64 0),(.int .i64 0)] [(0,1,(.tmp 10)),(1,1,(.tmp 11))]),Cl 13 43 [(.tmp 9),(.tmp 12)],Ia 14 0 8 13,Ld 15 0 14,Mv 16 2,Bn 17 .add 15 16,Ia 18 0 8 13,Sv 0 18 17] [0,0,0,0,12,30,63,127,0,511,1023,2047] true)
theorem fn76:FnOk Tryz.prog 76 19 [] i76:=fnO Tryz.func76 Tryz.call76
def qmF:ICode:=(.seq (Sr [Mv 12 4,Mv 13 0,Ln 14 13,Bn 15 .lss 12 14] (Cd 15 .skip (.exit 0))) (.seq (.block 1 (Rg [Mv 18 3,Mv 19 0,Mv 20 4,Ia 21 0 19 20,Ld 22 0 21,Op 23 (.mm true (.tmp 18) (.tmp 22)),Mv 3 23])) (Rg [Mv 16 4,Bc 17 .add 16 1,Mv 4 17])))
def i77:ICode:=(Sr [Mc 2 0] (.seq (Sr [Mv 5 0,Ln 6 5,Bc 7 .lss 6 1] (Cd 7 (Rg [Op 8 (.bad),St (.bad)]) .skip)) (Sr [Mv 9 0,Op 10 (.iaddr 0 none (.tmp 9) (ci 0)),Ld 11 0 10,Mv 3 11] (.seq (Sr [Mc 4 1] (.block 0 (.loop qmF))) (Sr [Mv 24 3,Mv 2 24] .ret)))))
theorem fn77:FnOk Tryz.prog 77 25 [(2,none)] i77:=fnO Tryz.func77 Tryz.call77
def qmG:ICode:=(Sr [Bn 9 .lss 8 7] (.seq (Cd 9 .skip (.exit 0)) (.seq (.block 1 (Sr [Ia 10 0 6 8,Ld 11 0 10,Mv 5 11] (Sr [Mv 12 5,Mv 13 3,Bn 14 .neq 12 13] (Cd 14 (Sr [Mv 15 5,Mv 2 15] .ret) .skip)))) (Rg [Bc 16 .add 8 1,Mv 8 16]))))
def i80:ICode:=(Sr [Mc 2 0] (Sr [Mc 3 0] (.seq (Sr [Mv 6 0,Ln 7 6,Mc 8 0] (.block 0 (.loop qmG))) (Sr [Mv 17 3,Mv 2 17] .ret))))
theorem fn80:FnOk Tryz.prog 80 18 [(2,none)] i80:=fnO Tryz.func80 Tryz.call80
def i81:ICode:=(Sr [Mc 4 0] (Sr [Mv 7 0,Cl 8 131 [(.tmp 7)],Mv 5 8] (Sr [Mv 9 1,Cl 10 131 [(.tmp 9)],Mv 6 10] (.seq (Sr [Mv 11 5] (Cd 11 (.seq (Sr [Mv 12 6] (Cd 12 (Sr [Mc 4 0] .ret) .skip)) (Sr [Op 4 (.mv (.con (.int .i64 (-1))))] .ret)) .skip)) (.seq (Sr [Mv 13 6] (Cd 13 (Sr [Mc 4 1] .ret) .skip)) (.seq (Sr [Mv 14 0,Mv 15 1,Bn 16 .lss 14 15] (Cd 16 (Sr [Op 4 (.mv (.con (.int .i64 (-1))))] .ret) .skip)) (.seq (Sr [Mv 17 0,Mv 18 1,Bn 19 .gtr 17 18] (Cd 19 (Sr [Mc 4 1] .ret) .skip)) (Sr [Mc 4 0] .ret))))))))
theorem fn81:FnOk Tryz.prog 81 20 [(4,none)] i81:=fnO Tryz.func81 Tryz.call81
def qmH:ICode:=(Sr [Bn 14 .lss 13 12] (.seq (Cd 14 .skip (.exit 0)) (.seq (.block 1 (Sr [Mv 15 13,Ia 16 2 11 13,Ld 17 2 16,Op 8 (.alloc 35 [(.int .i64 0),.nil]),Mv 7 15,Sv 2 8 17] (.seq (Sr [Mv 18 7,Mv 19 1,Ln 20 19,Bn 21 .geq 18 20] (Cd 21 (Sr [Mc 6 1] .ret) .skip)) (Sr [Mv 22 1,Mv 23 7,Ia 24 2 22 23,Ld 25 2 24,Op 9 (.alloc 35 [(.int .i64 0),.nil]),Sv 2 9 25] (Sr [Mv 26 2,Ld 27 2 8,Ld 28 2 9,⟨some 29,.call (.callv (.tmp 26) [(.tmp 27),(.tmp 28)]),none⟩,Mv 10 29] (Sr [Mv 30 10,Bc 31 .neq 30 0] (Cd 31 (Sr [Mv 32 10,Mv 6 32] .ret) .skip))))))) (Rg [Bc 33 .add 13 1,Mv 13 33]))))
def i82:ICode:=(Sr [Mc 6 0] (.seq (Sr [Mv 11 0,Ln 12 11,Mc 13 0] (.block 0 (.loop qmH))) (.seq (Sr [Mv 34 0,Ln 35 34,Mv 36 1,Ln 37 36,Bn 38 .lss 35 37] (Cd 38 (Sr [Op 6 (.mv (.con (.int .i64 (-1))))] .ret) .skip)) (Sr [Mc 6 0] .ret))))
theorem fn82:FnOk Tryz.prog 82 39 [(6,none)] i82:=fnO Tryz.func82 Tryz.call82
def i83:ICode:=(Sr [Mb 6 false] (Sr [Mv 7 0,Mv 8 1,Bn 9 .geq 7 8,Mv 10 9,Gm 11 0 10 true,Gm 12 2 10 true,Gd 13 (.bin .leq .none (.tmp 11) (.tmp 12)) 10 true,Op 14 (.pick (.tmp 10) (.tmp 13) (.con (.bool false))),Mv 6 14] .ret))
theorem fn83:FnOk Tryz.prog 83 15 [(6,none)] i83:=fnO Tryz.func83 Tryz.call83
def i84:ICode:=(Sr [Bx 1 37 0,Mb 2 false] (Sr [Fa 7 0 1 1,Ld 8 0 7,Bc 9 .eql 8 1,Mv 10 9,Gd 11 (.faddr 0 1 (.tmp 1)) 10 false,Gd 12 (.load 0 (.tmp 11)) 10 false,Gd 13 (.bin .eql .none (.tmp 12) (ci 6)) 10 false,Op 14 (.pick (.tmp 10) (.con (.bool true)) (.tmp 13)),Mv 3 14] (Sr [Fa 15 0 1 1,Ld 16 0 15,Bc 17 .eql 16 2,Mv 18 17,Gd 19 (.faddr 0 1 (.tmp 1)) 18 false,Gd 20 (.load 0 (.tmp 19)) 18 false,Gd 21 (.bin .eql .none (.tmp 20) (ci 3)) 18 false,Op 22 (.pick (.tmp 18) (.con (.bool true)) (.tmp 21)),Mv 4 22] (Sr [Mc 5 0,Mc 6 0] (.seq (Sr [Mv 23 3,Mv 24 23,Gd 25 (.faddr 0 1 (.tmp 1)) 24 false,Gd 26 (.load 0 (.tmp 25)) 24 false,Gd 27 (.bin .eql .none (.tmp 26) (ci 5)) 24 false,Op 28 (.pick (.tmp 24) (.con (.bool true)) (.tmp 27))] (Cd 28 (Rg [Mc 5 1,Mc 6 6]) .skip)) (.seq (Sr [Mv 29 4] (Cd 29 (Rg [Mc 5 1,Mc 6 2]) .skip)) (.seq (Sr [Fa 30 1 1 1,Ld 31 0 30,Ln 32 31,Cl 33 83 [(.tmp 32),(ci 1),(ci 8)],Nt 34 33,Mv 35 34,Gd 36 (.faddr 2 1 (.tmp 1)) 35 false,Gd 37 (.load 0 (.tmp 36)) 35 false,Gd 38 (.len (.tmp 37)) 35 false,Gm 39 5 35 false,Gm 40 6 35 false,Cg 41 83 [(.tmp 38),(.tmp 39),(.tmp 40)] 35 false,Gd 42 (.un .not (.tmp 41)) 35 false,Op 43 (.pick (.tmp 35) (.con (.bool true)) (.tmp 42)),Mv 44 43,Gd 45 (.faddr 7 1 (.tmp 1)) 44 false,Gd 46 (.load 0 (.tmp 45)) 44 false,Gd 47 (.len (.tmp 46)) 44 false,Gd 48 (.bin .gtr .none (.tmp 47) (ci 12)) 44 false,Op 49 (.pick (.tmp 44) (.con (.bool true)) (.tmp 48))] (Cd 49 (Sr [Mb 2 false] .ret) .skip)) (Sr [Mc 5 0,Mc 6 0] (.seq (Sr [Mv 50 4,Mv 51 50,Gd 52 (.faddr 0 1 (.tmp 1)) 51 false,Gd 53 (.load 0 (.tmp 52)) 51 false,Gd 54 (.bin .eql .none (.tmp 53) (ci 4)) 51 false,Op 55 (.pick (.tmp 51) (.con (.bool true)) (.tmp 54))] (Cd 55 (Rg [Mc 5 1,Mc 6 6]) .skip)) (.seq (Sr [Fa 56 3 1 1,Ld 57 0 56,Ln 58 57,Mv 59 5,Mv 60 6,Cl 61 83 [(.tmp 58),(.tmp 59),(.tmp 60)],Nt 62 61] (Cd 62 (Sr [Mb 2 false] .ret) .skip)) (Sr [Mc 5 0,Mc 6 0] (.seq (Sr [Fa 63 0 1 1,Ld 64 0 63,Bc 65 .eql 64 4] (Cd 65 (Rg [Mc 5 1,Mc 6 2]) .skip)) (.seq (Sr [Fa 66 5 1 1,Ld 67 0 66,Mv 68 5,Mv 69 6,Cl 70 83 [(.tmp 67),(.tmp 68),(.tmp 69)],Nt 71 70] (Cd 71 (Sr [Mb 2 false] .ret) .skip)) (.seq (Sr [Fa 72 0 1 1,Ld 73 0 72,Bc 74 .eql 73 5] (Cd 74 (Sr [Fa 75 6 1 1,Ld 76 0 75,Cl 77 83 [(.tmp 76),(ci 0),(ci 3)],Mv 2 77] .ret) .skip)) (Sr [Fa 78 6 1 1,Ld 79 0 78,Bc 80 .eql 79 0,Mv 2 80] .ret)))))))))))))))
theorem fn84:FnOk Tryz.prog 84 81 [(2,none)] i84:=fnO Tryz.func84 Tryz.call84
def qmI:ICode:=(.seq (Sr [Mv 18 3,Fa 19 4 1 1,Ld 20 0 19,Ln 21 20,Bn 22 .lss 18 21] (Cd 22 .skip (.exit 0))) (.seq (.block 1 (Sr [Fa 25 4 1 1,Ld 26 0 25,Mv 27 3,Ia 28 0 26 27,Ld 29 0 28,Cl 30 83 [(.tmp 29),(ci 0),(ci 5)],Nt 31 30] (Cd 31 (Sr [Mb 2 false] .ret) .skip))) (Rg [Mv 23 3,Bc 24 .add 23 1,Mv 3 24])))
def i85:ICode:=(Sr [Bx 1 37 0,Mb 2 false] (.seq (Sr [Fa 4 0 1 1,Ld 5 0 4,Bc 6 .neq 5 3] (Cd 6 (Sr [Fa 7 4 1 1,Ld 8 0 7,Ln 9 8,Bc 10 .eql 9 0,Mv 2 10] .ret) .skip)) (.seq (Sr [Fa 11 4 1 1,Ld 12 0 11,Ln 13 12,Fa 14 3 1 1,Ld 15 0 14,Ln 16 15,Bn 17 .neq 13 16] (Cd 17 (Sr [Mb 2 false] .ret) .skip)) (.seq (Sr [Mc 3 0] (.block 0 (.loop qmI))) (Sr [Mb 2 true] .ret)))))
theorem fn85:FnOk Tryz.prog 85 32 [(2,none)] i85:=fnO Tryz.func85 Tryz.call85
def qmJ:ICode:=(.seq (Sr [Mv 16 4,Fa 17 7 1 1,Ld 18 0 17,Ln 19 18,Bn 20 .lss 16 19] (Cd 20 .skip (.exit 0))) (.seq (.block 1 (Rg [Mv 23 3,Fa 24 7 1 1,Ld 25 0 24,Mv 26 4,Ia 27 14 25 26,Fa 28 0 1 27,Ld 29 0 28,⟨some 30,.op (.rows 9 0 1 [(.str ⟨#[]⟩)] [(0,1,(.tmp 29))]),none⟩,Op 31 (.app 9 0 (.tmp 23) (.tmp 30)),Mv 3 31])) (Rg [Mv 21 4,Bc 22 .add 21 1,Mv 4 22])))
def qmL:ICode:=(.seq (Sr [Mv 51 6,Mv 52 5,Bn 53 .lss 51 52] (Cd 53 .skip (.exit 4))) (.seq (.block 5 (.seq (.reg [Mv 56 3,Mv 57 6,Ia 58 0 56 57,Ld 59 0 58,Mv 60 3,Mv 61 5,Ia 62 0 60 61,Ld 63 0 62,Bn 64 .eql 59 63] [0,0,3,7,0,0,48,112,255] true) (Cd 64 (Sr [Mb 2 false] .ret) .skip))) (Rg [Mv 54 6,Bc 55 .add 54 1,Mv 6 55])))
def qmK:ICode:=(.seq (Sr [Mv 32 5,Mv 33 3,Ln 34 33,Bn 35 .lss 32 34] (Cd 35 .skip (.exit 2))) (.seq (.block 3 (.seq (Sr [Mv 38 3,Mv 39 5,Ia 40 0 38 39,Ld 41 0 40,Cl 42 132 [(.tmp 41)],Nt 43 42,Mv 44 43,Gm 45 3 44 false,Gm 46 5 44 false,Gd 47 (.iaddr 0 none (.tmp 45) (.tmp 46)) 44 false,Gd 48 (.load 0 (.tmp 47)) 44 false,Cg 49 133 [(.tmp 48)] 44 false,Op 50 (.pick (.tmp 44) (.con (.bool true)) (.tmp 49))] (Cd 50 (Sr [Mb 2 false] .ret) .skip)) (Sr [Mc 6 0] (.block 4 (.loop qmL))))) (Rg [Mv 36 5,Bc 37 .add 36 1,Mv 5 37])))
def i86:ICode:=(Sr [Bx 1 37 0,Mb 2 false] (.seq (.reg [Fa 7 1 1 1,Ld 8 0 7,Op 9 (.app 9 0 (.con .nil) (.tmp 8)),Fa 10 2 1 1,Ld 11 0 10,Op 12 (.app 9 0 (.tmp 9) (.tmp 11)),Fa 13 3 1 1,Ld 14 0 13,Op 15 (.app 9 0 (.tmp 12) (.tmp 14)),Mv 3 15] [0,1,3,0,8,31,0,64,255,511] true) (.seq (Sr [Mc 4 0] (.block 0 (.loop qmJ))) (.seq (Sr [Mc 5 0] (.block 2 (.loop qmK))) (Sr [Mb 2 true] .ret)))))
theorem fn86:FnOk Tryz.prog 86 65 [(2,none)] i86:=fnO Tryz.func86 Tryz.call86
def i87:ICode:=(Sr [Bx 2 37 0,Bx 3 91 1,Mb 4 false] (Sr [Mc 5 0] (.seq (Sr [Fa 8 0 1 2,Ld 9 0 8,Bc 10 .eql 9 6] (Cd 10 (Rg [Op 5 (.mv (.con (.int .i64 (-1))))]) .skip)) (.seq (Sr [Fa 11 1 1 3,Ld 12 0 11,Mv 13 5,Fa 14 1 1 2,Ld 15 0 14,Ln 16 15,Bc 17 .sub 16 1,Cl 18 83 [(.tmp 12),(.tmp 13),(.tmp 17)],Nt 19 18,Mv 20 19,Gd 21 (.faddr 2 1 (.tmp 3)) 20 false,Gd 22 (.load 0 (.tmp 21)) 20 false,Gd 23 (.faddr 1 1 (.tmp 2)) 20 false,Gd 24 (.load 0 (.tmp 23)) 20 false,Gd 25 (.len (.tmp 24)) 20 false,Gd 26 (.bin .sub .none (.tmp 25) (ci 1)) 20 false,Cg 27 83 [(.tmp 22),(ci 0),(.tmp 26)] 20 false,Gd 28 (.un .not (.tmp 27)) 20 false,Op 29 (.pick (.tmp 20) (.con (.bool true)) (.tmp 28))] (Cd 29 (Sr [Mb 4 false] .ret) .skip)) (Sr [Fa 30 0 1 2,Ld 31 0 30,Bc 32 .eql 31 1,Mv 33 32,Gd 34 (.faddr 0 1 (.tmp 2)) 33 false,Gd 35 (.load 0 (.tmp 34)) 33 false,Gd 36 (.bin .eql .none (.tmp 35) (ci 6)) 33 false,Op 37 (.pick (.tmp 33) (.con (.bool true)) (.tmp 36)),Mv 6 37] (Sr [Fa 38 0 1 2,Ld 39 0 38,Bc 40 .eql 39 2,Mv 41 40,Gd 42 (.faddr 0 1 (.tmp 2)) 41 false,Gd 43 (.load 0 (.tmp 42)) 41 false,Gd 44 (.bin .eql .none (.tmp 43) (ci 3)) 41 false,Op 45 (.pick (.tmp 41) (.con (.bool true)) (.tmp 44)),Mv 7 45] (.seq (Sr [Mv 46 6] (Cd 46 (Sr [Fa 47 3 1 3,Ld 48 0 47,Fa 49 2 1 2,Ld 50 0 49,Ln 51 50,Cl 52 134 [(.tmp 48),(.tmp 51),(ci 0),(ci 16)],Nt 53 52,Mv 54 53,Gd 55 (.faddr 4 1 (.tmp 3)) 54 false,Gd 56 (.load 0 (.tmp 55)) 54 false,Gd 57 (.faddr 2 1 (.tmp 2)) 54 false,Gd 58 (.load 0 (.tmp 57)) 54 false,Gd 59 (.len (.tmp 58)) 54 false,Cg 60 134 [(.tmp 56),(.tmp 59),(ci 0),(ci 16)] 54 false,Gd 61 (.un .not (.tmp 60)) 54 false,Op 62 (.pick (.tmp 54) (.con (.bool true)) (.tmp 61))] (Cd 62 (Sr [Mb 4 false] .ret) .skip)) (Sr [Fa 63 3 1 3,Ld 64 0 63,Ln 65 64,Bc 66 .gtr 65 0,Mv 67 66,Gd 68 (.faddr 4 1 (.tmp 3)) 67 false,Gd 69 (.load 0 (.tmp 68)) 67 false,Gd 70 (.len (.tmp 69)) 67 false,Gd 71 (.bin .gtr .none (.tmp 70) (ci 0)) 67 false,Op 72 (.pick (.tmp 67) (.con (.bool true)) (.tmp 71))] (Cd 72 (Sr [Mb 4 false] .ret) .skip)))) (.seq (Sr [Fa 73 5 1 3,Ld 74 0 73,Ln 75 74,Bc 76 .gtr 75 0,Mv 77 76,Gd 78 (.faddr 0 1 (.tmp 2)) 77 true,Gd 79 (.load 0 (.tmp 78)) 77 true,Gd 80 (.bin .neq .none (.tmp 79) (ci 1)) 77 true,Gm 81 80 77 true,Gd 82 (.faddr 5 1 (.tmp 3)) 81 false,Gd 83 (.load 0 (.tmp 82)) 81 false,Gd 84 (.faddr 2 1 (.tmp 2)) 81 false,Gd 85 (.load 0 (.tmp 84)) 81 false,Gd 86 (.len (.tmp 85)) 81 false,Gd 87 (.faddr 2 1 (.tmp 2)) 81 false,Gd 88 (.load 0 (.tmp 87)) 81 false,Gd 89 (.len (.tmp 88)) 81 false,Gd 90 (.bin .sub .none (.tmp 89) (ci 1)) 81 false,Cg 91 134 [(.tmp 83),(.tmp 86),(.con (.int .i64 (-1))),(.tmp 90)] 81 false,Gd 92 (.un .not (.tmp 91)) 81 false,Gd 93 (.pick (.tmp 81) (.con (.bool true)) (.tmp 92)) 77 true,Op 94 (.pick (.tmp 77) (.tmp 93) (.con (.bool false)))] (Cd 94 (Sr [Mb 4 false] .ret) .skip)) (.seq (Sr [Mv 95 7] (Cd 95 (Sr [Fa 96 7 1 3,Ld 97 0 96,Cl 98 83 [(.tmp 97),(ci 0),(ci 2)],Nt 99 98,Mv 100 99,Gd 101 (.faddr 6 1 (.tmp 3)) 100 false,Gd 102 (.load 0 (.tmp 101)) 100 false,Gd 103 (.faddr 2 1 (.tmp 2)) 100 false,Gd 104 (.load 0 (.tmp 103)) 100 false,Gd 105 (.len (.tmp 104)) 100 false,Gd 106 (.bin .sub .none (.tmp 105) (ci 1)) 100 false,Cg 107 83 [(.tmp 102),(ci 0),(.tmp 106)] 100 false,Gd 108 (.un .not (.tmp 107)) 100 false,Op 109 (.pick (.tmp 100) (.con (.bool true)) (.tmp 108)),Mv 110 109,Gd 111 (.faddr 8 1 (.tmp 3)) 110 false,Gd 112 (.load 0 (.tmp 111)) 110 false,Gd 113 (.faddr 3 1 (.tmp 2)) 110 false,Gd 114 (.load 0 (.tmp 113)) 110 false,Gd 115 (.len (.tmp 114)) 110 false,Gd 116 (.bin .sub .none (.tmp 115) (ci 1)) 110 false,Cg 117 83 [(.tmp 112),(ci 0),(.tmp 116)] 110 false,Gd 118 (.un .not (.tmp 117)) 110 false,Op 119 (.pick (.tmp 110) (.con (.bool true)) (.tmp 118)),Mv 120 119,Gd 121 (.faddr 7 1 (.tmp 3)) 120 false,Gd 122 (.load 0 (.tmp 121)) 120 false,Gd 123 (.bin .eql .none (.tmp 122) (ci 0)) 120 false,Gm 124 123 120 false,Gd 125 (.faddr 6 1 (.tmp 3)) 124 true,Gd 126 (.load 0 (.tmp 125)) 124 true,Gd 127 (.bin .neq .none (.tmp 126) (ci 0)) 124 true,Gm 128 127 124 true,Gd 129 (.faddr 8 1 (.tmp 3)) 128 false,Gd 130 (.load 0 (.tmp 129)) 128 false,Gd 131 (.bin .neq .none (.tmp 130) (ci 0)) 128 false,Gd 132 (.pick (.tmp 128) (.con (.bool true)) (.tmp 131)) 124 true,Gd 133 (.pick (.tmp 124) (.tmp 132) (.con (.bool false))) 120 false,Op 134 (.pick (.tmp 120) (.con (.bool true)) (.tmp 133))] (Cd 134 (Sr [Mb 4 false] .ret) .skip)) (Sr [Fa 135 6 1 3,Ld 136 0 135,Bc 137 .neq 136 0,Mv 138 137,Gd 139 (.faddr 7 1 (.tmp 3)) 138 false,Gd 140 (.load 0 (.tmp 139)) 138 false,Gd 141 (.bin .neq .none (.tmp 140) (ci 0)) 138 false,Op 142 (.pick (.tmp 138) (.con (.bool true)) (.tmp 141)),Mv 143 142,Gd 144 (.faddr 8 1 (.tmp 3)) 143 false,Gd 145 (.load 0 (.tmp 144)) 143 false,Gd 146 (.bin .neq .none (.tmp 145) (ci 0)) 143 false,Op 147 (.pick (.tmp 143) (.con (.bool true)) (.tmp 146))] (Cd 147 (Sr [Mb 4 false] .ret) .skip)))) (.seq (Sr [Fa 148 0 1 2,Ld 149 0 148,Bc 150 .eql 149 4] (Cd 150 (Sr [Fa 151 9 1 3,Ld 152 0 151,Fa 153 5 1 2,Ld 154 0 153,Fa 155 3 1 2,Ld 156 0 155,Ln 157 156,Bc 158 .sub 157 1,Cl 159 135 [(.tmp 152),(.tmp 154),(.tmp 158)],Nt 160 159,Mv 161 160,Gd 162 (.faddr 10 1 (.tmp 3)) 161 false,Gd 163 (.load 0 (.tmp 162)) 161 false,Gd 164 (.faddr 5 1 (.tmp 2)) 161 false,Gd 165 (.load 0 (.tmp 164)) 161 false,Gd 166 (.faddr 3 1 (.tmp 2)) 161 false,Gd 167 (.load 0 (.tmp 166)) 161 false,Gd 168 (.len (.tmp 167)) 161 false,Gd 169 (.bin .sub .none (.tmp 168) (ci 1)) 161 false,Cg 170 135 [(.tmp 163),(.tmp 165),(.tmp 169)] 161 false,Gd 171 (.un .not (.tmp 170)) 161 false,Op 172 (.pick (.tmp 161) (.con (.bool true)) (.tmp 171)),Mv 173 172,Gd 174 (.faddr 9 1 (.tmp 3)) 173 false,Gd 175 (.load 0 (.tmp 174)) 173 false,Gd 176 (.len (.tmp 175)) 173 false,Gd 177 (.faddr 10 1 (.tmp 3)) 173 false,Gd 178 (.load 0 (.tmp 177)) 173 false,Gd 179 (.len (.tmp 178)) 173 false,Gd 180 (.bin .add .none (.tmp 176) (.tmp 179)) 173 false,Gd 181 (.bin .eql .none (.tmp 180) (ci 0)) 173 false,Op 182 (.pick (.tmp 173) (.con (.bool true)) (.tmp 181))] (Cd 182 (Sr [Mb 4 false] .ret) .skip)) (Sr [Fa 183 9 1 3,Ld 184 0 183,Ln 185 184,Bc 186 .gtr 185 0,Mv 187 186,Gd 188 (.faddr 10 1 (.tmp 3)) 187 false,Gd 189 (.load 0 (.tmp 188)) 187 false,Gd 190 (.len (.tmp 189)) 187 false,Gd 191 (.bin .gtr .none (.tmp 190) (ci 0)) 187 false,Op 192 (.pick (.tmp 187) (.con (.bool true)) (.tmp 191))] (Cd 192 (Sr [Mb 4 false] .ret) .skip)))) (.seq (Sr [Fa 193 0 1 2,Ld 194 0 193,Bc 195 .eql 194 5] (Cd 195 (Sr [Ld 196 10 2,Ld 197 14 3,Cl 198 136 [(.tmp 196),(.tmp 197)],Nt 199 198] (Cd 199 (Sr [Mb 4 false] .ret) .skip)) (Sr [Fa 200 11 1 3,Ld 201 0 200,Ln 202 201,Bc 203 .gtr 202 0,Mv 204 203,Gd 205 (.faddr 12 1 (.tmp 3)) 204 false,Gd 206 (.load 0 (.tmp 205)) 204 false,Gd 207 (.len (.tmp 206)) 204 false,Gd 208 (.bin .gtr .none (.tmp 207) (ci 0)) 204 false,Op 209 (.pick (.tmp 204) (.con (.bool true)) (.tmp 208))] (Cd 209 (Sr [Mb 4 false] .ret) .skip)))) (.seq (Sr [Fa 210 0 1 2,Ld 211 0 210,Bc 212 .neq 211 6] (Cd 212 (Sr [Fa 213 13 1 3,Ld 214 0 213,Bc 215 .eql 214 0,Mv 4 215] .ret) .skip)) (.seq (Sr [Fa 216 1 1 3,Ld 217 0 216,Op 218 (.bin .eql .none (.tmp 217) (.con (.int .i64 (-1))))] (Cd 218 (Sr [Fa 219 13 1 3,Ld 220 0 219,Op 221 (.bin .eql .none (.tmp 220) (.con (.int .i64 (-1)))),Mv 222 221,Gd 223 (.faddr 3 1 (.tmp 3)) 222 true,Gd 224 (.load 0 (.tmp 223)) 222 true,Cg 225 137 [(.tmp 224)] 222 true,Op 226 (.pick (.tmp 222) (.tmp 225) (.con (.bool false))),Mv 4 226] .ret) .skip)) (Sr [Fa 227 13 1 3,Ld 228 0 227,Fa 229 1 1 2,Ld 230 0 229,Ln 231 230,Bc 232 .sub 231 1,Cl 233 83 [(.tmp 228),(.con (.int .i64 (-1))),(.tmp 232)],Mv 4 233] .ret))))))))))))))
theorem fn87:FnOk Tryz.prog 87 234 [(4,none)] i87:=fnO Tryz.func87 Tryz.call87
def i88:ICode:=(Sr [Op 2 (.mv (.con .nil))] (Sr [Mv 3 0,Op 4 (.app 3 0 (.con .nil) (.tmp 3)),Mv 2 4] .ret))
theorem fn88:FnOk Tryz.prog 88 5 [(2,none)] i88:=fnO Tryz.func88 Tryz.call88
def i89:ICode:=(Sr [Mb 2 false] (Sr [Mv 3 0,Cl 4 132 [(.tmp 3)],Mv 5 4,Gm 6 0 5 true,⟨some 7,.op (.bin .neq .none (.tmp 6) (.con (.str ⟨#[118,97,108,117,101,115]⟩))),some (5,true)⟩,Op 8 (.pick (.tmp 5) (.tmp 7) (.con (.bool false))),Mv 9 8,Gm 10 0 9 true,⟨some 11,.op (.bin .neq .none (.tmp 10) (.con (.str ⟨#[116,104,114,101,97,100]⟩))),some (9,true)⟩,Op 12 (.pick (.tmp 9) (.tmp 11) (.con (.bool false))),Mv 13 12,Gm 14 0 13 true,⟨some 15,.op (.bin .neq .none (.tmp 14) (.con (.str ⟨#[101,110,100]⟩))),some (13,true)⟩,Op 16 (.pick (.tmp 13) (.tmp 15) (.con (.bool false))),Mv 2 16] .ret))
theorem fn89:FnOk Tryz.prog 89 17 [(2,none)] i89:=fnO Tryz.func89 Tryz.call89
def i90:ICode:=(Sr [Mb 4 false] (Sr [Mv 5 0,Mv 6 1,Cl 7 138 [(.tmp 5),(.tmp 6)],Bc 8 .geq 7 0,Mv 4 8] .ret))
theorem fn90:FnOk Tryz.prog 90 9 [(4,none)] i90:=fnO Tryz.func90 Tryz.call90
def i91:ICode:=(Sr [Mb 2 false] (Sr [Mv 3 0,Bc 4 .lss 3 0,Mv 5 4,Gm 6 0 5 false,Gd 7 (.bin .gtr .none (.tmp 6) (ci 1048576)) 5 false,Op 8 (.pick (.tmp 5) (.con (.bool true)) (.tmp 7)),Mv 2 8] .ret))
theorem fn91:FnOk Tryz.prog 91 9 [(2,none)] i91:=fnO Tryz.func91 Tryz.call91
def qdE:ICode:=(Sr [Bn 67 .lss 66 65] (.seq (Cd 67 .skip (.exit 1)) (.seq (.block 2 (Sr [Ia 68 0 64 66,Ld 69 0 68,Mv 13 69] (Rg [Mv 70 11,Op 71 (.iaddr 0 (some 2) (.tmp 4) (ci 0)),Ld 72 0 71,Op 73 (.iaddr 0 (some 2) (.tmp 4) (ci 1)),Ld 74 0 73,Fa 75 2 1 8,Ld 76 0 75,Mv 77 2,Mv 78 13,Op 79 (.build [(.int .i64 0),(.int .i64 0),(.int .i64 0),(.int .i64 0),(.int .i64 0)] [(0,1,(.tmp 72)),(1,1,(.tmp 74)),(2,1,(.tmp 76)),(3,1,(.tmp 77)),(4,1,(.tmp 78))]),Op 80 (.rows 64 5 1 [(.int .i64 0),(.int .i64 0),(.int .i64 0),(.int .i64 0),(.int .i64 0)] [(0,5,(.tmp 79))]),Op 81 (.app 64 5 (.tmp 70) (.tmp 80)),Mv 11 81]))) (Rg [Bc 82 .add 66 1,Mv 66 82]))))
def i92:ICode:=(Sr [Bx 3 28 0,Bx 4 102 1,Op 6 (.mv (.con .nil))] (Sr [Fa 14 1 1 3,Ld 15 0 14,Op 16 (.iaddr 0 (some 2) (.tmp 4) (ci 0)),Ld 17 0 16,Ia 18 2 15 17,Ld 19 2 18,⟨some 7,.op (.alloc 88 [(.str ⟨#[]⟩),.nil]),none⟩,Sv 2 7 19] (Sr [Fa 20 1 1 7,Ld 21 0 20,Op 22 (.iaddr 0 (some 2) (.tmp 4) (ci 1)),Ld 23 0 22,Ia 24 3 21 23,Ld 25 3 24,Op 8 (.alloc 85 [(.int .i64 0),(.int .i64 0),(.int .i64 0)]),Sv 3 8 25] (Sr [Op 26 (.iaddr 0 (some 2) (.tmp 4) (ci 1)),Ld 27 0 26,Bc 28 .add 27 1,Mv 9 28] (.seq (Sr [Mv 29 9,Fa 30 1 1 7,Ld 31 0 30,Ln 32 31,Bn 33 .eql 29 32] (Cd 33 (Rg [Op 9 (.mv (.con (.int .i64 (-1))))]) .skip)) (Sr [Mv 34 9,Op 35 (.rows 3 0 1 [(.int .i64 0)] [(0,1,(.tmp 34))]),Mv 10 35] (.seq (Sr [Fa 36 0 1 8,Ld 37 0 36] (.block 0 (Sr [Bc 39 .eql 37 1,Mv 38 39] (Cd 38 (Rg [Fa 40 1 1 8,Ld 41 0 40,Mv 2 41]) (Sr [Bc 43 .eql 37 2,Mv 42 43] (Cd 42 (Sr [Mv 44 2,Fa 45 1 1 8,Ld 46 0 45,Bn 47 .neq 44 46] (Cd 47 (Sr [Op 6 (.mv (.con .nil))] .ret) .skip)) (Sr [Bc 49 .eql 37 3,Mv 48 49] (Cd 48 (Rg [Fa 50 1 1 8,Ld 51 0 50,Op 52 (.rows 3 0 1 [(.int .i64 0)] [(0,1,(.tmp 51))]),Mv 10 52]) (Sr [Bc 54 .eql 37 4,Mv 53 54] (Cd 53 (Rg [Fa 55 1 1 8,Ld 56 0 55,Mv 57 9,Cl 58 139 [(.tmp 56),(.tmp 57)],Mv 10 58]) (Sr [Bc 60 .eql 37 6,Mv 59 60] (Cd 59 (Rg [Op 61 (.rows 3 0 1 [(.int .i64 0)] [(0,1,(.con (.int .i64 (-1))))]),Mv 10 61]) (Sr [Bc 63 .eql 37 7,Mv 62 63] (Cd 62 (Sr [Op 6 (.mv (.con .nil))] .ret) .skip)))))))))))))) (Sr [Op 11 (.mv (.con .nil))] (.seq (Sr [Mv 64 10,Ln 65 64,Mc 66 0] (.block 1 (.loop qdE))) (Sr [Mv 83 11,Mv 6 83] .ret))))))))))
theorem fn92:FnOk Tryz.prog 92 84 [(6,none)] i92:=fnO Tryz.func92 Tryz.call92
def i93:ICode:=(Sr [Bx 1 45 0,Mc 2 0] (.seq (Sr [Ld 3 4 1,Cl 4 140 [(.tmp 3),(ci 8)],Nt 5 4] (Cd 5 (Sr [Mc 2 6] .ret) .skip)) (Sr [Mc 2 0] .ret)))
theorem fn93:FnOk Tryz.prog 93 6 [(2,none)] i93:=fnO Tryz.func93 Tryz.call93
def qmM:ICode:=(.seq (Sr [Mv 7 6,Fa 8 1 1 2,Ld 9 0 8,Ln 10 9,Bn 11 .lss 7 10,Mv 12 11,Gm 13 5 12 true,Gm 14 1 12 true,Gd 15 (.bin .leq .none (.tmp 13) (.tmp 14)) 12 true,Op 16 (.pick (.tmp 12) (.tmp 15) (.con (.bool false)))] (Cd 16 .skip (.exit 0))) (.seq (.block 1 (Rg [Mv 19 5,Fa 20 1 1 2,Ld 21 0 20,Mv 22 6,Ia 23 2 21 22,Ld 24 2 23,Mv 25 1,Mv 26 5,Bn 27 .sub 25 26,Cl 28 94 [(.tmp 24),(.tmp 27)],Bn 29 .add 19 28,Mv 5 29])) (Rg [Mv 17 6,Bc 18 .add 17 1,Mv 6 18])))
def i94:ICode:=(Sr [Bx 2 35 0,Mc 4 0] (Sr [Mc 5 1] (.seq (Sr [Mc 6 0] (.block 0 (.loop qmM))) (Sr [Mv 30 5,Mv 4 30] .ret))))
theorem fn94:FnOk Tryz.prog 94 31 [(4,none)] i94:=fnO Tryz.func94 Tryz.call94
def qmN:ICode:=(.seq (Sr [Mv 68 5,Fa 69 1 1 3,Ld 70 0 69,Ln 71 70,Bn 72 .lss 68 71] (Cd 72 .skip (.exit 1))) (.seq (.block 2 (.seq (.reg [Fa 75 3 1 2,Ld 76 0 75,Mv 77 5,Ia 78 4 76 77,Ld 79 4 78,Fa 80 1 1 3,Ld 81 0 80,Mv 82 5,Ia 83 2 81 82,Ld 84 2 83,Cl 85 95 [(.tmp 79),(.tmp 84)],Nt 86 85] [0,1,0,7,15,0,32,0,224,480,1023,2047] true) (Cd 86 (Sr [Mb 4 false] .ret) .skip))) (Rg [Mv 73 5,Bc 74 .add 73 1,Mv 5 74])))
def qhG:ICode:=(.seq (Sr [Mv 96 6,Fa 97 1 1 3,Ld 98 0 97,Ln 99 98,Bn 100 .lss 96 99] (Cd 100 .skip (.exit 3))) (.seq (.block 4 (.seq (Sr [Fa 103 0 1 2,Ld 104 0 103,Bc 105 .eql 104 7] (Cd 105 (.seq (.seq (.reg [Fa 106 1 1 3,Ld 107 0 106,Mv 108 6,Ia 109 2 107 108,Fa 110 0 1 109,Ld 111 0 110,Bc 112 .lss 111 0,Mv 113 112,Gd 114 (.faddr 1 1 (.tmp 3)) 113 false,Gd 115 (.load 0 (.tmp 114)) 113 false,Gm 116 6 113 false,Gd 117 (.iaddr 2 none (.tmp 115) (.tmp 116)) 113 false,Gd 118 (.faddr 0 1 (.tmp 117)) 113 false,Gd 119 (.load 0 (.tmp 118)) 113 false,Gd 120 (.faddr 1 1 (.tmp 2)) 113 false,Gd 121 (.load 0 (.tmp 120)) 113 false,Gd 122 (.bin .geq .none (.tmp 119) (.tmp 121)) 113 false,Op 123 (.pick (.tmp 113) (.con (.bool true)) (.tmp 122)),Mv 124 123,Gd 125 (.faddr 1 1 (.tmp 3)) 124 false,Gd 126 (.load 0 (.tmp 125)) 124 false,Gm 127 6 124 false,Gd 128 (.iaddr 2 none (.tmp 126) (.tmp 127)) 124 false,Gd 129 (.faddr 1 1 (.tmp 128)) 124 false,Gd 130 (.load 0 (.tmp 129)) 124 false,Gd 131 (.len (.tmp 130)) 124 false,Gd 132 (.bin .gtr .none (.tmp 131) (ci 0)) 124 false,Op 133 (.pick (.tmp 124) (.con (.bool true)) (.tmp 132))] [0,1,0,7,15,31,63,127,255,511,255,2047,4095,8191,255,16639,65535,131071,262143,524287,1048575,524287,4194303,8388607,16777215,33554431,67108863,134217727] true) (Cd 133 (Sr [Mb 4 false] .ret) .skip)) (.exit 4)) .skip)) (.seq (.reg [Fa 134 3 1 2,Ld 135 0 134,Op 136 (.iaddr 4 none (.tmp 135) (ci 0)),Ld 137 4 136,Fa 138 1 1 3,Ld 139 0 138,Mv 140 6,Ia 141 2 139 140,Ld 142 2 141,Cl 143 95 [(.tmp 137),(.tmp 142)],Nt 144 143,Mv 145 144,Gd 146 (.faddr 0 1 (.tmp 2)) 145 false,Gd 147 (.load 0 (.tmp 146)) 145 false,Gd 148 (.bin .eql .none (.tmp 147) (ci 5)) 145 false,Gm 149 148 145 false,Gm 150 6 149 true,Gd 151 (.bin .gtr .none (.tmp 150) (ci 0)) 149 true,Gd 152 (.pick (.tmp 149) (.tmp 151) (.con (.bool false))) 145 false,Gm 153 152 145 false,Gd 154 (.faddr 1 1 (.tmp 3)) 153 true,Gd 155 (.load 0 (.tmp 154)) 153 true,Gm 156 6 153 true,Gd 157 (.bin .sub .none (.tmp 156) (ci 1)) 153 true,Gd 158 (.iaddr 2 none (.tmp 155) (.tmp 157)) 153 true,Gd 159 (.load 2 (.tmp 158)) 153 true,Gd 160 (.faddr 1 1 (.tmp 3)) 153 true,Gd 161 (.load 0 (.tmp 160)) 153 true,Gm 162 6 153 true,Gd 163 (.iaddr 2 none (.tmp 161) (.tmp 162)) 153 true,Gd 164 (.load 2 (.tmp 163)) 153 true,Cg 165 18 [(.tmp 159),(.tmp 164)] 153 true,Gd 166 (.bin .gtr .none (.tmp 165) (ci 0)) 153 true,Gd 167 (.pick (.tmp 153) (.tmp 166) (.con (.bool false))) 145 false,Op 168 (.pick (.tmp 145) (.con (.bool true)) (.tmp 167))] [0,1,3,7,0,16,0,112,240,511,1023,2047,4095,8191,16383,32767,65535,131071,262143,524287,1048575,2097151,1048575,5242879,16777215,33554431,1048575,68157439,1048575,470810623,1007681535,2147483647,4294967295,8589934591,17179869183] true) (Cd 168 (Sr [Mb 4 false] .ret) .skip)))) (Rg [Mv 101 6,Bc 102 .add 101 1,Mv 6 102])))
def i95:ICode:=(Sr [Bx 2 45 0,Bx 3 35 1,Mb 4 false] (.seq (Sr [Fa 7 0 1 2,Ld 8 0 7] (.block 0 (Sr [Bc 10 .eql 8 1,Mv 9 10] (Cd 9 (Sr [Fa 11 0 1 3,Ld 12 0 11,Bc 13 .geq 12 0,Mv 14 13,Gd 15 (.faddr 0 1 (.tmp 3)) 14 true,Gd 16 (.load 0 (.tmp 15)) 14 true,Gd 17 (.bin .leq .none (.tmp 16) (ci 1048576)) 14 true,Op 18 (.pick (.tmp 14) (.tmp 17) (.con (.bool false))),Mv 19 18,Gd 20 (.faddr 1 1 (.tmp 3)) 19 true,Gd 21 (.load 0 (.tmp 20)) 19 true,Gd 22 (.len (.tmp 21)) 19 true,Gd 23 (.bin .eql .none (.tmp 22) (ci 0)) 19 true,Op 24 (.pick (.tmp 19) (.tmp 23) (.con (.bool false))),Mv 4 24] .ret) (Sr [Bc 26 .eql 8 2,Mv 25 26] (Cd 25 (Sr [Fa 27 0 1 3,Ld 28 0 27,Bc 29 .geq 28 0,Mv 30 29,Gd 31 (.faddr 0 1 (.tmp 3)) 30 true,Gd 32 (.load 0 (.tmp 31)) 30 true,Gd 33 (.faddr 1 1 (.tmp 2)) 30 true,Gd 34 (.load 0 (.tmp 33)) 30 true,Gd 35 (.bin .lss .none (.tmp 32) (.tmp 34)) 30 true,Op 36 (.pick (.tmp 30) (.tmp 35) (.con (.bool false))),Mv 37 36,Gd 38 (.faddr 1 1 (.tmp 3)) 37 true,Gd 39 (.load 0 (.tmp 38)) 37 true,Gd 40 (.len (.tmp 39)) 37 true,Gd 41 (.bin .eql .none (.tmp 40) (ci 0)) 37 true,Op 42 (.pick (.tmp 37) (.tmp 41) (.con (.bool false))),Mv 4 42] .ret) (Sr [Bc 44 .eql 8 6,Mv 43 44] (Cd 43 (Sr [Ld 45 2 3,Cl 46 94 [(.tmp 45),(ci 12)],Bc 47 .leq 46 12,Mv 48 47,Gd 49 (.faddr 1 1 (.tmp 2)) 48 true,Gd 50 (.load 0 (.tmp 49)) 48 true,Gd 51 (.load 2 (.tmp 3)) 48 true,Cg 52 141 [(.tmp 50),(.tmp 51)] 48 true,Op 53 (.pick (.tmp 48) (.tmp 52) (.con (.bool false))),Mv 4 53] .ret) (Sr [Bc 55 .eql 8 3,Mv 54 55] (Cd 54 (.seq (Sr [Fa 56 0 1 3,Ld 57 0 56,Bc 58 .neq 57 0,Mv 59 58,Gd 60 (.faddr 1 1 (.tmp 3)) 59 false,Gd 61 (.load 0 (.tmp 60)) 59 false,Gd 62 (.len (.tmp 61)) 59 false,Gd 63 (.faddr 3 1 (.tmp 2)) 59 false,Gd 64 (.load 0 (.tmp 63)) 59 false,Gd 65 (.len (.tmp 64)) 59 false,Gd 66 (.bin .neq .none (.tmp 62) (.tmp 65)) 59 false,Op 67 (.pick (.tmp 59) (.con (.bool true)) (.tmp 66))] (Cd 67 (Sr [Mb 4 false] .ret) .skip)) (.seq (Sr [Mc 5 0] (.block 1 (.loop qmN))) (Sr [Mb 4 true] .ret))) .skip)))))))))) (.seq (Sr [Fa 87 0 1 3,Ld 88 0 87,Bc 89 .neq 88 0,Mv 90 89,Gd 91 (.faddr 1 1 (.tmp 3)) 90 false,Gd 92 (.load 0 (.tmp 91)) 90 false,Gd 93 (.len (.tmp 92)) 90 false,Gd 94 (.bin .gtr .none (.tmp 93) (ci 12)) 90 false,Op 95 (.pick (.tmp 90) (.con (.bool true)) (.tmp 94))] (Cd 95 (Sr [Mb 4 false] .ret) .skip)) (.seq (Sr [Mc 6 0] (.block 3 (.loop qhG))) (Sr [Mb 4 true] .ret)))))
theorem fn95:FnOk Tryz.prog 95 169 [(4,none)] i95:=fnO Tryz.func95 Tryz.call95
def i110:ICode:=(Sr [Bx 3 37 0,Bx 5 35 2,Mb 6 false,Mc 7 0] (.seq (Sr [Ld 9 10 3,Mv 10 1,Cl 11 157 [(.tmp 9),(.tmp 10)],Mv 8 11] (Sr [Mv 12 8,Bc 13 .neq 12 0] (Cd 13 (Sr [Mv 14 8,Mb 6 false,Mv 7 14] .ret) .skip))) (.seq (Sr [Ld 15 10 3,Ld 16 2 5,Cl 17 29 [(.tmp 15),(.tmp 16)],Nt 18 17] (Cd 18 (Sr [Mb 6 false,Mc 7 17] .ret) .skip)) (.seq (.reg [Fa 19 7 1 3,Ld 20 0 19,Mv 21 1,Ia 22 14 20 21,Ld 23 14 22,Ld 24 2 5,Cl 25 158 [(.tmp 23),(.tmp 24)],Mv 6 25,Mc 7 0] [0,1,0,7,15,0,63,127,255] true) .ret))))
theorem fn110:FnOk Tryz.prog 110 26 [(6,none),(7,none)] i110:=fnO Tryz.func110 Tryz.call110
def i116:ICode:=(Sr [⟨some 2,.op (.mv (.con (.str ⟨#[]⟩))),none⟩] (Sr [Mv 3 0,Cl 4 173 [(.tmp 3),(ci 10)],Mv 2 4] .ret))
theorem fn116:FnOk Tryz.prog 116 5 [(2,none)] i116:=fnO Tryz.func116 Tryz.call116
def i118:ICode:=(Sr [Mb 2 false] (.seq (.reg [Mv 3 0,Cl 4 174 [(.tmp 3)],Mv 5 4,⟨some 6,.op (.load 0 (.con (.ptr [(.list [(.str ⟨#[118,97,108,117,101,115]⟩),(.str ⟨#[116,104,114,101,97,100]⟩),(.str ⟨#[101,110,100]⟩)])]))),some (5,true)⟩,Gm 7 0 5 true,Cg 8 175 [(.tmp 6),(.tmp 7)] 5 true,Gd 9 (.un .not (.tmp 8)) 5 true,Op 10 (.pick (.tmp 5) (.tmp 9) (.con (.bool false))),Mv 2 10] [] false) .ret))
theorem fn118:FnOk Tryz.prog 118 11 [(2,none)] i118:=fnO Tryz.func118 Tryz.call118
def i119:ICode:=(Sr [Bx 3 28 0,Bx 4 88 1,Bx 5 85 2,Mc 6 0] (.seq (Sr [Fa 7 0 1 5,Ld 8 0 7,⟨some 9,.op (.iaddr 2 (some 8) (.con (.ptr [(.str ⟨#[]⟩),(.int .i64 0),(.str ⟨#[115,101,116]⟩),(.int .i64 1),(.str ⟨#[119,104,101,110]⟩),(.int .i64 1),(.str ⟨#[106,117,109,112]⟩),(.int .i64 2),(.str ⟨#[109,97,121,98,101]⟩),(.int .i64 2),(.str ⟨#[115,112,97,119,110]⟩),(.int .i64 3),(.str ⟨#[115,116,111,112]⟩),(.int .i64 0),(.str ⟨#[102,97,105,108]⟩),(.int .i64 0)])) (.tmp 8)),none⟩,Fa 10 1 1 9,Ld 11 0 10] (.block 0 (Sr [Bc 13 .eql 11 1,Mv 12 13] (Cd 12 (Sr [Fa 14 0 1 3,Ld 15 0 14,Mv 6 15] .ret) (Sr [Bc 17 .eql 11 2,Mv 16 17] (Cd 16 (Sr [Fa 18 1 1 4,Ld 19 0 18,Ln 20 19,Mv 6 20] .ret) (Sr [Bc 22 .eql 11 3,Mv 21 22] (Cd 21 (Sr [Fa 23 1 1 3,Ld 24 0 23,Ln 25 24,Mv 6 25] .ret) .skip)))))))) (Sr [Mc 6 1] .ret)))
theorem qlv:FnOk Tryz.prog 119 26 [(6,none)] i119:=fnO Tryz.func119 Tryz.call119
def qhv:ICode:=(Sr [Bn 9 .lss 8 7] (.seq (Cd 9 .skip (.exit 0)) (.seq (.block 1 (Sr [Mv 10 8,Mv 5 10] (.seq (.reg [Ld 11 5 3,Mv 12 0,Mv 13 5,Ia 14 5 12 13,Ld 15 5 14,Op 16 (.bin .eql (.ints 5) (.tmp 11) (.tmp 15))] [0,0,0,6,14,31] true) (Cd 16 (Sr [Mv 17 5,Mv 4 17] .ret) .skip)))) (Rg [Bc 18 .add 8 1,Mv 8 18]))))
def i120:ICode:=(Sr [Bx 3 64 1,Mc 4 0] (.seq (Sr [Mv 6 0,Ln 7 6,Mc 8 0] (.block 0 (.loop qhv))) (Sr [Op 4 (.mv (.con (.int .i64 (-1))))] .ret)))
theorem fn120:FnOk Tryz.prog 120 19 [(4,none)] i120:=fnO Tryz.func120 Tryz.call120
def i131:ICode:=(Sr [Mb 2 false] (Sr [Mv 3 0,Mv 4 0,Bn 5 .neq 3 4,Mv 2 5] .ret))
theorem fn131:FnOk Tryz.prog 131 6 [(2,none)] i131:=fnO Tryz.func131 Tryz.call131
def qjp:ICode:=(.seq (Sr [Mv 4 3,Mv 5 0,Op 6 (.slen (.tmp 5)),Bn 7 .lss 4 6] (Cd 7 .skip (.exit 0))) (.seq (.block 1 (Sr [Mv 10 0,Mv 11 3,Op 12 (.sindex (.tmp 10) (.tmp 11)),Cl 13 181 [(.tmp 12)],Nt 14 13] (Cd 14 (Sr [Mb 2 false] .ret) .skip))) (Rg [Mv 8 3,Bc 9 .add 8 1,Mv 3 9])))
def i132:ICode:=(Sr [Mb 2 false] (.seq (Sr [Mc 3 0] (.block 0 (.loop qjp))) (Sr [Mv 15 0,Op 16 (.slen (.tmp 15)),Bc 17 .geq 16 1,Mv 18 17,Gm 19 0 18 true,Gd 20 (.slen (.tmp 19)) 18 true,Gd 21 (.bin .leq .none (.tmp 20) (ci 12)) 18 true,Op 22 (.pick (.tmp 18) (.tmp 21) (.con (.bool false))),Mv 23 22,Gm 24 0 23 true,Gd 25 (.sindex (.tmp 24) (ci 0)) 23 true,Gd 26 (.bin .geq .none (.tmp 25) (.con (.int .u8 97))) 23 true,Op 27 (.pick (.tmp 23) (.tmp 26) (.con (.bool false))),Mv 28 27,Gm 29 0 28 true,Gd 30 (.sindex (.tmp 29) (ci 0)) 28 true,Gd 31 (.bin .leq .none (.tmp 30) (.con (.int .u8 122))) 28 true,Op 32 (.pick (.tmp 28) (.tmp 31) (.con (.bool false))),Mv 2 32] .ret)))
theorem fn132:FnOk Tryz.prog 132 33 [(2,none)] i132:=fnO Tryz.func132 Tryz.call132
def qjq:ICode:=(.seq (Sr [Mv 6 4,Mv 7 3,Ln 8 7,Bn 9 .lss 6 8] (Cd 9 .skip (.exit 0))) (.seq (.block 1 (Sr [Mv 12 3,Mv 13 4,Ia 14 0 12 13,Ld 15 0 14,Mv 16 0,Bn 17 .eql 15 16] (Cd 17 (Sr [Mb 2 true] .ret) .skip))) (Rg [Mv 10 4,Bc 11 .add 10 1,Mv 4 11])))
def i133:ICode:=(Sr [Mb 2 false] (Sr [⟨some 5,.op (.rows 9 0 18 [(.str ⟨#[]⟩)] [(0,1,(.con (.str ⟨#[109,111,100,101,108]⟩))),(1,1,(.con (.str ⟨#[115,116,97,116,101,115]⟩))),(2,1,(.con (.str ⟨#[112,108,97,99,101,115]⟩))),(3,1,(.con (.str ⟨#[108,101,116,116,101,114,115]⟩))),(4,1,(.con (.str ⟨#[108,101,118,101,108,115]⟩))),(5,1,(.con (.str ⟨#[97,103,101]⟩))),(6,1,(.con (.str ⟨#[114,117,108,101]⟩))),(7,1,(.con (.str ⟨#[110,101,101,100]⟩))),(8,1,(.con (.str ⟨#[103,105,118,101]⟩))),(9,1,(.con (.str ⟨#[109,111,118,101]⟩))),(10,1,(.con (.str ⟨#[101,109,112,116,121]⟩))),(11,1,(.con (.str ⟨#[115,101,110,100]⟩))),(12,1,(.con (.str ⟨#[114,101,99,101,105,118,101]⟩))),(13,1,(.con (.str ⟨#[112,97,116,104]⟩))),(14,1,(.con (.str ⟨#[110,101,120,116]⟩))),(15,1,(.con (.str ⟨#[116,97,107,101]⟩))),(16,1,(.con (.str ⟨#[109,97,107,101]⟩))),(17,1,(.con (.str ⟨#[115,116,97,114,116]⟩)))]),none⟩,Mv 3 5] (.seq (Sr [Mc 4 0] (.block 0 (.loop qjq))) (Sr [Mb 2 false] .ret))))
theorem fn133:FnOk Tryz.prog 133 18 [(2,none)] i133:=fnO Tryz.func133 Tryz.call133
def qjr:ICode:=(.seq (Sr [Mv 10 9,Mv 11 0,Ln 12 11,Bn 13 .lss 10 12] (Cd 13 .skip (.exit 0))) (.seq (.block 1 (Sr [Mv 16 0,Mv 17 9,Ia 18 0 16 17,Ld 19 0 18,Mv 20 2,Mv 21 3,Cl 22 83 [(.tmp 19),(.tmp 20),(.tmp 21)],Nt 23 22] (Cd 23 (Sr [Mb 8 false] .ret) .skip))) (Rg [Mv 14 9,Bc 15 .add 14 1,Mv 9 15])))
def i134:ICode:=(Sr [Mb 8 false] (.seq (Sr [Mc 9 0] (.block 0 (.loop qjr))) (Sr [Mv 24 0,Ln 25 24,Mv 26 1,Bn 27 .eql 25 26,Mv 8 27] .ret)))
theorem fn134:FnOk Tryz.prog 134 28 [(8,none)] i134:=fnO Tryz.func134 Tryz.call134
def qjs:ICode:=(Sr [Bn 9 .lss 8 7] (.seq (Cd 9 .skip (.exit 0)) (.seq (.block 1 (Sr [Mv 10 8,Mv 5 10] (Sr [Mv 11 1,Mv 12 0,Mv 13 5,Ia 14 0 12 13,Ld 15 0 14,⟨some 16,.call (.callv (.tmp 11) [(.tmp 15)]),none⟩] (Cd 16 (Sr [Mv 17 5,Mv 4 17] .ret) .skip)))) (Rg [Bc 18 .add 8 1,Mv 8 18]))))
def i138:ICode:=(Sr [Mc 4 0] (.seq (Sr [Mv 6 0,Ln 7 6,Mc 8 0] (.block 0 (.loop qjs))) (Sr [Op 4 (.mv (.con (.int .i64 (-1))))] .ret)))
theorem fn138:FnOk Tryz.prog 138 19 [(4,none)] i138:=fnO Tryz.func138 Tryz.call138
def i139:ICode:=(Sr [Op 4 (.mv (.con .nil))] (.seq (.block 0 (Sr [Mv 6 0,Mv 7 1,Bn 8 .eql 6 7,Mv 5 8] (Cd 5 (Sr [Mv 9 0,Op 10 (.rows 3 0 1 [(.int .i64 0)] [(0,1,(.tmp 9))]),Mv 4 10] .ret) (Sr [Mv 12 1,Bc 13 .geq 12 0,Mv 14 13,Gm 15 1 14 true,Gm 16 0 14 true,Gd 17 (.bin .lss .none (.tmp 15) (.tmp 16)) 14 true,Op 18 (.pick (.tmp 14) (.tmp 17) (.con (.bool false))),Mv 11 18] (Cd 11 (Sr [Mv 19 1,Mv 20 0,Op 21 (.rows 3 0 2 [(.int .i64 0)] [(0,1,(.tmp 19)),(1,1,(.tmp 20))]),Mv 4 21] .ret) .skip))))) (Sr [Mv 22 0,Mv 23 1,Op 24 (.rows 3 0 2 [(.int .i64 0)] [(0,1,(.tmp 22)),(1,1,(.tmp 23))]),Mv 4 24] .ret)))
theorem qt1:FnOk Tryz.prog 139 25 [(4,none)] i139:=fnO Tryz.func139 Tryz.call139
def qjt:ICode:=(.seq (Sr [Mv 116 5,Fa 117 3 1 2,Ld 118 0 117,Ln 119 118,Bn 120 .lss 116 119] (Cd 120 .skip (.exit 1))) (.seq (.block 2 (Sr [Fa 123 3 1 2,Ld 124 0 123,Mv 125 5,Ia 126 4 124 125,Ld 127 4 126,Mv 128 1,Bc 129 .sub 128 1,Cl 130 140 [(.tmp 127),(.tmp 129)],Nt 131 130] (Cd 131 (Sr [Mb 4 false] .ret) .skip))) (Rg [Mv 121 5,Bc 122 .add 121 1,Mv 5 122])))
def i140:ICode:=(Sr [Bx 2 45 0,Mb 4 false] (.seq (Sr [Mv 6 1,Bc 7 .eql 6 0,Mv 8 7,Gd 9 (.faddr 2 1 (.tmp 2)) 8 false,Gd 10 (.load 0 (.tmp 9)) 8 false,Gd 11 (.len (.tmp 10)) 8 false,Gd 12 (.bin .gtr .none (.tmp 11) (ci 0)) 8 false,Gm 13 12 8 false,Gd 14 (.faddr 0 1 (.tmp 2)) 13 true,Gd 15 (.load 0 (.tmp 14)) 13 true,Gd 16 (.bin .neq .none (.tmp 15) (ci 7)) 13 true,Gd 17 (.pick (.tmp 13) (.tmp 16) (.con (.bool false))) 8 false,Op 18 (.pick (.tmp 8) (.con (.bool true)) (.tmp 17))] (Cd 18 (Sr [Mb 4 false] .ret) .skip)) (.seq (Sr [Fa 19 0 1 2,Ld 20 0 19] (.block 0 (Sr [Bc 22 .eql 20 1,Mv 21 22] (Cd 21 (Sr [Fa 23 1 1 2,Ld 24 0 23,Bc 25 .eql 24 0,Mv 26 25,Gd 27 (.faddr 3 1 (.tmp 2)) 26 true,Gd 28 (.load 0 (.tmp 27)) 26 true,Gd 29 (.len (.tmp 28)) 26 true,Gd 30 (.bin .eql .none (.tmp 29) (ci 0)) 26 true,Op 31 (.pick (.tmp 26) (.tmp 30) (.con (.bool false))),Mv 4 31] .ret) (.seq (Sr [Bc 33 .eql 20 2,Mv 32 33] (Cd 32 .skip (Rg [Bc 34 .eql 20 6,Mv 32 34]))) (Cd 32 (Sr [Fa 35 1 1 2,Ld 36 0 35,Bc 37 .geq 36 1,Mv 38 37,Gd 39 (.faddr 1 1 (.tmp 2)) 38 true,Gd 40 (.load 0 (.tmp 39)) 38 true,Gd 41 (.bin .leq .none (.tmp 40) (ci 16)) 38 true,Op 42 (.pick (.tmp 38) (.tmp 41) (.con (.bool false))),Mv 43 42,Gd 44 (.faddr 3 1 (.tmp 2)) 43 true,Gd 45 (.load 0 (.tmp 44)) 43 true,Gd 46 (.len (.tmp 45)) 43 true,Gd 47 (.bin .eql .none (.tmp 46) (ci 0)) 43 true,Op 48 (.pick (.tmp 43) (.tmp 47) (.con (.bool false))),Mv 4 48] .ret) (Sr [Bc 50 .eql 20 7,Mv 49 50] (Cd 49 (Sr [Fa 51 1 1 2,Ld 52 0 51,Bc 53 .geq 52 1,Mv 54 53,Gd 55 (.faddr 1 1 (.tmp 2)) 54 true,Gd 56 (.load 0 (.tmp 55)) 54 true,Gd 57 (.bin .leq .none (.tmp 56) (ci 6)) 54 true,Op 58 (.pick (.tmp 54) (.tmp 57) (.con (.bool false))),Mv 59 58,Gd 60 (.faddr 3 1 (.tmp 2)) 59 true,Gd 61 (.load 0 (.tmp 60)) 59 true,Gd 62 (.len (.tmp 61)) 59 true,Gd 63 (.bin .eql .none (.tmp 62) (ci 0)) 59 true,Op 64 (.pick (.tmp 59) (.tmp 63) (.con (.bool false))),Mv 65 64,Gd 66 (.faddr 2 1 (.tmp 2)) 65 true,Gd 67 (.load 0 (.tmp 66)) 65 true,Gd 68 (.len (.tmp 67)) 65 true,Gd 69 (.faddr 1 1 (.tmp 2)) 65 true,Gd 70 (.load 0 (.tmp 69)) 65 true,Gd 71 (.bin .eql .none (.tmp 68) (.tmp 70)) 65 true,Op 72 (.pick (.tmp 65) (.tmp 71) (.con (.bool false))),Mv 73 72,Gd 74 (.faddr 2 1 (.tmp 2)) 73 true,Gd 75 (.load 0 (.tmp 74)) 73 true,Cg 76 182 [(.tmp 75)] 73 true,Op 77 (.pick (.tmp 73) (.tmp 76) (.con (.bool false))),Mv 4 77] .ret) (.seq (Sr [Bc 79 .eql 20 4,Mv 78 79] (Cd 78 .skip (Rg [Bc 80 .eql 20 5,Mv 78 80]))) (Cd 78 (Sr [Fa 81 1 1 2,Ld 82 0 81,Bc 83 .eql 82 0,Mv 84 83,Gd 85 (.faddr 3 1 (.tmp 2)) 84 true,Gd 86 (.load 0 (.tmp 85)) 84 true,Gd 87 (.len (.tmp 86)) 84 true,Gd 88 (.bin .eql .none (.tmp 87) (ci 1)) 84 true,Op 89 (.pick (.tmp 84) (.tmp 88) (.con (.bool false))),Mv 90 89,Gd 91 (.faddr 3 1 (.tmp 2)) 90 true,Gd 92 (.load 0 (.tmp 91)) 90 true,Gd 93 (.iaddr 4 none (.tmp 92) (ci 0)) 90 true,Gd 94 (.load 4 (.tmp 93)) 90 true,Gm 95 1 90 true,Gd 96 (.bin .sub .none (.tmp 95) (ci 1)) 90 true,Cg 97 140 [(.tmp 94),(.tmp 96)] 90 true,Op 98 (.pick (.tmp 90) (.tmp 97) (.con (.bool false))),Mv 4 98] .ret) (Sr [Bc 100 .eql 20 3,Mv 99 100] (Cd 99 (.seq (Sr [Fa 101 1 1 2,Ld 102 0 101,Bc 103 .neq 102 0,Mv 104 103,Gd 105 (.faddr 3 1 (.tmp 2)) 104 false,Gd 106 (.load 0 (.tmp 105)) 104 false,Gd 107 (.len (.tmp 106)) 104 false,Gd 108 (.bin .lss .none (.tmp 107) (ci 1)) 104 false,Op 109 (.pick (.tmp 104) (.con (.bool true)) (.tmp 108)),Mv 110 109,Gd 111 (.faddr 3 1 (.tmp 2)) 110 false,Gd 112 (.load 0 (.tmp 111)) 110 false,Gd 113 (.len (.tmp 112)) 110 false,Gd 114 (.bin .gtr .none (.tmp 113) (ci 8)) 110 false,Op 115 (.pick (.tmp 110) (.con (.bool true)) (.tmp 114))] (Cd 115 (Sr [Mb 4 false] .ret) .skip)) (.seq (Sr [Mc 5 0] (.block 1 (.loop qjt))) (Sr [Mb 4 true] .ret))) .skip)))))))))))) (Sr [Mb 4 false] .ret))))
theorem fn140:FnOk Tryz.prog 140 132 [(4,none)] i140:=fnO Tryz.func140 Tryz.call140
def qju:ICode:=(.seq (Sr [Mv 6 5,Fa 7 1 1 3,Ld 8 0 7,Ln 9 8,Bn 10 .lss 6 9] (Cd 10 .skip (.exit 0))) (.seq (.block 1 (Sr [Mv 13 0,Fa 14 1 1 3,Ld 15 0 14,Mv 16 5,Ia 17 2 15 16,Ld 18 2 17,Cl 19 141 [(.tmp 13),(.tmp 18)],Nt 20 19] (Cd 20 (Sr [Mb 4 false] .ret) .skip))) (Rg [Mv 11 5,Bc 12 .add 11 1,Mv 5 12])))
def i141:ICode:=(Sr [Bx 3 35 1,Mb 4 false] (.seq (Sr [Mc 5 0] (.block 0 (.loop qju))) (Sr [Fa 21 0 1 3,Ld 22 0 21,Bc 23 .geq 22 0,Mv 24 23,Gd 25 (.faddr 0 1 (.tmp 3)) 24 true,Gd 26 (.load 0 (.tmp 25)) 24 true,Gm 27 0 24 true,Gd 28 (.bin .lss .none (.tmp 26) (.tmp 27)) 24 true,Op 29 (.pick (.tmp 24) (.tmp 28) (.con (.bool false))),Mv 4 29] .ret)))
theorem fn141:FnOk Tryz.prog 141 30 [(4,none)] i141:=fnO Tryz.func141 Tryz.call141
def i157:ICode:=(Sr [Bx 2 37 0,Mc 4 0] (.seq (Sr [Ld 6 10 2,Cl 7 47 [(.tmp 6)],Mv 5 7] (Sr [Mv 8 5,Bc 9 .neq 8 0] (Cd 9 (Sr [Mv 10 5,Mv 4 10] .ret) .skip))) (.seq (Sr [Fa 11 0 1 2,Ld 12 0 11,Bc 13 .neq 12 1] (Cd 13 (Sr [Mc 4 15] .ret) .skip)) (.seq (Sr [Mv 14 1,Bc 15 .lss 14 0,Mv 16 15,Gm 17 1 16 false,Gd 18 (.faddr 7 1 (.tmp 2)) 16 false,Gd 19 (.load 0 (.tmp 18)) 16 false,Gd 20 (.len (.tmp 19)) 16 false,Gd 21 (.bin .geq .none (.tmp 17) (.tmp 20)) 16 false,Op 22 (.pick (.tmp 16) (.con (.bool true)) (.tmp 21))] (Cd 22 (Sr [Mc 4 16] .ret) .skip)) (Sr [Mc 4 0] .ret)))))
theorem fn157:FnOk Tryz.prog 157 23 [(4,none)] i157:=fnO Tryz.func157 Tryz.call157
def qjv:ICode:=(.seq (Sr [Mv 14 5,Fa 15 3 1 2,Ld 16 0 15,Ln 17 16,Bn 18 .lss 14 17] (Cd 18 .skip (.exit 0))) (.seq (.block 1 (.seq (.reg [Fa 21 1 1 3,Ld 22 0 21,Mv 23 5,Op 24 (.bin .add .none (ci 1) (.tmp 23)),Ia 25 2 22 24,Fa 26 0 1 25,Ld 27 0 26,Fa 28 3 1 2,Ld 29 0 28,Mv 30 5,Ia 31 0 29 30,Ld 32 0 31,Bn 33 .lss 27 32] [0,1,0,4,15,31,63,0,128,0,896,1920,4095] true) (Cd 33 (Sr [Mb 4 false] .ret) .skip))) (Rg [Mv 19 5,Bc 20 .add 19 1,Mv 5 20])))
def i158:ICode:=(Sr [Bx 2 91 0,Bx 3 35 1,Mb 4 false] (.seq (.seq (.reg [Fa 6 1 1 3,Ld 7 0 6,Op 8 (.iaddr 2 none (.tmp 7) (ci 0)),Fa 9 0 1 8,Ld 10 0 9,Fa 11 1 1 2,Ld 12 0 11,Bn 13 .neq 10 12] [0,1,3,7,15,0,32,127] true) (Cd 13 (Sr [Mb 4 false] .ret) .skip)) (.seq (Sr [Mc 5 0] (.block 0 (.loop qjv))) (Sr [Mb 4 true] .ret))))
theorem fn158:FnOk Tryz.prog 158 34 [(4,none)] i158:=fnO Tryz.func158 Tryz.call158
def i173:ICode:=(Sr [⟨some 4,.op (.mv (.con (.str ⟨#[]⟩))),none⟩] (.seq (Sr [Mv 10 1,Bc 11 .eql 10 10] (Cd 11 (.seq (Sr [Mv 12 0,Op 13 (.bin .leq .none (ci 0) (.tmp 12)),Mv 14 13,Gm 15 0 14 true,Gd 16 (.bin .lss .none (.tmp 15) (ci 100)) 14 true,Op 17 (.pick (.tmp 14) (.tmp 16) (.con (.bool false)))] (Cd 17 (Sr [Mv 18 0,Cl 19 214 [(.tmp 18)],Mv 4 19] .ret) .skip)) (Sr [Op 5 (.alloc 236 [(.int .u8 0),(.int .u8 0),(.int .u8 0),(.int .u8 0),(.int .u8 0),(.int .u8 0),(.int .u8 0),(.int .u8 0),(.int .u8 0),(.int .u8 0),(.int .u8 0),(.int .u8 0),(.int .u8 0),(.int .u8 0),(.int .u8 0),(.int .u8 0),(.int .u8 0),(.int .u8 0),(.int .u8 0),(.int .u8 0),(.int .u8 0),(.int .u8 0),(.int .u8 0),(.int .u8 0)])] (Sr [Mv 20 0,Op 21 (.conv .u64 (.tmp 20)),Mv 6 21] (.seq (Sr [Mv 22 0,Bc 23 .lss 22 0] (Cd 23 (Rg [Mv 24 6,Op 25 (.un .neg (.tmp 24)),Mv 6 25]) .skip)) (Sr [Mv 26 6,Cl 27 215 [(.tmp 26)],Mv 7 27] (Sr [Mv 28 7,Op 29 (.bin .add .none (ci 1) (.tmp 28)),Op 30 (.bad),Mv 31 6,Cl 32 216 [(.tmp 30),(.tmp 31)]] (.seq (Sr [Mv 33 0,Bc 34 .lss 33 0] (Cd 34 (Sr [Op 35 (.iaddr 0 (some 24) (.tmp 5) (ci 0)),St (.store 0 (.tmp 35) (.con (.int .u8 45)))] (Sr [Mv 36 7,Op 37 (.bin .add .none (ci 1) (.tmp 36)),Op 38 (.bad),Op 39 (.b2s (.tmp 38)),Mv 4 39] .ret)) .skip)) (Sr [Mv 40 7,Op 41 (.bin .add .none (ci 1) (.tmp 40)),Op 42 (.bad),Op 43 (.b2s (.tmp 42)),Mv 4 43] .ret)))))))) .skip)) (Sr [Mv 45 0,Op 46 (.conv .u64 (.tmp 45)),Mv 47 1,Mv 48 0,Bc 49 .lss 48 0,Cl 50 217 [(.con .nil),(.tmp 46),(.tmp 47),(.tmp 49),(.con (.bool false))],Mv 44 50,Ex 51 44 0,Ex 52 44 1,Mv 8 51,Mv 9 52] (Sr [Mv 53 9,Mv 4 53] .ret))))
theorem fn173:FnOk Tryz.prog 173 54 [(4,none)] i173:=fnO Tryz.func173 Tryz.call173
def i174:ICode:=(Sr [Mb 2 false] (Sr [Mv 3 0,⟨some 4,.op (.bin .neq .none (.tmp 3) (.con (.str ⟨#[]⟩))),none⟩,Mv 5 4,Gm 6 0 5 true,Gd 7 (.slen (.tmp 6)) 5 true,Gd 8 (.bin .leq .none (.tmp 7) (ci 12)) 5 true,Op 9 (.pick (.tmp 5) (.tmp 8) (.con (.bool false))),Mv 10 9,Gm 11 0 10 true,Gd 12 (.sindex (.tmp 11) (ci 0)) 10 true,Cg 13 218 [(.tmp 12)] 10 true,Op 14 (.pick (.tmp 10) (.tmp 13) (.con (.bool false))),Mv 15 14,Gm 16 0 15 true,Cg 17 219 [(.tmp 16),(.fnc 220)] 15 true,Gm 18 0 15 true,Gd 19 (.slen (.tmp 18)) 15 true,Gd 20 (.bin .eql .none (.tmp 17) (.tmp 19)) 15 true,Op 21 (.pick (.tmp 15) (.tmp 20) (.con (.bool false))),Mv 2 21] .ret))
theorem fn174:FnOk Tryz.prog 174 22 [(2,none)] i174:=fnO Tryz.func174 Tryz.call174
def i175:ICode:=(Sr [Mb 4 false] (Sr [Mv 5 0,Mv 6 1,Cl 7 221 [(.tmp 5),(.tmp 6)],Bc 8 .geq 7 0,Mv 4 8] .ret))
theorem fn175:FnOk Tryz.prog 175 9 [(4,none)] i175:=fnO Tryz.func175 Tryz.call175
def i181:ICode:=(Sr [Mb 2 false] (Sr [Mv 3 0,Op 4 (.bin .geq .none (.tmp 3) (.con (.int .u8 97))),Mv 5 4,Gm 6 0 5 true,Gd 7 (.bin .leq .none (.tmp 6) (.con (.int .u8 122))) 5 true,Op 8 (.pick (.tmp 5) (.tmp 7) (.con (.bool false))),Mv 9 8,Gm 10 0 9 false,Gd 11 (.bin .geq .none (.tmp 10) (.con (.int .u8 48))) 9 false,Gm 12 11 9 false,Gm 13 0 12 true,Gd 14 (.bin .leq .none (.tmp 13) (.con (.int .u8 57))) 12 true,Gd 15 (.pick (.tmp 12) (.tmp 14) (.con (.bool false))) 9 false,Op 16 (.pick (.tmp 9) (.con (.bool true)) (.tmp 15)),Mv 17 16,Gm 18 0 17 false,Gd 19 (.bin .eql .none (.tmp 18) (.con (.int .u8 95))) 17 false,Op 20 (.pick (.tmp 17) (.con (.bool true)) (.tmp 19)),Mv 2 20] .ret))
theorem fn181:FnOk Tryz.prog 181 21 [(2,none)] i181:=fnO Tryz.func181 Tryz.call181
def qjy:ICode:=(.seq (Sr [Mv 4 3,Mv 5 0,Ln 6 5,Bn 7 .lss 4 6] (Cd 7 .skip (.exit 0))) (.seq (.block 1 (Sr [Mv 10 0,Mv 11 3,Ia 12 0 10 11,Ld 13 0 12,Bc 14 .lss 13 0,Mv 15 14,Gm 16 0 15 false,Gm 17 3 15 false,Gd 18 (.iaddr 0 none (.tmp 16) (.tmp 17)) 15 false,Gd 19 (.load 0 (.tmp 18)) 15 false,Gd 20 (.bin .geq .none (.tmp 19) (ci 6)) 15 false,Op 21 (.pick (.tmp 15) (.con (.bool true)) (.tmp 20))] (Cd 21 (Sr [Mb 2 false] .ret) .skip))) (Rg [Mv 8 3,Bc 9 .add 8 1,Mv 3 9])))
def i182:ICode:=(Sr [Mb 2 false] (.seq (Sr [Mc 3 0] (.block 0 (.loop qjy))) (Sr [Mv 22 0,Ln 23 22,Bc 24 .geq 23 1,Mv 25 24,Gm 26 0 25 true,Gd 27 (.len (.tmp 26)) 25 true,Gd 28 (.bin .leq .none (.tmp 27) (ci 6)) 25 true,Op 29 (.pick (.tmp 25) (.tmp 28) (.con (.bool false))),Mv 2 29] .ret)))
theorem fn182:FnOk Tryz.prog 182 30 [(2,none)] i182:=fnO Tryz.func182 Tryz.call182
def i214:ICode:=(Sr [⟨some 2,.op (.mv (.con (.str ⟨#[]⟩))),none⟩] (.seq (Sr [Mv 3 0,Bc 4 .lss 3 10] (Cd 4 (Sr [Mv 5 0,Mv 6 0,Bc 7 .add 6 1,⟨some 8,.op (.sslice (.con (.str ⟨#[48,49,50,51,52,53,54,55,56,57,97,98,99,100,101,102,103,104,105,106,107,108,109,110,111,112,113,114,115,116,117,118,119,120,121,122]⟩)) (some (.tmp 5)) (some (.tmp 7))),none⟩,Mv 2 8] .ret) .skip)) (Sr [Mv 9 0,Bc 10 .mul 9 2,Mv 11 0,Bc 12 .mul 11 2,Bc 13 .add 12 2,⟨some 14,.op (.sslice (.con (.str ⟨#[48,48,48,49,48,50,48,51,48,52,48,53,48,54,48,55,48,56,48,57,49,48,49,49,49,50,49,51,49,52,49,53,49,54,49,55,49,56,49,57,50,48,50,49,50,50,50,51,50,52,50,53,50,54,50,55,50,56,50,57,51,48,51,49,51,50,51,51,51,52,51,53,51,54,51,55,51,56,51,57,52,48,52,49,52,50,52,51,52,52,52,53,52,54,52,55,52,56,52,57,53,48,53,49,53,50,53,51,53,52,53,53,53,54,53,55,53,56,53,57,54,48,54,49,54,50,54,51,54,52,54,53,54,54,54,55,54,56,54,57,55,48,55,49,55,50,55,51,55,52,55,53,55,54,55,55,55,56,55,57,56,48,56,49,56,50,56,51,56,52,56,53,56,54,56,55,56,56,56,57,57,48,57,49,57,50,57,51,57,52,57,53,57,54,57,55,57,56,57,57]⟩)) (some (.tmp 10)) (some (.tmp 13))),none⟩,Mv 2 14] .ret)))
theorem fn214:FnOk Tryz.prog 214 15 [(2,none)] i214:=fnO Tryz.func214 Tryz.call214
def i218:ICode:=(Sr [Mb 2 false] (Sr [Mv 3 0,Op 4 (.bin .geq .none (.tmp 3) (.con (.int .u8 97))),Mv 5 4,Gm 6 0 5 true,Gd 7 (.bin .leq .none (.tmp 6) (.con (.int .u8 122))) 5 true,Op 8 (.pick (.tmp 5) (.tmp 7) (.con (.bool false))),Mv 2 8] .ret))
theorem fn218:FnOk Tryz.prog 218 9 [(2,none)] i218:=fnO Tryz.func218 Tryz.call218
def qjC:ICode:=(.seq (Sr [Mv 6 5,Mv 7 0,Op 8 (.slen (.tmp 7)),Bn 9 .lss 6 8,Mv 10 9,Gm 11 1 10 true,Gm 12 0 10 true,Gm 13 5 10 true,Gd 14 (.sindex (.tmp 12) (.tmp 13)) 10 true,⟨some 15,.call (.callv (.tmp 11) [(.tmp 14)]),some (10,true)⟩,Op 16 (.pick (.tmp 10) (.tmp 15) (.con (.bool false)))] (Cd 16 .skip (.exit 0))) (.block 1 (Rg [Mv 17 5,Bc 18 .add 17 1,Mv 5 18])))
def i219:ICode:=(Sr [Mc 4 0] (Sr [Mc 5 0] (.seq (.block 0 (.loop qjC)) (Sr [Mv 19 5,Mv 4 19] .ret))))
theorem fn219:FnOk Tryz.prog 219 20 [(4,none)] i219:=fnO Tryz.func219 Tryz.call219
def i220:ICode:=(Sr [Mb 2 false] (Sr [Mv 3 0,Cl 4 218 [(.tmp 3)],Mv 5 4,Gm 6 0 5 false,Cg 7 248 [(.tmp 6)] 5 false,Op 8 (.pick (.tmp 5) (.con (.bool true)) (.tmp 7)),Mv 9 8,Gm 10 0 9 false,Gd 11 (.bin .eql .none (.tmp 10) (.con (.int .u8 95))) 9 false,Op 12 (.pick (.tmp 9) (.con (.bool true)) (.tmp 11)),Mv 2 12] .ret))
theorem fn220:FnOk Tryz.prog 220 13 [(2,none)] i220:=fnO Tryz.func220 Tryz.call220
def qjD:ICode:=(Sr [Bn 9 .lss 8 7] (.seq (Cd 9 .skip (.exit 0)) (.seq (.block 1 (Sr [Mv 10 8,Mv 5 10] (Sr [Mv 11 1,Mv 12 0,Mv 13 5,Ia 14 0 12 13,Ld 15 0 14,Bn 16 .eql 11 15] (Cd 16 (Sr [Mv 17 5,Mv 4 17] .ret) .skip)))) (Rg [Bc 18 .add 8 1,Mv 8 18]))))
def i221:ICode:=(Sr [Mc 4 0] (.seq (Sr [Mv 6 0,Ln 7 6,Mc 8 0] (.block 0 (.loop qjD))) (Sr [Op 4 (.mv (.con (.int .i64 (-1))))] .ret)))
theorem fn221:FnOk Tryz.prog 221 19 [(4,none)] i221:=fnO Tryz.func221 Tryz.call221
def i248:ICode:=(Sr [Mb 2 false] (Sr [Mv 3 0,Op 4 (.bin .geq .none (.tmp 3) (.con (.int .u8 48))),Mv 5 4,Gm 6 0 5 true,Gd 7 (.bin .leq .none (.tmp 6) (.con (.int .u8 57))) 5 true,Op 8 (.pick (.tmp 5) (.tmp 7) (.con (.bool false))),Mv 2 8] .ret))
theorem fn248:FnOk Tryz.prog 248 9 [(2,none)] i248:=fnO Tryz.func248 Tryz.call248
end
end Go.Proofs.YtkbjpglehdhjfaaGreatDoor
