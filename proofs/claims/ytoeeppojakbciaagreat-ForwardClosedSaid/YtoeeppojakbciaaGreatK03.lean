/- Contracts of functions of the program, for all arguments that they name. -/
import Derived.RangeFuncCalls
import Derived.RangeFuncSeq
import Derived.ScopeJumps
import Derived.Shelf.SlSortCmp.NoneTotal
import Derived.Test.YtoeeppojakbciaaGreatProg
import Derived.Test.YtoeeppojakbciaaGreatK02
namespace Go.Proofs.YtoeeppojakbciaaGreat
set_option linter.unusedVariables false
section
open Go.RowKit
theorem Frz.aggL {H:Heap}{cs cs':List T}(h:FrzL H cs cs')(h1:(cs'.all T.one)=true):Frz H (.agg cs) (.agg cs'):=.agg h.1 (fun c hc=>List.all_eq_true.1 h1 c hc) h.2
theorem Frz.tupL {H:Heap}{cs cs':List T}(h:FrzL H cs cs'):Frz H (.tup cs) (.tup cs'):=.tup h.1 h.2
theorem Frz.slL {H:Heap}{id tot e n ty:Nat}{cs xs:List T}(hb:H id=.live ⟨ty,cs⟩)(ht:cs.length=tot)(hn:xs.length=n)(hf:n*esz e=tot)(hs:(xs.all fun x=>x.cells.length==esz e)=true)(h1:((flat xs).all T.one)=true)(h:FrzL H cs (flat xs)):Frz H (.sl id tot e 0 n) (.list xs):=by
 refine Frz.sl hb ht (by omega) hn (fun x hx=>by simpa using List.all_eq_true.1 hs x hx) (fun c hc=>List.all_eq_true.1 h1 c hc) fun k hk=>?_
 rw[Nat.zero_add]
 exact h.2 k (by omega)
def FzL (H:Heap)(D:Nat→Bool)(xs ys:List T):Prop:=xs.length=ys.length∧∀i,i<xs.length→Fz H D (xs.getD i .undef) (ys.getD i .undef)
theorem FzL.nil {H:Heap}{D:Nat→Bool}:FzL H D [] []:=⟨rfl,fun i hi=>by cases hi⟩
theorem FzL.cons {H:Heap}{D:Nat→Bool}{x y:T}{xs ys:List T}(h:Fz H D x y)(t:FzL H D xs ys):FzL H D (x::xs) (y::ys):=⟨by simp[t.1],fun i hi=>by
 cases i with
 | zero=>exact h
 | succ i=>exact t.2 i (by simpa using hi)⟩
theorem Fz.aggL {H:Heap}{D:Nat→Bool}{cs cs':List T}(h:FzL H D cs cs')(h1:(cs'.all T.one)=true):Fz H D (.agg cs) (.agg cs'):=.agg h.1 (fun c hc=>List.all_eq_true.1 h1 c hc) h.2
theorem Fz.tupL {H:Heap}{D:Nat→Bool}{cs cs':List T}(h:FzL H D cs cs'):Fz H D (.tup cs) (.tup cs'):=.tup h.1 h.2
theorem Fz.slL {H:Heap}{D:Nat→Bool}{id tot e n ty:Nat}{cs xs:List T}(hb:H id=.live ⟨ty,cs⟩)(hd:D id=false)(ht:cs.length=tot)(hn:xs.length=n)(hf:n*esz e=tot)(hs:(xs.all fun x=>x.cells.length==esz e)=true)(h1:((flat xs).all T.one)=true)(h:FzL H D cs (flat xs)):Fz H D (.sl id tot e 0 n) (.list xs):=by
 refine Fz.sl hb hd ht (by omega) hn (fun x hx=>by simpa using List.all_eq_true.1 hs x hx) (fun c hc=>List.all_eq_true.1 h1 c hc) fun k hk=>?_
 rw[Nat.zero_add]
 exact h.2 k (by omega)
theorem SlotFz.liveL {H:Heap}{D:Nat→Bool}{ty:TypeId}{cs cs':List T}(h:FzL H D cs cs')(h1:(cs'.all T.one)=true):SlotFz H D (.live ⟨ty,cs⟩) (.live ⟨ty,cs'⟩):=.live h.1 (fun c hc=>List.all_eq_true.1 h1 c hc) h.2
theorem SlotFz.liveS {H:Heap}{D:Nat→Bool}{ty:TypeId}{cs:List T}(h:clL D cs=true)(h1:Ones cs):SlotFz H D (.live ⟨ty,cs⟩) (.live ⟨ty,cs⟩):=.live rfl h1 fun i hi=>.same (qa5 h i)
def ovrH (H H1:Heap):Heap:=fun i=>match H i with | .free=>H1 i | _=>.dead
theorem TC.give {P:Program}{f:FuncId}{xs ys:List T}{r:T}{H H1:Heap}(h:TC P f ys (fun _=>.free) r H1)(hz:FrzL H xs ys)(hd:∀i,H1 i≠.free→H i=.free):TC P f xs H r (ovrH H H1):=by
 refine⟨h.1,fun w A μ vs hS hR=>(h.2 w _ μ vs hS.kept (qiW hS hz hR)).mono ?_⟩
 rintro e w' ⟨v,A',μ',rfl,h1,h2,h3⟩
 have hc:∀i,H1 i≠.free→ovrH H H1 i=H1 i:=fun i hi=>by simp[ovrH,hd i hi]
 have hown:∀i,(ovrH H H1 i).owns=true→(H1 i).owns=true∧ovrH H H1 i=H1 i:=fun i hi=>by
  cases hh:H i with
  | free=>simp only[ovrH,hh] at hi ⊢;exact⟨hi,trivial⟩
  | _=>simp[ovrH,hh,Slot.owns] at hi
 have hlt:∀i,(H1 i).owns=true→μ' i<w.heap.size→∀j,(H j).owns=true→False:=fun i hi hlt j hj=>by
  have:=(h3.un (μ' i) hlt (fun k hk=>by cases hk)).2 i hi
  exact this rfl
 refine⟨v,A',μ',rfl,h1.ext fun i hi=>⟨hc i hi,rfl⟩,⟨fun i j hi hj hij=>h2.inj i j (hown i hi).1 (hown j hj).1 hij,fun i b hb=>?_,fun i es hb=>?_,fun i hi=>h2.dis i (hown i hi).1,h2.sta⟩,
  ⟨h3.os,h3.tape,h3.output,h3.size,fun b hb hn=>⟨(h3.un b hb fun i hi=>by cases hi).1,fun i hi=>(h3.un b hb fun i hi=>by cases hi).2 i (hown i hi).1⟩,fun b o ha hb=>h3.st b o (.inl ha) hb,fun b o ha=>?_,fun i b hb=>.inl (by simp[ovrH,hb]),fun i es hb=>.inl (by simp[ovrH,hb]),fun i hd=>by simp[ovrH,hd]⟩⟩
 ·have ho:=hown i (by rw[hb];rfl)
  rw[ho.2] at hb
  obtain⟨cur,a1,a2,a3,a4⟩:=h2.blk i b hb
  exact⟨cur,a1,a2,a3,fun k hk=>(a4 k hk).ext fun i hi=>⟨hc i hi,rfl⟩⟩
 ·have ho:=hown i (by rw[hb];rfl)
  rw[ho.2] at hb
  obtain⟨ents,cl,a1,a2,a3⟩:=h2.map i es hb
  exact⟨ents,cl,a1,a2,fun k hk=>⟨(a3 k hk).1.ext fun i hi=>⟨hc i hi,rfl⟩,(a3 k hk).2.ext fun i hi=>⟨hc i hi,rfl⟩⟩⟩
 ·rcases h3.an b o ha with ha | ha | ⟨k,hk,_⟩
  ·rcases ha with ha | ⟨i,hi,hb⟩
   ·exact .inl ha
   ·exact .inr (.inr ⟨i,hi,hb⟩)
  ·exact .inr (.inl ha)
  ·cases hk
theorem qnQ (H:Heap)(U U':List (Nat×Slot)):H.upd (U++U')=(H.upd U).upd U':=by simp[Heap.upd,List.foldl_append]
theorem qqO (C U1:List (Nat×Slot))(hC:∀p∈C,p.2≠.free)(hn:∀p∈U1,p.1∉C.map (·.1)):ovrH (hp C) (hp U1)=(hp C).upd ((C.map fun p=>(p.1,.dead))++U1):=by
 rw[qnQ,←qlF C hC]
 funext i
 by_cases h1:i∈U1.map (·.1)
 ·rw[qhn h1]
  have h2:i∉C.map (·.1):=by
   obtain⟨p,hp1,rfl⟩:=List.mem_map.1 h1
   exact hn p hp1
  simp[ovrH,qfG h2]
 ·rw[qaT h1]
  simp only[ovrH,qfG h1]
  cases hp C i<;>rfl
theorem qnB {P:Program}{base j:Nat}{d:Option Nat}{g:Option (Nat×Bool)}{rs:List IRow}{env:Nat→T}{H:Heap}{log:List LogE}{K:(Nat→T)→Heap→List LogE→Prop}{f:FuncId}{args:List Opd}{xs ys:List T}{v:T}
 (C U1:List (Nat×Slot)) (hw:qbr env g=some true) (ha:args.map (·.ev env)=xs) (hC:qcx H C) (hz:FrzL (hp C) xs ys) (hc:TC P f ys (fun _=>.free) v (hp U1)) (hU:∀p∈U1,p.2≠.free∧p.1∉C.map (·.1)∧H p.1=.free) (hcl:clL (fun i=>decide (i∈C.map (·.1))) xs=true)
 (h:RunR P base (j+1) rs (putE env d v) (H.upd ((C.map fun p=>(p.1,.dead))++U1)) (qbc j (C.map (·.1)) ((C.map fun p=>(p.1,.dead))++U1) log) K):RunR P base j (⟨d,.call (.call f args),g⟩::rs) env H log K:=by
 refine⟨v,C.map (·.1),(C.map fun p=>(p.1,.dead))++U1,.inr ⟨hw,?_⟩,h⟩
 show qcV P f (args.map (·.ev env)) H v _ _
 rw[ha]
 have hCf:∀p∈C,p.2≠.free:=fun p hp=>(hC p hp).1
 refine qcV.of ?_ hC (fun p hp=>?_) (fun p hp hn=>?_) hcl
 ·rw[←qqO C U1 hCf (fun p hp=>(hU p hp).2.1)]
  refine hc.give hz fun i hi=>?_
  have:=qlR hi
  obtain⟨p,hp1,rfl⟩:=List.mem_map.1 this
  exact qfG (hU p hp1).2.1
 ·rcases List.mem_append.1 hp with hp | hp
  ·obtain⟨q,hq,rfl⟩:=List.mem_map.1 hp
   simp
  ·exact (hU p hp).1
 ·rcases List.mem_append.1 hp with hp | hp
  ·obtain⟨q,hq,rfl⟩:=List.mem_map.1 hp
   exact absurd (List.mem_map.2 ⟨q,hq,rfl⟩) hn
  ·exact (hU p hp).2.2
theorem cJ0  : True:=trivial
theorem cJ2 {a b:Prop}(x:a)(y:b):a∧b:=⟨x,y⟩
theorem cJ3 {a b c:Prop}(x:a)(y:b)(z:c):a∧b∧c:=⟨x,y,z⟩
theorem cJ4 {a b c d:Prop}(x:a)(y:b)(z:c)(u:d):a∧b∧c∧d:=⟨x,y,z,u⟩
theorem cJ5 {a b c d e:Prop}(x:a)(y:b)(z:c)(u:d)(v:e):a∧b∧c∧d∧e:=⟨x,y,z,u,v⟩
theorem cJ6 {a b c d e f:Prop}(x:a)(y:b)(z:c)(u:d)(v:e)(w:f):a∧b∧c∧d∧e∧f:=⟨x,y,z,u,v,w⟩
theorem cJ7 {a b c d e f g:Prop}(x:a)(y:b)(z:c)(u:d)(v:e)(w:f)(s:g):a∧b∧c∧d∧e∧f∧g:=⟨x,y,z,u,v,w,s⟩
theorem cJ8 {a b c d e f g h:Prop}(x:a)(y:b)(z:c)(u:d)(v:e)(w:f)(s:g)(t:h):a∧b∧c∧d∧e∧f∧g∧h:=⟨x,y,z,u,v,w,s,t⟩
section
variable {P:Program} {base j:Nat} {d:Option Nat} {g:Option (Nat×Bool)} {rs:List IRow} {env env':Nat→T} {H H':Heap} {log log':List LogE} {K:(Nat→T)→Heap→List LogE→Prop} {f:FuncId} {args:List Opd} {xs ys:List T} {v:T} {F:Prop} {io:IOp} {o:IAct}
theorem eV {α:Type}{a b:α}(fx:F)(h:F→a=b:=by intro fx;(simp only[reqC,runC,Opd.ev,qbQ,qg0,qf4,qe0,qaG,qbi,qfB,qcd,qcG,qea,qbr,binT,binI,shI,qdq,lenT,qgj,qkS,qfg,qiQ,qgk,qkT,qgp,qkX,qfh,qiR,qgl,qkU,qfi,qiS,qh1,qo8,qek,qg1,qgn,qkW,qh3,qpa,qh2,qo9,qel,qg2,qgm,qkV,esz,mkEl,splice,qck,loI,hiI,Nat.reduceEqDiff,reduceIte,if_true,if_false,Option.map_some,Option.map_none,List.map_cons,List.map_nil,List.length_cons,List.length_nil,List.drop_succ_cons,List.drop_zero,List.take_succ_cons,List.take_zero,List.cons_append,List.nil_append,List.append_nil,List.getD_cons_zero,List.getD_cons_succ,Nat.zero_add,Nat.add_zero,Nat.reduceAdd,Nat.reduceMul,Bool.false_eq_true,beq_self_eq_true,qbc,qpi,qph,qoO,qto,fx]);(first | done | rfl)):a=b:=h fx
theorem eVi {α:Type}{a b:α}(fx:F)(h:F→a=b:=by intro fx;(simp only[reqC,runC,Opd.ev,qbQ,qg0,qf4,qe0,qaG,qbi,qfB,qcd,qcG,qea,qbr,binT,binI,shI,qdq,lenT,qgj,qkS,qfg,qiQ,qgk,qkT,qgp,qkX,qfh,qiR,qgl,qkU,qfi,qiS,qh1,qo8,qek,qg1,qgn,qkW,qh3,qpa,qh2,qo9,qel,qg2,qgm,qkV,esz,mkEl,splice,qck,loI,hiI,Nat.reduceEqDiff,reduceIte,if_true,if_false,Option.map_some,Option.map_none,List.map_cons,List.map_nil,List.length_cons,List.length_nil,List.drop_succ_cons,List.drop_zero,List.take_succ_cons,List.take_zero,List.cons_append,List.nil_append,List.append_nil,List.getD_cons_zero,List.getD_cons_succ,Nat.zero_add,Nat.add_zero,Nat.reduceAdd,Nat.reduceMul,Bool.false_eq_true,beq_self_eq_true,qbc,qpi,qph,qoO,qto,ite_self,fx]);(first | done | rfl)):a=b:=h fx
theorem pE {x:Nat→T}(h:putE env d v=x:=by first | exact qf4 _ _ _ | exact qe0 _ _ | rfl):putE env d v=x:=h
theorem pK {C:List (Nat×Slot)}(h:qcx H C:=by first | (intro p hp;cases hp;done) | (first | exact qd7 rfl (by simp) (by first | (simp[Slot.cl,clL,T.cl,qca,qak,qae];done) | (simp_all[Slot.cl,clL,T.cl];done) | (simp[Slot.cl,clL,T.cl];exact qcP (fun i hi=>by cases hi) _ (by assumption))) | exact qpf rfl (fun p hp=>by simp only[List.mem_cons,List.not_mem_nil,or_false] at hp;rcases hp with rfl | rfl | rfl | rfl | rfl | rfl<;>rfl) (by simp[qlQ,hpL,Slot.cl,clL,T.cl,qca,qak,qae]))):qcx H C:=h
theorem fRo {a b:Bool}(h:a=b:=by (first | assumption | (simp[froL,clL,T.cl];done) | (simp[froL,clL,T.cl,qca,qak];done) | (simp[froL,clL,T.cl,qca,qak,qae];done) | (simp_all[froL,clL,T.cl];done))):a=b:=h
theorem uK1 {U:List (Nat×Slot)}(h:∀p∈U,p.2≠.free:=by first | (intro p hp;simp only[List.mem_cons,List.not_mem_nil,or_false] at hp;first | (subst hp;simp[qaG,qbi];done) | (rcases hp with rfl | rfl | rfl | rfl<;>simp[qaG,qbi];done) | (rcases hp with rfl | rfl | rfl<;>simp[qaG,qbi];done) | (rcases hp with rfl | rfl<;>simp[qaG,qbi];done) | (cases hp;done)) | (intro p hp;simp only[List.mem_cons,List.not_mem_nil,or_false] at hp;first | (rcases hp with rfl | rfl | rfl | rfl | rfl<;>simp[qaG,qbi];done) | (rcases hp with rfl | rfl | rfl | rfl | rfl | rfl<;>simp[qaG,qbi];done) | (rcases hp with rfl | rfl | rfl | rfl | rfl | rfl | rfl<;>simp[qaG,qbi];done))):∀p∈U,p.2≠.free:=h
theorem uK2 {U C:List (Nat×Slot)}(h:∀p∈U,p.1∉C.map (·.1)→H p.1=.free:=by first | (intro p hp;simp only[List.mem_cons,List.not_mem_nil,or_false] at hp;first | (subst hp;simp[qaG,qbi];done) | (rcases hp with rfl | rfl | rfl | rfl<;>simp[qaG,qbi];done) | (rcases hp with rfl | rfl | rfl<;>simp[qaG,qbi];done) | (rcases hp with rfl | rfl<;>simp[qaG,qbi];done) | (cases hp;done)) | (intro p hp;simp only[List.mem_cons,List.not_mem_nil,or_false] at hp;first | (rcases hp with rfl | rfl | rfl | rfl | rfl<;>simp[qaG,qbi];done) | (rcases hp with rfl | rfl | rfl | rfl | rfl | rfl<;>simp[qaG,qbi];done) | (rcases hp with rfl | rfl | rfl | rfl | rfl | rfl | rfl<;>simp[qaG,qbi];done))):∀p∈U,p.1∉C.map (·.1)→H p.1=.free:=h
theorem uK3 {U C:List (Nat×Slot)}(h:∀p∈U,p.2≠.free∧p.1∉C.map (·.1)∧H p.1=.free:=by (intro p hp;simp only[List.mem_cons,List.not_mem_nil,or_false] at hp;first | (subst hp;simp[qaG,qbi];done) | (rcases hp with rfl | rfl | rfl | rfl<;>simp[qaG,qbi];done) | (rcases hp with rfl | rfl | rfl<;>simp[qaG,qbi];done) | (rcases hp with rfl | rfl<;>simp[qaG,qbi];done) | (cases hp;done))):∀p∈U,p.2≠.free∧p.1∉C.map (·.1)∧H p.1=.free:=h
theorem cHk {dd:Bool}{bm:List Nat}(h:dd=true→log.Pairwise (chkP bm):=by exact (by first | (intro h;cases h;done) | (intro _;simp[List.pairwise_cons,chkP];done) | (intro _;simp[List.pairwise_cons,chkP,Nat.testBit];done) | (intro _;decide) | (intro _;simp[qbc,List.pairwise_cons,chkP];done) | (intro _;simp[qbc,List.pairwise_cons,chkP,Nat.testBit];done))):dd=true→log.Pairwise (chkP bm):=h
theorem fF {x y:T}(h:Frz H x y:=by (repeat (first | exact FrzL.nil | refine FrzL.cons ?_ ?_ | exact Frz.nil | exact Frz.same rfl | exact Frz.same (by simp[T.cl,clL];done) | refine Frz.aggL ?_ (by rfl) | refine Frz.tupL ?_ | refine Frz.slL (by rfl) (by rfl) (by rfl) (by rfl) (by rfl) (by rfl) ?_))):Frz H x y:=h
theorem eG {G G1:Prop}(k:G1)(h:G1→G:=by intro hk;(try (simp only[reqC,runC,Opd.ev,qbQ,qg0,qf4,qe0,qaG,qbi,qfB,qcd,qcG,qea,qbr,binT,binI,shI,qdq,lenT,qgj,qkS,qfg,qiQ,qgk,qkT,qgp,qkX,qfh,qiR,qgl,qkU,qfi,qiS,qh1,qo8,qek,qg1,qgn,qkW,qh3,qpa,qh2,qo9,qel,qg2,qgm,qkV,esz,mkEl,splice,qck,loI,hiI,Nat.reduceEqDiff,reduceIte,if_true,if_false,Option.map_some,Option.map_none,List.map_cons,List.map_nil,List.length_cons,List.length_nil,List.drop_succ_cons,List.drop_zero,List.take_succ_cons,List.take_zero,List.cons_append,List.nil_append,List.append_nil,List.getD_cons_zero,List.getD_cons_succ,Nat.zero_add,Nat.add_zero,Nat.reduceAdd,Nat.reduceMul,Bool.false_eq_true,beq_self_eq_true,qbc,qpi,qph,qoO,qto]));exact hk):G:=h k
theorem fZl {xs ys:List T}(h:FrzL H xs ys:=by (repeat (first | exact FrzL.nil | refine FrzL.cons ?_ ?_ | exact Frz.nil | exact .same (by simp[T.cl,clL,qca,qak,qae];done) | exact qik rfl rfl (fun c hc=>by simp only[List.mem_cons,List.not_mem_nil,or_false] at hc;rcases hc with rfl | rfl | rfl | rfl | rfl | rfl | rfl | rfl | rfl | rfl<;>rfl) (by first | (simp[clL,T.cl,qca,qak,qae];done) | (simp_all[clL,T.cl];done))))):FrzL H xs ys:=h
theorem fZx {xs ys:List T}(h:FrzL H xs ys:=by (repeat (first | exact FrzL.nil | refine FrzL.cons ?_ ?_ | exact Frz.nil | exact Frz.same rfl | exact Frz.same (by simp[T.cl,clL];done) | exact qlP _ rfl rfl rfl | refine Frz.aggL ?_ rfl | refine Frz.tupL ?_ | refine Frz.slL rfl rfl rfl rfl rfl rfl ?_ | exact qik rfl rfl (fun c hc=>by simp only[List.mem_cons,List.not_mem_nil,or_false] at hc;rcases hc with rfl | rfl | rfl | rfl<;>rfl) (by simp[clL,T.cl])))):FrzL H xs ys:=h
theorem fZt {xs ys:List T}(h:FrzL H xs ys:=by (repeat (first | exact FrzL.nil | refine FrzL.cons ?_ ?_ | exact Frz.nil | exact Frz.same rfl | exact Frz.same (by simp[T.cl,clL];done) | refine Frz.aggL ?_ (by rfl) | refine Frz.tupL ?_ | refine Frz.slL (by rfl) (by rfl) (by rfl) (by rfl) (by rfl) (by rfl) ?_))):FrzL H xs ys:=h
theorem fZy {xs ys:List T}(h:FrzL H xs ys:=by (repeat (first | exact FrzL.nil | refine FrzL.cons ?_ ?_ | exact Frz.nil | exact Frz.same rfl | exact Frz.same (by simp[T.cl,clL];done) | refine Frz.fnL ?_ | exact Frz.refL rfl rfl rfl (by simp[clL,T.cl];done) | exact qlP _ rfl rfl rfl | refine Frz.aggL ?_ rfl | refine Frz.tupL ?_ | refine Frz.slL rfl rfl rfl rfl rfl rfl ?_))):FrzL H xs ys:=h
theorem wN {G G1:Prop}(k:G1)(st:G1→G:=by intro hk;(try simp only[thn,inB,if_true]);(repeat (first | refine qbt ?_ | refine qb5 ?_ | (refine qcf ?_;(try simp only[thn,inB,if_true]))));exact hk):G:=st k
theorem rV (fx:F){c:Prop}(h:RunR P base (j+1) rs env' H log K)(hw:F→qbr env g=some true:=by intro fx;(first | rfl | exact eV fx))(hq:F→reqC env io=some (c,.val v):=by intro fx;exact eV fx)(hc:F→c:=by intro fx;(first | trivial | omega | (simp;done) | (simp;omega) | (refine⟨?_,?_⟩<;>first | trivial | omega | (simp;done)) | (refine⟨?_,?_,?_⟩<;>first | trivial | omega | (simp;done))))(he:putE env d v=env':=by exact pE):RunR P base j (⟨d,.op io,g⟩::rs) env H log K:=by
 subst he
 exact qrK (hw fx) (hq fx) (hc fx) h
theorem rM (fx:F){c c':Prop}{q:Req}{L:List Nat}{U:List (Nat×Slot)}(h:RunR P base (j+1) rs env' H' log' K)(hw:F→qbr env g=some true:=by intro fx;(first | rfl | exact eV fx))(hq:F→reqC env io=some (c,q):=by intro fx;exact eV fx)(hc:F→c:=by intro fx;(first | trivial | omega | (simp;done) | (simp;omega) | (refine⟨?_,?_⟩<;>first | trivial | omega | (simp;done)) | (refine⟨?_,?_,?_⟩<;>first | trivial | omega | (simp;done))))(hv:F→runC (base+j) H q=some (c',v,L,U):=by intro fx;exact eV fx)(hc':F→c':=by intro fx;(first | trivial | omega | (simp;done) | (simp;omega) | (refine⟨?_,?_⟩<;>first | trivial | omega | (simp;done)) | (refine⟨?_,?_,?_⟩<;>first | trivial | omega | (simp;done))))(he:putE env d v=env':=by exact pE)(hH:F→H.upd U=H':=by intro fx;exact eV fx)(hl:F→qbc j L U log=log':=by intro fx;exact eV fx):RunR P base j (⟨d,.op io,g⟩::rs) env H log K:=by
 subst he
 refine qrJ (hw fx) (hq fx) (hc fx) (hv fx) (hc' fx) ?_
 rw[hH fx,hl fx]
 exact h
theorem rI (fx:F){t:Nat}{want b:Bool}{c:Prop}(h:RunR P base (j+1) rs env' H log K)(hb:F→env t=.bool b:=by intro fx;exact eV fx)(hq:F→(b==want)=true→reqC env io=some (c,.val v):=by intro fx hw;exact eVi (cJ2 fx hw))(hc:F→(b==want)=true→c:=by intro fx _;(first | trivial | omega | (simp;done) | (simp;omega) | (refine⟨?_,?_⟩<;>first | trivial | omega | (simp;done)) | (refine⟨?_,?_,?_⟩<;>first | trivial | omega | (simp;done))))(he:putE env d (if (b==want)=true then v else .tup [])=env':=by exact pE):RunR P base j (⟨d,.op io,some (t,want)⟩::rs) env H log K:=by
 subst he
 exact qtH (hb fx) (hq fx) (hc fx) h
theorem rIm (fx:F){t:Nat}{want b:Bool}{c c':Prop}{q:Req}{L:List Nat}(h:RunR P base (j+1) rs env' H log' K)(hb:F→env t=.bool b:=by intro fx;exact eV fx)(hq:F→(b==want)=true→reqC env io=some (c,q):=by intro fx hw;exact eVi (cJ2 fx hw))(hc:F→(b==want)=true→c:=by intro fx _;(first | trivial | omega | (simp;done) | (simp;omega) | (refine⟨?_,?_⟩<;>first | trivial | omega | (simp;done)) | (refine⟨?_,?_,?_⟩<;>first | trivial | omega | (simp;done))))(hv:F→(b==want)=true→runC (base+j) H q=some (c',v,L,[]):=by intro fx hw;exact eVi (cJ2 fx hw))(hc':F→(b==want)=true→c':=by intro fx _;(first | trivial | omega | (simp;done) | (simp;omega) | (refine⟨?_,?_⟩<;>first | trivial | omega | (simp;done)) | (refine⟨?_,?_,?_⟩<;>first | trivial | omega | (simp;done))))(he:putE env d (if (b==want)=true then v else .tup [])=env':=by exact pE)(hl:F→qbc j L [] log=log':=by intro fx;exact eV fx):RunR P base j (⟨d,.op io,some (t,want)⟩::rs) env H log K:=by
 subst he
 refine qrI (hb fx) (hq fx) (hc fx) (hv fx) (hc' fx) ?_
 rw[hl fx]
 exact h
theorem rNt (fx:F)(h:RunR P base (j+1) rs env' H log K)(hw:F→qbr env g=some false:=by intro fx;exact eV fx)(he:putE env d (.tup [])=env':=by exact pE):RunR P base j (⟨d,o,g⟩::rs) env H log K:=by
 subst he
 exact qmA (hw fx) h
theorem rN {rs':List IRow}{j':Nat}(fx:F)(k:RunR P base j' rs' env' H' log' K)(h:F→RunR P base j' rs' env' H' log' K→RunR P base j rs env H log K:=by intro fx hk;(repeat (first | refine rV fx ?_ | refine rM fx ?_ | refine rI fx ?_ | refine rIm fx ?_ | refine rNt fx ?_));exact hk):RunR P base j rs env H log K:=h fx k
theorem rN1 {rs':List IRow}{j':Nat}(fx:F)(k:RunR P base j' rs' env' H' log' K)(h:F→RunR P base j' rs' env' H' log' K→RunR P base j rs env H log K:=by intro fx hk;(first | refine rV fx ?_ | refine rM fx ?_ | refine rI fx ?_ | refine rIm fx ?_ | refine rNt fx ?_);exact hk):RunR P base j rs env H log K:=h fx k
def FinK (dd:Bool)(bm:List Nat)(ss:List Nat)(R:(Nat→T)→Heap→Prop):(Nat→T)→Heap→List LogE→Prop:=fun env H log=>(dd=true→log.Pairwise (chkP bm))∧R (ofL (ss.map fun s=>(s,env s))) H
theorem rFi {dd:Bool}{bm:List Nat}(h:dd=true→log.Pairwise (chkP bm):=by exact cHk):RunR P base j [] env H log (Fin dd bm env H):=qmz h
theorem rF {dd:Bool}{bm ss:List Nat}{l:List (Nat×T)}{R:(Nat→T)→Heap→Prop}(fx:F)(k:R (ofL l) H)(hc:dd=true→log.Pairwise (chkP bm):=by exact cHk)(hl:F→ss.map (fun s=>(s,env s))=l:=by intro fx;exact eV fx):RunR P base j [] env H log (FinK dd bm ss R):=
 ⟨hc,by rw[hl fx];exact k⟩
theorem rE {dd:Bool}{bm ss:List Nat}{l:List (Nat×T)}{R:(Nat→T)→Heap→Prop}(fx:F)(k:R (ofL l) H')(h:F→R (ofL l) H'→RunR P base j rs env H log (FinK dd bm ss R):=by intro fx hk;refine rN fx ?_;exact rF fx hk):RunR P base j rs env H log (FinK dd bm ss R):=h fx k
theorem rC (fx:F)(k:∃v,TC P f xs (fun _=>.free) v (fun _=>.free)∧RunR P base (j+1) rs (putE env d v) H log K)(hw:F→qbr env g=some true:=by intro fx;(first | rfl | exact eV fx))(ha:F→args.map (·.ev env)=xs:=by intro fx;exact eV fx)(hf:froL xs=true:=by exact fRo):RunR P base j (⟨d,.call (.call f args),g⟩::rs) env H log K:=
 let ⟨_,hc,h⟩:=k;qdg (hw fx) (ha fx) hc hf h
theorem rCv {x:Opd}{caps:List T}(fx:F)(k:∃v,TC P f xs (fun _=>.free) v (fun _=>.free)∧RunR P base (j+1) rs (putE env d v) H log K)(hw:F→qbr env g=some true:=by intro fx;(first | rfl | exact eV fx))(hx:F→x.ev env=.fn f caps:=by intro fx;exact eV fx)(ha:F→args.map (·.ev env)++caps=xs:=by intro fx;exact eV fx)(hf:froL xs=true:=by exact fRo):RunR P base j (⟨d,.call (.callv x args),g⟩::rs) env H log K:=
 let ⟨_,hc,h⟩:=k;qd9 (hw fx) (hx fx) (ha fx) hc hf h
theorem rCi {t:Nat}{want b:Bool}(fx:F)(k:∃v,((b==want)=true→TC P f xs (fun _=>.free) v (fun _=>.free))∧RunR P base (j+1) rs (putE env d (if (b==want)=true then v else .tup [])) H log K)(hb:F→env t=.bool b:=by intro fx;(first | rfl | exact eV fx))(ha:F→(b==want)=true→args.map (·.ev env)=xs:=by intro fx hw;exact eV (cJ2 fx hw))(hf:froL xs=true:=by exact fRo):RunR P base j (⟨d,.call (.call f args),some (t,want)⟩::rs) env H log K:=
 let ⟨_,hc,h⟩:=k;qkd (hb fx) (ha fx) hc hf h
theorem rL (C:List (Nat×Slot))(fx:F)(k:∃ys v,TP P f ys v∧FrzL (hp C) xs ys∧v.scal=true∧RunR P base (j+1) rs (putE env d v) H (qbc j (C.map (·.1)) [] log) K)(hw:F→qbr env g=some true:=by intro fx;(first | rfl | exact eV fx))(ha:F→args.map (·.ev env)=xs:=by intro fx;exact eV fx)(hC:qcx H C:=by exact pK)(hcl:clL (fun i=>decide (i∈C.map (·.1))) xs=true:=by exact fRo):RunR P base j (⟨d,.call (.call f args),g⟩::rs) env H log K:=
 let ⟨_,_,hc,hz,hs,h⟩:=k;qdP C (hw fx) (ha fx) hC hz hc hs hcl h
theorem rLi {t:Nat}{want b:Bool}(C:List (Nat×Slot))(fx:F)(k:∃ys v,((b==want)=true→TP P f ys v)∧FrzL (hp C) xs ys∧v.scal=true∧RunR P base (j+1) rs (putE env d (if (b==want)=true then v else .tup [])) H (qbc j (C.map (·.1)) [] log) K)(hb:F→env t=.bool b:=by intro fx;(first | rfl | exact eV fx))(ha:F→(b==want)=true→args.map (·.ev env)=xs:=by intro fx hw;exact eV (cJ2 fx hw))(hC:qcx H C:=by exact pK)(hcl:clL (fun i=>decide (i∈C.map (·.1))) xs=true:=by exact fRo):RunR P base j (⟨d,.call (.call f args),some (t,want)⟩::rs) env H log K:=
 let ⟨_,_,hc,hz,hs,h⟩:=k;qke C (hb fx) (ha fx) hC hz hc hs hcl h
theorem rG (C:List (Nat×Slot))(fx:F)(k:∃ys v,TP P f ys v∧FrzL (hp C) xs ys∧RunR P base (j+1) rs (putE env d v) H' log' K)(hw:F→qbr env g=some true:=by intro fx;(first | rfl | exact eV fx))(ha:F→args.map (·.ev env)=xs:=by intro fx;exact eV fx)(hC:qcx H C:=by exact pK)(hcl:clL (fun i=>decide (i∈C.map (·.1))) xs=true:=by exact fRo)(hH:F→H.upd (C.map fun p=>(p.1,.dead))=H':=by intro fx;exact eV fx)(hl:F→qbc j (C.map (·.1)) (C.map fun p=>(p.1,.dead)) log=log':=by intro fx;exact eV fx):RunR P base j (⟨d,.call (.call f args),g⟩::rs) env H log K:=by
 obtain⟨ys,v,hc,hz,h⟩:=k
 refine qpE C (hw fx) (ha fx) hC hz hc hcl ?_
 rw[hH fx,hl fx]
 exact h
theorem rGc (C U1:List (Nat×Slot))(fx:F)(k:∃ys v,TC P f ys (fun _=>.free) v (hp U1)∧FrzL (hp C) xs ys∧RunR P base (j+1) rs (putE env d v) H' log' K)(hw:F→qbr env g=some true:=by intro fx;(first | rfl | exact eV fx))(ha:F→args.map (·.ev env)=xs:=by intro fx;exact eV fx)(hC:qcx H C:=by exact pK)(hU:∀p∈U1,p.2≠.free∧p.1∉C.map (·.1)∧H p.1=.free:=by exact uK3)(hcl:clL (fun i=>decide (i∈C.map (·.1))) xs=true:=by exact fRo)(hH:F→H.upd ((C.map fun p=>(p.1,.dead))++U1)=H':=by intro fx;exact eV fx)(hl:F→qbc j (C.map (·.1)) ((C.map fun p=>(p.1,.dead))++U1) log=log':=by intro fx;exact eV fx):RunR P base j (⟨d,.call (.call f args),g⟩::rs) env H log K:=by
 obtain⟨ys,v,hc,hz,h⟩:=k
 refine qnB C U1 (hw fx) (ha fx) hC hz hc hU hcl ?_
 rw[hH fx,hl fx]
 exact h
theorem rU (C U:List (Nat×Slot))(fx:F)(k:∃v,TC P f xs (hp C) v ((hp C).upd U)∧RunR P base (j+1) rs (putE env d v) H' log' K)(hw:F→qbr env g=some true:=by intro fx;(first | rfl | exact eV fx))(ha:F→args.map (·.ev env)=xs:=by intro fx;exact eV fx)(hC:qcx H C:=by exact pK)(hU:∀p∈U,p.2≠.free:=by exact uK1)(hn:∀p∈U,p.1∉C.map (·.1)→H p.1=.free:=by exact uK2)(hcl:clL (fun i=>decide (i∈C.map (·.1))) xs=true:=by exact fRo)(hH:F→H.upd U=H':=by intro fx;exact eV fx)(hl:F→qbc j (C.map (·.1)) U log=log':=by intro fx;exact eV fx):RunR P base j (⟨d,.call (.call f args),g⟩::rs) env H log K:=by
 obtain⟨v,hc,h⟩:=k
 refine qpD C U (hw fx) (ha fx) hC hc hU hn hcl ?_
 rw[hH fx,hl fx]
 exact h
theorem rCut {e id tot n:Nat}{x y:Opd}{k:IntKind}{b:Blk}(fx:F)(h:RunR P base (j+1) rs env' H' log' K)(hw:F→qbr env g=some true:=by intro fx;(first | rfl | exact eV fx))(hx:F→x.ev env=.sl id tot e 0 n:=by intro fx;(first | rfl | exact eV fx))(hy:F→y.ev env=.int k 0:=by intro fx;(first | rfl | exact eV fx))(hb:F→H id=.live b:=by intro fx;(first | rfl | exact eV fx))(hl:F→b.cs.length=tot:=by intro fx;(first | rfl | exact eV fx))(hf:F→H (base+j)=.free:=by intro fx;(first | rfl | exact eV fx))(hH:F→H.upd [(id,.dead),(base+j,.live ⟨b.ty,[]⟩)]=H':=by intro fx;exact eV fx)(hg:F→qbc j [id] [(id,.dead),(base+j,.live ⟨b.ty,[]⟩)] log=log':=by intro fx;exact eV fx)(he:putE env d (.sl (base+j) 0 e 0 0)=env':=by (try simp only[Nat.reduceAdd,Nat.add_zero,Nat.zero_add]);exact pE):RunR P base j (⟨d,.op (.slice e x none (some y)),g⟩::rs) env H log K:=by
 subst he
 refine qrH (hw fx) (hx fx) (hy fx) (hb fx) (hl fx) (hf fx) ?_
 rw[hH fx,hg fx]
 exact h
end
section
variable {P:Program} {N:Nat} {rows:List IRow} {bm:List Nat} {dd:Bool} {env:Nat→T} {H h':Heap} {Q:IExit→(Nat→T)→Heap→Prop} {l:List (Nat×T)} {F G:Prop}
theorem W_rK (base:Nat)(ss:List Nat)(hm:P.follows .mixedOrders=true)(h:RunR P base 0 rows env H [] (FinK dd bm ss (Q .normal))):W P N (.reg rows bm dd) env H Q:=by
 obtain⟨e,env1,H1,h1,h2⟩:=W_reg (N:=N) (Q:=fun e env' H'=>e=.normal∧Q .normal (ofL (ss.map fun s=>(s,env' s))) H') base hm (qhe _ _ _ _ _ _ _ (fun a b c hh=>⟨hh.1,rfl,hh.2⟩) h)
 obtain⟨rfl,k⟩:=h2
 refine⟨.normal,_,_,fun code hc ro w A μ a he hS hN Q' hQ=>h1 code hc ro w A μ a he hS hN Q' fun a' w' A' μ' g1 g2 g3 g4 g5=>hQ a' w' A' μ' (fun t=>?_) g2 g3 g4 g5,k⟩
 rcases qkL env1 t ss with e | e
 ·rw[e];exact g1 t
 ·rw[e];exact .undef _
theorem wR (base:Nat)(ss:List Nat)(h:RunR P base 0 rows env H [] (FinK dd bm ss (Q .normal)))(st:W P N (.reg rows bm dd) env H Q→G:=by intro hk;(try simp only[thn,inB,if_true]);(repeat (first | refine qbt ?_ | refine qb5 ?_ | (refine qcf ?_;(try simp only[thn,inB,if_true]))));exact hk)(hm:P.follows .mixedOrders=true:=by rfl):G:=st (W_rK base ss hm h)
theorem wRn {j':Nat}{rs':List IRow}{env':Nat→T}{log':List LogE}(base:Nat)(ss:List Nat)(fx:F)(k:RunR P base j' rs' env' h' log' (FinK dd bm ss (Q .normal)))(st:W P N (.reg rows bm dd) env H Q→G:=by intro hk;(try simp only[thn,inB,if_true]);(repeat (first | refine qbt ?_ | refine qb5 ?_ | (refine qcf ?_;(try simp only[thn,inB,if_true]))));exact hk)(hm:P.follows .mixedOrders=true:=by rfl)
 (h:F→RunR P base j' rs' env' h' log' (FinK dd bm ss (Q .normal))→RunR P base 0 rows env H [] (FinK dd bm ss (Q .normal)):=by intro fx hk;refine rN fx ?_;exact hk):G:=st (W_rK base ss hm (h fx k))
theorem wR0 (base:Nat)(ss:List Nat)(fx:F)(k:Q .normal (ofL l) h')(st:W P N (.reg rows bm dd) env H Q→G:=by intro hk;(try simp only[thn,inB,if_true]);(repeat (first | refine qbt ?_ | refine qb5 ?_ | (refine qcf ?_;(try simp only[thn,inB,if_true]))));exact hk)(hm:P.follows .mixedOrders=true:=by rfl)
 (h:F→Q .normal (ofL l) h'→RunR P base 0 rows env H [] (FinK dd bm ss (Q .normal)):=by intro fx hk;refine rN fx ?_;exact rF fx hk):G:=st (W_rK base ss hm (h fx k))
theorem wT {x:Opd}{t:Bool}{a b:ICode}(fx:F)(k:W P N a env H Q)(st:W P N (.cond x a b) env H Q→G:=by intro hk;(try simp only[thn,inB,if_true]);(repeat (first | refine qbt ?_ | refine qb5 ?_ | (refine qcf ?_;(try simp only[thn,inB,if_true]))));exact hk)(hx:F→x.ev env=.bool t:=by intro fx;exact eV fx)(ht:F→t=true:=by intro fx;(first | rfl | (simp only[fx,if_true,Bool.false_eq_true,if_false];done) | (simp[fx];done) | (simp_all;done))):G:=
 st (qai (hx fx) (by rw[ht fx];exact k))
theorem wF {x:Opd}{t:Bool}{a b:ICode}(fx:F)(k:W P N b env H Q)(st:W P N (.cond x a b) env H Q→G:=by intro hk;(try simp only[thn,inB,if_true]);(repeat (first | refine qbt ?_ | refine qb5 ?_ | (refine qcf ?_;(try simp only[thn,inB,if_true]))));exact hk)(hx:F→x.ev env=.bool t:=by intro fx;exact eV fx)(ht:F→t=false:=by intro fx;(first | rfl | (simp only[fx,if_true,Bool.false_eq_true,if_false];done) | (simp[fx];done) | (simp_all;done))):G:=
 st (qai (hx fx) (by rw[ht fx];exact k))
theorem wS {x:Opd}{t:Bool}{a b:ICode}(fx:F)(h1:t=true→W P N a env H Q)(h2:t=false→W P N b env H Q)(st:W P N (.cond x a b) env H Q→G:=by intro hk;(try simp only[thn,inB,if_true]);(repeat (first | refine qbt ?_ | refine qb5 ?_ | (refine qcf ?_;(try simp only[thn,inB,if_true]))));exact hk)(hx:F→x.ev env=.bool t:=by intro fx;exact eV fx):G:=st (qsA (hx fx) h1 h2)
theorem wX {id:Nat}(k:Q (.exit id) env H)(st:W P N (.exit id) env H Q→G:=by intro hk;(try simp only[thn,inB,if_true]);(repeat (first | refine qbt ?_ | refine qb5 ?_ | (refine qcf ?_;(try simp only[thn,inB,if_true]))));exact hk):G:=st (qb4 k)
theorem wE (k:Q .ret env H)(st:W P N .ret env H Q→G:=by intro hk;(try simp only[thn,inB,if_true]);(repeat (first | refine qbt ?_ | refine qb5 ?_ | (refine qcf ?_;(try simp only[thn,inB,if_true]))));exact hk):G:=st (qaL k)
theorem wP {x r:T}(k:Frz H x r)(st:W P N .ret env H Q→G:=by intro hk;(try simp only[thn,inB,if_true]);(repeat (first | refine qbt ?_ | refine qb5 ?_ | (refine qcf ?_;(try simp only[thn,inB,if_true]))));exact hk)(hq:Frz H x r→Q .ret env H:=by intro hk;(try simp only[thn,inB]);exact⟨by simp,_,rfl,hk⟩):G:=st (qaL (hq k))
theorem wL {c:ICode}(k:WL P N c env H Q)(st:W P N (.loop c) env H Q→G:=by intro hk;(try simp only[thn,inB,if_true]);(repeat (first | refine qbt ?_ | refine qb5 ?_ | (refine qcf ?_;(try simp only[thn,inB,if_true]))));exact hk):G:=st (qc1 k)
end
section
variable {w w':World} {A A':Sta} {μ μ':Nat→Nat} {H H':Heap} {v:Value} {x:T} {r:Nat} {o o':Obj}
theorem qlu (hr:w.heap[r]? = some o)(ho:o.isCells=false){p:Addr}{u:Value}(h:w.cell? p=some u):(w.putObj r o').cell? p=some u:=by
 have hne:p.block≠r:=fun e=>by
  obtain⟨oc,h1,h2⟩:=cells_of_cell h
  rw[e,hr] at h1
  injection h1 with h1
  rw[←h1,ho] at h2;cases h2
 exact (World.cell?_of_block (World.putObj_heap_other hne)).trans h
theorem Rep.put (hr:w.heap[r]? = some o)(ho:o.isCells=false)(h:Rep w A μ H v x):Rep (w.putObj r o') A μ H v x:=by
 induction h with
 | undef v=>exact .undef v
 | bool b=>exact .bool b
 | int k n=>exact .int k n
 | str s=>exact .str s
 | agg us cs hn h1 _ ih=>exact .agg us cs hn h1 ih
 | tup us vs hn _ ih=>exact .tup us vs hn ih
 | list a c k xs U hk hc h1 hA hU _ ih=>exact .list a c k xs U hk hc h1 hA (fun p hp=>qlu hr ho (hU p hp)) ih
 | lnil=>exact .lnil
 | nil=>exact .nil
 | emp p=>exact .emp p
 | ptr a cs U h1 hA hU _ ih=>exact .ptr a cs U h1 hA (fun p hp=>qlu hr ho (hU p hp)) ih
 | nilp=>exact .nilp
 | fn f us caps hn _ ih=>exact .fn f us caps hn ih
 | nilfn=>exact .nilfn
 | ref id tot off b hb ht=>exact .ref id tot off b hb ht
 | refS p id tot off hs=>exact .refS _ _ _ _ hs
 | sl id tot e off n c b cur hb ht hcur hn hm hc hf=>
  refine .sl id tot e off n c b cur hb ht ?_ hn hm hc hf
  rw[World.putObj_heap_other];exact hcur
  intro e;rw[e,hr] at hcur;injection hcur with hcur;rw[hcur] at ho;cases ho
 | slS p c id tot e off n hn hs=>exact .slS _ _ _ _ _ _ _ hn hs
 | mp id es he=>exact .mp id es he
 | mpS v id hd=>exact .mpS _ _ hd
 | nilmp=>exact .nilmp
theorem Sim.put (hr:w.heap[r]? = some o)(ho:o.isCells=false)(hu:∀i,(H i).owns=true→μ i≠r)(h:Sim w A μ H):Sim (w.putObj r o') A μ H where
 inj:=h.inj
 blk i b hb:=by
  obtain⟨cur,h1,h2,h3,h4⟩:=h.blk i b hb
  exact⟨cur,(World.putObj_heap_other (hu i (by rw[hb];rfl))).trans h1,h2,h3,fun k hk=>(h4 k hk).put hr ho⟩
 map i es he:=by
  obtain⟨ents,cl,h1,h2,h3⟩:=h.map i es he
  exact⟨ents,cl,(World.putObj_heap_other (hu i (by rw[he];rfl))).trans h1,h2,fun k hk=>⟨(h3 k hk).1.put hr ho,(h3 k hk).2.put hr ho⟩⟩
 dis:=h.dis
 sta b o ha:=by rw[World.putObj_size];exact h.sta b o ha
theorem Trans.put (hn:w.heap.size≤r)(h:Trans w A μ H w' A' μ' H'):Trans w A μ H (w'.putObj r o') A' μ' H':=by
 have hne:∀b,b<w.heap.size→b≠r:=fun b hb=>by omega
 refine⟨h.os,h.tape,h.output,by rw[World.putObj_size];exact h.size,fun b hb hu=>?_,fun b o ha hb=>?_,h.an,fun i b hb=>?_,h.map,h.dead⟩
 ·obtain⟨h1,h2⟩:=h.un b hb hu
  exact⟨(World.putObj_heap_other (hne b hb)).trans h1,h2⟩
 ·obtain⟨h1,h2⟩:=h.st b o ha hb
  exact⟨h1,(World.cell?_of_block (w:=w') (World.putObj_heap_other (hne b hb))).trans h2⟩
 ·rcases h.own i b hb with h1 | ⟨b',h1,h2⟩
  ·exact .inl h1
  ·refine .inr ⟨b',h1,?_⟩
   rcases h2 with h2 | ⟨h2,h3,h4,h5⟩
   ·exact .inl h2
   ·refine .inr ⟨h2,h3,h4,fun cur hc=>?_⟩
    obtain⟨cur',k1,k2⟩:=h5 cur hc
    exact⟨cur',(World.putObj_heap_other (hne _ (qaz hc))).trans k1,k2⟩
end
def Mk (D:Nat):Deferred:={ target:=.collected D,args:=#[] }
def Mks (n0:Nat)(w:World)(μ:Nat→Nat)(H:Heap)(ds:List Deferred):Prop:=
 ∃Ds:List Nat,ds=Ds.map Mk∧Ds.Nodup∧∀D∈Ds,n0≤D∧w.heap[D]? = some (.deferred (some []))∧∀i,(H i).owns=true→μ i≠D
theorem Mks.trans {n0:Nat}{w w':World}{A A':Sta}{μ μ':Nat→Nat}{H H':Heap}{ds:List Deferred}(h:Mks n0 w μ H ds)(ht:Trans w A μ H w' A' μ' H'):Mks n0 w' μ' H' ds:=by
 obtain⟨Ds,rfl,h1,h2⟩:=h
 refine⟨Ds,rfl,h1,fun D hD=>?_⟩
 obtain⟨a,b,c⟩:=h2 D hD
 obtain⟨k1,k2⟩:=ht.un D (qaz b) c
 exact⟨a,k1.trans b,k2⟩
inductive XE where
 | normal
 | exit (id:Nat)
 | ret
 | goto (l:Nat)
def XE.to:XE→Exit
 | .normal=>.normal
 | .exit id=>.exit id
 | .ret=>.ret
 | .goto l=>.goto l
def IExit.x:IExit→XE
 | .normal=>.normal
 | .exit id=>.exit id
 | .ret=>.ret
structure XSt (N:Nat) (w0:World) (A0:Sta) (μ0:Nat→Nat) (H0:Heap) (env:Nat→T) (H:Heap) (a:Act) (w:World) (A:Sta) (μ:Nat→Nat):Prop where
 env:EnvR w A μ H a env
 sim:Sim w A μ H
 tr:Trans w0 A0 μ0 H0 w A μ H
 sz:a.tmps.size=N
 mks:Mks w0.heap.size w μ H a.defers
def XRun (P:Program)(N:Nat)(ro:Option Nat)(code:Code)(env:Nat→T)(H:Heap)(Q:XE→(Nat→T)→Heap→Prop):Prop:=
 ∀(w0:World) (A0:Sta) (μ0:Nat→Nat) (H0:Heap) (a:Act) (w:World) (A:Sta) (μ:Nat→Nat),XSt N w0 A0 μ0 H0 env H a w A μ→
  ∀Q':Exit→Act→World→Prop,(∀e env' H' a' w' A' μ',Q e env' H'→XSt N w0 A0 μ0 H0 env' H' a' w' A' μ'→Q' e.to a' w')→code.wpIn (Fo ro) 0 P Q' a w
def thnX (next:(Nat→T)→Heap→Prop)(Q:XE→(Nat→T)→Heap→Prop):XE→(Nat→T)→Heap→Prop
 | .normal,env,H=>next env H
 | e,env,H=>Q e env H
def inBX (id:Nat)(Q:XE→(Nat→T)→Heap→Prop):XE→(Nat→T)→Heap→Prop
 | .exit i,env,H=>if i=id then Q .normal env H else Q (.exit i) env H
 | e,env,H=>Q e env H
def jmpX (l:Nat)(K:(Nat→T)→Heap→Prop)(Q:XE→(Nat→T)→Heap→Prop):XE→(Nat→T)→Heap→Prop
 | .goto l',env,H=>l'=l∧K env H
 | e,env,H=>Q e env H
section
variable {P:Program} {N:Nat} {ro:Option Nat} {env:Nat→T} {H:Heap} {Q:XE→(Nat→T)→Heap→Prop}
theorem qdD {code:Code}{c:ICode}(hc:qav P N code=some c)(h:W P N c env H fun e env' H'=>Q e.x env' H'):XRun P N ro code env H Q:=by
 obtain⟨e,env',H',h1,h2⟩:=h
 intro w0 A0 μ0 H0 a w A μ hs Q' hQ
 refine h1 code hc ro w A μ a hs.env hs.sim hs.sz _ fun a' w' A' μ' k1 k2 k3 k4 k5=>?_
 have:=hQ e.x env' H' a' w' A' μ' h2 ⟨k1,k2,hs.tr.trans k3,k4,by rw[k5];exact hs.mks.trans k3⟩
 cases e<;>exact this
theorem qgc {x y:Code}(h:XRun P N ro x env H (thnX (fun env' H'=>XRun P N ro y env' H' Q) Q)):XRun P N ro (.seq x y) env H Q:=by
 intro w0 A0 μ0 H0 a w A μ hs Q' hQ
 refine wpIn_seq (h w0 A0 μ0 H0 a w A μ hs _ fun e env' H' a' w' A' μ' hq hs'=>?_)
 cases e with
 | normal=>exact hq w0 A0 μ0 H0 a' w' A' μ' hs' Q' hQ
 | exit i=>exact hQ (.exit i) env' H' a' w' A' μ' hq hs'
 | ret=>exact hQ .ret env' H' a' w' A' μ' hq hs'
 | goto l=>exact hQ (.goto l) env' H' a' w' A' μ' hq hs'
theorem qkx {id:Nat}{x:Code}(h:XRun P N ro x env H (inBX id Q)):XRun P N ro (.block id x) env H Q:=by
 intro w0 A0 μ0 H0 a w A μ hs Q' hQ
 refine wpIn_block (h w0 A0 μ0 H0 a w A μ hs _ fun e env' H' a' w' A' μ' hq hs'=>?_)
 cases e with
 | normal=>exact hQ .normal env' H' a' w' A' μ' hq hs'
 | exit i=>
  show (if i=id then Q' .normal a' w' else Q' (.exit i) a' w')
  simp only[inBX] at hq
  split at hq
  ·rename_i e;rw[if_pos e];exact hQ .normal env' H' a' w' A' μ' hq hs'
  ·rename_i e;rw[if_neg e];exact hQ (.exit i) env' H' a' w' A' μ' hq hs'
 | ret=>exact hQ .ret env' H' a' w' A' μ' hq hs'
 | goto l=>exact hQ (.goto l) env' H' a' w' A' μ' hq hs'
theorem qsB {l:Nat}(h:Q .normal env H):XRun P N ro (.label l) env H Q:=fun w0 A0 μ0 H0 a w A μ hs Q' hQ=>wpIn_label (hQ .normal env H a w A μ h hs)
theorem X_goto {l:Nat}(h:Q (.goto l) env H):XRun P N ro (.goto l) env H Q:=fun w0 A0 μ0 H0 a w A μ hs Q' hQ=>wpIn_goto (hQ (.goto l) env H a w A μ h hs)
theorem qo0 {p:Nat→Prop}(h:∃n,p n):∃n,p n∧∀m,p m→n≤m:=by
 obtain⟨n,hn⟩:=h
 induction n using Nat.strongRecOn with
 | _ n ih=>
  by_cases hl:∃m,m<n∧p m
  ·obtain⟨m,hm,hp⟩:=hl
   exact ih m hm hp
  ·exact⟨n,hn,fun m hm=>Nat.le_of_not_lt fun hlt=>hl ⟨m,hlt,hm⟩⟩
open Classical in
theorem qsC {c rest:Code}(l:Nat)(hf:findLabel c l=some rest)(J:Nat→(Nat→T)→Heap→Prop)
 (first:XRun P N none c env H (jmpX l (fun env' H'=>∃n,J n env' H') Q))
 (pass:∀n env H,J n env H→XRun P N none rest env H (jmpX l (fun env' H'=>∃m,m<n∧J m env' H') Q)):XRun P N none (.scope c) env H Q:=by
 intro w0 A0 μ0 H0 a w A μ hs Q' hQ
 refine (wpIn_wide (n:=0)).2 ?_
 let Pn:Act→World→Nat→Prop:=fun a w n=>∃env H A μ,J n env H∧XSt N w0 A0 μ0 H0 env H a w A μ
 have fin:∀(K:(Nat→T)→Heap→Prop) (J':Act→World→Prop),(∀env' H' a' w' A' μ',K env' H'→XSt N w0 A0 μ0 H0 env' H' a' w' A' μ'→J' a' w')→
  ∀e env' H' a' w' A' μ',jmpX l K Q e env' H'→XSt N w0 A0 μ0 H0 env' H' a' w' A' μ'→Exit.jump l J' Q' e.to a' w':=by
  intro K J' hK e env' H' a' w' A' μ' hq hs'
  cases e with
  | normal=>exact hQ .normal env' H' a' w' A' μ' hq hs'
  | exit i=>exact hQ (.exit i) env' H' a' w' A' μ' hq hs'
  | ret=>exact hQ .ret env' H' a' w' A' μ' hq hs'
  | goto l'=>exact⟨hq.1,hK _ _ _ _ _ _ hq.2 hs'⟩
 refine wp_scope_jumps (rest:=rest) l (fun a w=>∃n,Pn a w n) (fun a w=>if h:∃n,Pn a w n then Classical.choose (qo0 h) else 0) hf ?_ ?_
 ·refine (wpIn_wide (n:=0)).1 (first w0 A0 μ0 H0 a w A μ hs _ (fin _ _ fun env' H' a' w' A' μ' hk hs'=>?_))
  obtain⟨n,hn⟩:=hk
  exact⟨n,env',H',A',μ',hn,hs'⟩
 ·intro a1 w1 hJ
  obtain⟨env1,H1,A1,μ1,hj,hs1⟩:=(Classical.choose_spec (qo0 hJ)).1
  refine (wpIn_wide (n:=0)).1 (pass _ _ _ hj w0 A0 μ0 H0 a1 w1 A1 μ1 hs1 _ (fin _ _ fun env' H' a' w' A' μ' hk hs'=>?_))
  obtain⟨m,hm,hn⟩:=hk
  have hex:∃n,Pn a' w' n:=⟨m,env',H',A',μ',hn,hs'⟩
  refine⟨hex,?_⟩
  rw[dif_pos hex,dif_pos hJ]
  exact Nat.lt_of_le_of_lt ((Classical.choose_spec (qo0 hex)).2 _ ⟨env',H',A',μ',hn,hs'⟩) hm
end
def qhp:List Nat→List T→(Nat→T)→(Nat→T)
 | p::ps,x::xs,env=>qhp ps xs (putE env (some p) x)
 | _,_,env=>env
theorem EnvR.putPs {w:World}{A:Sta}{μ:Nat→Nat}{H:Heap}{N:Nat}:∀ {ps:List Nat} {vs:List Value} {xs:List T} {tm:Array Value} {env:Nat→T},EnvR w A μ H { tmps:=tm,defers:=[] } env→tm.size=N→(∀p∈ps,p<N)→vs.length=ps.length→xs.length=ps.length→
 (∀i,i<xs.length→Rep w A μ H (vs.getD i Go.undef) (xs.getD i .undef))→EnvR w A μ H { tmps:=(ps.zip vs).foldl (fun t (p,v)=>t.setIfInBounds p v) tm,defers:=[] } (qhp ps xs env)∧((ps.zip vs).foldl (fun t (p,v)=>t.setIfInBounds p v) tm).size=N
 | [],vs,xs,tm,env,he,hz,hp,h1,h2,h3=>by
  have e1:vs=[]:=List.eq_nil_of_length_eq_zero h1
  have e2:xs=[]:=List.eq_nil_of_length_eq_zero h2
  subst e1 e2
  exact⟨he,hz⟩
 | p::ps,[],xs,tm,env,he,hz,hp,h1,h2,h3=>by simp at h1
 | p::ps,v::vs,[],tm,env,he,hz,hp,h1,h2,h3=>by simp at h2
 | p::ps,v::vs,x::xs,tm,env,he,hz,hp,h1,h2,h3=>by
  have h0:EnvR w A μ H { tmps:=tm.setIfInBounds p v,defers:=[] } (putE env (some p) x):=
   EnvR.put (a:={ tmps:=tm,defers:=[] }) (d:=some p) he (.refl _ _ _ _) (h3 0 (by simp)) (fun t ht=>by injection ht with ht;rw[←ht];show p<tm.size;rw[hz];exact hp p (by simp))
  exact EnvR.putPs (ps:=ps) (vs:=vs) (xs:=xs) h0 (by simpa using hz) (fun q hq=>hp q (by simp[hq])) (by simpa using h1) (by simpa using h2) (fun i hi=>h3 (i+1) (by simpa using hi))
def Iter (P:Program)(gf:FuncId)(caps:List T)(H:Heap)(xs:List (List T)):Prop:=
 Enters P gf∧∀(l:Nat) (J:Nat→World→Sta→(Nat→Nat)→Prop) (Jx:World→Prop) (W:World) (A:Sta) (μ:Nat→Nat) (us:Array Value),
  (∀n W A μ,J n W A μ→Sim W A μ H∧Reps W A μ H us caps)→
  (∀n W A μ,J n W A μ→J n W.drew A μ)→
  (∀n W A μ vs,n<xs.length→J n W A μ→Reps W A μ H vs (xs.getD n [])→YieldAt (Fo none) 0 P l vs W fun e W'=>(e=.returned (.bool true)∧∃A' μ',J (n+1) W' A' μ')∨(e=.returned (.bool false)∧Jx W'))→
  J 0 W A μ→CallsIn (Fo none) 0 P gf (#[.func (.yield l) #[] #[]]++us) W fun e W'=>(∃v,e=.returned v)∧((∃A' μ',J xs.length W' A' μ')∨Jx W')
def XE.code:XE→Code
 | .normal=>.skip
 | .exit id=>.exit id
 | .ret=>.ret
 | .goto l=>.goto l
theorem qmn {w:World}{A:Sta}{μ:Nat→Nat}{H:Heap}(h:Sim w A μ H){i:Nat}(hi:(H i).owns=true):μ i<w.heap.size:=by
 cases hs:H i with
 | live b=>obtain⟨cur,hc,_⟩:=h.blk i b hs;exact qaz hc
 | map es=>obtain⟨ents,cl,hc,_⟩:=h.map i es hs;exact qaz hc
 | free=>rw[hs] at hi;cases hi
 | dead=>rw[hs] at hi;cases hi
theorem qdY (w:World)(A:Sta)(μ:Nat→Nat)(H:Heap):Trans w A μ H w.drew A μ H:=
 ⟨rfl,⟨rfl,Nat.le_succ _⟩,rfl,Nat.le_refl _,fun _ _ h=>⟨rfl,h⟩,fun _ _ h _=>⟨h,rfl⟩,fun _ _ h=>.inl h,fun i b h=>.inr ⟨b,h,.inr ⟨rfl,rfl,rfl,fun cur hc=>⟨cur,hc,rfl⟩⟩⟩,fun i es h=>.inr ⟨es,h,rfl⟩,fun _ h=>h⟩
theorem Sim.still {w w':World}{A:Sta}{μ:Nat→Nat}{H:Heap}(h:Sim w A μ H)(ht:Trans w A μ H w' A μ H)(hh:∀i,(H i).owns=true→w'.heap[μ i]? = w.heap[μ i]?):Sim w' A μ H:=
 ⟨h.inj,fun i b hb=>by
  obtain⟨cur,h1,h2,h3,h4⟩:=h.blk i b hb
  exact⟨cur,(hh i (by rw[hb];rfl)).trans h1,h2,h3,fun k hk=>(h4 k hk).trans ht⟩,fun i es hb=>by
  obtain⟨ents,cl,h1,h2,h3⟩:=h.map i es hb
  exact⟨ents,cl,(hh i (by rw[hb];rfl)).trans h1,h2,fun k hk=>⟨(h3 k hk).1.trans ht,(h3 k hk).2.trans ht⟩⟩,h.dis,fun b o ha=>Nat.lt_of_lt_of_le (h.sta b o ha) ht.size⟩
theorem qge (w:World)(o:Obj)(A:Sta)(μ:Nat→Nat)(H:Heap)(hS:Sim w A μ H):Trans w A μ H (w.alloc o) A μ H:=by
 have hk:∀b,b<w.heap.size→(w.alloc o).heap[b]? = w.heap[b]?:=fun b hb=>Below.heap_alloc _ _ _ hb
 refine⟨rfl,⟨rfl,Nat.le_refl _⟩,rfl,by simp,fun b hb h=>⟨hk b hb,h⟩,fun b o ha hb=>⟨ha,World.cell?_of_block (hk b hb)⟩,fun _ _ h=>.inl h,fun i b h=>.inr ⟨b,h,.inr ⟨rfl,rfl,rfl,fun cur hc=>⟨cur,(hk _ (qaz hc)).trans hc,rfl⟩⟩⟩,fun i es h=>.inr ⟨es,h,rfl⟩,fun _ h=>h⟩
section
variable {P:Program} {N:Nat} {env:Nat→T} {H:Heap} {Q:XE→(Nat→T)→Heap→Prop}
theorem X_rng {g:Operand}{xg:Opd}{ps:Array Tmp}{assign body:Code}{gf:FuncId}{caps:List T}{xs:List (List T)}(hg:opd g=some xg)(hx:xg.ev env=.fn gf caps)(hit:Iter P gf caps H xs)
 (hps:∀p∈ps.toList,p<N) (hln:∀x∈xs,x.length=ps.size) (C:Nat→Prop) (S:Nat→XE→Heap→Prop)
 (hround:∀k,k<xs.length→(∀j,j<k→C j)→∀l,∃env1 ia,qav P N assign=some ia∧W P N ia (qhp ps.toList (xs.getD k []) env) H (fun e env' H'=>e=.normal∧env'=env1∧H'=H)∧
  XRun P N (some l) body env1 H (fun e _ H2=>(e=.normal∧H2=H∧C k)∨(e≠.normal∧S k e H2)))
 (hdone:(∀k,k<xs.length→C k)→Q .normal env H)
 (hstop:∀k e H',k<xs.length→(∀j,j<k→C j)→e≠.normal→S k e H'→Q e env H'):XRun P N none (.rangeFunc g ps assign body) env H Q:=by
 intro w0 A0 μ0 H0 a w A μ hs Q' hQ
 have hrg:=qaq hg hs.env
 rw[hx] at hrg
 generalize hvg:a.eval g=vg at hrg
 cases hrg with
 | fn _ us _ hn hR=>
 refine wpIn_rangeFunc ?_
 intro fn hfn
 obtain⟨rec,hrec⟩:∃rec:LoopState→Option Code→Loop,rec=fun st pe=>{ state:=st,pending:=pe,fn,tmps:=a.tmps,params:=ps,assign,body,defers:=w.heap.size }:=⟨_,rfl⟩
 obtain⟨W1,hW1⟩:∃W1,(w.alloc (.deferred (some []))).alloc (.loop (rec .ready none))=W1:=⟨_,rfl⟩
 have hL1:W1.heap[w.heap.size+1]? = some (.loop (rec .ready none)):=by
  rw[←hW1];have:=World.alloc_heap_new (w.alloc (.deferred (some []))) (.loop (rec .ready none));rwa [World.size_alloc] at this
 have hK1:W1.heap[w.heap.size]? = some (.deferred (some [])):=by
  rw[←hW1];exact (Below.heap_alloc _ _ _ (by simp)).trans (World.alloc_heap_new w _)
 have hT0:=qge w (.deferred (some [])) A μ H hs.sim
 have hS0:Sim (w.alloc (.deferred (some []))) A μ H:=hs.sim.still hT0 fun i hi=>Below.heap_alloc _ _ _ (qmn hs.sim hi)
 have hT1:Trans w A μ H W1 A μ H:=by rw[←hW1];exact hT0.trans (qge _ (.loop (rec .ready none)) A μ H hS0)
 have hS1:Sim W1 A μ H:=hs.sim.still hT1 fun i hi=>by
  rw[←hW1]
  exact (Below.heap_alloc _ _ _ (by rw[World.size_alloc];have:=qmn hs.sim hi;omega)).trans (Below.heap_alloc _ _ _ (qmn hs.sim hi))
 obtain⟨l,hl⟩:∃l,w.heap.size+1=l:=⟨_,rfl⟩
 obtain⟨D,hD⟩:∃D,w.heap.size=D:=⟨_,rfl⟩
 rw[hl] at hL1
 rw[hD] at hK1
 have hun:∀i,(H i).owns=true→μ i≠l∧μ i≠D:=fun i hi=>by have:=qmn hs.sim hi;omega
 let J:Nat→World→Sta→(Nat→Nat)→Prop:=fun n W A' μ'=>Sim W A' μ' H∧Trans w A μ H W A' μ' H∧W.heap[l]? = some (.loop (rec .ready none))∧W.heap[D]? = some (.deferred (some []))∧(∀i,(H i).owns=true→μ' i≠l∧μ' i≠D)∧∀j,j<n→C j
 let Jx:World→Prop:=fun W=>∃k e H' A' μ',k<xs.length∧(∀j,j<k→C j)∧e≠.normal∧S k e H'∧Sim W A' μ' H'∧Trans w A μ H W A' μ' H'∧W.heap[l]? = some (.loop (rec .done (some e.code)))∧W.heap[D]? = some (.deferred (some []))∧(∀i,(H' i).owns=true→μ' i≠l∧μ' i≠D)
 have hus:∀n W A' μ',J n W A' μ'→Reps W A' μ' H us caps:=fun n W A' μ' hj=>⟨hn,fun i hi=>(hR i hi).trans hj.2.1⟩
 have fin:∀(W:World) (A':Sta) (μ':Nat→Nat) (H':Heap) (st:LoopState) (pe:Option Code),st≠.busy→Sim W A' μ' H'→Trans w A μ H W A' μ' H'→W.heap[l]? = some (.loop (rec st pe))→W.heap[D]? = some (.deferred (some []))→(∀i,(H' i).owns=true→μ' i≠l∧μ' i≠D)→
  ∃W2,(Instr.endLoop l).run P W=.ok pe W2∧XSt N w0 A0 μ0 H0 env H' { a with defers:=[{ target:=.collected D,args:=#[] }]++a.defers } W2 A' μ':=by
  intro W A' μ' H' st pe hst hS hT hlr hdr hu
  obtain⟨r',h1⟩:∃r',(Instr.endLoop l).run P W=.ok pe (W.putObj l (.loop r')):=⟨_,by
   have:=run_endLoop (P:=P) hlr (by rw[hrec];exact hst)
   rw[hrec] at this;exact this⟩
  refine⟨_,h1,?_⟩
  have hT2:Trans w A μ H (W.putObj l (.loop r')) A' μ' H':=hT.put (by omega)
  refine⟨hs.env.trans hT2,hS.put hlr rfl (fun i hi=>(hu i hi).1),hs.tr.trans hT2,hs.sz,?_⟩
  obtain⟨Ds,e1,e2,e3⟩:=hs.mks
  refine⟨D::Ds,?_,?_,?_⟩
  ·show [Mk D]++a.defers=_
   rw[e1];rfl
  ·refine List.nodup_cons.2 ⟨fun hm=>?_,e2⟩
   have:=qaz (e3 D hm).2.1
   omega
  ·intro D' hD'
   rcases List.mem_cons.1 hD' with e | hD'
   ·rw[e]
    exact⟨by rw[←hD];exact hs.tr.size,(World.putObj_heap_other (by omega)).trans hdr,fun i hi=>(hu i hi).2⟩
   ·obtain⟨a1,a2,a3⟩:=e3 D' hD'
    obtain⟨k1,k2⟩:=hT2.un D' (qaz a2) a3
    exact⟨a1,k1.trans a2,k2⟩
 refine⟨l,[{ target:=.collected w.heap.size,args:=#[] }],W1,{ target:=.fn (.func gf) us,args:=#[.func (.yield l) #[] #[]] },W1,gf,#[.func (.yield l) #[] #[]]++us,W1,?_,?_,?_,?_,?_,?_⟩
 ·rw[←hW1,hrec,←hl];exact run_enterLoop_outer _ _ _ _ _
 ·simp only[resolve,hvg]
  simp[go_sem]
 ·intro f' hf';trivial
 ·have hent:∀args w,(callFunc gf args).run P w=.ok (.enter gf args) w:=hit.1
  simp[invoke,go_sem,hent]
 ·intro h;simp at h
 ·refine (hit.2 l J Jx W1 A μ us (fun n W A' μ' hj=>⟨hj.1,hus n W A' μ' hj⟩) ?_ ?_ ⟨hS1,hT1,hL1,hK1,hun,fun j hj=>absurd hj (Nat.not_lt_zero _)⟩).mono ?_
  ·rintro n W A' μ' ⟨j1,j2,j3,j4,j5,j6⟩
   have hT:=j2.trans (qdY W A' μ' H)
   exact⟨j1.still (qdY W A' μ' H) fun i hi=>rfl,hT,j3,j4,j5,j6⟩
  ·
   rintro k W A' μ' vs hk ⟨j1,j2,j3,j4,j5,j6⟩ hvs
   have hxm:xs.getD k []∈xs:=by
    rw[List.getD_eq_getElem?_getD,List.getElem?_eq_getElem hk];exact List.getElem_mem hk
   have hsz:vs.size=ps.size:=hvs.1.trans (hln _ hxm)
   have hy:=run_yield (P:=P) (args:=vs) j3 (by rw[hrec];exact hsz)
   rw[hrec] at hy
   obtain⟨env1,ia,hia,⟨ea,enva,Ha,ha,rfl,rfl,rfl⟩,hb⟩:=hround k hk j6 l
   have hz:(ps.zip vs).foldl (fun t (p,v)=>t.setIfInBounds p v) a.tmps=(ps.toList.zip vs.toList).foldl (fun t (p,v)=>t.setIfInBounds p v) a.tmps:=by
    rw[←Array.foldl_toList,Array.toList_zip]
   have hE0:EnvR W A' μ' Ha { tmps:=a.tmps,defers:=[] } env:=fun t=>(hs.env t).trans j2
   obtain⟨hE,hsz2⟩:=EnvR.putPs (ps:=ps.toList) (vs:=vs.toList) (xs:=xs.getD k []) hE0 hs.sz hps (by simpa using hsz) (by simpa using hln _ hxm) (fun i hi=>by have:=hvs.2 i hi;rw[←getD_toList] at this;exact this)
   rw[←hz] at hE hsz2
   refine⟨fn,_,assign,body,hy,roundIn_of_wpIn hfn ?_⟩
   refine ha assign hia (some l) W A' μ' _ hE j1 hsz2 _ fun a1 w1 A1 μ1 k1 k2 k3 k4 k5=>?_
   obtain⟨l1,l2⟩:=k3.un l (qaz j3) fun i hi=>(j5 i hi).1
   obtain⟨d1,d2⟩:=k3.un D (qaz j4) fun i hi=>(j5 i hi).2
   have hl1:=l1.trans j3
   have hd1:=d1.trans j4
   refine⟨_,run_beginRound hl1 (by rw[hrec]),?_⟩
   have hln1:l<w1.heap.size:=qaz hl1
   have hTb:Trans w A μ Ha (w1.putObj l (.loop { rec .ready none with state:=.busy })) A1 μ1 Ha:=(j2.trans k3).put (by omega)
   have hSb:Sim (w1.putObj l (.loop { rec .ready none with state:=.busy })) A1 μ1 Ha:=k2.put hl1 rfl l2
   have hEb:EnvR (w1.putObj l (.loop { rec .ready none with state:=.busy })) A1 μ1 Ha a1 enva:=fun t=>(k1 t).put hl1 rfl
   have hl2:(w1.putObj l (.loop { rec .ready none with state:=.busy })).heap[l]? = some (.loop { rec .ready none with state:=.busy }):=World.putObj_heap_same hln1
   have hd2:(w1.putObj l (.loop { rec .ready none with state:=.busy })).heap[D]? = some (.deferred (some [])):=(World.putObj_heap_other (by omega)).trans hd1
   refine hb _ A1 μ1 Ha a1 _ A1 μ1 ⟨hEb,hSb,.refl _ _ _ _,k4,⟨[],by rw[k5];rfl,List.nodup_nil,fun D hD=>(List.not_mem_nil hD).elim⟩⟩ _ ?_
   rintro e env2 H2 a3 w3 A3 μ3 hq hs3
   obtain⟨l3,l4⟩:=hs3.tr.un l (qaz hl2) l2
   obtain⟨d3,d4⟩:=hs3.tr.un D (qaz hd2) d2
   have hl3:=l3.trans hl2
   have hd3:=d3.trans hd2
   have hT3:=hTb.trans hs3.tr
   have fin2:∀(jump:Option Code) (st:LoopState),st=(if jump.isNone then .ready else .done)→(Instr.endRound l jump).run P w3=.ok (.bool jump.isNone) (w3.putObj l (.loop (rec st jump)))∧Sim (w3.putObj l (.loop (rec st jump))) A3 μ3 H2∧Trans w A μ Ha (w3.putObj l (.loop (rec st jump))) A3 μ3 H2∧
    (w3.putObj l (.loop (rec st jump))).heap[l]? = some (.loop (rec st jump))∧(w3.putObj l (.loop (rec st jump))).heap[D]? = some (.deferred (some [])):=fun jump st hst=>by
    have:=run_endRound (P:=P) jump hl3
    rw[hrec] at this ⊢
    refine⟨by rw[hst];exact this,hs3.sim.put hl3 rfl l4,hT3.put (by omega),World.putObj_heap_same (qaz hl3),(World.putObj_heap_other (by omega)).trans hd3⟩
   rcases hq with⟨rfl,rfl,hc⟩ | ⟨hne,hst⟩
   ·obtain⟨f1,f2,f3,f4,f5⟩:=fin2 none .ready rfl
    exact⟨_,_,f1,.inl ⟨rfl,A3,μ3,f2,f3,f4,f5,fun i hi=>⟨l4 i hi,d4 i hi⟩,fun j hj=>by
     rcases Nat.lt_or_ge j k with h | h
     ·exact j6 j h
     ·have:j=k:=by omega
      rw[this];exact hc⟩⟩
   ·obtain⟨f1,f2,f3,f4,f5⟩:=fin2 (some e.code) .done rfl
    have hjx:Jx (w3.putObj l (.loop (rec .done (some e.code)))):=⟨k,e,H2,A3,μ3,hk,j6,hne,hst,f2,f3,f4,f5,fun i hi=>⟨l4 i hi,d4 i hi⟩⟩
    cases e with
    | normal=>exact absurd rfl hne
    | exit id=>exact⟨_,_,f1,.inr ⟨rfl,hjx⟩⟩
    | ret=>exact⟨_,_,f1,.inr ⟨rfl,hjx⟩⟩
    | goto l'=>exact⟨_,_,f1,.inr ⟨rfl,hjx⟩⟩
  ·rintro e W2 ⟨⟨v,rfl⟩,⟨A',μ',j1,j2,j3,j4,j5,j6⟩ | ⟨k,e,H',A',μ',x1,x2,x3,x4,x5,x6,x7,x8,x9⟩⟩
   ·obtain⟨W3,f1,f2⟩:=fin W2 A' μ' H .ready none (by simp) j1 j2 j3 j4 j5
    rw[hD]
    exact⟨none,W3,f1,hQ .normal env H _ W3 A' μ' (hdone j6) f2⟩
   ·obtain⟨W3,f1,f2⟩:=fin W2 A' μ' H' .done (some e.code) (by simp) x5 x6 x7 x8 x9
    rw[hD]
    refine⟨some e.code,W3,f1,?_⟩
    have hq:=hQ e env H' _ W3 A' μ' (hstop k e H' x1 x2 x3 x4) f2
    cases e with
    | normal=>exact absurd rfl x3
    | exit id=>exact wpIn_exit hq
    | ret=>exact wpIn_ret hq
    | goto l'=>exact wpIn_goto hq
end
theorem qtE {P:Program}{fn:Func}{rs:List (Nat×Option Nat)}{a':Act}{w':World}{A':Sta}{μ':Nat→Nat}{H1:Heap}{env1:Nat→T}{r:T}(hres:qb7 P fn.results.toList=some rs)(g1:EnvR w' A' μ' H1 a' env1)(g2:Sim w' A' μ' H1)(h2:resT env1 H1 rs=some r) :
 ∃v,(results fn a'.tmps).run P w'=.ok v w'∧Rep w' A' μ' H1 v r:=by
 unfold resT at h2
 cases hv:qkt env1 H1 rs with
 | none=>simp[hv] at h2
 | some xs=>
  obtain⟨us,k1,k2,k3⟩:=qfd g1 g2 hres hv
  have hrun:(results fn a'.tmps).run P w'=.ok (if h:us.toArray.size=1 then us.toArray[0] else .tuple us.toArray) w':=by
   have hfun:results fn a'.tmps=(do
    let vs ←fn.results.mapM (resF a')
    pure (if h:vs.size=1 then vs[0] else .tuple vs)):=by
    unfold results
    congr 1
   rw[hfun,Array.mapM_eq_mapM_toList,Sem.run_bind,Sem.run_map,k1]
   rfl
  refine⟨_,hrun,?_⟩
  rw[hv] at h2
  match us,xs,k2,k3,h2 with
  | [],[],_,_,h2=>
   simp only[Option.some.injEq] at h2
   subst h2
   exact .tup #[] [] rfl fun i hi=>by cases hi
  | [u],[x],_,k3,h2=>
   simp only[Option.some.injEq] at h2
   subst h2
   exact k3 0 (by simp)
  | u::u2::us,x::x2::xs,k2,k3,h2=>
   simp only[Option.some.injEq] at h2
   subst h2
   rw[dif_neg (by simp)]
   exact .tup _ _ (by simpa using k2) fun i hi=>by
    have:=k3 i hi
    rw[←getD_toList];simpa using this
def shut:List Nat→World→World
 | [],w=>w
 | D::Ds,w=>shut Ds (w.putObj D (.deferred none))
theorem qgU {F:Fence}{n:Nat}{P:Program}{fn:Func}{tmps:Array Value}{R:Ending→World→Prop}:∀(Ds:List Nat) (w:World),Ds.Nodup→(∀D∈Ds,w.heap[D]? = some (.deferred (some [])))→LeavesIn F n P fn tmps R [] .returning (shut Ds w)→LeavesInM F n P fn tmps R (Ds.map Mk) .returning w
 | [],w,_,_,h=>h
 | D::Ds,w,hn,hD,h=>by
  obtain⟨h1,h2⟩:=List.nodup_cons.1 hn
  refine⟨by simp,.inl ⟨D,_,rfl,run_takeDeferred (hD D (List.mem_cons_self ..)),?_⟩⟩
  exact qgU Ds _ h2 (fun D' hD'=>(World.putObj_heap_other (r:=D) (k:=D') (fun e=>h1 (by rw[←e];exact hD'))).trans (hD D' (List.mem_cons_of_mem _ hD'))) h
theorem qpK {w0:World}{A0:Sta}{μ0:Nat→Nat}{H0:Heap}{env:Nat→T}{H:Heap}{a:Act}{A:Sta}{μ:Nat→Nat}:∀(Ds:List Nat) (w:World),Ds.Nodup→(∀D∈Ds,w0.heap.size≤D∧w.heap[D]? = some (.deferred (some []))∧∀i,(H i).owns=true→μ i≠D)→EnvR w A μ H a env→Sim w A μ H→Trans w0 A0 μ0 H0 w A μ H→
 EnvR (shut Ds w) A μ H a env∧Sim (shut Ds w) A μ H∧Trans w0 A0 μ0 H0 (shut Ds w) A μ H
 | [],w,_,_,h1,h2,h3=>⟨h1,h2,h3⟩
 | D::Ds,w,hn,hD,h1,h2,h3=>by
  obtain⟨n1,n2⟩:=List.nodup_cons.1 hn
  obtain⟨d1,d2,d3⟩:=hD D (List.mem_cons_self ..)
  exact qpK Ds _ n2 (fun D' hD'=>by
   obtain⟨e1,e2,e3⟩:=hD D' (List.mem_cons_of_mem _ hD')
   exact⟨e1,(World.putObj_heap_other (r:=D) (k:=D') (fun e=>n1 (by rw[←e];exact hD'))).trans e2,e3⟩) (fun t=>(h1 t).put d2 rfl) (h2.put d2 rfl d3) (h3.put d1)
theorem TC_X {P:Program}{f:FuncId}{fn:Func}{code:Code}{N:Nat}{rs:List (Nat×Option Nat)}{args:List T}{H H':Heap}{r:T}(hf:P.funcs[f]? = some fn)(hb:fn.body=some code)(hN:fn.ntmps=N)(hent:Enters P f)(hres:qb7 P fn.results.toList=some rs)(hn:args.length≤N)
 (hx:XRun P N none code (ofL (argL 0 args)) H fun e env' H''=>(e=.ret∨e=.normal)∧resT env' H'' rs=some r∧H''=H'):TC P f args H r H':=by
 subst hN
 refine⟨hent,fun w A μ vs hS hR=>?_⟩
 refine callsIn_wide.1 (callsIn_of_wp_marks (F:=Fence.wide) (n:=0) hf hb trivial ?_)
 refine hx w A μ H _ w A μ ⟨?_,hS,.refl _ _ _ _,?_,⟨[],rfl,List.nodup_nil,fun D hD=>(List.not_mem_nil hD).elim⟩⟩ _ ?_
 ·have hE:EnvR w A μ H { tmps:=vs++Array.replicate (fn.ntmps - vs.size) Go.undef,defers:=[] } (argE args):=by
   intro t
   show Rep w A μ H ((vs++Array.replicate (fn.ntmps - vs.size) Go.undef).getD t Go.undef) (args.getD t (.tup []))
   by_cases ht:t<args.length
   ·have:=hR.2 t ht
    have e1:(vs++Array.replicate (fn.ntmps - vs.size) Go.undef).getD t Go.undef=vs.getD t Go.undef:=by
     simp only[Array.getD_eq_getD_getElem?]
     rw[Array.getElem?_append_left (by rw[hR.1];exact ht)]
    have e2:args.getD t (.tup [])=args.getD t .undef:=by
     simp[List.getD_eq_getElem?_getD,ht]
    rw[e1,e2];exact this
   ·have e1:(vs++Array.replicate (fn.ntmps - vs.size) Go.undef).getD t Go.undef=Go.undef:=by
     simp only[Array.getD_eq_getD_getElem?]
     rw[Array.getElem?_append_right (by rw[hR.1];omega)]
     by_cases h:t - vs.size<fn.ntmps - vs.size<;>simp[h]
    have e2:args.getD t (.tup [])=.tup []:=by
     simp[List.getD_eq_getElem?_getD,List.getElem?_eq_none (Nat.le_of_not_lt ht)]
    rw[e1,e2]
    exact .tup #[] [] rfl fun i hi=>by cases hi
  intro t
  rcases (qkA args 0 t).2 (Nat.zero_le _) with e | e
  ·rw[e];simpa [argE] using hE t
  ·rw[e];exact .undef _
 ·simp[hR.1];omega
 ·rintro e env' H'' a' w' A' μ' ⟨he,h2,rfl⟩ hs
  obtain⟨Ds,m1,m2,m3⟩:=hs.mks
  obtain⟨s1,s2,s3⟩:=qpK Ds w' m2 m3 hs.env hs.sim hs.tr
  obtain⟨v,hv,hrv⟩:=qtE hres s1 s2 h2
  have key:LeavesInM Fence.wide 0 P fn a'.tmps (fun e w'=>∃v A' μ',e=.returned v∧Rep w' A' μ' H'' v r∧Sim w' A' μ' H''∧Trans w A μ H w' A' μ' H'') a'.defers .returning w':=by
   rw[m1]
   exact qgU Ds w' m2 (fun D hD=>(m3 D hD).2.1) ⟨v,hv,v,A',μ',rfl,hrv,s2,s3⟩
  rcases he with rfl | rfl
  ·exact key
  ·exact key
end
section
set_option maxHeartbeats 2000000
open Go.RowKit Go.Sort Go.Shelf
def rowW {X:Type}(enc:X→List T)(xs:List X):List T:=xs.flatMap enc
theorem qiY {X:Type}{enc:X→List T}{k:Nat}(hk:∀x,(enc x).length=k):∀xs:List X,(rowW enc xs).length=xs.length*k
 | []=>by simp[rowW]
 | x::xs=>by
  have:=qiY hk xs
  simp only[rowW,List.flatMap_cons,List.length_append,List.length_cons,hk,Nat.add_mul,Nat.one_mul] at this ⊢
  omega
theorem qiX {X:Type}{enc:X→List T}{k:Nat}(hk:∀x,(enc x).length=k):∀(xs:List X) (i j:Nat) (x:X),xs[i]? = some x→j<k→(rowW enc xs).getD (i*k+j) .undef=(enc x).getD j .undef
 | [],i,j,x,h,_=>by simp at h
 | y::xs,0,j,x,h,hj=>by
  simp at h
  subst h
  simp only[rowW,List.flatMap_cons,Nat.zero_mul,Nat.zero_add,List.getD_eq_getElem?_getD]
  rw[List.getElem?_append_left (by rw[hk];exact hj)]
 | y::xs,i+1,j,x,h,hj=>by
  have:=qiX hk xs i j x (by simpa using h) hj
  simp only[rowW,List.flatMap_cons,List.getD_eq_getElem?_getD] at this ⊢
  rw[List.getElem?_append_right (by rw[hk,Nat.add_mul];omega),hk]
  have e:(i+1)*k+j - k=i*k+j:=by rw[Nat.add_mul];omega
  rw[e]
  exact this
theorem qlo {W w':World}(h1:w'.os=W.os)(h2:w'.tape=W.tape)(h3:W.drawn≤w'.drawn)(h4:w'.output=W.output)(h5:W.heap.size≤w'.heap.size)(h6:∀b,b<W.heap.size→w'.heap[b]? = W.heap[b]?) :
 ∃q os,w'=Sort.grow (W.drewN q) os:=by
 refine⟨w'.drawn - W.drawn,w'.heap.extract W.heap.size w'.heap.size,?_⟩
 have hh:w'.heap=W.heap++w'.heap.extract W.heap.size w'.heap.size:=by
  refine Array.ext (by simp;omega) fun i hi hi2=>?_
  by_cases hb:i<W.heap.size
  ·have:=h6 i hb
   rw[Array.getElem?_eq_getElem hi,Array.getElem?_eq_getElem hb] at this
   rw[Array.getElem_append_left hb]
   exact Option.some.inj this
  ·rw[Array.getElem_append_right (by omega)]
   simp only[Array.getElem_extract]
   congr 1
   omega
 obtain⟨h,t,d,o,u⟩:=w'
 obtain⟨h',t',d',o',u'⟩:=W
 simp only at h1 h2 h3 h4 hh
 subst h1 h2 h4
 simp only[Sort.grow,World.drewN]
 congr 1
 omega
theorem qtY {α β:Type}{cf:α→α→Int}(h:SWO (ltOf cf))(f:β→α):SWO (ltOf fun i j=>cf (f i) (f j)):=
 ⟨fun x=>h.irrefl (f x),fun x y z=>h.trans (f x) (f y) (f z),fun x y z=>h.ntrans (f x) (f y) (f z)⟩
theorem qoA {β:Type}(a:Array β)(n:Nat)(h:a.size=n):a.extract 0 n=a:=by subst h;simp
theorem get!_at {β:Type}[Inhabited β](a:Array β)(i:Nat)(h:i<a.size):a[i]! = a[i]:=getElem!_pos a i h
theorem qcm (id:Nat)(s:Slot):hpL [(id,s)] id=s:=by simp[hpL]
theorem one_hp' {id i:Nat}{s:Slot}(h:i≠id):hpL [(id,s)] i=.free:=by simp[hpL,h]
theorem qkn {w W:World}{A:Sta}{μ:Nat→Nat}{id ty:Nat}{cs:List T}(hS:Sim w A μ (hpL [(id,.live ⟨ty,cs⟩)]))(h1:W.os=w.os)(h2:W.tape=w.tape)(h3:w.drawn≤W.drawn)(h4:W.output=w.output)(h5:w.heap.size≤W.heap.size)(h6:∀b,b<w.heap.size→b≠μ id→W.heap[b]? = w.heap[b]?) :
 Trans w A μ (hpL [(id,.live ⟨ty,cs⟩)]) W A μ (hpL [(id,.dead)])∧Sim W A μ (fun _=>.free):=by
 refine⟨⟨h1,⟨h2,h3⟩,h4,h5,fun b hb hn=>⟨h6 b hb fun he=>hn id (by rw[qcm];rfl) he.symm,fun i hi=>?_⟩,fun b o ha hb=>⟨ha,?_⟩,fun _ _ h=>.inl h,fun i b hb=>?_,fun i es hb=>?_,fun i hb=>?_⟩,⟨fun i j hi=>?_,fun i b hb=>?_,fun i es hb=>?_,fun i hi=>?_,fun b o ha=>Nat.lt_of_lt_of_le (hS.sta b o ha) h5⟩⟩
 ·by_cases he:i=id
  ·rw[he,qcm] at hi;cases hi
  ·rw[one_hp' he] at hi;cases hi
 ·have hne:b≠μ id:=fun he=>hS.dis id (by rw[qcm];rfl) o (he▸ha)
  simp[World.cell?,h6 b hb hne]
 ·by_cases he:i=id
  ·exact .inl (by rw[he,qcm])
  ·rw[one_hp' he] at hb;cases hb
 ·by_cases he:i=id
  ·rw[he,qcm] at hb;cases hb
  ·rw[one_hp' he] at hb;cases hb
 ·by_cases he:i=id
  ·rw[he,qcm] at hb;cases hb
  ·rw[one_hp' he] at hb;cases hb
 ·cases hi
 ·cases hb
 ·cases hb
 ·cases hi
theorem qe9 {α:Type}[Inhabited α](enc:α→List Value)(k:Nat)(w:World)(b m:Nat)(dk:Array α)(os:Array Obj) :
 (sortWorldK enc k w b 0 m dk os).os=w.os∧(sortWorldK enc k w b 0 m dk os).tape=w.tape∧w.drawn≤(sortWorldK enc k w b 0 m dk os).drawn∧(sortWorldK enc k w b 0 m dk os).output=w.output∧w.heap.size≤(sortWorldK enc k w b 0 m dk os).heap.size∧(∀c,c<w.heap.size→c≠b→(sortWorldK enc k w b 0 m dk os).heap[c]? = w.heap[c]?)∧
 ∀cur ty,w.heap[b]? = some (.cells cur ty)→(sortWorldK enc k w b 0 m dk os).heap[b]? = some (.cells (putCells (fun v:Value=>v) 0 (flatK enc k dk) cur) ty):=by
 refine⟨rfl,rfl,Nat.le_add_right _ _,rfl,by simp[sortWorldK,Sort.grow,putRowK,putRow,mapBlock,Sort.ahead],fun c hc hne=>?_,fun cur ty hcur=>?_⟩
 ·have hk':c<(putRowK enc k (Sort.ahead w m) b 0 dk).heap.size:=by simpa [putRowK,putRow,mapBlock,Sort.ahead] using hc
  show (Sort.grow _ _).heap[c]? = _
  rw[heap_grow_old _ _ hk']
  simp[putRowK,putRow,mapBlock,Sort.ahead,Array.getElem?_modify,Ne.symm hne]
 ·have hb:b<w.heap.size:=qaz hcur
  show (Sort.grow _ _).heap[b]? = _
  rw[heap_grow_old _ _ (by simpa [putRowK,putRow,mapBlock,Sort.ahead] using hb)]
  simp[putRowK,putRow,mapBlock,Sort.ahead,Array.getElem?_modify,hcur,onCells]
  rfl
variable {P:Program} {ρ:Ren}
theorem qtW (L:SlLaysF0.n6 P ρ){X:Type}(enc:X→List T)(e:Nat)(hk:∀x,(enc x).length=esz e)(hcl:∀x D,clL D (enc x)=true)(h1:∀x,Ones (enc x))(aE:∀w,(isAgg (ρ.t 24)).run P w=.ok true w)(zE:∀w,(Go.sizeOf (ρ.t 24)).run P w=.ok (esz e) w)
 (cf:X→X→Int) (hO:SWO (ltOf cf)) (g id ty:Nat) (xs ys:List X) (hne:xs≠[]) (hn:xs.length≤1000000000) (hg:∀x∈xs,∀y∈xs,TP P g [.agg (enc x),.agg (enc y)] (.int .i64 (cf x y)))
 (hu:∀zs:List X,zs.Perm xs→zs.Pairwise (fun a b=>¬cf b a<0)→zs=ys) (hen:Enters P (ρ.f 6)) :
 TC P (ρ.f 6) [.sl id (xs.length*esz e) e 0 xs.length,.fn g []] (hpL [(id,.live ⟨ty,rowW enc xs⟩)]) (.tup []) (hpL [(id,.live ⟨ty,rowW enc ys⟩)]):=by
 refine⟨hen,fun w A μ vs hS hR=>?_⟩
 obtain⟨hs,hr⟩:=hR
 have hvs:vs=#[vs.getD 0 Go.undef,vs.getD 1 Go.undef]:=by
  refine Array.ext (by simpa using hs) fun i hi _=>?_
  have h2:vs.size=2:=by simpa using hs
  match i,(by omega:i<2) with
  | 0,_=>simp[hi]
  | 1,_=>simp[hi]
 have r0:=hr 0 (by simp)
 have r1:=hr 1 (by simp)
 rw[hvs]
 generalize vs.getD 0 Go.undef=v0 at r0 ⊢
 generalize vs.getD 1 Go.undef=v1 at r1 ⊢
 simp only[List.getD_eq_getElem?_getD,List.getElem?_cons_zero,List.getElem?_cons_succ,Option.getD_some] at r0 r1
 have hpos:0<esz e:=by unfold esz;split<;>omega
 have hl:=qiY hk xs
 cases r1 with
 | fn _ us _ hus _=>
 obtain rfl:us=#[]:=Array.eq_empty_of_size_eq_zero (by simpa using hus)
 cases r0 with
 | slS p c _ _ _ _ _ hnc hst=>
  rcases hst with h | ⟨b,h,h'⟩
  ·rw[qcm] at h;cases h
  ·rw[qcm] at h;injection h with h;subst h;simp only at h';omega
 | sl _ _ _ _ _ c b0 cur hb0 ht hcur hnc hm hcc hff=>
 rw[qcm] at hb0
 injection hb0 with hb0
 subst hb0
 obtain⟨cur',hcur',hle,hones,hrep⟩:=hS.blk id _ (qcm _ _)
 rw[hcur] at hcur'
 injection hcur' with hcur'
 injection hcur' with hcur'
 subst hcur'
 simp only at hcur hle hones hrep ht
 have hmul:∀i j,i<xs.length→j<esz e→i*esz e+j<xs.length*esz e:=fun i j hi hj=>by
  have:=Nat.mul_le_mul_right (esz e) (show i+1≤xs.length from hi)
  rw[Nat.add_mul] at this;omega
 have hsz:xs.length*esz e≤cur.size:=by rw[←hl];exact hle
 have hpx:0<xs.length:=List.length_pos_iff.2 hne
 haveI:Inhabited (_root_.Fin xs.length):=⟨⟨0,hpx⟩⟩
 let encK:_root_.Fin xs.length→List Value:=fun i=>(cur.toList.drop (i.val*esz e)).take (esz e)
 have hkK:∀i,(encK i).length=esz e:=fun i=>by
  have:=hmul i.val (esz e - 1) i.isLt (by omega)
  simp only[encK,List.length_take,List.length_drop,Array.length_toList];omega
 have hgK:∀(i:_root_.Fin xs.length) (j:Nat),j<esz e→(encK i).getD j Go.undef=cur.getD (i.val*esz e+j) Go.undef:=fun i j hj=>by
  simp only[encK,List.getD_eq_getElem?_getD]
  rw[List.getElem?_take,if_pos hj,List.getElem?_drop]
  simp
 have hgK!:∀(i:_root_.Fin xs.length) (j:Nat),j<esz e→(encK i)[j]! = cur.getD (i.val*esz e+j) Go.undef:=fun i j hj=>by
  rw[←hgK i j hj,List.getD_eq_getElem?_getD,List.getElem!_eq_getElem?_getD]
  rw[List.getElem?_eq_getElem (by rw[hkK];exact hj)]
  rfl
 have hRK:∀(i:_root_.Fin xs.length) (j:Nat),j<esz e→Rep w A μ (hpL [(id,.live ⟨ty,rowW enc xs⟩)]) (cur.getD (i.val*esz e+j) Go.undef) ((enc xs[i]).getD j .undef):=fun i j hj=>by
  have:=hrep (i.val*esz e+j) (by rw[hl];exact hmul _ _ i.isLt hj)
  rwa [qiX hk xs i.val j xs[i] (by simp) hj] at this
 let ids:Array (_root_.Fin xs.length):=Array.ofFn (fun i=>i)
 have hids:ids.size=xs.length:=by simp[ids]
 have hget:∀j,(hj:j<xs.length)→ids[j]! = ⟨j,hj⟩:=fun j hj=>by
  rw[get!_at ids j (by omega)];simp[ids]
 have hdm:∀j,j<xs.length*esz e→j / esz e<xs.length∧j % esz e<esz e∧j / esz e*esz e+j % esz e=j:=fun j hj=>
  ⟨(Nat.div_lt_iff_lt_mul hpos).2 hj,Nat.mod_lt _ hpos,Nat.div_add_mod' j (esz e)⟩
 have hH:HoldsK encK (esz e) w (μ id) 0 ids:=fun j hj=>by
  rw[size_flatK,hids] at hj
  obtain⟨d1,d2,d3⟩:=hdm j hj
  have hjc:j<cur.size:=by omega
  rw[get_flatK _ _ _ _ (by rw[hids];exact hj),hget _ d1,hgK! _ _ d2,Nat.zero_add]
  simp only[d3]
  refine⟨by simp[World.cell?,hcur,hjc],?_⟩
  simp[World.frozen?,hcur]
 have hone:∀x,∀v∈encK x,v.oneCell'=true:=fun x v hv=>by
  obtain⟨j,hj,rfl⟩:=List.getElem_of_mem hv
  rw[hkK] at hj
  have r:=hRK x j hj
  rw[←hgK x j hj,List.getD_eq_getElem?_getD,List.getElem?_eq_getElem (by rw[hkK];exact hj)] at r
  refine r.one (h1 xs[x] _ ?_)
  rw[List.getD_eq_getElem?_getD,List.getElem?_eq_getElem (by rw[hk];exact hj)]
  exact List.getElem_mem _
 have hcmp:CmpLays P g #[] encK (esz e) (fun i j:_root_.Fin xs.length=>cf xs[i] xs[j]) (μ id) 0 ids.size w:=fun m os dk hdk x y=>by
  obtain⟨k1,k2,k3,k4,k5,k6,_⟩:=qe9 encK (esz e) w (μ id) m dk os
  generalize sortWorldK encK (esz e) w (μ id) 0 m dk os=W at k1 k2 k3 k4 k5 k6 ⊢
  obtain⟨hT,hS'⟩:=qkn hS k1 k2 k3 k4 k5 k6
  have hA:∀x:_root_.Fin xs.length,Rep W A μ (fun _=>.free) (.agg (encK x).toArray) (.agg (enc xs[x])):=fun x=>by
   refine .agg _ _ (by simp[hkK,hk]) (h1 _) fun i hi=>?_
   rw[hk] at hi
   have r:=(hRK x i hi).trans hT
   rw[←hgK x i hi] at r
   have hc:((enc xs[x]).getD i .undef).cl (fun _=>false)=true:=qa5 (hcl xs[x] _) i
   have:=r.sub (H':=fun _=>.free) hc fun i hi=>by cases hi
   simpa [List.getD_eq_getElem?_getD] using this
  have hc:=(hg xs[x] (List.getElem_mem _) xs[y] (List.getElem_mem _)).2 W A μ #[.agg (encK x).toArray,.agg (encK y).toArray] hS' ⟨rfl,fun i hi=>by
   match i,hi with
   | 0,_=>exact hA x
   | 1,_=>exact hA y⟩
  refine hc.mono ?_
  rintro en w' ⟨v,A',μ',rfl,hv,hS2,hT2⟩
  cases hv with
  | int _ _=>
  exact⟨rfl,qlo hT2.os hT2.tape.1 hT2.tape.2 hT2.output hT2.size fun b hb=>(hT2.un b hb fun i hi=>by cases hi).1⟩
 have eg:∀args w,(callFunc g args).run P w=.ok (.enter g args) w:=(hg xs[0] (List.getElem_mem _) xs[0] (List.getElem_mem _)).1
 have hmain:=AnyQ.slices_SortFunc (P:=P) (ρ:=ρ) L (esz e) aE zE encK hkK hone _ (qtY hO fun i:_root_.Fin xs.length=>xs[i]) g #[] (μ id) 0 c ids w eg hcmp hH (qaz hcur) (by omega)
 rw[hids] at hmain
 refine hmain.mono ?_
 rintro en w' ⟨rfl,d',n',os,hp,hs',rfl⟩
 have hd':d'.size=xs.length:=by rw[hp.1,hids]
 have hperm:d'.toList.Perm ids.toList:=by
  have:=hp.2.2
  rwa [qoA d' _ hd',qoA ids _ hids] at this
 have hys:d'.toList.map (fun i=>xs[i])=ys:=by
  refine hu _ ?_ ?_
  ·have:=hperm.map (fun i=>xs[i])
   have e1:ids.toList.map (fun i=>xs[i])=xs:=List.ext_getElem (by simp[ids]) fun i h1 h2=>by simp[ids]
   rwa [e1] at this
  ·rw[List.pairwise_iff_getElem]
   intro i j hi hj hij
   simp only[List.length_map,Array.length_toList] at hi hj
   have:=hs' i j (by omega) hij (by omega)
   rw[get!_at d' i (by omega),get!_at d' j (by omega)] at this
   simpa [ltOf] using this
 have hyl:ys.length=xs.length:=by rw[←hys];simp[hd']
 have hly:=qiY hk ys
 obtain⟨k1,k2,k3,k4,k5,k6,k7⟩:=qe9 encK (esz e) w (μ id) n' d' os
 have k7:=k7 cur ty hcur
 generalize sortWorldK encK (esz e) w (μ id) 0 n' d' os=W at k1 k2 k3 k4 k5 k6 k7 ⊢
 have hT:Trans w A μ (hpL [(id,.live ⟨ty,rowW enc xs⟩)]) W A μ (hpL [(id,.live ⟨ty,rowW enc ys⟩)]):=by
  obtain⟨hT,_⟩:=qkn hS k1 k2 k3 k4 k5 k6
  refine⟨k1,⟨k2,k3⟩,k4,k5,fun b hb hn=>⟨(hT.un b hb hn).1,fun i hi=>?_⟩,hT.st,hT.an,fun i b hb=>?_,fun i es hb=>?_,fun i hb=>?_⟩
  ·by_cases he:i=id
   ·rw[he];exact hn id (by rw[qcm];rfl)
   ·rw[one_hp' he] at hi;cases hi
  ·by_cases he:i=id
   ·rw[he,qcm] at hb ⊢
    injection hb with hb
    subst hb
    refine .inr ⟨_,rfl,.inr ⟨by simp only;rw[hly,hl,hyl],rfl,rfl,fun cur1 hc1=>?_⟩⟩
    simp only at hc1
    rw[hcur] at hc1
    injection hc1 with hc1
    injection hc1 with hc1
    subst hc1
    exact⟨_,k7,by simp[putCells]⟩
   ·rw[one_hp' he] at hb;cases hb
  ·by_cases he:i=id
   ·rw[he,qcm] at hb;cases hb
   ·rw[one_hp' he] at hb;cases hb
  ·by_cases he:i=id
   ·rw[he,qcm] at hb;cases hb
   ·rw[one_hp' he] at hb;cases hb
 refine⟨_,A,μ,rfl,.tup #[] [] rfl (fun i hi=>by cases hi),⟨fun i j hi hj hij=>?_,fun i b hb=>?_,fun i es hb=>?_,fun i hi o=>?_,fun b o ha=>Nat.lt_of_lt_of_le (hS.sta b o ha) k5⟩,hT⟩
 ·have a1:i=id:=Classical.byContradiction fun he=>by rw[one_hp' he] at hi;cases hi
  have a2:j=id:=Classical.byContradiction fun he=>by rw[one_hp' he] at hj;cases hj
  rw[a1,a2]
 ·have a1:i=id:=Classical.byContradiction fun he=>by rw[one_hp' he] at hb;cases hb
  subst a1
  rw[qcm] at hb
  injection hb with hb
  subst hb
  refine⟨_,k7,by simp only[putCells,Array.size_mapIdx];rw[hly,hyl];exact hsz,fun c hc=>?_,fun t ht=>?_⟩
  ·obtain⟨y,_,hy⟩:=List.mem_flatMap.1 hc
   exact h1 y c hy
  ·simp only at ht ⊢
   rw[hly,hyl] at ht
   obtain⟨d1,d2,d3⟩:=hdm t ht
   have h6:t / esz e<d'.size:=by omega
   have hyt:ys[t / esz e]? = some xs[d'[t / esz e]]:=(congrArg (fun l:List X=>l[t / esz e]?) hys.symm).trans (by simp[h6])
   have hcell:(putCells (fun v:Value=>v) 0 (flatK encK (esz e) d') cur).getD t Go.undef=cur.getD (d'[t / esz e].val*esz e+t % esz e) Go.undef:=by
    have h5:t<cur.size:=by omega
    have h7:t<d'.size*esz e:=by rw[hd'];exact ht
    rw[←hgK! _ _ d2,←get!_at d' _ h6,←get_flatK encK (esz e) d' t h7]
    simp[putCells,h5,h7]
   have hg2:=qiX hk ys _ _ _ hyt d2
   rw[d3] at hg2
   rw[hcell,hg2]
   have r:=hRK d'[t / esz e] _ d2
   have hc:((enc xs[d'[t / esz e]]).getD (t % esz e) .undef).cl (fun _=>false)=true:=qa5 (hcl _ _) _
   have r2:=(r.sub (H':=fun _=>.free) hc fun i hi=>by cases hi)
   exact (r.trans hT)
 ·by_cases he:i=id
  ·rw[he,qcm] at hb;cases hb
  ·rw[one_hp' he] at hb;cases hb
 ·have a1:i=id:=Classical.byContradiction fun he=>by rw[one_hp' he] at hi;cases hi
  rw[a1]
  exact hS.dis id (by rw[qcm];rfl) o
end
section
set_option maxRecDepth 100000
open Go.RowKit
abbrev Bn (d:Nat)(o:BinOp)(a b:Nat):IRow:=⟨some d,.op (.bin o .none (.tmp a) (.tmp b)),none⟩
abbrev Bc (d:Nat)(o:BinOp)(a:Nat)(n:Int):IRow:=⟨some d,.op (.bin o .none (.tmp a) (.con (.int .i64 n))),none⟩
abbrev Mb (d:Nat)(b:Bool):IRow:=⟨some d,.op (.mv (.con (.bool b))),none⟩
abbrev Bx (d t s:Nat):IRow:=⟨some d,.op (.box t (.tmp s)),none⟩
abbrev Nt (d s:Nat):IRow:=⟨some d,.op (.un .not (.tmp s)),none⟩
abbrev Mc (d:Nat)(n:Int):IRow:=⟨some d,.op (.mv (.con (.int .i64 n))),none⟩
abbrev Cd (s:Nat)(a b:ICode):ICode:=.cond (.tmp s) a b
abbrev Rg (l:List IRow):ICode:=.reg l [] false
abbrev Sr (l:List IRow)(c:ICode):ICode:=.seq (.reg l [] false) c
theorem fnO {P:Program}{f N:Nat}{rs:List (Nat×Option Nat)}{ic:ICode}{fn:Func}(h1:P.funcs[f]? = some fn)(h5:Enters P f)(h2:fn.ntmps=N:=by kernel_rfl)(h3:fn.body.bind (qav P N)=some ic:=by kernel_rfl)(h4:qb7 P fn.results.toList=some rs:=by kernel_rfl):FnOk P f N rs ic:=⟨fn,h1,h2,h3,h4,h5⟩
abbrev ci (n:Int):Opd:=.con (.int .i64 n)
abbrev Mv (d s:Nat):IRow:=⟨some d,.op (.mv (.tmp s)),none⟩
abbrev Ld (d e s:Nat):IRow:=⟨some d,.op (.load e (.tmp s)),none⟩
abbrev Fa (d o k s:Nat):IRow:=⟨some d,.op (.faddr o k (.tmp s)),none⟩
abbrev Ex (d s i:Nat):IRow:=⟨some d,.op (.extract (.tmp s) i),none⟩
abbrev Ln (d s:Nat):IRow:=⟨some d,.op (.len (.tmp s)),none⟩
abbrev Sv (e a x:Nat):IRow:=⟨none,.op (.store e (.tmp a) (.tmp x)),none⟩
abbrev Ia (d e a i:Nat):IRow:=⟨some d,.op (.iaddr e none (.tmp a) (.tmp i)),none⟩
abbrev Gm (d s g:Nat)(b:Bool):IRow:=⟨some d,.op (.mv (.tmp s)),some (g,b)⟩
abbrev Op (d:Nat)(o:IOp):IRow:=⟨some d,.op o,none⟩
abbrev St (o:IOp):IRow:=⟨none,.op o,none⟩
abbrev Gd (d:Nat)(o:IOp)(g:Nat)(b:Bool):IRow:=⟨some d,.op o,some (g,b)⟩
abbrev Cl (d f:Nat)(l:List Opd):IRow:=⟨some d,.call (.call f l),none⟩
abbrev Cg (d f:Nat)(l:List Opd)(g:Nat)(b:Bool):IRow:=⟨some d,.call (.call f l),some (g,b)⟩
def i2:ICode:=(Rg [Cl 0 1 []])
def qqR:ICode:=(Sr [Bn 50 .lss 49 48] (.seq (Cd 50 .skip (.exit 0)) (.seq (.block 1 (Sr [Ia 51 3 47 49,Ld 52 3 51,Op 11 (.alloc 50 [(.int .i64 0),(.int .i64 0),.nil]),Sv 3 11 52] (.seq (.reg [Mv 53 7,Fa 54 1 2 11,Fa 55 1 1 54,Ld 56 0 55,Op 57 (.iaddr 2 none (.tmp 56) (ci 0)),Fa 58 0 1 57,Ld 59 0 58,Fa 60 1 2 11,Ld 61 2 60,Cl 62 15 [(.tmp 61)],Cl 63 14 [(.tmp 53),(.tmp 59),(.tmp 62)],Nt 64 63] [0,0,2,6,14,30,62,0,128,384,1023,2047] true) (Cd 64 (Sr [Mb 2 false] .ret) .skip)))) (Rg [Bc 65 .add 49 1,Mv 49 65]))))
def i3:ICode:=(Sr [Mb 2 false] (.seq (Sr [Cl 12 6 [],Nt 13 12] (Cd 13 (Sr [Mb 2 false] .ret) .skip)) (Sr [Mv 14 0,Cl 15 7 [(.tmp 14)],Mv 3 15] (Sr [Mv 16 3,Cl 17 8 [(.tmp 16),(.con (.bool false))],Op 4 (.alloc 33 [(.int .i64 0),.nil,.nil,.nil,.nil,(.int .i64 0),(.int .i64 0),.nil,(.int .i64 0),.nil]),Sv 10 4 17] (Sr [Ld 19 10 4,Cl 20 9 [(.tmp 19)],Mv 18 20,Ex 21 18 0,Ex 22 18 1,Op 5 (.alloc 37 [.nil,(.int .i64 0)]),Sv 2 5 21,Mv 6 22] (.seq (Sr [Mv 23 6,Bc 24 .neq 23 0] (Cd 24 (Sr [Mb 2 false] .ret) .skip)) (Sr [Ld 26 10 4,Ld 27 2 5,Cl 28 10 [(.tmp 26),(.tmp 27),(ci 60)],Mv 25 28,Ex 29 25 0,Ex 30 25 1,Ex 31 25 2,Sv 2 5 29,Mv 6 31] (.seq (Sr [Mv 32 6,Bc 33 .neq 32 0,Mv 34 33,Gd 35 (.load 2 (.tmp 5)) 34 false,Cg 36 11 [(.tmp 35)] 34 false,Gd 37 (.un .not (.tmp 36)) 34 false,Op 38 (.pick (.tmp 34) (.con (.bool true)) (.tmp 37))] (Cd 38 (Sr [Mb 2 true] .ret) .skip)) (Sr [Ld 39 2 5,Cl 40 12 [(.tmp 39)],Mv 7 40] (Sr [Mv 42 3,Ld 43 10 4,Cl 44 13 [(.tmp 42),(.tmp 43),(ci 12)],Mv 41 44,Ex 45 41 0,Ex 46 41 1,Op 8 (.alloc 31 [(.int .i64 0),.nil]),Sv 2 8 45,Mv 9 46] (.seq (Sr [Mv 47 9,Ln 48 47,Mc 49 0] (.block 0 (.loop qqR))) (.seq (.reg [Mv 66 7,Fa 67 8 2 4,Fa 68 1 1 67,Ld 69 0 68,Op 70 (.iaddr 2 none (.tmp 69) (ci 0)),Fa 71 0 1 70,Ld 72 0 71,Fa 73 8 2 4,Ld 74 2 73,Cl 75 15 [(.tmp 74)],Cl 76 14 [(.tmp 66),(.tmp 72),(.tmp 75)],Mv 2 76] [0,0,2,6,14,30,62,0,128,384,1023,2047] true) .ret))))))))))))
theorem fn3:FnOk Tryz.prog 3 77 [(2,none)] i3:=fnO Tryz.func3 Tryz.call3
def qqS:ICode:=(Sr [Bn 53 .lss 52 51] (.seq (Cd 53 .skip (.exit 2)) (.seq (.block 3 (Sr [Ia 54 0 50 52,Ld 55 0 54,Mv 11 55] (Sr [Ld 57 10 4,Mv 58 11,Ld 59 2 9,Cl 60 18 [(.tmp 57),(.tmp 58),(.tmp 59)],Mv 56 60,Ex 61 56 0,Ex 62 56 1,Mv 12 61,Mv 13 62] (.seq (Sr [Mv 63 13,Bc 64 .neq 63 0,Mv 65 64,Gm 66 12 65 false,Gd 67 (.len (.tmp 66)) 65 false,Gd 68 (.bin .neq .none (.tmp 67) (ci 1)) 65 false,Op 69 (.pick (.tmp 65) (.con (.bool true)) (.tmp 68))] (Cd 69 (Sr [Mb 2 false] .ret) .skip)) (Rg [Mv 70 12,Op 71 (.iaddr 2 none (.tmp 70) (ci 0)),Ld 72 2 71,Sv 2 9 72]))))) (Rg [Bc 73 .add 52 1,Mv 52 73]))))
def qoK:ICode:=(Sr [Bn 38 .lss 37 36] (.seq (Cd 38 .skip (.exit 0)) (.seq (.block 1 (Sr [Mv 39 37,Ia 40 4 35 37,Ld 41 4 40,Op 8 (.alloc 55 [(.int .i64 0),.nil,(.int .i64 0),(.int .i64 0)]),Mv 7 39,Sv 4 8 41] (.seq (Sr [Fa 42 1 1 8,Ld 43 0 42,Cl 44 16 [(.tmp 43)],Nt 45 44] (Cd 45 (.exit 1) .skip)) (Sr [Fa 46 8 2 4,Ld 47 2 46,Op 9 (.alloc 31 [(.int .i64 0),.nil]),Sv 2 9 47] (.seq (Sr [Ld 48 2 5,Mv 49 7,Cl 50 17 [(.tmp 48),(.tmp 49)],Ln 51 50,Mc 52 0] (.block 2 (.loop qqS))) (.seq (.reg [Fa 74 1 1 9,Ld 75 0 74,Op 76 (.iaddr 2 none (.tmp 75) (ci 0)),Fa 77 0 1 76,Ld 78 0 77,Fa 79 0 1 8,Ld 80 0 79,Bn 81 .neq 78 80,Mv 82 81,Gd 83 (.load 2 (.tmp 9)) 82 false,Cg 84 15 [(.tmp 83)] 82 false,Gd 85 (.faddr 1 1 (.tmp 8)) 82 false,Gd 86 (.load 0 (.tmp 85)) 82 false,Cg 87 19 [(.tmp 84),(.tmp 86)] 82 false,Gd 88 (.un .not (.tmp 87)) 82 false,Op 89 (.pick (.tmp 82) (.con (.bool true)) (.tmp 88))] [0,1,3,7,15,0,32,127,255,511,1023,511,2559,8191,16383,32767] true) (Cd 89 (Sr [Mb 2 false] .ret) .skip))))))) (Rg [Bc 90 .add 37 1,Mv 37 90]))))
def i4:ICode:=(Sr [Mb 2 false] (.seq (Sr [Cl 14 6 [],Nt 15 14] (Cd 15 (Sr [Mb 2 false] .ret) .skip)) (Sr [Mv 16 0,Cl 17 7 [(.tmp 16)],Mv 3 17] (Sr [Mv 18 3,Cl 19 8 [(.tmp 18),(.con (.bool false))],Op 4 (.alloc 33 [(.int .i64 0),.nil,.nil,.nil,.nil,(.int .i64 0),(.int .i64 0),.nil,(.int .i64 0),.nil]),Sv 10 4 19] (Sr [Ld 21 10 4,Cl 22 9 [(.tmp 21)],Mv 20 22,Ex 23 20 0,Ex 24 20 1,Op 5 (.alloc 37 [.nil,(.int .i64 0)]),Sv 2 5 23,Mv 6 24] (.seq (Sr [Mv 25 6,Bc 26 .neq 25 0] (Cd 26 (Sr [Mb 2 false] .ret) .skip)) (Sr [Ld 28 10 4,Ld 29 2 5,Cl 30 10 [(.tmp 28),(.tmp 29),(ci 20)],Mv 27 30,Ex 31 27 0,Ex 32 27 1,Ex 33 27 2,Sv 2 5 31] (.seq (Sr [Fa 34 0 1 5,Ld 35 0 34,Ln 36 35,Mc 37 0] (.block 0 (.loop qoK))) (Sr [Mb 2 true] .ret)))))))))
theorem fn4:FnOk Tryz.prog 4 91 [(2,none)] i4:=fnO Tryz.func4 Tryz.call4
def qm9:ICode:=(Sr [Bn 56 .lss 55 54] (.seq (Cd 56 .skip (.exit 2)) (.seq (.block 3 (Sr [Mv 57 55,Ia 58 2 53 55,Ld 59 2 58,Op 11 (.alloc 62 [(.int .i64 0),.nil]),Mv 10 57,Sv 2 11 59] (Sr [Mv 60 8,Mv 61 10,Bn 62 .neq 60 61,Mv 63 62,Gd 64 (.faddr 0 1 (.tmp 9)) 63 true,Gd 65 (.load 0 (.tmp 64)) 63 true,Gd 66 (.faddr 0 1 (.tmp 11)) 63 true,Gd 67 (.load 0 (.tmp 66)) 63 true,Gd 68 (.bin .eql .none (.tmp 65) (.tmp 67)) 63 true,Op 69 (.pick (.tmp 63) (.tmp 68) (.con (.bool false))),Mv 70 69,Gd 71 (.faddr 1 1 (.tmp 9)) 70 true,Gd 72 (.load 0 (.tmp 71)) 70 true,Gd 73 (.faddr 1 1 (.tmp 11)) 70 true,Gd 74 (.load 0 (.tmp 73)) 70 true,Cg 75 20 [(.tmp 72),(.tmp 74)] 70 true,Op 76 (.pick (.tmp 70) (.tmp 75) (.con (.bool false)))] (Cd 76 (Sr [Mb 2 false] .ret) .skip)))) (Rg [Bc 77 .add 55 1,Mv 55 77]))))
def qna:ICode:=(Sr [Bn 118 .lss 117 116] (.seq (Cd 118 .skip (.exit 4)) (.seq (.block 5 (Sr [Ia 119 14 115 117,Ld 120 14 119,⟨some 13,.op (.alloc 66 [(.str ⟨#[]⟩),(.int .i64 0),(.int .i64 0),.nil,.nil,.nil,(.int .i64 0),(.int .i64 0),(.int .i64 0),.nil,.nil,.nil,.nil,(.int .i64 0)]),none⟩,Sv 14 13 120] (.seq (Sr [Fa 121 1 1 13,Ld 122 0 121,Fa 123 0 1 9,Ld 124 0 123,Bn 125 .neq 122 124] (Cd 125 (.exit 5) .skip)) (Sr [Ld 127 14 13,Fa 128 1 1 9,Ld 129 0 128,Cl 130 22 [(.tmp 127),(.tmp 129)],Mv 126 130,Ex 131 126 0,Ex 132 126 1,Ex 133 126 2,Mv 14 131,Mv 15 132,Mv 16 133] (Sr [Mv 134 15,Mv 135 134,Gm 136 7 135 true,Gd 137 (.faddr 2 1 (.tmp 13)) 135 true,Gd 138 (.load 0 (.tmp 137)) 135 true,Gm 139 14 135 true,Cg 140 14 [(.tmp 136),(.tmp 138),(.tmp 139)] 135 true,Gd 141 (.un .not (.tmp 140)) 135 true,Op 142 (.pick (.tmp 135) (.tmp 141) (.con (.bool false)))] (Cd 142 (Sr [Mb 2 false] .ret) .skip)))))) (Rg [Bc 143 .add 117 1,Mv 117 143]))))
def qm8:ICode:=(Sr [Bn 49 .lss 48 47] (.seq (Cd 49 .skip (.exit 0)) (.seq (.block 1 (Sr [Mv 50 48,Ia 51 2 46 48,Ld 52 2 51,Op 9 (.alloc 62 [(.int .i64 0),.nil]),Mv 8 50,Sv 2 9 52] (.seq (Sr [Mv 53 7,Ln 54 53,Mc 55 0] (.block 2 (.loop qm9))) (.seq (.seq (.reg [Mv 78 8,Bc 79 .gtr 78 0,Mv 80 79,Gm 81 7 80 true,Gm 82 8 80 true,Gd 83 (.bin .sub .none (.tmp 82) (ci 1)) 80 true,Gd 84 (.iaddr 2 none (.tmp 81) (.tmp 83)) 80 true,Gd 85 (.faddr 0 1 (.tmp 84)) 80 true,Gd 86 (.load 0 (.tmp 85)) 80 true,Gd 87 (.faddr 0 1 (.tmp 9)) 80 true,Gd 88 (.load 0 (.tmp 87)) 80 true,Gd 89 (.bin .gtr .none (.tmp 86) (.tmp 88)) 80 true,Gm 90 89 80 true,Gm 91 7 90 false,Gm 92 8 90 false,Gd 93 (.bin .sub .none (.tmp 92) (ci 1)) 90 false,Gd 94 (.iaddr 2 none (.tmp 91) (.tmp 93)) 90 false,Gd 95 (.faddr 0 1 (.tmp 94)) 90 false,Gd 96 (.load 0 (.tmp 95)) 90 false,Gd 97 (.faddr 0 1 (.tmp 9)) 90 false,Gd 98 (.load 0 (.tmp 97)) 90 false,Gd 99 (.bin .eql .none (.tmp 96) (.tmp 98)) 90 false,Gm 100 99 90 false,Gm 101 7 100 true,Gm 102 8 100 true,Gd 103 (.bin .sub .none (.tmp 102) (ci 1)) 100 true,Gd 104 (.iaddr 2 none (.tmp 101) (.tmp 103)) 100 true,Gd 105 (.faddr 1 1 (.tmp 104)) 100 true,Gd 106 (.load 0 (.tmp 105)) 100 true,Gd 107 (.faddr 1 1 (.tmp 9)) 100 true,Gd 108 (.load 0 (.tmp 107)) 100 true,Cg 109 21 [(.tmp 106),(.tmp 108)] 100 true,Gd 110 (.bin .geq .none (.tmp 109) (ci 0)) 100 true,Gd 111 (.pick (.tmp 100) (.tmp 110) (.con (.bool false))) 90 false,Gd 112 (.pick (.tmp 90) (.con (.bool true)) (.tmp 111)) 80 true,Op 113 (.pick (.tmp 80) (.tmp 112) (.con (.bool false)))] [0,1,3,7,7,23,63,127,255,7,519,2047,4095,8191,8191,24575,65535,131071,262143,8191,532479,2097151,4194303,8388607,8388607,25165823,67108863,134217727,268435455,8388607,545259519,2147483647,4294967295,8589934591,17179869183,34359738367] true) (Cd 113 (Sr [Mb 2 false] .ret) .skip)) (Sr [Fa 114 7 1 4,Ld 115 0 114,Ln 116 115,Mc 117 0] (.block 4 (.loop qna))))))) (Rg [Bc 144 .add 48 1,Mv 48 144]))))
def i5:ICode:=(Sr [Mb 2 false] (.seq (Sr [Cl 17 6 [],Nt 18 17] (Cd 18 (Sr [Mb 2 false] .ret) .skip)) (Sr [Mv 19 0,Cl 20 7 [(.tmp 19)],Mv 3 20] (Sr [Mv 21 3,Cl 22 8 [(.tmp 21),(.con (.bool false))],Op 4 (.alloc 33 [(.int .i64 0),.nil,.nil,.nil,.nil,(.int .i64 0),(.int .i64 0),.nil,(.int .i64 0),.nil]),Sv 10 4 22] (Sr [Ld 24 10 4,Cl 25 9 [(.tmp 24)],Mv 23 25,Ex 26 23 0,Ex 27 23 1,Op 5 (.alloc 37 [.nil,(.int .i64 0)]),Sv 2 5 26,Mv 6 27] (.seq (Sr [Mv 28 6,Bc 29 .neq 28 0] (Cd 29 (Sr [Mb 2 false] .ret) .skip)) (Sr [Ld 31 10 4,Ld 32 2 5,Cl 33 10 [(.tmp 31),(.tmp 32),(ci 60)],Mv 30 33,Ex 34 30 0,Ex 35 30 1,Ex 36 30 2,Sv 2 5 34,Mv 6 36] (.seq (Sr [Mv 37 6,Bc 38 .neq 37 0,Mv 39 38,Gd 40 (.load 2 (.tmp 5)) 39 false,Cg 41 11 [(.tmp 40)] 39 false,Gd 42 (.un .not (.tmp 41)) 39 false,Op 43 (.pick (.tmp 39) (.con (.bool true)) (.tmp 42))] (Cd 43 (Sr [Mb 2 true] .ret) .skip)) (Sr [Ld 44 2 5,Cl 45 12 [(.tmp 44)],Mv 7 45] (.seq (Sr [Mv 46 7,Ln 47 46,Mc 48 0] (.block 0 (.loop qm8))) (Sr [Mv 145 7,Ln 146 145,Bc 147 .gtr 146 0,Mv 2 147] .ret)))))))))))
theorem fn5:FnOk Tryz.prog 5 148 [(2,none)] i5:=fnO Tryz.func5 Tryz.call5
def i6:ICode:=(Sr [Mb 0 false] (Sr [⟨some 7,.op (.rows 9 0 1 [(.str ⟨#[]⟩)] [(0,1,(.con (.str ⟨#[97]⟩)))]),none⟩,⟨some 8,.op (.rows 9 0 1 [(.str ⟨#[]⟩)] [(0,1,(.con (.str ⟨#[120]⟩)))]),none⟩,Op 9 (.rows 3 0 1 [(.int .i64 0)] [(0,1,(ci 0))]),Op 10 (.rows 3 0 1 [(.int .i64 0)] [(0,1,(ci 1))]),⟨some 11,.op (.build [(.str ⟨#[]⟩),(.int .i64 0),(.int .i64 0),.nil,.nil,.nil,(.int .i64 0),(.int .i64 0),(.int .i64 0),.nil,.nil,.nil,.nil,(.int .i64 0)] [(0,1,(.con (.str ⟨#[114]⟩))),(3,1,(.tmp 9)),(4,1,(.tmp 10))]),none⟩,⟨some 12,.op (.rows 66 14 1 [(.str ⟨#[]⟩),(.int .i64 0),(.int .i64 0),.nil,.nil,.nil,(.int .i64 0),(.int .i64 0),(.int .i64 0),.nil,.nil,.nil,.nil,(.int .i64 0)] [(0,14,(.tmp 11))]),none⟩,Op 13 (.build [(.int .i64 0),.nil] []),Op 14 (.build [(.int .i64 0),.nil] []),Op 15 (.rows 31 2 2 [(.int .i64 0),.nil] [(0,2,(.tmp 13)),(2,2,(.tmp 14))]),Op 16 (.build [(.int .i64 0),.nil] [(1,1,(.tmp 15))]),Op 17 (.build [(.int .i64 0),.nil,.nil,.nil,.nil,(.int .i64 0),(.int .i64 0),.nil,(.int .i64 0),.nil] [(0,1,(ci 1)),(1,1,(.tmp 7)),(2,1,(.tmp 8)),(7,1,(.tmp 12)),(8,2,(.tmp 16))]),Op 1 (.alloc 33 [(.int .i64 0),.nil,.nil,.nil,.nil,(.int .i64 0),(.int .i64 0),.nil,(.int .i64 0),.nil]),Sv 10 1 17] (Sr [Ld 19 10 1,Cl 20 9 [(.tmp 19)],Mv 18 20,Ex 21 18 0,Ex 22 18 1,Op 2 (.alloc 37 [.nil,(.int .i64 0)]),Sv 2 2 21,Mv 3 22] (Sr [Ld 24 10 1,Ld 25 2 2,Cl 26 10 [(.tmp 24),(.tmp 25),(ci 9)],Mv 23 26,Ex 27 23 0,Ex 28 23 1,Ex 29 23 2,Sv 2 2 27,Mv 4 28,Mv 5 29] (Sr [Ld 30 2 2,Cl 31 12 [(.tmp 30)],Mv 6 31] (Sr [Mv 32 3,Bc 33 .eql 32 0,Mv 34 33,Gm 35 5 34 true,Gd 36 (.bin .eql .none (.tmp 35) (ci 0)) 34 true,Op 37 (.pick (.tmp 34) (.tmp 36) (.con (.bool false))),Mv 38 37,Gm 39 4 38 true,Gd 40 (.bin .eql .none (.tmp 39) (ci 3)) 38 true,Op 41 (.pick (.tmp 38) (.tmp 40) (.con (.bool false))),Mv 42 41,Gd 43 (.faddr 0 1 (.tmp 2)) 42 true,Gd 44 (.load 0 (.tmp 43)) 42 true,Gd 45 (.len (.tmp 44)) 42 true,Gd 46 (.bin .eql .none (.tmp 45) (ci 3)) 42 true,Op 47 (.pick (.tmp 42) (.tmp 46) (.con (.bool false))),Mv 48 47,Gd 49 (.load 2 (.tmp 2)) 48 true,Cg 50 11 [(.tmp 49)] 48 true,Op 51 (.pick (.tmp 48) (.tmp 50) (.con (.bool false))),Mv 52 51,Gm 53 6 52 true,Gd 54 (.len (.tmp 53)) 52 true,Gd 55 (.bin .eql .none (.tmp 54) (ci 1)) 52 true,Op 56 (.pick (.tmp 52) (.tmp 55) (.con (.bool false))),Mv 57 56,Gm 58 6 57 true,Gd 59 (.iaddr 2 none (.tmp 58) (ci 0)) 57 true,Gd 60 (.faddr 1 1 (.tmp 59)) 57 true,Gd 61 (.load 0 (.tmp 60)) 57 true,Gd 62 (.iaddr 0 none (.tmp 61) (ci 0)) 57 true,Gd 63 (.load 0 (.tmp 62)) 57 true,Gd 64 (.bin .eql .none (.tmp 63) (ci 1099511627776)) 57 true,Op 65 (.pick (.tmp 57) (.tmp 64) (.con (.bool false))),Mv 66 65,Gm 67 6 66 true,Gd 68 (.rows 3 0 1 [(.int .i64 0)] [(0,1,(ci 7))]) 66 true,Cg 69 14 [(.tmp 67),(ci 0),(.tmp 68)] 66 true,Op 70 (.pick (.tmp 66) (.tmp 69) (.con (.bool false))),Mv 71 70,Gd 72 (.load 2 (.tmp 2)) 71 true,Cg 73 17 [(.tmp 72),(ci 2)] 71 true,Gd 74 (.len (.tmp 73)) 71 true,Gd 75 (.bin .eql .none (.tmp 74) (ci 2)) 71 true,Op 76 (.pick (.tmp 71) (.tmp 75) (.con (.bool false))),Mv 0 76] .ret))))))
theorem fn6:FnOk Tryz.prog 6 77 [(0,none)] i6:=fnO Tryz.func6 Tryz.call6
def i7:ICode:=(Sr [Op 2 (.mv (.con .nilp))] (.seq (Sr [Mv 3 0,Ln 4 3,Bc 5 .gtr 4 200] (Cd 5 (Rg [Mv 6 0,Op 7 (.slice 0 (.tmp 6) none (some (ci 200))),Mv 0 7]) .skip)) (Sr [Mv 8 0,Op 9 (.build [.nil,(.int .i64 0)] [(0,1,(.tmp 8))]),Bx 10 70 9,Mv 2 10] .ret)))
theorem fn7:FnOk Tryz.prog 7 11 [(2,none)] i7:=fnO Tryz.func7 Tryz.call7
def i8_l1:ICode:=(.seq (Sr [Mv 58 9,Mv 59 6,Bn 60 .lss 58 59] (Cd 60 .skip (.exit 2))) (.seq (.block 3 (.reg [Fa 63 5 1 8,Ld 64 0 63,Mv 65 0,Mv 66 6,Bc 67 .add 66 1,Cl 68 23 [(.tmp 65),(.tmp 67)],Bc 69 .sub 68 1,Op 70 (.rows 3 0 1 [(.int .i64 0)] [(0,1,(.tmp 69))]),Op 71 (.app 3 0 (.tmp 64) (.tmp 70)),Fa 72 5 1 8,Sv 0 72 71] [0,1,0,0,8,28,60,124,255,511,1023] true)) (Rg [Mv 61 9,Bc 62 .add 61 1,Mv 9 62])))
def qnb:ICode:=(.seq (Sr [Mv 24 7,Mv 25 0,Cl 26 23 [(.tmp 25),(ci 3)],Op 27 (.bin .add .none (ci 1) (.tmp 26)),Bn 28 .lss 24 27] (Cd 28 .skip (.exit 0))) (.seq (.block 1 (.seq (.reg [⟨some 31,.op (.rows 9 0 3 [(.str ⟨#[]⟩)] [(0,1,(.con (.str ⟨#[114]⟩))),(1,1,(.con (.str ⟨#[115]⟩))),(2,1,(.con (.str ⟨#[116]⟩)))]),none⟩,Mv 32 7,Ia 33 0 31 32,Ld 34 0 33,Mv 35 0,Fa 36 1 1 5,Ld 37 0 36,Ln 38 37,Cl 39 23 [(.tmp 35),(.tmp 38)],Mv 40 0,Fa 41 1 1 5,Ld 42 0 41,Ln 43 42,Cl 44 23 [(.tmp 40),(.tmp 43)],Mv 45 0,Mv 46 6,Cl 47 24 [(.tmp 45),(.tmp 46),(ci 2)],Mv 48 0,Mv 49 6,Cl 50 24 [(.tmp 48),(.tmp 49),(ci 2)],⟨some 51,.op (.build [(.str ⟨#[]⟩),(.int .i64 0),(.int .i64 0),.nil,.nil,.nil,(.int .i64 0),(.int .i64 0),(.int .i64 0),.nil,.nil,.nil,.nil,(.int .i64 0)] [(0,1,(.tmp 34)),(1,1,(.tmp 39)),(2,1,(.tmp 44)),(3,1,(.tmp 47)),(4,1,(.tmp 50))]),none⟩,⟨some 8,.op (.alloc 66 [(.str ⟨#[]⟩),(.int .i64 0),(.int .i64 0),.nil,.nil,.nil,(.int .i64 0),(.int .i64 0),(.int .i64 0),.nil,.nil,.nil,.nil,(.int .i64 0)]),none⟩,Sv 14 8 51] [0,0,3,7,0,0,32,96,240,0,0,1024,3072,8176,0,0,65520,0,0,524272,1048575,0,4194303] true) (.seq (Sr [Mv 52 1,Mv 53 52,Gm 54 0 53 true,Cg 55 23 [(.tmp 54),(ci 2)] 53 true,Gd 56 (.bin .eql .none (.tmp 55) (ci 0)) 53 true,Op 57 (.pick (.tmp 53) (.tmp 56) (.con (.bool false)))] (Cd 57 (Sr [Mc 9 0] (.block 2 (.loop i8_l1))) .skip)) (Rg [Fa 73 7 1 5,Ld 74 0 73,Ld 75 14 8,⟨some 76,.op (.rows 66 14 1 [(.str ⟨#[]⟩),(.int .i64 0),(.int .i64 0),.nil,.nil,.nil,(.int .i64 0),(.int .i64 0),(.int .i64 0),.nil,.nil,.nil,.nil,(.int .i64 0)] [(0,14,(.tmp 75))]),none⟩,Op 77 (.app 66 14 (.tmp 74) (.tmp 76)),Fa 78 7 1 5,Sv 0 78 77])))) (Rg [Mv 29 7,Bc 30 .add 29 1,Mv 7 30])))
def i8:ICode:=(Sr [Op 4 (.alloc 33 [(.int .i64 0),.nil,.nil,.nil,.nil,(.int .i64 0),(.int .i64 0),.nil,(.int .i64 0),.nil])] (.seq (.reg [⟨some 10,.op (.rows 9 0 2 [(.str ⟨#[]⟩)] [(0,1,(.con (.str ⟨#[97]⟩))),(1,1,(.con (.str ⟨#[98]⟩)))]),none⟩,Mv 11 0,Cl 12 23 [(.tmp 11),(ci 2)],Op 13 (.bin .add .none (ci 1) (.tmp 12)),Op 14 (.slice 0 (.tmp 10) none (some (.tmp 13))),⟨some 15,.op (.rows 9 0 2 [(.str ⟨#[]⟩)] [(0,1,(.con (.str ⟨#[120]⟩))),(1,1,(.con (.str ⟨#[121]⟩)))]),none⟩,Mv 16 0,Cl 17 23 [(.tmp 16),(ci 2)],Op 18 (.bin .add .none (ci 1) (.tmp 17)),Op 19 (.slice 0 (.tmp 15) none (some (.tmp 18))),Op 20 (.build [(.int .i64 0),.nil,.nil,.nil,.nil,(.int .i64 0),(.int .i64 0),.nil,(.int .i64 0),.nil] [(0,1,(ci 1)),(1,1,(.tmp 14)),(2,1,(.tmp 19))]),Op 5 (.alloc 33 [(.int .i64 0),.nil,.nil,.nil,.nil,(.int .i64 0),(.int .i64 0),.nil,(.int .i64 0),.nil]),Sv 10 5 20] [0,0,2,6,15,0,0,70,198,486,1023,0,4095] true) (Sr [Fa 21 2 1 5,Ld 22 0 21,Ln 23 22,Mv 6 23] (.seq (Sr [Mc 7 0] (.block 0 (.loop qnb))) (Sr [Mv 79 0,Mv 80 6,Cl 81 24 [(.tmp 79),(.tmp 80),(ci 3)],Cl 82 25 [(ci 0),(.tmp 81)],Fa 83 8 2 5,Sv 2 83 82] (Sr [Ld 84 10 5,Sv 10 4 84] .ret))))))
theorem fn8:FnOk Tryz.prog 8 85 [(4,some 10)] i8:=fnO Tryz.func8 Tryz.call8
def i9:ICode:=(Sr [Bx 1 33 0,Op 2 (.alloc 37 [.nil,(.int .i64 0)]),Mc 3 0] (.seq (Sr [Ld 5 10 1,Cl 6 26 [(.tmp 5)],Mv 4 6] (Sr [Mv 7 4,Bc 8 .neq 7 0] (Cd 8 (Sr [Op 9 (.build [.nil,(.int .i64 0)] []),Mv 10 4,Sv 2 2 9,Mv 3 10] .ret) .skip))) (.seq (.reg [Fa 11 8 2 1,Fa 12 1 1 11,Ld 13 0 12,Op 14 (.iaddr 2 none (.tmp 13) (ci 0)),Fa 15 0 1 14,Ld 16 0 15,Fa 17 8 2 1,Ld 18 2 17,Cl 19 27 [(.tmp 18)],Op 20 (.build [(.int .i64 0),.nil,(.int .i64 0),(.int .i64 0)] [(0,1,(.tmp 16)),(1,1,(.tmp 19)),(2,1,(.con (.int .i64 (-1)))),(3,1,(.con (.int .i64 (-1))))]),Op 21 (.rows 55 4 1 [(.int .i64 0),.nil,(.int .i64 0),(.int .i64 0)] [(0,4,(.tmp 20))]),Op 22 (.build [.nil,(.int .i64 0)] [(0,1,(.tmp 21))]),Sv 2 2 22,Mc 3 0] [0,1,3,7,15,31,0,64,192,511,1023,2047,4095,8191] true) .ret)))
theorem fn9:FnOk Tryz.prog 9 23 [(2,some 2),(3,none)] i9:=fnO Tryz.func9 Tryz.call9
def i10:ICode:=(Sr [Bx 3 33 0,Bx 4 37 1,Op 6 (.alloc 37 [.nil,(.int .i64 0)]),Mc 7 0,Mc 8 0] (Sr [Ld 9 2 4,Cl 10 29 [(.tmp 9)],Mv 11 2,Op 12 (.mkfn 30 [(.tmp 3)]),Cl 13 28 [(.tmp 10),(.tmp 11),(.tmp 12)],Ex 14 13 0,Ex 15 13 1,Ex 16 13 2,Sv 2 6 14,Mv 7 15,Mv 8 16] .ret))
theorem fn10:FnOk Tryz.prog 10 17 [(6,some 2),(7,none),(8,none)] i10:=fnO Tryz.func10 Tryz.call10
def i11:ICode:=(Sr [Bx 1 37 0,Mb 2 false] (Sr [Fa 3 1 1 1,Ld 4 0 3,Fa 5 0 1 1,Ld 6 0 5,Ln 7 6,Bn 8 .geq 4 7,Mv 2 8] .ret))
theorem fn11:FnOk Tryz.prog 11 9 [(2,none)] i11:=fnO Tryz.func11 Tryz.call11
def qjy:ICode:=(Sr [Bn 16 .lss 15 14] (.seq (Cd 16 .skip (.exit 0)) (.seq (.block 1 (Sr [Ia 17 4 13 15,Ld 18 4 17,Op 6 (.alloc 55 [(.int .i64 0),.nil,(.int .i64 0),(.int .i64 0)]),Sv 4 6 18] (.reg [Mv 19 3,Fa 20 0 1 6,Ld 21 0 20,Fa 22 1 1 6,Ld 23 0 22,Cl 24 32 [(.tmp 23)],Op 25 (.build [(.int .i64 0),.nil] [(0,1,(.tmp 21)),(1,1,(.tmp 24))]),Op 26 (.rows 62 2 1 [(.int .i64 0),.nil] [(0,2,(.tmp 25))]),Op 27 (.app 62 2 (.tmp 19) (.tmp 26)),Mv 3 27] [0,0,2,0,8,24,62,126,255,511] true))) (Rg [Bc 28 .add 15 1,Mv 15 28]))))
def qcR:ICode:=(Sr [Bn 43 .lss 42 41] (.seq (Cd 43 .skip (.exit 4)) (.seq (.block 5 (Sr [Mv 44 42,Ia 45 2 40 42,Ld 46 2 45,Op 11 (.alloc 62 [(.int .i64 0),.nil]),Mv 10 44,Sv 2 11 46] (Rg [Mv 47 9,Mv 48 47,Gm 49 10 48 false,Gm 50 7 48 false,Gd 51 (.bin .neq .none (.tmp 49) (.tmp 50)) 48 false,Gm 52 51 48 false,Gd 53 (.faddr 0 1 (.tmp 8)) 52 true,Gd 54 (.load 0 (.tmp 53)) 52 true,Gd 55 (.faddr 0 1 (.tmp 11)) 52 true,Gd 56 (.load 0 (.tmp 55)) 52 true,Gd 57 (.bin .eql .none (.tmp 54) (.tmp 56)) 52 true,Gd 58 (.pick (.tmp 52) (.tmp 57) (.con (.bool false))) 48 false,Gm 59 58 48 false,Gd 60 (.faddr 1 1 (.tmp 8)) 59 true,Gd 61 (.load 0 (.tmp 60)) 59 true,Gd 62 (.faddr 1 1 (.tmp 11)) 59 true,Gd 63 (.load 0 (.tmp 62)) 59 true,Cg 64 37 [(.tmp 61),(.tmp 63)] 59 true,Gd 65 (.pick (.tmp 59) (.tmp 64) (.con (.bool false))) 48 false,Op 66 (.pick (.tmp 48) (.con (.bool true)) (.tmp 65)),Mv 9 66]))) (Rg [Bc 67 .add 42 1,Mv 42 67]))))
def qgI:ICode:=(Sr [Bn 36 .lss 35 34] (.seq (Cd 36 .skip (.exit 2)) (.seq (.block 3 (Sr [Mv 37 35,Ia 38 2 33 35,Ld 39 2 38,Op 8 (.alloc 62 [(.int .i64 0),.nil]),Mv 7 37,Sv 2 8 39] (Sr [Mb 9 false] (.seq (Sr [Mv 40 3,Ln 41 40,Mc 42 0] (.block 4 (.loop qcR))) (Sr [Mv 68 9,Nt 69 68] (Cd 69 (Rg [Mv 70 4,Ld 71 2 8,Op 72 (.rows 62 2 1 [(.int .i64 0),.nil] [(0,2,(.tmp 71))]),Op 73 (.app 62 2 (.tmp 70) (.tmp 72)),Mv 4 73]) .skip)))))) (Rg [Bc 74 .add 35 1,Mv 35 74]))))
def i12:ICode:=(Sr [Bx 1 37 0,Op 2 (.mv (.con .nil))] (Sr [Op 3 (.mv (.con .nil)),Op 4 (.mv (.con .nil))] (.seq (Sr [Fa 12 0 1 1,Ld 13 0 12,Ln 14 13,Mc 15 0] (.block 0 (.loop qjy))) (Sr [Mv 29 3,Cl 30 33 [(.tmp 29),(.fnc 34)]] (Sr [Mv 31 3,Cl 32 35 [(.tmp 31),(.fnc 36)],Mv 3 32] (.seq (Sr [Mv 33 3,Ln 34 33,Mc 35 0] (.block 2 (.loop qgI))) (Sr [Mv 75 4,Mv 2 75] .ret)))))))
theorem fn12:FnOk Tryz.prog 12 76 [(2,none)] i12:=fnO Tryz.func12 Tryz.call12
def qgK:ICode:=(.seq (Sr [Mv 20 10,Bc 21 .gtr 20 0] (Cd 21 .skip (.exit 0))) (.seq (.block 1 (Sr [Ld 25 10 4,Ld 26 2 8,Cl 27 38 [(.tmp 25),(.tmp 26)],Mv 24 27,Ex 28 24 0,Ex 29 24 1,Mv 11 28,Mv 12 29] (.seq (Sr [Mv 30 12,Bc 31 .neq 30 0,Mv 32 31,Gm 33 11 32 false,Gd 34 (.len (.tmp 33)) 32 false,Gd 35 (.bin .eql .none (.tmp 34) (ci 0)) 32 false,Op 36 (.pick (.tmp 32) (.con (.bool true)) (.tmp 35))] (Cd 36 (.exit 0) .skip)) (Sr [Mv 37 11,Mv 38 0,Mv 39 11,Ln 40 39,Cl 41 23 [(.tmp 38),(.tmp 40)],Ia 42 3 37 41,Ld 43 3 42,Op 13 (.alloc 50 [(.int .i64 0),(.int .i64 0),.nil]),Sv 3 13 43] (.reg [Fa 44 1 2 13,Ld 45 2 44,Mv 46 9,Ld 47 3 13,Op 48 (.rows 50 3 1 [(.int .i64 0),(.int .i64 0),.nil] [(0,3,(.tmp 47))]),Op 49 (.app 50 3 (.tmp 46) (.tmp 48)),Sv 2 8 45,Mv 9 49] [0,1,0,0,8,28,63,127] true))))) (Rg [Mv 22 10,Bc 23 .sub 22 1,Mv 10 23])))
def i13:ICode:=(Sr [Bx 4 33 1,Op 6 (.alloc 31 [(.int .i64 0),.nil]),Op 7 (.mv (.con .nil))] (Sr [Fa 14 8 2 4,Ld 15 2 14,Op 8 (.alloc 31 [(.int .i64 0),.nil]),Sv 2 8 15] (Sr [Op 9 (.mv (.con .nil))] (.seq (Sr [Mv 16 0,Mv 17 2,Bc 18 .add 17 1,Cl 19 23 [(.tmp 16),(.tmp 18)],Mv 10 19] (.block 0 (.loop qgK))) (Sr [Ld 50 2 8,Mv 51 9,Sv 2 6 50,Mv 7 51] .ret)))))
theorem fn13:FnOk Tryz.prog 13 52 [(6,some 2),(7,none)] i13:=fnO Tryz.func13 Tryz.call13
def i14:ICode:=(Sr [Bx 4 3 1,Bx 5 27 2,Mb 6 false] (Sr [Mv 7 0,Op 8 (.mkfn 40 [(.tmp 4),(.tmp 5)]),Cl 9 39 [(.tmp 7),(.tmp 8)],Mv 6 9] .ret))
theorem fn14:FnOk Tryz.prog 14 10 [(6,none)] i14:=fnO Tryz.func14 Tryz.call14
def qjz:ICode:=(.seq (Sr [Mv 5 4,Fa 6 1 1 1,Ld 7 0 6,Ln 8 7,Bn 9 .lss 5 8] (Cd 9 .skip (.exit 0))) (.seq (.block 1 (Rg [Mv 12 3,Fa 13 1 1 1,Ld 14 0 13,Mv 15 4,Ia 16 2 14 15,Fa 17 0 1 16,Ld 18 0 17,Op 19 (.rows 3 0 1 [(.int .i64 0)] [(0,1,(.tmp 18))]),Op 20 (.app 3 0 (.tmp 12) (.tmp 19)),Mv 3 20])) (Rg [Mv 10 4,Bc 11 .add 10 1,Mv 4 11])))
def i15:ICode:=(Sr [Bx 1 31 0,Op 2 (.mv (.con .nil))] (Sr [Op 3 (.mv (.con .nil))] (.seq (Sr [Mc 4 1] (.block 0 (.loop qjz))) (Sr [Mv 21 3,Mv 2 21] .ret))))
theorem fn15:FnOk Tryz.prog 15 22 [(2,none)] i15:=fnO Tryz.func15 Tryz.call15
def qlS:ICode:=(.seq (Sr [Mv 4 3,Mv 5 0,Ln 6 5,Bn 7 .lss 4 6] (Cd 7 .skip (.exit 0))) (.seq (.block 1 (Sr [Mv 10 0,Mv 11 3,Ia 12 0 10 11,Ld 13 0 12,Bc 14 .eql 13 1099511627776] (Cd 14 (Sr [Mb 2 false] .ret) .skip))) (Rg [Mv 8 3,Bc 9 .add 8 1,Mv 3 9])))
def i16:ICode:=(Sr [Mb 2 false] (.seq (Sr [Mc 3 0] (.block 0 (.loop qlS))) (Sr [Mv 15 0,Cl 16 41 [(.tmp 15)],Mv 2 16] .ret)))
theorem fn16:FnOk Tryz.prog 16 17 [(2,none)] i16:=fnO Tryz.func16 Tryz.call16
def qjA:ICode:=(.seq (Sr [Fa 16 0 1 2,Ld 17 0 16,Mv 18 1,Ia 19 4 17 18,Fa 20 2 1 19,Ld 21 0 20,Bc 22 .geq 21 0] (Cd 22 .skip (.exit 0))) (.seq (.block 1 (Rg [Mv 29 5,Fa 30 0 1 2,Ld 31 0 30,Mv 32 1,Ia 33 4 31 32,Fa 34 3 1 33,Ld 35 0 34,Op 36 (.rows 3 0 1 [(.int .i64 0)] [(0,1,(.tmp 35))]),Op 37 (.app 3 0 (.tmp 29) (.tmp 36)),Mv 5 37])) (Rg [Fa 23 0 1 2,Ld 24 0 23,Mv 25 1,Ia 26 4 24 25,Fa 27 2 1 26,Ld 28 0 27,Mv 1 28])))
def i17:ICode:=(Sr [Bx 2 37 0,Op 4 (.mv (.con .nil))] (Sr [Op 5 (.mv (.con .nil))] (.seq (Sr [Mv 6 1,Bc 7 .lss 6 0,Mv 8 7,Gm 9 1 8 false,Gd 10 (.faddr 0 1 (.tmp 2)) 8 false,Gd 11 (.load 0 (.tmp 10)) 8 false,Gd 12 (.len (.tmp 11)) 8 false,Gd 13 (.bin .geq .none (.tmp 9) (.tmp 12)) 8 false,Op 14 (.pick (.tmp 8) (.con (.bool true)) (.tmp 13))] (Cd 14 (Sr [Mv 15 5,Mv 4 15] .ret) .skip)) (.seq (.block 0 (.loop qjA)) (Sr [Mv 38 5,Cl 39 42 [(.tmp 38)]] (Sr [Mv 40 5,Mv 4 40] .ret))))))
theorem fn17:FnOk Tryz.prog 17 41 [(4,none)] i17:=fnO Tryz.func17 Tryz.call17
def i18:ICode:=(Sr [Bx 3 33 0,Bx 5 31 2,Op 6 (.mv (.con .nil)),Mc 7 0] (.seq (Sr [Ld 11 10 3,Cl 12 43 [(.tmp 11)],Mv 8 12] (Sr [Mv 13 8,Bc 14 .neq 13 0] (Cd 14 (Sr [Mv 15 8,Op 6 (.mv (.con .nil)),Mv 7 15] .ret) .skip))) (.seq (Sr [Mv 16 1,Op 17 (.bin .lss .none (.tmp 16) (.con (.int .i64 (-1)))),Mv 18 17,Gm 19 1 18 false,Gd 20 (.faddr 7 1 (.tmp 3)) 18 false,Gd 21 (.load 0 (.tmp 20)) 18 false,Gd 22 (.len (.tmp 21)) 18 false,Gd 23 (.bin .geq .none (.tmp 19) (.tmp 22)) 18 false,Op 24 (.pick (.tmp 18) (.con (.bool true)) (.tmp 23))] (Cd 24 (Sr [Op 6 (.mv (.con .nil)),Mc 7 16] .ret) .skip)) (.seq (Sr [Ld 25 10 3,Ld 26 2 5,Cl 27 44 [(.tmp 25),(.tmp 26)],Nt 28 27] (Cd 28 (Sr [Op 6 (.mv (.con .nil)),Mc 7 17] .ret) .skip)) (.seq (Sr [Mv 29 1,Op 30 (.bin .eql .none (.tmp 29) (.con (.int .i64 (-1))))] (Cd 30 (Sr [Ld 31 10 3,Ld 32 2 5,Cl 33 45 [(.tmp 31),(.tmp 32)],Ex 34 33 0,Ex 35 33 1,Mv 6 34,Mv 7 35] .ret) .skip)) (.seq (Sr [Fa 36 0 1 3,Ld 37 0 36] (.block 0 (Sr [Bc 39 .eql 37 4,Mv 38 39] (Cd 38 (Sr [Ld 40 10 3,Mv 41 1,Ld 42 2 5,Cl 43 46 [(.tmp 40),(.tmp 41),(.tmp 42)],Ex 44 43 0,Ex 45 43 1,Mv 6 44,Mv 7 45] .ret) (Sr [Bc 47 .eql 37 5,Mv 46 47] (Cd 46 (Sr [Ld 48 10 3,Mv 49 1,Ld 50 2 5,Cl 51 47 [(.tmp 48),(.tmp 49),(.tmp 50)],Ex 52 51 0,Ex 53 51 1,Mv 6 52,Mv 7 53] .ret) .skip)))))) (Sr [Ld 55 10 3,Mv 56 1,Ld 57 2 5,Cl 58 48 [(.tmp 55),(.tmp 56),(.tmp 57)],Mv 54 58,Ex 59 54 0,Ex 60 54 1,Op 9 (.alloc 31 [(.int .i64 0),.nil]),Sv 2 9 59,Mv 10 60] (.seq (Sr [Fa 61 0 1 3,Ld 62 0 61,Bc 63 .neq 62 1] (Cd 63 (Rg [Ld 65 10 3,Mv 66 1,Ld 67 2 5,Cl 68 49 [(.tmp 65),(.tmp 66),(.tmp 67)],Mv 64 68,Ex 69 64 0,Ex 70 64 1,Sv 2 9 69,Mv 10 70]) .skip)) (.seq (Sr [Mv 71 10,Bc 72 .eql 71 18] (Cd 72 (Sr [Op 6 (.mv (.con .nil)),Mc 7 0] .ret) .skip)) (.seq (Sr [Mv 73 10,Bc 74 .neq 73 0] (Cd 74 (Sr [Mv 75 10,Op 6 (.mv (.con .nil)),Mv 7 75] .ret) .skip)) (Sr [Ld 76 2 9,Op 77 (.rows 31 2 1 [(.int .i64 0),.nil] [(0,2,(.tmp 76))]),Mv 6 77,Mc 7 0] .ret)))))))))))
theorem fn18:FnOk Tryz.prog 18 78 [(6,none),(7,none)] i18:=fnO Tryz.func18 Tryz.call18
def i19:ICode:=(Sr [Mb 4 false] (Sr [Mv 5 0,Mv 6 1,Cl 7 21 [(.tmp 5),(.tmp 6)],Bc 8 .eql 7 0,Mv 4 8] .ret))
theorem fn19:FnOk Tryz.prog 19 9 [(4,none)] i19:=fnO Tryz.func19 Tryz.call19
def qlT:ICode:=(.seq (Sr [Mv 21 5,Mv 22 0,Ln 23 22,Bn 24 .lss 21 23] (Cd 24 .skip (.exit 0))) (.seq (.block 1 (.seq (.reg [Mv 27 0,Mv 28 5,Ia 29 0 27 28,Ld 30 0 29,Mv 31 1,Mv 32 5,Ia 33 0 31 32,Ld 34 0 33,Bn 35 .gtr 30 34] [0,0,3,7,0,0,48,112,255] true) (Cd 35 (Sr [Mb 4 false] .ret) .skip))) (Rg [Mv 25 5,Bc 26 .add 25 1,Mv 5 26])))
def i20:ICode:=(Sr [Mb 4 false] (.seq (Sr [Mv 6 0,Cl 7 41 [(.tmp 6)],Nt 8 7,Mv 9 8,Gm 10 1 9 false,Cg 11 41 [(.tmp 10)] 9 false,Gd 12 (.un .not (.tmp 11)) 9 false,Op 13 (.pick (.tmp 9) (.con (.bool true)) (.tmp 12)),Mv 14 13,Gm 15 0 14 false,Gd 16 (.len (.tmp 15)) 14 false,Gm 17 1 14 false,Gd 18 (.len (.tmp 17)) 14 false,Gd 19 (.bin .neq .none (.tmp 16) (.tmp 18)) 14 false,Op 20 (.pick (.tmp 14) (.con (.bool true)) (.tmp 19))] (Cd 20 (Sr [Mb 4 false] .ret) .skip)) (.seq (Sr [Mc 5 0] (.block 0 (.loop qlT))) (Sr [Mb 4 true] .ret))))
theorem fn20:FnOk Tryz.prog 20 36 [(4,none)] i20:=fnO Tryz.func20 Tryz.call20
def qjB:ICode:=(.seq (Sr [Mv 16 5,Mv 17 0,Ln 18 17,Bn 19 .lss 16 18] (Cd 19 .skip (.exit 0))) (.seq (.block 1 (.seq (.reg [Mv 22 0,Mv 23 5,Ia 24 0 22 23,Ld 25 0 24,Mv 26 1,Mv 27 5,Ia 28 0 26 27,Ld 29 0 28,Bn 30 .neq 25 29] [0,0,3,7,0,0,48,112,255] true) (Cd 30 (.seq (.reg [Mv 31 0,Mv 32 5,Ia 33 0 31 32,Ld 34 0 33,Mv 35 1,Mv 36 5,Ia 37 0 35 36,Ld 38 0 37,Cl 39 50 [(.tmp 34),(.tmp 38)],Mv 4 39] [0,0,3,7,0,0,48,112,255,511] true) .ret) .skip))) (Rg [Mv 20 5,Bc 21 .add 20 1,Mv 5 21])))
def i21:ICode:=(Sr [Mc 4 0] (.seq (Sr [Mv 6 0,Ln 7 6,Mv 8 1,Ln 9 8,Bn 10 .neq 7 9] (Cd 10 (Sr [Mv 11 0,Ln 12 11,Mv 13 1,Ln 14 13,Cl 15 50 [(.tmp 12),(.tmp 14)],Mv 4 15] .ret) .skip)) (.seq (Sr [Mc 5 0] (.block 0 (.loop qjB))) (Sr [Mc 4 0] .ret))))
theorem fn21:FnOk Tryz.prog 21 40 [(4,none)] i21:=fnO Tryz.func21 Tryz.call21
def qlU:ICode:=(.seq (Sr [Mv 24 7,Mv 25 1,Ln 26 25,Bn 27 .lss 24 26] (Cd 27 .skip (.exit 0))) (.seq (.block 1 (.seq (.reg [Mv 30 1,Mv 31 7,Ia 32 0 30 31,Ld 33 0 32,Fa 34 3 1 2,Ld 35 0 34,Mv 36 7,Ia 37 0 35 36,Ld 38 0 37,Bn 39 .lss 33 38] [0,0,3,7,0,16,0,112,240,511] true) (Cd 39 (Sr [Op 4 (.mv (.con .nil)),Mb 5 false,Mb 6 false] .ret) .skip))) (Rg [Mv 28 7,Bc 29 .add 28 1,Mv 7 29])))
def qeS:ICode:=(.seq (Sr [Mv 40 8,Mv 41 1,Ln 42 41,Bn 43 .lss 40 42] (Cd 43 .skip (.exit 2))) (.seq (.block 3 (Sr [Mv 46 1,Mv 47 8,Ia 48 0 46 47,Ld 49 0 48,Mv 9 49] (.seq (Sr [Mv 50 9,Bc 51 .neq 50 1099511627776] (Cd 51 (.seq (.reg [Mv 52 9,Fa 53 4 1 2,Ld 54 0 53,Mv 55 8,Ia 56 0 54 55,Ld 57 0 56,Fa 58 3 1 2,Ld 59 0 58,Mv 60 8,Ia 61 0 59 60,Ld 62 0 61,Bn 63 .sub 57 62,Bn 64 .add 52 63,Mv 9 64] [0,0,2,0,14,30,0,64,0,448,960,2046,4095,8191] true) (Rg [Mv 65 6,Mv 66 65,Gm 67 9 66 false,Gd 68 (.bin .gtr .none (.tmp 67) (ci 1048576)) 66 false,Op 69 (.pick (.tmp 66) (.con (.bool true)) (.tmp 68)),Mv 6 69])) .skip)) (Rg [Mv 70 4,Mv 71 9,Op 72 (.rows 3 0 1 [(.int .i64 0)] [(0,1,(.tmp 71))]),Op 73 (.app 3 0 (.tmp 70) (.tmp 72)),Mv 4 73])))) (Rg [Mv 44 8,Bc 45 .add 44 1,Mv 8 45])))
def i22:ICode:=(Sr [Bx 2 66 0,Op 4 (.mv (.con .nil)),Mb 5 false,Mb 6 false] (.seq (Sr [Fa 10 3 1 2,Ld 11 0 10,Ln 12 11,Mv 13 1,Ln 14 13,Bn 15 .neq 12 14,Mv 16 15,Gd 17 (.faddr 4 1 (.tmp 2)) 16 false,Gd 18 (.load 0 (.tmp 17)) 16 false,Gd 19 (.len (.tmp 18)) 16 false,Gm 20 1 16 false,Gd 21 (.len (.tmp 20)) 16 false,Gd 22 (.bin .neq .none (.tmp 19) (.tmp 21)) 16 false,Op 23 (.pick (.tmp 16) (.con (.bool true)) (.tmp 22))] (Cd 23 (Sr [Op 4 (.mv (.con .nil)),Mb 5 false,Mb 6 false] .ret) .skip)) (.seq (Sr [Mc 7 0] (.block 0 (.loop qlU))) (.seq (Sr [Mc 8 0] (.block 2 (.loop qeS))) (Sr [Mv 74 4,Mv 75 6,Mv 4 74,Mb 5 true,Mv 6 75] .ret)))))
theorem fn22:FnOk Tryz.prog 22 76 [(4,none),(5,none),(6,none)] i22:=fnO Tryz.func22 Tryz.call22
def i23:ICode:=(Sr [Mc 4 0] (.seq (.seq (.reg [Mv 5 0,Op 6 (.nilck (.tmp 5)),Fa 7 1 1 6,Ld 8 0 7,Mv 9 0,Op 10 (.nilck (.tmp 9)),Fa 11 0 1 10,Ld 12 0 11,Ln 13 12,Bn 14 .geq 8 13] [0,1,3,7,0,16,48,112,240,511] true) (Cd 14 (Sr [Mc 4 0] .ret) .skip)) (Sr [Mv 15 0,Op 16 (.nilck (.tmp 15)),Fa 17 1 1 16,Ld 18 0 17,Bc 19 .add 18 1,Op 20 (.nilck (.tmp 15)),Fa 21 1 1 20,Sv 0 21 19] (.seq (.reg [Mv 22 0,Op 23 (.nilck (.tmp 22)),Fa 24 0 1 23,Ld 25 0 24,Mv 26 0,Op 27 (.nilck (.tmp 26)),Fa 28 1 1 27,Ld 29 0 28,Bc 30 .sub 29 1,Ia 31 0 25 30,Ld 32 0 31,Op 33 (.conv .i64 (.tmp 32)),Mv 34 1,Bn 35 .rem 33 34,Mv 4 35] [0,1,3,7,0,16,48,112,240,511,1023,2047,0,8191,16383] true) .ret))))
theorem fn23:FnOk Tryz.prog 23 36 [(4,none)] i23:=fnO Tryz.func23 Tryz.call23
def qjC:ICode:=(.seq (Sr [Mv 9 8,Mv 10 1,Bn 11 .lss 9 10] (Cd 11 .skip (.exit 0))) (.seq (.block 1 (Rg [Mv 14 7,Mv 15 0,Mv 16 2,Bc 17 .add 16 1,Cl 18 23 [(.tmp 15),(.tmp 17)],Op 19 (.rows 3 0 1 [(.int .i64 0)] [(0,1,(.tmp 18))]),Op 20 (.app 3 0 (.tmp 14) (.tmp 19)),Mv 7 20])) (Rg [Mv 12 8,Bc 13 .add 12 1,Mv 8 13])))
def i24:ICode:=(Sr [Op 6 (.mv (.con .nil))] (Sr [Op 7 (.mv (.con .nil))] (.seq (Sr [Mc 8 0] (.block 0 (.loop qjC))) (Sr [Mv 21 7,Mv 6 21] .ret))))
theorem fn24:FnOk Tryz.prog 24 22 [(6,none)] i24:=fnO Tryz.func24 Tryz.call24
def qlV:ICode:=(.seq (Sr [Mv 11 6,Mv 12 1,Ln 13 12,Bn 14 .lss 11 13] (Cd 14 .skip (.exit 0))) (.seq (.block 1 (.reg [Fa 17 1 1 5,Ld 18 0 17,Mv 19 1,Mv 20 6,Ia 21 0 19 20,Ld 22 0 21,Op 23 (.build [(.int .i64 0),.nil] [(0,1,(.tmp 22))]),Op 24 (.rows 31 2 1 [(.int .i64 0),.nil] [(0,2,(.tmp 23))]),Op 25 (.app 31 2 (.tmp 18) (.tmp 24)),Fa 26 1 1 5,Sv 0 26 25] [0,1,0,0,12,28,60,124,255,511,1023] true)) (Rg [Mv 15 6,Bc 16 .add 15 1,Mv 6 16])))
def i25:ICode:=(Sr [Op 4 (.alloc 31 [(.int .i64 0),.nil])] (Sr [Mv 7 0,Op 8 (.build [(.int .i64 0),.nil] [(0,1,(.tmp 7))]),Op 9 (.rows 31 2 1 [(.int .i64 0),.nil] [(0,2,(.tmp 8))]),Op 10 (.build [(.int .i64 0),.nil] [(1,1,(.tmp 9))]),Op 5 (.alloc 31 [(.int .i64 0),.nil]),Sv 2 5 10] (.seq (Sr [Mc 6 0] (.block 0 (.loop qlV))) (Sr [Ld 27 2 5,Sv 2 4 27] .ret))))
theorem fn25:FnOk Tryz.prog 25 28 [(4,some 2)] i25:=fnO Tryz.func25 Tryz.call25
def i26:ICode:=(Sr [Bx 1 33 0,Mc 2 0] (.seq (Sr [Ld 4 10 1,Cl 5 51 [(.tmp 4)],Mv 3 5] (Sr [Mv 6 3,Bc 7 .neq 6 0] (Cd 7 (Sr [Mv 8 3,Mv 2 8] .ret) .skip))) (.seq (Sr [Ld 9 10 1,Cl 10 52 [(.tmp 9)],Nt 11 10] (Cd 11 (Sr [Mc 2 15] .ret) .skip)) (Sr [Mc 2 0] .ret))))
theorem fn26:FnOk Tryz.prog 26 12 [(2,none)] i26:=fnO Tryz.func26 Tryz.call26
def qjD:ICode:=(Sr [Bn 11 .lss 10 9] (.seq (Cd 11 .skip (.exit 0)) (.seq (.block 1 (Sr [Ia 12 2 8 10,Ld 13 2 12,Op 5 (.alloc 31 [(.int .i64 0),.nil]),Sv 2 5 13] (Rg [Mv 14 3,Fa 15 0 1 5,Ld 16 0 15,Op 17 (.rows 3 0 1 [(.int .i64 0)] [(0,1,(.tmp 16))]),Op 18 (.app 3 0 (.tmp 14) (.tmp 17)),Mv 3 18]))) (Rg [Bc 19 .add 10 1,Mv 10 19]))))
def i27:ICode:=(Sr [Bx 1 31 0,Op 2 (.mv (.con .nil))] (Sr [Op 3 (.mv (.con .nil))] (.seq (Sr [Fa 6 1 1 1,Ld 7 0 6,Op 8 (.slice 2 (.tmp 7) (some (ci 1)) none),Ln 9 8,Mc 10 0] (.block 0 (.loop qjD))) (Sr [Mv 20 3,Mv 2 20] .ret))))
theorem fn27:FnOk Tryz.prog 27 21 [(2,none)] i27:=fnO Tryz.func27 Tryz.call27
def qhH:ICode:=(.seq (Sr [Mv 13 9,Mv 14 1,Bn 15 .lss 13 14] (Cd 15 .skip (.exit 0))) (.block 1 (Sr [Mv 17 2,Ld 18 2 3,⟨some 19,.call (.callv (.tmp 17) [(.tmp 18)]),none⟩,Mv 16 19,Ex 20 16 0,Ex 21 16 1,Ex 22 16 2,Op 10 (.alloc 37 [.nil,(.int .i64 0)]),Sv 2 10 20,Mv 11 21,Mv 12 22] (.seq (Sr [Mv 23 12,Bc 24 .neq 23 0] (Cd 24 (Sr [Ld 25 2 10,Mv 26 9,Mv 27 12,Sv 2 6 25,Mv 7 26,Mv 8 27] .ret) .skip)) (.seq (Sr [Mv 28 11,Nt 29 28] (Cd 29 (.exit 0) .skip)) (Sr [Ld 30 2 10,Sv 2 3 30] (Rg [Mv 31 9,Bc 32 .add 31 1,Mv 9 32])))))))
def i28:ICode:=(Sr [Bx 3 37 0,Op 6 (.alloc 37 [.nil,(.int .i64 0)]),Mc 7 0,Mc 8 0] (Sr [Mc 9 0] (.seq (.block 0 (.loop qhH)) (Sr [Ld 33 2 3,Mv 34 9,Sv 2 6 33,Mv 7 34,Mc 8 0] .ret))))
theorem fn28:FnOk Tryz.prog 28 35 [(6,some 2),(7,none),(8,none)] i28:=fnO Tryz.func28 Tryz.call28
def qlW:ICode:=(Sr [Bn 14 .lss 13 12] (.seq (Cd 14 .skip (.exit 0)) (.seq (.block 1 (Sr [Ia 15 4 11 13,Ld 16 4 15,Op 5 (.alloc 55 [(.int .i64 0),.nil,(.int .i64 0),(.int .i64 0)]),Sv 4 5 16] (Sr [Fa 17 1 1 5,Ld 18 0 17,Cl 19 32 [(.tmp 18)],Fa 20 1 1 5,Sv 0 20 19] (Rg [Mv 21 3,Ld 22 4 5,Op 23 (.rows 55 4 1 [(.int .i64 0),.nil,(.int .i64 0),(.int .i64 0)] [(0,4,(.tmp 22))]),Op 24 (.app 55 4 (.tmp 21) (.tmp 23)),Mv 3 24])))) (Rg [Bc 25 .add 13 1,Mv 13 25]))))
def i29:ICode:=(Sr [Bx 1 37 0,Op 2 (.alloc 37 [.nil,(.int .i64 0)])] (Sr [Fa 6 0 1 1,Ld 7 0 6,Ln 8 7,Op 9 (.mks 55 4 [(.int .i64 0),.nil,(.int .i64 0),(.int .i64 0)] (ci 0) (.tmp 8)),Mv 3 9] (.seq (Sr [Fa 10 0 1 1,Ld 11 0 10,Ln 12 11,Mc 13 0] (.block 0 (.loop qlW))) (Sr [Mv 26 3,Fa 27 1 1 1,Ld 28 0 27,Op 29 (.build [.nil,(.int .i64 0)] [(0,1,(.tmp 26)),(1,1,(.tmp 28))]),Sv 2 2 29] .ret))))
theorem fn29:FnOk Tryz.prog 29 30 [(2,some 2)] i29:=fnO Tryz.func29 Tryz.call29
def i30:ICode:=(Sr [Bx 2 37 0,Op 3 (.alloc 37 [.nil,(.int .i64 0)]),Mb 4 false,Mc 5 0] (Sr [Ld 6 10 1,Ld 7 2 2,Cl 8 31 [(.tmp 6),(.tmp 7)],Ex 9 8 0,Ex 10 8 1,Ex 11 8 2,Sv 2 3 9,Mv 4 10,Mv 5 11] .ret))
theorem fn30:FnOk Tryz.prog 30 12 [(3,some 2),(4,none),(5,none)] i30:=fnO Tryz.func30 Tryz.call30
def i31:ICode:=(Sr [Bx 2 33 0,Bx 3 37 1,Op 4 (.alloc 37 [.nil,(.int .i64 0)]),Mb 5 false,Mc 6 0] (.seq (Sr [Ld 10 10 2,Cl 11 26 [(.tmp 10)],Mv 7 11] (Sr [Mv 12 7,Bc 13 .neq 12 0] (Cd 13 (Sr [Ld 14 2 3,Cl 15 29 [(.tmp 14)],Mv 16 7,Sv 2 4 15,Mb 5 false,Mv 6 16] .ret) .skip))) (.seq (Sr [Ld 17 2 3,Cl 18 11 [(.tmp 17)]] (Cd 18 (Sr [Ld 19 2 3,Cl 20 29 [(.tmp 19)],Sv 2 4 20,Mb 5 false,Mc 6 0] .ret) .skip)) (Sr [Ld 21 2 3,Cl 22 29 [(.tmp 21)],Op 8 (.alloc 37 [.nil,(.int .i64 0)]),Sv 2 8 22] (.seq (Sr [Ld 23 10 2,Cl 24 53 [(.tmp 23),(.tmp 8)],Mv 9 24] (Sr [Mv 25 9,Bc 26 .neq 25 0] (Cd 26 (Sr [Ld 27 2 3,Cl 28 29 [(.tmp 27)],Mv 29 9,Sv 2 4 28,Mb 5 false,Mv 6 29] .ret) .skip))) (Sr [Ld 30 2 8,Sv 2 4 30,Mb 5 true,Mc 6 0] .ret))))))
theorem fn31:FnOk Tryz.prog 31 31 [(4,some 2),(5,none),(6,none)] i31:=fnO Tryz.func31 Tryz.call31
def i32:ICode:=(Sr [Op 2 (.mv (.con .nil))] (.seq (Sr [Mv 3 0,Op 4 (.bin .eql .slice (.tmp 3) (.con .nil))] (Cd 4 (Sr [Op 2 (.mv (.con .nil))] .ret) .skip)) (Sr [Op 5 (.rows 3 0 0 [(.int .i64 0)] []),Mv 6 0,Op 7 (.app 3 0 (.tmp 5) (.tmp 6)),Mv 2 7] .ret)))
theorem fn32:FnOk Tryz.prog 32 8 [(2,none)] i32:=fnO Tryz.func32 Tryz.call32
def i34:ICode:=(Sr [Bx 2 62 0,Bx 3 62 1,Mc 4 0] (.seq (.reg [Fa 5 0 1 2,Ld 6 0 5,Fa 7 0 1 3,Ld 8 0 7,Cl 9 57 [(.tmp 6),(.tmp 8)],Fa 10 1 1 2,Ld 11 0 10,Fa 12 1 1 3,Ld 13 0 12,Cl 14 58 [(.tmp 11),(.tmp 13)],Op 15 (.rows 3 0 2 [(.int .i64 0)] [(0,1,(.tmp 9)),(1,1,(.tmp 14))]),Cl 16 56 [(.tmp 15)],Mv 4 16] [0,1,0,4,15,0,32,0,128,511,1023,2047,4095] true) .ret))
theorem fn34:FnOk Tryz.prog 34 17 [(4,none)] i34:=fnO Tryz.func34 Tryz.call34
def qlY:ICode:=(.seq (Sr [Mv 32 7,Mv 33 6,Ln 34 33,Bn 35 .lss 32 34] (Cd 35 .skip (.exit 2))) (.seq (.block 3 (.seq (.reg [Mv 38 1,Mv 39 6,Mv 40 7,Ia 41 2 39 40,Ld 42 2 41,Mv 43 6,Mv 44 7,Bc 45 .sub 44 1,Ia 46 2 43 45,Ld 47 2 46,⟨some 48,.call (.callv (.tmp 38) [(.tmp 42),(.tmp 47)]),none⟩,Nt 49 48] [0,0,0,6,14,0,0,64,224,480,1023,2047] true) (Cd 49 (Sr [Mv 50 0,Mv 51 5,Mv 52 6,Mv 53 7,Ia 54 2 52 53,Ld 55 2 54,Ia 56 2 50 51,Sv 2 56 55] (Rg [Mv 57 5,Bc 58 .add 57 1,Mv 5 58])) .skip))) (Rg [Mv 36 7,Bc 37 .add 36 1,Mv 7 37])))
def qlX:ICode:=(.seq (Sr [Mv 12 5,Mv 13 0,Ln 14 13,Bn 15 .lss 12 14] (Cd 15 .skip (.exit 0))) (.seq (.block 1 (.seq (.reg [Mv 18 1,Mv 19 0,Mv 20 5,Ia 21 2 19 20,Ld 22 2 21,Mv 23 0,Mv 24 5,Bc 25 .sub 24 1,Ia 26 2 23 25,Ld 27 2 26,⟨some 28,.call (.callv (.tmp 18) [(.tmp 22),(.tmp 27)]),none⟩] [0,0,0,6,14,0,0,64,224,480,1023] true) (Cd 28 (Sr [Mv 29 0,Mv 30 5,Op 31 (.slice 2 (.tmp 29) (some (.tmp 30)) none),Mv 6 31] (.seq (Sr [Mc 7 1] (.block 2 (.loop qlY))) (Sr [Mv 59 0,Mv 60 5,Op 61 (.slice 2 (.tmp 59) (some (.tmp 60)) none),St (.clear 2 [(.int .i64 0),.nil] (.tmp 61))] (Sr [Mv 62 0,Mv 63 5,Op 64 (.slice 2 (.tmp 62) none (some (.tmp 63))),Mv 4 64] .ret)))) .skip))) (Rg [Mv 16 5,Bc 17 .add 16 1,Mv 5 17])))
def i35:ICode:=(Sr [Op 4 (.mv (.con .nil))] (.seq (Sr [Mv 8 0,Ln 9 8,Bc 10 .lss 9 2] (Cd 10 (Sr [Mv 11 0,Mv 4 11] .ret) .skip)) (.seq (Sr [Mc 5 1] (.block 0 (.loop qlX))) (Sr [Mv 65 0,Mv 4 65] .ret))))
theorem fn35:FnOk Tryz.prog 35 66 [(4,none)] i35:=fnO Tryz.func35 Tryz.call35
def i36:ICode:=(Sr [Bx 2 62 0,Bx 3 62 1,Mb 4 false] (Sr [Ld 5 2 2,Ld 6 2 3,Cl 7 34 [(.tmp 5),(.tmp 6)],Bc 8 .eql 7 0,Mv 4 8] .ret))
theorem fn36:FnOk Tryz.prog 36 9 [(4,none)] i36:=fnO Tryz.func36 Tryz.call36
def i37:ICode:=(Sr [Mb 4 false] (Sr [Mv 5 0,Cl 6 59 [(.tmp 5)],Mv 7 6,Gm 8 1 7 true,Cg 9 59 [(.tmp 8)] 7 true,Op 10 (.pick (.tmp 7) (.tmp 9) (.con (.bool false))),Mv 11 10,Gm 12 0 11 true,Gd 13 (.len (.tmp 12)) 11 true,Gm 14 1 11 true,Gd 15 (.len (.tmp 14)) 11 true,Gd 16 (.bin .eql .none (.tmp 13) (.tmp 15)) 11 true,Op 17 (.pick (.tmp 11) (.tmp 16) (.con (.bool false))),Mv 18 17,Gm 19 0 18 true,Gm 20 1 18 true,Cg 21 60 [(.tmp 19),(.tmp 20)] 18 true,Op 22 (.pick (.tmp 18) (.tmp 21) (.con (.bool false))),Mv 4 22] .ret))
theorem fn37:FnOk Tryz.prog 37 23 [(4,none)] i37:=fnO Tryz.func37 Tryz.call37
def qfH:ICode:=(.seq (Sr [Mv 38 11,Mv 39 9,Ln 40 39,Bn 41 .lss 38 40] (Cd 41 .skip (.exit 2))) (.seq (.block 3 (Rg [Mv 44 7,Mv 45 8,Mv 46 9,Mv 47 11,Ia 48 2 46 47,Ld 49 2 48,Op 50 (.build [(.int .i64 0),(.int .i64 0),.nil] [(0,1,(.tmp 45)),(1,2,(.tmp 49))]),Op 51 (.rows 50 3 1 [(.int .i64 0),(.int .i64 0),.nil] [(0,3,(.tmp 50))]),Op 52 (.app 50 3 (.tmp 44) (.tmp 51)),Mv 7 52])) (Rg [Mv 42 11,Bc 43 .add 42 1,Mv 11 43])))
def qef:ICode:=(.seq (Sr [Mv 21 8,Fa 22 7 1 2,Ld 23 0 22,Ln 24 23,Bn 25 .lss 21 24] (Cd 25 .skip (.exit 0))) (.seq (.block 1 (Sr [Ld 29 10 2,Mv 30 8,Ld 31 2 3,Cl 32 18 [(.tmp 29),(.tmp 30),(.tmp 31)],Mv 28 32,Ex 33 28 0,Ex 34 28 1,Mv 9 33,Mv 10 34] (.seq (Sr [Mv 35 10,Bc 36 .neq 35 0] (Cd 36 (Sr [Mv 37 10,Op 4 (.mv (.con .nil)),Mv 5 37] .ret) .skip)) (Sr [Mc 11 0] (.block 2 (.loop qfH)))))) (Rg [Mv 26 8,Bc 27 .add 26 1,Mv 8 27])))
def i38:ICode:=(Sr [Bx 2 33 0,Bx 3 31 1,Op 4 (.mv (.con .nil)),Mc 5 0] (.seq (Sr [Ld 12 10 2,Cl 13 43 [(.tmp 12)],Mv 6 13] (Sr [Mv 14 6,Bc 15 .neq 14 0] (Cd 15 (Sr [Mv 16 6,Op 4 (.mv (.con .nil)),Mv 5 16] .ret) .skip))) (.seq (Sr [Ld 17 10 2,Ld 18 2 3,Cl 19 44 [(.tmp 17),(.tmp 18)],Nt 20 19] (Cd 20 (Sr [Op 4 (.mv (.con .nil)),Mc 5 17] .ret) .skip)) (Sr [Op 7 (.mv (.con .nil))] (.seq (Sr [Op 8 (.mv (.con (.int .i64 (-1))))] (.block 0 (.loop qef))) (.seq (Sr [Mv 53 7,Ln 54 53,Bc 55 .gtr 54 256] (Cd 55 (Sr [Op 4 (.mv (.con .nil)),Mc 5 1] .ret) .skip)) (Sr [Mv 56 7,Mv 4 56,Mc 5 0] .ret)))))))
theorem fn38:FnOk Tryz.prog 38 57 [(4,none),(5,none)] i38:=fnO Tryz.func38 Tryz.call38
def i39:ICode:=(Sr [Mb 4 false] (Sr [Mv 5 0,Mv 6 1,Cl 7 61 [(.tmp 5),(.tmp 6)],Bc 8 .geq 7 0,Mv 4 8] .ret))
theorem fn39:FnOk Tryz.prog 39 9 [(4,none)] i39:=fnO Tryz.func39 Tryz.call39
def i40:ICode:=(Sr [Bx 3 62 0,Mb 4 false] (Sr [Fa 5 0 1 3,Ld 6 0 5,Ld 7 0 1,Bn 8 .eql 6 7,Mv 9 8,Gd 10 (.load 0 (.tmp 2)) 9 true,Gd 11 (.faddr 1 1 (.tmp 3)) 9 true,Gd 12 (.load 0 (.tmp 11)) 9 true,Cg 13 37 [(.tmp 10),(.tmp 12)] 9 true,Op 14 (.pick (.tmp 9) (.tmp 13) (.con (.bool false))),Mv 4 14] .ret))
theorem fn40:FnOk Tryz.prog 40 15 [(4,none)] i40:=fnO Tryz.func40 Tryz.call40
def qlZ:ICode:=(.seq (Sr [Mv 4 3,Mv 5 0,Ln 6 5,Bn 7 .lss 4 6] (Cd 7 .skip (.exit 0))) (.seq (.block 1 (Sr [Mv 10 0,Mv 11 3,Ia 12 0 10 11,Ld 13 0 12,Cl 14 62 [(.tmp 13)],Nt 15 14] (Cd 15 (Sr [Mb 2 false] .ret) .skip))) (Rg [Mv 8 3,Bc 9 .add 8 1,Mv 3 9])))
def i41:ICode:=(Sr [Mb 2 false] (.seq (Sr [Mc 3 0] (.block 0 (.loop qlZ))) (Sr [Mv 16 0,Ln 17 16,Bc 18 .leq 17 6,Mv 2 18] .ret)))
theorem fn41:FnOk Tryz.prog 41 19 [(2,none)] i41:=fnO Tryz.func41 Tryz.call41
def qhI:ICode:=(.seq (Sr [Mv 7 2,Mv 8 3,Bn 9 .lss 7 8] (Cd 9 .skip (.exit 0))) (.seq (.block 1 (.reg [Mv 14 0,Mv 15 2,Mv 16 0,Mv 17 3,Mv 18 0,Mv 19 3,Ia 20 0 18 19,Ld 21 0 20,Mv 22 0,Mv 23 2,Ia 24 0 22 23,Ld 25 0 24,Ia 26 0 14 15,Sv 0 26 21,Ia 27 0 16 17,Sv 0 27 25] [0,0,0,0,0,0,48,112,0,0,768,1792,4083,8179,16383,32767] true)) (Rg [Mv 10 2,Bc 11 .add 10 1,Mv 12 3,Bc 13 .sub 12 1,Mv 2 11,Mv 3 13])))
def i42:ICode:=(Sr [Mv 4 0,Ln 5 4,Bc 6 .sub 5 1,Mc 2 0,Mv 3 6] (.block 0 (.loop qhI)))
theorem fn42:FnOk Tryz.prog 42 28 [] i42:=fnO Tryz.func42 Tryz.call42
def i43:ICode:=(Sr [Bx 1 33 0,Mc 2 0] (.seq (Sr [Ld 4 10 1,Cl 5 63 [(.tmp 4)],Mv 3 5] (Sr [Mv 6 3,Bc 7 .neq 6 0] (Cd 7 (Sr [Mv 8 3,Mv 2 8] .ret) .skip))) (.seq (Sr [Fa 9 0 1 1,Ld 10 0 9,Bc 11 .eql 10 6] (Cd 11 (Sr [Mc 2 15] .ret) .skip)) (Sr [Mc 2 0] .ret))))
theorem fn43:FnOk Tryz.prog 43 12 [(2,none)] i43:=fnO Tryz.func43 Tryz.call43
def i44:ICode:=(Sr [Bx 2 33 0,Bx 3 31 1,Mb 4 false] (.seq (.reg [Ld 5 10 2,Cl 6 63 [(.tmp 5)],Bc 7 .eql 6 0,Mv 8 7,Gd 9 (.load 10 (.tmp 2)) 8 true,Cg 10 65 [(.tmp 9)] 8 true,Gd 11 (.load 2 (.tmp 3)) 8 true,Cg 12 64 [(.tmp 10),(.tmp 11)] 8 true,Op 13 (.pick (.tmp 8) (.tmp 12) (.con (.bool false))),Mv 4 13] [0,1,3,7,15,31,15,127,255,511] true) .ret))
theorem fn44:FnOk Tryz.prog 44 14 [(4,none)] i44:=fnO Tryz.func44 Tryz.call44
def i45:ICode:=(Sr [Bx 2 33 0,Bx 3 31 1,Op 4 (.mv (.con .nil)),Mc 5 0] (.seq (Sr [Ld 9 10 2,Cl 10 43 [(.tmp 9)],Mv 6 10] (Sr [Mv 11 6,Bc 12 .neq 11 0] (Cd 12 (Sr [Mv 13 6,Op 4 (.mv (.con .nil)),Mv 5 13] .ret) .skip))) (.seq (Sr [Ld 14 10 2,Ld 15 2 3,Cl 16 44 [(.tmp 14),(.tmp 15)],Nt 17 16] (Cd 17 (Sr [Op 4 (.mv (.con .nil)),Mc 5 17] .ret) .skip)) (.seq (Sr [Fa 18 0 1 2,Ld 19 0 18] (.block 0 (.seq (Sr [Bc 21 .eql 19 2,Mv 20 21] (Cd 20 .skip (Rg [Bc 22 .eql 19 3,Mv 20 22]))) (Cd 20 (Sr [Ld 23 10 2,Ld 24 2 3,Cl 25 66 [(.tmp 23),(.tmp 24)],Ex 26 25 0,Ex 27 25 1,Mv 4 26,Mv 5 27] .ret) (Sr [Bc 29 .eql 19 5,Mv 28 29] (Cd 28 (Sr [Ld 31 10 2,Ld 32 2 3,Cl 33 67 [(.tmp 31),(.tmp 32)],Mv 30 33,Ex 34 30 0,Ex 35 30 1,Op 7 (.alloc 31 [(.int .i64 0),.nil]),Sv 2 7 34,Mv 8 35] (Sr [Ld 36 2 7,Op 37 (.rows 31 2 1 [(.int .i64 0),.nil] [(0,2,(.tmp 36))]),Mv 4 37,Mc 5 0] .ret)) .skip)))))) (Sr [Op 4 (.mv (.con .nil)),Mc 5 0] .ret)))))
theorem fn45:FnOk Tryz.prog 45 38 [(4,none),(5,none)] i45:=fnO Tryz.func45 Tryz.call45
def ql0:ICode:=(.seq (Sr [Mv 39 12,Mv 40 11,Ln 41 40,Bn 42 .lss 39 41] (Cd 42 .skip (.exit 0))) (.seq (.block 1 (Sr [Mv 45 12,Mv 13 45] (.seq (Sr [Fa 46 5 1 10,Ld 47 0 46,Ln 48 47,Bc 49 .gtr 48 0] (Cd 49 (Rg [Fa 50 5 1 10,Ld 51 0 50,Mv 52 12,Ia 53 0 51 52,Ld 54 0 53,Mv 13 54]) .skip)) (Sr [Mv 55 13,Bc 56 .geq 55 0] (Cd 56 (.reg [Mv 57 11,Mv 58 13,Ia 59 0 57 58,Ld 60 0 59,Fa 61 1 1 5,Ld 62 0 61,Mv 63 12,Op 64 (.bin .add .none (ci 1) (.tmp 63)),Ia 65 2 62 64,Fa 66 0 1 65,Ld 67 0 66,Fa 68 3 1 10,Ld 69 0 68,Mv 70 12,Ia 71 0 69 70,Ld 72 0 71,Bn 73 .sub 67 72,Bn 74 .add 60 73,Ia 75 0 57 58,Sv 0 75 74] [0,0,3,7,0,16,0,64,240,496,1008,0,2048,0,14336,30720,65520,131071,262143,524287] true) .skip))))) (Rg [Mv 43 12,Bc 44 .add 43 1,Mv 12 44])))
def qjE:ICode:=(.seq (Sr [Mv 81 15,Mv 82 11,Ln 83 82,Bn 84 .lss 81 83] (Cd 84 .skip (.exit 2))) (.seq (.block 3 (.seq (.seq (.reg [Mv 87 11,Mv 88 15,Ia 89 0 87 88,Ld 90 0 89,Fa 91 4 1 10,Ld 92 0 91,Mv 93 15,Ia 94 0 92 93,Ld 95 0 94,Bn 96 .add 90 95,Bc 97 .gtr 96 1048576] [0,0,3,7,0,16,0,112,240,511,1023] true) (Cd 97 (Sr [Op 98 (.build [(.int .i64 0),.nil] []),Sv 2 6 98,Mc 7 1] .ret) .skip)) (.reg [Fa 99 1 1 14,Ld 100 0 99,Mv 101 11,Mv 102 15,Ia 103 0 101 102,Ld 104 0 103,Fa 105 4 1 10,Ld 106 0 105,Mv 107 15,Ia 108 0 106 107,Ld 109 0 108,Bn 110 .add 104 109,Op 111 (.build [(.int .i64 0),.nil] [(0,1,(.tmp 110))]),Op 112 (.rows 31 2 1 [(.int .i64 0),.nil] [(0,2,(.tmp 111))]),Op 113 (.app 31 2 (.tmp 100) (.tmp 112)),Fa 114 1 1 14,Sv 0 114 113] [0,1,0,0,12,28,0,64,0,448,960,2044,4092,8188,16383,32767,65535] true))) (Rg [Mv 85 15,Bc 86 .add 85 1,Mv 15 86])))
def i48:ICode:=(Sr [Bx 3 33 0,Bx 5 31 2,Op 6 (.alloc 31 [(.int .i64 0),.nil]),Mc 7 0] (Sr [Ld 17 10 3,Mv 18 1,Ld 19 2 5,Cl 20 76 [(.tmp 17),(.tmp 18),(.tmp 19)],Mv 16 20,Ex 21 16 0,Ex 22 16 1,Mv 8 21,Mv 9 22] (.seq (Sr [Mv 23 9,Bc 24 .neq 23 0] (Cd 24 (Sr [Op 25 (.build [(.int .i64 0),.nil] []),Mv 26 9,Sv 2 6 25,Mv 7 26] .ret) .skip)) (.seq (Sr [Mv 27 8,Nt 28 27] (Cd 28 (Sr [Op 29 (.build [(.int .i64 0),.nil] []),Sv 2 6 29,Mc 7 18] .ret) .skip)) (Sr [Fa 30 7 1 3,Ld 31 0 30,Mv 32 1,Ia 33 14 31 32,Ld 34 14 33,⟨some 10,.op (.alloc 66 [(.str ⟨#[]⟩),(.int .i64 0),(.int .i64 0),.nil,.nil,.nil,(.int .i64 0),(.int .i64 0),(.int .i64 0),.nil,.nil,.nil,.nil,(.int .i64 0)]),none⟩,Sv 14 10 34] (Sr [Fa 35 3 1 10,Ld 36 0 35,Ln 37 36,Op 38 (.mks 3 0 [(.int .i64 0)] (.tmp 37) (.tmp 37)),Mv 11 38] (.seq (Sr [Mc 12 0] (.block 0 (.loop ql0))) (Sr [Fa 76 2 1 10,Ld 77 0 76,Op 78 (.build [(.int .i64 0),.nil] [(0,1,(.tmp 77))]),Op 79 (.rows 31 2 1 [(.int .i64 0),.nil] [(0,2,(.tmp 78))]),Op 80 (.build [(.int .i64 0),.nil] [(1,1,(.tmp 79))]),Op 14 (.alloc 31 [(.int .i64 0),.nil]),Sv 2 14 80] (.seq (Sr [Mc 15 0] (.block 2 (.loop qjE))) (Sr [Ld 115 2 14,Sv 2 6 115,Mc 7 0] .ret))))))))))
theorem fn48:FnOk Tryz.prog 48 116 [(6,some 2),(7,none)] i48:=fnO Tryz.func48 Tryz.call48
def i50:ICode:=(Sr [Mc 4 0] (.seq (Sr [Mv 5 0,Mv 6 1,Bn 7 .lss 5 6] (Cd 7 (Sr [Op 4 (.mv (.con (.int .i64 (-1))))] .ret) .skip)) (.seq (Sr [Mv 8 0,Mv 9 1,Bn 10 .gtr 8 9] (Cd 10 (Sr [Mc 4 1] .ret) .skip)) (Sr [Mc 4 0] .ret))))
theorem fn50:FnOk Tryz.prog 50 11 [(4,none)] i50:=fnO Tryz.func50 Tryz.call50
def i51:ICode:=(Sr [Bx 1 33 0,Mc 2 0] (.seq (.block 0 (Sr [Fa 4 0 1 1,Ld 5 0 4,Cl 6 79 [(.tmp 5),(ci 1),(ci 6)],Nt 7 6,Mv 3 7] (Cd 3 (Sr [Mc 2 15] .ret) (Sr [Ld 9 10 1,Cl 10 80 [(.tmp 9)],Nt 11 10,Mv 8 11] (Cd 8 (Sr [Mc 2 1] .ret) (Sr [Ld 13 10 1,Cl 14 81 [(.tmp 13)],Nt 15 14,Mv 12 15] (Cd 12 (Sr [Mc 2 14] .ret) (Sr [Ld 17 10 1,Cl 18 82 [(.tmp 17)],Nt 19 18,Mv 16 19] (Cd 16 (Sr [Mc 2 13] .ret) (Sr [Fa 21 7 1 1,Ld 22 0 21,Op 23 (.mkfn 84 [(.tmp 1)]),Cl 24 83 [(.tmp 22),(.tmp 23)],Mv 20 24] (Cd 20 (Sr [Mc 2 16] .ret) (Sr [Ld 26 10 1,Cl 27 86 [(.tmp 26)],Nt 28 27,Mv 25 28] (Cd 25 (Sr [Mc 2 17] .ret) .skip))))))))))))) (Sr [Mc 2 0] .ret)))
theorem fn51:FnOk Tryz.prog 51 29 [(2,none)] i51:=fnO Tryz.func51 Tryz.call51
def i52:ICode:=(Sr [Bx 1 33 0,Mb 2 false] (Sr [Fa 3 0 1 1,Ld 4 0 3,Bc 5 .eql 4 1,Mv 6 5,Gd 7 (.faddr 7 1 (.tmp 1)) 6 true,Gd 8 (.load 0 (.tmp 7)) 6 true,Cg 9 83 [(.tmp 8),(.fnc 87)] 6 true,Gd 10 (.un .not (.tmp 9)) 6 true,Op 11 (.pick (.tmp 6) (.tmp 10) (.con (.bool false))),Mv 2 11] .ret))
theorem fn52:FnOk Tryz.prog 52 12 [(2,none)] i52:=fnO Tryz.func52 Tryz.call52
def ql1:ICode:=(Sr [Bn 9 .lss 8 7] (.seq (Cd 9 .skip (.exit 0)) (.seq (.block 1 (Sr [Ia 10 0 6 8,Ld 11 0 10,Mv 5 11] (Sr [Mv 12 5,Mv 13 3,Bn 14 .neq 12 13] (Cd 14 (Sr [Mv 15 5,Mv 2 15] .ret) .skip)))) (Rg [Bc 16 .add 8 1,Mv 8 16]))))
def i56:ICode:=(Sr [Mc 2 0] (Sr [Mc 3 0] (.seq (Sr [Mv 6 0,Ln 7 6,Mc 8 0] (.block 0 (.loop ql1))) (Sr [Mv 17 3,Mv 2 17] .ret))))
theorem fn56:FnOk Tryz.prog 56 18 [(2,none)] i56:=fnO Tryz.func56 Tryz.call56
def i57:ICode:=(Sr [Mc 4 0] (Sr [Mv 7 0,Cl 8 103 [(.tmp 7)],Mv 5 8] (Sr [Mv 9 1,Cl 10 103 [(.tmp 9)],Mv 6 10] (.seq (Sr [Mv 11 5] (Cd 11 (.seq (Sr [Mv 12 6] (Cd 12 (Sr [Mc 4 0] .ret) .skip)) (Sr [Op 4 (.mv (.con (.int .i64 (-1))))] .ret)) .skip)) (.seq (Sr [Mv 13 6] (Cd 13 (Sr [Mc 4 1] .ret) .skip)) (.seq (Sr [Mv 14 0,Mv 15 1,Bn 16 .lss 14 15] (Cd 16 (Sr [Op 4 (.mv (.con (.int .i64 (-1))))] .ret) .skip)) (.seq (Sr [Mv 17 0,Mv 18 1,Bn 19 .gtr 17 18] (Cd 19 (Sr [Mc 4 1] .ret) .skip)) (Sr [Mc 4 0] .ret))))))))
theorem fn57:FnOk Tryz.prog 57 20 [(4,none)] i57:=fnO Tryz.func57 Tryz.call57
def i58:ICode:=(Sr [Mc 4 0] (Sr [Mv 5 0,Ln 6 5,Mv 7 1,Ln 8 7,Cl 9 57 [(.tmp 6),(.tmp 8)],Mv 10 0,Mv 11 1,Cl 12 104 [(.tmp 10),(.tmp 11)],Op 13 (.rows 3 0 2 [(.int .i64 0)] [(0,1,(.tmp 9)),(1,1,(.tmp 12))]),Cl 14 56 [(.tmp 13)],Mv 4 14] .ret))
theorem fn58:FnOk Tryz.prog 58 15 [(4,none)] i58:=fnO Tryz.func58 Tryz.call58
def i59:ICode:=(Sr [Mb 2 false] (Sr [Mv 3 0,Ln 4 3,Bc 5 .leq 4 6,Mv 6 5,Gm 7 0 6 true,Cg 8 105 [(.tmp 7),(.fnc 106)] 6 true,Gd 9 (.un .not (.tmp 8)) 6 true,Op 10 (.pick (.tmp 6) (.tmp 9) (.con (.bool false))),Mv 2 10] .ret))
theorem fn59:FnOk Tryz.prog 59 11 [(2,none)] i59:=fnO Tryz.func59 Tryz.call59
def ql2:ICode:=(Sr [Bn 10 .lss 9 8] (.seq (Cd 10 .skip (.exit 0)) (.seq (.block 1 (Sr [Mv 11 9,Ia 12 0 7 9,Ld 13 0 12,Mv 5 11,Mv 6 13] (Sr [Mv 14 6,Mv 15 1,Mv 16 5,Ia 17 0 15 16,Ld 18 0 17,Bn 19 .gtr 14 18] (Cd 19 (Sr [Mb 4 false] .ret) .skip)))) (Rg [Bc 20 .add 9 1,Mv 9 20]))))
def i60:ICode:=(Sr [Mb 4 false] (.seq (Sr [Mv 7 0,Ln 8 7,Mc 9 0] (.block 0 (.loop ql2))) (Sr [Mb 4 true] .ret)))
theorem fn60:FnOk Tryz.prog 60 21 [(4,none)] i60:=fnO Tryz.func60 Tryz.call60
def qjF:ICode:=(Sr [Bn 9 .lss 8 7] (.seq (Cd 9 .skip (.exit 0)) (.seq (.block 1 (Sr [Mv 10 8,Mv 5 10] (Sr [Mv 11 1,Mv 12 0,Mv 13 5,Ia 14 2 12 13,Ld 15 2 14,⟨some 16,.call (.callv (.tmp 11) [(.tmp 15)]),none⟩] (Cd 16 (Sr [Mv 17 5,Mv 4 17] .ret) .skip)))) (Rg [Bc 18 .add 8 1,Mv 8 18]))))
def i61:ICode:=(Sr [Mc 4 0] (.seq (Sr [Mv 6 0,Ln 7 6,Mc 8 0] (.block 0 (.loop qjF))) (Sr [Op 4 (.mv (.con (.int .i64 (-1))))] .ret)))
theorem fn61:FnOk Tryz.prog 61 19 [(4,none)] i61:=fnO Tryz.func61 Tryz.call61
def i62:ICode:=(Sr [Mb 2 false] (Sr [Mv 3 0,Bc 4 .geq 3 0,Mv 5 4,Gm 6 0 5 true,Gd 7 (.bin .leq .none (.tmp 6) (ci 1048576)) 5 true,Op 8 (.pick (.tmp 5) (.tmp 7) (.con (.bool false))),Mv 9 8,Gm 10 0 9 false,Gd 11 (.bin .eql .none (.tmp 10) (ci 1099511627776)) 9 false,Op 12 (.pick (.tmp 9) (.con (.bool true)) (.tmp 11)),Mv 2 12] .ret))
theorem fn62:FnOk Tryz.prog 62 13 [(2,none)] i62:=fnO Tryz.func62 Tryz.call62
def ql3:ICode:=(.seq (Sr [Mv 17 3,Fa 18 7 1 1,Ld 19 0 18,Ln 20 19,Bn 21 .lss 17 20] (Cd 21 .skip (.exit 0))) (.seq (.block 1 (.seq (.reg [Ld 24 10 1,Fa 25 7 1 1,Ld 26 0 25,Mv 27 3,Ia 28 14 26 27,Ld 29 14 28,Cl 30 112 [(.tmp 24),(.tmp 29)],Nt 31 30] [0,0,2,0,14,30,63,127] true) (Cd 31 (Sr [Mc 2 16] .ret) .skip))) (Rg [Mv 22 3,Bc 23 .add 22 1,Mv 3 23])))
def i63:ICode:=(Sr [Bx 1 33 0,Mc 2 0] (.seq (Sr [Fa 4 0 1 1,Ld 5 0 4,Cl 6 108 [(.tmp 5),(ci 1),(ci 6)],Nt 7 6] (Cd 7 (Sr [Mc 2 15] .ret) .skip)) (.seq (Sr [Ld 8 10 1,Cl 9 109 [(.tmp 8)],Nt 10 9] (Cd 10 (Sr [Mc 2 1] .ret) .skip)) (.seq (Sr [Ld 11 10 1,Cl 12 110 [(.tmp 11)],Nt 13 12] (Cd 13 (Sr [Mc 2 14] .ret) .skip)) (.seq (Sr [Ld 14 10 1,Cl 15 111 [(.tmp 14)],Nt 16 15] (Cd 16 (Sr [Mc 2 13] .ret) .skip)) (.seq (Sr [Mc 3 0] (.block 0 (.loop ql3))) (.seq (Sr [Fa 32 0 1 1,Ld 33 0 32,Bc 34 .eql 33 6] (Cd 34 (.seq (Sr [Fa 35 8 2 1,Fa 36 0 1 35,Ld 37 0 36,Bc 38 .neq 37 0,Mv 39 38,Gd 40 (.faddr 8 2 (.tmp 1)) 39 false,Gd 41 (.faddr 1 1 (.tmp 40)) 39 false,Gd 42 (.load 0 (.tmp 41)) 39 false,Gd 43 (.len (.tmp 42)) 39 false,Gd 44 (.bin .gtr .none (.tmp 43) (ci 0)) 39 false,Op 45 (.pick (.tmp 39) (.con (.bool true)) (.tmp 44))] (Cd 45 (Sr [Mc 2 17] .ret) .skip)) (Sr [Mc 2 0] .ret)) .skip)) (.seq (.seq (.reg [Ld 46 10 1,Cl 47 65 [(.tmp 46)],Fa 48 8 2 1,Ld 49 2 48,Cl 50 64 [(.tmp 47),(.tmp 49)],Nt 51 50] [0,1,0,4,15,31] true) (Cd 51 (Sr [Mc 2 17] .ret) .skip)) (Sr [Mc 2 0] .ret)))))))))
theorem fn63:FnOk Tryz.prog 63 52 [(2,none)] i63:=fnO Tryz.func63 Tryz.call63
def i64:ICode:=(Sr [Bx 2 107 0,Bx 3 31 1,Mb 4 false] (Sr [Ld 5 4 2,Cl 6 113 [(.tmp 5)],Bc 7 .eql 6 0,Mv 8 7,Gd 9 (.load 2 (.tmp 3)) 8 true,Cg 10 114 [(.tmp 9),(ci 128)] 8 true,Gd 11 (.bin .leq .none (.tmp 10) (ci 128)) 8 true,Op 12 (.pick (.tmp 8) (.tmp 11) (.con (.bool false))),Mv 13 12,Gd 14 (.load 4 (.tmp 2)) 13 true,Gd 15 (.load 2 (.tmp 3)) 13 true,Cg 16 115 [(.tmp 14),(.tmp 15)] 13 true,Op 17 (.pick (.tmp 13) (.tmp 16) (.con (.bool false))),Mv 4 17] .ret))
theorem fn64:FnOk Tryz.prog 64 18 [(4,none)] i64:=fnO Tryz.func64 Tryz.call64
def ql4:ICode:=(.seq (Sr [Mv 55 6,Fa 56 5 1 1,Ld 57 0 56,Bn 58 .lss 55 57] (Cd 58 .skip (.exit 3))) (.seq (.block 4 (Rg [Ld 61 4 4,Ld 62 4 5,Op 63 (.rows 107 4 1 [(.int .i64 0),(.int .i64 0),.nil,.nil] [(0,4,(.tmp 62))]),Op 64 (.build [(.int .i64 0),(.int .i64 0),.nil,.nil] [(0,1,(ci 5)),(3,1,(.tmp 63))]),Op 65 (.rows 107 4 2 [(.int .i64 0),(.int .i64 0),.nil,.nil] [(0,4,(.tmp 61)),(4,4,(.tmp 64))]),Op 66 (.build [(.int .i64 0),(.int .i64 0),.nil,.nil] [(0,1,(ci 3)),(3,1,(.tmp 65))]),Sv 4 5 66])) (Rg [Mv 59 6,Bc 60 .add 59 1,Mv 6 60])))
def qeg:ICode:=(.seq (Sr [Mv 22 8,Fa 23 2 1 1,Ld 24 0 23,Ln 25 24,Bn 26 .lss 22 25] (Cd 26 .skip (.exit 1))) (.seq (.block 2 (Sr [Op 29 (.build [(.int .i64 0),(.int .i64 0),.nil,.nil] [(0,1,(ci 1))]),Op 9 (.alloc 107 [(.int .i64 0),(.int .i64 0),.nil,.nil]),Sv 4 9 29] (.seq (Sr [Fa 30 0 1 1,Ld 31 0 30,Bc 32 .eql 31 2] (Cd 32 (Rg [Ld 33 4 4,Op 34 (.rows 107 4 1 [(.int .i64 0),(.int .i64 0),.nil,.nil] [(0,4,(.tmp 33))]),Op 35 (.build [(.int .i64 0),(.int .i64 0),.nil,.nil] [(0,1,(ci 4)),(3,1,(.tmp 34))]),Sv 4 9 35]) .skip)) (.seq (Sr [Fa 36 0 1 1,Ld 37 0 36,Bc 38 .eql 37 3] (Cd 38 (.reg [Fa 39 3 1 1,Ld 40 0 39,Ln 41 40,Fa 42 4 1 1,Ld 43 0 42,Cl 44 116 [(.tmp 43)],Op 45 (.build [(.int .i64 0),(.int .i64 0),.nil,.nil] [(0,1,(ci 7)),(1,1,(.tmp 41)),(2,1,(.tmp 44))]),Sv 4 9 45] [0,1,3,0,8,24,63,127] true) .skip)) (Rg [Fa 46 3 1 3,Ld 47 0 46,Ld 48 4 9,Op 49 (.rows 107 4 1 [(.int .i64 0),(.int .i64 0),.nil,.nil] [(0,4,(.tmp 48))]),Op 50 (.app 107 4 (.tmp 47) (.tmp 49)),Fa 51 3 1 3,Sv 0 51 50]))))) (Rg [Mv 27 8,Bc 28 .add 27 1,Mv 8 28])))
def i65:ICode:=(Sr [Bx 1 33 0,Op 2 (.alloc 107 [(.int .i64 0),(.int .i64 0),.nil,.nil])] (Sr [Fa 10 1 1 1,Ld 11 0 10,Ln 12 11,Op 13 (.build [(.int .i64 0),(.int .i64 0),.nil,.nil] [(0,1,(ci 2)),(1,1,(.tmp 12))]),Op 14 (.rows 107 4 1 [(.int .i64 0),(.int .i64 0),.nil,.nil] [(0,4,(.tmp 13))]),Op 15 (.build [(.int .i64 0),(.int .i64 0),.nil,.nil] [(0,1,(ci 3)),(3,1,(.tmp 14))]),Op 3 (.alloc 107 [(.int .i64 0),(.int .i64 0),.nil,.nil]),Sv 4 3 15] (Sr [Fa 16 3 1 1,Ld 17 0 16,Ln 18 17,Op 19 (.build [(.int .i64 0),(.int .i64 0),.nil,.nil] [(0,1,(ci 2)),(1,1,(.tmp 18))]),Op 4 (.alloc 107 [(.int .i64 0),(.int .i64 0),.nil,.nil]),Sv 4 4 19] (.seq (Sr [Fa 20 0 1 1,Ld 21 0 20] (.block 0 (Sr [Bc 53 .eql 21 4,Mv 52 53] (Cd 52 (Sr [Ld 54 4 4,Op 5 (.alloc 107 [(.int .i64 0),(.int .i64 0),.nil,.nil]),Sv 4 5 54] (.seq (Sr [Mc 6 1] (.block 3 (.loop ql4))) (Rg [Fa 67 3 1 3,Ld 68 0 67,Ld 69 4 5,Op 70 (.rows 107 4 1 [(.int .i64 0),(.int .i64 0),.nil,.nil] [(0,4,(.tmp 69))]),Op 71 (.build [(.int .i64 0),(.int .i64 0),.nil,.nil] [(0,1,(ci 5)),(3,1,(.tmp 70))]),Op 72 (.rows 107 4 1 [(.int .i64 0),(.int .i64 0),.nil,.nil] [(0,4,(.tmp 71))]),Op 73 (.app 107 4 (.tmp 68) (.tmp 72)),Fa 74 3 1 3,Sv 0 74 73]))) (Sr [Bc 76 .eql 21 5,Mv 75 76] (Cd 75 (Sr [Fa 77 2 1 1,Ld 78 0 77,Ln 79 78,Op 80 (.build [(.int .i64 0),(.int .i64 0),.nil,.nil] [(0,1,(ci 2)),(1,1,(.tmp 79))]),Fa 81 6 1 1,Ld 82 0 81,Bc 83 .add 82 2,Op 84 (.build [(.int .i64 0),(.int .i64 0),.nil,.nil] [(0,1,(ci 2)),(1,1,(.tmp 83))]),Op 85 (.rows 107 4 2 [(.int .i64 0),(.int .i64 0),.nil,.nil] [(0,4,(.tmp 80)),(4,4,(.tmp 84))]),Op 86 (.build [(.int .i64 0),(.int .i64 0),.nil,.nil] [(0,1,(ci 3)),(3,1,(.tmp 85))]),Op 7 (.alloc 107 [(.int .i64 0),(.int .i64 0),.nil,.nil]),Sv 4 7 86] (Rg [Fa 87 3 1 3,Ld 88 0 87,Ld 89 4 7,Op 90 (.rows 107 4 1 [(.int .i64 0),(.int .i64 0),.nil,.nil] [(0,4,(.tmp 89))]),Op 91 (.build [(.int .i64 0),(.int .i64 0),.nil,.nil] [(0,1,(ci 5)),(3,1,(.tmp 90))]),Op 92 (.rows 107 4 1 [(.int .i64 0),(.int .i64 0),.nil,.nil] [(0,4,(.tmp 91))]),Op 93 (.app 107 4 (.tmp 88) (.tmp 92)),Fa 94 3 1 3,Sv 0 94 93])) (Sr [Mc 8 0] (.block 1 (.loop qeg))))))))) (Sr [Ld 95 4 3,Sv 4 2 95] .ret)))))
theorem fn65:FnOk Tryz.prog 65 96 [(2,some 4)] i65:=fnO Tryz.func65 Tryz.call65
def i76:ICode:=(Sr [Bx 3 33 0,Bx 5 31 2,Mb 6 false,Mc 7 0] (.seq (Sr [Ld 9 10 3,Mv 10 1,Cl 11 131 [(.tmp 9),(.tmp 10)],Mv 8 11] (Sr [Mv 12 8,Bc 13 .neq 12 0] (Cd 13 (Sr [Mv 14 8,Mb 6 false,Mv 7 14] .ret) .skip))) (.seq (Sr [Ld 15 10 3,Ld 16 2 5,Cl 17 44 [(.tmp 15),(.tmp 16)],Nt 18 17] (Cd 18 (Sr [Mb 6 false,Mc 7 17] .ret) .skip)) (.seq (.reg [Fa 19 7 1 3,Ld 20 0 19,Mv 21 1,Ia 22 14 20 21,Ld 23 14 22,Ld 24 2 5,Cl 25 132 [(.tmp 23),(.tmp 24)],Mv 6 25,Mc 7 0] [0,1,0,7,15,0,63,127,255] true) .ret))))
theorem fn76:FnOk Tryz.prog 76 26 [(6,none),(7,none)] i76:=fnO Tryz.func76 Tryz.call76
def i79:ICode:=(Sr [Mb 6 false] (Sr [Mv 7 0,Mv 8 1,Bn 9 .geq 7 8,Mv 10 9,Gm 11 0 10 true,Gm 12 2 10 true,Gd 13 (.bin .leq .none (.tmp 11) (.tmp 12)) 10 true,Op 14 (.pick (.tmp 10) (.tmp 13) (.con (.bool false))),Mv 6 14] .ret))
theorem fn79:FnOk Tryz.prog 79 15 [(6,none)] i79:=fnO Tryz.func79 Tryz.call79
def i80:ICode:=(Sr [Bx 1 33 0,Mb 2 false] (Sr [Fa 4 0 1 1,Ld 5 0 4,Cl 6 133 [(.tmp 5)],Op 3 (.alloc 166 [(.int .i64 0),(.int .i64 0),(.int .i64 0),(.int .i64 0),(.int .i64 0),(.int .i64 0),(.int .i64 0),(.int .i64 0)]),Sv 8 3 6] (Sr [Fa 7 1 1 1,Ld 8 0 7,Ln 9 8,Cl 10 79 [(.tmp 9),(ci 1),(ci 8)],Mv 11 10,Gd 12 (.faddr 7 1 (.tmp 1)) 11 true,Gd 13 (.load 0 (.tmp 12)) 11 true,Gd 14 (.len (.tmp 13)) 11 true,Gd 15 (.bin .leq .none (.tmp 14) (ci 12)) 11 true,Op 16 (.pick (.tmp 11) (.tmp 15) (.con (.bool false))),Mv 17 16,Gd 18 (.faddr 2 1 (.tmp 1)) 17 true,Gd 19 (.load 0 (.tmp 18)) 17 true,Gd 20 (.len (.tmp 19)) 17 true,Gd 21 (.faddr 0 2 (.tmp 3)) 17 true,Gd 22 (.iaddr 0 (some 2) (.tmp 21) (ci 0)) 17 true,Gd 23 (.load 0 (.tmp 22)) 17 true,Gd 24 (.faddr 0 2 (.tmp 3)) 17 true,Gd 25 (.iaddr 0 (some 2) (.tmp 24) (ci 1)) 17 true,Gd 26 (.load 0 (.tmp 25)) 17 true,Cg 27 79 [(.tmp 20),(.tmp 23),(.tmp 26)] 17 true,Op 28 (.pick (.tmp 17) (.tmp 27) (.con (.bool false))),Mv 29 28,Gd 30 (.faddr 3 1 (.tmp 1)) 29 true,Gd 31 (.load 0 (.tmp 30)) 29 true,Gd 32 (.len (.tmp 31)) 29 true,Gd 33 (.faddr 2 2 (.tmp 3)) 29 true,Gd 34 (.iaddr 0 (some 2) (.tmp 33) (ci 0)) 29 true,Gd 35 (.load 0 (.tmp 34)) 29 true,Gd 36 (.faddr 2 2 (.tmp 3)) 29 true,Gd 37 (.iaddr 0 (some 2) (.tmp 36) (ci 1)) 29 true,Gd 38 (.load 0 (.tmp 37)) 29 true,Cg 39 79 [(.tmp 32),(.tmp 35),(.tmp 38)] 29 true,Op 40 (.pick (.tmp 29) (.tmp 39) (.con (.bool false))),Mv 41 40,Gd 42 (.faddr 5 1 (.tmp 1)) 41 true,Gd 43 (.load 0 (.tmp 42)) 41 true,Gd 44 (.faddr 4 2 (.tmp 3)) 41 true,Gd 45 (.iaddr 0 (some 2) (.tmp 44) (ci 0)) 41 true,Gd 46 (.load 0 (.tmp 45)) 41 true,Gd 47 (.faddr 4 2 (.tmp 3)) 41 true,Gd 48 (.iaddr 0 (some 2) (.tmp 47) (ci 1)) 41 true,Gd 49 (.load 0 (.tmp 48)) 41 true,Cg 50 79 [(.tmp 43),(.tmp 46),(.tmp 49)] 41 true,Op 51 (.pick (.tmp 41) (.tmp 50) (.con (.bool false))),Mv 52 51,Gd 53 (.faddr 6 1 (.tmp 1)) 52 true,Gd 54 (.load 0 (.tmp 53)) 52 true,Gd 55 (.faddr 6 2 (.tmp 3)) 52 true,Gd 56 (.iaddr 0 (some 2) (.tmp 55) (ci 0)) 52 true,Gd 57 (.load 0 (.tmp 56)) 52 true,Gd 58 (.faddr 6 2 (.tmp 3)) 52 true,Gd 59 (.iaddr 0 (some 2) (.tmp 58) (ci 1)) 52 true,Gd 60 (.load 0 (.tmp 59)) 52 true,Cg 61 79 [(.tmp 54),(.tmp 57),(.tmp 60)] 52 true,Op 62 (.pick (.tmp 52) (.tmp 61) (.con (.bool false))),Mv 2 62] .ret)))
theorem fn80:FnOk Tryz.prog 80 63 [(2,none)] i80:=fnO Tryz.func80 Tryz.call80
def i81:ICode:=(Sr [Bx 1 33 0,Mb 2 false] (.seq (Sr [Fa 3 0 1 1,Ld 4 0 3,Bc 5 .neq 4 3] (Cd 5 (Sr [Fa 6 4 1 1,Ld 7 0 6,Ln 8 7,Bc 9 .eql 8 0,Mv 2 9] .ret) .skip)) (Sr [Fa 10 4 1 1,Ld 11 0 10,Ln 12 11,Fa 13 3 1 1,Ld 14 0 13,Ln 15 14,Bn 16 .eql 12 15,Mv 17 16,Gd 18 (.faddr 4 1 (.tmp 1)) 17 true,Gd 19 (.load 0 (.tmp 18)) 17 true,Cg 20 105 [(.tmp 19),(.fnc 134)] 17 true,Gd 21 (.un .not (.tmp 20)) 17 true,Op 22 (.pick (.tmp 17) (.tmp 21) (.con (.bool false))),Mv 2 22] .ret)))
theorem fn81:FnOk Tryz.prog 81 23 [(2,none)] i81:=fnO Tryz.func81 Tryz.call81
def ql5:ICode:=(Sr [Bn 22 .lss 21 20] (.seq (Cd 22 .skip (.exit 0)) (.seq (.block 1 (Sr [Ia 23 14 19 21,Ld 24 14 23,⟨some 6,.op (.alloc 66 [(.str ⟨#[]⟩),(.int .i64 0),(.int .i64 0),.nil,.nil,.nil,(.int .i64 0),(.int .i64 0),(.int .i64 0),.nil,.nil,.nil,.nil,(.int .i64 0)]),none⟩,Sv 14 6 24] (Rg [Mv 25 4,Fa 26 0 1 6,Ld 27 0 26,⟨some 28,.op (.rows 9 0 1 [(.str ⟨#[]⟩)] [(0,1,(.tmp 27))]),none⟩,Op 29 (.app 9 0 (.tmp 25) (.tmp 28)),Mv 4 29]))) (Rg [Bc 30 .add 21 1,Mv 21 30]))))
def qjG:ICode:=(Sr [Bn 34 .lss 33 32] (.seq (Cd 34 .skip (.exit 2)) (.seq (.block 3 (Sr [Ia 35 0 31 33,Ld 36 0 35,Mv 8 36] (.seq (Sr [Mv 37 8,Cl 38 136 [(.tmp 37)],Nt 39 38,Mv 40 39,Gm 41 8 40 false,Cg 42 137 [(.tmp 41)] 40 false,Op 43 (.pick (.tmp 40) (.con (.bool true)) (.tmp 42)),Mv 44 43,Gm 45 3 44 false,Gm 46 8 44 false,Gd 47 (.look true (.bool false) false (.tmp 45) (.tmp 46)) 44 false,Op 48 (.pick (.tmp 44) (.con (.bool true)) (.tmp 47))] (Cd 48 (Sr [Mb 2 false] .ret) .skip)) (Rg [Mv 49 3,Mv 50 8,St (.mset true (.tmp 49) (.tmp 50) (.con (.bool true)))])))) (Rg [Bc 51 .add 33 1,Mv 33 51]))))
def i82:ICode:=(Sr [Bx 1 33 0,Mb 2 false] (Sr [Op 9 (.mkmap),Mv 3 9] (Sr [Fa 10 1 1 1,Ld 11 0 10,Fa 12 2 1 1,Ld 13 0 12,Fa 14 3 1 1,Ld 15 0 14,Op 16 (.rows 26 0 3 [.nil] [(0,1,(.tmp 11)),(1,1,(.tmp 13)),(2,1,(.tmp 15))]),Cl 17 135 [(.tmp 16)],Mv 4 17] (.seq (Sr [Fa 18 7 1 1,Ld 19 0 18,Ln 20 19,Mc 21 0] (.block 0 (.loop ql5))) (.seq (Sr [Mv 31 4,Ln 32 31,Mc 33 0] (.block 2 (.loop qjG))) (Sr [Mb 2 true] .ret))))))
theorem fn82:FnOk Tryz.prog 82 52 [(2,none)] i82:=fnO Tryz.func82 Tryz.call82
def i83:ICode:=(Sr [Mb 4 false] (Sr [Mv 5 0,Mv 6 1,Cl 7 138 [(.tmp 5),(.tmp 6)],Bc 8 .geq 7 0,Mv 4 8] .ret))
theorem fn83:FnOk Tryz.prog 83 9 [(4,none)] i83:=fnO Tryz.func83 Tryz.call83
def i84:ICode:=(Sr [Bx 2 66 0,Mb 3 false] (Sr [Ld 4 10 1,Ld 5 14 2,Cl 6 85 [(.tmp 4),(.tmp 5)],Nt 7 6,Mv 3 7] .ret))
theorem fn84:FnOk Tryz.prog 84 8 [(3,none)] i84:=fnO Tryz.func84 Tryz.call84
def i85:ICode:=(Sr [Bx 2 33 0,Bx 3 66 1,Mb 4 false] (Sr [Fa 8 1 1 2,Ld 9 0 8,Ln 10 9,Mv 5 10] (.seq (Sr [Fa 11 2 1 3,Ld 12 0 11,Mv 13 5,Cl 14 139 [(.tmp 12),(.tmp 13)],Nt 15 14,Mv 16 15,Gd 17 (.faddr 1 1 (.tmp 3)) 16 false,Gd 18 (.load 0 (.tmp 17)) 16 false,Gm 19 5 16 false,Cg 20 139 [(.tmp 18),(.tmp 19)] 16 false,Gd 21 (.un .not (.tmp 20)) 16 false,Gm 22 21 16 false,Gd 23 (.faddr 0 1 (.tmp 2)) 22 true,Gd 24 (.load 0 (.tmp 23)) 22 true,Gd 25 (.bin .neq .none (.tmp 24) (ci 6)) 22 true,Gm 26 25 22 true,Gd 27 (.faddr 1 1 (.tmp 3)) 26 false,Gd 28 (.load 0 (.tmp 27)) 26 false,Gd 29 (.bin .neq .none (.tmp 28) (.con (.int .i64 (-1)))) 26 false,Gd 30 (.pick (.tmp 26) (.con (.bool true)) (.tmp 29)) 22 true,Gd 31 (.pick (.tmp 22) (.tmp 30) (.con (.bool false))) 16 false,Op 32 (.pick (.tmp 16) (.con (.bool true)) (.tmp 31))] (Cd 32 (Sr [Mb 4 false] .ret) .skip)) (Sr [Fa 33 0 1 3,Ld 34 0 33,Fa 35 1 1 3,Ld 36 0 35,Fa 37 2 1 3,Ld 38 0 37,⟨some 39,.op (.build [(.str ⟨#[]⟩),(.int .i64 0),(.int .i64 0),.nil,.nil,.nil,(.int .i64 0),(.int .i64 0),(.int .i64 0),.nil,.nil,.nil,.nil,(.int .i64 0)] [(0,1,(.tmp 34)),(1,1,(.tmp 36)),(2,1,(.tmp 38))]),none⟩,⟨some 6,.op (.alloc 66 [(.str ⟨#[]⟩),(.int .i64 0),(.int .i64 0),.nil,.nil,.nil,(.int .i64 0),(.int .i64 0),(.int .i64 0),.nil,.nil,.nil,.nil,(.int .i64 0)]),none⟩,Sv 14 6 39] (Sr [Mb 7 false] (.seq (Sr [Fa 40 0 1 2,Ld 41 0 40] (.block 0 (Sr [Bc 81 .eql 41 1,Mv 80 81] (Cd 80 (.seq (.reg [Fa 82 3 1 3,Ld 83 0 82,Fa 84 4 1 3,Ld 85 0 84,Fa 86 5 1 3,Ld 87 0 86,Fa 88 3 1 6,Sv 0 88 83,Fa 89 4 1 6,Sv 0 89 85,Fa 90 5 1 6,Sv 0 90 87] [0,1,0,4,0,16,3,67,207,463,1023,2047] true) (Rg [Ld 91 10 2,Ld 92 14 3,Cl 93 140 [(.tmp 91),(.tmp 92)],Mv 94 93,Gd 95 (.load 10 (.tmp 2)) 94 true,Gd 96 (.load 14 (.tmp 3)) 94 true,Cg 97 141 [(.tmp 95),(.tmp 96)] 94 true,Op 98 (.pick (.tmp 94) (.tmp 97) (.con (.bool false))),Mv 7 98])) (.seq (Sr [Bc 100 .eql 41 2,Mv 99 100] (Cd 99 .skip (Rg [Bc 101 .eql 41 3,Mv 99 101]))) (Cd 99 (.seq (.reg [Fa 102 6 1 3,Ld 103 0 102,Fa 104 7 1 3,Ld 105 0 104,Fa 106 8 1 3,Ld 107 0 106,Fa 108 6 1 6,Sv 0 108 103,Fa 109 7 1 6,Sv 0 109 105,Fa 110 8 1 6,Sv 0 110 107] [0,1,0,4,0,16,3,67,207,463,1023,2047] true) (Rg [Ld 111 10 2,Ld 112 14 3,Cl 113 142 [(.tmp 111),(.tmp 112)],Mv 7 113])) (Sr [Bc 115 .eql 41 4,Mv 114 115] (Cd 114 (.seq (.reg [Fa 116 9 1 3,Ld 117 0 116,Fa 118 10 1 3,Ld 119 0 118,Fa 120 9 1 6,Sv 0 120 117,Fa 121 10 1 6,Sv 0 121 119] [0,1,0,4,3,19,63,127] true) (Rg [Ld 122 10 2,Ld 123 14 3,Cl 124 143 [(.tmp 122),(.tmp 123)],Mv 7 124])) (Sr [Bc 126 .eql 41 5,Mv 125 126] (Cd 125 (.seq (.reg [Fa 127 11 1 3,Ld 128 0 127,Fa 129 12 1 3,Ld 130 0 129,Fa 131 11 1 6,Sv 0 131 128,Fa 132 12 1 6,Sv 0 132 130] [0,1,0,4,3,19,63,127] true) (Rg [Ld 133 10 2,Ld 134 14 3,Cl 135 144 [(.tmp 133),(.tmp 134)],Mv 7 135])) (.seq (.reg [Fa 42 3 1 3,Ld 43 0 42,Fa 44 4 1 3,Ld 45 0 44,Fa 46 13 1 3,Ld 47 0 46,Fa 48 3 1 6,Sv 0 48 43,Fa 49 4 1 6,Sv 0 49 45,Fa 50 13 1 6,Sv 0 50 47] [0,1,0,4,0,16,3,67,207,463,1023,2047] true) (Rg [Ld 51 10 2,Ld 52 14 3,Cl 53 140 [(.tmp 51),(.tmp 52)],Mv 54 53,Gd 55 (.faddr 13 1 (.tmp 3)) 54 true,Gd 56 (.load 0 (.tmp 55)) 54 true,Gd 57 (.bin .eql .none (.tmp 56) (.con (.int .i64 (-1)))) 54 true,Gm 58 57 54 true,Gd 59 (.faddr 13 1 (.tmp 3)) 58 false,Gd 60 (.load 0 (.tmp 59)) 58 false,Gm 61 5 58 false,Cg 62 139 [(.tmp 60),(.tmp 61)] 58 false,Gd 63 (.pick (.tmp 58) (.con (.bool true)) (.tmp 62)) 54 true,Op 64 (.pick (.tmp 54) (.tmp 63) (.con (.bool false))),Mv 65 64,Gd 66 (.faddr 1 1 (.tmp 3)) 65 true,Gd 67 (.load 0 (.tmp 66)) 65 true,Gd 68 (.bin .geq .none (.tmp 67) (ci 0)) 65 true,Gm 69 68 65 true,Gd 70 (.faddr 13 1 (.tmp 3)) 69 false,Gd 71 (.load 0 (.tmp 70)) 69 false,Gd 72 (.bin .eql .none (.tmp 71) (.con (.int .i64 (-1)))) 69 false,Gm 73 72 69 false,Gd 74 (.faddr 3 1 (.tmp 3)) 73 true,Gd 75 (.load 0 (.tmp 74)) 73 true,Cg 76 145 [(.tmp 75),(.fnc 146)] 73 true,Gd 77 (.pick (.tmp 73) (.tmp 76) (.con (.bool false))) 69 false,Gd 78 (.pick (.tmp 69) (.con (.bool true)) (.tmp 77)) 65 true,Op 79 (.pick (.tmp 65) (.tmp 78) (.con (.bool false))),Mv 7 79])))))))))))) (Sr [Mv 136 7,Mv 137 136,Gd 138 (.load 14 (.tmp 3)) 137 true,Gd 139 (.load 14 (.tmp 6)) 137 true,Cg 140 147 [(.tmp 138),(.tmp 139)] 137 true,Op 141 (.pick (.tmp 137) (.tmp 140) (.con (.bool false))),Mv 4 141] .ret)))))))
theorem fn85:FnOk Tryz.prog 85 142 [(4,none)] i85:=fnO Tryz.func85 Tryz.call85
def i86:ICode:=(Sr [Bx 1 33 0,Mb 2 false] (.seq (Sr [Fa 3 0 1 1,Ld 4 0 3,Bc 5 .eql 4 6] (Cd 5 (Sr [Fa 6 8 2 1,Fa 7 0 1 6,Ld 8 0 7,Bc 9 .eql 8 0,Mv 10 9,Gd 11 (.faddr 8 2 (.tmp 1)) 10 true,Gd 12 (.faddr 1 1 (.tmp 11)) 10 true,Gd 13 (.load 0 (.tmp 12)) 10 true,Gd 14 (.len (.tmp 13)) 10 true,Gd 15 (.bin .eql .none (.tmp 14) (ci 0)) 10 true,Op 16 (.pick (.tmp 10) (.tmp 15) (.con (.bool false))),Mv 2 16] .ret) .skip)) (.seq (.reg [Ld 17 10 1,Cl 18 149 [(.tmp 17)],Fa 19 8 2 1,Ld 20 2 19,Cl 21 148 [(.tmp 18),(.tmp 20)],Mv 2 21] [0,1,0,4,15,31] true) .ret)))
theorem fn86:FnOk Tryz.prog 86 22 [(2,none)] i86:=fnO Tryz.func86 Tryz.call86
def i87:ICode:=(Sr [Bx 1 66 0,Mb 2 false] (Sr [Fa 3 5 1 1,Ld 4 0 3,Ln 5 4,Bc 6 .gtr 5 0,Mv 2 6] .ret))
theorem fn87:FnOk Tryz.prog 87 7 [(2,none)] i87:=fnO Tryz.func87 Tryz.call87
def i88:ICode:=(Sr [Bx 3 37 0,Bx 4 3 1,Bx 5 3 2,Op 6 (.mv (.con .nilfn))] (Sr [Op 7 (.mkfn 150 [(.tmp 4),(.tmp 3),(.tmp 5)]),Mv 6 7] .ret))
theorem fn88:FnOk Tryz.prog 88 8 [(6,none)] i88:=fnO Tryz.func88 Tryz.call88
def qgM:ICode:=(Sr [Bn 14 .lss 13 12] (.seq (Cd 14 .skip (.exit 0)) (.seq (.block 1 (Sr [Mv 15 13,Mv 5 15] (.seq (.reg [Mv 16 0,Mv 17 5,Ia 18 0 16 17,Ld 19 0 18,Mv 20 1,Mv 21 5,Ia 22 0 20 21,Ld 23 0 22,Bn 24 .neq 19 23] [0,0,3,7,0,0,48,112,255] true) (Cd 24 (Sr [Mb 4 false] .ret) .skip)))) (Rg [Bc 25 .add 13 1,Mv 13 25]))))
def i89:ICode:=(Sr [Mb 4 false] (.seq (Sr [Mv 6 0,Ln 7 6,Mv 8 1,Ln 9 8,Bn 10 .neq 7 9] (Cd 10 (Sr [Mb 4 false] .ret) .skip)) (.seq (Sr [Mv 11 0,Ln 12 11,Mc 13 0] (.block 0 (.loop qgM))) (Sr [Mb 4 true] .ret))))
theorem fn89:FnOk Tryz.prog 89 26 [(4,none)] i89:=fnO Tryz.func89 Tryz.call89
def ql6:ICode:=(Sr [Bn 17 .lss 16 15] (.seq (Cd 17 .skip (.exit 0)) (.seq (.block 1 (Sr [Mv 18 16,Ia 19 0 14 16,Ld 20 0 19,Mv 7 18,Mv 8 20] (Sr [Mv 21 2,Mv 22 7,Ia 23 0 21 22,Ld 24 0 23,Mv 25 8,Bn 26 .lss 24 25] (Cd 26 (Sr [Mb 6 false] .ret) .skip)))) (Rg [Bc 27 .add 16 1,Mv 16 27]))))
def i90:ICode:=(Sr [Bx 3 66 0,Mb 6 false] (.seq (Sr [Fa 9 1 1 3,Ld 10 0 9,Mv 11 1,Bn 12 .neq 10 11] (Cd 12 (Sr [Mb 6 false] .ret) .skip)) (.seq (Sr [Fa 13 3 1 3,Ld 14 0 13,Ln 15 14,Mc 16 0] (.block 0 (.loop ql6))) (Sr [Mb 6 true] .ret))))
theorem fn90:FnOk Tryz.prog 90 28 [(6,none)] i90:=fnO Tryz.func90 Tryz.call90
def qjH:ICode:=(Sr [Bn 15 .lss 14 13] (.seq (Cd 15 .skip (.exit 0)) (.seq (.block 1 (Sr [Mv 16 14,Ia 17 0 12 14,Ld 18 0 17,Mv 8 16,Mv 9 18] (Sr [Mv 19 9,Bc 20 .neq 19 1099511627776] (Cd 20 (.seq (.reg [Mv 21 6,Mv 22 8,Mv 23 9,Fa 24 3 1 2,Ld 25 0 24,Mv 26 8,Ia 27 0 25 26,Ld 28 0 27,Bn 29 .sub 23 28,Fa 30 4 1 2,Ld 31 0 30,Mv 32 8,Ia 33 0 31 32,Ld 34 0 33,Bn 35 .add 29 34,Ia 36 0 21 22,Sv 0 36 35] [0,0,0,0,8,0,56,120,252,0,512,0,3584,7680,16380,32767,65535] true) (Rg [Mv 37 7,Mv 38 37,Gm 39 6 38 true,Gm 40 8 38 true,Gd 41 (.iaddr 0 none (.tmp 39) (.tmp 40)) 38 true,Gd 42 (.load 0 (.tmp 41)) 38 true,Gd 43 (.bin .leq .none (.tmp 42) (ci 1048576)) 38 true,Op 44 (.pick (.tmp 38) (.tmp 43) (.con (.bool false))),Mv 7 44])) .skip)))) (Rg [Bc 45 .add 14 1,Mv 14 45]))))
def i91:ICode:=(Sr [Bx 2 66 0,Op 4 (.mv (.con .nil)),Mb 5 false] (Sr [Mv 10 1,Cl 11 32 [(.tmp 10)],Mv 6 11,Mb 7 true] (.seq (Sr [Mv 12 1,Ln 13 12,Mc 14 0] (.block 0 (.loop qjH))) (Sr [Mv 46 6,Mv 47 7,Mv 4 46,Mv 5 47] .ret))))
theorem fn91:FnOk Tryz.prog 91 48 [(4,none),(5,none)] i91:=fnO Tryz.func91 Tryz.call91
end
end Go.Proofs.YtoeeppojakbciaaGreat
