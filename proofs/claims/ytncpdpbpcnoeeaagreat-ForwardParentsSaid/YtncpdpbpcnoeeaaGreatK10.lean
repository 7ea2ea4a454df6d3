/- Contracts of functions of the program, for all arguments that they name. -/
import Derived.Test.YtncpdpbpcnoeeaaGreatK09
namespace Go.Proofs.YtncpdpbpcnoeeaaGreat
set_option linter.unusedVariables false
section
open Go.RowKit
set_option maxHeartbeats 2000000
@[simp] theorem qfc (l:List Int):sizedB 0 (qab l)=true:=by
 rw[sizedB,List.all_eq_true]
 intro c hc
 obtain⟨x,_,rfl⟩:=List.mem_map.1 hc
 rfl
@[simp] theorem qo1 (l:List Int):qab l=[]↔l=[]:=by simp[qab]
theorem qhW (x:Int)(l:List Int)(hl:(x::l).length≤1000000):TP Tryz.prog 33 [.list (qab (x::l))] (.list (qab (x::l))):=by
 have hsz:=qfc (x::l)
 have hle:(qab (x::l)).length≤1000000000:=by rw[qac];omega
 have hne:qab (x::l)≠[]:=by simp
 have hpos:0<(qab (x::l)).length:=by simp[qac]
 have hq:binT .eql .slice (.list (qab (x::l))) .nil=some (.bool false):=rfl
 have hrp:repl 0 [T.int .i64 0]=[]:=rfl
 have fX:=(cJ4 @qby @hsz @hq @hrp)
 refine qai fn33 (by simp) ?_
 unfold i33
 simp only[argL]
 refine wR0 0 [0] fX ?_
 refine wR0 100 [0,4] fX ?_
 refine wF @true_and ?_
 refine wR0 300 [2] fX ?_
 refine wP ?_
 exact qbt _ rfl (qac _) (qac _)
theorem FrzL.append {H:Heap}:∀ {xs ys xs' ys':List T},FrzL H xs ys→FrzL H xs' ys'→FrzL H (xs++xs') (ys++ys')
 | [],[],_,_,_,h=>h
 | [],_::_,_,_,h,_=>by have:=h.1;simp at this
 | _::_,[],_,_,h,_=>by have:=h.1;simp at this
 | x::xs,y::ys,_,_,h,h'=>by
  have h0:=h.2 0 (by simp)
  exact FrzL.cons (by simpa using h0) (FrzL.append (xs:=xs) (ys:=ys) ⟨by simpa using h.1,fun i hi=>by have:=h.2 (i+1) (by simpa using hi);simpa using this⟩ h')
theorem FrzL.same {H:Heap}{xs:List T}(h:froL xs=true):FrzL H xs xs:=⟨rfl,fun i hi=>.same (qaP h i)⟩
def rowC (c0 c:List T):Nat→List T
 | 0=>c0
 | j+1=>rowC c0 c j++c
theorem qdk (c0 c:List T)(h0:c0.length=4)(h:c.length=4):∀j,(rowC c0 c j).length=(j+1)*4
 | 0=>by simp[rowC,h0]
 | j+1=>by simp[rowC,qdk c0 c h0 h j,h];omega
theorem qj2 {H:Heap}{c0 c d0 d:List T}(h0:FrzL H c0 d0)(h:FrzL H c d):∀j,FrzL H (rowC c0 c j) (rowC d0 d j)
 | 0=>h0
 | j+1=>(qj2 h0 h j).append h
theorem qh9 {c0 c:List T}(h0:Ones c0)(h:Ones c):∀j,Ones (rowC c0 c j)
 | 0=>h0
 | j+1=>fun x hx=>(List.mem_append.1 hx).elim (qh9 h0 h j x) (h x)
theorem qg4 {D:Nat→Bool}{c0 c:List T}(h0:clL D c0=true)(h:clL D c=true):∀j,clL D (rowC c0 c j)=true
 | 0=>h0
 | j+1=>by rw[rowC,qan,qg4 h0 h j,h];rfl
def qd7 (t0 t:Ty):Nat→List Ty
 | 0=>[t0]
 | j+1=>qd7 t0 t j++[t]
theorem qgw (xs ys:List Ty):qal (xs++ys)=qal xs++qal ys:=by simp[qco]
theorem qer (t0 t:Ty):∀j,flat (qal (qd7 t0 t j))=rowC (qaw t0).cells (qaw t).cells j
 | 0=>by simp[qd7,rowC,qal,flat]
 | j+1=>by rw[qd7,qgw,qdB,qer t0 t j,rowC];simp[qal,flat]
theorem qfP (t0 t:Ty):∀j,(qd7 t0 t j).length=j+1
 | 0=>rfl
 | j+1=>by simp[qd7,qfP t0 t j]
theorem qgx (ps:List Ty):qbL (esz 4) (qal ps):=fun x hx=>by
 rw[qco] at hx
 obtain⟨v,_,rfl⟩:=List.mem_map.1 hx
 exact qks v
theorem qf3 (t:Ty):Ones (qaw t).cells:=by
 rcases t with⟨k,s,rs,ps⟩
 intro c hc
 simp only[qaw,T.cells,List.mem_cons,List.not_mem_nil,or_false] at hc
 rcases hc with rfl | rfl | rfl | rfl<;>rfl
theorem qcq {H:Heap}{id ty n tot:Nat}{c0 c:List T}{t0 t:Ty}(j:Nat)(hb:H id=.live ⟨ty,rowC c0 c j⟩)(hn:n=j+1)(ht:tot=(j+1)*4)(hl0:c0.length=4)(hl:c.length=4)(h0:FrzL H c0 (qaw t0).cells)(h:FrzL H c (qaw t).cells) :
 Frz H (.sl id tot 4 0 n) (.list (qal (qd7 t0 t j))):=by
 subst hn ht
 refine Frz.sl hb (qdk c0 c hl0 hl j) (by simp[esz]) (by rw[qav,qfP]) (qgx _) (by rw[qer];exact qh9 (qf3 _) (qf3 _) j) fun k hk=>?_
 rw[qer,Nat.zero_add]
 exact (qj2 h0 h j).2 k (by rw[qdk c0 c hl0 hl];simpa [esz] using hk)
def qfD (m:Md):Ty:=if m.kind=2 then qa6 4 (qaI m.letters.length) else if m.kind=3 then .mk 7 m.letters.length m.ranks [] else .mk 1 0 [] []
def qcf (m:Md):Ty:=
 qaS (if m.kind=4 then [qaI m.states.length,qdC m.letters.length m.levels] else if m.kind=5 then [qaI m.states.length,qa6 5 (.mk 3 0 [] [qaI m.places.length,qaI (m.age+2)])]
  else qd7 (qaI m.states.length) (qfD m) m.places.length)
def qb7 (m:Md):List T:=if m.kind=2 then [.int .i64 4,.int .i64 0,.list [],.list [.agg [.int .i64 2,.int .i64 m.letters.length,.list [],.list []]]] else if m.kind=3 then [.int .i64 7,.int .i64 m.letters.length,.list (qab m.ranks),.nil] else [.int .i64 1,.int .i64 0,.nil,.nil]
def labC (n:Int):List T:=[.int .i64 2,.int .i64 n,.list [],.list []]
theorem qcw (m:Md):(qb7 m).length=4:=by unfold qb7;(repeat' split)<;>rfl
theorem qcv {H:Heap}(m:Md):FrzL H (qb7 m) (qaw (qfD m)).cells:=by
 unfold qb7 qfD
 split
 ·simp only[qa6,qaI,qaw,qal,qap,T.cells]
  (first | exact fF | exact fZt)
 ·split
  ·simp only[qaw,qal,T.cells]
   (first | exact fF | exact fZt)
  ·simp only[qaw,qal,qap,T.cells]
   (first | exact fF | exact fZt)
theorem qdg {H:Heap}(n:Int):FrzL H (labC n) (qaw (qaI n)).cells:=FrzL.same rfl
theorem qdG (m:Md)(c:List T)(hcd:c=[T.int .i64 4,.int .i64 0,.list [],.list [.agg [.int .i64 2,.int .i64 m.letters.length,.list [],.list []]]])(kb2:(m.kind==2)=true)(kb3:(m.kind==3)=false)(S:Int)(hl:m.places.length≤1000)(hr:m.ranks.length≤1000000)  (Q:IExit→(Nat→T)→Heap→Prop):∀(n j:Nat),j+n=m.places.length→
 (∀i:Int,Q (.exit 1) (ofL [(1,.ref 0 10 0),(2,.ref 1 4 0),(3,.sl 104 ((m.places.length+1)*4) 4 0 (m.places.length+1)),(14,.int .i64 (qar m.places).length),(15,.int .i64 i),(16,.bool false)]) (hpL [(0,.live ⟨33,mdC m⟩),(1,.live ⟨107,[.int .i64 0,.int .i64 0,.nil,.nil]⟩),(104,.live ⟨107,rowC (labC S) c m.places.length⟩)]))→
 WL Tryz.prog 70 qci (ofL [(1,.ref 0 10 0),(2,.ref 1 4 0),(3,.sl 104 ((j+1)*4) 4 0 (j+1)),(14,.int .i64 (qar m.places).length),(15,.int .i64 j)]) (hpL [(0,.live ⟨33,mdC m⟩),(1,.live ⟨107,[.int .i64 0,.int .i64 0,.nil,.nil]⟩),(104,.live ⟨107,rowC (labC S) c j⟩)]) Q:=by
 have hlc:c.length=4:=by rw[hcd];rfl
 simp only[mdC]
 intro n
 induction n with
 | zero=>
  intro j hj hQ
  have hd:decide ((j:Int)<((qar m.places).length:Int))=false:=by simp[qaf];omega
  have hjn:j=m.places.length:=by omega
  subst hjn
  have fX:=@hd
  refine qaa qci.eq_1 ?_
  refine wR0 800 [1,2,3,14,15,16] fX ?_
  refine wF @hd ?_
  refine wX ?_
  refine wN ?_
  exact hQ _
 | succ n ih=>
  intro j hj hQ
  have hlt:(j:Int)<((qar m.places).length:Int):=by simp[qaf];omega
  have hd:decide ((j:Int)<((qar m.places).length:Int))=true:=decide_eq_true hlt
  have hw:IntKind.wrap .i64 ((j:Int)+1)=(j:Int)+1:=wrap64 (by omega) (by omega)
  have hlen:(rowC (labC S) c j).length=(j+1)*4:=qdk _ _ rfl hlc j
  have hj4:j+1≤1001:=by omega
  have hcl:∀D,clL D (rowC (labC S) c j)=true:=fun D=>qg4 rfl (by rw[hcd];simp[clL,T.cl]) j
  have h1:=qct (m.letters.length:Int);have h2:=qeL 4 2 (m.letters.length:Int) [] [];simp only[qaI,qa6,qaw,qap,qal] at h1 h2;have hsl:=qaf m.letters
  have fX:=(cJ7 @hd @hw @kb2 @kb3 @hlen @qh7 @hsl)
  refine qaa qci.eq_1 ?_
  refine W_gc ?_
  refine wR0 800 [1,2,3,14,15,16] fX ?_
  refine wT @hd ?_
  refine wR0 900 [1,2,3,4,14,15] fX ?_
  refine wR0 1000 [1,2,3,4,14,15,19] fX ?_
  refine wR0 1100 [1,2,3,4,14,15,19,20] fX ?_
  refine wT fX ?_
  refine wRn 1200 [1,2,3,4,14,15] fX ?_
  refine rC fX ?_
  refine⟨_,h1,rN fX ?_⟩
  refine rC fX ?_
  refine⟨_,h2,rE fX ?_⟩
  refine wR0 1500 [1,2,3,14,15] fX ?_
  refine wR0 1600 [1,2,3,14,15] fX ?_
  refine wN ?_
  refine qaT [0,1,104] (by simp[inL]) (by simp[inL,T.cl]) (by simp[qak,inL,Slot.cl,T.cl,clL,qan,hcl]) ?_
  have:=ih (j+1) (by omega) hQ
  have hm:(j+1+1)*4=(j+1)*4+4:=(by omega)
  simp only[rowC,hm] at this
  rw[show rowC (labC S) c j++c=rowC (labC S) c j++[T.int .i64 4,.int .i64 0,.list [],.list [.agg [.int .i64 2,.int .i64 m.letters.length,.list [],.list []]]] from by rw[←hcd]] at this
  simpa [qak,inL] using this
theorem qdH (m:Md)(c:List T)(hcd:c=[T.int .i64 7,.int .i64 m.letters.length,.list (qab m.ranks),.nil])(kb2:(m.kind==2)=false)(kb3:(m.kind==3)=true)(S:Int)(hl:m.places.length≤1000)(hr:m.ranks.length≤1000000)(hne:m.ranks≠[])(Q:IExit→(Nat→T)→Heap→Prop):∀(n j:Nat),j+n=m.places.length→
 (∀i:Int,Q (.exit 1) (ofL [(1,.ref 0 10 0),(2,.ref 1 4 0),(3,.sl 104 ((m.places.length+1)*4) 4 0 (m.places.length+1)),(14,.int .i64 (qar m.places).length),(15,.int .i64 i),(16,.bool false)]) (hpL [(0,.live ⟨33,mdC m⟩),(1,.live ⟨107,[.int .i64 0,.int .i64 0,.nil,.nil]⟩),(104,.live ⟨107,rowC (labC S) c m.places.length⟩)]))→
 WL Tryz.prog 70 qci (ofL [(1,.ref 0 10 0),(2,.ref 1 4 0),(3,.sl 104 ((j+1)*4) 4 0 (j+1)),(14,.int .i64 (qar m.places).length),(15,.int .i64 j)]) (hpL [(0,.live ⟨33,mdC m⟩),(1,.live ⟨107,[.int .i64 0,.int .i64 0,.nil,.nil]⟩),(104,.live ⟨107,rowC (labC S) c j⟩)]) Q:=by
 have hlc:c.length=4:=by rw[hcd];rfl
 simp only[mdC]
 intro n
 induction n with
 | zero=>
  intro j hj hQ
  have hd:decide ((j:Int)<((qar m.places).length:Int))=false:=by simp[qaf];omega
  have hjn:j=m.places.length:=by omega
  subst hjn
  have fX:=@hd
  refine qaa qci.eq_1 ?_
  refine wR0 800 [1,2,3,14,15,16] fX ?_
  refine wF @hd ?_
  refine wX ?_
  refine wN ?_
  exact hQ _
 | succ n ih=>
  intro j hj hQ
  have hlt:(j:Int)<((qar m.places).length:Int):=by simp[qaf];omega
  have hd:decide ((j:Int)<((qar m.places).length:Int))=true:=decide_eq_true hlt
  have hw:IntKind.wrap .i64 ((j:Int)+1)=(j:Int)+1:=wrap64 (by omega) (by omega)
  have hlen:(rowC (labC S) c j).length=(j+1)*4:=qdk _ _ rfl hlc j
  have hj4:j+1≤1001:=by omega
  have hcl:∀D,clL D (rowC (labC S) c j)=true:=fun D=>qg4 rfl (by rw[hcd];simp[clL,T.cl]) j
  have hsl:=qaf m.letters;have h3:TP Tryz.prog 33 [.list (qab m.ranks)] (.list (qab m.ranks)):=(by obtain⟨x,r,hx⟩:=List.exists_cons_of_ne_nil hne;rw[hx] at hr ⊢;exact qhW x r hr)
  have fX:=(cJ7 @hd @hw @kb2 @kb3 @hlen @qh7 @hsl)
  refine qaa qci.eq_1 ?_
  refine W_gc ?_
  refine wR0 800 [1,2,3,14,15,16] fX ?_
  refine wT @hd ?_
  refine wR0 900 [1,2,3,4,14,15] fX ?_
  refine wR0 1000 [1,2,3,4,14,15,19] fX ?_
  refine wR0 1100 [1,2,3,4,14,15,19,20] fX ?_
  refine wF fX ?_
  refine wR0 1300 [1,2,3,4,14,15,27] fX ?_
  refine wT fX ?_
  refine wRn 1400 [1,2,3,4,14,15] fX ?_
  refine rC fX ?_
  refine⟨_,h3,rE fX ?_⟩
  refine wR0 1500 [1,2,3,14,15] fX ?_
  refine wR0 1600 [1,2,3,14,15] fX ?_
  refine wN ?_
  refine qaT [0,1,104] (by simp[inL]) (by simp[inL,T.cl]) (by simp[qak,inL,Slot.cl,T.cl,clL,qan,hcl]) ?_
  have:=ih (j+1) (by omega) hQ
  have hm:(j+1+1)*4=(j+1)*4+4:=(by omega)
  simp only[rowC,hm] at this
  rw[show rowC (labC S) c j++c=rowC (labC S) c j++[T.int .i64 7,.int .i64 m.letters.length,.list (qab m.ranks),.nil] from by rw[←hcd]] at this
  simpa [qak,inL] using this
theorem qdF (m:Md)(c:List T)(hcd:c=[T.int .i64 1,.int .i64 0,.nil,.nil])(kb2:(m.kind==2)=false)(kb3:(m.kind==3)=false)(S:Int)(hl:m.places.length≤1000)(hr:m.ranks.length≤1000000)  (Q:IExit→(Nat→T)→Heap→Prop):∀(n j:Nat),j+n=m.places.length→
 (∀i:Int,Q (.exit 1) (ofL [(1,.ref 0 10 0),(2,.ref 1 4 0),(3,.sl 104 ((m.places.length+1)*4) 4 0 (m.places.length+1)),(14,.int .i64 (qar m.places).length),(15,.int .i64 i),(16,.bool false)]) (hpL [(0,.live ⟨33,mdC m⟩),(1,.live ⟨107,[.int .i64 0,.int .i64 0,.nil,.nil]⟩),(104,.live ⟨107,rowC (labC S) c m.places.length⟩)]))→
 WL Tryz.prog 70 qci (ofL [(1,.ref 0 10 0),(2,.ref 1 4 0),(3,.sl 104 ((j+1)*4) 4 0 (j+1)),(14,.int .i64 (qar m.places).length),(15,.int .i64 j)]) (hpL [(0,.live ⟨33,mdC m⟩),(1,.live ⟨107,[.int .i64 0,.int .i64 0,.nil,.nil]⟩),(104,.live ⟨107,rowC (labC S) c j⟩)]) Q:=by
 have hlc:c.length=4:=by rw[hcd];rfl
 simp only[mdC]
 intro n
 induction n with
 | zero=>
  intro j hj hQ
  have hd:decide ((j:Int)<((qar m.places).length:Int))=false:=by simp[qaf];omega
  have hjn:j=m.places.length:=by omega
  subst hjn
  have fX:=@hd
  refine qaa qci.eq_1 ?_
  refine wR0 800 [1,2,3,14,15,16] fX ?_
  refine wF @hd ?_
  refine wX ?_
  refine wN ?_
  exact hQ _
 | succ n ih=>
  intro j hj hQ
  have hlt:(j:Int)<((qar m.places).length:Int):=by simp[qaf];omega
  have hd:decide ((j:Int)<((qar m.places).length:Int))=true:=decide_eq_true hlt
  have hw:IntKind.wrap .i64 ((j:Int)+1)=(j:Int)+1:=wrap64 (by omega) (by omega)
  have hlen:(rowC (labC S) c j).length=(j+1)*4:=qdk _ _ rfl hlc j
  have hj4:j+1≤1001:=by omega
  have hcl:∀D,clL D (rowC (labC S) c j)=true:=fun D=>qg4 rfl (by rw[hcd];simp[clL,T.cl]) j
  have hsl:=qaf m.letters
  have fX:=(cJ7 @hd @hw @kb2 @kb3 @hlen @qh7 @hsl)
  refine qaa qci.eq_1 ?_
  refine W_gc ?_
  refine wR0 800 [1,2,3,14,15,16] fX ?_
  refine wT @hd ?_
  refine wR0 900 [1,2,3,4,14,15] fX ?_
  refine wR0 1000 [1,2,3,4,14,15,19] fX ?_
  refine wR0 1100 [1,2,3,4,14,15,19,20] fX ?_
  refine wF fX ?_
  refine wR0 1300 [1,2,3,4,14,15,27] fX ?_
  refine wF fX ?_
  refine wR0 1500 [1,2,3,14,15] fX ?_
  refine wR0 1600 [1,2,3,14,15] fX ?_
  refine wN ?_
  refine qaT [0,1,104] (by simp[inL]) (by simp[inL,T.cl]) (by simp[qak,inL,Slot.cl,T.cl,clL,qan,hcl]) ?_
  have:=ih (j+1) (by omega) hQ
  have hm:(j+1+1)*4=(j+1)*4+4:=(by omega)
  simp only[rowC,hm] at this
  rw[show rowC (labC S) c j++c=rowC (labC S) c j++[T.int .i64 1,.int .i64 0,.nil,.nil] from by rw[←hcd]] at this
  simpa [qak,inL] using this
structure Md.sane (m:Md):Prop where
 fit:m.fit
 kind:btw m.kind 1 6=true
 lev:m.kind=4→m.levels=1∨m.levels=2
 age:0≤m.age∧m.age≤1000
 rank:m.kind=3→m.ranks≠[]
set_option maxHeartbeats 8000000 in
theorem qoO (m:Md)(hm:m.sane):TP Tryz.prog 150 [qaA m] (qaw (qcf m)):=by
 have tk:∀(c:Int),(m.kind==c)=true→m.kind=c:=fun c h=>by simpa using h
 have fk:∀(c:Int),(m.kind==c)=false→m.kind≠c:=fun c h=>by simpa using h
 have ha:=hm.age
 have hw:IntKind.wrap .i64 (m.age+2)=m.age+2:=wrap64 (by omega) (by omega)
 have hl1:=qct (m.states.length:Int)
 have hl2:=qct (m.places.length:Int)
 have hl3:=qct (m.age+2)
 have hn1:=qge (m.letters.length:Int)
 have hn2:=qkA (m.letters.length:Int)
 have hb:=qeL 5 3 0 [] [qaI m.places.length,qaI (m.age+2)]
 simp only[qbj,qbw,qaI,qa6,qaw,qap,qal] at hl1 hl2 hl3 hn1 hn2 hb
 have e4:m.kind=4→qcf m=qaS [qaI m.states.length,qdC m.letters.length m.levels]:=fun h=>by rw[qcf,if_pos h]
 have e5:m.kind=5→qcf m=qaS [qaI m.states.length,qa6 5 (.mk 3 0 [] [qaI m.places.length,qaI (m.age+2)])]:=fun h=>by rw[qcf,if_neg (by omega),if_pos h]
 have eo:m.kind≠4→m.kind≠5→qcf m=qaS (qd7 (qaI m.states.length) (qfD m) m.places.length):=fun h h'=>by rw[qcf,if_neg h,if_neg h']
 have hkc:m.kind≠4→m.kind≠5→m.kind=2∨m.kind=3∨(m.kind≠2∧m.kind≠3):=fun _ _=>by omega
 have fX:=(cJ3 @hw @qh7 @qiV)
 refine qai fn150 (by simp) ?_
 unfold i150
 simp only[argL,qaA,mdC]
 refine wR0 0 [1,2] fX ?_
 refine wRn 100 [1,2,3] (cJ2 @qaf fX) ?_
 refine rC (cJ2 @qaf fX) ?_
 refine⟨_,hl1,rE (cJ2 @qaf fX) ?_⟩
 refine wR0 200 [1,2,3,11] fX ?_
 refine wR0 300 [1,2,3,11,41] fX ?_
 refine wS cJ0 (fun hc300=>?_) (fun hc300=>?_)
 ·skip
  refine wN ?_
  rcases hm.lev (tk _ hc300) with hlev | hlev
  ·skip
   refine wRn 400 [2,3] (cJ3 @hlev @qaf fX) ?_
   refine rC (cJ3 @hlev @qaf fX) ?_
   refine⟨_,(by first | exact hn1 | exact hn2),rE (cJ3 @hlev @qaf fX) ?_⟩
   refine wR0 1700 [2] fX ?_
   refine wP ?_
   first | (rw[e4 (tk _ hc300),hlev];refine eG ?_;(try simp only[qaI,qaS,qaw,qal,qap]);(first | exact fF | exact fZt);done) | (rw[e5 (tk _ hc500)];refine eG ?_;(try simp only[qaI,qa6,qaS,qaw,qal,qap]);(first | exact fF | exact fZt);done) | (rw[eo (fk _ hc300) (fk _ hc500)];refine eG ?_;(try simp only[qaS,qaw,qap]);exact Frz.aggL (FrzL.cons (.same rfl) (FrzL.cons (.same rfl) (FrzL.cons .nil (FrzL.cons (qcq _ rfl rfl rfl rfl (qcw m) (qdg _) (qcv m)) FrzL.nil)))) (by rfl))
  ·skip
   refine wRn 400 [2,3] (cJ3 @hlev @qaf fX) ?_
   refine rC (cJ3 @hlev @qaf fX) ?_
   refine⟨_,(by first | exact hn1 | exact hn2),rE (cJ3 @hlev @qaf fX) ?_⟩
   refine wR0 1700 [2] fX ?_
   refine wP ?_
   first | (rw[e4 (tk _ hc300),hlev];refine eG ?_;(try simp only[qaI,qaS,qaw,qal,qap]);(first | exact fF | exact fZt);done) | (rw[e5 (tk _ hc500)];refine eG ?_;(try simp only[qaI,qa6,qaS,qaw,qal,qap]);(first | exact fF | exact fZt);done) | (rw[eo (fk _ hc300) (fk _ hc500)];refine eG ?_;(try simp only[qaS,qaw,qap]);exact Frz.aggL (FrzL.cons (.same rfl) (FrzL.cons (.same rfl) (FrzL.cons .nil (FrzL.cons (qcq _ rfl rfl rfl rfl (qcw m) (qdg _) (qcv m)) FrzL.nil)))) (by rfl))
 ·skip
  refine wR0 500 [1,2,3,52] fX ?_
  refine wS cJ0 (fun hc500=>?_) (fun hc500=>?_)
  ·skip
   refine wRn 600 [2,3] (cJ2 @qaf fX) ?_
   refine rC (cJ2 @qaf fX) ?_
   refine⟨_,hl2,rN (cJ2 @qaf fX) ?_⟩
   refine rC (cJ2 @qaf fX) ?_
   refine⟨_,hl3,rN (cJ2 @qaf fX) ?_⟩
   refine rG [(609,.live ⟨_,_⟩)] (cJ2 @qaf fX) ?_
   refine⟨_,_,hb,(by ((try simp only[qaI,qa6,qaw,qal,qap]);(first | exact fF | exact fZt))),rE (cJ2 @qaf fX) ?_⟩
   refine wR0 1700 [2] fX ?_
   refine wP ?_
   first | (rw[e4 (tk _ hc300),hlev];refine eG ?_;(try simp only[qbj,qbw,qaI,qa6,qaS,qaw,qal,qap]);(first | exact fF | exact fZt);done) | (rw[e5 (tk _ hc500)];refine eG ?_;(try simp only[qaI,qa6,qaS,qaw,qal,qap]);(first | exact fF | exact fZt);done) | (rw[eo (fk _ hc300) (fk _ hc500)];refine eG ?_;(try simp only[qaS,qaw,qap]);exact Frz.aggL (FrzL.cons (.same rfl) (FrzL.cons (.same rfl) (FrzL.cons .nil (FrzL.cons (qcq _ rfl rfl rfl rfl (qcw m) (qdg _) (qcv m)) FrzL.nil)))) (by rfl))
  ·skip
   refine wN ?_
   rcases hkc (fk _ hc300) (fk _ hc500) with h2 | h2 | h2
   ·skip
    refine wR0 700 [1,2,3,14,15] fX ?_
    refine wL ?_
    first | (have q2:m.kind=2:=h2;refine qdG m _ (show qb7 m=_ from by simp[qb7,h2]) (by simp[h2]) (by simp[h2]) (m.states.length:Int) hm.fit.places hm.fit.ranks _ m.places.length 0 (by omega) ?_) | (have q2:m.kind=3:=h2;refine qdH m _ (show qb7 m=_ from by simp[qb7,h2]) (by simp[h2]) (by simp[h2]) (m.states.length:Int) hm.fit.places hm.fit.ranks (hm.rank h2) _ m.places.length 0 (by omega) ?_) | (have q2:m.kind≠2∧m.kind≠3:=h2;refine qdF m _ (show qb7 m=_ from by simp[qb7,h2]) (by simp[h2]) (by simp[h2]) (m.states.length:Int) hm.fit.places hm.fit.ranks _ m.places.length 0 (by omega) ?_)
    ·intro i
     refine wN ?_
     refine wR0 1700 [2] fX ?_
     refine wP ?_
     first | (rw[e4 (tk _ hc300),hlev];refine eG ?_;(try simp only[qbj,qbw,qaI,qa6,qaS,qaw,qal,qap]);(first | exact fF | exact fZt);done) | (rw[e5 (tk _ hc500)];refine eG ?_;(try simp only[qaI,qa6,qaS,qaw,qal,qap]);(first | exact fF | exact fZt);done) | (rw[eo (fk _ hc300) (fk _ hc500)];refine eG ?_;(try simp only[qaS,qaw,qap]);exact Frz.aggL (FrzL.cons (.same rfl) (FrzL.cons (.same rfl) (FrzL.cons .nil (FrzL.cons (qcq _ rfl rfl rfl rfl (qcw m) (qdg _) (qcv m)) FrzL.nil)))) (by rfl))
   ·skip
    refine wR0 700 [1,2,3,14,15] fX ?_
    refine wL ?_
    first | (have q2:m.kind=2:=h2;refine qdG m _ (show qb7 m=_ from by simp[qb7,h2]) (by simp[h2]) (by simp[h2]) (m.states.length:Int) hm.fit.places hm.fit.ranks _ m.places.length 0 (by omega) ?_) | (have q2:m.kind=3:=h2;refine qdH m _ (show qb7 m=_ from by simp[qb7,h2]) (by simp[h2]) (by simp[h2]) (m.states.length:Int) hm.fit.places hm.fit.ranks (hm.rank h2) _ m.places.length 0 (by omega) ?_) | (have q2:m.kind≠2∧m.kind≠3:=h2;refine qdF m _ (show qb7 m=_ from by simp[qb7,h2]) (by simp[h2]) (by simp[h2]) (m.states.length:Int) hm.fit.places hm.fit.ranks _ m.places.length 0 (by omega) ?_)
    ·intro i
     refine wN ?_
     refine wR0 1700 [2] fX ?_
     refine wP ?_
     first | (rw[e4 (tk _ hc300),hlev];refine eG ?_;(try simp only[qbj,qbw,qaI,qa6,qaS,qaw,qal,qap]);(first | exact fF | exact fZt);done) | (rw[e5 (tk _ hc500)];refine eG ?_;(try simp only[qaI,qa6,qaS,qaw,qal,qap]);(first | exact fF | exact fZt);done) | (rw[eo (fk _ hc300) (fk _ hc500)];refine eG ?_;(try simp only[qaS,qaw,qap]);exact Frz.aggL (FrzL.cons (.same rfl) (FrzL.cons (.same rfl) (FrzL.cons .nil (FrzL.cons (qcq _ rfl rfl rfl rfl (qcw m) (qdg _) (qcv m)) FrzL.nil)))) (by rfl))
   ·skip
    refine wR0 700 [1,2,3,14,15] fX ?_
    refine wL ?_
    first | (have q2:m.kind=2:=h2;refine qdG m _ (show qb7 m=_ from by simp[qb7,h2]) (by simp[h2]) (by simp[h2]) (m.states.length:Int) hm.fit.places hm.fit.ranks _ m.places.length 0 (by omega) ?_) | (have q2:m.kind=3:=h2;refine qdH m _ (show qb7 m=_ from by simp[qb7,h2]) (by simp[h2]) (by simp[h2]) (m.states.length:Int) hm.fit.places hm.fit.ranks (hm.rank h2) _ m.places.length 0 (by omega) ?_) | (have q2:m.kind≠2∧m.kind≠3:=h2;refine qdF m _ (show qb7 m=_ from by simp[qb7,h2]) (by simp[h2]) (by simp[h2]) (m.states.length:Int) hm.fit.places hm.fit.ranks _ m.places.length 0 (by omega) ?_)
    ·intro i
     refine wN ?_
     refine wR0 1700 [2] fX ?_
     refine wP ?_
     first | (rw[e4 (tk _ hc300),hlev];refine eG ?_;(try simp only[qbj,qbw,qaI,qa6,qaS,qaw,qal,qap]);(first | exact fF | exact fZt);done) | (rw[e5 (tk _ hc500)];refine eG ?_;(try simp only[qaI,qa6,qaS,qaw,qal,qap]);(first | exact fF | exact fZt);done) | (rw[eo (fk _ hc300) (fk _ hc500)];refine eG ?_;(try simp only[qaS,qaw,qap]);exact Frz.aggL (FrzL.cons (.same rfl) (FrzL.cons (.same rfl) (FrzL.cons .nil (FrzL.cons (qcq _ rfl rfl rfl rfl (qcw m) (qdg _) (qcv m)) FrzL.nil)))) (by rfl))
theorem SlotFz.liveA {H:Heap}{D:Nat→Bool}{ty:TypeId}{cs:List T}(h:clL D cs=true)(h1:(cs.all T.one)=true):SlotFz H D (.live ⟨ty,cs⟩) (.live ⟨ty,cs⟩):=.liveS h fun c hc=>List.all_eq_true.1 h1 c hc
theorem qdh (m:Md):Ones (mdC m):=fun c hc=>List.all_eq_true.1 (show ((mdC m).all T.one)=true from rfl) c hc
end
end Go.Proofs.YtncpdpbpcnoeeaaGreat
