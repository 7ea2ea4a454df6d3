/- Contracts of functions of the program, for all arguments that they name. -/
import Derived.Test.YtncpdpbpcnoeeaaGreatK03
import Derived.Test.YtncpdpbpcnoeeaaGreatK14
namespace Go.Proofs.YtncpdpbpcnoeeaaGreat
set_option linter.unusedVariables false
section
open Go.RowKit
set_option maxHeartbeats 2000000
attribute [local simp] qaW qae
theorem TC.fullL {P:Program}{f:FuncId}{xs:List T}{v:T}{C U:List (Nat×Slot)}(h:TC P f xs (hpL C) v (hpL U))(h1:(C.map (·.1)).Nodup)(h2:Heap.upd (hpL C) U=hpL U):TC P f xs (hp C) v ((hp C).upd U):=by
 rw[qjs C h1,h2];exact h
theorem TC.full1 {P:Program}{f:FuncId}{xs:List T}{v:T}{i:Nat}{s s':Slot}(h:TC P f xs (hpL [(i,s)]) v (hpL [(i,s')])):TC P f xs (hp [(i,s)]) v ((hp [(i,s)]).upd [(i,s')]):=
 h.fullL (by simp) (by simp[qes,qbA,qb2])
theorem TC.full2 {P:Program}{f:FuncId}{xs:List T}{v:T}{i j:Nat}{s s' t t':Slot}(h:TC P f xs (hpL [(i,s),(j,t)]) v (hpL [(i,s'),(j,t')]))(hij:i≠j):TC P f xs (hp [(i,s),(j,t)]) v ((hp [(i,s),(j,t)]).upd [(i,s'),(j,t')]):=
 h.fullL (by simp[hij]) (by simp[qes,qbA,qb2,hij])
def qnZ (a v:List Int):Bool:=allI (fun j=>!(decide (a.getD j 0<v.getD j 0)&&(v.getD j 0 != 1099511627776))) 0 a.length
def qcT (a v:List Int):Bool:=vLe a v&&!qnZ a v
theorem less_l (a b:List Int)(hl:a.length≤1000000)(hab:a.length=b.length)(Q:IExit→(Nat→T)→Heap→Prop):∀(k i:Nat),i+k=a.length→
 (allI (fun j=>!(decide (a.getD j 0<b.getD j 0)&&(b.getD j 0 != 1099511627776))) i k=true→∀j:Int,Q (.exit 0) (ofL [(1,.list (qab b)),(11,.list (qab a)),(12,.int .i64 (qab a).length),(13,.int .i64 j),(14,.bool false)]) (hpL []))→
 (allI (fun j=>!(decide (a.getD j 0<b.getD j 0)&&(b.getD j 0 != 1099511627776))) i k=false→Q .ret (ofL [(4,.bool true)]) (hpL []))→
 WL Tryz.prog 32 qgH (ofL [(1,.list (qab b)),(11,.list (qab a)),(12,.int .i64 (qab a).length),(13,.int .i64 i)]) (hpL []) Q:=by
 skip
 intro k
 induction k with
 | zero=>
  intro i hk hQ0 hQ1
  have hd:decide ((i:Int)<((qab a).length:Int))=false:=decide_eq_false (by rw[qac];omega)
  have fX:=@hd
  refine qaa qgH.eq_1 ?_
  refine wR0 400 [1,11,12,13,14] fX ?_
  refine wF @hd ?_
  refine wX ?_
  refine wN ?_
  exact hQ0 rfl _
 | succ k ih=>
  intro i hk hQ0 hQ1
  have hlt:(i:Int)<((qab a).length:Int):=by rw[qac];omega
  have hd:decide ((i:Int)<((qab a).length:Int))=true:=decide_eq_true hlt
  have hw:IntKind.wrap .i64 ((i:Int)+1)=((i+1:Nat):Int):=by rw[wrap64 (by omega) (by omega)];rfl
  have hga:=qaE a i (by omega);have hgb:=qaE b i (by omega);have hlb:(i:Int)<((qab b).length:Int):=by rw[qac];omega
  have fX:=(cJ4 @hd @hw @hga @hgb)
  refine qaa qgH.eq_1 ?_
  refine wR0 400 [1,11,12,13,14] fX ?_
  refine wT @hd ?_
  refine wR0 500 [1,5,6,11,12,13] fX ?_
  refine wR0 600 [1,11,12,13,30] fX ?_
  refine wS cJ0 (fun hc600=>?_) (fun hc600=>?_)
  ·skip
   refine wR0 700 [4] fX ?_
   refine wE ?_
   refine wN ?_
   simp at hc600
   exact hQ1 (by simp[allI,hc600])
  ·skip
   refine wR0 800 [1,11,12,13] fX ?_
   refine wN ?_
   simp at hc600
   have e:allI (fun j=>!(decide (a.getD j 0<b.getD j 0)&&(b.getD j 0 != 1099511627776))) i (k+1)=allI (fun j=>!(decide (a.getD j 0<b.getD j 0)&&(b.getD j 0 != 1099511627776))) (i+1) k:=(by have hp:(!(decide (a.getD i 0<b.getD i 0)&&(b.getD i 0 != 1099511627776)))=true:=(by simp;omega);simp only[allI,hp,Bool.true_and])
   rw[e] at hQ0 hQ1
   exact ih (i+1) (by omega) hQ0 hQ1
theorem qnF (a b:List Int)(hl:a.length≤1000000)(hm:b.length≤1000000):TP Tryz.prog 152 [.list (qab a),.list (qab b)] (.bool (qcT a b)):=by
 have hv:=qhd a b hl hm
 rcases h1:vLe a b with _ | _
 ·rw[h1] at hv
  refine qai fn152 (by simp) ?_
  unfold i152
  simp only[argL]
  refine wR0 0 [0,1] cJ0 ?_
  refine wRn 100 [0,1,10] cJ0 ?_
  refine rC cJ0 ?_
  refine⟨_,hv,rE cJ0 ?_⟩
  refine wT cJ0 ?_
  refine wR0 200 [4] cJ0 ?_
  refine wP ?_
  exact qad (by rw[qcT,h1];rfl)
 ·rw[h1] at hv
  have hab:a.length=b.length:=by
   simp only[vLe,Bool.and_eq_true,beq_iff_eq] at h1
   have:=h1.1.2;omega
  refine qai fn152 (by simp) ?_
  unfold i152
  simp only[argL]
  refine wR0 0 [0,1] cJ0 ?_
  refine wRn 100 [0,1,10] cJ0 ?_
  refine rC cJ0 ?_
  refine⟨_,hv,rE cJ0 ?_⟩
  refine wF cJ0 ?_
  refine wR0 300 [1,11,12,13] cJ0 ?_
  refine wL ?_
  refine less_l a b hl hab _ a.length 0 (by omega) ?_ ?_
  ·intro h i
   refine wN ?_
   refine wR0 900 [4] cJ0 ?_
   refine wP ?_
   exact qad (by have h:qnZ a b=true:=h;rw[qcT,h1,h];rfl)
  ·intro h
   refine wN ?_
   exact⟨by simp,_,rfl,by exact qad (by have h:qnZ a b=false:=h;rw[qcT,h1,h];rfl)⟩
def qbK (a v:List Int):List Int:=(List.range v.length).map fun j=>if a.getD j 0<v.getD j 0 then 1099511627776 else v.getD j 0
theorem qa3 (a v:List Int):(qbK a v).length=v.length:=by simp[qbK]
theorem qbO (a v:List Int)(j:Nat)(h:j<v.length):(qbK a v).getD j 0=if a.getD j 0<v.getD j 0 then 1099511627776 else v.getD j 0:=by
 simp[qbK,List.getD_eq_getElem?_getD,h]
def bnd (v:List Int):Nat:=v.countP fun x=>x != 1099511627776
theorem qhm {α:Type}(p q:α→Bool):∀(l:List α),(∀x∈l,q x=true→p x=true)→(∃x∈l,p x=true∧q x=false)→l.countP q<l.countP p
 | [],_,h=>by obtain⟨x,hx,_⟩:=h;cases hx
 | a::l,h1,h2=>by
  rw[List.countP_cons,List.countP_cons]
  have hle:l.countP q≤l.countP p:=List.countP_mono_left fun x hx hq=>h1 x (List.mem_cons_of_mem _ hx) hq
  obtain⟨x,hx,hp,hq⟩:=h2
  rcases List.mem_cons.1 hx with rfl | hx
  ·rw[hp,hq];simp;omega
  ·have ih:=qhm p q l (fun y hy=>h1 y (List.mem_cons_of_mem _ hy)) ⟨x,hx,hp,hq⟩
   have:=h1 a (List.mem_cons_self ..)
   cases hqa:q a with
   | true=>rw[this hqa];simp;omega
   | false=>simp;cases p a<;>simp<;>omega
theorem qoY (v:List Int):bnd v=(List.range v.length).countP fun j=>v.getD j 0 != 1099511627776:=by
 have e:v=(List.range v.length).map fun j=>v.getD j 0:=by
  apply List.ext_getElem
  ·simp
  ·intro i h1 h2;simp[List.getD_eq_getElem?_getD,h1]
 conv=>lhs;rw[bnd,e,List.countP_map]
 rfl
theorem qeX {a v:List Int}(h:qcT a v=true):bnd (qbK a v)<bnd v:=by
 rw[qoY,qoY,qa3]
 simp only[qcT,Bool.and_eq_true,Bool.not_eq_true'] at h
 obtain⟨h0,h1⟩:=h
 have hab:a.length=v.length:=by
  simp only[vLe,Bool.and_eq_true,beq_iff_eq] at h0
  have:=h0.1.2;omega
 have hex:∃j,j<a.length∧a.getD j 0<v.getD j 0∧v.getD j 0≠1099511627776:=by
  refine Classical.byContradiction fun hn=>?_
  have:qnZ a v=true:=(qbC _ _ _).2 fun j _ hj=>by
   simp only[Bool.not_eq_true',Bool.and_eq_false_iff,decide_eq_false_iff_not,bne_eq_false_iff_eq]
   refine Classical.byContradiction fun hc=>hn ⟨j,by omega,?_⟩
   simp only[not_or] at hc
   exact⟨by omega,hc.2⟩
  rw[this] at h1;cases h1
 obtain⟨j,hj,hlt,hne⟩:=hex
 refine qhm _ _ _ (fun k hk hq=>?_) ⟨j,List.mem_range.2 (by omega),by simpa using hne,?_⟩
 ·rw[qbO _ _ _ (List.mem_range.1 hk)] at hq
  split at hq
  ·simp at hq
  ·exact hq
 ·rw[qbO _ _ _ (by omega),if_pos hlt];rfl
def qce (vs:List (List Int)):Nat→List Int→List Int
 | 0,v=>v
 | f+1,v=>match vs.find? fun a=>qcT a v with
  | none=>v
  | some a=>qce vs f (qbK a v)
theorem qfF (vs:List (List Int)):∀(f g:Nat) (v:List Int),bnd v<f→bnd v<g→qce vs f v=qce vs g v
 | 0,g,v,h,_=>absurd h (Nat.not_lt_zero _)
 | f+1,0,v,_,h=>absurd h (Nat.not_lt_zero _)
 | f+1,g+1,v,h1,h2=>by
  rw[qce,qce]
  split
  ·rfl
  ·rename_i a ha
   have:=qeX (List.find?_some (p:=fun a=>qcT a v) ha)
   exact qfF vs f g _ (by omega) (by omega)
def qaZ (vs:List (List Int))(v:List Int):List Int:=qce vs (bnd v+1) v
theorem qiR {vs:List (List Int)}{v:List Int}(h:∀a∈vs,qcT a v=false):qaZ vs v=v:=by
 rw[qaZ,qce,List.find?_eq_none.2 fun a ha=>by rw[h a ha];simp]
theorem qiS {vs:List (List Int)}{v:List Int}{k:Nat}(hk:k<vs.length)(h0:∀j,j<k→qcT (vs.getD j []) v=false)(h1:qcT (vs.getD k []) v=true):qaZ vs v=qaZ vs (qbK (vs.getD k []) v):=by
 have hf:(vs.find? fun a=>qcT a v)=some (vs.getD k []):=by
  rw[List.find?_eq_some_iff_getElem]
  refine⟨h1,k,hk,by simp[List.getD_eq_getElem?_getD,hk],fun j hj=>?_⟩
  have:=h0 j hj
  simpa [List.getD_eq_getElem?_getD,show j<vs.length by omega] using this
 have hb:=qeX h1
 rw[qaZ,qce,hf,qaZ]
 exact qfF vs _ _ _ (by omega) (by omega)
theorem qgj (vs:List (List Int)):∀(f:Nat) (v:List Int),(qce vs f v).length=v.length
 | 0,_=>rfl
 | f+1,v=>by
  rw[qce]
  split
  ·rfl
  ·rw[qgj vs f,qa3]
theorem qoA {H:Heap}{D:Nat→Bool}(l:List Nn):SlotFz H D (sG l) (sG l):=SlotFz.liveS (qaW _ l) (qei l)
theorem TC_fnG {P:Program}{f:FuncId}{N:Nat}{ic:ICode}{rs:List (Nat×Option Nat)}{args:List T}{l l':List Nn}{r:T}(h:FnOk P f N rs ic)(hn:args.length≤N)
 (hw:W P N ic (ofL (argL 0 args)) (hpL [(700,sG l)]) fun e env' H''=>(e=.ret∨e=.normal)∧∃x hl hl',resT env' H'' rs=some x∧H''=hpL hl∧Fz (hpL hl) (inL [700]) x r∧LFz (hpL hl) [700] hl hl'∧qak [700] hl'=[(700,sG l')]):TC P f args (hpL [(700,sG l)]) r (hpL [(700,sG l')]):=
 qoS [700] h hn rfl hw
theorem up_fz {H:Heap}{f:FuncId}{ty ti ts:TypeId}(l:List Nn)(next i s:Int)(h0:H 0=.live ⟨ty,grT 700 l next⟩)(h1:H 1=.live ⟨ti,[.int .i64 i]⟩)(h2:H 2=.live ⟨ts,[.int .i64 s]⟩) :
 Fz H (inL [700]) (.fn f [.ref 1 1 0,.ref 0 2 0,.ref 2 1 0]) (.fn f (qeB 700 l next i s)):=by
 have one:∀ {n:Int} {id:Nat} {t:TypeId},H id=.live ⟨t,[.int .i64 n]⟩→inL [700] id=false→Fz H (inL [700]) (.ref id 1 0) (.ptr [.int .i64 n]):=fun {n id t} h hd=>
  .ref h hd rfl (Nat.le_refl _) (fun c hc=>by rw[List.mem_singleton.1 hc];rfl) fun k hk=>by
   have:k=0:=by simpa using hk
   subst this;exact .same rfl
 refine Fz.fn rfl fun k hk=>?_
 match k,hk with
 | 0,_=>exact one h1 rfl
 | 1,_=>
  refine Fz.ref h0 rfl rfl (Nat.le_refl _) (fun c hc=>?_) fun k hk=>?_
  ·simp only[List.mem_cons,List.not_mem_nil,or_false] at hc
   rcases hc with rfl | rfl<;>rfl
  ·match k,hk with
   | 0,_=>exact .same rfl
   | 1,_=>exact .same rfl
 | 2,_=>exact one h2 rfl
theorem up_tc (l:List Nn)(next i s:Int):TC Tryz.prog 89 [.agg (grT 700 l next),.int .i64 i,.int .i64 s] (hpL [(700,sG l)]) (.fn 151 (qeB 700 l next i s)) (hpL [(700,sG l)]):=by
 refine TC_fnG fn89 (by simp) ?_
 unfold i89
 simp only[argL]
 refine wR0 0 [3,4,5] cJ0 ?_
 refine wR0 100 [6] cJ0 ?_
 refine wE ?_
 refine wN ?_
 exact⟨by simp,_,_,_,rfl,rfl,up_fz l next i s rfl rfl rfl,.keep rfl (qoA l) (.dead rfl (fun h=>by cases h) (.dead rfl (fun h=>by cases h) (.dead rfl (fun h=>by cases h) .nil))),rfl⟩
abbrev sVv (v:List Int):Slot:=.live ⟨3,qab v⟩
abbrev raH (l:List Nn)(next:Int)(n:Nat)(v:List Int):List (Nat×Slot):=[(700,sG l),(701,sVv v),(0,.live ⟨37,grT 700 l next⟩),(1,.live ⟨27,[.sl 701 n 0 0 n]⟩)]
abbrev raE (l:List Nn)(next p s:Int)(n:Nat)(x9 x15 x17:T):List (Nat×T):=[(0,.agg (grT 700 l next)),(1,.int .i64 p),(2,.int .i64 s),(3,.sl 701 n 0 0 n),(4,.ref 0 2 0),(7,.ref 1 1 0),(9,x9),(15,x15),(17,x17)]
theorem qof (l:List Nn)(next p s:Int)(v:List Int)(Q:IExit→(Nat→T)→Heap→Prop)(hQ:Q .normal (ofL (raE l next p s v.length .undef .undef .undef)) (hpL (raH l next v.length v))) :
 W Tryz.prog 39 qp3 (ofL (argL 0 [.agg (grT 700 l next),.int .i64 p,.int .i64 s,.sl 701 v.length 0 0 v.length])) (hpL [(700,sG l),(701,sVv v)]) Q:=by
 simp only[argL]
 unfold qp3
 refine wR0 0 [0,1,2,3,4,7,9,15,17] cJ0 ?_
 refine wN ?_
 exact hQ
theorem qog (l:List Nn)(next p s:Int)(v:List Int)(x9 x15 x17:T)(Q:IExit→(Nat→T)→Heap→Prop)(hQ:Q .normal (ofL (raE l next p s v.length x9 (.fn 151 (qeB 700 l next p s)) x17)) (hpL (raH l next v.length v))) :
 W Tryz.prog 39 qnR (ofL (raE l next p s v.length x9 x15 x17)) (hpL (raH l next v.length v)) Q:=by
 simp only[raE,raH] at hQ ⊢
 unfold qnR
 refine wRn 0 [0,1,2,3,4,7,9,15,17] cJ0 ?_
 refine rU [(700,sG l)] [(700,sG l)] cJ0 ?_
 refine⟨_,TC.full1 (up_tc l next p s),rE cJ0 ?_⟩
 refine wN ?_
 exact hQ
theorem qoh (l:List Nn)(next p s:Int)(v:List Int)(x9 x15 x17:T)(Q:IExit→(Nat→T)→Heap→Prop)(hQ:Q .normal (ofL (raE l next p s v.length x17 x15 x17)) (hpL (raH l next v.length v))) :
 W Tryz.prog 39 qnS (ofL (raE l next p s v.length x9 x15 x17)) (hpL (raH l next v.length v)) Q:=by
 simp only[raE,raH] at hQ ⊢
 unfold qnS
 refine wR0 0 [0,1,2,3,4,7,9,15,17] cJ0 ?_
 refine wN ?_
 exact hQ
theorem qoi (l:List Nn)(next p s:Int)(v a:List Int)(ha:a.length≤1000000)(hv:v.length≤1000000)(x15 x17:T)(Q:IExit→(Nat→T)→Heap→Prop)(hQ0:qcT a v=false→∀x,Q (.exit 1) (ofL (raE l next p s v.length (.list (qab a)) x15 x17++[(21,x)])) (hpL (raH l next v.length v)))(hQ1:qcT a v=true→∀x,Q .normal (ofL (raE l next p s v.length (.list (qab a)) x15 x17++[(21,x)])) (hpL (raH l next v.length v))) :
 W Tryz.prog 39 qlZ (ofL (raE l next p s v.length (.list (qab a)) x15 x17)) (hpL (raH l next v.length v)) Q:=by
 simp only[raE,raH,List.cons_append,List.nil_append] at hQ0 hQ1 ⊢
 have hl:=qnF a v ha hv
 rcases hb:qcT a v with _ | _
 ·rw[hb] at hl
  unfold qlZ
  refine wRn 0 [0,1,2,3,4,7,9,15,17,21] cJ0 ?_
  refine rL [(701,sVv v)] cJ0 ?_
  refine⟨_,_,hl,(by exact FrzL.cons (.same (by simp[T.cl])) (FrzL.cons (qbt v rfl rfl rfl) FrzL.nil)),rfl,rE cJ0 ?_⟩
  refine wT cJ0 ?_
  refine wX ?_
  refine wN ?_
  exact hQ0 hb _
 ·rw[hb] at hl
  unfold qlZ
  refine wRn 0 [0,1,2,3,4,7,9,15,17,21] cJ0 ?_
  refine rL [(701,sVv v)] cJ0 ?_
  refine⟨_,_,hl,(by exact FrzL.cons (.same (by simp[T.cl])) (FrzL.cons (qbt v rfl rfl rfl) FrzL.nil)),rfl,rE cJ0 ?_⟩
  refine wF cJ0 ?_
  refine wN ?_
  exact hQ1 hb _
def mixV (a v:List Int)(i:Nat):List Int:=(qbK a v).take i++v.drop i
theorem qjM (a v:List Int)(i:Nat)(h:i≤v.length):(mixV a v i).length=v.length:=by simp[mixV,qa3];omega
theorem qjL (a v:List Int)(i:Nat)(h:i<v.length):(mixV a v i).getD i 0=v.getD i 0:=by
 simp only[mixV,List.getD_eq_getElem?_getD]
 rw[List.getElem?_append_right (by rw[List.length_take];omega),List.length_take,qa3,Nat.min_eq_left (by omega),Nat.sub_self]
 simp
theorem qhY (a v:List Int)(i:Nat)(h:i<v.length):mixV a v (i+1)=(mixV a v i).set i ((qbK a v).getD i 0):=by
 have hr:i<(qbK a v).length:=by rw[qa3];exact h
 rw[mixV,qc6 _ _ hr,mixV,List.set_append_right _ _ (by rw[List.length_take];omega),List.length_take,qa3,Nat.min_eq_left (by omega),Nat.sub_self,List.drop_eq_getElem_cons h,List.set_cons_zero]
 simp
theorem qmg (a v:List Int)(i:Nat)(h:i<v.length)(hc:¬a.getD i 0<v.getD i 0):mixV a v (i+1)=mixV a v i:=by
 rw[qhY a v i h,qbO _ _ _ h,if_neg hc,←qjL a v i h]
 have hm:i<(mixV a v i).length:=by rw[qjM a v i (by omega)];exact h
 apply List.ext_getElem
 ·simp
 ·intro k h1 h2
  rw[List.getElem_set]
  split
  ·rename_i e;subst e;simp[List.getD_eq_getElem?_getD,hm]
  ·rfl
theorem qkf (l:List Int)(x:Int)(j:Nat)(h:j<l.length):List.take j (qab l)++[.int .i64 x]++List.drop (j+1) (qab l)=qab (l.set j x):=by
 rw[List.set_eq_take_append_cons_drop,if_pos h]
 simp[qab,List.map_take,List.map_drop]
theorem qmE (l:List Int)(j:Nat)(h:j<l.length):List.take 1 (List.drop j (qab l))=[.int .i64 (l.getD j 0)]:=by
 rw[qab,←List.map_drop,List.drop_eq_getElem_cons h,List.map_cons,List.take_succ_cons,List.take_zero]
 simp[List.getD_eq_getElem?_getD,h]
set_option maxHeartbeats 4000000 in
theorem qoe (l:List Nn)(next p s:Int)(v a:List Int)(n:Nat)(hn:v.length=n)(han:a.length=n)(hv:n≤1000000)(x15 x17:T)(Q:IExit→(Nat→T)→Heap→Prop)
 (hQ:∀j:Int,Q (.exit 2) (ofL (raE l next p s n (.list (qab a)) x15 x17++[(22,.list (qab a)),(23,.int .i64 (qab a).length),(24,.int .i64 j),(25,.bool false)])) (hpL (raH l next n (qbK a v)))):∀(k i:Nat),i+k=n→
 WL Tryz.prog 39 qdU (ofL (raE l next p s n (.list (qab a)) x15 x17++[(22,.list (qab a)),(23,.int .i64 (qab a).length),(24,.int .i64 i)])) (hpL (raH l next n (mixV a v i))) Q:=by
 simp only[raE,raH,List.cons_append,List.nil_append] at hQ ⊢
 have hal:(qab a).length=n:=by rw[qac];exact han
 intro k
 induction k with
 | zero=>
  intro i hk
  have hd:decide ((i:Int)<((qab a).length:Int))=false:=decide_eq_false (by omega)
  have e:mixV a v i=qbK a v:=by
   rw[mixV,List.take_of_length_le (by rw[qa3];omega),List.drop_of_length_le (by omega),List.append_nil]
  rw[e]
  have fX:=@hd
  refine qaa qdU.eq_1 ?_
  refine wR0 100 [0,1,2,3,4,7,9,15,17,22,23,24,25] fX ?_
  refine wF @hd ?_
  refine wX ?_
  refine wN ?_
  exact hQ _
 | succ k ih=>
  intro i hk
  have hi:i<v.length:=by omega
  have hlt:(i:Int)<((qab a).length:Int):=by omega
  have hd:decide ((i:Int)<((qab a).length:Int))=true:=decide_eq_true hlt
  have hw:IntKind.wrap .i64 ((i:Int)+1)=((i+1:Nat):Int):=by rw[wrap64 (by omega) (by omega)];rfl
  have hga:=qaE a i (by omega)
  have hml:=qjM a v i (by omega)
  have hj1:((i:Nat):Int).toNat*1=i:=by simp
  have hin:(i:Int)<(n:Int):=by omega
  have hel:(qab (mixV a v i)).length=n:=by rw[qac];omega
  have hsr:=qmE (mixV a v i) i (by omega)
  rw[qjL a v i hi] at hsr
  have hQ':=ih (i+1) (by omega)
  by_cases hc:a.getD i 0<v.getD i 0
  ·have hcd:decide (a.getD i 0<v.getD i 0)=true:=decide_eq_true hc
   have hsw:=qkf (mixV a v i) 1099511627776 i (by omega)
   rw[qhY a v i hi,qbO _ _ _ hi,if_pos hc] at hQ'
   have fX:=(cJ8 @hd @hw @hga @hj1 @hel @hsr @hcd @hsw)
   refine qaa qdU.eq_1 ?_
   refine wR0 100 [0,1,2,3,4,7,9,15,17,22,23,24,25] fX ?_
   refine wT @hd ?_
   refine wR0 200 [0,1,2,3,4,7,9,10,11,15,17,22,23,24] fX ?_
   refine wR0 300 [0,1,2,3,4,7,9,10,15,17,22,23,24,34] fX ?_
   refine wT @hcd ?_
   refine wR0 400 [0,1,2,3,4,7,9,15,17,22,23,24] fX ?_
   refine wR0 500 [0,1,2,3,4,7,9,15,17,22,23,24] fX ?_
   refine wN ?_
   exact hQ'
  ·have hcd:decide (a.getD i 0<v.getD i 0)=false:=decide_eq_false hc
   rw[qmg a v i hi hc] at hQ'
   have fX:=(cJ7 @hd @hw @hga @hj1 @hel @hsr @hcd)
   refine qaa qdU.eq_1 ?_
   refine wR0 100 [0,1,2,3,4,7,9,15,17,22,23,24,25] fX ?_
   refine wT @hd ?_
   refine wR0 200 [0,1,2,3,4,7,9,10,11,15,17,22,23,24] fX ?_
   refine wR0 300 [0,1,2,3,4,7,9,10,15,17,22,23,24,34] fX ?_
   refine wF @hcd ?_
   refine wR0 500 [0,1,2,3,4,7,9,15,17,22,23,24] fX ?_
   refine wN ?_
   exact hQ'
theorem qoj (l:List Nn)(next p s:Int)(v a:List Int)(n:Nat)(hn:v.length=n)(han:a.length=n)(hv:n≤1000000)(x15 x17 x21:T)(Q:IExit→(Nat→T)→Heap→Prop)(hQ:∀env,Q .normal env (hpL (raH l next n (qbK a v)))) :
 W Tryz.prog 39 qnT (ofL (raE l next p s n (.list (qab a)) x15 x17++[(21,x21)])) (hpL (raH l next n v)) Q:=by
 have hL:=fun Q h=>qoe l next p s v a n hn han hv x15 x17 Q h n 0 (by omega)
 have e0:mixV a v 0=v:=by simp[mixV]
 rw[e0] at hL
 simp only[raE,raH,List.cons_append,List.nil_append] at hQ hL ⊢
 unfold qnT
 refine wR0 0 [0,1,2,3,4,7,9,15,17,22,23,24] cJ0 ?_
 refine wL ?_
 refine hL _ ?_
 ·intro j
  refine wN ?_
  refine wN ?_
  exact hQ _
end
end Go.Proofs.YtncpdpbpcnoeeaaGreat
