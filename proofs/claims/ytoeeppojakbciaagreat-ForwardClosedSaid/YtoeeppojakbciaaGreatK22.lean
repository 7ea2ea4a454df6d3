/- Contracts of functions of the program, for all arguments that they name. -/
import Derived.Test.YtoeeppojakbciaaGreatK04
import Derived.Test.YtoeeppojakbciaaGreatK21
namespace Go.Proofs.YtoeeppojakbciaaGreat
set_option linter.unusedVariables false
section
open Go.RowKit
set_option maxHeartbeats 2000000
attribute [local simp] qbd qae
theorem TC.fullL {P:Program}{f:FuncId}{xs:List T}{v:T}{C U:List (Nat×Slot)}(h:TC P f xs (hpL C) v (hpL U))(h1:(C.map (·.1)).Nodup)(h2:Heap.upd (hpL C) U=hpL U):TC P f xs (hp C) v ((hp C).upd U):=by
 rw[qlQ C h1,h2];exact h
theorem TC.full1 {P:Program}{f:FuncId}{xs:List T}{v:T}{i:Nat}{s s':Slot}(h:TC P f xs (hpL [(i,s)]) v (hpL [(i,s')])):TC P f xs (hp [(i,s)]) v ((hp [(i,s)]).upd [(i,s')]):=
 h.fullL (by simp) (by simp[qfB,qcd,qcG])
theorem TC.full2 {P:Program}{f:FuncId}{xs:List T}{v:T}{i j:Nat}{s s' t t':Slot}(h:TC P f xs (hpL [(i,s),(j,t)]) v (hpL [(i,s'),(j,t')]))(hij:i≠j):TC P f xs (hp [(i,s),(j,t)]) v ((hp [(i,s),(j,t)]).upd [(i,s'),(j,t')]):=
 h.fullL (by simp[hij]) (by simp[qfB,qcd,qcG,hij])
def qoW (a v:List Int):Bool:=allI (fun j=>!(decide (a.getD j 0<v.getD j 0)&&(v.getD j 0 != 1099511627776))) 0 a.length
def qcX (a v:List Int):Bool:=vLe a v&&!qoW a v
theorem less_l (a b:List Int)(hl:a.length≤1000000)(hab:a.length=b.length)(Q:IExit→(Nat→T)→Heap→Prop):∀(k i:Nat),i+k=a.length→
 (allI (fun j=>!(decide (a.getD j 0<b.getD j 0)&&(b.getD j 0 != 1099511627776))) i k=true→∀j:Int,Q (.exit 0) (ofL [(1,.list (qac b)),(11,.list (qac a)),(12,.int .i64 (qac a).length),(13,.int .i64 j),(14,.bool false)]) (hpL []))→
 (allI (fun j=>!(decide (a.getD j 0<b.getD j 0)&&(b.getD j 0 != 1099511627776))) i k=false→Q .ret (ofL [(4,.bool true)]) (hpL []))→
 WL Tryz.prog 32 qiv (ofL [(1,.list (qac b)),(11,.list (qac a)),(12,.int .i64 (qac a).length),(13,.int .i64 i)]) (hpL []) Q:=by
 skip
 intro k
 induction k with
 | zero=>
  intro i hk hQ0 hQ1
  have hd:decide ((i:Int)<((qac a).length:Int))=false:=decide_eq_false (by rw[qad];omega)
  have fX:=@hd
  refine qaa qiv.eq_1 ?_
  refine wR0 400 [1,11,12,13,14] fX ?_
  refine wF @hd ?_
  refine wX ?_
  refine wN ?_
  exact hQ0 rfl _
 | succ k ih=>
  intro i hk hQ0 hQ1
  have hlt:(i:Int)<((qac a).length:Int):=by rw[qad];omega
  have hd:decide ((i:Int)<((qac a).length:Int))=true:=decide_eq_true hlt
  have hw:IntKind.wrap .i64 ((i:Int)+1)=((i+1:Nat):Int):=by rw[wrap64 (by omega) (by omega)];rfl
  have hga:=qaN a i (by omega);have hgb:=qaN b i (by omega);have hlb:(i:Int)<((qac b).length:Int):=by rw[qad];omega
  have fX:=(cJ4 @hd @hw @hga @hgb)
  refine qaa qiv.eq_1 ?_
  refine wR0 400 [1,11,12,13,14] fX ?_
  refine wT @hd ?_
  refine wR0 500 [1,5,6,11,12,13] fX ?_
  refine wR0 600 [1,11,12,13,30] fX ?_
  refine wS cJ0 (fun hc600=>?_) (fun hc600=>?_)
  ·skip
   refine wR0 700 [4] fX ?_
   refine wE ?_
   refine wN ?_
   simp at hc600
   exact hQ1 (by simp[allI,hc600])
  ·skip
   refine wR0 800 [1,11,12,13] fX ?_
   refine wN ?_
   simp at hc600
   have e:allI (fun j=>!(decide (a.getD j 0<b.getD j 0)&&(b.getD j 0 != 1099511627776))) i (k+1)=allI (fun j=>!(decide (a.getD j 0<b.getD j 0)&&(b.getD j 0 != 1099511627776))) (i+1) k:=(by have hp:(!(decide (a.getD i 0<b.getD i 0)&&(b.getD i 0 != 1099511627776)))=true:=(by simp;omega);simp only[allI,hp,Bool.true_and])
   rw[e] at hQ0 hQ1
   exact ih (i+1) (by omega) hQ0 hQ1
theorem qqJ (a b:List Int)(hl:a.length≤1000000)(hm:b.length≤1000000):TP Tryz.prog 151 [.list (qac a),.list (qac b)] (.bool (qcX a b)):=by
 have hv:=qi5 a b hl hm
 rcases h1:vLe a b with _ | _
 ·rw[h1] at hv
  refine qah fn151 (by simp) ?_
  unfold i151
  simp only[argL]
  refine wR0 0 [0,1] cJ0 ?_
  refine wRn 100 [0,1,10] cJ0 ?_
  refine rC cJ0 ?_
  refine⟨_,hv,rE cJ0 ?_⟩
  refine wT cJ0 ?_
  refine wR0 200 [4] cJ0 ?_
  refine wP ?_
  exact qab (by rw[qcX,h1];rfl)
 ·rw[h1] at hv
  have hab:a.length=b.length:=by
   simp only[vLe,Bool.and_eq_true,beq_iff_eq] at h1
   have:=h1.1.2;omega
  refine qah fn151 (by simp) ?_
  unfold i151
  simp only[argL]
  refine wR0 0 [0,1] cJ0 ?_
  refine wRn 100 [0,1,10] cJ0 ?_
  refine rC cJ0 ?_
  refine⟨_,hv,rE cJ0 ?_⟩
  refine wF cJ0 ?_
  refine wR0 300 [1,11,12,13] cJ0 ?_
  refine wL ?_
  refine less_l a b hl hab _ a.length 0 (by omega) ?_ ?_
  ·intro h i
   refine wN ?_
   refine wR0 900 [4] cJ0 ?_
   refine wP ?_
   exact qab (by have h:qoW a b=true:=h;rw[qcX,h1,h];rfl)
  ·intro h
   refine wN ?_
   exact⟨by simp,_,rfl,by exact qab (by have h:qoW a b=false:=h;rw[qcX,h1,h];rfl)⟩
def qcn (a v:List Int):List Int:=(List.range v.length).map fun j=>if a.getD j 0<v.getD j 0 then 1099511627776 else v.getD j 0
theorem qbo (a v:List Int):(qcn a v).length=v.length:=by simp[qcn]
theorem qcc (a v:List Int)(j:Nat)(h:j<v.length):(qcn a v).getD j 0=if a.getD j 0<v.getD j 0 then 1099511627776 else v.getD j 0:=by
 simp[qcn,List.getD_eq_getElem?_getD,h]
def bnd (v:List Int):Nat:=v.countP fun x=>x != 1099511627776
theorem qjg {α:Type}(p q:α→Bool):∀(l:List α),(∀x∈l,q x=true→p x=true)→(∃x∈l,p x=true∧q x=false)→l.countP q<l.countP p
 | [],_,h=>by obtain⟨x,hx,_⟩:=h;cases hx
 | a::l,h1,h2=>by
  rw[List.countP_cons,List.countP_cons]
  have hle:l.countP q≤l.countP p:=List.countP_mono_left fun x hx hq=>h1 x (List.mem_cons_of_mem _ hx) hq
  obtain⟨x,hx,hp,hq⟩:=h2
  rcases List.mem_cons.1 hx with rfl | hx
  ·rw[hp,hq];simp;omega
  ·have ih:=qjg p q l (fun y hy=>h1 y (List.mem_cons_of_mem _ hy)) ⟨x,hx,hp,hq⟩
   have:=h1 a (List.mem_cons_self ..)
   cases hqa:q a with
   | true=>rw[this hqa];simp;omega
   | false=>simp;cases p a<;>simp<;>omega
theorem qsg (v:List Int):bnd v=(List.range v.length).countP fun j=>v.getD j 0 != 1099511627776:=by
 have e:v=(List.range v.length).map fun j=>v.getD j 0:=by
  apply List.ext_getElem
  ·simp
  ·intro i h1 h2;simp[List.getD_eq_getElem?_getD,h1]
 conv=>lhs;rw[bnd,e,List.countP_map]
 rfl
theorem qgg {a v:List Int}(h:qcX a v=true):bnd (qcn a v)<bnd v:=by
 rw[qsg,qsg,qbo]
 simp only[qcX,Bool.and_eq_true,Bool.not_eq_true'] at h
 obtain⟨h0,h1⟩:=h
 have hab:a.length=v.length:=by
  simp only[vLe,Bool.and_eq_true,beq_iff_eq] at h0
  have:=h0.1.2;omega
 have hex:∃j,j<a.length∧a.getD j 0<v.getD j 0∧v.getD j 0≠1099511627776:=by
  refine Classical.byContradiction fun hn=>?_
  have:qoW a v=true:=(qbv _ _ _).2 fun j _ hj=>by
   simp only[Bool.not_eq_true',Bool.and_eq_false_iff,decide_eq_false_iff_not,bne_eq_false_iff_eq]
   refine Classical.byContradiction fun hc=>hn ⟨j,by omega,?_⟩
   simp only[not_or] at hc
   exact⟨by omega,hc.2⟩
  rw[this] at h1;cases h1
 obtain⟨j,hj,hlt,hne⟩:=hex
 refine qjg _ _ _ (fun k hk hq=>?_) ⟨j,List.mem_range.2 (by omega),by simpa using hne,?_⟩
 ·rw[qcc _ _ _ (List.mem_range.1 hk)] at hq
  split at hq
  ·simp at hq
  ·exact hq
 ·rw[qcc _ _ _ (by omega),if_pos hlt];rfl
def qco (vs:List (List Int)):Nat→List Int→List Int
 | 0,v=>v
 | f+1,v=>match vs.find? fun a=>qcX a v with
  | none=>v
  | some a=>qco vs f (qcn a v)
theorem qhb (vs:List (List Int)):∀(f g:Nat) (v:List Int),bnd v<f→bnd v<g→qco vs f v=qco vs g v
 | 0,g,v,h,_=>absurd h (Nat.not_lt_zero _)
 | f+1,0,v,_,h=>absurd h (Nat.not_lt_zero _)
 | f+1,g+1,v,h1,h2=>by
  rw[qco,qco]
  split
  ·rfl
  ·rename_i a ha
   have:=qgg (List.find?_some (p:=fun a=>qcX a v) ha)
   exact qhb vs f g _ (by omega) (by omega)
def qbe (vs:List (List Int))(v:List Int):List Int:=qco vs (bnd v+1) v
theorem qk3 {vs:List (List Int)}{v:List Int}(h:∀a∈vs,qcX a v=false):qbe vs v=v:=by
 rw[qbe,qco,List.find?_eq_none.2 fun a ha=>by rw[h a ha];simp]
theorem qk4 {vs:List (List Int)}{v:List Int}{k:Nat}(hk:k<vs.length)(h0:∀j,j<k→qcX (vs.getD j []) v=false)(h1:qcX (vs.getD k []) v=true):qbe vs v=qbe vs (qcn (vs.getD k []) v):=by
 have hf:(vs.find? fun a=>qcX a v)=some (vs.getD k []):=by
  rw[List.find?_eq_some_iff_getElem]
  refine⟨h1,k,hk,by simp[List.getD_eq_getElem?_getD,hk],fun j hj=>?_⟩
  have:=h0 j hj
  simpa [List.getD_eq_getElem?_getD,show j<vs.length by omega] using this
 have hb:=qgg h1
 rw[qbe,qco,hf,qbe]
 exact qhb vs _ _ _ (by omega) (by omega)
theorem qhQ (vs:List (List Int)):∀(f:Nat) (v:List Int),(qco vs f v).length=v.length
 | 0,_=>rfl
 | f+1,v=>by
  rw[qco]
  split
  ·rfl
  ·rw[qhQ vs f,qbo]
theorem qrO {H:Heap}{D:Nat→Bool}(l:List Nn):SlotFz H D (sG l) (sG l):=SlotFz.liveS (qbd _ l) (qfm l)
theorem TC_fnG {P:Program}{f:FuncId}{N:Nat}{ic:ICode}{rs:List (Nat×Option Nat)}{args:List T}{l l':List Nn}{r:T}(h:FnOk P f N rs ic)(hn:args.length≤N)
 (hw:W P N ic (ofL (argL 0 args)) (hpL [(700,sG l)]) fun e env' H''=>(e=.ret∨e=.normal)∧∃x hl hl',resT env' H'' rs=some x∧H''=hpL hl∧Fz (hpL hl) (inL [700]) x r∧LFz (hpL hl) [700] hl hl'∧qan [700] hl'=[(700,sG l')]):TC P f args (hpL [(700,sG l)]) r (hpL [(700,sG l')]):=
 qsa [700] h hn rfl hw
theorem up_fz {H:Heap}{f:FuncId}{ty ti ts:TypeId}(l:List Nn)(next i s:Int)(h0:H 0=.live ⟨ty,grT 700 l next⟩)(h1:H 1=.live ⟨ti,[.int .i64 i]⟩)(h2:H 2=.live ⟨ts,[.int .i64 s]⟩) :
 Fz H (inL [700]) (.fn f [.ref 1 1 0,.ref 0 2 0,.ref 2 1 0]) (.fn f (qfM 700 l next i s)):=by
 have one:∀ {n:Int} {id:Nat} {t:TypeId},H id=.live ⟨t,[.int .i64 n]⟩→inL [700] id=false→Fz H (inL [700]) (.ref id 1 0) (.ptr [.int .i64 n]):=fun {n id t} h hd=>
  .ref h hd rfl (Nat.le_refl _) (fun c hc=>by rw[List.mem_singleton.1 hc];rfl) fun k hk=>by
   have:k=0:=by simpa using hk
   subst this;exact .same rfl
 refine Fz.fn rfl fun k hk=>?_
 match k,hk with
 | 0,_=>exact one h1 rfl
 | 1,_=>
  refine Fz.ref h0 rfl rfl (Nat.le_refl _) (fun c hc=>?_) fun k hk=>?_
  ·simp only[List.mem_cons,List.not_mem_nil,or_false] at hc
   rcases hc with rfl | rfl<;>rfl
  ·match k,hk with
   | 0,_=>exact .same rfl
   | 1,_=>exact .same rfl
 | 2,_=>exact one h2 rfl
theorem up_tc (l:List Nn)(next i s:Int):TC Tryz.prog 88 [.agg (grT 700 l next),.int .i64 i,.int .i64 s] (hpL [(700,sG l)]) (.fn 150 (qfM 700 l next i s)) (hpL [(700,sG l)]):=by
 refine TC_fnG fn88 (by simp) ?_
 unfold i88
 simp only[argL]
 refine wR0 0 [3,4,5] cJ0 ?_
 refine wR0 100 [6] cJ0 ?_
 refine wE ?_
 refine wN ?_
 exact⟨by simp,_,_,_,rfl,rfl,up_fz l next i s rfl rfl rfl,.keep rfl (qrO l) (.dead rfl (fun h=>by cases h) (.dead rfl (fun h=>by cases h) (.dead rfl (fun h=>by cases h) .nil))),rfl⟩
abbrev sVv (v:List Int):Slot:=.live ⟨3,qac v⟩
abbrev raH (l:List Nn)(next:Int)(n:Nat)(v:List Int):List (Nat×Slot):=[(700,sG l),(701,sVv v),(0,.live ⟨37,grT 700 l next⟩),(1,.live ⟨27,[.sl 701 n 0 0 n]⟩)]
abbrev raE (l:List Nn)(next p s:Int)(n:Nat)(x9 x15 x17:T):List (Nat×T):=[(0,.agg (grT 700 l next)),(1,.int .i64 p),(2,.int .i64 s),(3,.sl 701 n 0 0 n),(4,.ref 0 2 0),(7,.ref 1 1 0),(9,x9),(15,x15),(17,x17)]
theorem qrp (l:List Nn)(next p s:Int)(v:List Int)(Q:IExit→(Nat→T)→Heap→Prop)(hQ:Q .normal (ofL (raE l next p s v.length .undef .undef .undef)) (hpL (raH l next v.length v))) :
 W Tryz.prog 39 qtn (ofL (argL 0 [.agg (grT 700 l next),.int .i64 p,.int .i64 s,.sl 701 v.length 0 0 v.length])) (hpL [(700,sG l),(701,sVv v)]) Q:=by
 simp only[argL]
 unfold qtn
 refine wR0 0 [0,1,2,3,4,7,9,15,17] cJ0 ?_
 refine wN ?_
 exact hQ
theorem qrq (l:List Nn)(next p s:Int)(v:List Int)(x9 x15 x17:T)(Q:IExit→(Nat→T)→Heap→Prop)(hQ:Q .normal (ofL (raE l next p s v.length x9 (.fn 150 (qfM 700 l next p s)) x17)) (hpL (raH l next v.length v))) :
 W Tryz.prog 39 qqU (ofL (raE l next p s v.length x9 x15 x17)) (hpL (raH l next v.length v)) Q:=by
 simp only[raE,raH] at hQ ⊢
 unfold qqU
 refine wRn 0 [0,1,2,3,4,7,9,15,17] cJ0 ?_
 refine rU [(700,sG l)] [(700,sG l)] cJ0 ?_
 refine⟨_,TC.full1 (up_tc l next p s),rE cJ0 ?_⟩
 refine wN ?_
 exact hQ
theorem qrr (l:List Nn)(next p s:Int)(v:List Int)(x9 x15 x17:T)(Q:IExit→(Nat→T)→Heap→Prop)(hQ:Q .normal (ofL (raE l next p s v.length x17 x15 x17)) (hpL (raH l next v.length v))) :
 W Tryz.prog 39 qqV (ofL (raE l next p s v.length x9 x15 x17)) (hpL (raH l next v.length v)) Q:=by
 simp only[raE,raH] at hQ ⊢
 unfold qqV
 refine wR0 0 [0,1,2,3,4,7,9,15,17] cJ0 ?_
 refine wN ?_
 exact hQ
theorem qrs (l:List Nn)(next p s:Int)(v a:List Int)(ha:a.length≤1000000)(hv:v.length≤1000000)(x15 x17:T)(Q:IExit→(Nat→T)→Heap→Prop)(hQ0:qcX a v=false→∀x,Q (.exit 1) (ofL (raE l next p s v.length (.list (qac a)) x15 x17++[(21,x)])) (hpL (raH l next v.length v)))(hQ1:qcX a v=true→∀x,Q .normal (ofL (raE l next p s v.length (.list (qac a)) x15 x17++[(21,x)])) (hpL (raH l next v.length v))) :
 W Tryz.prog 39 qoL (ofL (raE l next p s v.length (.list (qac a)) x15 x17)) (hpL (raH l next v.length v)) Q:=by
 simp only[raE,raH,List.cons_append,List.nil_append] at hQ0 hQ1 ⊢
 have hl:=qqJ a v ha hv
 rcases hb:qcX a v with _ | _
 ·rw[hb] at hl
  unfold qoL
  refine wRn 0 [0,1,2,3,4,7,9,15,17,21] cJ0 ?_
  refine rL [(701,sVv v)] cJ0 ?_
  refine⟨_,_,hl,(by exact FrzL.cons (.same (by simp[T.cl])) (FrzL.cons (qbx v rfl rfl rfl) FrzL.nil)),rfl,rE cJ0 ?_⟩
  refine wT cJ0 ?_
  refine wX ?_
  refine wN ?_
  exact hQ0 hb _
 ·rw[hb] at hl
  unfold qoL
  refine wRn 0 [0,1,2,3,4,7,9,15,17,21] cJ0 ?_
  refine rL [(701,sVv v)] cJ0 ?_
  refine⟨_,_,hl,(by exact FrzL.cons (.same (by simp[T.cl])) (FrzL.cons (qbx v rfl rfl rfl) FrzL.nil)),rfl,rE cJ0 ?_⟩
  refine wF cJ0 ?_
  refine wN ?_
  exact hQ1 hb _
def mixV (a v:List Int)(i:Nat):List Int:=(qcn a v).take i++v.drop i
theorem qmg (a v:List Int)(i:Nat)(h:i≤v.length):(mixV a v i).length=v.length:=by simp[mixV,qbo];omega
theorem qmf (a v:List Int)(i:Nat)(h:i<v.length):(mixV a v i).getD i 0=v.getD i 0:=by
 simp only[mixV,List.getD_eq_getElem?_getD]
 rw[List.getElem?_append_right (by rw[List.length_take];omega),List.length_take,qbo,Nat.min_eq_left (by omega),Nat.sub_self]
 simp
theorem qjV (a v:List Int)(i:Nat)(h:i<v.length):mixV a v (i+1)=(mixV a v i).set i ((qcn a v).getD i 0):=by
 have hr:i<(qcn a v).length:=by rw[qbo];exact h
 rw[mixV,qcJ _ _ hr,mixV,List.set_append_right _ _ (by rw[List.length_take];omega),List.length_take,qbo,Nat.min_eq_left (by omega),Nat.sub_self,List.drop_eq_getElem_cons h,List.set_cons_zero]
 simp
theorem qo2 (a v:List Int)(i:Nat)(h:i<v.length)(hc:¬a.getD i 0<v.getD i 0):mixV a v (i+1)=mixV a v i:=by
 rw[qjV a v i h,qcc _ _ _ h,if_neg hc,←qmf a v i h]
 have hm:i<(mixV a v i).length:=by rw[qmg a v i (by omega)];exact h
 apply List.ext_getElem
 ·simp
 ·intro k h1 h2
  rw[List.getElem_set]
  split
  ·rename_i e;subst e;simp[List.getD_eq_getElem?_getD,hm]
  ·rfl
theorem qkw (l:List Int)(x:Int)(j:Nat)(h:j<l.length):List.take j (qac l)++[.int .i64 x]++List.drop (j+1) (qac l)=qac (l.set j x):=by
 rw[List.set_eq_take_append_cons_drop,if_pos h]
 simp[qac,List.map_take,List.map_drop]
theorem qk6 (l:List Int)(j:Nat)(h:j<l.length):List.take 1 (List.drop j (qac l))=[.int .i64 (l.getD j 0)]:=by
 rw[qac,←List.map_drop,List.drop_eq_getElem_cons h,List.map_cons,List.take_succ_cons,List.take_zero]
 simp[List.getD_eq_getElem?_getD,h]
set_option maxHeartbeats 4000000 in
theorem qro (l:List Nn)(next p s:Int)(v a:List Int)(n:Nat)(hn:v.length=n)(han:a.length=n)(hv:n≤1000000)(x15 x17:T)(Q:IExit→(Nat→T)→Heap→Prop)
 (hQ:∀j:Int,Q (.exit 2) (ofL (raE l next p s n (.list (qac a)) x15 x17++[(22,.list (qac a)),(23,.int .i64 (qac a).length),(24,.int .i64 j),(25,.bool false)])) (hpL (raH l next n (qcn a v)))):∀(k i:Nat),i+k=n→
 WL Tryz.prog 39 qeT (ofL (raE l next p s n (.list (qac a)) x15 x17++[(22,.list (qac a)),(23,.int .i64 (qac a).length),(24,.int .i64 i)])) (hpL (raH l next n (mixV a v i))) Q:=by
 simp only[raE,raH,List.cons_append,List.nil_append] at hQ ⊢
 have hal:(qac a).length=n:=by rw[qad];exact han
 intro k
 induction k with
 | zero=>
  intro i hk
  have hd:decide ((i:Int)<((qac a).length:Int))=false:=decide_eq_false (by omega)
  have e:mixV a v i=qcn a v:=by
   rw[mixV,List.take_of_length_le (by rw[qbo];omega),List.drop_of_length_le (by omega),List.append_nil]
  rw[e]
  have fX:=@hd
  refine qaa qeT.eq_1 ?_
  refine wR0 100 [0,1,2,3,4,7,9,15,17,22,23,24,25] fX ?_
  refine wF @hd ?_
  refine wX ?_
  refine wN ?_
  exact hQ _
 | succ k ih=>
  intro i hk
  have hi:i<v.length:=by omega
  have hlt:(i:Int)<((qac a).length:Int):=by omega
  have hd:decide ((i:Int)<((qac a).length:Int))=true:=decide_eq_true hlt
  have hw:IntKind.wrap .i64 ((i:Int)+1)=((i+1:Nat):Int):=by rw[wrap64 (by omega) (by omega)];rfl
  have hga:=qaN a i (by omega)
  have hml:=qmg a v i (by omega)
  have hj1:((i:Nat):Int).toNat*1=i:=by simp
  have hin:(i:Int)<(n:Int):=by omega
  have hel:(qac (mixV a v i)).length=n:=by rw[qad];omega
  have hsr:=qk6 (mixV a v i) i (by omega)
  rw[qmf a v i hi] at hsr
  have hQ':=ih (i+1) (by omega)
  by_cases hc:a.getD i 0<v.getD i 0
  ·have hcd:decide (a.getD i 0<v.getD i 0)=true:=decide_eq_true hc
   have hsw:=qkw (mixV a v i) 1099511627776 i (by omega)
   rw[qjV a v i hi,qcc _ _ _ hi,if_pos hc] at hQ'
   have fX:=(cJ8 @hd @hw @hga @hj1 @hel @hsr @hcd @hsw)
   refine qaa qeT.eq_1 ?_
   refine wR0 100 [0,1,2,3,4,7,9,15,17,22,23,24,25] fX ?_
   refine wT @hd ?_
   refine wR0 200 [0,1,2,3,4,7,9,10,11,15,17,22,23,24] fX ?_
   refine wR0 300 [0,1,2,3,4,7,9,10,15,17,22,23,24,34] fX ?_
   refine wT @hcd ?_
   refine wR0 400 [0,1,2,3,4,7,9,15,17,22,23,24] fX ?_
   refine wR0 500 [0,1,2,3,4,7,9,15,17,22,23,24] fX ?_
   refine wN ?_
   exact hQ'
  ·have hcd:decide (a.getD i 0<v.getD i 0)=false:=decide_eq_false hc
   rw[qo2 a v i hi hc] at hQ'
   have fX:=(cJ7 @hd @hw @hga @hj1 @hel @hsr @hcd)
   refine qaa qeT.eq_1 ?_
   refine wR0 100 [0,1,2,3,4,7,9,15,17,22,23,24,25] fX ?_
   refine wT @hd ?_
   refine wR0 200 [0,1,2,3,4,7,9,10,11,15,17,22,23,24] fX ?_
   refine wR0 300 [0,1,2,3,4,7,9,10,15,17,22,23,24,34] fX ?_
   refine wF @hcd ?_
   refine wR0 500 [0,1,2,3,4,7,9,15,17,22,23,24] fX ?_
   refine wN ?_
   exact hQ'
theorem qrt (l:List Nn)(next p s:Int)(v a:List Int)(n:Nat)(hn:v.length=n)(han:a.length=n)(hv:n≤1000000)(x15 x17 x21:T)(Q:IExit→(Nat→T)→Heap→Prop)(hQ:∀env,Q .normal env (hpL (raH l next n (qcn a v)))) :
 W Tryz.prog 39 qqW (ofL (raE l next p s n (.list (qac a)) x15 x17++[(21,x21)])) (hpL (raH l next n v)) Q:=by
 have hL:=fun Q h=>qro l next p s v a n hn han hv x15 x17 Q h n 0 (by omega)
 have e0:mixV a v 0=v:=by simp[mixV]
 rw[e0] at hL
 simp only[raE,raH,List.cons_append,List.nil_append] at hQ hL ⊢
 unfold qqW
 refine wR0 0 [0,1,2,3,4,7,9,15,17,22,23,24] cJ0 ?_
 refine wL ?_
 refine hL _ ?_
 ·intro j
  refine wN ?_
  refine wN ?_
  exact hQ _
end
section
open Go.RowKit
theorem qsx {l:List Nn}(hp:Par l)(s:Int):∀(f:Nat) (i:Int),i<l.length→∀j∈upF l s f i,j<l.length
 | 0,_,_,j,hj=>by cases hj
 | f+1,i,hi,j,hj=>by
  rw[upF] at hj
  split at hj
  ·cases hj
  ·rename_i hn
   have hb:=hp i.toNat (by omega)
   rcases List.mem_append.1 hj with h | h
   ·split at h
    ·rw[List.mem_singleton.1 h];omega
    ·cases h
   ·exact qsx hp s f _ (by omega) j h
theorem qqb {l:List Nn}(hp:Par l)(s i:Int)(hi:i<l.length):∀j∈upL l s i,j<l.length:=qsx hp s _ i hi
theorem X_skip {P:Program}{N:Nat}{ro:Option Nat}{env:Nat→T}{H:Heap}{Q:XE→(Nat→T)→Heap→Prop}(h:Q .normal env H):XRun P N ro .skip env H Q:=fun w0 A0 μ0 H0 a w A μ hs Q' hQ=>wpIn_skip (hQ .normal env H a w A μ h hs)
def upV (l:List Nn)(s i:Int):List (List Int):=(upL l s i).map fun j=>(l.getD j default).vec
theorem qt5 {x9 x15 x17 x y:T}{l:List Nn}{next p s:Int}{n:Nat}(t:Nat):ofL (raE l next p s n x9 x15 y) t=qhp [16,17] [x,y] (ofL (raE l next p s n x9 x15 x17)) t∨ofL (raE l next p s n x9 x15 y) t=.undef:=by
 simp only[qhp,putE]
 by_cases h17:t=17
 ·subst h17;left;rfl
 ·by_cases h16:t=16
  ·subst h16;right;rfl
  ·left
   rw[if_neg h17,if_neg h16]
   simp only[qbQ,qg0]
   repeat (split;rfl)
   first
    | rfl
    | (rw[if_neg (fun h=>h17 h.symm),if_neg (fun h=>h17 h.symm)])
    | simp[h17]
set_option maxHeartbeats 4000000 in
theorem qnq (l:List Nn)(hp:Par l)(hl:l≠[])(hll:l.length≤100000)(next p s:Int)(hpi:-1≤p∧p<l.length)(n:Nat)(hn:n≤1000000)(hvec:∀j,j<l.length→(l.getD j default).vec.length=n)(F:List Int)
 (Q:XE→(Nat→T)→Heap→Prop) (hQ:∀env,Q .normal env (hpL (raH l next n F))) (v:List Int) (hv:v.length=n) (hF:qbe (upV l s p) v=F) (x9 x15 x17:T) {g:Operand} {assign body r1 lab:Code} (hlab:∀env H (Q:XE→(Nat→T)→Heap→Prop),Q .normal env H→XRun Tryz.prog 39 none lab env H Q)
 (hr1:qav Tryz.prog 39 r1=some qqU) (ha:qav Tryz.prog 39 assign=some qqV) (hg:opd g=some (.tmp 15)) {p3 p4:Code} (hb:body=.block 1 (.seq p3 (.seq p4 (.goto 0)))) (h3:qav Tryz.prog 39 p3=some qoL) (h4:qav Tryz.prog 39 p4=some qqW)
 (K:(Nat→T)→Heap→Prop) (hK:∀v',v'.length=n→bnd v'<bnd v→qbe (upV l s p) v'=F→∀y9 y15 y17,K (ofL (raE l next p s n y9 y15 y17)) (hpL (raH l next n v'))) :
 XRun Tryz.prog 39 none (.seq lab (.seq r1 (.block 0 (.rangeFunc g #[16,17] assign body)))) (ofL (raE l next p s n x9 x15 x17)) (hpL (raH l next n v)) (jmpX 0 K Q):=by
 subst hb
 refine qgc (hlab _ _ _ ?_)
 show XRun _ _ _ _ _ _ _
 refine qgc (qdD hr1 ?_)
 subst hv
 refine qrq l next p s v x9 x15 x17 _ ?_
 show XRun _ _ _ _ _ _ _
 refine qkx ?_
 have hH:hpL (raH l next v.length v) 700=sG l:=rfl
 refine X_rng (caps:=qfM 700 l next p s) (xs:=upX l (upL l s p)) hg rfl (qqc hp hl hll hpi hH) (fun q hq=>by
  simp only[List.mem_cons,List.not_mem_nil,or_false] at hq
  rcases hq with rfl | rfl<;>decide) (fun x hx=>by
  obtain⟨j,_,rfl⟩:=List.mem_map.1 hx;rfl) (fun k=>qcX ((upV l s p).getD k []) v=false) (fun k e H'=>e=.goto 0∧qcX ((upV l s p).getD k []) v=true∧H'=hpL (raH l next v.length (qcn ((upV l s p).getD k []) v))) ?_ ?_ ?_
 ·intro k hk _ lp
  have hk':k<(upL l s p).length:=by simpa [upX] using hk
  have hjl:=qqb hp s p hpi.2 _ (List.getElem_mem hk')
  obtain⟨a,haE⟩:∃a,(upV l s p).getD k []=a:=⟨_,rfl⟩
  have haV:(l.getD (upL l s p)[k] default).vec=a:=by rw[←haE];simp[upV,List.getD_eq_getElem?_getD,hk']
  have hal:a.length=v.length:=by rw[←haV];exact hvec _ hjl
  have hxs:(upX l (upL l s p)).getD k []=[.int .i64 (((upL l s p)[k]:Nat):Int),.list (qac a)]:=by
   rw[←haV];simp[upX,List.getD_eq_getElem?_getD,hk']
  rw[hxs]
  simp only[haE]
  refine⟨_,_,ha,qls qt5 (qrr l next p s v _ _ (.list (qac a)) _ ⟨rfl,rfl,rfl⟩),?_⟩
  refine qkx ?_
  refine qgc (qdD h3 ?_)
  refine qrs l next p s v a (by omega) hn _ _ _ (fun hlb x=>?_) (fun hlb x=>?_)
  ·simp[IExit.x,thnX,inBX,hlb]
  ·show XRun _ _ _ _ _ _ _
   refine qgc (qdD h4 ?_)
   refine qrt l next p s v a v.length rfl hal hn _ _ _ _ (fun env=>?_)
   show XRun _ _ _ _ _ _ _
   refine X_goto ?_
   exact .inr ⟨by simp,rfl,hlb,rfl⟩
 ·intro hC
  show Q .normal _ _
  have hno:∀a∈upV l s p,qcX a v=false:=fun a ha=>by
   obtain⟨k,hk,rfl⟩:=List.getElem_of_mem ha
   have:=hC k (by simpa [upX,upV] using hk)
   simpa [List.getD_eq_getElem?_getD,hk] using this
  rw[qk3 hno] at hF
  rw[←hF] at hQ
  exact hQ _
 ·rintro k e H' hk hC hne ⟨rfl,hlb,rfl⟩
  have hk':k<(upV l s p).length:=by simpa [upX,upV] using hk
  refine⟨rfl,hK _ (qbo _ _) (qgg hlb) ?_ _ _ _⟩
  rw[←hF]
  exact (qk4 hk' hC hlb).symm
theorem qnp:∃r0 r1 g assign p3 p4,Tryz.f92.body=some (.seq r0 (.scope (.seq (.label 0) (.seq r1 (.block 0 (.rangeFunc g #[16,17] assign (.block 1 (.seq p3 (.seq p4 (.goto 0))))))))))∧
 qav Tryz.prog 39 r0=some qtn∧qav Tryz.prog 39 r1=some qqU∧qav Tryz.prog 39 assign=some qqV∧qav Tryz.prog 39 p3=some qoL∧qav Tryz.prog 39 p4=some qqW∧opd g=some (.tmp 15):=
 ⟨_,_,_,_,_,_,rfl,by kernel_rfl,by kernel_rfl,by kernel_rfl,by kernel_rfl,by kernel_rfl,by rfl⟩
set_option maxHeartbeats 4000000 in
theorem qru (l:List Nn)(hp:Par l)(hl:l≠[])(hll:l.length≤100000)(next p s:Int)(hpi:-1≤p∧p<l.length)(v:List Int)(hn:v.length≤1000000)(hvec:∀j,j<l.length→(l.getD j default).vec.length=v.length) :
 TC Tryz.prog 92 [.agg (grT 700 l next),.int .i64 p,.int .i64 s,.sl 701 v.length 0 0 v.length] (hpL [(700,sG l),(701,sVv v)]) (.tup []) (hpL [(700,sG l),(701,sVv (qbe (upV l s p) v))]):=by
 obtain⟨r0,r1,g,assign,p3,p4,hb,c0,c1,c2,c3,c4,hg⟩:=qnp
 have pass:∀(lab:Code) (hlab:∀env H (Q:XE→(Nat→T)→Heap→Prop),Q .normal env H→XRun Tryz.prog 39 none lab env H Q) (v':List Int) (x9 x15 x17:T) (K:(Nat→T)→Heap→Prop),v'.length=v.length→qbe (upV l s p) v'=qbe (upV l s p) v→(∀v2,v2.length=v.length→bnd v2<bnd v'→qbe (upV l s p) v2=qbe (upV l s p) v→∀y9 y15 y17,K (ofL (raE l next p s v.length y9 y15 y17)) (hpL (raH l next v.length v2)))→_:=fun lab hlab v' x9 x15 x17 K h1 h3 hK=>
  qnq l hp hl hll next p s hpi v.length hn hvec _ (fun e env' H''=>(e=.ret∨e=.normal)∧resT env' H'' []=some (.tup [])∧H''=hpL (raH l next v.length (qbe (upV l s p) v))) (fun env=>⟨.inr rfl,rfl,rfl⟩) v' h1 h3 x9 x15 x17 hlab c1 c2 hg rfl c3 c4 K hK
 have key:TC Tryz.prog 92 [.agg (grT 700 l next),.int .i64 p,.int .i64 s,.sl 701 v.length 0 0 v.length] (hpL [(700,sG l),(701,sVv v)]) (.tup []) (hpL (raH l next v.length (qbe (upV l s p) v))):=by
  refine TC_X (N:=39) (rs:=[]) Tryz.func92 hb rfl Tryz.call92 rfl (by simp) ?_
  refine qgc (qdD c0 ?_)
  refine qrp l next p s v _ ?_
  show XRun _ _ _ _ _ _ _
  refine qsC (rest:=.seq .skip (.seq r1 (.block 0 (.rangeFunc g #[16,17] assign (.block 1 (.seq p3 (.seq p4 (.goto 0)))))))) 0 rfl (fun n env H=>∃v' x9 x15 x17,v'.length=v.length∧bnd v'=n∧qbe (upV l s p) v'=qbe (upV l s p) v∧env=ofL (raE l next p s v.length x9 x15 x17)∧H=hpL (raH l next v.length v')) ?_ ?_
  ·refine pass _ (fun env H Q h=>qsB h) v _ _ _ _ rfl rfl ?_
   exact fun v' h1 _ h3 y9 y15 y17=>⟨_,v',y9,y15,y17,h1,rfl,h3,rfl,rfl⟩
  ·rintro n env H ⟨v',x9,x15,x17,h1,h2,h3,rfl,rfl⟩
   refine pass _ (fun env H Q h=>X_skip h) v' _ _ _ _ h1 h3 ?_
   exact fun v2 k1 k2 k3 y9 y15 y17=>⟨_,h2▸k2,v2,y9,y15,y17,k1,rfl,k3,rfl,rfl⟩
 exact qdU [700,701] key rfl rfl (by simp[qan,inL,Slot.cl,qbd,qae])
end
end Go.Proofs.YtoeeppojakbciaaGreat
