/- Contracts of functions of the program, for all arguments that they name. -/
import Derived.Below
import Derived.Test.YtoeeppojakbciaaGreatK27
import Derived.Test.YtoeeppojakbciaaGreatK28
import Derived.Test.YtoeeppojakbciaaGreatK31
namespace Go.Proofs.YtoeeppojakbciaaGreat
set_option linter.unusedVariables false
section
open Go.RowKit
open Go.ChangeShapes
def qhZ (k:IntKind)(w:World)(a:Option Addr)(len cap:Nat)(zs:List Int):Prop:=
 (a=none∧len=0∧cap=0∧zs=[])∨
 ∃x,a=some x∧len≤cap∧cap≤maxLen∧zs.length=cap∧(∀i,i<zs.length→w.cell? (x.add i)=some (.int k (zs.getD i 0)))∧∀n∈zs,(Lit.int k n).wf=true
def staW (w:World):Sta:=fun b _=>b<w.heap.size
def qgz (k:IntKind)(l:List Int):List T:=l.map fun n=>.int k n
theorem qhF (k:IntKind):∀l:List Int,flat (qgz k l)=qgz k l
 | []=>rfl
 | x::l=>by
  show (T.int k x).cells++flat (qgz k l)=_
  rw[qhF k l]
  rfl
theorem qhZ.rep {k:IntKind}{w:World}{a:Option Addr}{len cap:Nat}{zs:List Int}(μ:Nat→Nat)(H:Heap)(h:qhZ k w a len cap zs):Rep w (staW w) μ H (.slice a len cap) (.list (qgz k (zs.take len))):=by
 rcases h with⟨rfl,rfl,rfl,rfl⟩ | ⟨x,rfl,h1,h2,h3,h4,_⟩
 ·exact .lnil
 ·have hl:(qgz k (zs.take len)).length=len:=by simp[qgz];omega
  have hf:flat (qgz k (zs.take len))=qgz k (zs.take len):=qhF k _
  have hcell:∀p,p<len→w.cell? (x.add p)=some (.int k (zs.getD p 0)):=fun p hp=>h4 p (by omega)
  have hg:∀p,p<len→(qgz k (zs.take len)).getD p .undef=.int k (zs.getD p 0):=fun p hp=>by
   simp[qgz,List.getD_eq_getElem?_getD,hp,show p<zs.length by omega]
  have:=Rep.list (w:=w) (A:=staW w) (μ:=μ) (H:=H) x cap 1 (qgz k (zs.take len)) (fun p=>.int k (zs.getD p 0)) (fun y hy=>by
   obtain⟨n,_,rfl⟩:=List.mem_map.1 hy
   rfl) (by omega) (by
    rw[hf]
    intro c hc
    obtain⟨n,_,rfl⟩:=List.mem_map.1 hc
    rfl) (fun p hp=>by
    rw[hf,hl] at hp
    have:=qdw (hcell p hp)
    rwa [qbV] at this) (fun p hp=>by
    rw[hf,hl] at hp
    exact hcell p hp) (fun p hp=>by
    rw[hf,hl] at hp
    rw[hf,hg p hp]
    exact .int k _)
  rw[hl] at this
  exact this
theorem law_of {P:Program}{f:FuncId}{xs:List T}{vs:Array Value}{w:World}(h:TP P f xs (.bool true))(hR:Reps w (staW w) id (fun _=>.free) vs xs) :
 Calls P f vs w fun e w'=>e=.returned (.bool true)∧Below w.heap.size w w':=by
 refine (h.2 w (staW w) id vs ⟨(fun i j hi=>by cases hi),(fun i b hb=>by cases hb),(fun i es hb=>by cases hb),(fun i hi=>by cases hi),fun b o hb=>hb⟩ hR).mono ?_
 rintro e w' ⟨v,A',μ',rfl,h1,h2,h3⟩
 cases h1
 exact⟨rfl,h3.os,h3.tape.1,h3.output,h3.size,fun b hb=>(h3.un b hb (fun i hi=>by cases hi)).1⟩
theorem u8_of {n:Int}(h:(Lit.int .u8 n).wf=true):0≤n∧n≤255:=by
 simp only[Lit.wf,Bool.and_eq_true,decide_eq_true_eq] at h
 exact⟨h.1,h.2⟩
theorem qkM {P:Program}{f:FuncId}{w:World}{a:Option Addr}{len cap:Nat}{zs:List Int}(h:∀l:List Int,(∀j,0≤l.getD j 0∧l.getD j 0≤255)→l.length≤9223372036854775807→TP P f [.list (qb3 l)] (.bool true))(w0:qhZ .u8 w a len cap zs) :
 Calls P f #[.slice a len cap] w fun e w'=>e=.returned (.bool true)∧Below w.heap.size w w':=by
 have hz:∀n∈zs,0≤n∧n≤255:=by
  rcases w0 with⟨_,_,_,rfl⟩ | ⟨x,_,_,_,_,_,h5⟩
  ·intro n hn;cases hn
  ·exact fun n hn=>u8_of (h5 n hn)
 have hl:(zs.take len).length≤9223372036854775807:=by
  rcases w0 with⟨_,_,_,rfl⟩ | ⟨x,_,h2,h3,h4,_,_⟩
  ·simp
  ·have hm:maxLen≤9223372036854775807:=by decide
   rw[List.length_take];omega
 refine law_of (h (zs.take len) (fun j=>?_) hl) ⟨rfl,fun i hi=>by
  cases i with
  | zero=>exact w0.rep _ _
  | succ i=>simp at hi⟩
 by_cases hj:j<(zs.take len).length
 ·have:=hz (zs.take len)[j] (List.mem_of_mem_take (List.getElem_mem hj))
  rw[List.getD_eq_getElem?_getD,List.getElem?_eq_getElem hj];exact this
 ·have e:(zs.take len).getD j 0=0:=by rw[List.getD_eq_getElem?_getD,List.getElem?_eq_none (Nat.not_lt.1 hj)];rfl
  rw[e];omega
end
section
open Go.RowKit
theorem qsq {α:Type}(f:α→Int)(P:α→Prop):∀(l:List α),(∃x∈l,P x)→∃x∈l,P x∧∀y∈l,P y→f y≤f x
 | [],h=>by obtain⟨x,hx,_⟩:=h;cases hx
 | a::l,h=>by
  by_cases hl:∃x∈l,P x
  ·obtain⟨x,hx,hp,hm⟩:=qsq f P l hl
   by_cases ha:P a∧f x≤f a
   ·refine⟨a,List.mem_cons_self ..,ha.1,fun y hy hyp=>?_⟩
    rcases List.mem_cons.1 hy with rfl | hy
    ·exact Int.le_refl _
    ·exact Int.le_trans (hm y hy hyp) ha.2
   ·refine⟨x,List.mem_cons_of_mem _ hx,hp,fun y hy hyp=>?_⟩
    rcases List.mem_cons.1 hy with rfl | hy
    ·exact Int.le_of_not_gt fun hlt=>ha ⟨hyp,by omega⟩
    ·exact hm y hy hyp
  ·obtain⟨x,hx,hp⟩:=h
   rcases List.mem_cons.1 hx with rfl | hx
   ·refine⟨x,List.mem_cons_self ..,hp,fun y hy hyp=>?_⟩
    rcases List.mem_cons.1 hy with rfl | hy
    ·exact Int.le_refl _
    ·exact absurd ⟨y,hy,hyp⟩ hl
   ·exact absurd ⟨x,hx,hp⟩ hl
theorem qsv:∀(a b:List Int),a.length=b.length→(∀j,a.getD j 0≤b.getD j 0)→a.sum≤b.sum∧(a.sum=b.sum→a=b)
 | [],[],_,_=>⟨Int.le_refl _,fun _=>rfl⟩
 | [],_::_,h,_=>by simp at h
 | _::_,[],h,_=>by simp at h
 | x::a,y::b,h,hj=>by
  have ih:=qsv a b (by simpa using h) fun j=>by simpa using hj (j+1)
  have h0:x≤y:=by simpa using hj 0
  simp only[List.sum_cons]
  refine⟨by omega,fun e=>?_⟩
  have e1:x=y:=by omega
  have e2:=ih.2 (by omega)
  rw[e1,e2]
def LmsOk (N:Nat)(A:List Lm):Prop:=∀x∈A,VecOk N x.vec
theorem qf3 {A:List Lm}{x:Lm}:x∈outF A↔∃i,i<A.length∧wthA A i=false∧A.getD i default=x:=by
 rw[outF,outP,List.mem_map]
 constructor
 ·rintro ⟨i,hi,e⟩
  rw[List.mem_filter,List.mem_range,Bool.not_eq_true'] at hi
  exact⟨i,hi.1,hi.2,e⟩
 ·rintro ⟨i,h1,h2,e⟩
  exact⟨i,List.mem_filter.2 ⟨List.mem_range.2 h1,by rw[h2];rfl⟩,e⟩
theorem qgH {A:List Lm}{i:Nat}(h:i<A.length):A.getD i default∈A:=by
 simp[List.getD_eq_getElem?_getD,h]
theorem qri {N:Nat}(hN:N≤6){A:List Lm}(hA:LmsOk N A)(hs:A.Pairwise fun a b=>qbR a b<0){s:Int}{v:List Int}(hv:VecOk N v)(h:∃x∈A,x.st=s∧vLe v x.vec=true):covL (outF A) s v=true:=by
 obtain⟨x,hx,⟨h1,h2⟩,hm⟩:=qsq (fun x:Lm=>x.vec.sum) (fun x=>x.st=s∧vLe v x.vec=true) A h
 obtain⟨i,hi,rfl⟩:=List.getElem_of_mem hx
 have hg:A.getD i default=A[i]:=by simp[List.getD_eq_getElem?_getD,hi]
 rw[covL,List.any_eq_true]
 refine⟨A[i],qf3.2 ⟨i,hi,?_,hg⟩,by rw[Bool.and_eq_true,beq_iff_eq];exact⟨h1,h2⟩⟩
 rw[wthA,List.any_eq_false]
 intro k hk hw
 have hkl:=List.mem_range.1 hk
 have hgk:A.getD k default=A[k]:=by simp[List.getD_eq_getElem?_getD,hkl]
 rw[wth,hg,hgk] at hw
 simp only[Bool.and_eq_true,bne_iff_ne,ne_eq,beq_iff_eq] at hw
 obtain⟨⟨w1,w2⟩,w3⟩:=hw
 have ai:=hA _ (List.getElem_mem hi)
 have ak:=hA _ (List.getElem_mem hkl)
 have l1:=(qeD hN ai ak).1 w3
 have l2:=(qeD hN hv ai).1 h2
 have hle:=hm A[k] (List.getElem_mem hkl) ⟨by rw[←w2];exact h1,(qeD hN hv ak).2 fun j=>Int.le_trans (l2 j) (l1 j)⟩
 obtain⟨s1,s2⟩:=qsv A[i].vec A[k].vec (by rw[ai.len,ak.len]) l1
 have ev:=s2 (by omega)
 have el:A[i]=A[k]:=by
  cases h3:A[i];cases h4:A[k]
  rw[h3,h4] at w2 ev
  simp only at w2 ev
  rw[w2,ev]
 have hne:=List.pairwise_iff_getElem.1 hs
 rcases Nat.lt_or_gt_of_ne w1 with hlt | hlt
 ·have:=hne k i hkl hi hlt
  rw[el,qdW] at this;omega
 ·have:=hne i k hi hkl hlt
  rw[el,qdW] at this;omega
theorem qtu {N:Nat}{t:List Nn}(hG:TreeG N t):LmsOk N (qcs (t.map nLm)):=fun x hx=>by
 obtain⟨n,hn,rfl⟩:=List.mem_map.1 ((qeE _ _).1 hx)
 obtain⟨j,hj,rfl⟩:=List.getElem_of_mem hn
 have:=hG.vec j hj
 simpa [nLm,List.getD_eq_getElem?_getD,hj] using this
theorem qiN {N:Nat}(hN:N≤6){t:List Nn}(hG:TreeG N t){j:Nat}(hj:j<t.length){v:List Int}(hv:VecOk N v)(hle:vLe v (t.getD j default).vec=true):covL (limF t) (t.getD j default).st v=true:=by
 refine qri hN (qtu hG) (qgf _) hv ⟨nLm (t.getD j default),(qeE _ _).2 (List.mem_map.2 ⟨_,by simp[List.getD_eq_getElem?_getD,hj],rfl⟩),rfl,hle⟩
theorem qma {t:List Nn}{x:Lm}(h:x∈limF t):∃j,j<t.length∧nLm (t.getD j default)=x:=by
 obtain⟨i,h1,_,e⟩:=qf3.1 h
 have hm:x∈qcs (t.map nLm):=by rw[←e];exact qgH h1
 obtain⟨n,hn,e2⟩:=List.mem_map.1 ((qeE _ _).1 hm)
 obtain⟨j,hj,rfl⟩:=List.getElem_of_mem hn
 exact⟨j,hj,by simpa [List.getD_eq_getElem?_getD,hj] using e2⟩
theorem qqa {l:List Nn}(hp:Par l)(s:Int):∀(f:Nat) (i:Int),i<l.length→∀j∈upF l s f i,(j:Int)≤i∧(l.getD j default).st=s
 | 0,_,_,j,hj=>by cases hj
 | f+1,i,hi,j,hj=>by
  rw[upF] at hj
  split at hj
  ·cases hj
  ·rename_i hn
   have hb:=hp i.toNat (by omega)
   rcases List.mem_append.1 hj with h | h
   ·split at h
    ·rename_i he
     rw[List.mem_singleton.1 h];exact⟨by omega,he⟩
    ·cases h
   ·have:=qqa hp s f _ (by omega) j h
    exact⟨by omega,this.2⟩
theorem qkD {m:Md}{N:Nat}(hN:N≤6)(hr:qbl N m.rules){s0:Int}{v0:List Int}{t:List Nn}{k:Nat}(h:TInv m N s0 v0 t k)(hd:t.length≤k):∀(j:Nat),j<t.length→∀q,q<m.rules.length→(m.rules.getD q rlZ).from_=(t.getD j default).st→canR (m.rules.getD q rlZ) (t.getD j default).vec=true→
 ∃i,i<t.length∧(t.getD i default).st=(m.rules.getD q rlZ).to_∧VecOk N (aftR (m.rules.getD q rlZ) (t.getD j default).vec)∧vLe (aftR (m.rules.getD q rlZ) (t.getD j default).vec) (t.getD i default).vec=true:=by
 intro j
 induction j using Nat.strongRecOn with
 | ind j ih=>
  intro hj q hq hf hc
  have hmem:m.rules.getD q rlZ∈m.rules:=by simp[List.getD_eq_getElem?_getD,hq]
  rcases h.done j (by omega) with hm | hm
  ·obtain⟨a,ha,e⟩:=List.mem_map.1 hm
   have hpj:=h.good.ok.par j hj
   obtain⟨a1,a2⟩:=qqa h.good.ok.par _ _ _ (by omega) a ha
   have hal:a<j:=by omega
   have:=ih a hal (by omega) q hq (by rw[a2];exact hf) (by rw[e];exact hc)
   rwa [e] at this
  ·have hfit:qbL (m.rules.getD q rlZ) (t.getD j default).st (t.getD j default).vec=true:=by
    simp only[qbL,Bool.and_eq_true,beq_iff_eq]
    refine⟨hf,?_⟩
    rw[(hr.room (h.good.vec j hj) hmem).need]
    exact hc
   obtain⟨i,hi,hF⟩:=hm q hq hfit
   have ha:=qej hr (h.good.vec j hj) hmem hF.fits hF.aft
   refine⟨i,hi,by rw[hF.node],ha,?_⟩
   rw[hF.node]
   exact (qeD hN ha (qe1 _ _ _ ha)).2 (qha _ _ _ ha)
theorem qeW {m:Md}{N:Nat}(hN:N≤6)(hr:qbl N m.rules){s0:Int}{v0:List Int}{t:List Nn}{k:Nat}(h:TInv m N s0 v0 t k)(hd:t.length≤k){x:Lm}(hx:x∈limF t){r:Rl}(hrm:r∈m.rules)(hf:r.from_=x.st)(hc:canR r x.vec=true):covL (limF t) r.to_ (aftR r x.vec)=true:=by
 obtain⟨j,hj,rfl⟩:=qma hx
 obtain⟨q,hq,rfl⟩:=List.getElem_of_mem hrm
 have hg:m.rules.getD q rlZ=m.rules[q]:=by simp[List.getD_eq_getElem?_getD,hq]
 obtain⟨i,hi,e1,e2,e3⟩:=qkD hN hr h hd j hj q hq (by rw[hg];exact hf) (by rw[hg];exact hc)
 rw[hg] at e1 e2 e3
 rw[←e1]
 exact qiN hN h.good hi e2 e3
end
section
open Go.RowKit
set_option maxHeartbeats 2000000
attribute [local simp] qae qaJ qal qaF qa2
abbrev clH (m:Md)(l:List Nn)(k:Int)(d:Dc)(x:Lm):List (Nat×Slot):=[(99999,dcB d),(402,sMg m),(505,.live ⟨37,grC l k⟩),(1403,.live ⟨62,lmC x⟩)]
abbrev c1E (L:List Lm)(i:Nat)(k:Int):List (Nat×T):=[(4,.ref 402 10 0),(7,.list (qaA L)),(8,.int .i64 i),(9,.ref 1403 2 0),(46,.list (qaA L)),(47,.int .i64 (qaA L).length),(48,.int .i64 i),(53,.list (qaA L)),(54,.int .i64 (qaA L).length),(55,.int .i64 k)]
set_option maxHeartbeats 8000000 in
theorem qn6 (m:Md)(l:List Nn)(kk:Int)(d:Dc)(L:List Lm)(hL:L.length≤1000)(hv:∀j,j<L.length→(L.getD j default).vec.length≤1000)(i:Nat)(hi:i<L.length)
 (hC:∀k,k<L.length→i≠k→(L.getD i default).st=(L.getD k default).st→vLe (L.getD i default).vec (L.getD k default).vec=false) (Q:IExit→(Nat→T)→Heap→Prop)
 (hQ:∀j:Int,Q (.exit 2) (ofL (c1E L i j++[(56,.bool false)])) (hpL (clH m l kk d (L.getD i default)))) :
 ∀(f k:Nat),k+f=L.length→WL Tryz.prog 148 qm9 (ofL (c1E L i k)) (hpL (clH m l kk d (L.getD i default))) Q:=by
 have hva:=hv i hi
 generalize L.getD i default=a at*
 simp only[c1E,clH,grC,sMg,mdC,lmC,List.cons_append,List.nil_append] at hQ ⊢
 intro f
 induction f with
 | zero=>
  intro k hk
  have hd:decide ((k:Int)<((qaA L).length:Int))=false:=decide_eq_false (by rw[qaZ];omega)
  have fX:=@hd
  refine qaa qm9.eq_1 ?_
  refine wR0 1600 [4,7,8,9,46,47,48,53,54,55,56] fX ?_
  refine wF @hd ?_
  refine wX ?_
  refine wN ?_
  exact hQ _
 | succ f ih=>
  intro k hk
  have hil:k<L.length:=by omega
  have hlt:(k:Int)<((qaA L).length:Int):=by rw[qaZ];omega
  have hd:decide ((k:Int)<((qaA L).length:Int))=true:=decide_eq_true hlt
  have hw:IntKind.wrap .i64 ((k:Int)+1)=((k+1:Nat):Int):=by rw[wrap64 (by omega) (by omega)];rfl
  have hg:=qb8 L k hil
  have hQ':=ih (k+1) (by omega)
  have hvc:=hv k hil
  have hCk:=hC k hil
  generalize L.getD k default=c at*
  have hle:=qrM a.vec c.vec (by omega) (by omega)
  rcases hki:((i:Int) != (k:Int)) with _ | _
  ·have fX:=(cJ4 @hd @hw @hg @hki)
   refine qaa qm9.eq_1 ?_
   refine W_gc ?_
   refine wR0 1600 [4,7,8,9,46,47,48,53,54,55,56] fX ?_
   refine wT @hd ?_
   refine wR0 1700 [4,7,8,9,10,11,46,47,48,53,54,55] fX ?_
   refine wR0 1800 [4,7,8,9,46,47,48,53,54,55,76] fX ?_
   refine wF fX ?_
   refine wR0 2000 [4,7,8,9,46,47,48,53,54,55] fX ?_
   refine wN ?_
   refine qaP [99999,402,505,1403] (by simp[inL]) (by simp[inL,T.cl,qa2]) (by simp[qan,inL,Slot.cl,T.cl,clL,qaJ,qal,qaU,qae,qak,qaF]) ?_
   simpa [qan,inL] using hQ'
  ·rcases hse:(a.st==c.st) with _ | _
   ·have fX:=(cJ5 @hd @hw @hg @hki @hse)
    refine qaa qm9.eq_1 ?_
    refine W_gc ?_
    refine wR0 1600 [4,7,8,9,46,47,48,53,54,55,56] fX ?_
    refine wT @hd ?_
    refine wR0 1700 [4,7,8,9,10,11,46,47,48,53,54,55] fX ?_
    refine wR0 1800 [4,7,8,9,46,47,48,53,54,55,76] fX ?_
    refine wF fX ?_
    refine wR0 2000 [4,7,8,9,46,47,48,53,54,55] fX ?_
    refine wN ?_
    refine qaP [99999,402,505,1403] (by simp[inL]) (by simp[inL,T.cl,qa2]) (by simp[qan,inL,Slot.cl,T.cl,clL,qaJ,qal,qaU,qae,qak,qaF]) ?_
    simpa [qan,inL] using hQ'
   ·have hv0:=hCk (fun e=>by rw[e] at hki;simp at hki) (by simpa using hse)
    rw[hv0] at hle
    have fX:=(cJ5 @hd @hw @hg @hki @hse)
    refine qaa qm9.eq_1 ?_
    refine W_gc ?_
    refine wR0 1600 [4,7,8,9,46,47,48,53,54,55,56] fX ?_
    refine wT @hd ?_
    refine wR0 1700 [4,7,8,9,10,11,46,47,48,53,54,55] fX ?_
    refine wRn 1800 [4,7,8,9,46,47,48,53,54,55,76] fX ?_
    refine rC fX ?_
    refine⟨_,hle,rE fX ?_⟩
    refine wF fX ?_
    refine wR0 2000 [4,7,8,9,46,47,48,53,54,55] fX ?_
    refine wN ?_
    refine qaP [99999,402,505,1403] (by simp[inL]) (by simp[inL,T.cl,qa2]) (by simp[qan,inL,Slot.cl,T.cl,clL,qaJ,qal,qaU,qae,qak,qaF]) ?_
    simpa [qan,inL] using hQ'
abbrev c2E (m:Md)(L:List Lm)(i:Nat)(k:Int):List (Nat×T):=[(4,.ref 402 10 0),(7,.list (qaA L)),(9,.ref 1403 2 0),(46,.list (qaA L)),(47,.int .i64 (qaA L).length),(48,.int .i64 i),(115,.list (qaB m.rules)),(116,.int .i64 (qaB m.rules).length),(117,.int .i64 k)]
set_option maxHeartbeats 8000000 in
theorem qn7 (m:Md)(hm:m.rules.length≤1000)(l:List Nn)(kk:Int)(d:Dc)(L:List Lm)(hL:L.length≤1000)(hvL:∀x∈L,x.vec.length≤1000)(i:Nat)(x:Lm)(hx:x∈L)(hr:∀r∈m.rules,RoomR r x.vec)
 (hC:∀r∈m.rules,r.from_=x.st→canR r x.vec=true→covL L r.to_ (aftR r x.vec)=true) (Q:IExit→(Nat→T)→Heap→Prop)
 (hQ:∀j:Int,Q (.exit 4) (ofL (c2E m L i j++[(118,.bool false)])) (hpL (clH m l kk d x))) :
 ∀(f k:Nat),k+f=m.rules.length→WL Tryz.prog 148 qna (ofL (c2E m L i k)) (hpL (clH m l kk d x)) Q:=by
 have hxv:=hvL x hx
 simp only[c2E,clH,grC,sMg,mdC,lmC,List.cons_append,List.nil_append] at hQ ⊢
 intro f
 induction f with
 | zero=>
  intro k hk
  have hd:decide ((k:Int)<((qaB m.rules).length:Int))=false:=decide_eq_false (by rw[qaD];omega)
  have fX:=@hd
  refine qaa qna.eq_1 ?_
  refine wR0 2400 [4,7,9,46,47,48,115,116,117,118] fX ?_
  refine wF @hd ?_
  refine wX ?_
  refine wN ?_
  exact hQ _
 | succ f ih=>
  intro k hk
  have hil:k<m.rules.length:=by omega
  have hlt:(k:Int)<((qaB m.rules).length:Int):=by rw[qaD];omega
  have hd:decide ((k:Int)<((qaB m.rules).length:Int))=true:=decide_eq_true hlt
  have hw:IntKind.wrap .i64 ((k:Int)+1)=((k+1:Nat):Int):=by rw[wrap64 (by omega) (by omega)];rfl
  have hg:=qou m.rules k hil
  have hQ':=ih (k+1) (by omega)
  have hmem:m.rules.getD k rlZ∈m.rules:=by simp[List.getD_eq_getElem?_getD,hil]
  have hrr:=hr _ hmem
  have hCr:=hC _ hmem
  generalize m.rules.getD k rlZ=r at*
  have hfr:=qsY r x.vec (by omega) hrr
  rw[qsV] at hfr
  simp only[qa0,rlC] at hg hfr
  by_cases hf:r.from_=x.st
  ·have hd1:(r.from_ != x.st)=false:=by simpa using hf
   cases hc:canR r x.vec with
   | true=>
    have hcv:=qeI L (by omega) (fun y hy=>by have:=hvL y hy;omega) r.to_ (aftR r x.vec) (by rw[qbq];omega)
    rw[hCr hf hc] at hcv
    rw[hc,if_pos rfl] at hfr
    have fX:=(cJ4 @hd @hw @hg @hd1)
    refine qaa qna.eq_1 ?_
    refine W_gc ?_
    refine wR0 2400 [4,7,9,46,47,48,115,116,117,118] fX ?_
    refine wT @hd ?_
    refine wR0 2500 [4,7,9,13,46,47,48,115,116,117] fX ?_
    refine wR0 2600 [4,7,9,13,46,47,48,115,116,117,125] fX ?_
    refine wF @hd1 ?_
    refine wRn 2700 [4,7,9,13,14,15,46,47,48,115,116,117] fX ?_
    refine rC fX ?_
    refine⟨_,hfr,rE fX ?_⟩
    refine wRn 2800 [4,7,9,46,47,48,115,116,117,142] fX ?_
    refine rC fX ?_
    refine⟨_,hcv,rE fX ?_⟩
    refine wF fX ?_
    refine wR0 3000 [4,7,9,46,47,48,115,116,117] fX ?_
    refine wN ?_
    refine qaP [99999,402,505,1403] (by simp[inL]) (by simp[inL,T.cl,qa2,qal]) (by simp[qan,inL,Slot.cl,T.cl,clL,qaJ,qal,qaU,qae,qak,qaF]) ?_
    simpa [qan,inL] using hQ'
   | false=>
    rw[hc,if_neg (by simp)] at hfr
    have fX:=(cJ4 @hd @hw @hg @hd1)
    refine qaa qna.eq_1 ?_
    refine W_gc ?_
    refine wR0 2400 [4,7,9,46,47,48,115,116,117,118] fX ?_
    refine wT @hd ?_
    refine wR0 2500 [4,7,9,13,46,47,48,115,116,117] fX ?_
    refine wR0 2600 [4,7,9,13,46,47,48,115,116,117,125] fX ?_
    refine wF @hd1 ?_
    refine wRn 2700 [4,7,9,13,14,15,46,47,48,115,116,117] fX ?_
    refine rC fX ?_
    refine⟨_,hfr,rE fX ?_⟩
    refine wR0 2800 [4,7,9,46,47,48,115,116,117,142] fX ?_
    refine wF fX ?_
    refine wR0 3000 [4,7,9,46,47,48,115,116,117] fX ?_
    refine wN ?_
    refine qaP [99999,402,505,1403] (by simp[inL]) (by simp[inL,T.cl,qa2,qal]) (by simp[qan,inL,Slot.cl,T.cl,clL,qaJ,qal,qaU,qae,qak,qaF]) ?_
    simpa [qan,inL] using hQ'
  ·have hd1:(r.from_ != x.st)=true:=by simpa using hf
   have fX:=(cJ4 @hd @hw @hg @hd1)
   refine qaa qna.eq_1 ?_
   refine W_gc ?_
   refine wR0 2400 [4,7,9,46,47,48,115,116,117,118] fX ?_
   refine wT @hd ?_
   refine wR0 2500 [4,7,9,13,46,47,48,115,116,117] fX ?_
   refine wR0 2600 [4,7,9,13,46,47,48,115,116,117,125] fX ?_
   refine wT @hd1 ?_
   refine wX ?_
   refine wR0 3000 [4,7,9,46,47,48,115,116,117] fX ?_
   refine wN ?_
   refine qaP [99999,402,505,1403] (by simp[inL]) (by simp[inL,T.cl,qa2,qal]) (by simp[qan,inL,Slot.cl,T.cl,clL,qaJ,qal,qaU,qae,qak,qaF]) ?_
   simpa [qan,inL] using hQ'
end
section
open Go.RowKit
set_option maxHeartbeats 2000000
attribute [local simp] qae qaJ qal qaF qa2
abbrev c0E (L:List Lm)(i:Int):List (Nat×T):=[(4,.ref 402 10 0),(7,.list (qaA L)),(46,.list (qaA L)),(47,.int .i64 (qaA L).length),(48,.int .i64 i)]
abbrev c0H (m:Md)(l:List Nn)(k:Int)(d:Dc):List (Nat×Slot):=[(99999,dcB d),(402,sMg m),(505,.live ⟨37,grC l k⟩)]
set_option maxHeartbeats 8000000 in
theorem qn5 (m:Md)(hm:m.rules.length≤1000)(l:List Nn)(kk:Int)(d:Dc)(L:List Lm)(hL:L.length≤1000)(hvL:∀x∈L,x.vec.length≤1000)(hr:∀x∈L,∀r∈m.rules,RoomR r x.vec)
 (hC1:∀i,i<L.length→∀k,k<L.length→i≠k→(L.getD i default).st=(L.getD k default).st→vLe (L.getD i default).vec (L.getD k default).vec=false)
 (hC0:∀i,i+1<L.length→(L.getD i default).st≤(L.getD (i+1) default).st∧((L.getD i default).st=(L.getD (i+1) default).st→vCmp (L.getD i default).vec (L.getD (i+1) default).vec<0))
 (hC2:∀x∈L,∀r∈m.rules,r.from_=x.st→canR r x.vec=true→covL L r.to_ (aftR r x.vec)=true) (Q:IExit→(Nat→T)→Heap→Prop)
 (hQ:∀j:Int,Q (.exit 0) (ofL (c0E L j++[(49,.bool false)])) (hpL (c0H m l kk d))) :
 ∀(f i:Nat),i+f=L.length→WL Tryz.prog 148 qm8 (ofL (c0E L i)) (hpL (c0H m l kk d)) Q:=by
 have hv:∀j,j<L.length→(L.getD j default).vec.length≤1000:=fun j hj=>hvL _ (qgH hj)
 simp only[c0E,c0H,grC,sMg,mdC,List.cons_append,List.nil_append] at hQ ⊢
 intro f
 induction f with
 | zero=>
  intro i hk
  have hd:decide ((i:Int)<((qaA L).length:Int))=false:=decide_eq_false (by rw[qaZ];omega)
  have fX:=@hd
  refine qaa qm8.eq_1 ?_
  refine wR0 1300 [4,7,46,47,48,49] fX ?_
  refine wF @hd ?_
  refine wX ?_
  refine wN ?_
  exact hQ _
 | succ f ih=>
  intro i hk
  have hil:i<L.length:=by omega
  have hlt:(i:Int)<((qaA L).length:Int):=by rw[qaZ];omega
  have hd:decide ((i:Int)<((qaA L).length:Int))=true:=decide_eq_true hlt
  have hw:IntKind.wrap .i64 ((i:Int)+1)=((i+1:Nat):Int):=by rw[wrap64 (by omega) (by omega)];rfl
  have hg:=qb8 L i hil
  have hQ':=ih (i+1) (by omega)
  have hL1:=fun Q h=>qn6 m l kk d L hL hv i hil (hC1 i hil) Q h L.length 0 (by omega)
  have hmx:=qgH hil
  have hL2:=fun Q h=>qn7 m hm l kk d L hL hvL i (L.getD i default) hmx (hr _ hmx) (hC2 _ hmx) Q h m.rules.length 0 (by omega)
  have hva:=hv i hil
  obtain⟨a,ha⟩:∃a,L.getD i default=a:=⟨_,rfl⟩
  rw[ha] at hg hL1 hL2 hva
  by_cases h0:i=0
  ·subst h0
   have hgt:decide (((0:Nat):Int) > 0)=false:=rfl
   have h1:=hL1
   have h2:=hL2
   simp only[c1E,c2E,clH,grC,sMg,mdC,lmC,List.cons_append,List.nil_append] at h1 h2
   have fX:=(cJ4 @hd @hw @hg @hgt)
   refine qaa qm8.eq_1 ?_
   refine W_gc ?_
   refine wR0 1300 [4,7,46,47,48,49] fX ?_
   refine wT @hd ?_
   refine wR0 1400 [4,7,8,9,46,47,48] fX ?_
   refine wR0 1500 [4,7,8,9,46,47,48,53,54,55] fX ?_
   refine wL ?_
   refine h1 _ ?_
   ·intro j
    refine wN ?_
    refine wR0 2100 [4,7,9,46,47,48,113] fX ?_
    refine wF fX ?_
    refine wR0 2300 [4,7,9,46,47,48,115,116,117] fX ?_
    refine wL ?_
    refine h2 _ ?_
    ·intro j
     refine wN ?_
     refine wR0 3100 [4,7,46,47,48] fX ?_
     refine wN ?_
     refine qaP [99999,402,505] (by simp[inL]) (by simp[inL,T.cl,qa2]) (by simp[qan,inL,Slot.cl,T.cl,clL,qaJ,qal,qaU,qae,qak,qaF]) ?_
     simpa [qan,inL] using hQ'
  ·obtain⟨p,rfl⟩:∃p,i=p+1:=⟨i - 1,by omega⟩
   have hgt:decide (((p+1:Nat):Int) > 0)=true:=decide_eq_true (by omega)
   have hwp:IntKind.wrap .i64 (((p+1:Nat):Int) - 1)=(p:Int):=by rw[wrap64 (by omega) (by omega)];omega
   have hpl:(p:Int)<((qaA L).length:Int):=by rw[qaZ];omega
   have hgp:=qb8 L p (by omega)
   have hc:=hC0 p hil
   have hvp:=hv p (by omega)
   rw[ha] at hc
   generalize L.getD p default=c at*
   have hst1:decide (c.st > a.st)=false:=decide_eq_false (by omega)
   have hcm:=qmB c.vec a.vec (by omega) (by omega)
   cases hse:(c.st==a.st) with
   | true=>
    have hlt0:=hc.2 (by simpa using hse)
    have hge:decide (vCmp c.vec a.vec≥0)=false:=decide_eq_false (by omega)
    generalize vCmp c.vec a.vec=y at*
    have h1:=hL1
    have h2:=hL2
    simp only[c1E,c2E,clH,grC,sMg,mdC,lmC,List.cons_append,List.nil_append] at h1 h2
    have fX:=(cJ8 @hd @hw @hg @hgt @hwp @hgp @hst1 (cJ2 @hse @hge))
    refine qaa qm8.eq_1 ?_
    refine W_gc ?_
    refine wR0 1300 [4,7,46,47,48,49] fX ?_
    refine wT @hd ?_
    refine wR0 1400 [4,7,8,9,46,47,48] fX ?_
    refine wR0 1500 [4,7,8,9,46,47,48,53,54,55] fX ?_
    refine wL ?_
    refine h1 _ ?_
    ·intro j
     refine wN ?_
     refine wRn 2100 [4,7,9,46,47,48,113] fX ?_
     refine rC fX ?_
     refine⟨_,hcm,rE fX ?_⟩
     refine wF fX ?_
     refine wR0 2300 [4,7,9,46,47,48,115,116,117] fX ?_
     refine wL ?_
     refine h2 _ ?_
     ·intro j
      refine wN ?_
      refine wR0 3100 [4,7,46,47,48] fX ?_
      refine wN ?_
      refine qaP [99999,402,505] (by simp[inL]) (by simp[inL,T.cl,qa2]) (by simp[qan,inL,Slot.cl,T.cl,clL,qaJ,qal,qaU,qae,qak,qaF]) ?_
      simpa [qan,inL] using hQ'
   | false=>
    have h1:=hL1
    have h2:=hL2
    simp only[c1E,c2E,clH,grC,sMg,mdC,lmC,List.cons_append,List.nil_append] at h1 h2
    have fX:=(cJ8 @hd @hw @hg @hgt @hwp @hgp @hst1 @hse)
    refine qaa qm8.eq_1 ?_
    refine W_gc ?_
    refine wR0 1300 [4,7,46,47,48,49] fX ?_
    refine wT @hd ?_
    refine wR0 1400 [4,7,8,9,46,47,48] fX ?_
    refine wR0 1500 [4,7,8,9,46,47,48,53,54,55] fX ?_
    refine wL ?_
    refine h1 _ ?_
    ·intro j
     refine wN ?_
     refine wR0 2100 [4,7,9,46,47,48,113] fX ?_
     refine wF fX ?_
     refine wR0 2300 [4,7,9,46,47,48,115,116,117] fX ?_
     refine wL ?_
     refine h2 _ ?_
     ·intro j
      refine wN ?_
      refine wR0 3100 [4,7,46,47,48] fX ?_
      refine wN ?_
      refine qaP [99999,402,505] (by simp[inL]) (by simp[inL,T.cl,qa2]) (by simp[qan,inL,Slot.cl,T.cl,clL,qaJ,qal,qaU,qae,qak,qaF]) ?_
      simpa [qan,inL] using hQ'
end
end Go.Proofs.YtoeeppojakbciaaGreat
