/- Contracts of functions of the program, for all arguments that they name. -/
import Derived.Test.YtncpdpbpcnoeeaaGreatK02
import Derived.Test.YtncpdpbpcnoeeaaGreatK03
import Derived.Test.YtncpdpbpcnoeeaaGreatK04
import Derived.Test.YtncpdpbpcnoeeaaGreatK13
import Derived.Test.YtncpdpbpcnoeeaaGreatK22
namespace Go.Proofs.YtncpdpbpcnoeeaaGreat
set_option linter.unusedVariables false
section
open Go.RowKit
set_option maxHeartbeats 2000000
attribute [local simp] qae qbb
def qcJ (l:List Int)(i:Nat):List Int:=(List.range l.length).map fun k=>if k<i∨l.length - i≤k then l.getD (l.length - 1 - k) 0 else l.getD k 0
theorem qbY (l:List Int)(i:Nat):(qcJ l i).length=l.length:=by simp[qcJ]
theorem qcx (l:List Int)(i k:Nat)(h:k<l.length):(qcJ l i).getD k 0=if k<i∨l.length - i≤k then l.getD (l.length - 1 - k) 0 else l.getD k 0:=by
 simp[qcJ,List.getD_eq_getElem?_getD,h]
theorem qkN (l:List Int):qcJ l 0=l:=by
 apply List.ext_getElem (qbY l 0)
 intro k h1 h2
 have:=qcx l 0 k h2
 rw[if_neg (by omega)] at this
 simpa [List.getD_eq_getElem?_getD,h1,h2] using this
theorem qh8 (l:List Int)(i:Nat)(h:l.length≤2*i+1):qcJ l i=l.reverse:=by
 apply List.ext_getElem (by rw[qbY,List.length_reverse])
 intro k h1 h2
 have hk:k<l.length:=by rw[qbY] at h1;exact h1
 have:=qcx l i k hk
 have e:(qcJ l i)[k]=(qcJ l i).getD k 0:=by simp[List.getD_eq_getElem?_getD,h1]
 rw[e,this,List.getElem_reverse]
 split
 ·simp[List.getD_eq_getElem?_getD,show l.length - 1 - k<l.length by omega]
 ·have e:l.length - 1 - k=k:=by omega
  simp[List.getD_eq_getElem?_getD,hk,e]
theorem qkM (l:List Int)(i:Nat)(h:2*i+1<l.length):qcJ l (i+1)=((qcJ l i).set i ((qcJ l i).getD (l.length - 1 - i) 0)).set (l.length - 1 - i) ((qcJ l i).getD i 0):=by
 rw[qcx l i _ (by omega),qcx l i _ (by omega),if_neg (by omega),if_neg (by omega)]
 apply List.ext_getElem (by simp[qbY])
 intro k h1 h2
 have hk:k<l.length:=by rw[qbY] at h1;exact h1
 have e1:(qcJ l (i+1))[k]=(qcJ l (i+1)).getD k 0:=by simp[List.getD_eq_getElem?_getD,h1]
 have h3:k<(qcJ l i).length:=by rw[qbY];exact hk
 have e2:(qcJ l i)[k]=(qcJ l i).getD k 0:=by simp[List.getD_eq_getElem?_getD,h3]
 rw[e1,qcx l _ k hk,List.getElem_set,List.getElem_set,e2,qcx l i k hk]
 by_cases a:l.length - 1 - i=k
 ·rw[if_pos (by omega),if_pos a]
  congr 1;omega
 ·rw[if_neg a]
  by_cases b:i=k
  ·rw[if_pos (by omega),if_pos b,b]
  ·rw[if_neg b]
   by_cases c:k<i∨l.length - i≤k
   ·rw[if_pos (by omega),if_pos c]
   ·rw[if_neg (by omega),if_neg c]
set_option maxHeartbeats 4000000 in
theorem rev_l (l:List Int)(n:Nat)(hn:l.length=n)(h0:0<n)(hl:n≤100000)(Q:IExit→(Nat→T)→Heap→Prop)
 (hQ:∀i j:Int,Q (.exit 0) (ofL [(0,.sl 508 n 0 0 n),(2,.int .i64 i),(3,.int .i64 j),(9,.bool false)]) (hpL [(508,sVv l.reverse)])) :
 ∀(f i j:Nat),n≤2*(i+f)→2*i≤n→j+1+i=n→
 WL Tryz.prog 28 qgb (ofL [(0,.sl 508 n 0 0 n),(2,.int .i64 i),(3,.int .i64 j)]) (hpL [(508,sVv (qcJ l i))]) Q:=by
 intro f
 induction f with
 | zero=>
  intro i j hf hi hj
  have hd:decide ((i:Int)<(j:Int))=false:=decide_eq_false (by omega)
  rw[qh8 l i (by omega)]
  have fX:=@hd
  refine qaa qgb.eq_1 ?_
  refine wR0 100 [0,2,3,9] fX ?_
  refine wF @hd ?_
  refine wX ?_
  refine wN ?_
  exact hQ _ _
 | succ f ih=>
  intro i j hf hi hj
  by_cases hij:i<j
  ·have hd:decide ((i:Int)<(j:Int))=true:=decide_eq_true (by omega)
   have hw:IntKind.wrap .i64 ((i:Int)+1)=((i+1:Nat):Int):=by rw[wrap64 (by omega) (by omega)];rfl
   have hw2:IntKind.wrap .i64 ((j:Int) - 1)=((j - 1:Nat):Int):=by rw[wrap64 (by omega) (by omega)];omega
   have hst:=qkM l i (by omega)
   rw[show l.length - 1 - i=j by omega] at hst
   have hcl:=qbY l i
   have hin:(i:Int)<(n:Int):=by omega
   have hjn:(j:Int)<(n:Int):=by omega
   have hi1:((i:Nat):Int).toNat*1=i:=by simp
   have hj1:((j:Nat):Int).toNat*1=j:=by simp
   have hQ':=ih (i+1) (j - 1) (by omega) (by omega) (by omega)
   rw[hst] at hQ'
   generalize qcJ l i=c at*
   have hel:(qab c).length=n:=by rw[qac];omega
   have hri:=qmE c i (by omega)
   have hrj:=qmE c j (by omega)
   have hs1:=qkf c (c.getD j 0) i (by omega)
   have hs2:=qkf (c.set i (c.getD j 0)) (c.getD i 0) j (by simp;omega)
   have hel2:(qab (c.set i (c.getD j 0))).length=n:=by rw[qac];simp;omega
   have fX:=(cJ8 @hd @hw @hw2 @hi1 @hj1 @hel @hri (cJ4 @hrj @hs1 @hs2 @hel2))
   refine qaa qgb.eq_1 ?_
   refine wR0 100 [0,2,3,9] fX ?_
   refine wT @hd ?_
   refine wR0 200 [0,2,3] fX ?_
   refine wR0 300 [0,2,3] fX ?_
   refine wN ?_
   exact hQ'
  ·have hd:decide ((i:Int)<(j:Int))=false:=decide_eq_false (by omega)
   rw[qh8 l i (by omega)]
   have fX:=@hd
   refine qaa qgb.eq_1 ?_
   refine wR0 100 [0,2,3,9] fX ?_
   refine wF @hd ?_
   refine wX ?_
   refine wN ?_
   exact hQ _ _
theorem qkO (l:List Int)(h0:l≠[])(hl:l.length≤100000):TC Tryz.prog 43 [.sl 508 l.length 0 0 l.length] (hpL [(508,sVv l)]) (.tup []) (hpL [(508,sVv l.reverse)]):=by
 have hp:0<l.length:=(by cases l with | nil=>exact absurd rfl h0 | cons x l=>simp)
 have hL:=fun Q h=>rev_l l l.length rfl hp hl Q h l.length 0 (l.length - 1) (by omega) (by omega) (by omega)
 rw[qkN] at hL
 have hw:IntKind.wrap .i64 ((l.length:Int) - 1)=((l.length - 1:Nat):Int):=by rw[wrap64 (by omega) (by omega)];omega
 refine qd9 fn43 (by simp) ?_
 unfold i43
 simp only[argL]
 refine wR0 0 [0,2,3] hw ?_
 refine wL ?_
 refine hL _ ?_
 intro i j
 refine wN ?_
 first | exact⟨by simp,rfl,rfl⟩ | exact⟨by simp,rfl,trivial⟩
theorem qiW:TP Tryz.prog 43 [.nil] (.tup []):=by
 refine qai fn43 (by simp) ?_
 unfold i43
 simp only[argL]
 refine wR0 0 [0,2,3] cJ0 ?_
 refine wL ?_
 refine qaa qgb.eq_1 ?_
 refine wR0 100 [0,2,3,9] cJ0 ?_
 refine wF cJ0 ?_
 refine wX ?_
 refine wN ?_
 exact⟨by simp,_,rfl,.same rfl⟩
def qiO (l:List Nn):Nat→Nat→List Int
 | 0,_=>[]
 | f+1,j=>if (l.getD j default).par<0 then [] else (l.getD j default).rule::qiO l f (l.getD j default).par.toNat
def qqi (l:List Nn)(j:Nat):List Int:=(qiO l (j+1) j).reverse
theorem qh1 (l:List Nn):∀(f j:Nat),(qiO l f j).length≤f
 | 0,_=>Nat.le_refl _
 | f+1,j=>by
  rw[qiO]
  split
  ·simp
  ·simp only[List.length_cons];have:=qh1 l f (l.getD j default).par.toNat;omega
theorem qoU {P:Program}{N:Nat}{c:ICode}{H:Heap}{Q:IExit→(Nat→T)→Heap→Prop}(l:List (Nat×T))(p:Nat×T)(h:W P N c (ofL l) H Q):W P N c (ofL (l++[p])) H Q:=by
 refine qja (fun t=>?_) h
 clear h
 induction l with
 | nil=>exact .inr rfl
 | cons q l ih=>
  rw[List.cons_append,qbk,qbk]
  split
  ·exact .inl rfl
  ·exact ih
set_option maxHeartbeats 4000000 in
theorem path_l (l:List Nn)(next:Int)(hp:Par l)(hl:l.length≤100000)(R:List Int)(Q:IExit→(Nat→T)→Heap→Prop)
 (hQ:∀j:Int,Q (.exit 0) (ofL [(1,.int .i64 j),(2,.ref 0 2 0),(5,qb0 508 R),(22,.bool false)]) (hpL ([(0,.live ⟨37,grC l next⟩)]++qbZ 508 3 R))) :
 ∀(f j:Nat) (done:List Int),j<f→j<l.length→done.length+f≤200000→done++qiO l f j=R→
 WL Tryz.prog 41 qhH (ofL [(1,.int .i64 j),(2,.ref 0 2 0),(5,qb0 508 done)]) (hpL ([(0,.live ⟨37,grC l next⟩)]++qbZ 508 3 done)) Q:=by
 simp only[grC,List.cons_append,List.nil_append] at hQ ⊢
 intro f
 induction f with
 | zero=>intro j done h;exact absurd h (Nat.not_lt_zero _)
 | succ f ih=>
  intro j done hjf hjl hdf hR
  have hlt:(j:Int)<((qa0 l).length:Int):=by rw[qa7];omega
  have hg:=qc1 l j hjl
  have hb:=hp j hjl
  have hj:((j:Nat):Int).toNat=j:=by simp
  rw[qiO] at hR
  have hih:=ih (l.getD j default).par.toNat (done++[(l.getD j default).rule])
  generalize l.getD j default=n at*
  simp only[encN,nnC] at hg
  by_cases hz:n.par<0
  ·have hd:decide (n.par≥0)=false:=decide_eq_false (by omega)
   rw[if_pos hz,List.append_nil] at hR
   subst hR
   have fX:=(cJ2 @hg @hd)
   refine qaa qhH.eq_1 ?_
   refine wR0 400 [1,2,5,22] fX ?_
   refine wF @hd ?_
   refine wX ?_
   refine wN ?_
   exact hQ _
  ·have hd:decide (n.par≥0)=true:=decide_eq_true (by omega)
   have hnn:((n.par.toNat:Nat):Int)=n.par:=by omega
   rw[if_neg hz] at hR
   have hQ':=hih (by omega) (by omega) (by simp;omega) (by rw[←hR];simp)
   rw[hnn] at hQ'
   cases done with
   | nil=>
    simp only[qb0,qbZ,List.nil_append,List.length_nil] at hQ' ⊢
    have fX:=(cJ3 @hg @qaK @hd)
    refine qaa qhH.eq_1 ?_
    refine W_gc ?_
    refine wR0 400 [1,2,5,22] fX ?_
    refine wT @hd ?_
    refine wR0 500 [1,2,5] fX ?_
    refine wR0 600 [1,2,5] fX ?_
    refine wN ?_
    refine qaT [0,508] (by simp[inL]) (by simp[inL,T.cl]) (by simp[qak,inL,Slot.cl,T.cl,clL]) ?_
    simpa [qak,inL,qab] using hQ'
   | cons z zs=>
    have hlb:zs.length+1≤200000:=by simp at hdf;omega
    have he:(qab (z::zs)).length=zs.length+1:=by simp[qab]
    simp only[qb0,qbZ,List.cons_append] at hQ' ⊢
    have fX:=(cJ4 @hg @qaK @hd @he)
    refine qaa qhH.eq_1 ?_
    refine W_gc ?_
    refine wR0 400 [1,2,5,22] fX ?_
    refine wT @hd ?_
    refine wR0 500 [1,2,5] fX ?_
    refine wR0 600 [1,2,5] fX ?_
    refine wN ?_
    refine qaT [0,508] (by simp[inL]) (by simp[inL,T.cl]) (by simp[qak,inL,Slot.cl,T.cl,clL,qan,qae]) ?_
    simpa [qak,inL,qab] using hQ'
theorem qqj (l:List Nn)(next:Int)(hp:Par l)(hl:l.length≤50000)(j:Nat)(hj:j<l.length):TP Tryz.prog 18 [qbm l next,.int .i64 j] (.list (qab (qqi l j))):=by
 obtain⟨R,hR⟩:∃R,qiO l (j+1) j=R:=⟨_,rfl⟩
 have hL:=fun Q h=>path_l l next hp (by omega) R Q h (j+1) j [] (by omega) hj (by simp;omega) hR
 have hRl:=qh1 l (j+1) j
 rw[hR] at hRl
 rw[qqi,hR]
 have hd1:decide ((j:Int)<0)=false:=decide_eq_false (by omega)
 have hd2:decide ((j:Int)≥((qa0 l).length:Int))=false:=decide_eq_false (by rw[qa7];omega)
 cases R with
 | nil=>
  have hrv:=qiW
  simp only[qb0,qbZ,grC,List.cons_append,List.nil_append] at hL
  have fX:=(cJ2 @hd1 @hd2)
  refine qai fn18 (by simp) ?_
  unfold i18
  simp only[argL,qbm,grC]
  refine wR0 0 [1,2] fX ?_
  refine wR0 100 [1,2,5] fX ?_
  refine wR0 200 [1,2,5,14] fX ?_
  refine wF fX ?_
  refine wN ?_
  refine qoU [(1,.int .i64 j),(2,.ref 0 2 0),(5,.nil)] (14,.bool false) ?_
  refine wL ?_
  refine hL _ ?_
  ·intro k
   refine wN ?_
   refine wRn 700 [5] fX ?_
   refine rC fX ?_
   refine⟨_,hrv,rE fX ?_⟩
   refine wR0 800 [4] fX ?_
   refine wP ?_
   exact .nil
 | cons z zs=>
  have hrv:=qkO (z::zs) (by simp) (by omega)
  simp only[qb0,qbZ,grC,List.cons_append,List.nil_append,List.length_cons] at hL hrv
  have hrl:(z::zs).reverse.length=zs.length+1:=by simp
  generalize (z::zs).reverse=W at*
  have fX:=(cJ2 @hd1 @hd2)
  refine qai fn18 (by simp) ?_
  unfold i18
  simp only[argL,qbm,grC]
  refine wR0 0 [1,2] fX ?_
  refine wR0 100 [1,2,5] fX ?_
  refine wR0 200 [1,2,5,14] fX ?_
  refine wF fX ?_
  refine wN ?_
  refine qoU [(1,.int .i64 j),(2,.ref 0 2 0),(5,.nil)] (14,.bool false) ?_
  refine wL ?_
  refine hL _ ?_
  ·intro k
   refine wN ?_
   refine wRn 700 [5] fX ?_
   refine rU [(508,sVv (z::zs))] [(508,sVv W)] fX ?_
   refine⟨_,hrv.full1,rE fX ?_⟩
   refine wR0 800 [4] fX ?_
   refine wP ?_
   exact qbt W rfl hrl.symm hrl.symm
end
section
open Go.RowKit
set_option maxHeartbeats 2000000
structure Dc where
 seeds:List Int
 at_:Nat
def qbE (l:List Int):List T:=l.map fun x=>.int .u8 x
theorem qhs (l:List Int):(qbE l).length=l.length:=by simp[qbE]
@[simp] theorem qbD (D:Nat→Bool)(l:List Int):clL D (qbE l)=true:=by
 induction l with
 | nil=>rfl
 | cons x l ih=>simpa [qbE,clL,T.cl] using ih
theorem qlJ (l:List Int)(i:Nat)(h:i<l.length):(qbE l).getD (i:Int).toNat .undef=.int .u8 (l.getD i 0):=by
 simp[qbE,List.getD_eq_getElem?_getD,h]
theorem qiy (l:List Int):sizedB 0 (qbE l)=true:=by
 rw[sizedB,List.all_eq_true]
 intro c hc
 obtain⟨x,_,rfl⟩:=List.mem_map.1 hc
 rfl
abbrev dcB (d:Dc):Slot:=.live ⟨70,[.list (qbE d.seeds),.int .i64 d.at_]⟩
abbrev dcR:T:=.ref 99999 2 0
structure Dc.ok (d:Dc):Prop where
 len:d.seeds.length≤200
 at_:d.at_≤d.seeds.length
 rng:∀j,0≤d.seeds.getD j 0∧d.seeds.getD j 0≤255
theorem qo0 {H:Heap}{D:Nat→Bool}(d:Dc):SlotFz H D (dcB d) (dcB d):=by
 refine SlotFz.liveS (by simp[clL,T.cl]) fun c hc=>?_
 simp only[List.mem_cons,List.not_mem_nil,or_false] at hc
 rcases hc with rfl | rfl<;>rfl
theorem qoR {P:Program}{f:FuncId}{N:Nat}{ic:ICode}{rs:List (Nat×Option Nat)}{args:List T}{d d':Dc}{r:T}(h:FnOk P f N rs ic)(hn:args.length≤N)
 (hw:W P N ic (ofL (argL 0 args)) (hpL [(99999,dcB d)]) fun e env' H''=>(e=.ret∨e=.normal)∧∃x hl hl',resT env' H'' rs=some x∧H''=hpL hl∧Fz (hpL hl) (inL [99999]) x r∧LFz (hpL hl) [99999] hl hl'∧qak [99999] hl'=[(99999,dcB d')]):TC P f args (hpL [(99999,dcB d)]) r (hpL [(99999,dcB d')]):=
 qoS [99999] h hn rfl hw
theorem TC.fulD {P:Program}{f:FuncId}{xs:List T}{v:T}{i:Nat}{s s':Slot}(h:TC P f xs (hpL [(i,s)]) v (hpL [(i,s')])):TC P f xs (hp [(i,s)]) v ((hp [(i,s)]).upd [(i,s')]):=by
 rw[qjs [(i,s)] (by simp),show Heap.upd (hpL [(i,s)]) [(i,s')]=hpL [(i,s')] from by simp[qes,qbA,qb2]];exact h
def newD (s:List Int):Dc:=⟨s.take 200,0⟩
theorem qqb {s:List Int}(h:∀j,0≤s.getD j 0∧s.getD j 0≤255):(newD s).ok:=by
 refine⟨by simp[newD];omega,Nat.zero_le _,fun j=>?_⟩
 by_cases hj:j<200
 ·have e:(s.take 200).getD j 0=s.getD j 0:=by simp[List.getD_eq_getElem?_getD,hj]
  simp only[newD];rw[e];exact h j
 ·have e:(s.take 200).getD j 0=0:=by simp[List.getD_eq_getElem?_getD,List.getElem?_take,hj]
  simp only[newD];rw[e];omega
theorem qqk (s:List Int)(hl:s.length≤9223372036854775807):TC Tryz.prog 8 [.list (qbE s)] (hpL []) dcR (hpL [(99999,dcB (newD s))]):=by
 have hz:Int.toNat 0=0:=rfl
 have h200:Int.toNat 200=200:=rfl
 have hlen:=qhs s
 have hsz:=qiy s
 have key:∀t:List Int,t=s.take 200→TC Tryz.prog 8 [.list (qbE s)] (hpL []) (.ref 302 2 0) (hpL [(302,.live ⟨70,[.list (qbE t),.int .i64 0]⟩)]):=by
  intro t ht
  by_cases h:s.length≤200
  ·have hd:decide (((qbE s).length:Int) > 200)=false:=decide_eq_false (by omega)
   obtain rfl:t=s:=by rw[ht,List.take_of_length_le h]
   have fX:=@hd
   refine qd9 fn8 (by simp) ?_
   unfold i8
   simp only[argL]
   refine wR0 0 [0] fX ?_
   refine wR0 100 [0,5] fX ?_
   refine wF @hd ?_
   refine wR0 300 [2] fX ?_
   refine wE ?_
   refine wN ?_
   first | exact⟨by simp,rfl,rfl⟩ | exact⟨by simp,rfl,trivial⟩
  ·have hd:decide (((qbE s).length:Int) > 200)=true:=decide_eq_true (by omega)
   have htk:List.take 200 (qbE s)=qbE t:=by rw[ht,qbE,qbE,List.map_take]
   have hle:(200:Int)≤((qbE s).length:Int):=by omega
   have hle2:200≤(qbE s).length:=by omega
   have fX:=(cJ7 @hd @h200 @hz @hle @hle2 @htk @hsz)
   refine qd9 fn8 (by simp) ?_
   unfold i8
   simp only[argL]
   refine wR0 0 [0] fX ?_
   refine wR0 100 [0,5] fX ?_
   refine wT @hd ?_
   refine wR0 200 [0] fX ?_
   refine wR0 300 [2] fX ?_
   refine wE ?_
   refine wN ?_
   first | exact⟨by simp,rfl,rfl⟩ | exact⟨by simp,rfl,trivial⟩
 have r:∀(σ:Nat→Nat) (k:List Int),renL σ (qbE k)=qbE k:=fun σ k=>qbe _ (qbD _ k)
 refine qhe [(302,99999)] (key _ rfl) ?_ rfl ?_ ?_
 ·simp[renL,T.ren,r]
 ·simp[T.ren,swps,swp]
 ·simp[Slot.ren,renL,T.ren,swps,swp,r,newD]
def qaq (d:Dc)(n:Int):Int×Dc:=if d.seeds.length≤d.at_ then (0,d) else ((d.seeds.getD d.at_ 0).tmod n,⟨d.seeds,d.at_+1⟩)
theorem qaQ {d:Dc}(h:d.ok)(n:Int):(qaq d n).2.ok:=by
 rw[qaq]
 split
 ·exact h
 ·exact⟨h.len,by simp only;omega,h.rng⟩
theorem qbi {d:Dc}(h:d.ok){n:Int}(hn:1≤n):0≤(qaq d n).1∧(qaq d n).1<n:=by
 rw[qaq]
 split
 ·exact⟨Int.le_refl 0,by simp only;omega⟩
 ·exact⟨Int.tmod_nonneg n (h.rng _).1,Int.tmod_lt_of_pos _ (by omega)⟩
theorem qdD (d:Dc)(hd:d.ok)(n:Int)(hn:1≤n):TC Tryz.prog 24 [dcR,.int .i64 n] (hpL [(99999,dcB d)]) (.int .i64 (qaq d n).1) (hpL [(99999,dcB (qaq d n).2)]):=by
 have hl:=hd.len
 have ha:=hd.at_
 have hr:=hd.rng d.at_
 have hlen:=qhs d.seeds
 rw[qaq]
 by_cases h:d.seeds.length≤d.at_
 ·rw[if_pos h]
  have hb:decide ((d.at_:Int)≥((qbE d.seeds).length:Int))=true:=decide_eq_true (by omega)
  have fX:=@hb
  refine qd9 fn24 (by simp) ?_
  unfold i24
  simp only[argL,dcB]
  refine wR0 0 [0,1] fX ?_
  refine wR0 100 [0,1,14] fX ?_
  refine wT @hb ?_
  refine wR0 200 [4] fX ?_
  refine wE ?_
  refine wN ?_
  first | exact⟨by simp,rfl,rfl⟩ | exact⟨by simp,rfl,trivial⟩
 ·rw[if_neg h]
  have hb:decide ((d.at_:Int)≥((qbE d.seeds).length:Int))=false:=decide_eq_false (by omega)
  have hw:IntKind.wrap .i64 ((d.at_:Int)+1)=((d.at_+1:Nat):Int):=by rw[wrap64 (by omega) (by omega)];rfl
  have hw2:IntKind.wrap .i64 (((d.at_+1:Nat):Int) - 1)=(d.at_:Int):=by rw[wrap64 (by omega) (by omega)];omega
  have hlt:(d.at_:Int)<((qbE d.seeds).length:Int):=by omega
  have hg:=qlJ d.seeds d.at_ (by omega)
  have hw3:IntKind.wrap .i64 (d.seeds.getD d.at_ 0)=d.seeds.getD d.at_ 0:=wrap64 (by omega) (by omega)
  have hn0:¬n=0:=by omega
  generalize d.seeds.getD d.at_ 0=x at*
  have fX:=(cJ6 @hb @hw @hw2 @hg @hw3 @hn0)
  refine qd9 fn24 (by simp) ?_
  unfold i24
  simp only[argL,dcB]
  refine wR0 0 [0,1] fX ?_
  refine wR0 100 [0,1,14] fX ?_
  refine wF @hb ?_
  refine wR0 300 [0,1] fX ?_
  refine wR0 400 [4] fX ?_
  refine wE ?_
  refine wN ?_
  first | exact⟨by simp,rfl,rfl⟩ | exact⟨by simp,rfl,trivial⟩
end
end Go.Proofs.YtncpdpbpcnoeeaaGreat
