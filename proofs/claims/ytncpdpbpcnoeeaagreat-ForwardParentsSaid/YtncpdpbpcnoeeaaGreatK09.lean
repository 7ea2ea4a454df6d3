/- Contracts of functions of the program, for all arguments that they name. -/
import Derived.Test.YtncpdpbpcnoeeaaGreatK03
import Derived.Test.YtncpdpbpcnoeeaaGreatK08
namespace Go.Proofs.YtncpdpbpcnoeeaaGreat
set_option linter.unusedVariables false
section
open Go.RowKit
set_option maxHeartbeats 2000000
def eqF {α:Type}(p:α→α→Bool):List α→List α→Bool
 | [],[]=>true
 | x::xs,y::ys=>p x y&&eqF p xs ys
 | _,_=>false
theorem qgy {α:Type}(p:α→α→Bool)(h:∀x,p x x=true):∀xs,eqF p xs xs=true
 | []=>rfl
 | x::xs=>by simp[eqF,h,qgy p h xs]
def eqI (a b:Int):Bool:=a==b
def eqTk (a b:Tk):Bool:=a.place==b.place&&(a.low==b.low&&(a.high==b.high&&true))
theorem qpy (k:IntKind)(a b c d e f:Int):qcN 3 [.int k a,.int k b,.int k c] [.int k d,.int k e,.int k f]=some (a==d&&(b==e&&(c==f&&true))):=by simp[qcN]
theorem qnD (xs ys:List Int)(hl:xs.length≤1000000)(Q:IExit→(Nat→T)→Heap→Prop):∀(rest pre rest2 pre2:List Int) (i:Nat),xs=pre++rest→ys=pre2++rest2→pre.length=i→pre2.length=i→rest.length=rest2.length→
 (eqF eqI rest rest2=true→∀i:Int,Q (.exit 0) (ofL [(0,.list (qab xs)),(1,.list (qab ys)),(12,.int .i64 (qab xs).length),(13,.int .i64 i),(14,.bool false)]) (hpL []))→
 (eqF eqI rest rest2=false→Q .ret (ofL [(4,.bool false)]) (hpL []))→
 WL Tryz.prog 26 qfo (ofL [(0,.list (qab xs)),(1,.list (qab ys)),(12,.int .i64 (qab xs).length),(13,.int .i64 i)]) (hpL []) Q:=by
 intro rest
 induction rest with
 | nil=>
  intro pre rest2 pre2 i he he2 hn hn2 hlr hQ0 hQ1
  have hd:decide ((i:Int)<((qab xs).length:Int))=false:=by simp[qac,he,hn]
  have hr:rest2=[]:=List.eq_nil_of_length_eq_zero hlr.symm
  subst hr
  have fX:=@hd
  refine qaa qfo.eq_1 ?_
  refine wR0 400 [0,1,12,13,14] fX ?_
  refine wF @hd ?_
  refine wX ?_
  refine wN ?_
  exact hQ0 rfl _
 | cons k rest ih=>
  intro pre rest2 pre2 i he he2 hn hn2 hlr hQ0 hQ1
  cases rest2 with
  | nil=>simp at hlr
  | cons l rest2=>
  have hlt:(i:Int)<((qab xs).length:Int):=by simp[qac,he];omega
  have hlt2:(i:Int)<((qab ys).length:Int):=by simp[qac,he2];omega
  have hlb:i≤1000000:=by rw[he] at hl;simp at hl;omega
  have hd:decide ((i:Int)<((qab xs).length:Int))=true:=decide_eq_true hlt
  have hg:(qab xs).getD (i:Int).toNat .undef=encI k:=by rw[Int.toNat_natCast,he,←hn];exact qc0 _ k _
  have hg2:(qab ys).getD (i:Int).toNat .undef=encI l:=by rw[Int.toNat_natCast,he2,←hn2];exact qc0 _ l _
  have hw:IntKind.wrap .i64 ((i:Int)+1)=(i:Int)+1:=wrap64 (by omega) (by omega)
  have fX:=(cJ6 @hd @hg @hg2 @hw @encI.eq_1 @encI.eq_1)
  refine qaa qfo.eq_1 ?_
  refine wR0 400 [0,1,12,13,14] fX ?_
  refine wT @hd ?_
  refine wR0 500 [0,1,5,12,13] fX ?_
  refine wR0 600 [0,1,12,13,24] fX ?_
  refine wS cJ0 (fun hc600=>?_) (fun hc600=>?_)
  ·skip
   refine wR0 700 [4] fX ?_
   refine wE ?_
   refine wN ?_
   have hp:eqI k l=false:=(by simpa [eqI] using hc600)
   exact hQ1 (by simp[eqF,hp])
  ·skip
   refine wR0 800 [0,1,12,13] fX ?_
   refine wN ?_
   have hp:eqI k l=true:=(by simpa [eqI] using hc600)
   have e:eqF eqI (k::rest) (l::rest2)=eqF eqI rest rest2:=(by simp[eqF,hp])
   rw[e] at hQ0 hQ1
   exact ih (pre++[k]) rest2 (pre2++[l]) (i+1) (by simp[he]) (by simp[he2]) (by simp;omega) (by simp;omega) (by simpa using hlr) hQ0 hQ1
theorem qf6 (xs ys:List Int)(hl:xs.length≤1000000):TP Tryz.prog 90 [.list (qab xs),.list (qab ys)] (.bool ((xs.length==ys.length)&&eqF eqI xs ys)):=by
 refine qai fn90 (by simp) ?_
 unfold i90
 simp only[argL]
 refine wR0 0 [0,1] cJ0 ?_
 refine wR0 100 [0,1,10] cJ0 ?_
 refine wS cJ0 (fun hc100=>?_) (fun hc100=>?_)
 ·skip
  refine wR0 200 [4] cJ0 ?_
  refine wP ?_
  exact qad (by simp[qac] at hc100;have hne:xs.length≠ys.length:=(by omega);simp[hne])
 ·skip
  refine wR0 300 [0,1,12,13] cJ0 ?_
  simp only[thn]
  have hle:xs.length=ys.length:=(by simp[qac] at hc100;omega)
  refine wL ?_
  refine qnD xs ys hl _ xs [] ys [] 0 rfl rfl rfl rfl hle ?_ ?_
  ·intro h i
   refine wN ?_
   refine wR0 900 [4] cJ0 ?_
   refine wP ?_
   exact qad (by rw[h,hle];simp)
  ·intro h
   refine wN ?_
   exact⟨by simp,_,rfl,by exact qad (by rw[h];simp)⟩
theorem qlL (xs ys:List Tk)(hl:xs.length≤1000000)(Q:IExit→(Nat→T)→Heap→Prop):∀(rest pre rest2 pre2:List Tk) (i:Nat),xs=pre++rest→ys=pre2++rest2→pre.length=i→pre2.length=i→rest.length=rest2.length→
 (eqF eqTk rest rest2=true→∀i:Int,Q (.exit 0) (ofL [(0,.list (qba xs)),(1,.list (qba ys)),(12,.int .i64 (qba xs).length),(13,.int .i64 i),(14,.bool false)]) (hpL []))→
 (eqF eqTk rest rest2=false→Q .ret (ofL [(4,.bool false)]) (hpL []))→
 WL Tryz.prog 26 qgK (ofL [(0,.list (qba xs)),(1,.list (qba ys)),(12,.int .i64 (qba xs).length),(13,.int .i64 i)]) (hpL []) Q:=by
 intro rest
 induction rest with
 | nil=>
  intro pre rest2 pre2 i he he2 hn hn2 hlr hQ0 hQ1
  have hd:decide ((i:Int)<((qba xs).length:Int))=false:=by simp[qcn,he,hn]
  have hr:rest2=[]:=List.eq_nil_of_length_eq_zero hlr.symm
  subst hr
  have fX:=@hd
  refine qaa qgK.eq_1 ?_
  refine wR0 400 [0,1,12,13,14] fX ?_
  refine wF @hd ?_
  refine wX ?_
  refine wN ?_
  exact hQ0 rfl _
 | cons k rest ih=>
  intro pre rest2 pre2 i he he2 hn hn2 hlr hQ0 hQ1
  cases rest2 with
  | nil=>simp at hlr
  | cons l rest2=>
  have hlt:(i:Int)<((qba xs).length:Int):=by simp[qcn,he];omega
  have hlt2:(i:Int)<((qba ys).length:Int):=by simp[qcn,he2];omega
  have hlb:i≤1000000:=by rw[he] at hl;simp at hl;omega
  have hd:decide ((i:Int)<((qba xs).length:Int))=true:=decide_eq_true hlt
  have hg:(qba xs).getD (i:Int).toNat .undef=qkq k:=by rw[Int.toNat_natCast,he,←hn];exact qf2 _ k _
  have hg2:(qba ys).getD (i:Int).toNat .undef=qkq l:=by rw[Int.toNat_natCast,he2,←hn2];exact qf2 _ l _
  have hw:IntKind.wrap .i64 ((i:Int)+1)=(i:Int)+1:=wrap64 (by omega) (by omega)
  have fX:=(cJ8 @hd @hg @hg2 @hw @qkq.eq_1 @qpy @eqT.eq_1 @eqT.eq_2)
  refine qaa qgK.eq_1 ?_
  refine wR0 400 [0,1,12,13,14] fX ?_
  refine wT @hd ?_
  refine wR0 500 [0,1,5,12,13] fX ?_
  refine wR0 600 [0,1,12,13,24] fX ?_
  refine wS cJ0 (fun hc600=>?_) (fun hc600=>?_)
  ·skip
   refine wR0 700 [4] fX ?_
   refine wE ?_
   refine wN ?_
   have hp:eqTk k l=false:=(by cases h:eqTk k l<;>first | rfl | (exfalso;unfold eqTk at h;rw[h] at hc600;cases hc600))
   exact hQ1 (by simp[eqF,hp])
  ·skip
   refine wR0 800 [0,1,12,13] fX ?_
   refine wN ?_
   have hp:eqTk k l=true:=(by cases h:eqTk k l<;>first | rfl | (exfalso;unfold eqTk at h;rw[h] at hc600;cases hc600))
   have e:eqF eqTk (k::rest) (l::rest2)=eqF eqTk rest rest2:=(by simp[eqF,hp])
   rw[e] at hQ0 hQ1
   exact ih (pre++[k]) rest2 (pre2++[l]) (i+1) (by simp[he]) (by simp[he2]) (by simp;omega) (by simp;omega) (by simpa using hlr) hQ0 hQ1
theorem qpz (xs ys:List Tk)(hl:xs.length≤1000000):TP Tryz.prog 185 [.list (qba xs),.list (qba ys)] (.bool ((xs.length==ys.length)&&eqF eqTk xs ys)):=by
 refine qai fn185 (by simp) ?_
 unfold i185
 simp only[argL]
 refine wR0 0 [0,1] cJ0 ?_
 refine wR0 100 [0,1,10] cJ0 ?_
 refine wS cJ0 (fun hc100=>?_) (fun hc100=>?_)
 ·skip
  refine wR0 200 [4] cJ0 ?_
  refine wP ?_
  exact qad (by simp[qcn] at hc100;have hne:xs.length≠ys.length:=(by omega);simp[hne])
 ·skip
  refine wR0 300 [0,1,12,13] cJ0 ?_
  simp only[thn]
  have hle:xs.length=ys.length:=(by simp[qcn] at hc100;omega)
  refine wL ?_
  refine qlL xs ys hl _ xs [] ys [] 0 rfl rfl rfl rfl hle ?_ ?_
  ·intro h i
   refine wN ?_
   refine wR0 900 [4] cJ0 ?_
   refine wP ?_
   exact qad (by rw[h,hle];simp)
  ·intro h
   refine wN ?_
   exact⟨by simp,_,rfl,by exact qad (by rw[h];simp)⟩
def qie (xs ys:List Int):Bool:=(xs.length==ys.length)&&eqF eqI xs ys
def qmN (xs ys:List Tk):Bool:=(xs.length==ys.length)&&eqF eqTk xs ys
theorem qkQ (xs:List Int):qie xs xs=true:=by simp[qie,qgy eqI (fun x=>by simp[eqI])]
theorem qiY (xs:List Tk):qmN xs xs=true:=by simp[qmN,qgy eqTk (fun x=>by simp[eqTk])]
theorem ql5 (f:FuncId)(caps:List T)(hcaps:clL (fun _=>false) caps=true)(p:Rl→Bool)(xs:List Rl)(hl:xs.length≤1000000)(Q:IExit→(Nat→T)→Heap→Prop):∀(rest pre:List Rl) (i:Nat),xs=pre++rest→pre.length=i→
 (∀k∈rest,TP Tryz.prog f ([qaU k]++caps) (.bool (p k)))→
 (ixF p rest i = -1→∀i:Int,Q (.exit 0) (ofL [(0,.list (qaC xs)),(1,.fn f caps),(7,.int .i64 (qaC xs).length),(8,.int .i64 i),(9,.bool false)]) (hpL []))→
 (ixF p rest i ≠ -1→Q .ret (ofL [(4,.int .i64 (ixF p rest i))]) (hpL []))→
 WL Tryz.prog 19 qgG (ofL [(0,.list (qaC xs)),(1,.fn f caps),(7,.int .i64 (qaC xs).length),(8,.int .i64 i)]) (hpL []) Q:=by
 intro rest
 induction rest with
 | nil=>
  intro pre i he hn hk hQ0 hQ1
  have hd:decide ((i:Int)<((qaC xs).length:Int))=false:=by simp[qbo,he,hn]
  have fX:=@hd
  refine qaa qgG.eq_1 ?_
  refine wR0 200 [0,1,7,8,9] fX ?_
  refine wF @hd ?_
  refine wX ?_
  refine wN ?_
  exact hQ0 rfl _
 | cons k rest ih=>
  intro pre i he hn hk hQ0 hQ1
  skip
  have hlt:(i:Int)<((qaC xs).length:Int):=by simp[qbo,he];omega
  have hlb:i≤1000000:=by rw[he] at hl;simp at hl;omega
  have hd:decide ((i:Int)<((qaC xs).length:Int))=true:=decide_eq_true hlt
  have hg:(qaC xs).getD (i:Int).toNat .undef=.agg [.str k.name,.int .i64 k.from_,.int .i64 k.to_,.list (qab k.need),.list (qab k.give),.list (qab k.move),.int .i64 k.chan,.int .i64 k.act,.int .i64 k.lett,.list (qab k.path),.list (qab k.next),.list (qba k.takes),.list (qab k.makes),.int .i64 k.second]:=by rw[Int.toNat_natCast,he,←hn];exact qeh _ k _
  have hw:IntKind.wrap .i64 ((i:Int)+1)=(i:Int)+1:=wrap64 (by omega) (by omega)
  have fX:=(cJ3 @hd @hg @hw)
  refine qaa qgG.eq_1 ?_
  refine wR0 200 [0,1,7,8,9] fX ?_
  refine wT @hd ?_
  refine wR0 300 [0,1,5,7,8] fX ?_
  refine wRn 400 [0,1,5,7,8,16] fX ?_
  refine rCv fX ?_
  refine⟨_,hk k (List.mem_cons_self ..),rE fX ?_⟩
  refine wS cJ0 (fun hc400=>?_) (fun hc400=>?_)
  ·skip
   refine wR0 500 [4] fX ?_
   refine wE ?_
   refine wN ?_
   have e:ixF p (k::rest) i=i:=(by simp[ixF,hc400])
   rw[e] at hQ1
   exact hQ1 (by omega)
  ·skip
   refine wR0 600 [0,1,7,8] fX ?_
   refine wN ?_
   have e:ixF p (k::rest) i=ixF p rest ((i+1:Nat):Int):=(by simp[ixF,hc400])
   rw[e] at hQ0 hQ1
   have:=ih (pre++[k]) (i+1) (by simp[he]) (by simp;omega) (fun k' hk'=>hk k' (List.mem_cons_of_mem _ hk')) hQ0 hQ1
   simpa using this
theorem qp6 (f:FuncId)(caps:List T)(hcaps:clL (fun _=>false) caps=true)(p:Rl→Bool)(xs:List Rl)(hl:xs.length≤1000000)(hk:∀k∈xs,TP Tryz.prog f ([qaU k]++caps) (.bool (p k))):TP Tryz.prog 139 [.list (qaC xs),.fn f caps] (.int .i64 (ixF p xs 0)):=by
 refine qai fn139 (by simp) ?_
 unfold i139
 simp only[argL]
 refine wR0 0 [0,1] cJ0 ?_
 refine wR0 100 [0,1,7,8] cJ0 ?_
 refine wL ?_
 refine ql5 f caps hcaps p xs hl _ xs [] 0 rfl rfl hk ?_ ?_
 ·intro h i
  refine wN ?_
  refine wR0 700 [4] cJ0 ?_
  refine wP ?_
  exact qaB h.symm
 ·intro h
  refine wN ?_
  exact⟨by simp,_,rfl,by exact .same rfl⟩
theorem qlj (f:FuncId)(caps:List T)(hcaps:clL (fun _=>false) caps=true)(p:Rl→Bool)(xs:List Rl)(hl:xs.length≤1000000)(hk:∀k∈xs,TP Tryz.prog f ([qaU k]++caps) (.bool (p k))):TP Tryz.prog 84 [.list (qaC xs),.fn f caps] (.bool (xs.any p)):=by
 have hfr:froL [.list (qaC xs),.fn f caps]=true:=by simp[froL,clL,T.cl,hcaps,qaV]
 refine qai fn84 (by simp) ?_
 unfold i84
 simp only[argL]
 refine wR0 0 [0,1] cJ0 ?_
 refine wRn 100 [4] cJ0 ?_
 refine rC cJ0 ?_
 refine⟨_,qp6 f caps hcaps p xs hl hk,rE cJ0 ?_⟩
 refine wP ?_
 exact qad (qjF p xs 0 (by omega))
theorem qpj (f:FuncId)(caps:List T)(hcaps:clL (fun _=>false) caps=true)(x:Int)(b:Bool)(h:TP Tryz.prog f ([.int .i64 x]++caps) (.bool b)):TP Tryz.prog 184 [.int .i64 x,.ptr [.fn f caps]] (.bool (!b)):=by
 refine qai fn184 (by simp) ?_
 unfold i184
 simp only[argL]
 refine wR0 0 [0,1] cJ0 ?_
 refine wRn 100 [3] cJ0 ?_
 refine rCv cJ0 ?_
 refine⟨_,h,rE cJ0 ?_⟩
 refine wP ?_
 exact qad rfl
theorem qle (f:FuncId)(caps:List T)(hcaps:clL (fun _=>false) caps=true)(p:Int→Bool)(l:List Int)(hl:l.length≤1000000)(hk:∀x∈l,TP Tryz.prog f ([.int .i64 x]++caps) (.bool (p x))):TP Tryz.prog 146 [.list (qab l),.fn f caps] (.bool (l.all p)):=by
 have hcaps0:clL (fun i=>decide (i=0)) caps=true:=qb8 (fun i hi=>by simp at hi) _ hcaps
 refine qai fn146 (by simp) ?_
 unfold i146
 simp only[argL]
 refine wR0 0 [0,3] cJ0 ?_
 refine wRn 100 [4] cJ0 ?_
 refine rL [(0,.live ⟨_,[.fn f caps]⟩)] cJ0 ?_
 refine⟨_,_,qhj 184 [.ptr [.fn f caps]] (by simp[clL,T.cl,hcaps]) (fun x=>!p x) l hl (fun x hx=>qpj f caps hcaps x _ (hk x hx)),fZl,rfl,rE cJ0 ?_⟩
 refine wP ?_
 exact qad (by rw[List.all_eq_not_any_not])
def qd4 (x:Int):Bool:=btw x 0 16
theorem qe7 (x:Int):TP Tryz.prog 177 [.int .i64 x] (.bool (qd4 x)):=by
 refine qai fn177 (by simp) ?_
 unfold i177
 simp only[argL]
 refine wR0 0 [0] cJ0 ?_
 refine wRn 100 [2] cJ0 ?_
 refine rC cJ0 ?_
 refine⟨_,qa1 x 0 16,rE cJ0 ?_⟩
 refine wP ?_
 exact qad rfl
def qcF (m:Md)(r:Rl):Bool:=((r.need.length:Int)==m.places.length)&&((r.give.length:Int)==m.places.length)&&r.need.all qd4&&r.give.all qd4
set_option maxHeartbeats 2000000 in
theorem qkj (m:Md)(r:Rl)(hr:r.fit):TP Tryz.prog 141 [qaA m,qaU r] (.bool (qcF m r)):=by
 refine qai fn141 (by simp) ?_
 unfold i141
 simp only[argL,qaA,mdC,qaU,rlC]
 refine wR0 0 [2,3] cJ0 ?_
 refine wR0 100 [2,3,5] cJ0 ?_
 refine wR0 200 [3,5,6] cJ0 ?_
 refine wRn 300 [4] cJ0 ?_
 refine rCi cJ0 ?_
 refine⟨_,fun hw=>qle 177 [] rfl qd4 r.need hr.need (fun x hx=>qe7 x),rN cJ0 ?_⟩
 refine rCi cJ0 ?_
 refine⟨_,fun hw=>qle 177 [] rfl qd4 r.give hr.give (fun x hx=>qe7 x),rE cJ0 ?_⟩
 refine wP ?_
 exact qad (by simp only[qcF,qac,qaf])
theorem qmh (x n:Int)(hn:-1000000000000≤n∧n≤1000000000000):TP Tryz.prog 178 [.int .i64 x,.ptr [.int .i64 n]] (.bool (btw x (-1) (n - 1))):=by
 have hw:IntKind.wrap .i64 (n - 1)=n - 1:=wrap64 (by omega) (by omega)
 have fX:=@hw
 refine qai fn178 (by simp) ?_
 unfold i178
 simp only[argL]
 refine wR0 0 [0,1] fX ?_
 refine wRn 100 [3] fX ?_
 refine rC fX ?_
 refine⟨_,qa1 x (-1) (n - 1),rE fX ?_⟩
 refine wP ?_
 exact qad rfl
def qfy (m:Md)(r:Rl):Bool:=((r.move.length:Int)==0) || (((r.move.length:Int)==m.places.length)&&r.move.all fun x=>btw x (-1) ((m.places.length:Int) - 1))
set_option maxHeartbeats 2000000 in
theorem qn3 (m:Md)(r:Rl)(hm:m.places.length≤1000)(hr:r.fit):TP Tryz.prog 142 [qaA m,qaU r] (.bool (qfy m r)):=by
 have ha:=qle 178 [.ptr [.int .i64 ((qar m.places).length:Int)]] rfl (fun x=>btw x (-1) (((qar m.places).length:Int) - 1)) r.move hr.move (fun x hx=>qmh x _ (by rw[qaf];omega))
 rcases h0:(((qab r.move).length:Int)==0) with _ | _
 ·have fX:=@h0
  refine qai fn142 (by simp) ?_
  unfold i142
  simp only[argL,qaA,mdC,qaU,rlC]
  refine wR0 0 [2,3] fX ?_
  refine wR0 100 [3,5] fX ?_
  refine wRn 200 [4] fX ?_
  refine rLi [(103,.live ⟨_,[.int .i64 ((qar m.places).length:Int)]⟩)] fX ?_
  refine⟨_,_,fun hw=>ha,fZl,rfl,rE fX ?_⟩
  refine wP ?_
  exact qad (by simp only[qfy];rw[qac] at h0;rw[h0];simp only[qac,qaf,Bool.false_or])
 ·have fX:=@h0
  refine qai fn142 (by simp) ?_
  unfold i142
  simp only[argL,qaA,mdC,qaU,rlC]
  refine wR0 0 [2,3] fX ?_
  refine wR0 100 [3,5] fX ?_
  refine wR0 200 [4] fX ?_
  refine wP ?_
  exact qad (by simp only[qfy];rw[qac] at h0;rw[h0,Bool.true_or])
def actsM (m:Md)(r:Rl):Bool:=if r.act=0 then (r.chan==0)&&(r.lett==0) else btw r.act 1 2&&btw r.chan 0 ((m.places.length:Int) - 1)&&btw r.lett 0 ((m.letters.length:Int) - 1)
def pathsM (m:Md)(r:Rl):Bool:=decide ((r.path.length:Int)≤m.levels)&&decide ((r.next.length:Int)≤m.levels)&&decide ((r.path.length:Int)+r.next.length > 0)&&(r.path.all fun x=>btw x 0 ((m.letters.length:Int) - 1))&&r.next.all fun x=>btw x 0 ((m.letters.length:Int) - 1)
theorem Frz.fnL {H:Heap}{f:FuncId}{cs cs':List T}(h:FrzL H cs cs'):Frz H (.fn f cs) (.fn f cs'):=.fn h.1 h.2
theorem Frz.refL {H:Heap}{id ty n:Nat}{cs:List T}(hb:H id=.live ⟨ty,cs⟩)(hn:n=cs.length)(h1:(cs.all T.one)=true)(hc:clL (fun _=>false) cs=true):Frz H (.ref id n 0) (.ptr cs):=by
 subst hn
 refine Frz.ref hb rfl (by simp) (fun c hc=>List.all_eq_true.1 h1 c hc) fun k hk=>?_
 rw[Nat.zero_add]
 exact .same (qaP hc k)
def ascI:List Int→Bool
 | a::b::l=>!decide (b<a)&&ascI (b::l)
 | _=>true
def badTk (n age:Int)(t:Tk):Bool:=!btw t.place 0 (n - 1) || decide (t.low<0) || decide (t.low > t.high) || decide (t.high > age+1)
def agesM (m:Md)(r:Rl):Bool:=decide ((r.takes.length:Int)≤3)&&decide ((r.makes.length:Int)≤3)&&ascI r.makes&&(r.makes.all fun x=>btw x 0 ((m.places.length:Int) - 1))&&!r.takes.any fun t=>badTk m.places.length m.age t
def qmM (a b:Rl):Bool:=
 (a.name.toList==b.name.toList)&&(a.from_==b.from_)&&(a.to_==b.to_)&&qie a.need b.need&&qie a.give b.give&&qie a.move b.move&&(a.chan==b.chan)&&(a.act==b.act)&&(a.lett==b.lett)&&
  qie a.path b.path&&qie a.next b.next&&qmN a.takes b.takes&&qie a.makes b.makes&&(a.second==b.second)
set_option maxHeartbeats 8000000 in
theorem qmO (a b:Rl)(ha:a.fit):TP Tryz.prog 148 [qaU a,qaU b] (.bool (qmM a b)):=by
 have fX:=(cJ3 @binS.eq_1 @binS.eq_2 @binS.eq_3)
 refine qai fn148 (by simp) ?_
 unfold i148
 simp only[argL,qaU,rlC]
 refine wR0 0 [2,3] fX ?_
 refine wRn 100 [4] fX ?_
 refine rCi fX ?_
 refine⟨_,fun hw=>qf6 a.need b.need ha.need,rN fX ?_⟩
 refine rCi fX ?_
 refine⟨_,fun hw=>qf6 a.give b.give ha.give,rN fX ?_⟩
 refine rCi fX ?_
 refine⟨_,fun hw=>qf6 a.move b.move ha.move,rN fX ?_⟩
 refine rCi fX ?_
 refine⟨_,fun hw=>qf6 a.path b.path ha.path,rN fX ?_⟩
 refine rCi fX ?_
 refine⟨_,fun hw=>qf6 a.next b.next ha.next,rN fX ?_⟩
 refine rCi fX ?_
 refine⟨_,fun hw=>qpz a.takes b.takes ha.takes,rN fX ?_⟩
 refine rCi fX ?_
 refine⟨_,fun hw=>qf6 a.makes b.makes ha.makes,rE fX ?_⟩
 refine wP ?_
 exact qad rfl
theorem qh7 (zs:List T):repl 1 zs=zs:=by simp[repl]
theorem qiV (zs:List T):repl 2 zs=zs++zs:=by simp[repl]
theorem repl3 (zs:List T):repl 3 zs=zs++(zs++zs):=by simp[repl]
theorem qap:qab []=[]:=rfl
def qaI (n:Int):Ty:=.mk 2 n [] []
def qa6 (k:Int)(t:Ty):Ty:=.mk k 0 [] [t]
def qdC (l:Int)(lv:Int):Ty:=if lv > 1 then qa6 5 (.mk 3 0 [] [qaI l,qa6 5 (qaI l)]) else qa6 5 (qaI l)
theorem qbj (l:Int):qdC l 1=qa6 5 (qaI l):=rfl
theorem qbw (l:Int):qdC l 2=qa6 5 (.mk 3 0 [] [qaI l,qa6 5 (qaI l)]):=rfl
def qaS (ps:List Ty):Ty:=.mk 3 0 [] ps
theorem qct (n:Int):TP Tryz.prog 189 [.int .i64 n] (qaw (qaI n)):=by
 refine qai fn189 (by simp) ?_
 unfold i189
 simp only[argL]
 refine wR0 0 [0,2] cJ0 ?_
 refine wR0 100 [2] cJ0 ?_
 refine wP ?_
 (refine eG ?_;(try simp only[qaI,qaw,qal,qap]);(first | exact fF | exact fZt))
theorem qeL (k tk ts:Int)(trs:List Int)(tps:List Ty):TP Tryz.prog 191 [.int .i64 k,qaw (.mk tk ts trs tps)] (qaw (qa6 k (.mk tk ts trs tps))):=by
 have fX:=(cJ2 @qh7 @qiV)
 refine qai fn191 (by simp) ?_
 unfold i191
 simp only[argL,qaw]
 refine wR0 0 [0,3,4] fX ?_
 refine wR0 100 [4] fX ?_
 refine wP ?_
 (refine eG ?_;(try simp only[qa6,qaw,qal,qap]);(first | exact fF | exact fZt))
theorem qge (l:Int):TP Tryz.prog 190 [.int .i64 l,.int .i64 1] (qaw (qdC l 1)):=by
 have hd:decide ((1:Int) > 1)=false:=rfl
 have h1:=qct l
 have h2:=qeL 5 2 l [] []
 simp only[qaI,qa6,qaw,qap,qal] at h1 h2
 have fX:=(cJ3 @hd @qh7 @qiV)
 refine qai fn190 (by simp) ?_
 unfold i190
 simp only[argL]
 refine wR0 0 [0,1,4] fX ?_
 refine wRn 100 [0,1,4,5] fX ?_
 refine rC fX ?_
 refine⟨_,h1,rE fX ?_⟩
 refine wR0 200 [0,1,4,5,9] fX ?_
 refine wF @hd ?_
 refine wRn 400 [4] fX ?_
 refine rC fX ?_
 refine⟨_,h2,rE fX ?_⟩
 refine wP ?_
 (refine eG ?_;(try simp only[qbj,qaI,qa6,qaw,qal,qap]);(first | exact fF | exact fZt))
theorem qkA (l:Int):TP Tryz.prog 190 [.int .i64 l,.int .i64 2] (qaw (qdC l 2)):=by
 have hd:decide ((2:Int) > 1)=true:=rfl
 have hw:IntKind.wrap .i64 ((2:Int) - 1)=1:=rfl
 have h1:=qct l
 have h3:=qge l
 have h4:=qeL 5 3 0 [] [qaI l,qa6 5 (qaI l)]
 simp only[qaI,qa6,qaw,qap,qal] at h4
 simp only[qbj,qaI,qa6,qaw,qap,qal] at h1 h3
 have fX:=(cJ4 @hd @hw @qh7 @qiV)
 refine qai fn190 (by simp) ?_
 unfold i190
 simp only[argL]
 refine wR0 0 [0,1,4] fX ?_
 refine wRn 100 [0,1,4,5] fX ?_
 refine rC fX ?_
 refine⟨_,h1,rE fX ?_⟩
 refine wR0 200 [0,1,4,5,9] fX ?_
 refine wT @hd ?_
 refine wRn 300 [4,5] fX ?_
 refine rC fX ?_
 refine⟨_,h3,rE fX ?_⟩
 refine wRn 400 [4] fX ?_
 refine rG [(305,.live ⟨_,_⟩)] fX ?_
 refine⟨_,_,h4,(by ((try simp only[qaI,qa6,qaw,qal,qap]);(first | exact fF | exact fZt))),rE fX ?_⟩
 refine wP ?_
 (refine eG ?_;(try simp only[qbw,qaI,qa6,qaw,qal,qap]);(first | exact fF | exact fZt))
theorem qgd {m:Md}(h:btw m.kind 1 6=true):m.kind=1∨m.kind=2∨m.kind=3∨m.kind=4∨m.kind=5∨m.kind=6:=by
 simp[btw] at h;omega
end
end Go.Proofs.YtncpdpbpcnoeeaaGreat
