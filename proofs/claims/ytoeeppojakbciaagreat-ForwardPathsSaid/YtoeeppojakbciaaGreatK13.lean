/- Contracts of functions of the program, for all arguments that they name. -/
import Derived.Test.YtoeeppojakbciaaGreatK03
import Derived.Test.YtoeeppojakbciaaGreatK12
namespace Go.Proofs.YtoeeppojakbciaaGreat
set_option linter.unusedVariables false
section
open Go.RowKit
set_option maxHeartbeats 2000000
def eqF {α:Type}(p:α→α→Bool):List α→List α→Bool
 | [],[]=>true
 | x::xs,y::ys=>p x y&&eqF p xs ys
 | _,_=>false
theorem qid {α:Type}(p:α→α→Bool)(h:∀x,p x x=true):∀xs,eqF p xs xs=true
 | []=>rfl
 | x::xs=>by simp[eqF,h,qid p h xs]
def eqI (a b:Int):Bool:=a==b
def eqTk (a b:Tk):Bool:=a.place==b.place&&(a.low==b.low&&(a.high==b.high&&true))
theorem qsS (k:IntKind)(a b c d e f:Int):qdx 3 [.int k a,.int k b,.int k c] [.int k d,.int k e,.int k f]=some (a==d&&(b==e&&(c==f&&true))):=by simp[qdx]
theorem qqH (xs ys:List Int)(hl:xs.length≤1000000)(Q:IExit→(Nat→T)→Heap→Prop):∀(rest pre rest2 pre2:List Int) (i:Nat),xs=pre++rest→ys=pre2++rest2→pre.length=i→pre2.length=i→rest.length=rest2.length→
 (eqF eqI rest rest2=true→∀i:Int,Q (.exit 0) (ofL [(0,.list (qac xs)),(1,.list (qac ys)),(12,.int .i64 (qac xs).length),(13,.int .i64 i),(14,.bool false)]) (hpL []))→
 (eqF eqI rest rest2=false→Q .ret (ofL [(4,.bool false)]) (hpL []))→
 WL Tryz.prog 26 qgM (ofL [(0,.list (qac xs)),(1,.list (qac ys)),(12,.int .i64 (qac xs).length),(13,.int .i64 i)]) (hpL []) Q:=by
 intro rest
 induction rest with
 | nil=>
  intro pre rest2 pre2 i he he2 hn hn2 hlr hQ0 hQ1
  have hd:decide ((i:Int)<((qac xs).length:Int))=false:=by simp[qad,he,hn]
  have hr:rest2=[]:=List.eq_nil_of_length_eq_zero hlr.symm
  subst hr
  have fX:=@hd
  refine qaa qgM.eq_1 ?_
  refine wR0 400 [0,1,12,13,14] fX ?_
  refine wF @hd ?_
  refine wX ?_
  refine wN ?_
  exact hQ0 rfl _
 | cons k rest ih=>
  intro pre rest2 pre2 i he he2 hn hn2 hlr hQ0 hQ1
  cases rest2 with
  | nil=>simp at hlr
  | cons l rest2=>
  have hlt:(i:Int)<((qac xs).length:Int):=by simp[qad,he];omega
  have hlt2:(i:Int)<((qac ys).length:Int):=by simp[qad,he2];omega
  have hlb:i≤1000000:=by rw[he] at hl;simp at hl;omega
  have hd:decide ((i:Int)<((qac xs).length:Int))=true:=decide_eq_true hlt
  have hg:(qac xs).getD (i:Int).toNat .undef=encI k:=by rw[Int.toNat_natCast,he,←hn];exact qci _ k _
  have hg2:(qac ys).getD (i:Int).toNat .undef=encI l:=by rw[Int.toNat_natCast,he2,←hn2];exact qci _ l _
  have hw:IntKind.wrap .i64 ((i:Int)+1)=(i:Int)+1:=wrap64 (by omega) (by omega)
  have fX:=(cJ6 @hd @hg @hg2 @hw @encI.eq_1 @encI.eq_1)
  refine qaa qgM.eq_1 ?_
  refine wR0 400 [0,1,12,13,14] fX ?_
  refine wT @hd ?_
  refine wR0 500 [0,1,5,12,13] fX ?_
  refine wR0 600 [0,1,12,13,24] fX ?_
  refine wS cJ0 (fun hc600=>?_) (fun hc600=>?_)
  ·skip
   refine wR0 700 [4] fX ?_
   refine wE ?_
   refine wN ?_
   have hp:eqI k l=false:=(by simpa [eqI] using hc600)
   exact hQ1 (by simp[eqF,hp])
  ·skip
   refine wR0 800 [0,1,12,13] fX ?_
   refine wN ?_
   have hp:eqI k l=true:=(by simpa [eqI] using hc600)
   have e:eqF eqI (k::rest) (l::rest2)=eqF eqI rest rest2:=(by simp[eqF,hp])
   rw[e] at hQ0 hQ1
   exact ih (pre++[k]) rest2 (pre2++[l]) (i+1) (by simp[he]) (by simp[he2]) (by simp;omega) (by simp;omega) (by simpa using hlr) hQ0 hQ1
theorem qhD (xs ys:List Int)(hl:xs.length≤1000000):TP Tryz.prog 89 [.list (qac xs),.list (qac ys)] (.bool ((xs.length==ys.length)&&eqF eqI xs ys)):=by
 refine qah fn89 (by simp) ?_
 unfold i89
 simp only[argL]
 refine wR0 0 [0,1] cJ0 ?_
 refine wR0 100 [0,1,10] cJ0 ?_
 refine wS cJ0 (fun hc100=>?_) (fun hc100=>?_)
 ·skip
  refine wR0 200 [4] cJ0 ?_
  refine wP ?_
  exact qab (by simp[qad] at hc100;have hne:xs.length≠ys.length:=(by omega);simp[hne])
 ·skip
  refine wR0 300 [0,1,12,13] cJ0 ?_
  simp only[thn]
  have hle:xs.length=ys.length:=(by simp[qad] at hc100;omega)
  refine wL ?_
  refine qqH xs ys hl _ xs [] ys [] 0 rfl rfl rfl rfl hle ?_ ?_
  ·intro h i
   refine wN ?_
   refine wR0 900 [4] cJ0 ?_
   refine wP ?_
   exact qab (by rw[h,hle];simp)
  ·intro h
   refine wN ?_
   exact⟨by simp,_,rfl,by exact qab (by rw[h];simp)⟩
theorem qoz (xs ys:List Tk)(hl:xs.length≤1000000)(Q:IExit→(Nat→T)→Heap→Prop):∀(rest pre rest2 pre2:List Tk) (i:Nat),xs=pre++rest→ys=pre2++rest2→pre.length=i→pre2.length=i→rest.length=rest2.length→
 (eqF eqTk rest rest2=true→∀i:Int,Q (.exit 0) (ofL [(0,.list (qbz xs)),(1,.list (qbz ys)),(12,.int .i64 (qbz xs).length),(13,.int .i64 i),(14,.bool false)]) (hpL []))→
 (eqF eqTk rest rest2=false→Q .ret (ofL [(4,.bool false)]) (hpL []))→
 WL Tryz.prog 26 qiD (ofL [(0,.list (qbz xs)),(1,.list (qbz ys)),(12,.int .i64 (qbz xs).length),(13,.int .i64 i)]) (hpL []) Q:=by
 intro rest
 induction rest with
 | nil=>
  intro pre rest2 pre2 i he he2 hn hn2 hlr hQ0 hQ1
  have hd:decide ((i:Int)<((qbz xs).length:Int))=false:=by simp[qb9,he,hn]
  have hr:rest2=[]:=List.eq_nil_of_length_eq_zero hlr.symm
  subst hr
  have fX:=@hd
  refine qaa qiD.eq_1 ?_
  refine wR0 400 [0,1,12,13,14] fX ?_
  refine wF @hd ?_
  refine wX ?_
  refine wN ?_
  exact hQ0 rfl _
 | cons k rest ih=>
  intro pre rest2 pre2 i he he2 hn hn2 hlr hQ0 hQ1
  cases rest2 with
  | nil=>simp at hlr
  | cons l rest2=>
  have hlt:(i:Int)<((qbz xs).length:Int):=by simp[qb9,he];omega
  have hlt2:(i:Int)<((qbz ys).length:Int):=by simp[qb9,he2];omega
  have hlb:i≤1000000:=by rw[he] at hl;simp at hl;omega
  have hd:decide ((i:Int)<((qbz xs).length:Int))=true:=decide_eq_true hlt
  have hg:(qbz xs).getD (i:Int).toNat .undef=qm0 k:=by rw[Int.toNat_natCast,he,←hn];exact qhB _ k _
  have hg2:(qbz ys).getD (i:Int).toNat .undef=qm0 l:=by rw[Int.toNat_natCast,he2,←hn2];exact qhB _ l _
  have hw:IntKind.wrap .i64 ((i:Int)+1)=(i:Int)+1:=wrap64 (by omega) (by omega)
  have fX:=(cJ8 @hd @hg @hg2 @hw @qm0.eq_1 @qsS @eqT.eq_1 @eqT.eq_2)
  refine qaa qiD.eq_1 ?_
  refine wR0 400 [0,1,12,13,14] fX ?_
  refine wT @hd ?_
  refine wR0 500 [0,1,5,12,13] fX ?_
  refine wR0 600 [0,1,12,13,24] fX ?_
  refine wS cJ0 (fun hc600=>?_) (fun hc600=>?_)
  ·skip
   refine wR0 700 [4] fX ?_
   refine wE ?_
   refine wN ?_
   have hp:eqTk k l=false:=(by cases h:eqTk k l<;>first | rfl | (exfalso;unfold eqTk at h;rw[h] at hc600;cases hc600))
   exact hQ1 (by simp[eqF,hp])
  ·skip
   refine wR0 800 [0,1,12,13] fX ?_
   refine wN ?_
   have hp:eqTk k l=true:=(by cases h:eqTk k l<;>first | rfl | (exfalso;unfold eqTk at h;rw[h] at hc600;cases hc600))
   have e:eqF eqTk (k::rest) (l::rest2)=eqF eqTk rest rest2:=(by simp[eqF,hp])
   rw[e] at hQ0 hQ1
   exact ih (pre++[k]) rest2 (pre2++[l]) (i+1) (by simp[he]) (by simp[he2]) (by simp;omega) (by simp;omega) (by simpa using hlr) hQ0 hQ1
theorem qsT (xs ys:List Tk)(hl:xs.length≤1000000):TP Tryz.prog 184 [.list (qbz xs),.list (qbz ys)] (.bool ((xs.length==ys.length)&&eqF eqTk xs ys)):=by
 refine qah fn184 (by simp) ?_
 unfold i184
 simp only[argL]
 refine wR0 0 [0,1] cJ0 ?_
 refine wR0 100 [0,1,10] cJ0 ?_
 refine wS cJ0 (fun hc100=>?_) (fun hc100=>?_)
 ·skip
  refine wR0 200 [4] cJ0 ?_
  refine wP ?_
  exact qab (by simp[qb9] at hc100;have hne:xs.length≠ys.length:=(by omega);simp[hne])
 ·skip
  refine wR0 300 [0,1,12,13] cJ0 ?_
  simp only[thn]
  have hle:xs.length=ys.length:=(by simp[qb9] at hc100;omega)
  refine wL ?_
  refine qoz xs ys hl _ xs [] ys [] 0 rfl rfl rfl rfl hle ?_ ?_
  ·intro h i
   refine wN ?_
   refine wR0 900 [4] cJ0 ?_
   refine wP ?_
   exact qab (by rw[h,hle];simp)
  ·intro h
   refine wN ?_
   exact⟨by simp,_,rfl,by exact qab (by rw[h];simp)⟩
def qht (xs ys:List Int):Bool:=(xs.length==ys.length)&&eqF eqI xs ys
def qkg (xs ys:List Tk):Bool:=(xs.length==ys.length)&&eqF eqTk xs ys
theorem qhU (xs:List Int):qht xs xs=true:=by simp[qht,qid eqI (fun x=>by simp[eqI])]
theorem qlg (xs:List Tk):qkg xs xs=true:=by simp[qkg,qid eqTk (fun x=>by simp[eqTk])]
theorem qpH (xs:List Int):qht xs []=(xs.length==0):=by cases xs<;>simp[qht,eqF]
theorem qnD (xs:List Tk):qkg xs []=(xs.length==0):=by cases xs<;>simp[qkg,eqF]
theorem qoR (f:FuncId)(caps:List T)(hcaps:clL (fun _=>false) caps=true)(p:Rl→Bool)(xs:List Rl)(hl:xs.length≤1000000)(Q:IExit→(Nat→T)→Heap→Prop):∀(rest pre:List Rl) (i:Nat),xs=pre++rest→pre.length=i→
 (∀k∈rest,TP Tryz.prog f ([qa0 k]++caps) (.bool (p k)))→
 (ixF p rest i = -1→∀i:Int,Q (.exit 0) (ofL [(0,.list (qaB xs)),(1,.fn f caps),(7,.int .i64 (qaB xs).length),(8,.int .i64 i),(9,.bool false)]) (hpL []))→
 (ixF p rest i ≠ -1→Q .ret (ofL [(4,.int .i64 (ixF p rest i))]) (hpL []))→
 WL Tryz.prog 19 qiu (ofL [(0,.list (qaB xs)),(1,.fn f caps),(7,.int .i64 (qaB xs).length),(8,.int .i64 i)]) (hpL []) Q:=by
 intro rest
 induction rest with
 | nil=>
  intro pre i he hn hk hQ0 hQ1
  have hd:decide ((i:Int)<((qaB xs).length:Int))=false:=by simp[qaD,he,hn]
  have fX:=@hd
  refine qaa qiu.eq_1 ?_
  refine wR0 200 [0,1,7,8,9] fX ?_
  refine wF @hd ?_
  refine wX ?_
  refine wN ?_
  exact hQ0 rfl _
 | cons k rest ih=>
  intro pre i he hn hk hQ0 hQ1
  skip
  have hlt:(i:Int)<((qaB xs).length:Int):=by simp[qaD,he];omega
  have hlb:i≤1000000:=by rw[he] at hl;simp at hl;omega
  have hd:decide ((i:Int)<((qaB xs).length:Int))=true:=decide_eq_true hlt
  have hg:(qaB xs).getD (i:Int).toNat .undef=.agg [.str k.name,.int .i64 k.from_,.int .i64 k.to_,.list (qac k.need),.list (qac k.give),.list (qac k.move),.int .i64 k.chan,.int .i64 k.act,.int .i64 k.lett,.list (qac k.path),.list (qac k.next),.list (qbz k.takes),.list (qac k.makes),.int .i64 k.second]:=by rw[Int.toNat_natCast,he,←hn];exact qc2 _ k _
  have hw:IntKind.wrap .i64 ((i:Int)+1)=(i:Int)+1:=wrap64 (by omega) (by omega)
  have fX:=(cJ3 @hd @hg @hw)
  refine qaa qiu.eq_1 ?_
  refine wR0 200 [0,1,7,8,9] fX ?_
  refine wT @hd ?_
  refine wR0 300 [0,1,5,7,8] fX ?_
  refine wRn 400 [0,1,5,7,8,16] fX ?_
  refine rCv fX ?_
  refine⟨_,hk k (List.mem_cons_self ..),rE fX ?_⟩
  refine wS cJ0 (fun hc400=>?_) (fun hc400=>?_)
  ·skip
   refine wR0 500 [4] fX ?_
   refine wE ?_
   refine wN ?_
   have e:ixF p (k::rest) i=i:=(by simp[ixF,hc400])
   rw[e] at hQ1
   exact hQ1 (by omega)
  ·skip
   refine wR0 600 [0,1,7,8] fX ?_
   refine wN ?_
   have e:ixF p (k::rest) i=ixF p rest ((i+1:Nat):Int):=(by simp[ixF,hc400])
   rw[e] at hQ0 hQ1
   have:=ih (pre++[k]) (i+1) (by simp[he]) (by simp;omega) (fun k' hk'=>hk k' (List.mem_cons_of_mem _ hk')) hQ0 hQ1
   simpa using this
theorem qtq (f:FuncId)(caps:List T)(hcaps:clL (fun _=>false) caps=true)(p:Rl→Bool)(xs:List Rl)(hl:xs.length≤1000000)(hk:∀k∈xs,TP Tryz.prog f ([qa0 k]++caps) (.bool (p k))):TP Tryz.prog 138 [.list (qaB xs),.fn f caps] (.int .i64 (ixF p xs 0)):=by
 refine qah fn138 (by simp) ?_
 unfold i138
 simp only[argL]
 refine wR0 0 [0,1] cJ0 ?_
 refine wR0 100 [0,1,7,8] cJ0 ?_
 refine wL ?_
 refine qoR f caps hcaps p xs hl _ xs [] 0 rfl rfl hk ?_ ?_
 ·intro h i
  refine wN ?_
  refine wR0 700 [4] cJ0 ?_
  refine wP ?_
  exact qaE h.symm
 ·intro h
  refine wN ?_
  exact⟨by simp,_,rfl,by exact .same rfl⟩
theorem qn1 (f:FuncId)(caps:List T)(hcaps:clL (fun _=>false) caps=true)(p:Rl→Bool)(xs:List Rl)(hl:xs.length≤1000000)(hk:∀k∈xs,TP Tryz.prog f ([qa0 k]++caps) (.bool (p k))):TP Tryz.prog 83 [.list (qaB xs),.fn f caps] (.bool (xs.any p)):=by
 have hfr:froL [.list (qaB xs),.fn f caps]=true:=by simp[froL,clL,T.cl,hcaps,qal]
 refine qah fn83 (by simp) ?_
 unfold i83
 simp only[argL]
 refine wR0 0 [0,1] cJ0 ?_
 refine wRn 100 [4] cJ0 ?_
 refine rC cJ0 ?_
 refine⟨_,qtq f caps hcaps p xs hl hk,rE cJ0 ?_⟩
 refine wP ?_
 exact qab (ql7 p xs 0 (by omega))
theorem qsE (f:FuncId)(caps:List T)(hcaps:clL (fun _=>false) caps=true)(x:Int)(b:Bool)(h:TP Tryz.prog f ([.int .i64 x]++caps) (.bool b)):TP Tryz.prog 183 [.int .i64 x,.ptr [.fn f caps]] (.bool (!b)):=by
 refine qah fn183 (by simp) ?_
 unfold i183
 simp only[argL]
 refine wR0 0 [0,1] cJ0 ?_
 refine wRn 100 [3] cJ0 ?_
 refine rCv cJ0 ?_
 refine⟨_,h,rE cJ0 ?_⟩
 refine wP ?_
 exact qab rfl
theorem qnW (f:FuncId)(caps:List T)(hcaps:clL (fun _=>false) caps=true)(p:Int→Bool)(l:List Int)(hl:l.length≤1000000)(hk:∀x∈l,TP Tryz.prog f ([.int .i64 x]++caps) (.bool (p x))):TP Tryz.prog 145 [.list (qac l),.fn f caps] (.bool (l.all p)):=by
 have hcaps0:clL (fun i=>decide (i=0)) caps=true:=qcP (fun i hi=>by simp at hi) _ hcaps
 refine qah fn145 (by simp) ?_
 unfold i145
 simp only[argL]
 refine wR0 0 [0,3] cJ0 ?_
 refine wRn 100 [4] cJ0 ?_
 refine rL [(0,.live ⟨_,[.fn f caps]⟩)] cJ0 ?_
 refine⟨_,_,qjd 183 [.ptr [.fn f caps]] (by simp[clL,T.cl,hcaps]) (fun x=>!p x) l hl (fun x hx=>qsE f caps hcaps x _ (hk x hx)),fZl,rfl,rE cJ0 ?_⟩
 refine wP ?_
 exact qab (by rw[List.all_eq_not_any_not])
def qei (x:Int):Bool:=btw x 0 16
theorem qgr (x:Int):TP Tryz.prog 176 [.int .i64 x] (.bool (qei x)):=by
 refine qah fn176 (by simp) ?_
 unfold i176
 simp only[argL]
 refine wR0 0 [0] cJ0 ?_
 refine wRn 100 [2] cJ0 ?_
 refine rC cJ0 ?_
 refine⟨_,qbm x 0 16,rE cJ0 ?_⟩
 refine wP ?_
 exact qab rfl
def qcO (m:Md)(r:Rl):Bool:=((r.need.length:Int)==m.places.length)&&((r.give.length:Int)==m.places.length)&&r.need.all qei&&r.give.all qei
set_option maxHeartbeats 2000000 in
theorem qmS (m:Md)(r:Rl)(hr:r.fit):TP Tryz.prog 140 [qas m,qa0 r] (.bool (qcO m r)):=by
 refine qah fn140 (by simp) ?_
 unfold i140
 simp only[argL,qas,mdC,qa0,rlC]
 refine wR0 0 [2,3] cJ0 ?_
 refine wR0 100 [2,3,5] cJ0 ?_
 refine wR0 200 [3,5,6] cJ0 ?_
 refine wRn 300 [4] cJ0 ?_
 refine rCi cJ0 ?_
 refine⟨_,fun hw=>qnW 176 [] rfl qei r.need hr.need (fun x hx=>qgr x),rN cJ0 ?_⟩
 refine rCi cJ0 ?_
 refine⟨_,fun hw=>qnW 176 [] rfl qei r.give hr.give (fun x hx=>qgr x),rE cJ0 ?_⟩
 refine wP ?_
 exact qab (by simp only[qcO,qad,qaf])
theorem qo3 (x n:Int)(hn:-1000000000000≤n∧n≤1000000000000):TP Tryz.prog 177 [.int .i64 x,.ptr [.int .i64 n]] (.bool (btw x (-1) (n - 1))):=by
 have hw:IntKind.wrap .i64 (n - 1)=n - 1:=wrap64 (by omega) (by omega)
 have fX:=@hw
 refine qah fn177 (by simp) ?_
 unfold i177
 simp only[argL]
 refine wR0 0 [0,1] fX ?_
 refine wRn 100 [3] fX ?_
 refine rC fX ?_
 refine⟨_,qbm x (-1) (n - 1),rE fX ?_⟩
 refine wP ?_
 exact qab rfl
def qfI (m:Md)(r:Rl):Bool:=((r.move.length:Int)==0) || (((r.move.length:Int)==m.places.length)&&r.move.all fun x=>btw x (-1) ((m.places.length:Int) - 1))
set_option maxHeartbeats 2000000 in
theorem qq8 (m:Md)(r:Rl)(hm:m.places.length≤1000)(hr:r.fit):TP Tryz.prog 141 [qas m,qa0 r] (.bool (qfI m r)):=by
 have ha:=qnW 177 [.ptr [.int .i64 ((qau m.places).length:Int)]] rfl (fun x=>btw x (-1) (((qau m.places).length:Int) - 1)) r.move hr.move (fun x hx=>qo3 x _ (by rw[qaf];omega))
 rcases h0:(((qac r.move).length:Int)==0) with _ | _
 ·have fX:=@h0
  refine qah fn141 (by simp) ?_
  unfold i141
  simp only[argL,qas,mdC,qa0,rlC]
  refine wR0 0 [2,3] fX ?_
  refine wR0 100 [3,5] fX ?_
  refine wRn 200 [4] fX ?_
  refine rLi [(103,.live ⟨_,[.int .i64 ((qau m.places).length:Int)]⟩)] fX ?_
  refine⟨_,_,fun hw=>ha,fZl,rfl,rE fX ?_⟩
  refine wP ?_
  exact qab (by simp only[qfI];rw[qad] at h0;rw[h0];simp only[qad,qaf,Bool.false_or])
 ·have fX:=@h0
  refine qah fn141 (by simp) ?_
  unfold i141
  simp only[argL,qas,mdC,qa0,rlC]
  refine wR0 0 [2,3] fX ?_
  refine wR0 100 [3,5] fX ?_
  refine wR0 200 [4] fX ?_
  refine wP ?_
  exact qab (by simp only[qfI];rw[qad] at h0;rw[h0,Bool.true_or])
def actsM (m:Md)(r:Rl):Bool:=if r.act=0 then (r.chan==0)&&(r.lett==0) else btw r.act 1 2&&btw r.chan 0 ((m.places.length:Int) - 1)&&btw r.lett 0 ((m.letters.length:Int) - 1)
def pathsM (m:Md)(r:Rl):Bool:=decide ((r.path.length:Int)≤m.levels)&&decide ((r.next.length:Int)≤m.levels)&&decide ((r.path.length:Int)+r.next.length > 0)&&(r.path.all fun x=>btw x 0 ((m.letters.length:Int) - 1))&&r.next.all fun x=>btw x 0 ((m.letters.length:Int) - 1)
theorem Frz.fnL {H:Heap}{f:FuncId}{cs cs':List T}(h:FrzL H cs cs'):Frz H (.fn f cs) (.fn f cs'):=.fn h.1 h.2
theorem Frz.refL {H:Heap}{id ty n:Nat}{cs:List T}(hb:H id=.live ⟨ty,cs⟩)(hn:n=cs.length)(h1:(cs.all T.one)=true)(hc:clL (fun _=>false) cs=true):Frz H (.ref id n 0) (.ptr cs):=by
 subst hn
 refine Frz.ref hb rfl (by simp) (fun c hc=>List.all_eq_true.1 h1 c hc) fun k hk=>?_
 rw[Nat.zero_add]
 exact .same (qa5 hc k)
def ascI:List Int→Bool
 | a::b::l=>!decide (b<a)&&ascI (b::l)
 | _=>true
def badTk (n age:Int)(t:Tk):Bool:=!btw t.place 0 (n - 1) || decide (t.low<0) || decide (t.low > t.high) || decide (t.high > age+1)
def agesM (m:Md)(r:Rl):Bool:=decide ((r.takes.length:Int)≤3)&&decide ((r.makes.length:Int)≤3)&&ascI r.makes&&(r.makes.all fun x=>btw x 0 ((m.places.length:Int) - 1))&&!r.takes.any fun t=>badTk m.places.length m.age t
def qnC (a b:Rl):Bool:=
 (a.name.toList==b.name.toList)&&(a.from_==b.from_)&&(a.to_==b.to_)&&qht a.need b.need&&qht a.give b.give&&qht a.move b.move&&(a.chan==b.chan)&&(a.act==b.act)&&(a.lett==b.lett)&&
  qht a.path b.path&&qht a.next b.next&&qkg a.takes b.takes&&qht a.makes b.makes&&(a.second==b.second)
set_option maxHeartbeats 8000000 in
theorem qpI (a b:Rl)(ha:a.fit):TP Tryz.prog 147 [qa0 a,qa0 b] (.bool (qnC a b)):=by
 have fX:=(cJ3 @binS.eq_1 @binS.eq_2 @binS.eq_3)
 refine qah fn147 (by simp) ?_
 unfold i147
 simp only[argL,qa0,rlC]
 refine wR0 0 [2,3] fX ?_
 refine wRn 100 [4] fX ?_
 refine rCi fX ?_
 refine⟨_,fun hw=>qhD a.need b.need ha.need,rN fX ?_⟩
 refine rCi fX ?_
 refine⟨_,fun hw=>qhD a.give b.give ha.give,rN fX ?_⟩
 refine rCi fX ?_
 refine⟨_,fun hw=>qhD a.move b.move ha.move,rN fX ?_⟩
 refine rCi fX ?_
 refine⟨_,fun hw=>qhD a.path b.path ha.path,rN fX ?_⟩
 refine rCi fX ?_
 refine⟨_,fun hw=>qhD a.next b.next ha.next,rN fX ?_⟩
 refine rCi fX ?_
 refine⟨_,fun hw=>qsT a.takes b.takes ha.takes,rN fX ?_⟩
 refine rCi fX ?_
 refine⟨_,fun hw=>qhD a.makes b.makes ha.makes,rE fX ?_⟩
 refine wP ?_
 exact qab rfl
theorem qnz (n lo hi:Int)(xs:List Int)(hl:xs.length≤1000000)(Q:IExit→(Nat→T)→Heap→Prop):∀(rest pre:List Int) (i:Nat),xs=pre++rest→pre.length=i→
 ((rest.all fun x=>btw x lo hi)=true→∀i:Int,Q (.exit 0) (ofL [(0,.list (qac xs)),(1,.int .i64 n),(2,.int .i64 lo),(3,.int .i64 hi),(9,.int .i64 i),(13,.bool false)]) (hpL []))→
 ((rest.all fun x=>btw x lo hi)=false→Q .ret (ofL [(8,.bool false)]) (hpL []))→
 WL Tryz.prog 28 qiz (ofL [(0,.list (qac xs)),(1,.int .i64 n),(2,.int .i64 lo),(3,.int .i64 hi),(9,.int .i64 i)]) (hpL []) Q:=by
 intro rest
 induction rest with
 | nil=>
  intro pre i he hn hQ0 hQ1
  have hd:decide ((i:Int)<((qac xs).length:Int))=false:=by simp[qad,he,hn]
  have fX:=@hd
  refine qaa qiz.eq_1 ?_
  refine wR0 200 [0,1,2,3,9,13] fX ?_
  refine wF @hd ?_
  refine wX ?_
  refine wN ?_
  exact hQ0 rfl _
 | cons k rest ih=>
  intro pre i he hn hQ0 hQ1
  have hlt:(i:Int)<((qac xs).length:Int):=by simp[qad,he];omega
  have hlb:i≤1000000:=by rw[he] at hl;simp at hl;omega
  have hd:decide ((i:Int)<((qac xs).length:Int))=true:=decide_eq_true hlt
  have hg:(qac xs).getD (i:Int).toNat .undef=.int .i64 k:=by rw[Int.toNat_natCast,he,←hn];exact qci _ k _
  have hw:IntKind.wrap .i64 ((i:Int)+1)=(i:Int)+1:=wrap64 (by omega) (by omega)
  have fX:=(cJ3 @hd @hg @hw)
  refine qaa qiz.eq_1 ?_
  refine wR0 200 [0,1,2,3,9,13] fX ?_
  refine wT @hd ?_
  refine wRn 300 [0,1,2,3,9,23] fX ?_
  refine rC fX ?_
  refine⟨_,qat k lo hi,rE fX ?_⟩
  refine wS cJ0 (fun hc300=>?_) (fun hc300=>?_)
  ·skip
   refine wR0 400 [8] fX ?_
   refine wE ?_
   refine wN ?_
   simp at hc300
   exact hQ1 (by simp[hc300])
  ·skip
   refine wR0 500 [0,1,2,3,9] fX ?_
   refine wN ?_
   simp at hc300
   have e:((k::rest).all fun x=>btw x lo hi)=(rest.all fun x=>btw x lo hi):=(by simp[hc300])
   rw[e] at hQ0 hQ1
   exact ih (pre++[k]) (i+1) (by simp[he]) (by simp;omega) hQ0 hQ1
def qjQ (xs:List Int)(n lo hi:Int):Bool:=(xs.all fun x=>btw x lo hi)&&((xs.length:Int)==n)
theorem qe3 (xs:List Int)(n lo hi:Int)(hl:xs.length≤1000000):TP Tryz.prog 160 [.list (qac xs),.int .i64 n,.int .i64 lo,.int .i64 hi] (.bool (qjQ xs n lo hi)):=by
 refine qah fn160 (by simp) ?_
 unfold i160
 simp only[argL]
 refine wR0 0 [0,1,2,3] cJ0 ?_
 refine wR0 100 [0,1,2,3,9] cJ0 ?_
 refine wL ?_
 refine qnz n lo hi xs hl _ xs [] 0 rfl rfl ?_ ?_
 ·intro h i
  refine wN ?_
  refine wR0 600 [8] cJ0 ?_
  refine wP ?_
  exact qab (by rw[qjQ,h,qad,Bool.true_and])
 ·intro h
  refine wN ?_
  exact⟨by simp,_,rfl,by exact qab (by rw[qjQ,h,Bool.false_and])⟩
def fewR (xs:List Int)(n hi:Int):Bool:=decide ((xs.length:Int)≤n)&&xs.all fun x=>btw x 0 hi
theorem qld (m:Md)(hl:m.ranks.length≤1000000)(Q:IExit→(Nat→T)→Heap→Prop):∀(rest pre:List Int) (i:Nat),m.ranks=pre++rest→pre.length=i→
 ((rest.all fun x=>btw x 0 5)=true→∀i:Int,Q (.exit 0) (ofL [(1,.ref 0 10 0),(3,.int .i64 i),(22,.bool false)]) (hpL [(0,.live ⟨33,mdC m⟩)]))→
 ((rest.all fun x=>btw x 0 5)=false→Q .ret (ofL [(2,.bool false)]) (hpL [(0,.live ⟨33,mdC m⟩)]))→
 WL Tryz.prog 32 qil (ofL [(1,.ref 0 10 0),(3,.int .i64 i)]) (hpL [(0,.live ⟨33,mdC m⟩)]) Q:=by
 intro rest
 simp only[mdC]
 induction rest with
 | nil=>
  intro pre i he hn hQ0 hQ1
  have hd:decide ((i:Int)<((qac m.ranks).length:Int))=false:=by simp[qad,he,hn]
  have fX:=@hd
  refine qaa qil.eq_1 ?_
  refine wR0 600 [1,3,22] fX ?_
  refine wF @hd ?_
  refine wX ?_
  refine wN ?_
  exact hQ0 rfl _
 | cons k rest ih=>
  intro pre i he hn hQ0 hQ1
  have hlt:(i:Int)<((qac m.ranks).length:Int):=by simp[qad,he];omega
  have hlb:i≤1000000:=by rw[he] at hl;simp at hl;omega
  have hd:decide ((i:Int)<((qac m.ranks).length:Int))=true:=decide_eq_true hlt
  have hg:(qac m.ranks).getD (i:Int).toNat .undef=.int .i64 k:=by rw[Int.toNat_natCast,he,←hn];exact qci _ k _
  have hw:IntKind.wrap .i64 ((i:Int)+1)=(i:Int)+1:=wrap64 (by omega) (by omega)
  have fX:=(cJ3 @hd @hg @hw)
  refine qaa qil.eq_1 ?_
  refine wR0 600 [1,3,22] fX ?_
  refine wT @hd ?_
  refine wRn 700 [1,3,31] fX ?_
  refine rC fX ?_
  refine⟨_,qat k 0 5,rE fX ?_⟩
  refine wS cJ0 (fun hc700=>?_) (fun hc700=>?_)
  ·skip
   refine wR0 800 [2] fX ?_
   refine wE ?_
   refine wN ?_
   simp at hc700
   exact hQ1 (by simp[hc700])
  ·skip
   refine wR0 900 [1,3] fX ?_
   refine wN ?_
   simp at hc700
   have e:((k::rest).all fun x=>btw x 0 5)=(rest.all fun x=>btw x 0 5):=(by simp[hc700])
   rw[e] at hQ0 hQ1
   exact ih (pre++[k]) (i+1) (by simp[he]) (by simp;omega) hQ0 hQ1
theorem qpA (m:Md)(hm:m.fit):TP Tryz.prog 110 [qas m] (.bool (qcT m)):=by
 have hr:=hm.ranks
 refine qah fn110 (by simp) ?_
 unfold i110
 simp only[argL,qas,mdC]
 refine wR0 0 [1] cJ0 ?_
 refine wR0 100 [1,6] cJ0 ?_
 refine wS cJ0 (fun hc100=>?_) (fun hc100=>?_)
 ·skip
  refine wR0 200 [2] cJ0 ?_
  refine wP ?_
  exact qab (by simp at hc100;rw[qcT,if_pos hc100,qad])
 ·skip
  refine wR0 300 [1,17] cJ0 ?_
  refine wS cJ0 (fun hc300=>?_) (fun hc300=>?_)
  ·skip
   refine wR0 400 [2] cJ0 ?_
   refine wP ?_
   exact qab (by simp at hc100;simp[qad,qaf] at hc300;rw[qcT,if_neg (by simp[hc100])];simp;omega)
  ·skip
   refine wR0 500 [1,3] cJ0 ?_
   simp only[thn]
   have hlen:((m.ranks.length:Int)==m.letters.length)=true:=(by simpa [qad,qaf] using hc300)
   refine wL ?_
   refine qld m hr _ m.ranks [] 0 rfl rfl ?_ ?_
   ·intro h i
    refine wN ?_
    refine wR0 1000 [2] cJ0 ?_
    refine wP ?_
    exact qab (by simp at hc100;rw[qcT,if_neg (by simp[hc100]),hlen,Bool.true_and,←List.all_eq_not_any_not,h])
   ·intro h
    refine wN ?_
    exact⟨by simp,_,rfl,by exact qab (by simp at hc100;rw[qcT,if_neg (by simp[hc100]),hlen,Bool.true_and,←List.all_eq_not_any_not,h])⟩
def timedR (m:Md)(r:Rl):Bool:=!(decide ((r.takes.length:Int) > 3) || !fewR r.makes 3 ((m.places.length:Int) - 1))&&!(r.takes.any fun t=>badTk m.places.length m.age t)&&ascI r.makes
theorem qee (zs:List T):repl 1 zs=zs:=by simp[repl]
theorem qhd (zs:List T):repl 2 zs=zs++zs:=by simp[repl]
theorem repl3 (zs:List T):repl 3 zs=zs++(zs++zs):=by simp[repl]
theorem qaw:qac []=[]:=rfl
def qaM (n:Int):Ty:=.mk 2 n [] []
def qbf (k:Int)(t:Ty):Ty:=.mk k 0 [] [t]
def qdJ (l:Int)(lv:Int):Ty:=if lv > 1 then qbf 5 (.mk 3 0 [] [qaM l,qbf 5 (qaM l)]) else qbf 5 (qaM l)
theorem qbE (l:Int):qdJ l 1=qbf 5 (qaM l):=rfl
theorem qbP (l:Int):qdJ l 2=qbf 5 (.mk 3 0 [] [qaM l,qbf 5 (qaM l)]):=rfl
def qaS (ps:List Ty):Ty:=.mk 3 0 [] ps
theorem qc9 (n:Int):TP Tryz.prog 188 [.int .i64 n] (qax (qaM n)):=by
 refine qah fn188 (by simp) ?_
 unfold i188
 simp only[argL]
 refine wR0 0 [0,2] cJ0 ?_
 refine wR0 100 [2] cJ0 ?_
 refine wP ?_
 (refine eG ?_;(try simp only[qaM,qax,qaj,qaw]);(first | exact fF | exact fZt))
theorem qfY (k tk ts:Int)(trs:List Int)(tps:List Ty):TP Tryz.prog 190 [.int .i64 k,qax (.mk tk ts trs tps)] (qax (qbf k (.mk tk ts trs tps))):=by
 have fX:=(cJ2 @qee @qhd)
 refine qah fn190 (by simp) ?_
 unfold i190
 simp only[argL,qax]
 refine wR0 0 [0,3,4] fX ?_
 refine wR0 100 [4] fX ?_
 refine wP ?_
 (refine eG ?_;(try simp only[qbf,qax,qaj,qaw]);(first | exact fF | exact fZt))
theorem qhK (l:Int):TP Tryz.prog 189 [.int .i64 l,.int .i64 1] (qax (qdJ l 1)):=by
 have hd:decide ((1:Int) > 1)=false:=rfl
 have h1:=qc9 l
 have h2:=qfY 5 2 l [] []
 simp only[qaM,qbf,qax,qaw,qaj] at h1 h2
 have fX:=(cJ3 @hd @qee @qhd)
 refine qah fn189 (by simp) ?_
 unfold i189
 simp only[argL]
 refine wR0 0 [0,1,4] fX ?_
 refine wRn 100 [0,1,4,5] fX ?_
 refine rC fX ?_
 refine⟨_,h1,rE fX ?_⟩
 refine wR0 200 [0,1,4,5,9] fX ?_
 refine wF @hd ?_
 refine wRn 400 [4] fX ?_
 refine rC fX ?_
 refine⟨_,h2,rE fX ?_⟩
 refine wP ?_
 (refine eG ?_;(try simp only[qbE,qaM,qbf,qax,qaj,qaw]);(first | exact fF | exact fZt))
theorem qnf (l:Int):TP Tryz.prog 189 [.int .i64 l,.int .i64 2] (qax (qdJ l 2)):=by
 have hd:decide ((2:Int) > 1)=true:=rfl
 have hw:IntKind.wrap .i64 ((2:Int) - 1)=1:=rfl
 have h1:=qc9 l
 have h3:=qhK l
 have h4:=qfY 5 3 0 [] [qaM l,qbf 5 (qaM l)]
 simp only[qaM,qbf,qax,qaw,qaj] at h4
 simp only[qbE,qaM,qbf,qax,qaw,qaj] at h1 h3
 have fX:=(cJ4 @hd @hw @qee @qhd)
 refine qah fn189 (by simp) ?_
 unfold i189
 simp only[argL]
 refine wR0 0 [0,1,4] fX ?_
 refine wRn 100 [0,1,4,5] fX ?_
 refine rC fX ?_
 refine⟨_,h1,rE fX ?_⟩
 refine wR0 200 [0,1,4,5,9] fX ?_
 refine wT @hd ?_
 refine wRn 300 [4,5] fX ?_
 refine rC fX ?_
 refine⟨_,h3,rE fX ?_⟩
 refine wRn 400 [4] fX ?_
 refine rG [(305,.live ⟨_,_⟩)] fX ?_
 refine⟨_,_,h4,(by ((try simp only[qaM,qbf,qax,qaj,qaw]);(first | exact fF | exact fZt))),rE fX ?_⟩
 refine wP ?_
 (refine eG ?_;(try simp only[qbP,qaM,qbf,qax,qaj,qaw]);(first | exact fF | exact fZt))
end
end Go.Proofs.YtoeeppojakbciaaGreat
