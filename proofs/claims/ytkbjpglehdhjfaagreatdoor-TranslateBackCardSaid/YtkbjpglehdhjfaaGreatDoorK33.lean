/- Contracts of functions of the program, for all arguments that they name. -/
import Derived.Test.YtkbjpglehdhjfaaGreatDoorK08
import Derived.Test.YtkbjpglehdhjfaaGreatDoorK32
namespace Go.Proofs.YtkbjpglehdhjfaaGreatDoor
set_option linter.unusedVariables false
section
open Go.RowKit
set_option maxHeartbeats 2000000
theorem qtX (k:IntKind)(a b c d e f:Int):qbx 3 [.int k a,.int k b,.int k c] [.int k d,.int k e,.int k f]=some (a==d&&(b==e&&(c==f&&true))):=by simp[qbx]
theorem qrK (xs ys:List Int)(hl:xs.length≤1000000)(Q:IExit→(Nat→T)→Heap→Prop):∀(rest pre rest2 pre2:List Int) (i:Nat),xs=pre++rest→ys=pre2++rest2→pre.length=i→pre2.length=i→rest.length=rest2.length→
 (eqF eqI rest rest2=true→∀i:Int,Q (.exit 0) (ofL [(0,.list (qad xs)),(1,.list (qad ys)),(12,.int .i64 (qad xs).length),(13,.int .i64 i),(14,.bool false)]) (hpL []))→
 (eqF eqI rest rest2=false→Q .ret (ofL [(4,.bool false)]) (hpL []))→
 WL Tryz.prog 26 qjE (ofL [(0,.list (qad xs)),(1,.list (qad ys)),(12,.int .i64 (qad xs).length),(13,.int .i64 i)]) (hpL []) Q:=by
 intro rest
 induction rest with
 | nil=>
  intro pre rest2 pre2 i he he2 hn hn2 hlr hQ0 hQ1
  have hd:decide ((i:Int)<((qad xs).length:Int))=false:=by simp[qae,he,hn]
  have hr:rest2=[]:=List.eq_nil_of_length_eq_zero hlr.symm
  subst hr
  have fX:=@hd
  refine qaa qjE.eq_1 ?_
  refine wR0 400 [0,1,12,13,14] fX ?_
  refine wF @hd ?_
  refine wX ?_
  refine wN ?_
  exact hQ0 rfl _
 | cons k rest ih=>
  intro pre rest2 pre2 i he he2 hn hn2 hlr hQ0 hQ1
  cases rest2 with
  | nil=>simp at hlr
  | cons l rest2=>
  have hlt:(i:Int)<((qad xs).length:Int):=by simp[qae,he];omega
  have hlt2:(i:Int)<((qad ys).length:Int):=by simp[qae,he2];omega
  have hlb:i≤1000000:=by rw[he] at hl;simp at hl;omega
  have hd:decide ((i:Int)<((qad xs).length:Int))=true:=decide_eq_true hlt
  have hg:(qad xs).getD (i:Int).toNat .undef=encI k:=by rw[Int.toNat_natCast,he,←hn];exact qcN _ k _
  have hg2:(qad ys).getD (i:Int).toNat .undef=encI l:=by rw[Int.toNat_natCast,he2,←hn2];exact qcN _ l _
  have hw:IntKind.wrap .i64 ((i:Int)+1)=(i:Int)+1:=wrap64 (by omega) (by omega)
  have fX:=(cJ6 @hd @hg @hg2 @hw @encI.eq_1 @encI.eq_1)
  refine qaa qjE.eq_1 ?_
  refine wR0 400 [0,1,12,13,14] fX ?_
  refine wT @hd ?_
  refine wR0 500 [0,1,5,12,13] fX ?_
  refine wR0 600 [0,1,12,13,24] fX ?_
  refine wS cJ0 (fun hc600=>?_) (fun hc600=>?_)
  ·skip
   refine wR0 700 [4] fX ?_
   refine wE ?_
   refine wN ?_
   have hp:eqI k l=false:=(by simpa [eqI] using hc600)
   exact hQ1 (by simp[eqF,hp])
  ·skip
   refine wR0 800 [0,1,12,13] fX ?_
   refine wN ?_
   have hp:eqI k l=true:=(by simpa [eqI] using hc600)
   have e:eqF eqI (k::rest) (l::rest2)=eqF eqI rest rest2:=(by simp[eqF,hp])
   rw[e] at hQ0 hQ1
   exact ih (pre++[k]) rest2 (pre2++[l]) (i+1) (by simp[he]) (by simp[he2]) (by simp;omega) (by simp;omega) (by simpa using hlr) hQ0 hQ1
theorem qiB (xs ys:List Int)(hl:xs.length≤1000000):TP Tryz.prog 236 [.list (qad xs),.list (qad ys)] (.bool ((xs.length==ys.length)&&eqF eqI xs ys)):=by
 refine qag fn236 (by simp) ?_
 unfold i236
 simp only[argL]
 refine wR0 0 [0,1] cJ0 ?_
 refine wR0 100 [0,1,10] cJ0 ?_
 refine wS cJ0 (fun hc100=>?_) (fun hc100=>?_)
 ·skip
  refine wR0 200 [4] cJ0 ?_
  refine wP ?_
  exact qac (by simp[qae] at hc100;have hne:xs.length≠ys.length:=(by omega);simp[hne])
 ·skip
  refine wR0 300 [0,1,12,13] cJ0 ?_
  simp only[thn]
  have hle:xs.length=ys.length:=(by simp[qae] at hc100;omega)
  refine wL ?_
  refine qrK xs ys hl _ xs [] ys [] 0 rfl rfl rfl rfl hle ?_ ?_
  ·intro h i
   refine wN ?_
   refine wR0 900 [4] cJ0 ?_
   refine wP ?_
   exact qac (by rw[h,hle];simp)
  ·intro h
   refine wN ?_
   exact⟨by simp,_,rfl,by exact qac (by rw[h];simp)⟩
theorem qo8 (xs ys:List Tk)(hl:xs.length≤1000000)(Q:IExit→(Nat→T)→Heap→Prop):∀(rest pre rest2 pre2:List Tk) (i:Nat),xs=pre++rest→ys=pre2++rest2→pre.length=i→pre2.length=i→rest.length=rest2.length→
 (eqF eqTk rest rest2=true→∀i:Int,Q (.exit 0) (ofL [(0,.list (qb1 xs)),(1,.list (qb1 ys)),(12,.int .i64 (qb1 xs).length),(13,.int .i64 i),(14,.bool false)]) (hpL []))→
 (eqF eqTk rest rest2=false→Q .ret (ofL [(4,.bool false)]) (hpL []))→
 WL Tryz.prog 26 qjF (ofL [(0,.list (qb1 xs)),(1,.list (qb1 ys)),(12,.int .i64 (qb1 xs).length),(13,.int .i64 i)]) (hpL []) Q:=by
 intro rest
 induction rest with
 | nil=>
  intro pre rest2 pre2 i he he2 hn hn2 hlr hQ0 hQ1
  have hd:decide ((i:Int)<((qb1 xs).length:Int))=false:=by simp[qcD,he,hn]
  have hr:rest2=[]:=List.eq_nil_of_length_eq_zero hlr.symm
  subst hr
  have fX:=@hd
  refine qaa qjF.eq_1 ?_
  refine wR0 400 [0,1,12,13,14] fX ?_
  refine wF @hd ?_
  refine wX ?_
  refine wN ?_
  exact hQ0 rfl _
 | cons k rest ih=>
  intro pre rest2 pre2 i he he2 hn hn2 hlr hQ0 hQ1
  cases rest2 with
  | nil=>simp at hlr
  | cons l rest2=>
  have hlt:(i:Int)<((qb1 xs).length:Int):=by simp[qcD,he];omega
  have hlt2:(i:Int)<((qb1 ys).length:Int):=by simp[qcD,he2];omega
  have hlb:i≤1000000:=by rw[he] at hl;simp at hl;omega
  have hd:decide ((i:Int)<((qb1 xs).length:Int))=true:=decide_eq_true hlt
  have hg:(qb1 xs).getD (i:Int).toNat .undef=qnN k:=by rw[Int.toNat_natCast,he,←hn];exact qiz _ k _
  have hg2:(qb1 ys).getD (i:Int).toNat .undef=qnN l:=by rw[Int.toNat_natCast,he2,←hn2];exact qiz _ l _
  have hw:IntKind.wrap .i64 ((i:Int)+1)=(i:Int)+1:=wrap64 (by omega) (by omega)
  have fX:=(cJ8 @hd @hg @hg2 @hw @qnN.eq_1 @qtX @eqT.eq_1 @eqT.eq_2)
  refine qaa qjF.eq_1 ?_
  refine wR0 400 [0,1,12,13,14] fX ?_
  refine wT @hd ?_
  refine wR0 500 [0,1,5,12,13] fX ?_
  refine wR0 600 [0,1,12,13,24] fX ?_
  refine wS cJ0 (fun hc600=>?_) (fun hc600=>?_)
  ·skip
   refine wR0 700 [4] fX ?_
   refine wE ?_
   refine wN ?_
   have hp:eqTk k l=false:=(by cases h:eqTk k l<;>first | rfl | (exfalso;unfold eqTk at h;rw[h] at hc600;cases hc600))
   exact hQ1 (by simp[eqF,hp])
  ·skip
   refine wR0 800 [0,1,12,13] fX ?_
   refine wN ?_
   have hp:eqTk k l=true:=(by cases h:eqTk k l<;>first | rfl | (exfalso;unfold eqTk at h;rw[h] at hc600;cases hc600))
   have e:eqF eqTk (k::rest) (l::rest2)=eqF eqTk rest rest2:=(by simp[eqF,hp])
   rw[e] at hQ0 hQ1
   exact ih (pre++[k]) rest2 (pre2++[l]) (i+1) (by simp[he]) (by simp[he2]) (by simp;omega) (by simp;omega) (by simpa using hlr) hQ0 hQ1
theorem qtY (xs ys:List Tk)(hl:xs.length≤1000000):TP Tryz.prog 237 [.list (qb1 xs),.list (qb1 ys)] (.bool ((xs.length==ys.length)&&eqF eqTk xs ys)):=by
 refine qag fn237 (by simp) ?_
 unfold i237
 simp only[argL]
 refine wR0 0 [0,1] cJ0 ?_
 refine wR0 100 [0,1,10] cJ0 ?_
 refine wS cJ0 (fun hc100=>?_) (fun hc100=>?_)
 ·skip
  refine wR0 200 [4] cJ0 ?_
  refine wP ?_
  exact qac (by simp[qcD] at hc100;have hne:xs.length≠ys.length:=(by omega);simp[hne])
 ·skip
  refine wR0 300 [0,1,12,13] cJ0 ?_
  simp only[thn]
  have hle:xs.length=ys.length:=(by simp[qcD] at hc100;omega)
  refine wL ?_
  refine qo8 xs ys hl _ xs [] ys [] 0 rfl rfl rfl rfl hle ?_ ?_
  ·intro h i
   refine wN ?_
   refine wR0 900 [4] cJ0 ?_
   refine wP ?_
   exact qac (by rw[h,hle];simp)
  ·intro h
   refine wN ?_
   exact⟨by simp,_,rfl,by exact qac (by rw[h];simp)⟩
theorem qpw (f:FuncId)(caps:List T)(hcaps:clL (fun _=>false) caps=true)(p:Rl→Bool)(xs:List Rl)(hl:xs.length≤1000000)(Q:IExit→(Nat→T)→Heap→Prop):∀(rest pre:List Rl) (i:Nat),xs=pre++rest→pre.length=i→
 (∀k∈rest,TP Tryz.prog f ([qbQ k]++caps) (.bool (p k)))→
 (ixF p rest i = -1→∀i:Int,Q (.exit 0) (ofL [(0,.list (qaR xs)),(1,.fn f caps),(7,.int .i64 (qaR xs).length),(8,.int .i64 i),(9,.bool false)]) (hpL []))→
 (ixF p rest i ≠ -1→Q .ret (ofL [(4,.int .i64 (ixF p rest i))]) (hpL []))→
 WL Tryz.prog 19 qjA (ofL [(0,.list (qaR xs)),(1,.fn f caps),(7,.int .i64 (qaR xs).length),(8,.int .i64 i)]) (hpL []) Q:=by
 intro rest
 induction rest with
 | nil=>
  intro pre i he hn hk hQ0 hQ1
  have hd:decide ((i:Int)<((qaR xs).length:Int))=false:=by simp[qaS,he,hn]
  have fX:=@hd
  refine qaa qjA.eq_1 ?_
  refine wR0 200 [0,1,7,8,9] fX ?_
  refine wF @hd ?_
  refine wX ?_
  refine wN ?_
  exact hQ0 rfl _
 | cons k rest ih=>
  intro pre i he hn hk hQ0 hQ1
  skip
  have hlt:(i:Int)<((qaR xs).length:Int):=by simp[qaS,he];omega
  have hlb:i≤1000000:=by rw[he] at hl;simp at hl;omega
  have hd:decide ((i:Int)<((qaR xs).length:Int))=true:=decide_eq_true hlt
  have hg:(qaR xs).getD (i:Int).toNat .undef=.agg [.str k.name,.int .i64 k.from_,.int .i64 k.to_,.list (qad k.need),.list (qad k.give),.list (qad k.move),.int .i64 k.chan,.int .i64 k.act,.int .i64 k.lett,.list (qad k.path),.list (qad k.next),.list (qb1 k.takes),.list (qad k.makes),.int .i64 k.second]:=by rw[Int.toNat_natCast,he,←hn];exact qeO _ k _
  have hw:IntKind.wrap .i64 ((i:Int)+1)=(i:Int)+1:=wrap64 (by omega) (by omega)
  have fX:=(cJ3 @hd @hg @hw)
  refine qaa qjA.eq_1 ?_
  refine wR0 200 [0,1,7,8,9] fX ?_
  refine wT @hd ?_
  refine wR0 300 [0,1,5,7,8] fX ?_
  refine wRn 400 [0,1,5,7,8,16] fX ?_
  refine rCv fX ?_
  refine⟨_,hk k (List.mem_cons_self ..),rE fX ?_⟩
  refine wS cJ0 (fun hc400=>?_) (fun hc400=>?_)
  ·skip
   refine wR0 500 [4] fX ?_
   refine wE ?_
   refine wN ?_
   have e:ixF p (k::rest) i=i:=(by simp[ixF,hc400])
   rw[e] at hQ1
   exact hQ1 (by omega)
  ·skip
   refine wR0 600 [0,1,7,8] fX ?_
   refine wN ?_
   have e:ixF p (k::rest) i=ixF p rest ((i+1:Nat):Int):=(by simp[ixF,hc400])
   rw[e] at hQ0 hQ1
   have:=ih (pre++[k]) (i+1) (by simp[he]) (by simp;omega) (fun k' hk'=>hk k' (List.mem_cons_of_mem _ hk')) hQ0 hQ1
   simpa using this
theorem qub (f:FuncId)(caps:List T)(hcaps:clL (fun _=>false) caps=true)(p:Rl→Bool)(xs:List Rl)(hl:xs.length≤1000000)(hk:∀k∈xs,TP Tryz.prog f ([qbQ k]++caps) (.bool (p k))):TP Tryz.prog 196 [.list (qaR xs),.fn f caps] (.int .i64 (ixF p xs 0)):=by
 refine qag fn196 (by simp) ?_
 unfold i196
 simp only[argL]
 refine wR0 0 [0,1] cJ0 ?_
 refine wR0 100 [0,1,7,8] cJ0 ?_
 refine wL ?_
 refine qpw f caps hcaps p xs hl _ xs [] 0 rfl rfl hk ?_ ?_
 ·intro h i
  refine wN ?_
  refine wR0 700 [4] cJ0 ?_
  refine wP ?_
  exact qaC h.symm
 ·intro h
  refine wN ?_
  exact⟨by simp,_,rfl,by exact .same rfl⟩
theorem qtQ (f:FuncId)(caps:List T)(hcaps:clL (fun _=>false) caps=true)(p:Rl→Bool)(xs:List Rl)(hl:xs.length≤1000000)(hk:∀k∈xs,TP Tryz.prog f ([qbQ k]++caps) (.bool (p k))):TP Tryz.prog 163 [.list (qaR xs),.fn f caps] (.bool (xs.any p)):=by
 have hfr:froL [.list (qaR xs),.fn f caps]=true:=by simp[froL,clL,T.cl,hcaps,qax]
 refine qag fn163 (by simp) ?_
 unfold i163
 simp only[argL]
 refine wR0 0 [0,1] cJ0 ?_
 refine wRn 100 [4] cJ0 ?_
 refine rC cJ0 ?_
 refine⟨_,qub f caps hcaps p xs hl hk,rE cJ0 ?_⟩
 refine wP ?_
 exact qac (qmO p xs 0 (by omega))
theorem qtH (f:FuncId)(caps:List T)(hcaps:clL (fun _=>false) caps=true)(x:Int)(b:Bool)(h:TP Tryz.prog f ([.int .i64 x]++caps) (.bool b)):TP Tryz.prog 235 [.int .i64 x,.ptr [.fn f caps]] (.bool (!b)):=by
 refine qag fn235 (by simp) ?_
 unfold i235
 simp only[argL]
 refine wR0 0 [0,1] cJ0 ?_
 refine wRn 100 [3] cJ0 ?_
 refine rCv cJ0 ?_
 refine⟨_,h,rE cJ0 ?_⟩
 refine wP ?_
 exact qac rfl
theorem qoz (f:FuncId)(caps:List T)(hcaps:clL (fun _=>false) caps=true)(p:Int→Bool)(l:List Int)(hl:l.length≤1000000)(hk:∀x∈l,TP Tryz.prog f ([.int .i64 x]++caps) (.bool (p x))):TP Tryz.prog 203 [.list (qad l),.fn f caps] (.bool (l.all p)):=by
 have hcaps0:clL (fun i=>decide (i=0)) caps=true:=qdm (fun i hi=>by simp at hi) _ hcaps
 refine qag fn203 (by simp) ?_
 unfold i203
 simp only[argL]
 refine wR0 0 [0,3] cJ0 ?_
 refine wRn 100 [4] cJ0 ?_
 refine rL [(0,.live ⟨_,[.fn f caps]⟩)] cJ0 ?_
 refine⟨_,_,qir 235 [.ptr [.fn f caps]] (by simp[clL,T.cl,hcaps]) (fun x=>!p x) l hl (fun x hx=>qtH f caps hcaps x _ (hk x hx)),fZl,rfl,rE cJ0 ?_⟩
 refine wP ?_
 exact qac (by rw[List.all_eq_not_any_not])
theorem qhk (x:Int):TP Tryz.prog 228 [.int .i64 x] (.bool (qfd x)):=by
 refine qag fn228 (by simp) ?_
 unfold i228
 simp only[argL]
 refine wR0 0 [0] cJ0 ?_
 refine wRn 100 [2] cJ0 ?_
 refine rC cJ0 ?_
 refine⟨_,qbM x 0 16,rE cJ0 ?_⟩
 refine wP ?_
 exact qac rfl
set_option maxHeartbeats 2000000 in
theorem qnG (m:Md)(r:Rl)(hr:r.fit):TP Tryz.prog 198 [qaA m,qbQ r] (.bool (qdl m r)):=by
 refine qag fn198 (by simp) ?_
 unfold i198
 simp only[argL,qaA,mdC,qbQ,rlC]
 refine wR0 0 [2,3] cJ0 ?_
 refine wR0 100 [2,3,5] cJ0 ?_
 refine wR0 200 [3,5,6] cJ0 ?_
 refine wRn 300 [4] cJ0 ?_
 refine rCi cJ0 ?_
 refine⟨_,fun hw=>qoz 228 [] rfl qfd r.need hr.need (fun x hx=>qhk x),rN cJ0 ?_⟩
 refine rCi cJ0 ?_
 refine⟨_,fun hw=>qoz 228 [] rfl qfd r.give hr.give (fun x hx=>qhk x),rE cJ0 ?_⟩
 refine wP ?_
 exact qac (by simp only[qdl,qae,qai])
theorem qpN (x n:Int)(hn:-1000000000000≤n∧n≤1000000000000):TP Tryz.prog 229 [.int .i64 x,.ptr [.int .i64 n]] (.bool (btw x (-1) (n - 1))):=by
 have hw:IntKind.wrap .i64 (n - 1)=n - 1:=wrap64 (by omega) (by omega)
 have fX:=@hw
 refine qag fn229 (by simp) ?_
 unfold i229
 simp only[argL]
 refine wR0 0 [0,1] fX ?_
 refine wRn 100 [3] fX ?_
 refine rC fX ?_
 refine⟨_,qbM x (-1) (n - 1),rE fX ?_⟩
 refine wP ?_
 exact qac rfl
set_option maxHeartbeats 2000000 in
theorem qsj (m:Md)(r:Rl)(hm:m.places.length≤1000)(hr:r.fit):TP Tryz.prog 199 [qaA m,qbQ r] (.bool (qgF m r)):=by
 have ha:=qoz 229 [.ptr [.int .i64 ((qaq m.places).length:Int)]] rfl (fun x=>btw x (-1) (((qaq m.places).length:Int) - 1)) r.move hr.move (fun x hx=>qpN x _ (by rw[qai];omega))
 rcases h0:(((qad r.move).length:Int)==0) with _ | _
 ·have fX:=@h0
  refine qag fn199 (by simp) ?_
  unfold i199
  simp only[argL,qaA,mdC,qbQ,rlC]
  refine wR0 0 [2,3] fX ?_
  refine wR0 100 [3,5] fX ?_
  refine wRn 200 [4] fX ?_
  refine rLi [(103,.live ⟨_,[.int .i64 ((qaq m.places).length:Int)]⟩)] fX ?_
  refine⟨_,_,fun hw=>ha,fZl,rfl,rE fX ?_⟩
  refine wP ?_
  exact qac (by simp only[qgF];rw[qae] at h0;rw[h0];simp only[qae,qai,Bool.false_or])
 ·have fX:=@h0
  refine qag fn199 (by simp) ?_
  unfold i199
  simp only[argL,qaA,mdC,qbQ,rlC]
  refine wR0 0 [2,3] fX ?_
  refine wR0 100 [3,5] fX ?_
  refine wR0 200 [4] fX ?_
  refine wP ?_
  exact qac (by simp only[qgF];rw[qae] at h0;rw[h0,Bool.true_or])
theorem Frz.fnL {H:Heap}{f:FuncId}{cs cs':List T}(h:FrzL H cs cs'):Frz H (.fn f cs) (.fn f cs'):=.fn h.1 h.2
theorem Frz.refL {H:Heap}{id ty n:Nat}{cs:List T}(hb:H id=.live ⟨ty,cs⟩)(hn:n=cs.length)(h1:(cs.all T.one)=true)(hc:clL (fun _=>false) cs=true):Frz H (.ref id n 0) (.ptr cs):=by
 subst hn
 refine Frz.ref hb rfl (by simp) (fun c hc=>List.all_eq_true.1 h1 c hc) fun k hk=>?_
 rw[Nat.zero_add]
 exact .same (qbk hc k)
set_option maxHeartbeats 8000000 in
theorem qqH (a b:Rl)(ha:a.fit):TP Tryz.prog 205 [qbQ a,qbQ b] (.bool (qoh a b)):=by
 have fX:=(cJ3 @binS.eq_1 @binS.eq_2 @binS.eq_3)
 refine qag fn205 (by simp) ?_
 unfold i205
 simp only[argL,qbQ,rlC]
 refine wR0 0 [2,3] fX ?_
 refine wRn 100 [4] fX ?_
 refine rCi fX ?_
 refine⟨_,fun hw=>qiB a.need b.need ha.need,rN fX ?_⟩
 refine rCi fX ?_
 refine⟨_,fun hw=>qiB a.give b.give ha.give,rN fX ?_⟩
 refine rCi fX ?_
 refine⟨_,fun hw=>qiB a.move b.move ha.move,rN fX ?_⟩
 refine rCi fX ?_
 refine⟨_,fun hw=>qiB a.path b.path ha.path,rN fX ?_⟩
 refine rCi fX ?_
 refine⟨_,fun hw=>qiB a.next b.next ha.next,rN fX ?_⟩
 refine rCi fX ?_
 refine⟨_,fun hw=>qtY a.takes b.takes ha.takes,rN fX ?_⟩
 refine rCi fX ?_
 refine⟨_,fun hw=>qiB a.makes b.makes ha.makes,rE fX ?_⟩
 refine wP ?_
 exact qac rfl
theorem repl3 (zs:List T):repl 3 zs=zs++(zs++zs):=by simp[repl]
theorem qdH (n:Int):TP Tryz.prog 170 [.int .i64 n] (qaz (qaU n)):=by
 refine qag fn170 (by simp) ?_
 unfold i170
 simp only[argL]
 refine wR0 0 [0,2] cJ0 ?_
 refine wR0 100 [2] cJ0 ?_
 refine wP ?_
 (refine eG ?_;(try simp only[qaU,qaz,qam,qaw]);(first | exact fF | exact fZt))
theorem qg0 (k tk ts:Int)(trs:List Int)(tps:List Ty):TP Tryz.prog 172 [.int .i64 k,qaz (.mk tk ts trs tps)] (qaz (qbI k (.mk tk ts trs tps))):=by
 have fX:=(cJ2 @qb0 @qkV)
 refine qag fn172 (by simp) ?_
 unfold i172
 simp only[argL,qaz]
 refine wR0 0 [0,3,4] fX ?_
 refine wR0 100 [4] fX ?_
 refine wP ?_
 (refine eG ?_;(try simp only[qbI,qaz,qam,qaw]);(first | exact fF | exact fZt))
theorem qiM (l:Int):TP Tryz.prog 171 [.int .i64 l,.int .i64 1] (qaz (qev l 1)):=by
 have hd:decide ((1:Int) > 1)=false:=rfl
 have h1:=qdH l
 have h2:=qg0 5 2 l [] []
 simp only[qaU,qbI,qaz,qaw,qam] at h1 h2
 have fX:=(cJ3 @hd @qb0 @qkV)
 refine qag fn171 (by simp) ?_
 unfold i171
 simp only[argL]
 refine wR0 0 [0,1,4] fX ?_
 refine wRn 100 [0,1,4,5] fX ?_
 refine rC fX ?_
 refine⟨_,h1,rE fX ?_⟩
 refine wR0 200 [0,1,4,5,9] fX ?_
 refine wF @hd ?_
 refine wRn 400 [4] fX ?_
 refine rC fX ?_
 refine⟨_,h2,rE fX ?_⟩
 refine wP ?_
 (refine eG ?_;(try simp only[qb9,qaU,qbI,qaz,qam,qaw]);(first | exact fF | exact fZt))
theorem qnY (l:Int):TP Tryz.prog 171 [.int .i64 l,.int .i64 2] (qaz (qev l 2)):=by
 have hd:decide ((2:Int) > 1)=true:=rfl
 have hw:IntKind.wrap .i64 ((2:Int) - 1)=1:=rfl
 have h1:=qdH l
 have h3:=qiM l
 have h4:=qg0 5 3 0 [] [qaU l,qbI 5 (qaU l)]
 simp only[qaU,qbI,qaz,qaw,qam] at h4
 simp only[qb9,qaU,qbI,qaz,qaw,qam] at h1 h3
 have fX:=(cJ4 @hd @hw @qb0 @qkV)
 refine qag fn171 (by simp) ?_
 unfold i171
 simp only[argL]
 refine wR0 0 [0,1,4] fX ?_
 refine wRn 100 [0,1,4,5] fX ?_
 refine rC fX ?_
 refine⟨_,h1,rE fX ?_⟩
 refine wR0 200 [0,1,4,5,9] fX ?_
 refine wT @hd ?_
 refine wRn 300 [4,5] fX ?_
 refine rC fX ?_
 refine⟨_,h3,rE fX ?_⟩
 refine wRn 400 [4] fX ?_
 refine rG [(305,.live ⟨_,_⟩)] fX ?_
 refine⟨_,_,h4,(by ((try simp only[qaU,qbI,qaz,qam,qaw]);(first | exact fF | exact fZt))),rE fX ?_⟩
 refine wP ?_
 (refine eG ?_;(try simp only[qcl,qaU,qbI,qaz,qam,qaw]);(first | exact fF | exact fZt))
theorem qpI (x:Int)(l:List Int)(hl:(x::l).length≤1000000):TP Tryz.prog 75 [.list (qad (x::l))] (.list (qad (x::l))):=by
 have hsz:=qdT (x::l)
 have hle:(qad (x::l)).length≤1000000000:=by rw[qae];omega
 have hne:qad (x::l)≠[]:=by simp
 have hpos:0<(qad (x::l)).length:=by simp[qae]
 have hq:binT .eql .slice (.list (qad (x::l))) .nil=some (.bool false):=rfl
 have hrp:repl 0 [T.int .i64 0]=[]:=rfl
 have fX:=(cJ4 @qb7 @hsz @hq @hrp)
 refine qag fn75 (by simp) ?_
 unfold i75
 simp only[argL]
 refine wR0 0 [0] fX ?_
 refine wR0 100 [0,4] fX ?_
 refine wF @true_and ?_
 refine wR0 300 [2] fX ?_
 refine wP ?_
 exact qbn _ rfl (qae _) (qae _)
def qdg (m:Md):List T:=if m.kind=2 then [.int .i64 4,.int .i64 0,.list [],.list [.agg [.int .i64 2,.int .i64 m.letters.length,.list [],.list []]]] else if m.kind=3 then [.int .i64 7,.int .i64 m.letters.length,.list (qad m.ranks),.nil] else [.int .i64 1,.int .i64 0,.nil,.nil]
def labC (n:Int):List T:=[.int .i64 2,.int .i64 n,.list [],.list []]
theorem qdK (m:Md):(qdg m).length=4:=by unfold qdg;(repeat' split)<;>rfl
theorem qdJ {H:Heap}(m:Md):FrzL H (qdg m) (qaz (qex m)).cells:=by
 unfold qdg qex
 split
 ·simp only[qbI,qaU,qaz,qam,qaw,T.cells]
  (first | exact fF | exact fZt)
 ·split
  ·simp only[qaz,qam,T.cells]
   (first | exact fF | exact fZt)
  ·simp only[qaz,qam,qaw,T.cells]
   (first | exact fF | exact fZt)
theorem qeY {H:Heap}(n:Int):FrzL H (labC n) (qaz (qaU n)).cells:=FrzL.same rfl
end
end Go.Proofs.YtkbjpglehdhjfaaGreatDoor
