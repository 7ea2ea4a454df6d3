/- Contracts of functions of the program, for all arguments that they name. -/
import Derived.Test.YtoeeppojakbciaaGreatK36
namespace Go.Proofs.YtoeeppojakbciaaGreat
set_option linter.unusedVariables false
section
open Go.RowKit
set_option maxHeartbeats 2000000
attribute [local simp] qae qak qal qaF
def qnh (m:Md)(v0:List Int)(d:Dc):(Int×List Int)×List St3×Dc:=qfQ m (qar d 13).1.toNat 0 v0 [] (qar d 13).2
set_option maxHeartbeats 8000000 in
theorem qtw (m:Md){N:Nat}(hM:PlainM m N)(hrl:m.rules.length≤250){v0:List Int}(hst:m.start=cfV 0 v0)(hc:CfOk m N 0 v0)(d:Dc)(hok:d.ok) :
 TC Tryz.prog 13 [dcR,qas m,.int .i64 12] (hpL [(99999,dcB d)]) (.tup [encV (cfV (qnh m v0 d).1.1 (qnh m v0 d).1.2),.list (qbw (qnh m v0 d).2.1)]) (hpL [(99999,dcB (qnh m v0 d).2.2)]):=by
 have hpk:=qdr d hok 13 (by omega)
 have hpr:=qa6 hok (n:=13) (by omega)
 have hok1:=qaQ hok 13
 obtain⟨p,hp⟩:=Int.eq_ofNat_of_zero_le hpr.1
 rw[qnh]
 rw[hp] at hpk hpr ⊢
 rw[Int.toNat_natCast]
 generalize (qar d 13).2=d1 at*
 obtain⟨R,hR⟩:∃R,qfQ m p 0 v0 [] d1=R:=⟨_,rfl⟩
 have hL:=fun Q a b=>qtv m hM hrl R Q a b p 0 v0 [] d1 hok1 hc (by simp;omega) hR
 rw[hR]
 obtain⟨⟨s,v⟩,out,d2⟩:=R
 have hsn:m.start.n=0:=by rw[hst];rfl
 have hsk:m.start.kids=natV 0::v0.map natV:=by rw[hst];rfl
 have hk0:qag (natV 0::v0.map natV)=encV (natV 0)::qag (v0.map natV):=rfl
 have hw:IntKind.wrap .i64 ((12:Int)+1)=13:=by rw[wrap64 (by omega) (by omega)];rfl
 have hcl:T.cl (inL [99999]) (.agg [.int .i64 0,.list (.agg [.int .i64 s,.list []]::qag (v.map natV))])=true:=by simp[T.cl,clL,qak]
 have hmf:∀H:Heap,SlotFz H (inL [99999]) (dcB d2) (dcB d2):=fun H=>qgw d2
 simp only[qa3,qaI]
 cases out with
 | nil=>
  simp only[qas,neE,neH,sMg,mdC,apC,qpy,qpx,hsn,hsk,hk0,qaI,List.cons_append,List.nil_append,List.append_nil] at hL ⊢
  have fX:=@hw
  refine qlr fn13 (by simp) ?_
  unfold i13
  simp only[argL]
  refine wR0 0 [0,2,4,6] fX ?_
  refine wR0 100 [0,2,4,6,8] fX ?_
  refine wR0 200 [0,2,4,6,8,9] fX ?_
  refine wRn 300 [0,4,6,8,9,10] fX ?_
  refine rU [(99999,dcB d)] [(99999,dcB d1)] fX ?_
  refine⟨_,hpk.fulD,rE fX ?_⟩
  refine wL ?_
  refine hL _ ?_ ?_
  ·intro n
   refine wN ?_
   refine wR0 1000 [6,7] fX ?_
   refine wE ?_
   refine wN ?_
   exact⟨by simp,_,_,_,rfl,rfl,Fz.tupL (.cons (.same hcl) (.cons .nil .nil)),.keep rfl (qgw d2) (.dead rfl (fun h=>by cases h) (.dead rfl (fun h=>by cases h) (.dead rfl (fun h=>by cases h) .nil))),rfl⟩
  ·intro n x
   refine wN ?_
   refine wR0 1000 [6,7] fX ?_
   refine wE ?_
   refine wN ?_
   exact⟨by simp,_,_,_,rfl,rfl,Fz.tupL (.cons (.same hcl) (.cons .nil .nil)),.keep rfl (qgw d2) (.dead rfl (fun h=>by cases h) (.dead rfl (fun h=>by cases h) (.dead rfl (fun h=>by cases h) .nil))),rfl⟩
 | cons z zs=>
  have hfz:∀H:Heap,H 805=.live ⟨50,(z::zs).flatMap stC⟩→Fz H (inL [99999]) (.sl 805 ((zs.length+1)*3) 3 0 (zs.length+1)) (.list (qbw (z::zs))):=fun H h=>fz_sts (z::zs) rfl h
  simp only[qas,neE,neH,sMg,mdC,apC,qpy,qpx,hsn,hsk,hk0,qaI,List.cons_append,List.nil_append,List.append_nil] at hL ⊢
  have fX:=@hw
  refine qlr fn13 (by simp) ?_
  unfold i13
  simp only[argL]
  refine wR0 0 [0,2,4,6] fX ?_
  refine wR0 100 [0,2,4,6,8] fX ?_
  refine wR0 200 [0,2,4,6,8,9] fX ?_
  refine wRn 300 [0,4,6,8,9,10] fX ?_
  refine rU [(99999,dcB d)] [(99999,dcB d1)] fX ?_
  refine⟨_,hpk.fulD,rE fX ?_⟩
  refine wL ?_
  refine hL _ ?_ ?_
  ·intro n
   refine wN ?_
   refine wR0 1000 [6,7] fX ?_
   refine wE ?_
   refine wN ?_
   exact⟨by simp,_,_,_,rfl,rfl,Fz.tupL (.cons (.same hcl) (.cons (hfz _ rfl) .nil)),.keep rfl (qgw d2) (.dead rfl (fun h=>by cases h) (.dead rfl (fun h=>by cases h) (.dead rfl (fun h=>by cases h) (.dead rfl (fun h=>by cases h) .nil)))),rfl⟩
  ·intro n x
   refine wN ?_
   refine wR0 1000 [6,7] fX ?_
   refine wE ?_
   refine wN ?_
   exact⟨by simp,_,_,_,rfl,rfl,Fz.tupL (.cons (.same hcl) (.cons (hfz _ rfl) .nil)),.keep rfl (qgw d2) (.dead rfl (fun h=>by cases h) (.dead rfl (fun h=>by cases h) (.dead rfl (fun h=>by cases h) (.dead rfl (fun h=>by cases h) .nil)))),rfl⟩
end
section
open Go.RowKit
set_option maxHeartbeats 2000000
attribute [local simp] qae qak qal qaJ qaF qa2
theorem qov (D:Nat→Bool)(l:List St3):clL D (qbw l)=true:=by
 induction l with
 | nil=>rfl
 | cons x l ih=>simp only[qbw,List.map_cons,clL,T.cl,qfa,Bool.true_and];exact ih
abbrev cvE (L:List Lm)(S:List St3)(i:Int):List (Nat×T):=[(4,.ref 402 10 0),(7,.list (qaA L)),(47,.list (qbw S)),(48,.int .i64 (qbw S).length),(49,.int .i64 i)]
abbrev cvH (m:Md)(l:List Nn)(k:Int)(d:Dc)(s:Int)(v:List Int):List (Nat×Slot):=[(99999,dcB d),(402,sMg m),(505,.live ⟨37,grC l k⟩),(1206,.live ⟨31,apC s v⟩)]
set_option maxHeartbeats 8000000 in
theorem qol (m:Md)(l:List Nn)(kk:Int)(d:Dc)(s:Int)(v:List Int)(L:List Lm)(hL:L.length≤1000)(hvL:∀x∈L,x.vec.length≤1000)(S:List St3)(hS:S.length≤1000)(hx:∀x∈S,x.v.length≤1000∧covL L x.s x.v=true)(Q:IExit→(Nat→T)→Heap→Prop)
 (hQ:∀j:Int,Q (.exit 0) (ofL (cvE L S j++[(50,.bool false)])) (hpL (cvH m l kk d s v))) :
 ∀(f i:Nat),i+f=S.length→WL Tryz.prog 77 qqR (ofL (cvE L S i)) (hpL (cvH m l kk d s v)) Q:=by
 simp only[cvE,cvH,grC,sMg,mdC,apC,List.cons_append,List.nil_append] at hQ ⊢
 have hsl:(qbw S).length=S.length:=by simp[qbw]
 intro f
 induction f with
 | zero=>
  intro i hk
  have hd:decide ((i:Int)<((qbw S).length:Int))=false:=decide_eq_false (by omega)
  have fX:=@hd
  refine qaa qqR.eq_1 ?_
  refine wR0 1400 [4,7,47,48,49,50] fX ?_
  refine wF @hd ?_
  refine wX ?_
  refine wN ?_
  exact hQ _
 | succ f ih=>
  intro i hk
  have hil:i<S.length:=by omega
  have hlt:(i:Int)<((qbw S).length:Int):=by omega
  have hd:decide ((i:Int)<((qbw S).length:Int))=true:=decide_eq_true hlt
  have hw:IntKind.wrap .i64 ((i:Int)+1)=((i+1:Nat):Int):=by rw[wrap64 (by omega) (by omega)];rfl
  have hg:=qhA S i hil
  have hQ':=ih (i+1) (by omega)
  have hxi:=hx (S.getD i default) (by simp[List.getD_eq_getElem?_getD,hil])
  generalize S.getD i default=x at*
  have hnm:=qg8 x.s x.v (by omega)
  have hcv:=qeI L (by omega) (fun y hy=>by have:=hvL y hy;omega) x.s x.v (by omega)
  rw[hxi.2] at hcv
  rw[qa3] at hnm
  have hg0:(T.agg [.int .i64 x.s,.list []]::qag (x.v.map natV)).getD (Int.toNat 0) .undef=.agg [.int .i64 x.s,.list []]:=rfl
  simp only[stC] at hg
  simp only[qaI] at hnm
  have fX:=(cJ4 @hd @hw @hg @hg0)
  refine qaa qqR.eq_1 ?_
  refine W_gc ?_
  refine wR0 1400 [4,7,47,48,49,50] fX ?_
  refine wT @hd ?_
  refine wR0 1500 [4,7,11,47,48,49] fX ?_
  refine wRn 1600 [4,7,47,48,49,64] fX ?_
  refine rC fX ?_
  refine⟨_,hnm,rN fX ?_⟩
  refine rC fX ?_
  refine⟨_,hcv,rE fX ?_⟩
  refine wF fX ?_
  refine wR0 1800 [4,7,47,48,49] fX ?_
  refine wN ?_
  refine qaP [99999,402,505,1206] (by simp[inL]) (by simp[inL,T.cl,qa2,qov]) (by simp[qan,inL,Slot.cl,T.cl,clL,qaJ,qal,qaU,qae,qak,qaF]) ?_
  simpa [qan,inL] using hQ'
theorem qle {m:Md}(h:qaV m=0):m.rules.length≤12:=by
 have hs:qaR m=true:=by
  rw[qaV] at h
  refine Classical.byContradiction fun hn=>?_
  have hn':qaR m=false:=by simpa using hn
  rw[hn'] at h
  (repeat' split at h)<;>simp_all
 simp[qaR,btw] at hs
 omega
theorem qqC {d:Dc}(h:d.ok):∀j,(ctD d).1.2.2.2.getD j 0≤3:=by
 have h1:=qaQ h 2
 have h2:=qaQ h1 2
 have hrok:=qe7 (1+(qar d 2).1.toNat) (1+(qar (qar d 2).2 2).1.toNat) 3 0 [] _ h2
 have hvr:=qdI (1+(qar (qar d 2).2 2).1.toNat) 3 _ hrok (by omega)
 intro j
 show (qbI (1+(qar (qar d 2).2 2).1.toNat) 3 (qbH (1+(qar d 2).1.toNat) (1+(qar (qar d 2).2 2).1.toNat) 3 0 [] (qar (qar d 2).2 2).2).2).1.getD j 0≤3
 generalize (qbI (1+(qar (qar d 2).2 2).1.toNat) 3 (qbH (1+(qar d 2).1.toNat) (1+(qar (qar d 2).2 2).1.toNat) 3 0 [] (qar (qar d 2).2 2).2).2).1=w at*
 by_cases hj:j<w.length
 ·have:=hvr w[j] (List.getElem_mem hj)
  rw[List.getD_eq_getElem?_getD,List.getElem?_eq_getElem hj];exact this.2
 ·rw[qbk (by omega)];omega
set_option maxHeartbeats 8000000 in
theorem qm3 (s:List Int)(hs:∀j,0≤s.getD j 0∧s.getD j 0≤255)(hsl:s.length≤9223372036854775807):TP Tryz.prog 3 [.list (qb3 s)] (.bool true):=by
 have hnew:=qk0 s hsl
 have hd:=qkR hs
 generalize newD s=d at*
 have hct:=qfk d hd
 have hok:=qqB hd
 have hM:=qlD hd
 have o9:=qqC hd
 obtain⟨o1,o2,o3,o4,o5,o6,o7,o8⟩:=hok
 generalize qfl d=m at*
 generalize (ctD d).2=d1 at*
 generalize (ctD d).1.2.2.2=v at*
 generalize (ctD d).1.2.1=a2 at*
 have hst:=qf8 m o1 o3 0 v o5 (by have:=o6.len;omega)
 have hrn:=qij m o1 o3 (1+a2) (by omega) (by omega) o4 60 (by omega) [qdf 0 v] 0 (qdN o6)
 obtain⟨hI,hk⟩:=TInv.run o4 60 [qdf 0 v] 0 0 (TInv.start (m:=m) o6) rfl
 obtain⟨R,hR⟩:∃R,runM m 60 [qdf 0 v] 0 0=R:=⟨_,rfl⟩
 rw[hR] at hrn hI hk
 obtain⟨t,k,n,e⟩:=R
 simp only at hI hk
 subst hk
 have hgd:=hI.good
 have hll:=hgd.ok.len
 have hz:((0:Int) != 0)=false:=rfl
 by_cases he:e=0
 ·subst he
  have hdn:=qia t k
  by_cases hdd:(k:Int)≥t.length
  ·have hdb:decide ((k:Int)≥t.length)=true:=decide_eq_true hdd
   rw[hdb] at hdn
   have hlm:=qgV t k (fun h=>absurd hI.pos (by rw[h];exact Nat.lt_irrefl 0)) (by omega) (fun j hj=>by
    have:=hgd.ok.vec j hj
    exact⟨fun h=>by rw[h,List.length_nil] at this;omega,by omega⟩)
   have hlen:=ql9 t
   have hrt:=hI.root
   have hfin0:FinV v:=fun j=>by have:=o9 j;omega
   have hcf:CfOk m (1+a2) 0 v:=⟨⟨Int.le_refl 0,by have:=qhW o2;omega⟩,o6,hfin0⟩
   have hcv:=qiN (N:=1+a2) (by omega) hgd hI.pos (hgd.vec 0 hI.pos) ((qeD (by omega) (hgd.vec 0 hI.pos) (hgd.vec 0 hI.pos)).2 fun j=>Int.le_refl _)
   rw[hrt] at hcv
   have hnr:=qtw m hM (by have:=qle o2;omega) o5 hcf d1 o8
   have hnc:=qjW hM hI (by omega) (qar d1 13).1.toNat 0 v [] (qar d1 13).2 hcf hcv (fun x hx=>by cases hx) (qaQ o8 13)
   have hnl:=qjX m (qar d1 13).1.toNat 0 v [] (qar d1 13).2
   have hpr:=qa6 o8 (n:=13) (by omega)
   rw[qnh] at hnr
   generalize qfQ m (qar d1 13).1.toNat 0 v [] (qar d1 13).2=R2 at*
   obtain⟨⟨s2,v2⟩,S,d2⟩:=R2
   simp only[List.length_nil] at hnc hnl hnr
   have hvL:∀x∈limF t,x.vec.length≤1000:=fun x hx=>by have:=(qeV hgd hx).len;omega
   have hL:=fun Q h=>qol m t k d2 s2 v2 (limF t) (by omega) hvL S (by omega) (fun x hx=>⟨by have:=(hnc x hx).1.vec.len;omega,(hnc x hx).2⟩) Q h S.length 0 (by omega)
   have hnm:=qg8 0 v (by have:=o6.len;omega)
   have hcs:=qeI (limF t) (by omega) (fun y hy=>by have:=hvL y hy;omega) 0 v (by have:=o6.len;omega)
   rw[show covL (limF t) 0 v=true from hcv] at hcs
   generalize limF t=L at*
   have hsn:m.start.n=0:=by rw[o5];rfl
   have hsk:m.start.kids=natV 0::v.map natV:=by rw[o5];rfl
   have hk0:qag (natV 0::v.map natV)=encV (natV 0)::qag (v.map natV):=rfl
   have hg0:(T.agg [.int .i64 0,.list []]::qag (v.map natV)).getD (Int.toNat 0) .undef=.agg [.int .i64 0,.list []]:=rfl
   simp only[qas,qbs,grC,runT,cvE,cvH,sMg,mdC,apC,qa3,hsn,hsk,hk0,qaI,List.cons_append,List.nil_append] at hct hst hrn hL hdn hlm hnr hnm
   have fX:=(cJ2 @hz @hg0)
   refine qah fn3 (by simp) ?_
   unfold i3
   simp only[argL]
   refine wR0 0 [0] fX ?_
   refine wRn 100 [0,13] fX ?_
   refine rC fX ?_
   refine⟨_,qex,rE fX ?_⟩
   refine wF fX ?_
   refine wRn 300 [3] fX ?_
   refine rU [] [(99999,dcB d)] fX ?_
   refine⟨_,hnew,rE fX ?_⟩
   refine wRn 400 [3,4] fX ?_
   refine rU [(99999,dcB d)] [(99999,dcB d1)] fX ?_
   refine⟨_,hct.fulD,rE fX ?_⟩
   refine wRn 500 [3,4,5,6] fX ?_
   refine rC fX ?_
   refine⟨_,hst,rE fX ?_⟩
   refine wR0 600 [3,4,5,24] fX ?_
   refine wF @hz ?_
   refine wRn 800 [3,4,5,6] fX ?_
   refine rC fX ?_
   refine⟨_,hrn,rE fX ?_⟩
   refine wRn 900 [3,4,5,38] fX ?_
   refine rC fX ?_
   refine⟨_,hdn,rE fX ?_⟩
   refine wF fX ?_
   refine wRn 1100 [3,4,7] fX ?_
   refine rC fX ?_
   refine⟨_,hlm,rE fX ?_⟩
   refine wRn 1200 [4,7,9] fX ?_
   refine rU [(99999,dcB d1)] [(99999,dcB d2)] fX ?_
   refine⟨_,hnr.fulD,rE fX ?_⟩
   refine wR0 1300 [4,7,47,48,49] fX ?_
   refine wL ?_
   refine hL _ ?_
   ·intro j
    refine wN ?_
    refine wRn 1900 [2] fX ?_
    refine rC fX ?_
    refine⟨_,hnm,rN fX ?_⟩
    refine rC fX ?_
    refine⟨_,hcs,rE fX ?_⟩
    refine wP ?_
    exact .same rfl
  ·have hdb:decide ((k:Int)≥t.length)=false:=decide_eq_false hdd
   rw[hdb] at hdn
   simp only[qas,qbs,grC,runT,mdC] at hct hst hrn hdn
   have fX:=@hz
   refine qah fn3 (by simp) ?_
   unfold i3
   simp only[argL]
   refine wR0 0 [0] fX ?_
   refine wRn 100 [0,13] fX ?_
   refine rC fX ?_
   refine⟨_,qex,rE fX ?_⟩
   refine wF fX ?_
   refine wRn 300 [3] fX ?_
   refine rU [] [(99999,dcB d)] fX ?_
   refine⟨_,hnew,rE fX ?_⟩
   refine wRn 400 [3,4] fX ?_
   refine rU [(99999,dcB d)] [(99999,dcB d1)] fX ?_
   refine⟨_,hct.fulD,rE fX ?_⟩
   refine wRn 500 [3,4,5,6] fX ?_
   refine rC fX ?_
   refine⟨_,hst,rE fX ?_⟩
   refine wR0 600 [3,4,5,24] fX ?_
   refine wF @hz ?_
   refine wRn 800 [3,4,5,6] fX ?_
   refine rC fX ?_
   refine⟨_,hrn,rE fX ?_⟩
   refine wRn 900 [3,4,5,38] fX ?_
   refine rC fX ?_
   refine⟨_,hdn,rE fX ?_⟩
   refine wT fX ?_
   refine wR0 1000 [2] fX ?_
   refine wP ?_
   exact .same rfl
 ·have hze:(e != 0)=true:=by simpa using he
  simp only[qas,qbs,grC,runT,mdC] at hct hst hrn
  have fX:=(cJ2 @hz @hze)
  refine qah fn3 (by simp) ?_
  unfold i3
  simp only[argL]
  refine wR0 0 [0] fX ?_
  refine wRn 100 [0,13] fX ?_
  refine rC fX ?_
  refine⟨_,qex,rE fX ?_⟩
  refine wF fX ?_
  refine wRn 300 [3] fX ?_
  refine rU [] [(99999,dcB d)] fX ?_
  refine⟨_,hnew,rE fX ?_⟩
  refine wRn 400 [3,4] fX ?_
  refine rU [(99999,dcB d)] [(99999,dcB d1)] fX ?_
  refine⟨_,hct.fulD,rE fX ?_⟩
  refine wRn 500 [3,4,5,6] fX ?_
  refine rC fX ?_
  refine⟨_,hst,rE fX ?_⟩
  refine wR0 600 [3,4,5,24] fX ?_
  refine wF @hz ?_
  refine wRn 800 [3,4,5,6] fX ?_
  refine rC fX ?_
  refine⟨_,hrn,rE fX ?_⟩
  refine wR0 900 [3,4,5,38] fX ?_
  refine wT fX ?_
  refine wR0 1000 [2] fX ?_
  refine wP ?_
  exact .same rfl
end
end Go.Proofs.YtoeeppojakbciaaGreat
