/- Contracts of functions of the program, for all arguments that they name. -/
import Derived.Test.YtkbjpglehdhjfaaGreatDoorK27
namespace Go.Proofs.YtkbjpglehdhjfaaGreatDoor
set_option linter.unusedVariables false
section
open Go.RowKit
set_option maxHeartbeats 2000000
attribute [local simp] qau qav qaD qaJ qa1 qbo qaB qah qa5 qaI
set_option maxHeartbeats 4000000 in
theorem qlQ (p:Pg)(c:List Int)(hl:c.length≤1000000)(Q:IExit→(Nat→T)→Heap→Prop)
 (hQ1:c.all finN=true→∀j:Int,Q (.exit 0) (ofL [(2,.list (qad c)),(3,.ref 0 2 0),(8,.int .i64 j),(25,.bool false)]) (hpL [(0,.live ⟨28,pgC p⟩)]))
 (hQ2:c.all finN=false→Q .ret (ofL [(6,.int .i64 2)]) (hpL [(0,.live ⟨28,pgC p⟩)])) :
 ∀(f i:Nat),i+f=c.length→(∀k,k<i→finN (c.getD k 0)=true)→
 WL Tryz.prog 46 qiI (ofL [(2,.list (qad c)),(3,.ref 0 2 0),(8,.int .i64 i)]) (hpL [(0,.live ⟨28,pgC p⟩)]) Q:=by
 simp only[pgC] at hQ1 hQ2 ⊢
 intro f
 induction f with
 | zero=>
  intro i hi hb
  have hd:decide ((i:Int)<((qad c).length:Int))=false:=decide_eq_false (by rw[qae];omega)
  have hall:c.all finN=true:=List.all_eq_true.2 fun x hx=>by
   obtain⟨k,hk,rfl⟩:=List.getElem_of_mem hx
   have:=hb k (by omega)
   rwa [List.getD_eq_getElem?_getD,List.getElem?_eq_getElem hk,Option.getD_some] at this
  have fX:=@hd
  refine qaa qiI.eq_1 ?_
  refine wR0 700 [2,3,8,25] fX ?_
  refine wF @hd ?_
  refine wX ?_
  refine wN ?_
  exact hQ1 hall _
 | succ f ih=>
  intro i hi hb
  have hlt:(i:Int)<((qad c).length:Int):=by rw[qae];omega
  have hd:decide ((i:Int)<((qad c).length:Int))=true:=decide_eq_true hlt
  have hw:IntKind.wrap .i64 ((i:Int)+1)=((i+1:Nat):Int):=by rw[wrap64 (by omega) (by omega)];rfl
  have hg:=qcu c i (by omega)
  by_cases hfn:finN (c.getD i 0)=true
  ·have hQ':=ih (i+1) (by omega) (fun k hk=>by
    by_cases e:k=i
    ·subst e;exact hfn
    ·exact hb k (by omega))
   simp only[finN,Bool.and_eq_true,decide_eq_true_eq] at hfn
   have h1:decide (c.getD i 0<0)=false:=decide_eq_false (by omega)
   have h2:decide (c.getD i 0 > 1048576)=false:=decide_eq_false (by omega)
   generalize c.getD i 0=y at*
   have fX:=(cJ5 @hd @hw @hg @h1 @h2)
   refine qaa qiI.eq_1 ?_
   refine wR0 700 [2,3,8,25] fX ?_
   refine wT @hd ?_
   refine wR0 800 [2,3,8,39] fX ?_
   refine wF fX ?_
   refine wR0 1000 [2,3,8] fX ?_
   refine wN ?_
   exact hQ'
  ·have hall:c.all finN=false:=by
    rw[Bool.eq_false_iff]
    intro h
    refine hfn (List.all_eq_true.1 h _ ?_)
    rw[List.getD_eq_getElem?_getD,List.getElem?_eq_getElem (by omega:i<c.length),Option.getD_some]
    exact List.getElem_mem _
   have hq:=hQ2 hall
   by_cases h0:c.getD i 0<0
   ·have h1:decide (c.getD i 0<0)=true:=decide_eq_true h0
    generalize c.getD i 0=y at*
    have fX:=(cJ4 @hd @hw @hg @h1)
    refine qaa qiI.eq_1 ?_
    refine wR0 700 [2,3,8,25] fX ?_
    refine wT @hd ?_
    refine wR0 800 [2,3,8,39] fX ?_
    refine wT fX ?_
    refine wR0 900 [6] fX ?_
    refine wE ?_
    refine wN ?_
    exact hq
   ·have h1:decide (c.getD i 0<0)=false:=decide_eq_false h0
    have h2:decide (c.getD i 0 > 1048576)=true:=decide_eq_true (by simp only[finN,Bool.and_eq_true,decide_eq_true_eq] at hfn;omega)
    generalize c.getD i 0=y at*
    have fX:=(cJ5 @hd @hw @hg @h1 @h2)
    refine qaa qiI.eq_1 ?_
    refine wR0 700 [2,3,8,25] fX ?_
    refine wT @hd ?_
    refine wR0 800 [2,3,8,39] fX ?_
    refine wT fX ?_
    refine wR0 900 [6] fX ?_
    refine wE ?_
    refine wN ?_
    exact hq
set_option maxHeartbeats 8000000 in
theorem qlR (p:Pg)(hp:p.fit)(hok:okP p=true)(v:Int)(c:List Int)(hc:c.length≤1000000):TP Tryz.prog 54 [qar p,.int .i64 v,.list (qad c)] (.int .i64 (rgtP p v c)):=by
 have hck:=qhZ p hp hok
 have hpp:=qcF p hp hok
 have hz:((0:Int) != 0)=false:=rfl
 have hL:=fun Q a b=>qlQ p c hc Q a b c.length 0 (by omega) (fun k hk=>by omega)
 have hpl:(qbe (plP p)).length=(plcs p).length:=by rw[qa0,qbV hok]
 have hil:(qad c).length=c.length:=qae c
 rw[rgtP,if_neg (by rw[hok];simp)]
 simp only[qar,pgC,Int.natCast_zero] at hck hpp hL ⊢
 by_cases h1:v<0
 ·have hb1:decide (v<0)=true:=decide_eq_true h1
  rw[if_pos (.inl h1)]
  have fX:=(cJ2 @hz @hb1)
  refine qag fn54 (by simp) ?_
  unfold i54
  simp only[argL]
  refine wR0 0 [1,2,3] fX ?_
  refine wRn 100 [1,2,3,7] fX ?_
  refine rC fX ?_
  refine⟨_,hck,rE fX ?_⟩
  refine wR0 200 [1,2,3,7,12] fX ?_
  refine wF @hz ?_
  refine wR0 400 [2,3,21] fX ?_
  refine wT fX ?_
  refine wR0 500 [6] fX ?_
  refine wP ?_
  exact .same rfl
 ·have hb1:decide (v<0)=false:=decide_eq_false h1
  by_cases h2:p.vals≤v
  ·have hb2:decide (v≥p.vals)=true:=decide_eq_true h2
   rw[if_pos (.inr h2)]
   have fX:=(cJ3 @hz @hb1 @hb2)
   refine qag fn54 (by simp) ?_
   unfold i54
   simp only[argL]
   refine wR0 0 [1,2,3] fX ?_
   refine wRn 100 [1,2,3,7] fX ?_
   refine rC fX ?_
   refine⟨_,hck,rE fX ?_⟩
   refine wR0 200 [1,2,3,7,12] fX ?_
   refine wF @hz ?_
   refine wR0 400 [2,3,21] fX ?_
   refine wT fX ?_
   refine wR0 500 [6] fX ?_
   refine wP ?_
   exact .same rfl
  ·have hb2:decide (v≥p.vals)=false:=decide_eq_false h2
   rw[if_neg (by omega)]
   by_cases h3:c.length=(plcs p).length
   ·have hn:((c.length:Int) != ((plcs p).length:Int))=false:=by rw[h3];simp
    have fX:=(cJ6 @hz @hb1 @hb2 @hpl @hil @hn)
    refine qag fn54 (by simp) ?_
    unfold i54
    simp only[argL]
    refine wR0 0 [1,2,3] fX ?_
    refine wRn 100 [1,2,3,7] fX ?_
    refine rC fX ?_
    refine⟨_,hck,rE fX ?_⟩
    refine wR0 200 [1,2,3,7,12] fX ?_
    refine wF @hz ?_
    refine wR0 400 [2,3,21] fX ?_
    refine wF fX ?_
    refine wR0 600 [2,3,8] fX ?_
    refine wL ?_
    refine hL _ ?_ ?_
    ·intro h j
     refine wN ?_
     refine wRn 1100 [45] fX ?_
     refine rC fX ?_
     refine⟨_,hpp,rE fX ?_⟩
     refine wF @hn ?_
     refine wR0 1300 [6] fX ?_
     refine wP ?_
     exact qaC (by rw[if_neg (by rw[h];simp),if_neg (fun e=>e h3)])
    ·intro h
     refine wN ?_
     exact⟨by simp,_,rfl,by exact qaC (by rw[if_pos h])⟩
   ·have hn:((c.length:Int) != ((plcs p).length:Int))=true:=by simp;omega
    have fX:=(cJ6 @hz @hb1 @hb2 @hpl @hil @hn)
    refine qag fn54 (by simp) ?_
    unfold i54
    simp only[argL]
    refine wR0 0 [1,2,3] fX ?_
    refine wRn 100 [1,2,3,7] fX ?_
    refine rC fX ?_
    refine⟨_,hck,rE fX ?_⟩
    refine wR0 200 [1,2,3,7,12] fX ?_
    refine wF @hz ?_
    refine wR0 400 [2,3,21] fX ?_
    refine wF fX ?_
    refine wR0 600 [2,3,8] fX ?_
    refine wL ?_
    refine hL _ ?_ ?_
    ·intro h j
     refine wN ?_
     refine wRn 1100 [45] fX ?_
     refine rC fX ?_
     refine⟨_,hpp,rE fX ?_⟩
     refine wT @hn ?_
     refine wR0 1200 [6] fX ?_
     refine wP ?_
     exact qaC (by rw[if_neg (by rw[h];simp),if_pos h3])
    ·intro h
     refine wN ?_
     exact⟨by simp,_,rfl,by exact qaC (by rw[if_pos h])⟩
abbrev rstE (v:Int)(c:List Int)(ps:List T)(done:List Ev)(i:Int):List (Nat×T):=[(1,.int .i64 v),(2,.list (qad c)),(3,.ref 0 2 0),(9,qbt 914 done),(10,.list ps),(11,.int .i64 i)]
abbrev rstH (p:Pg)(done:List Ev):List (Nat×Slot):=[(0,.live ⟨28,pgC p⟩)]++qbj 914 64 done
set_option maxHeartbeats 8000000 in
theorem qqB (p:Pg)(hp:p.fit)(hok:okP p=true)(v:Int)(c:List Int)(hcl:c.length=(plcs p).length)(R:List Ev)(Q:IExit→(Nat→T)→Heap→Prop)
 (hQ:∀j:Int,Q (.exit 0) (ofL (rstE v c (qbe (plP p)) R j++[(24,.bool false)])) (hpL (rstH p R))) :
 ∀(f i:Nat) (done:List Ev),i+f=(plcs p).length→done.length≤2*i→done++(List.range' i f).flatMap (stE p v c)=R→
 WL Tryz.prog 48 qeq (ofL (rstE v c (qbe (plP p)) done i)) (hpL (rstH p done)) Q:=by
 have ho:=qbq hok
 have hpl:=qbV hok
 have h6:(plcs p).length≤6:=by rw[qbh];exact ho.six
 simp only[rstE,rstH,List.cons_append,List.nil_append] at hQ ⊢
 intro f
 induction f with
 | zero=>
  intro i done hi hdl hR
  have hd:decide ((i:Int)<((qbe (plP p)).length:Int))=false:=decide_eq_false (by rw[qa0];omega)
  simp only[List.range'_zero,List.flatMap_nil,List.append_nil] at hR
  subst hR
  have fX:=@hd
  refine qaa qeq.eq_1 ?_
  refine wR0 700 [1,2,3,9,10,11,24] fX ?_
  refine wF @hd ?_
  refine wX ?_
  refine wN ?_
  exact hQ _
 | succ f ih=>
  intro i done hi hdl hR
  have hil:i<(plcs p).length:=by omega
  have hlt:(i:Int)<((qbe (plP p)).length:Int):=by rw[qa0];omega
  have hlt2:(i:Int)<((qad c).length:Int):=by rw[qae];omega
  have hd:decide ((i:Int)<((qbe (plP p)).length:Int))=true:=decide_eq_true hlt
  have hw:IntKind.wrap .i64 ((i:Int)+1)=((i+1:Nat):Int):=by rw[wrap64 (by omega) (by omega)];rfl
  have hg:=qjZ hok i hil
  have hcg:=qcu c i (by omega)
  have hpi:=qcJ hil
  have hli:=(ho.thGet hpi.1).lnGet hpi.2
  have hev:=rat_tp p hp _ _ hpi hli v
  have hel:=qji p v ((plcs p).getD i (0,0)).1 ((plcs p).getD i (0,0)).2
  have hst:stE p v c i=if c.getD i 0 > 0 then evL p v ((plcs p).getD i (0,0)).1 ((plcs p).getD i (0,0)).2 else []:=rfl
  rw[qiC] at hR
  have hQ':=ih (i+1) (done++stE p v c i) (by omega) (by rw[hst];split<;>simp only[List.length_append,List.length_nil]<;>omega) (by rw[←hR,List.append_assoc])
  generalize ((plcs p).getD i (0,0)).1=pi at*
  generalize ((plcs p).getD i (0,0)).2=pk at*
  simp only[encP,qar,pgC] at hg hev hQ hQ' ⊢
  by_cases hc:c.getD i 0 > 0
  ·have hcd:decide (c.getD i 0 > 0)=true:=decide_eq_true hc
   rw[hst,if_pos hc] at hQ'
   generalize evL p v pi pk=L at*
   match L,hel with
   | [],_=>
    rw[List.append_nil] at hQ'
    simp only[qaG,List.map_nil] at hev
    cases done with
    | nil=>
     simp only[qbt,qbj] at hQ' ⊢
     have fX:=(cJ5 @hd @hw @hg @hcg @hcd)
     refine qaa qeq.eq_1 ?_
     refine W_gc ?_
     refine wR0 700 [1,2,3,9,10,11,24] fX ?_
     refine wT @hd ?_
     refine wR0 800 [1,2,3,9,10,11,31] fX ?_
     refine wT @hcd ?_
     refine wRn 900 [1,2,3,9,10,11] fX ?_
     refine rC fX ?_
     refine⟨_,hev,rE fX ?_⟩
     refine wR0 1000 [1,2,3,9,10,11] fX ?_
     refine wN ?_
     refine qay [0,914] (by simp[inL]) (by simp[inL,T.cl]) (by simp[qaf,inL,Slot.cl,T.cl,clL]) ?_
     simpa [qaf,inL,evC] using hQ'
    | cons z zs=>
     simp only[qbt,qbj] at hQ' ⊢
     have fX:=(cJ5 @hd @hw @hg @hcg @hcd)
     refine qaa qeq.eq_1 ?_
     refine W_gc ?_
     refine wR0 700 [1,2,3,9,10,11,24] fX ?_
     refine wT @hd ?_
     refine wR0 800 [1,2,3,9,10,11,31] fX ?_
     refine wT @hcd ?_
     refine wRn 900 [1,2,3,9,10,11] fX ?_
     refine rC fX ?_
     refine⟨_,hev,rE fX ?_⟩
     refine wR0 1000 [1,2,3,9,10,11] fX ?_
     refine wN ?_
     refine qay [0,914] (by simp[inL]) (by simp[inL,T.cl]) (by simp[qaf,inL,Slot.cl,T.cl,clL,qa5,evC]) ?_
     simpa [qaf,inL,evC] using hQ'
   | [a],_=>
    have hsz:=qdo [a]
    have hff:=qgV [a]
    simp only[qaG,List.map_cons,List.map_nil,evC,List.flatMap_cons,List.flatMap_nil,List.append_nil] at hev hsz hff
    cases done with
    | nil=>
     simp only[qbt,qbj,List.nil_append,List.length_nil,List.flatMap_cons,List.flatMap_nil,List.append_nil] at hQ' ⊢
     have fX:=(cJ7 @hd @hw @hg @hcg @hcd @hsz @hff)
     refine qaa qeq.eq_1 ?_
     refine W_gc ?_
     refine wR0 700 [1,2,3,9,10,11,24] fX ?_
     refine wT @hd ?_
     refine wR0 800 [1,2,3,9,10,11,31] fX ?_
     refine wT @hcd ?_
     refine wRn 900 [1,2,3,9,10,11] fX ?_
     refine rC fX ?_
     refine⟨_,hev,rE fX ?_⟩
     refine wR0 1000 [1,2,3,9,10,11] fX ?_
     refine wN ?_
     refine qay [0,914] (by simp[inL]) (by simp[inL,T.cl]) (by simp[qaf,inL,Slot.cl,T.cl,clL]) ?_
     simpa [qaf,inL,evC] using hQ'
    | cons z zs=>
     have hsn:∀c:Ev,(z::(zs++[c])).flatMap evC=(z::zs).flatMap evC++evC c:=fun c=>by simp[List.flatMap_append]
     have hm2:(zs.length+1+1)*5=(zs.length+1)*5+5:=by omega
     have hfl:((z::zs).flatMap evC).length=(zs.length+1)*5:=qdV _
     have hzb:zs.length+1≤1000:=by simp at hdl;omega
     simp only[qbt,qbj,List.cons_append,List.length_append,List.length_cons,List.length_nil,Nat.zero_add,hsn,hm2] at hQ' ⊢
     have fX:=(cJ8 @hd @hw @hg @hcg @hcd @hsz @hff @hfl)
     refine qaa qeq.eq_1 ?_
     refine W_gc ?_
     refine wR0 700 [1,2,3,9,10,11,24] fX ?_
     refine wT @hd ?_
     refine wR0 800 [1,2,3,9,10,11,31] fX ?_
     refine wT @hcd ?_
     refine wRn 900 [1,2,3,9,10,11] fX ?_
     refine rC fX ?_
     refine⟨_,hev,rE fX ?_⟩
     refine wR0 1000 [1,2,3,9,10,11] fX ?_
     refine wN ?_
     refine qay [0,914] (by simp[inL]) (by simp[inL,T.cl]) (by simp[qaf,inL,Slot.cl,T.cl,clL,qab,qa5,evC]) ?_
     simpa [qaf,inL,evC] using hQ'
   | [a,b],_=>
    have hsz:=qdo [a,b]
    have hff:=qgV [a,b]
    simp only[qaG,List.map_cons,List.map_nil,evC,List.flatMap_cons,List.flatMap_nil,List.append_nil,List.cons_append,List.nil_append] at hev hsz hff
    cases done with
    | nil=>
     simp only[qbt,qbj,List.nil_append,List.length_nil,List.length_cons,List.flatMap_cons,List.flatMap_nil,List.append_nil,Nat.zero_add] at hQ' ⊢
     have fX:=(cJ7 @hd @hw @hg @hcg @hcd @hsz @hff)
     refine qaa qeq.eq_1 ?_
     refine W_gc ?_
     refine wR0 700 [1,2,3,9,10,11,24] fX ?_
     refine wT @hd ?_
     refine wR0 800 [1,2,3,9,10,11,31] fX ?_
     refine wT @hcd ?_
     refine wRn 900 [1,2,3,9,10,11] fX ?_
     refine rC fX ?_
     refine⟨_,hev,rE fX ?_⟩
     refine wR0 1000 [1,2,3,9,10,11] fX ?_
     refine wN ?_
     refine qay [0,914] (by simp[inL]) (by simp[inL,T.cl]) (by simp[qaf,inL,Slot.cl,T.cl,clL]) ?_
     simpa [qaf,inL,evC] using hQ'
    | cons z zs=>
     have hsn:∀c d:Ev,(z::(zs++[c,d])).flatMap evC=(z::zs).flatMap evC++(evC c++evC d):=fun c d=>by simp[List.flatMap_append]
     have hm2:(zs.length+1+1+1)*5=(zs.length+1)*5+10:=by omega
     have hfl:((z::zs).flatMap evC).length=(zs.length+1)*5:=qdV _
     have hzb:zs.length+1≤1000:=by simp at hdl;omega
     simp only[qbt,qbj,List.cons_append,List.length_append,List.length_cons,List.length_nil,Nat.zero_add,←Nat.add_assoc,hsn,hm2] at hQ' ⊢
     have fX:=(cJ8 @hd @hw @hg @hcg @hcd @hsz @hff @hfl)
     refine qaa qeq.eq_1 ?_
     refine W_gc ?_
     refine wR0 700 [1,2,3,9,10,11,24] fX ?_
     refine wT @hd ?_
     refine wR0 800 [1,2,3,9,10,11,31] fX ?_
     refine wT @hcd ?_
     refine wRn 900 [1,2,3,9,10,11] fX ?_
     refine rC fX ?_
     refine⟨_,hev,rE fX ?_⟩
     refine wR0 1000 [1,2,3,9,10,11] fX ?_
     refine wN ?_
     refine qay [0,914] (by simp[inL]) (by simp[inL,T.cl]) (by simp[qaf,inL,Slot.cl,T.cl,clL,qab,qa5,evC]) ?_
     simpa [qaf,inL,evC] using hQ'
   | a::b::e::l,h=>simp only[List.length_cons] at h;omega
  ·have hcd:decide (c.getD i 0 > 0)=false:=decide_eq_false hc
   rw[hst,if_neg hc,List.append_nil] at hQ'
   cases done with
   | nil=>
    simp only[qbt,qbj] at hQ' ⊢
    have fX:=(cJ5 @hd @hw @hg @hcg @hcd)
    refine qaa qeq.eq_1 ?_
    refine W_gc ?_
    refine wR0 700 [1,2,3,9,10,11,24] fX ?_
    refine wT @hd ?_
    refine wR0 800 [1,2,3,9,10,11,31] fX ?_
    refine wF @hcd ?_
    refine wR0 1000 [1,2,3,9,10,11] fX ?_
    refine wN ?_
    refine qay [0,914] (by simp[inL]) (by simp[inL,T.cl]) (by simp[qaf,inL,Slot.cl,T.cl,clL]) ?_
    simpa [qaf,inL,evC] using hQ'
   | cons z zs=>
    simp only[qbt,qbj] at hQ' ⊢
    have fX:=(cJ5 @hd @hw @hg @hcg @hcd)
    refine qaa qeq.eq_1 ?_
    refine W_gc ?_
    refine wR0 700 [1,2,3,9,10,11,24] fX ?_
    refine wT @hd ?_
    refine wR0 800 [1,2,3,9,10,11,31] fX ?_
    refine wF @hcd ?_
    refine wR0 1000 [1,2,3,9,10,11] fX ?_
    refine wN ?_
    refine qay [0,914] (by simp[inL]) (by simp[inL,T.cl]) (by simp[qaf,inL,Slot.cl,T.cl,clL,qa5,evC]) ?_
    simpa [qaf,inL,evC] using hQ'
set_option maxHeartbeats 8000000 in
theorem qh1 (p:Pg)(hp:p.fit)(hok:okP p=true)(v:Int)(c:List Int)(hc:c.length≤1000000):TP Tryz.prog 21 [qar p,.int .i64 v,.list (qad c)] (qec p v c):=by
 have hrt:=qlR p hp hok v c hc
 have hpp:=qcF p hp hok
 rw[qec,qeb]
 by_cases hr:rgtP p v c=0
 ·have hz:((0:Int) != 0)=false:=rfl
  have hl:=(qnd hr).2.2.2
  have hL:=fun Q a=>qqB p hp hok v c hl (qaY p v c) Q a (plcs p).length 0 [] (by omega) (by simp) rfl
  rw[hr] at hrt
  rw[if_pos hr]
  generalize qaY p v c=R at*
  simp only[rstE,rstH,qar,pgC,qbt,qbj,List.cons_append,List.nil_append,List.append_nil,Int.natCast_zero] at hrt hpp hL ⊢
  cases R with
  | nil=>
   simp only at hL
   have fX:=@hz
   refine qag fn21 (by simp) ?_
   unfold i21
   simp only[argL]
   refine wR0 0 [1,2,3] fX ?_
   refine wRn 100 [1,2,3,8] fX ?_
   refine rC fX ?_
   refine⟨_,hrt,rE fX ?_⟩
   refine wR0 200 [1,2,3,8,17] fX ?_
   refine wF @hz ?_
   refine wR0 400 [1,2,3,9] fX ?_
   refine wRn 500 [1,2,3,9,10] fX ?_
   refine rC fX ?_
   refine⟨_,hpp,rE fX ?_⟩
   refine wR0 600 [1,2,3,9,10,11] fX ?_
   refine wL ?_
   refine hL _ ?_
   ·intro j
    refine wN ?_
    refine wR0 1100 [6,7] fX ?_
    refine wP ?_
    exact qaK .nil (.same rfl)
  | cons z zs=>
   simp only at hL
   have fX:=@hz
   refine qag fn21 (by simp) ?_
   unfold i21
   simp only[argL]
   refine wR0 0 [1,2,3] fX ?_
   refine wRn 100 [1,2,3,8] fX ?_
   refine rC fX ?_
   refine⟨_,hrt,rE fX ?_⟩
   refine wR0 200 [1,2,3,8,17] fX ?_
   refine wF @hz ?_
   refine wR0 400 [1,2,3,9] fX ?_
   refine wRn 500 [1,2,3,9,10] fX ?_
   refine rC fX ?_
   refine⟨_,hpp,rE fX ?_⟩
   refine wR0 600 [1,2,3,9,10,11] fX ?_
   refine wL ?_
   refine hL _ ?_
   ·intro j
    refine wN ?_
    refine wR0 1100 [6,7] fX ?_
    refine wP ?_
    exact qaK (qbb (z::zs) rfl rfl rfl) (.same rfl)
 ·have hz:(rgtP p v c != 0)=true:=by simpa using hr
  rw[if_neg hr]
  generalize rgtP p v c=r at*
  simp only[qar,pgC] at hrt ⊢
  have fX:=@hz
  refine qag fn21 (by simp) ?_
  unfold i21
  simp only[argL]
  refine wR0 0 [1,2,3] fX ?_
  refine wRn 100 [1,2,3,8] fX ?_
  refine rC fX ?_
  refine⟨_,hrt,rE fX ?_⟩
  refine wR0 200 [1,2,3,8,17] fX ?_
  refine wT @hz ?_
  refine wR0 300 [6,7] fX ?_
  refine wP ?_
  exact qaK .nil (.same rfl)
end
section
open Go.RowKit
set_option maxHeartbeats 2000000
attribute [local simp] qau qav qaD qaJ qa1 qbo qaB qah qa5 qaI
abbrev rdoE (c:List Int)(l:List Ev)(acc:Bool)(i:Int):List (Nat×T):=[(2,.list (qad c)),(4,.ref 0 2 0),(7,.ref 1 5 0),(11,.list (qaG l)),(13,.bool acc),(14,.int .i64 i)]
abbrev rdoH (p:Pg)(e:Ev):List (Nat×Slot):=[(0,.live ⟨28,pgC p⟩),(1,.live ⟨64,evC e⟩)]
set_option maxHeartbeats 4000000 in
theorem rdo_l0 (p:Pg)(e:Ev)(c:List Int)(l:List Ev)(hl:l.length≤1000000)(r:Bool)(Q:IExit→(Nat→T)→Heap→Prop)
 (hQ:∀j:Int,Q (.exit 0) (ofL (rdoE c l r j++[(31,.bool false)])) (hpL (rdoH p e))) :
 ∀(f i:Nat) (acc:Bool),i+f=l.length→(acc || (l.drop i).any fun x=>evB x e)=r→
 WL Tryz.prog 109 qhA (ofL (rdoE c l acc i)) (hpL (rdoH p e)) Q:=by
 have hpl:(qaG l).length=l.length:=qbA l
 simp only[rdoE,rdoH,pgC,List.cons_append,List.nil_append] at hQ ⊢
 intro f
 induction f with
 | zero=>
  intro i acc hi hr
  have hd:decide ((i:Int)<((qaG l).length:Int))=false:=decide_eq_false (by omega)
  rw[List.drop_of_length_le (by omega),List.any_nil,Bool.or_false] at hr
  subst hr
  have fX:=@hd
  refine qaa qhA.eq_1 ?_
  refine wR0 600 [2,4,7,11,13,14,31] fX ?_
  refine wF @hd ?_
  refine wX ?_
  refine wN ?_
  exact hQ _
 | succ f ih=>
  intro i acc hi hr
  have hlt:(i:Int)<((qaG l).length:Int):=by omega
  have hd:decide ((i:Int)<((qaG l).length:Int))=true:=decide_eq_true hlt
  have hw:IntKind.wrap .i64 ((i:Int)+1)=((i+1:Nat):Int):=by rw[wrap64 (by omega) (by omega)];rfl
  have hg:=qb4 l i (by omega)
  have hdr:l.drop i=l.getD i default::l.drop (i+1):=by
   rw[List.drop_eq_getElem_cons (by omega),List.getD_eq_getElem?_getD,List.getElem?_eq_getElem (by omega),Option.getD_some]
  rw[hdr,List.any_cons,←Bool.or_assoc] at hr
  generalize l.getD i default=x at*
  have hQ':=ih (i+1) (acc || evB x e) (by omega) hr
  rcases hb:evB x e with _ | _
  ·rw[hb,Bool.or_false] at hQ'
   simp only[evC,evB] at hg hb hQ' hQ ⊢
   cases acc with
   | true=>
    have fX:=(cJ8 @hd @hw @hg @qbx.eq_1 @qbx.eq_2 @eqT.eq_1 @eqT.eq_2 (cJ2 @Bool.and_true @hb))
    refine qaa qhA.eq_1 ?_
    refine wR0 600 [2,4,7,11,13,14,31] fX ?_
    refine wT @hd ?_
    refine wR0 700 [2,4,7,11,13,14] fX ?_
    refine wR0 800 [2,4,7,11,13,14] fX ?_
    refine wN ?_
    exact hQ'
   | false=>
    have fX:=(cJ8 @hd @hw @hg @qbx.eq_1 @qbx.eq_2 @eqT.eq_1 @eqT.eq_2 (cJ2 @Bool.and_true @hb))
    refine qaa qhA.eq_1 ?_
    refine wR0 600 [2,4,7,11,13,14,31] fX ?_
    refine wT @hd ?_
    refine wR0 700 [2,4,7,11,13,14] fX ?_
    refine wR0 800 [2,4,7,11,13,14] fX ?_
    refine wN ?_
    exact hQ'
  ·rw[hb,Bool.or_true] at hQ'
   simp only[evC,evB] at hg hb hQ' hQ ⊢
   cases acc with
   | true=>
    have fX:=(cJ8 @hd @hw @hg @qbx.eq_1 @qbx.eq_2 @eqT.eq_1 @eqT.eq_2 (cJ2 @Bool.and_true @hb))
    refine qaa qhA.eq_1 ?_
    refine wR0 600 [2,4,7,11,13,14,31] fX ?_
    refine wT @hd ?_
    refine wR0 700 [2,4,7,11,13,14] fX ?_
    refine wR0 800 [2,4,7,11,13,14] fX ?_
    refine wN ?_
    exact hQ'
   | false=>
    have fX:=(cJ8 @hd @hw @hg @qbx.eq_1 @qbx.eq_2 @eqT.eq_1 @eqT.eq_2 (cJ2 @Bool.and_true @hb))
    refine qaa qhA.eq_1 ?_
    refine wR0 600 [2,4,7,11,13,14,31] fX ?_
    refine wT @hd ?_
    refine wR0 700 [2,4,7,11,13,14] fX ?_
    refine wR0 800 [2,4,7,11,13,14] fX ?_
    refine wN ?_
    exact hQ'
abbrev sVt (c:List Int):Slot:=.live ⟨3,qad c⟩
abbrev reE (n:Nat)(i:Int):List (Nat×T):=[(7,.ref 1 5 0),(15,.sl 1101 n 0 0 n),(17,.int .i64 i)]
abbrev reH (c:List Int)(sa sb sd:Slot):List (Nat×Slot):=[(0,sa),(1,sb),(1101,sVt c),(1511,sd)]
set_option maxHeartbeats 4000000 in
theorem qm9 (n:Nat)(c:List Int)(hcl:c.length=n)(hn:n≤1000)(hr:∀j,c.getD j 0≤1048576)(sa sb sd:Slot)(Q:IExit→(Nat→T)→Heap→Prop)
 (hQ:∀j:Int,Q (.exit 2) (ofL (reE n j++[(98,.bool false)])) (hpL (reH c sa sb sd))) :
 ∀(f i:Nat),i+f=n→WL Tryz.prog 109 qmw (ofL (reE n i)) (hpL (reH c sa sb sd)) Q:=by
 simp only[reE,reH,List.cons_append,List.nil_append] at hQ ⊢
 intro f
 induction f with
 | zero=>
  intro i hi
  have hd:decide ((i:Int)<(n:Int))=false:=decide_eq_false (by omega)
  have fX:=@hd
  refine qaa qmw.eq_1 ?_
  refine wR0 1900 [7,15,17,98] fX ?_
  refine wF @hd ?_
  refine wX ?_
  refine wN ?_
  exact hQ _
 | succ f ih=>
  intro i hi
  have hlt:(i:Int)<(n:Int):=by omega
  have hd:decide ((i:Int)<(n:Int))=true:=decide_eq_true hlt
  have hw:IntKind.wrap .i64 ((i:Int)+1)=((i+1:Nat):Int):=by rw[wrap64 (by omega) (by omega)];rfl
  have hj1:(i:Int).toNat*1=i:=by simp
  have hel:(qad c).length=n:=by rw[qae];exact hcl
  have hsr:=qql c i (by omega)
  have hgt:decide (c.getD i 0 > 1048576)=false:=decide_eq_false (by have:=hr i;omega)
  have hQ':=ih (i+1) (by omega)
  have fX:=(cJ6 @hd @hw @hj1 @hel @hsr @hgt)
  refine qaa qmw.eq_1 ?_
  refine wR0 1900 [7,15,17,98] fX ?_
  refine wT @hd ?_
  refine wR0 2000 [7,15,17,105] fX ?_
  refine wF @hgt ?_
  refine wR0 2200 [7,15,17] fX ?_
  refine wN ?_
  exact hQ'
end
end Go.Proofs.YtkbjpglehdhjfaaGreatDoor
