/- Contracts of functions of the program, for all arguments that they name. -/
import Derived.Test.YtoeeppojakbciaaGreatK35
namespace Go.Proofs.YtoeeppojakbciaaGreat
set_option linter.unusedVariables false
section
open Go.RowKit
set_option maxHeartbeats 2000000
attribute [local simp] qae qak qal
set_option maxHeartbeats 4000000 in
theorem qkz (m:Md)(hm:m.fit)(hk:m.kind=1)(h0:qaV m=0)(s:Int)(v:List Int)(hl:v.length≤100000)(hv:qfc m (cfV s v)=true) :
 TP Tryz.prog 18 [qas m,.int .i64 (-1),encV (cfV s v)] (.tup [.list [],.int .i64 0]):=by
 have hq:=qpz m hm hk h0 s v hl hv
 have hkd:=qf7 m hm hk h0
 have hvl:=qdd m (cfV s v) hm (qgq s v hl)
 rw[hv] at hvl
 rw[qa3] at hvl hq ⊢
 have hd1:((0:Int) != 0)=false:=rfl
 have hd4:decide ((-1:Int) < -1)=false:=rfl
 have hd5:decide ((-1:Int)≥((qaB m.rules).length:Int))=false:=decide_eq_false (by omega)
 have hd6:((-1:Int) == -1)=true:=rfl
 simp only[qas,mdC,qaI] at hkd hvl hq ⊢
 have fX:=(cJ3 @hd4 @hd5 @hd6)
 refine qah fn18 (by simp) ?_
 unfold i18
 simp only[argL]
 refine wR0 0 [1,3,5] fX ?_
 refine wRn 100 [1,3,5,8] fX ?_
 refine rC fX ?_
 refine⟨_,hkd,rE fX ?_⟩
 refine wR0 200 [1,3,5,8,14] fX ?_
 refine wF @hd1 ?_
 refine wR0 400 [1,3,5,24] fX ?_
 refine wF fX ?_
 refine wRn 600 [1,3,5,28] fX ?_
 refine rC fX ?_
 refine⟨_,hvl,rE fX ?_⟩
 refine wF fX ?_
 refine wR0 800 [1,3,5,30] fX ?_
 refine wT @hd6 ?_
 refine wRn 900 [6,7] fX ?_
 refine rC fX ?_
 refine⟨_,hq,rE fX ?_⟩
 refine wP ?_
 exact .same rfl
structure St3 where
 q:Int
 s:Int
 v:List Int
def stC (x:St3):List T:=[.int .i64 x.q,.int .i64 0,.list (.agg [.int .i64 x.s,.list []]::qag (x.v.map natV))]
theorem qfa (D:Nat→Bool)(x:St3):clL D (stC x)=true:=by simp[stC,clL,T.cl,qak]
theorem qhl (D:Nat→Bool)(l:List St3):clL D (l.flatMap stC)=true:=by
 induction l with
 | nil=>rfl
 | cons x l ih=>rw[List.flatMap_cons,qap,qfa,ih];rfl
def qbw (l:List St3):List T:=l.map fun x=>.agg (stC x)
def qhr (l:List St3):T:=match l with
 | []=>.nil
 | _::l=>.sl 1408 ((l.length+1)*3) 3 0 (l.length+1)
def qkb (l:List St3):List (Nat×Slot):=match l with
 | []=>[]
 | x::l=>[(1408,.live ⟨50,(x::l).flatMap stC⟩)]
def allR (s:Int)(v:List Int):List Rl→Nat→List St3→Int×List St3
 | [],_,acc=>(0,acc)
 | r::rs,q,acc=>if qbL r s v=true then (if aftO r v=true then allR s v rs (q+1) (acc++[⟨q,r.to_,aftR r v⟩]) else (1,[])) else allR s v rs (q+1) acc
abbrev alH (m:Md)(s:Int)(v:List Int)(acc:List St3):List (Nat×Slot):=[(0,sMg m),(1,.live ⟨31,apC s v⟩)]++qkb acc
set_option maxHeartbeats 8000000 in
theorem all_l0 (m:Md){N:Nat}(hM:PlainM m N)(hrl:m.rules.length≤1000)(s:Int)(v:List Int)(hs:0≤s∧s<m.states.length)(hv:VecOk N v)(hf:FinV v)(R:Int×List St3)(Q:IExit→(Nat→T)→Heap→Prop)
 (hQ0:R.1=0→∀j:Int,Q (.exit 0) (ofL [(2,.ref 0 10 0),(3,.ref 1 2 0),(7,qhr R.2),(8,.int .i64 j),(25,.bool false)]) (hpL (alH m s v R.2)))
 (hQ1:R.1=1→∀acc,Q .ret (ofL [(4,.nil),(5,.int .i64 1)]) (hpL (alH m s v acc))) :
 ∀(rs:List Rl) (q:Nat) (acc:List St3),m.rules.drop q=rs→acc.length≤q→allR s v rs q acc=R→
 WL Tryz.prog 57 qef (ofL [(2,.ref 0 10 0),(3,.ref 1 2 0),(7,qhr acc),(8,.int .i64 q)]) (hpL (alH m s v acc)) Q:=by
 have hg0:∀x:T,([x]:List T).getD (Int.toNat 0) .undef=x:=fun x=>rfl
 have hz:((0:Int) != 0)=false:=rfl
 have hd1:((1:Int) != 0)=true:=rfl
 simp only[alH,sMg,mdC,apC,List.cons_append,List.nil_append] at hQ0 hQ1 ⊢
 intro rs
 induction rs with
 | nil=>
  intro q acc hd hal hR
  have hql:=List.drop_eq_nil_iff.1 hd
  have hdd:decide ((q:Int)<((qaB m.rules).length:Int))=false:=decide_eq_false (by rw[qaD];omega)
  rw[allR] at hR
  subst hR
  have fX:=@hdd
  refine qaa qef.eq_1 ?_
  refine wR0 800 [2,3,7,8,25] fX ?_
  refine wF @hdd ?_
  refine wX ?_
  refine wN ?_
  exact hQ0 rfl _
 | cons r rs ih=>
  intro q acc hdr hal hR
  have hql:q<m.rules.length:=by
   refine Classical.byContradiction fun hn=>?_
   rw[List.drop_eq_nil_of_le (by omega)] at hdr;cases hdr
  have hdr2:m.rules.getD q rlZ=r∧m.rules.drop (q+1)=rs:=by
   rw[List.drop_eq_getElem_cons hql] at hdr
   injection hdr with e1 e2
   exact⟨by rw[←e1];simp[List.getD_eq_getElem?_getD,hql],e2⟩
  have hd:decide ((q:Int)<((qaB m.rules).length:Int))=true:=decide_eq_true (by rw[qaD];omega)
  have hw:IntKind.wrap .i64 ((q:Int)+1)=((q+1:Nat):Int):=by rw[wrap64 (by omega) (by omega)];rfl
  have hap:=hM.apply hql hs hv hf
  rw[hdr2.1,qnX] at hap
  rw[allR] at hR
  have hih:=fun acc=>ih (q+1) acc hdr2.2
  cases hfi:qbL r s v with
  | false=>
   rw[hfi,if_neg (by simp),qa3] at hap
   rw[hfi,if_neg (by simp)] at hR
   have hQ':=hih acc (by omega) hR
   simp only[qas,mdC,qaI] at hap
   cases acc with
   | nil=>
    simp only[qhr,qkb] at hQ' ⊢
    have fX:=(cJ3 @hd @hw @hz)
    refine qaa qef.eq_1 ?_
    refine W_gc ?_
    refine wR0 800 [2,3,7,8,25] fX ?_
    refine wT @hd ?_
    refine wRn 900 [2,3,7,8,9,10] fX ?_
    refine rC fX ?_
    refine⟨_,hap,rE fX ?_⟩
    refine wR0 1000 [2,3,7,8,9,10,36] fX ?_
    refine wF @hz ?_
    refine wR0 1200 [2,3,7,8,9,11] fX ?_
    refine wL ?_
    refine qaa qfH.eq_1 ?_
    refine wR0 1300 [2,3,7,8,9,11,41] fX ?_
    refine wF fX ?_
    refine wX ?_
    refine wR0 1600 [2,3,7,8] fX ?_
    refine wN ?_
    refine qaP [0,1,1408] (by simp[inL]) (by simp[inL,T.cl]) (by simp[qan,inL,Slot.cl,T.cl,clL,qak,qal,qaU,qae]) ?_
    simpa [qan,inL,stC] using hQ'
   | cons z zs=>
    simp only[qhr,qkb] at hQ' ⊢
    have fX:=(cJ3 @hd @hw @hz)
    refine qaa qef.eq_1 ?_
    refine W_gc ?_
    refine wR0 800 [2,3,7,8,25] fX ?_
    refine wT @hd ?_
    refine wRn 900 [2,3,7,8,9,10] fX ?_
    refine rC fX ?_
    refine⟨_,hap,rE fX ?_⟩
    refine wR0 1000 [2,3,7,8,9,10,36] fX ?_
    refine wF @hz ?_
    refine wR0 1200 [2,3,7,8,9,11] fX ?_
    refine wL ?_
    refine qaa qfH.eq_1 ?_
    refine wR0 1300 [2,3,7,8,9,11,41] fX ?_
    refine wF fX ?_
    refine wX ?_
    refine wR0 1600 [2,3,7,8] fX ?_
    refine wN ?_
    refine qaP [0,1,1408] (by simp[inL]) (by simp[inL,T.cl]) (by simp[qan,inL,Slot.cl,T.cl,clL,qap,qhl,qfa,qak,qal,qaU,qae]) ?_
    simpa [qan,inL,stC] using hQ'
  | true=>
   rw[hfi,if_pos rfl] at hap hR
   cases ho:aftO r v with
   | false=>
    rw[ho,if_neg (by simp),qa3] at hap
    rw[ho,if_neg (by simp)] at hR
    subst hR
    have hq1:=hQ1 rfl acc
    simp only[qas,mdC,qaI] at hap
    have fX:=(cJ3 @hd @hw @hd1)
    refine qaa qef.eq_1 ?_
    refine W_gc ?_
    refine wR0 800 [2,3,7,8,25] fX ?_
    refine wT @hd ?_
    refine wRn 900 [2,3,7,8,9,10] fX ?_
    refine rC fX ?_
    refine⟨_,hap,rE fX ?_⟩
    refine wR0 1000 [2,3,7,8,9,10,36] fX ?_
    refine wT @hd1 ?_
    refine wR0 1100 [4,5] fX ?_
    refine wE ?_
    refine wN ?_
    exact hq1
   | true=>
    rw[ho,if_pos rfl,qa3,qa3] at hap
    rw[ho,if_pos rfl] at hR
    have hQ':=hih _ (by simp;omega) hR
    generalize aftR r v=W at*
    simp only[qas,mdC,qaI] at hap
    have hw0:IntKind.wrap .i64 ((0:Int)+1)=1:=by rw[wrap64 (by omega) (by omega)];rfl
    have hl0:decide ((0:Int)<((1:Nat):Int))=true:=rfl
    have hl1:decide ((1:Int)<((1:Nat):Int))=false:=rfl
    cases acc with
    | nil=>
     simp only[qhr,qkb,List.nil_append,List.length_nil,List.flatMap_cons,List.flatMap_nil,List.append_nil,stC] at hQ' ⊢
     have fX:=(cJ8 @hd @hw @hz @hg0 @qaK @hw0 @hl0 @hl1)
     refine qaa qef.eq_1 ?_
     refine W_gc ?_
     refine wR0 800 [2,3,7,8,25] fX ?_
     refine wT @hd ?_
     refine wRn 900 [2,3,7,8,9,10] fX ?_
     refine rC fX ?_
     refine⟨_,hap,rE fX ?_⟩
     refine wR0 1000 [2,3,7,8,9,10,36] fX ?_
     refine wF @hz ?_
     refine wR0 1200 [2,3,7,8,9,11] fX ?_
     refine wL ?_
     refine qaa qfH.eq_1 ?_
     refine wR0 1300 [2,3,7,8,9,11,41] fX ?_
     refine wT fX ?_
     refine wR0 1400 [2,3,7,8,9,11] fX ?_
     refine wR0 1500 [2,3,7,8,9,11] fX ?_
     refine wN ?_
     refine qaa qfH.eq_1 ?_
     refine wR0 1300 [2,3,7,8,9,11,41] fX ?_
     refine wF fX ?_
     refine wX ?_
     refine wR0 1600 [2,3,7,8] fX ?_
     refine wN ?_
     refine qaP [0,1,1408] (by simp[inL]) (by simp[inL,T.cl]) (by simp[qan,inL,Slot.cl,T.cl,clL,qak,qal,qaU,qae]) ?_
     simpa [qan,inL,stC] using hQ'
    | cons z zs=>
     have he:((z::zs).flatMap stC).length=(zs.length+1)*3:=by rw[qjw stC 3 (fun _=>rfl)];rfl
     have hm3:(zs.length+1+1)*3=(zs.length+1)*3+3:=by omega
     have hfa:∀c:St3,(z::(zs++[c])).flatMap stC=(z::zs).flatMap stC++stC c:=fun c=>by simp[List.flatMap_append]
     have hzl:zs.length+1≤1000:=by simp at hal;omega
     simp only[qhr,qkb,List.cons_append,List.length_append,List.length_cons,List.length_nil,Nat.zero_add,hfa,hm3] at hQ' ⊢
     have fX:=(cJ8 @hd @hw @hz @hg0 @qaK @hw0 @hl0 (cJ2 @hl1 @he))
     refine qaa qef.eq_1 ?_
     refine W_gc ?_
     refine wR0 800 [2,3,7,8,25] fX ?_
     refine wT @hd ?_
     refine wRn 900 [2,3,7,8,9,10] fX ?_
     refine rC fX ?_
     refine⟨_,hap,rE fX ?_⟩
     refine wR0 1000 [2,3,7,8,9,10,36] fX ?_
     refine wF @hz ?_
     refine wR0 1200 [2,3,7,8,9,11] fX ?_
     refine wL ?_
     refine qaa qfH.eq_1 ?_
     refine wR0 1300 [2,3,7,8,9,11,41] fX ?_
     refine wT fX ?_
     refine wR0 1400 [2,3,7,8,9,11] fX ?_
     refine wR0 1500 [2,3,7,8,9,11] fX ?_
     refine wN ?_
     refine qaa qfH.eq_1 ?_
     refine wR0 1300 [2,3,7,8,9,11,41] fX ?_
     refine wF fX ?_
     refine wX ?_
     refine wR0 1600 [2,3,7,8] fX ?_
     refine wN ?_
     refine qaP [0,1,1408] (by simp[inL]) (by simp[inL,T.cl]) (by simp[qan,inL,Slot.cl,T.cl,clL,qap,qhl,qfa,qak,qal,qaU,qae]) ?_
     simpa [qan,inL,stC] using hQ'
end
section
open Go.RowKit
set_option maxHeartbeats 2000000
attribute [local simp] qae qak qal
theorem qfS (s:Int)(v:List Int):∀(rs:List Rl) (q:Nat) (acc:List St3),(allR s v rs q acc).2.length≤acc.length+rs.length
 | [],_,acc=>by simp[allR]
 | r::rs,q,acc=>by
  rw[allR]
  split
  ·split
   ·have:=qfS s v rs (q+1) (acc++[⟨q,r.to_,aftR r v⟩])
    simp only[List.length_append,List.length_cons,List.length_nil] at this ⊢;omega
   ·simp
  ·have:=qfS s v rs (q+1) acc
   simp only[List.length_cons];omega
theorem qlt (s:Int)(v:List Int):∀(rs:List Rl) (q:Nat) (acc:List St3),(allR s v rs q acc).1=0∨allR s v rs q acc=(1,[])
 | [],_,_=>.inl rfl
 | r::rs,q,acc=>by
  rw[allR]
  split
  ·split
   ·exact qlt s v rs _ _
   ·exact .inr rfl
  ·exact qlt s v rs _ _
theorem qmK (x:St3):Ones (stC x):=fun c hc=>by
 simp only[stC,List.mem_cons,List.not_mem_nil,or_false] at hc
 rcases hc with rfl | rfl | rfl<;>rfl
theorem qs1 {H:Heap}(z:St3)(zs:List St3)(hb:H 1408=.live ⟨50,(z::zs).flatMap stC⟩):Frz H (.sl 1408 ((zs.length+1)*3) 3 0 (zs.length+1)) (.list (qbw (z::zs))):=by
 have he:esz 3=3:=rfl
 have hfl:flat (qbw (z::zs))=(z::zs).flatMap stC:=qih stC 3 (by omega) (fun _=>rfl) _
 refine .sl hb (qjw stC 3 (fun _=>rfl) _) (by rw[he];omega) (by simp[qbw]) (fun x hx=>?_) ?_ fun k hk=>?_
 ·obtain⟨a,_,rfl⟩:=List.mem_map.1 hx
  rfl
 ·rw[hfl]
  intro c hc
  obtain⟨a,_,hc⟩:=List.mem_flatMap.1 hc
  exact qmK a c hc
 ·rw[hfl,Nat.zero_add]
  exact .same (qa5 (qhl _ (z::zs)) k)
set_option maxHeartbeats 8000000 in
theorem all_f0 (m:Md){N:Nat}(hM:PlainM m N)(hrl:m.rules.length≤250)(s:Int)(v:List Int)(hs:0≤s∧s<m.states.length)(hv:VecOk N v)(hf:FinV v)(R:Int×List St3)(hR:allR s v m.rules 0 []=R)(Q:IExit→(Nat→T)→Heap→Prop)
 (hQ0:R.1=0→∀j:Int,Q (.exit 0) (ofL [(2,.ref 0 10 0),(3,.ref 1 2 0),(7,qhr R.2),(8,.int .i64 j),(25,.bool false)]) (hpL (alH m s v R.2)))
 (hQ1:R.1=1→∀acc,Q .ret (ofL [(4,.nil),(5,.int .i64 1)]) (hpL (alH m s v acc))) :
 WL Tryz.prog 57 qef (ofL [(2,.ref 0 10 0),(3,.ref 1 2 0),(7,.nil),(8,.int .i64 (-1))]) (hpL [(0,sMg m),(1,.live ⟨31,apC s v⟩)]) Q:=by
 have hQ':=all_l0 m hM (by omega) s v hs hv hf R Q hQ0 hQ1 m.rules 0 [] rfl (Nat.zero_le _) hR
 have hN:=hM.small
 have hap:=qkz m hM.fit hM.kind hM.check s v (by have:=hv.len;omega) (hM.valid hs hv hf)
 rw[qa3] at hap
 have hd:decide ((-1:Int)<((qaB m.rules).length:Int))=true:=decide_eq_true (by omega)
 have hw:IntKind.wrap .i64 ((-1:Int)+1)=0:=by rw[wrap64 (by omega) (by omega)];rfl
 have hz:((0:Int) != 0)=false:=rfl
 simp only[qas,mdC,qaI] at hap
 simp only[alH,sMg,mdC,apC,qhr,qkb,List.append_nil] at hQ' ⊢
 have fX:=(cJ3 @hd @hw @hz)
 refine qaa qef.eq_1 ?_
 refine wR0 800 [2,3,7,8,25] fX ?_
 refine wT @hd ?_
 refine wRn 900 [2,3,7,8,9,10] fX ?_
 refine rC fX ?_
 refine⟨_,hap,rE fX ?_⟩
 refine wR0 1000 [2,3,7,8,9,10,36] fX ?_
 refine wF @hz ?_
 refine wR0 1200 [2,3,7,8,9,11] fX ?_
 refine wL ?_
 refine qaa qfH.eq_1 ?_
 refine wR0 1300 [2,3,7,8,9,11,41] fX ?_
 refine wF fX ?_
 refine wX ?_
 refine wR0 1600 [2,3,7,8] fX ?_
 refine wN ?_
 exact hQ'
theorem qtC (m:Md){N:Nat}(hM:PlainM m N)(hrl:m.rules.length≤250)(s:Int)(v:List Int)(hs:0≤s∧s<m.states.length)(hv:VecOk N v)(hf:FinV v) :
 TP Tryz.prog 38 [qas m,encV (cfV s v)] (.tup [.list (qbw (allR s v m.rules 0 []).2),.int .i64 (allR s v m.rules 0 []).1]):=by
 obtain⟨R,hR⟩:∃R,allR s v m.rules 0 []=R:=⟨_,rfl⟩
 have hlen:=qfS s v m.rules 0 []
 have hre:=qlt s v m.rules 0 []
 have hL:=fun Q a b=>all_f0 m hM hrl s v hs hv hf R hR Q a b
 rw[hR] at hlen hre ⊢
 simp only[List.length_nil,Nat.zero_add] at hlen
 have hN:=hM.small
 have hkd:=qf7 m hM.fit hM.kind hM.check
 have hvl:=qdd m (cfV s v) hM.fit (qgq s v (by have:=hv.len;omega))
 rw[hM.valid hs hv hf] at hvl
 rw[qa3] at hvl ⊢
 have hz:((0:Int) != 0)=false:=rfl
 rcases hre with he | he
 ·have hLT:=fun Q a=>hL Q (fun _=>a) (fun h=>by rw[he] at h;cases h)
  rw[he]
  generalize R.2=S at*
  cases S with
  | nil=>
   simp only[qas,alH,sMg,mdC,apC,qhr,qkb,qaI,List.append_nil] at hkd hvl hLT ⊢
   have fX:=@hz
   refine qah fn38 (by simp) ?_
   unfold i38
   simp only[argL]
   refine wR0 0 [2,3] fX ?_
   refine wRn 100 [2,3,6] fX ?_
   refine rC fX ?_
   refine⟨_,hkd,rE fX ?_⟩
   refine wR0 200 [2,3,6,15] fX ?_
   refine wF @hz ?_
   refine wRn 400 [2,3,20] fX ?_
   refine rC fX ?_
   refine⟨_,hvl,rE fX ?_⟩
   refine wF fX ?_
   refine wR0 600 [2,3,7] fX ?_
   refine wR0 700 [2,3,7,8] fX ?_
   refine wL ?_
   refine hLT _ ?_
   ·intro j
    refine wN ?_
    refine wR0 1700 [7,55] fX ?_
    refine wF fX ?_
    refine wR0 1900 [4,5] fX ?_
    refine wP ?_
    exact qbX .nil (.same rfl)
  | cons z zs=>
   simp only[List.length_cons] at hlen
   have hgt:decide (((zs.length+1:Nat):Int) > 256)=false:=decide_eq_false (by omega)
   simp only[qas,alH,sMg,mdC,apC,qhr,qkb,qaI,List.cons_append,List.nil_append] at hkd hvl hLT ⊢
   have fX:=(cJ2 @hz @hgt)
   refine qah fn38 (by simp) ?_
   unfold i38
   simp only[argL]
   refine wR0 0 [2,3] fX ?_
   refine wRn 100 [2,3,6] fX ?_
   refine rC fX ?_
   refine⟨_,hkd,rE fX ?_⟩
   refine wR0 200 [2,3,6,15] fX ?_
   refine wF @hz ?_
   refine wRn 400 [2,3,20] fX ?_
   refine rC fX ?_
   refine⟨_,hvl,rE fX ?_⟩
   refine wF fX ?_
   refine wR0 600 [2,3,7] fX ?_
   refine wR0 700 [2,3,7,8] fX ?_
   refine wL ?_
   refine hLT _ ?_
   ·intro j
    refine wN ?_
    refine wR0 1700 [7,55] fX ?_
    refine wF @hgt ?_
    refine wR0 1900 [4,5] fX ?_
    refine wP ?_
    exact qbX (qs1 z zs rfl) (.same rfl)
 ·subst he
  have hLF:=fun Q a=>hL Q (fun h=>by cases h) (fun _=>a)
  simp only[qas,alH,sMg,mdC,apC,qaI] at hkd hvl hLF ⊢
  have fX:=@hz
  refine qah fn38 (by simp) ?_
  unfold i38
  simp only[argL]
  refine wR0 0 [2,3] fX ?_
  refine wRn 100 [2,3,6] fX ?_
  refine rC fX ?_
  refine⟨_,hkd,rE fX ?_⟩
  refine wR0 200 [2,3,6,15] fX ?_
  refine wF @hz ?_
  refine wRn 400 [2,3,20] fX ?_
  refine rC fX ?_
  refine⟨_,hvl,rE fX ?_⟩
  refine wF fX ?_
  refine wR0 600 [2,3,7] fX ?_
  refine wR0 700 [2,3,7,8] fX ?_
  refine wL ?_
  refine hLF _ ?_
  ·intro acc
   refine wN ?_
   exact⟨by simp,_,rfl,by exact qbX .nil (.same rfl)⟩
end
section
open Go.RowKit
set_option maxHeartbeats 2000000
attribute [local simp] qae qak qal qaF
structure CfOk (m:Md) (N:Nat) (s:Int) (v:List Int):Prop where
 st:0≤s∧s<m.states.length
 vec:VecOk N v
 fin:FinV v
instance:Inhabited St3:=⟨⟨0,0,[]⟩⟩
theorem qql {r:Rl}{v:List Int}(hf:FinV v)(ho:aftO r v=true):FinV (aftR r v):=by
 intro j
 by_cases hj:j<v.length
 ·rw[qbO r v j hj]
  rcases qky ho j hj with h | h
  ·have:=hf j;omega
  ·exact h
 ·rw[qbk (by rw[qbq];omega)];omega
theorem qh0 {m:Md}{N:Nat}(hM:PlainM m N){s:Int}{v:List Int}(hc:CfOk m N s v):∀(rs:List Rl) (q:Nat) (acc:List St3),m.rules.drop q=rs→(∀x∈acc,CfOk m N x.s x.v∧∃r∈m.rules,qbL r s v=true∧aftO r v=true∧x.s=r.to_∧x.v=aftR r v)→∀x∈(allR s v rs q acc).2,CfOk m N x.s x.v∧∃r∈m.rules,qbL r s v=true∧aftO r v=true∧x.s=r.to_∧x.v=aftR r v
 | [],_,_,_,h=>h
 | r::rs,q,acc,hd,h=>by
  have hmem:r∈m.rules:=List.mem_of_mem_drop (i:=q) (by rw[hd];exact List.mem_cons_self ..)
  have hd2:m.rules.drop (q+1)=rs:=by rw[←List.drop_drop,hd];rfl
  rw[allR]
  split
  ·rename_i hf
   split
   ·rename_i ho
    refine qh0 hM hc rs (q+1) _ hd2 fun x hx=>?_
    rcases List.mem_append.1 hx with hx | hx
    ·exact h x hx
    ·rw[List.mem_singleton.1 hx]
     exact⟨⟨hM.to_ r hmem,qej hM.rules hc.vec hmem hf ho,qql hc.fin ho⟩,r,hmem,hf,ho,rfl,rfl⟩
   ·intro x hx;cases hx
  ·exact qh0 hM hc rs (q+1) acc hd2 h
def qfQ (m:Md):Nat→Int→List Int→List St3→Dc→(Int×List Int)×List St3×Dc
 | 0,s,v,out,d=>((s,v),out,d)
 | n+1,s,v,out,d=>
  if (allR s v m.rules 0 []).1≠0∨(allR s v m.rules 0 []).2=[] then ((s,v),out,d)
  else qfQ m n ((allR s v m.rules 0 []).2.getD (qar d (allR s v m.rules 0 []).2.length).1.toNat default).s ((allR s v m.rules 0 []).2.getD (qar d (allR s v m.rules 0 []).2.length).1.toNat default).v (out++[(allR s v m.rules 0 []).2.getD (qar d (allR s v m.rules 0 []).2.length).1.toNat default]) (qar d (allR s v m.rules 0 []).2.length).2
def qpy (l:List St3):T:=match l with
 | []=>.nil
 | _::l=>.sl 805 ((l.length+1)*3) 3 0 (l.length+1)
def qpx (l:List St3):List (Nat×Slot):=match l with
 | []=>[]
 | x::l=>[(805,.live ⟨50,(x::l).flatMap stC⟩)]
theorem qhA (l:List St3)(i:Nat)(h:i<l.length):(qbw l).getD (i:Int).toNat .undef=.agg (stC (l.getD i default)):=by
 simp[qbw,List.getD_eq_getElem?_getD,h]
abbrev neH (m:Md)(s:Int)(v:List Int)(d:Dc)(out:List St3):List (Nat×Slot):=[(99999,dcB d),(0,sMg m),(1,.live ⟨31,[.int .i64 0,.nil]⟩),(102,.live ⟨31,apC s v⟩)]++qpx out
abbrev neE (out:List St3)(n:Int):List (Nat×T):=[(0,dcR),(4,.ref 0 10 0),(6,.ref 1 2 0),(8,.ref 102 2 0),(9,qpy out),(10,.int .i64 n)]
set_option maxHeartbeats 8000000 in
theorem qtv (m:Md){N:Nat}(hM:PlainM m N)(hrl:m.rules.length≤250)(R:(Int×List Int)×List St3×Dc)(Q:IExit→(Nat→T)→Heap→Prop)
 (hQ0:∀n:Int,Q (.exit 0) (ofL (neE R.2.1 n++[(21,.bool false)])) (hpL (neH m R.1.1 R.1.2 R.2.2 R.2.1)))
 (hQ1:∀(n:Int) (x:T),Q (.exit 0) (ofL (neE R.2.1 n++[(11,x),(36,.bool true)])) (hpL (neH m R.1.1 R.1.2 R.2.2 R.2.1))) :
 ∀(n:Nat) (s:Int) (v:List Int) (out:List St3) (d:Dc),d.ok→CfOk m N s v→n+out.length≤100→qfQ m n s v out d=R→
 WL Tryz.prog 52 qgK (ofL (neE out n)) (hpL (neH m s v d out)) Q:=by
 have hz:((0:Int) != 0)=false:=rfl
 simp only[neE,neH,sMg,mdC,apC,List.cons_append,List.nil_append] at hQ0 hQ1 ⊢
 intro n
 induction n with
 | zero=>
  intro s v out d hok hc hn hR
  rw[qfQ] at hR
  subst hR
  have hd:decide (((0:Nat):Int) > 0)=false:=rfl
  have fX:=@hd
  refine qaa qgK.eq_1 ?_
  refine wR0 400 [0,4,6,8,9,10,21] fX ?_
  refine wF @hd ?_
  refine wX ?_
  refine wN ?_
  exact hQ0 _
 | succ n ih=>
  intro s v out d hok hc hn hR
  have hd:decide (((n+1:Nat):Int) > 0)=true:=decide_eq_true (by omega)
  have hw:IntKind.wrap .i64 (((n+1:Nat):Int) - 1)=(n:Int):=by rw[wrap64 (by omega) (by omega)];omega
  have hal:=qtC m hM hrl s v hc.st hc.vec hc.fin
  have hao:=qh0 hM hc m.rules 0 [] rfl (fun x hx=>by cases hx)
  have hlen:=qfS s v m.rules 0 []
  have hre:=qlt s v m.rules 0 []
  rw[qfQ] at hR
  rw[qa3] at hal
  generalize allR s v m.rules 0 []=A at*
  obtain⟨e,S⟩:=A
  simp only[qas,mdC,qaI] at hal
  simp only[List.length_nil,Nat.zero_add] at hlen
  by_cases hst:e≠0∨S=[]
  ·rw[if_pos hst] at hR
   subst hR
   have hq1:=fun n x=>hQ1 n x
   simp only at hq1
   rcases hre with he | he
   ·simp only at he
    subst he
    have hS:S=[]:=by
     rcases hst with h | h
     ·exact absurd rfl h
     ·exact h
    subst hS
    have hl0:(qbw []).length=0:=rfl
    have fX:=(cJ3 @hd @hz @hl0)
    refine qaa qgK.eq_1 ?_
    refine wR0 400 [0,4,6,8,9,10,21] fX ?_
    refine wT @hd ?_
    refine wRn 500 [0,4,6,8,9,10,11,12] fX ?_
    refine rC fX ?_
    refine⟨_,hal,rE fX ?_⟩
    refine wR0 600 [0,4,6,8,9,10,11,36] fX ?_
    refine wT fX ?_
    refine wX ?_
    refine wN ?_
    exact hq1 _ _
   ·simp only[Prod.mk.injEq] at he
    obtain⟨rfl,rfl⟩:=he
    have hz1:((1:Int) != 0)=true:=rfl
    have fX:=(cJ2 @hd @hz1)
    refine qaa qgK.eq_1 ?_
    refine wR0 400 [0,4,6,8,9,10,21] fX ?_
    refine wT @hd ?_
    refine wRn 500 [0,4,6,8,9,10,11,12] fX ?_
    refine rC fX ?_
    refine⟨_,hal,rE fX ?_⟩
    refine wR0 600 [0,4,6,8,9,10,11,36] fX ?_
    refine wT fX ?_
    refine wX ?_
    refine wN ?_
    exact hq1 _ _
  ·rw[if_neg hst] at hR
   have he:e=0:=Classical.byContradiction fun h=>hst (.inl h)
   have hS:S≠[]:=fun h=>hst (.inr h)
   subst he
   have hSl:0<S.length:=by cases S with | nil=>exact absurd rfl hS | cons x l=>simp
   have hpk:=qdr d hok (S.length:Nat) (by omega)
   have hpr:=qa6 hok (n:=(S.length:Nat)) (by omega)
   have hok1:=qaQ hok (S.length:Nat)
   obtain⟨p,hp⟩:=Int.eq_ofNat_of_zero_le hpr.1
   rw[hp] at hpk hpr hR
   rw[Int.toNat_natCast] at hR
   have hpl:p<S.length:=by omega
   have hg:=qhA S p hpl
   have hxo:=hao (S.getD p default) (by simp[List.getD_eq_getElem?_getD,hpl])
   have hsl:(qbw S).length=S.length:=by simp[qbw]
   have hlt:(p:Int)<((qbw S).length:Int):=by omega
   rw[←hsl] at hpk hok1 hR
   have hne:(((qbw S).length:Int)==0)=false:=by rw[beq_eq_false_iff_ne];omega
   generalize (qar d ((qbw S).length:Nat)).2=d1 at*
   generalize S.getD p default=x at*
   have hQ':=ih x.s x.v (out++[x]) d1 hok1 hxo.1 (by simp;omega) hR
   simp only[stC] at hg
   cases out with
   | nil=>
    simp only[qpy,qpx,List.nil_append,List.length_nil,List.flatMap_cons,List.flatMap_nil,List.append_nil,stC] at hQ' ⊢
    have fX:=(cJ6 @hd @hw @hz @hne @hg @qaK)
    refine qaa qgK.eq_1 ?_
    refine W_gc ?_
    refine wR0 400 [0,4,6,8,9,10,21] fX ?_
    refine wT @hd ?_
    refine wRn 500 [0,4,6,8,9,10,11,12] fX ?_
    refine rC fX ?_
    refine⟨_,hal,rE fX ?_⟩
    refine wR0 600 [0,4,6,8,9,10,11,36] fX ?_
    refine wF fX ?_
    refine wRn 700 [0,4,6,8,9,10,13] fX ?_
    refine rU [(99999,dcB d)] [(99999,dcB d1)] fX ?_
    refine⟨_,hpk.fulD,rE fX ?_⟩
    refine wR0 800 [0,4,6,8,9,10] fX ?_
    refine wR0 900 [0,4,6,8,9,10] fX ?_
    refine wN ?_
    refine qaP [99999,0,1,102,805] (by simp[inL]) (by simp[inL,T.cl]) (by simp[qan,inL,Slot.cl,T.cl,clL,qak,qal,qaU,qae,qaF]) ?_
    simpa [qan,inL,stC] using hQ'
   | cons z zs=>
    have he3:((z::zs).flatMap stC).length=(zs.length+1)*3:=by rw[qjw stC 3 (fun _=>rfl)];rfl
    have hm3:(zs.length+1+1)*3=(zs.length+1)*3+3:=by omega
    have hfa:∀c:St3,(z::(zs++[c])).flatMap stC=(z::zs).flatMap stC++stC c:=fun c=>by simp[List.flatMap_append]
    have hzl:zs.length+1≤1000:=by simp at hn;omega
    simp only[qpy,qpx,List.cons_append,List.length_append,List.length_cons,List.length_nil,Nat.zero_add,hfa,hm3] at hQ' ⊢
    have fX:=(cJ7 @hd @hw @hz @hne @hg @qaK @he3)
    refine qaa qgK.eq_1 ?_
    refine W_gc ?_
    refine wR0 400 [0,4,6,8,9,10,21] fX ?_
    refine wT @hd ?_
    refine wRn 500 [0,4,6,8,9,10,11,12] fX ?_
    refine rC fX ?_
    refine⟨_,hal,rE fX ?_⟩
    refine wR0 600 [0,4,6,8,9,10,11,36] fX ?_
    refine wF fX ?_
    refine wRn 700 [0,4,6,8,9,10,13] fX ?_
    refine rU [(99999,dcB d)] [(99999,dcB d1)] fX ?_
    refine⟨_,hpk.fulD,rE fX ?_⟩
    refine wR0 800 [0,4,6,8,9,10] fX ?_
    refine wR0 900 [0,4,6,8,9,10] fX ?_
    refine wN ?_
    refine qaP [99999,0,1,102,805] (by simp[inL]) (by simp[inL,T.cl]) (by simp[qan,inL,Slot.cl,T.cl,clL,qap,qhl,qfa,qak,qal,qaU,qae,qaF]) ?_
    simpa [qan,inL,stC] using hQ'
end
section
open Go.RowKit
attribute [local simp] qae qak qal qaF
theorem fz_sts {H:Heap}{D:Nat→Bool}(l:List St3)(hd:D 805=false)(hb:H 805=.live ⟨50,l.flatMap stC⟩):Fz H D (.sl 805 (l.length*3) 3 0 l.length) (.list (qbw l)):=
 qlN (x0:=default) stC stC 3 805 50 (by omega) (fun _=>rfl) (fun _=>rfl) qmK l hd (fun a k _=>.same (qa5 (qfa _ a) k)) hb
theorem qsy {a b:List Int}(h:vLe a b=true):∀j,a.getD j 0≤b.getD j 0:=by
 simp only[vLe,Bool.and_eq_true,beq_iff_eq] at h
 obtain⟨⟨_,hl⟩,h1⟩:=h
 rw[leI,qbv] at h1
 intro j
 by_cases hj:j<a.length
 ·have:=h1 j (Nat.zero_le _) (by omega)
  simp only[Bool.not_eq_true',decide_eq_false_iff_not] at this
  omega
 ·rw[qbk (by omega),qbk (by omega)];omega
theorem qqA {m:Md}{N:Nat}(hN:N≤6)(hr:qbl N m.rules){s0:Int}{v0:List Int}{t:List Nn}{k:Nat}(h:TInv m N s0 v0 t k)(hd:t.length≤k){s:Int}{v:List Int}(hc:CfOk m N s v)(hcv:covL (limF t) s v=true){r:Rl}(hrm:r∈m.rules)(hf:qbL r s v=true)(ho:aftO r v=true):covL (limF t) r.to_ (aftR r v)=true:=by
 rw[covL,List.any_eq_true] at hcv
 obtain⟨y,hy,hyc⟩:=hcv
 rw[Bool.and_eq_true,beq_iff_eq] at hyc
 have hyv:=qeV h.good hy
 have hpt:=qsy hyc.2
 have hroom:=hr.room hc.vec hrm
 have hfl:=qlI hf
 have hcan:canR r y.vec=true:=by
  rw[canR,qbv]
  intro j _ hj
  have h1:=hfl.2 j (by rw[hroom.need,hc.vec.len,←hyv.len];omega)
  have h2:=hpt j
  simp only[Bool.not_eq_true',decide_eq_false_iff_not]
  omega
 have hcl:=qeW hN hr h hd hy hrm (by rw[hfl.1,hyc.1]) hcan
 rw[covL,List.any_eq_true] at hcl ⊢
 obtain⟨z,hz,hzc⟩:=hcl
 rw[Bool.and_eq_true] at hzc
 have hzp:=qsy hzc.2
 refine⟨z,hz,?_⟩
 rw[Bool.and_eq_true]
 refine⟨hzc.1,(qeD hN (qej hr hc.vec hrm hf ho) (qeV h.good hz)).2 fun j=>Int.le_trans ?_ (hzp j)⟩
 have e1:=hpt j
 have e2:=hc.fin j
 have e3:=hroom.needB j
 have e4:=hroom.giveB j
 have hlv:=hc.vec.len
 have hly:=hyv.len
 by_cases hj:j<v.length
 ·rw[qbO r v j hj,qbO r y.vec j (by omega)]
  have hb:=qky ho j hj
  rw[aft1] at hb ⊢
  rw[aft1]
  split at hb<;>split<;>omega
 ·rw[qbk (by rw[qbq];omega),qbk (by rw[qbq];omega)];omega
theorem qjW {m:Md}{N:Nat}(hM:PlainM m N){s0:Int}{v0:List Int}{t:List Nn}{k:Nat}(h:TInv m N s0 v0 t k)(hd:t.length≤k):∀(n:Nat) (s:Int) (v:List Int) (out:List St3) (d:Dc),CfOk m N s v→covL (limF t) s v=true→(∀x∈out,CfOk m N x.s x.v∧covL (limF t) x.s x.v=true)→d.ok→∀x∈(qfQ m n s v out d).2.1,CfOk m N x.s x.v∧covL (limF t) x.s x.v=true
 | 0,_,_,_,_,_,_,ho,_=>ho
 | n+1,s,v,out,d,hc,hcv,ho,hok=>by
  rw[qfQ]
  split
  ·exact ho
  ·rename_i hst
   have hao:=qh0 hM hc m.rules 0 [] rfl (fun x hx=>by cases hx)
   generalize allR s v m.rules 0 []=A at*
   have hS:A.2≠[]:=fun h=>hst (.inr h)
   have hSl:0<A.2.length:=by cases hA:A.2 with | nil=>exact absurd hA hS | cons x l=>simp
   have hpr:=qa6 hok (n:=(A.2.length:Nat)) (by omega)
   have hpl:(qar d (A.2.length:Nat)).1.toNat<A.2.length:=by omega
   have hxo:=hao (A.2.getD (qar d (A.2.length:Nat)).1.toNat default) (by simp[List.getD_eq_getElem?_getD,hpl])
   generalize A.2.getD (qar d (A.2.length:Nat)).1.toNat default=x at*
   obtain⟨x1,r,hr,hf,ha,e1,e2⟩:=hxo
   have hxc:covL (limF t) x.s x.v=true:=by
    rw[e1,e2];exact qqA hM.small hM.rules h hd hc hcv hr hf ha
   refine qjW hM h hd n _ _ _ _ x1 hxc (fun y hy=>?_) (qaQ hok _)
   rcases List.mem_append.1 hy with hy | hy
   ·exact ho y hy
   ·rw[List.mem_singleton.1 hy];exact⟨x1,hxc⟩
theorem qjX (m:Md):∀(n:Nat) (s:Int) (v:List Int) (out:List St3) (d:Dc),(qfQ m n s v out d).2.1.length≤out.length+n
 | 0,_,_,_,_=>by simp[qfQ]
 | n+1,s,v,out,d=>by
  rw[qfQ]
  split
  ·simp only;omega
  ·refine Nat.le_trans (qjX m n _ _ _ _) ?_
   simp only[List.length_append,List.length_cons,List.length_nil];omega
end
end Go.Proofs.YtoeeppojakbciaaGreat
