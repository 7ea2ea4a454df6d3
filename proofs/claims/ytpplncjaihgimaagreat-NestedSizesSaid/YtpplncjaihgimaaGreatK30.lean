/- Contracts of functions of the program, for all arguments that they name. -/
import Derived.Test.YtpplncjaihgimaaGreatK24
import Derived.Test.YtpplncjaihgimaaGreatK25
import Derived.Test.YtpplncjaihgimaaGreatK27
namespace Go.Proofs.YtpplncjaihgimaaGreat
set_option linter.unusedVariables false
section
open Go.RowKit
set_option maxHeartbeats 2000000
def mdX (m:Md)(x:T):List T:=[.int .i64 m.kind,.list (qas m.states),.nil,.list (qas m.letters),.nil,.int .i64 m.levels,.int .i64 m.age,x,.int .i64 m.start.n,.nil]
abbrev sMx (m:Md)(x:T):Slot:=.live ⟨34,mdX m x⟩
set_option maxHeartbeats 4000000 in
theorem rule4a (m:Md)  (d:Dk)(hd:d.ok)(hk:m.kind=4)(hs:1≤m.states.length∧m.states.length≤1000)(hl:1≤m.letters.length∧m.letters.length≤1000)(hv:1≤m.levels∧m.levels≤2) :
 ∃(r:Rl) (d':Dk),qmo m r∧d'.ok∧TC Tryz.prog 30 [dkR,.agg (mdX m .nil)] (hpL [(99999,dkB d)]) (qbK r) (hpL [(99999,dkB d')]):=by
 obtain⟨f,d1,hf,hok1,hn1⟩:=qbC d (m.states.length:Int) hd
 obtain⟨t,d2,ht,hok2,hn2⟩:=qbC d1 (m.states.length:Int) hok1
 obtain⟨L,hL⟩:=Int.eq_ofNat_of_zero_le (show 0≤m.levels by omega)
 obtain⟨ps,d3,hp1,hp2,hok3,hw1⟩:=qe7 d2 (m.letters.length:Int) L (by omega) (by omega) hok2
 obtain⟨ns,d4,hq1,hq2,hok4,hw2⟩:=qe7 d3 (m.letters.length:Int) L (by omega) (by omega) hok3
 have hkb1:(m.kind==1)=false:=by simp[hk]
 have hkb2:(m.kind==2)=false:=by simp[hk]
 have hkb3:(m.kind==3)=false:=by simp[hk]
 have hkb4:(m.kind==4)=true:=by simp[hk]
 have hsl:=qaf m.states
 have hll:=qaf m.letters
 have hpl1:(qab ps).length=ps.length:=qah ps
 have hnl1:(qab ns).length=ns.length:=qah ns
 have hw0:IntKind.wrap .i64 ((ps.length:Int)+(ns.length:Int))=(ps.length:Int)+ns.length:=wrap64 (by omega) (by omega)
 have hlp:qkI m ps:=⟨by omega,fun x hx=>⟨(hp2 x hx).1,(hp2 x hx).2 (by omega)⟩⟩
 have hln:qkI m ns:=⟨by omega,fun x hx=>⟨(hq2 x hx).1,(hq2 x hx).2 (by omega)⟩⟩
 rcases h0:((ps.length:Int)+(ns.length:Int)==0) with _ | _
 ·have hd0:=h0
  have h1:(ps.length:Int)+ns.length≠0:=by simpa using h0
  refine⟨⟨⟨#[]⟩,f,t,[],[],[],0,0,0,ps,ns,[],[],0⟩,d4,⟨f,t,ps,ns,rfl,⟨hf.1,hf.2.2 (by omega)⟩,⟨ht.1,ht.2.2 (by omega)⟩,hlp,hln,by omega⟩,hok4,?_⟩
  have fX:=(cJ8 @hkb1 @hkb2 @hkb3 @hkb4 @hsl @hll @hpl1 (cJ5 @hnl1 @hw0 @hd0 @hL @qaI))
  refine qcy fn30 (by simp) ?_
  unfold i30
  simp only[argL,mdX]
  refine wR0 0 [0,3,4] fX ?_
  refine wRn 100 [0,3,4,5] fX ?_
  refine rU [(99999,dkB d)] [(99999,dkB d1)] fX ?_
  refine⟨_,hn1.full1,rN fX ?_⟩
  refine rU [(99999,dkB d1)] [(99999,dkB d2)] fX ?_
  refine⟨_,hn2.full1,rE fX ?_⟩
  refine wR0 200 [0,3,4,5,6] fX ?_
  refine wR0 300 [0,3,4,5,6,25] fX ?_
  refine wR0 400 [0,3,4,5,6,25,26] fX ?_
  refine wF fX ?_
  refine wR0 1100 [0,3,4,5,6,25,53] fX ?_
  refine wF fX ?_
  refine wR0 1200 [0,3,4,5,6,25,53] fX ?_
  refine wF fX ?_
  refine wR0 1600 [0,3,4,5,6,25,72] fX ?_
  refine wT fX ?_
  refine wRn 1700 [4,5] fX ?_
  refine rU [(99999,dkB d2)] [(99999,dkB d3)] fX ?_
  refine⟨_,hw1.full1,rN fX ?_⟩
  refine rU [(99999,dkB d3)] [(99999,dkB d4)] fX ?_
  refine⟨_,hw2.full1,rE fX ?_⟩
  refine wR0 1800 [4,5,97] fX ?_
  refine wF fX ?_
  refine wR0 3700 [4] fX ?_
  refine wE ?_
  refine wN ?_
  exact⟨by simp,_,_,_,rfl,rfl,.aggL (.cons (.same rfl) (.cons (.same rfl) (.cons (.same rfl) (.cons .nil (.cons .nil (.cons .nil (.cons (.same rfl) (.cons (.same rfl) (.cons (.same rfl) (.cons (.same (qae _ _)) (.cons (.same (qae _ _)) (.cons .nil (.cons .nil (.cons (.same rfl) .nil)))))))))))))) rfl,.keep rfl (qaT _) (.dead rfl (fun h=>by cases h) (.dead rfl (fun h=>by cases h) (.dead rfl (fun h=>by cases h) .nil))),rfl⟩
 ·have hd0:=h0
  have h1:(ps.length:Int)+ns.length=0:=by simpa using h0
  refine⟨⟨⟨#[]⟩,f,t,[],[],[],0,0,0,ps,[0],[],[],0⟩,d4,⟨f,t,ps,[0],rfl,⟨hf.1,hf.2.2 (by omega)⟩,⟨ht.1,ht.2.2 (by omega)⟩,hlp,⟨by simp;omega,fun x hx=>by rw[List.mem_singleton] at hx;subst hx;omega⟩,by simp⟩,hok4,?_⟩
  have fX:=(cJ8 @hkb1 @hkb2 @hkb3 @hkb4 @hsl @hll @hpl1 (cJ5 @hnl1 @hw0 @hd0 @hL @qaI))
  refine qcy fn30 (by simp) ?_
  unfold i30
  simp only[argL,mdX]
  refine wR0 0 [0,3,4] fX ?_
  refine wRn 100 [0,3,4,5] fX ?_
  refine rU [(99999,dkB d)] [(99999,dkB d1)] fX ?_
  refine⟨_,hn1.full1,rN fX ?_⟩
  refine rU [(99999,dkB d1)] [(99999,dkB d2)] fX ?_
  refine⟨_,hn2.full1,rE fX ?_⟩
  refine wR0 200 [0,3,4,5,6] fX ?_
  refine wR0 300 [0,3,4,5,6,25] fX ?_
  refine wR0 400 [0,3,4,5,6,25,26] fX ?_
  refine wF fX ?_
  refine wR0 1100 [0,3,4,5,6,25,53] fX ?_
  refine wF fX ?_
  refine wR0 1200 [0,3,4,5,6,25,53] fX ?_
  refine wF fX ?_
  refine wR0 1600 [0,3,4,5,6,25,72] fX ?_
  refine wT fX ?_
  refine wRn 1700 [4,5] fX ?_
  refine rU [(99999,dkB d2)] [(99999,dkB d3)] fX ?_
  refine⟨_,hw1.full1,rN fX ?_⟩
  refine rU [(99999,dkB d3)] [(99999,dkB d4)] fX ?_
  refine⟨_,hw2.full1,rE fX ?_⟩
  refine wR0 1800 [4,5,97] fX ?_
  refine wT fX ?_
  refine wR0 1900 [4,5] fX ?_
  refine wR0 3700 [4] fX ?_
  refine wE ?_
  refine wN ?_
  exact⟨by simp,_,_,_,rfl,rfl,.aggL (.cons (.same rfl) (.cons (.same rfl) (.cons (.same rfl) (.cons .nil (.cons .nil (.cons .nil (.cons (.same rfl) (.cons (.same rfl) (.cons (.same rfl) (.cons (.same (qae _ _)) (.cons (qdp [0] rfl rfl rfl rfl) (.cons .nil (.cons .nil (.cons (.same rfl) .nil)))))))))))))) rfl,.keep rfl (qaT _) (.dead rfl (fun h=>by cases h) (.dead rfl (fun h=>by cases h) (.dead rfl (fun h=>by cases h) (.dead rfl (fun h=>by cases h) .nil)))),rfl⟩
set_option maxHeartbeats 4000000 in
theorem rule4b (m:Md)(q:Rl)(rs:List Rl)(d:Dk)(hd:d.ok)(hk:m.kind=4)(hs:1≤m.states.length∧m.states.length≤1000)(hl:1≤m.letters.length∧m.letters.length≤1000)(hv:1≤m.levels∧m.levels≤2) :
 ∃(r:Rl) (d':Dk),qmo m r∧d'.ok∧TC Tryz.prog 30 [dkR,.agg (mdX m (.sl 2604 ((rs.length+1)*14) 14 0 (rs.length+1)))] (hpL [(99999,dkB d),(2604,sW (q::rs))]) (qbK r) (hpL [(99999,dkB d'),(2604,sW (q::rs))]):=by
 obtain⟨f,d1,hf,hok1,hn1⟩:=qbC d (m.states.length:Int) hd
 obtain⟨t,d2,ht,hok2,hn2⟩:=qbC d1 (m.states.length:Int) hok1
 obtain⟨L,hL⟩:=Int.eq_ofNat_of_zero_le (show 0≤m.levels by omega)
 obtain⟨ps,d3,hp1,hp2,hok3,hw1⟩:=qe7 d2 (m.letters.length:Int) L (by omega) (by omega) hok2
 obtain⟨ns,d4,hq1,hq2,hok4,hw2⟩:=qe7 d3 (m.letters.length:Int) L (by omega) (by omega) hok3
 have hkb1:(m.kind==1)=false:=by simp[hk]
 have hkb2:(m.kind==2)=false:=by simp[hk]
 have hkb3:(m.kind==3)=false:=by simp[hk]
 have hkb4:(m.kind==4)=true:=by simp[hk]
 have hsl:=qaf m.states
 have hll:=qaf m.letters
 have hpl1:(qab ps).length=ps.length:=qah ps
 have hnl1:(qab ns).length=ns.length:=qah ns
 have hw0:IntKind.wrap .i64 ((ps.length:Int)+(ns.length:Int))=(ps.length:Int)+ns.length:=wrap64 (by omega) (by omega)
 have hlp:qkI m ps:=⟨by omega,fun x hx=>⟨(hp2 x hx).1,(hp2 x hx).2 (by omega)⟩⟩
 have hln:qkI m ns:=⟨by omega,fun x hx=>⟨(hq2 x hx).1,(hq2 x hx).2 (by omega)⟩⟩
 rcases h0:((ps.length:Int)+(ns.length:Int)==0) with _ | _
 ·have hd0:=h0
  have h1:(ps.length:Int)+ns.length≠0:=by simpa using h0
  refine⟨⟨⟨#[]⟩,f,t,[],[],[],0,0,0,ps,ns,[],[],0⟩,d4,⟨f,t,ps,ns,rfl,⟨hf.1,hf.2.2 (by omega)⟩,⟨ht.1,ht.2.2 (by omega)⟩,hlp,hln,by omega⟩,hok4,?_⟩
  have fX:=(cJ8 @hkb1 @hkb2 @hkb3 @hkb4 @hsl @hll @hpl1 (cJ5 @hnl1 @hw0 @hd0 @hL @qaI))
  refine qpv fn30 (by simp) ?_
  unfold i30
  simp only[argL,mdX]
  refine wR0 0 [0,3,4] fX ?_
  refine wRn 100 [0,3,4,5] fX ?_
  refine rU [(99999,dkB d)] [(99999,dkB d1)] fX ?_
  refine⟨_,hn1.full1,rN fX ?_⟩
  refine rU [(99999,dkB d1)] [(99999,dkB d2)] fX ?_
  refine⟨_,hn2.full1,rE fX ?_⟩
  refine wR0 200 [0,3,4,5,6] fX ?_
  refine wR0 300 [0,3,4,5,6,25] fX ?_
  refine wR0 400 [0,3,4,5,6,25,26] fX ?_
  refine wF fX ?_
  refine wR0 1100 [0,3,4,5,6,25,53] fX ?_
  refine wF fX ?_
  refine wR0 1200 [0,3,4,5,6,25,53] fX ?_
  refine wF fX ?_
  refine wR0 1600 [0,3,4,5,6,25,72] fX ?_
  refine wT fX ?_
  refine wRn 1700 [4,5] fX ?_
  refine rU [(99999,dkB d2)] [(99999,dkB d3)] fX ?_
  refine⟨_,hw1.full1,rN fX ?_⟩
  refine rU [(99999,dkB d3)] [(99999,dkB d4)] fX ?_
  refine⟨_,hw2.full1,rE fX ?_⟩
  refine wR0 1800 [4,5,97] fX ?_
  refine wF fX ?_
  refine wR0 3700 [4] fX ?_
  refine wE ?_
  refine wN ?_
  exact⟨by simp,_,_,_,rfl,rfl,.aggL (.cons (.same rfl) (.cons (.same rfl) (.cons (.same rfl) (.cons .nil (.cons .nil (.cons .nil (.cons (.same rfl) (.cons (.same rfl) (.cons (.same rfl) (.cons (.same (qae _ _)) (.cons (.same (qae _ _)) (.cons .nil (.cons .nil (.cons (.same rfl) .nil)))))))))))))) rfl,.keep rfl (qaT _) (.keep rfl (sW_fz _) (.dead rfl (fun h=>by cases h) (.dead rfl (fun h=>by cases h) (.dead rfl (fun h=>by cases h) .nil)))),rfl⟩
 ·have hd0:=h0
  have h1:(ps.length:Int)+ns.length=0:=by simpa using h0
  refine⟨⟨⟨#[]⟩,f,t,[],[],[],0,0,0,ps,[0],[],[],0⟩,d4,⟨f,t,ps,[0],rfl,⟨hf.1,hf.2.2 (by omega)⟩,⟨ht.1,ht.2.2 (by omega)⟩,hlp,⟨by simp;omega,fun x hx=>by rw[List.mem_singleton] at hx;subst hx;omega⟩,by simp⟩,hok4,?_⟩
  have fX:=(cJ8 @hkb1 @hkb2 @hkb3 @hkb4 @hsl @hll @hpl1 (cJ5 @hnl1 @hw0 @hd0 @hL @qaI))
  refine qpv fn30 (by simp) ?_
  unfold i30
  simp only[argL,mdX]
  refine wR0 0 [0,3,4] fX ?_
  refine wRn 100 [0,3,4,5] fX ?_
  refine rU [(99999,dkB d)] [(99999,dkB d1)] fX ?_
  refine⟨_,hn1.full1,rN fX ?_⟩
  refine rU [(99999,dkB d1)] [(99999,dkB d2)] fX ?_
  refine⟨_,hn2.full1,rE fX ?_⟩
  refine wR0 200 [0,3,4,5,6] fX ?_
  refine wR0 300 [0,3,4,5,6,25] fX ?_
  refine wR0 400 [0,3,4,5,6,25,26] fX ?_
  refine wF fX ?_
  refine wR0 1100 [0,3,4,5,6,25,53] fX ?_
  refine wF fX ?_
  refine wR0 1200 [0,3,4,5,6,25,53] fX ?_
  refine wF fX ?_
  refine wR0 1600 [0,3,4,5,6,25,72] fX ?_
  refine wT fX ?_
  refine wRn 1700 [4,5] fX ?_
  refine rU [(99999,dkB d2)] [(99999,dkB d3)] fX ?_
  refine⟨_,hw1.full1,rN fX ?_⟩
  refine rU [(99999,dkB d3)] [(99999,dkB d4)] fX ?_
  refine⟨_,hw2.full1,rE fX ?_⟩
  refine wR0 1800 [4,5,97] fX ?_
  refine wT fX ?_
  refine wR0 1900 [4,5] fX ?_
  refine wR0 3700 [4] fX ?_
  refine wE ?_
  refine wN ?_
  exact⟨by simp,_,_,_,rfl,rfl,.aggL (.cons (.same rfl) (.cons (.same rfl) (.cons (.same rfl) (.cons .nil (.cons .nil (.cons .nil (.cons (.same rfl) (.cons (.same rfl) (.cons (.same rfl) (.cons (.same (qae _ _)) (.cons (qdp [0] rfl rfl rfl rfl) (.cons .nil (.cons .nil (.cons (.same rfl) .nil)))))))))))))) rfl,.keep rfl (qaT _) (.keep rfl (sW_fz _) (.dead rfl (fun h=>by cases h) (.dead rfl (fun h=>by cases h) (.dead rfl (fun h=>by cases h) (.dead rfl (fun h=>by cases h) .nil))))),rfl⟩
def qmm (id:Nat)(done:List Rl):T:=match done with
 | []=>.nil
 | d::ds=>.sl id ((ds.length+1)*14) 14 0 (ds.length+1)
def qml (id:Nat)(done:List Rl):List (Nat×Slot):=match done with
 | []=>[]
 | d::ds=>[(id,sW (d::ds))]
abbrev sM0:Slot:=.live ⟨34,[.int .i64 0,.nil,.nil,.nil,.nil,.int .i64 0,.int .i64 0,.nil,.int .i64 0,.nil]⟩
def qer (r:Rl)(j:Nat):Rl:={ r with name:=nm2 (114,UInt8.ofNat (48+j)) }
theorem nm_r (j:Nat)(hj:j≤9):(⟨#[114]⟩:ByteArray)++qfz [IntKind.wrap .u8 (48+(j:Int))]=nm2 (114,UInt8.ofNat (48+j)):=qqM 114 j hj
def qm1 (m:Md):List Nat→List Rl→Prop:=All2 fun j r=>∃r0,qmo m r0∧r=qer r0 j
theorem qoM (m:Md)(hm:Tm m)(hst:m.start=v0):∀(k:Nat) (done:List Rl) (d:Dk),k≤4→done.length+k≤4→d.ok→
 ∃(rs:List Rl) (d':Dk),qm1 m ((List.range' 1 k).reverse) rs∧d'.ok∧∀Q:IExit→(Nat→T)→Heap→Prop,
  (∀i:Int,Q (.exit 1) (ofL [(0,dkR),(1,.int .i64 4),(4,.ref 0 10 0),(5,.ref 306 10 0),(6,.int .i64 i),(77,.bool false)]) (hpL ([(99999,dkB d'),(0,sM0),(306,sMx m (qmm 2604 (done++rs)))]++qml 2604 (done++rs))))→
  WL Tryz.prog 103 qkv (ofL [(0,dkR),(1,.int .i64 4),(4,.ref 0 10 0),(5,.ref 306 10 0),(6,.int .i64 k)]) (hpL ([(99999,dkB d),(0,sM0),(306,sMx m (qmm 2604 done))]++qml 2604 done)) Q:=by
 have h1:=hm.n1
 have h2:=hm.n2
 have h3:=hm.lv
 intro k
 induction k with
 | zero=>
  intro done d hk4 hk hd
  refine⟨[],d,.nil,hd,fun Q hQ=>?_⟩
  have hb:decide (((0:Nat):Int) > 0)=false:=rfl
  rw[List.append_nil] at hQ
  simp only[List.cons_append,List.nil_append] at hQ ⊢
  have fX:=@hb
  refine qaa qkv.eq_1 ?_
  refine wR0 2300 [0,1,4,5,6,77] fX ?_
  refine wF @hb ?_
  refine wX ?_
  refine wN ?_
  exact hQ _
 | succ k ih=>
  intro done d hk4 hk hd
  have hb:decide (((k+1:Nat):Int) > 0)=true:=decide_eq_true (by omega)
  have hw:IntKind.wrap .i64 (((k+1:Nat):Int) - 1)=(k:Int):=by rw[wrap64 (by omega) (by omega)];omega
  have hw48:IntKind.wrap .i64 (48+((k+1:Nat):Int))=48+((k+1:Nat):Int):=wrap64 (by omega) (by omega)
  have hnb:=nm_r (k+1) (by omega)
  have hsz:(⟨#[114]⟩:ByteArray).size=1:=rfl
  have hbz:(qfz [IntKind.wrap .u8 (48+((k+1:Nat):Int))]).size=1:=rfl
  have h11:1+1≤1000000:=by omega
  cases done with
  | nil=>
   obtain⟨r0,d1,hr,hok,hrl⟩:=rule4a m d hd hm.kind (by omega) (by omega) (by omega)
   obtain⟨rs,d',a1,a2,hW⟩:=ih [qer r0 (k+1)] d1 (by omega) (by simp;omega) hok
   refine⟨qer r0 (k+1)::rs,d',?_,a2,fun Q hQ=>?_⟩
   ·rw[List.range'_concat,List.reverse_append]
    simp only[List.reverse_cons,List.reverse_nil,List.nil_append,List.cons_append,Nat.one_mul]
    rw[Nat.add_comm 1 k]
    exact .cons ⟨r0,hr,rfl⟩ a1
   have hQ':=hW Q (by simpa using hQ)
   simp only[qmm,qml,List.append_nil]
   have fX:=(cJ8 @hb @hw @hw48 @qbp @binS.eq_1 @binS.eq_2 @binS.eq_3 (cJ8 @req.eq_34 @req.eq_35 @req.eq_36 @req.eq_37 @Req.run.eq_1 @Req.run.eq_8 @Req.run.eq_9 (cJ7 @Req.run.eq_10 @Req.run.eq_11 @qbQ.eq_1 @qbQ.eq_2 @hsz @hbz @hnb)))
   refine qaa qkv.eq_1 ?_
   refine W_gc ?_
   refine wR0 2300 [0,1,4,5,6,77] fX ?_
   refine wT fX ?_
   refine wRn 2400 [0,1,4,5,6,7] (cJ4 @mdX.eq_1 @qbK.eq_1 @rlC.eq_1 fX) ?_
   refine rU [(99999,dkB d)] [(99999,dkB d1)] (cJ4 @mdX.eq_1 @qbK.eq_1 @rlC.eq_1 fX) ?_
   refine⟨_,hrl.full1,rE (cJ4 @mdX.eq_1 @qbK.eq_1 @rlC.eq_1 fX) ?_⟩
   refine wR0 2500 [0,1,4,5,6,7] fX ?_
   refine wR0 2600 [0,1,4,5,6] fX ?_
   refine wR0 2700 [0,1,4,5,6] fX ?_
   refine wN ?_
   refine qaC [99999,0,306,2604] (by simp[inL]) (by simp[inL,T.cl]) (by simp[qam,inL,Slot.cl,T.cl,clL,mdX,qae]) ?_
   exact hQ'
  | cons z l=>
   obtain⟨r0,d1,hr,hok,hrl⟩:=rule4b m z l d hd hm.kind (by omega) (by omega) (by omega)
   obtain⟨rs,d',a1,a2,hW⟩:=ih (z::(l++[qer r0 (k+1)])) d1 (by omega) (by simp at hk ⊢;omega) hok
   refine⟨qer r0 (k+1)::rs,d',?_,a2,fun Q hQ=>?_⟩
   ·rw[List.range'_concat,List.reverse_append]
    simp only[List.reverse_cons,List.reverse_nil,List.nil_append,List.cons_append,Nat.one_mul]
    rw[Nat.add_comm 1 k]
    exact .cons ⟨r0,hr,rfl⟩ a1
   have hlb:l.length+1≤4:=by simp at hk;omega
   have hQ':=hW Q (by simpa using hQ)
   simp only[qmm,qml,List.cons_append,List.nil_append]
   have fX:=(cJ8 @hb @hw @hw48 @qbp @binS.eq_1 @binS.eq_2 @binS.eq_3 (cJ8 @req.eq_34 @req.eq_35 @req.eq_36 @req.eq_37 @Req.run.eq_1 @Req.run.eq_8 @Req.run.eq_9 (cJ8 @Req.run.eq_10 @Req.run.eq_11 @qbQ.eq_1 @qbQ.eq_2 @hsz @hbz @hnb @qhp)))
   refine qaa qkv.eq_1 ?_
   refine W_gc ?_
   refine wR0 2300 [0,1,4,5,6,77] fX ?_
   refine wT fX ?_
   refine wRn 2400 [0,1,4,5,6,7] (cJ4 @mdX.eq_1 @qbK.eq_1 @rlC.eq_1 fX) ?_
   refine rU [(99999,dkB d),(2604,sW (z::l))] [(99999,dkB d1),(2604,sW (z::l))] (cJ4 @mdX.eq_1 @qbK.eq_1 @rlC.eq_1 fX) ?_
   refine⟨_,hrl.fullL (by simp) (by simp[qbD,qaL,qa0]),rE (cJ4 @mdX.eq_1 @qbK.eq_1 @rlC.eq_1 fX) ?_⟩
   refine wR0 2500 [0,1,4,5,6,7] fX ?_
   refine wR0 2600 [0,1,4,5,6] fX ?_
   refine wR0 2700 [0,1,4,5,6] fX ?_
   refine wN ?_
   refine qaC [99999,0,306,2604] (by simp[inL]) (by simp[inL,T.cl]) (by simp[qam,inL,Slot.cl,T.cl,clL,qao,mdX,qae]) ?_
   have hs:qef (z::(l++[qer r0 (k+1)]))=qef (z::l)++rlC (qer r0 (k+1)):=qoB (z::l) _
   have hm2:(l.length+1+1)*14=(l.length+1)*14+14:=(by omega)
   simp only[List.cons_append,List.nil_append,qmm,qml,sW,hs,List.length_append,List.length_cons,List.length_nil,Nat.zero_add,hm2] at hQ'
   exact hQ'
theorem qhh {m:Md}:∀ {js:List Nat} {rs:List Rl},qm1 m js rs→rs.map (·.name)=js.map (fun j=>nm2 (114,UInt8.ofNat (48+j)))∧rs.length=js.length
 | [],[],.nil=>⟨rfl,rfl⟩
 | j::js,r::rs,.cons h t=>by
  obtain⟨r0,_,rfl⟩:=h
  obtain⟨e1,e2⟩:=qhh t
  exact⟨by rw[List.map_cons,List.map_cons,e1];rfl,by simp[e2]⟩
theorem qhg {m:Md}:∀ {js:List Nat} {rs:List Rl},qm1 m js rs→∀r∈rs,∃r0 j,qmo m r0∧r=qer r0 j
 | [],[],.nil,r,h=>by cases h
 | j::js,r::rs,.cons h t,x,hx=>by
  rcases List.mem_cons.1 hx with rfl | hx
  ·obtain⟨r0,h1,h2⟩:=h
   exact⟨r0,j,h1,h2⟩
  ·exact qhg t x hx
structure Gmd (m:Md):Prop where
 tm:Tm m
 fit:m.fit
 rules:m.rules.length≤4
 check:qaM m=0
theorem qt6 (c:UInt8)(n:Nat):∀s∈qbT c n,s.size≤1000000:=fun s hs=>by
 obtain⟨x,_,rfl⟩:=List.mem_map.1 hs
 rw[qjH];omega
theorem qrb {m:Md}{r:Rl}{j:Nat}(hv:m.levels≤2)(h:qmo m r):(qer r j).fit:=by
 obtain⟨f,t,ps,ns,rfl,_,_,h1,h2,_⟩:=h
 have a1:=h1.1
 have a2:=h2.1
 exact⟨by simp[qer],by simp[qer],by simp[qer],by simp only[qer];omega,by simp only[qer];omega,by simp[qer],by simp[qer],by simp only[qer];rw[qjH];omega⟩
theorem gm_of {m:Md}(hm:Tm m)(k:Nat)(hk:k≤4){rs:List Rl}(hr:qm1 m ((List.range' 1 k).reverse) rs){v:V}(hv:v.fit)(hvv:qaR (qau m) v=true):Gmd { m with rules:=rs,start:=v }:=by
 obtain⟨e1,e2⟩:=qhh hr
 have hlen:rs.length=k:=by rw[e2];simp
 have hn1:=hm.n1
 have hn2:=hm.n2
 have ht:Tm { m with rules:=rs,start:=v }:=hm.same rfl rfl rfl rfl rfl rfl rfl
 refine⟨ht,?_,by simp only;omega,?_⟩
 ·refine⟨by simp only;omega,by simp[hm.places],by simp only;omega,by simp[hm.ranks],by simp only;omega,fun r hr'=>?_,hv,fun s hs=>?_,(by show kindOk m.kind;rw[hm.kind];unfold kindOk;first | trivial | omega)⟩
  ·obtain⟨r0,j,h1,rfl⟩:=qhg hr r hr'
   exact qrb hm.lv.2 h1
  ·simp only[hm.places,List.append_nil] at hs
   rw[hm.sts,hm.lts] at hs
   rcases List.mem_append.1 hs with hs | hs
   ·exact qt6 _ _ s hs
   ·exact qt6 _ _ s hs
 ·have:=ht.check (by simp only;omega) (fun r hr'=>by
   obtain⟨r0,j,h1,rfl⟩:=qhg hr r hr'
   exact Tm.right (m:={ m with rules:=rs,start:=v }) ht.kind h1 _) (ht.named ((List.range' 1 k).reverse) e1 (fun j hj=>by simp at hj;omega) (List.pairwise_reverse.2 (List.Pairwise.imp (fun h=>Ne.symm h) (List.nodup_range' (s:=1) (n:=k) (step:=1)))))
  rw[this]
  exact if_pos hvv
set_option maxHeartbeats 20000000 in
theorem qfQ (d:Dk)(hd:d.ok):∃(m:Md) (d':Dk),Gmd m∧m.kind=4∧d'.ok∧TC Tryz.prog 12 [dkR,.int .i64 4] (hpL [(99999,dkB d)]) (qax m) (hpL [(99999,dkB d')]):=by
 obtain⟨x1,d1,hx1b,hok1,hx1⟩:=qbC d 3 hd
 obtain⟨n1,rfl⟩:=Int.eq_ofNat_of_zero_le hx1b.1
 have hb1:=hx1b.2.2 (by omega)
 obtain⟨x2,d2,hx2b,hok2,hx2⟩:=qbC d1 3 hok1
 obtain⟨n2,rfl⟩:=Int.eq_ofNat_of_zero_le hx2b.1
 have hb2:=hx2b.2.2 (by omega)
 obtain⟨a,d3,hx3b,hok3,hx3⟩:=qbC d2 2 hok2
 have hb3:=hx3b.2.2 (by omega)
 have hb30:=hx3b.1
 obtain⟨x5,d5,hx5b,hok5,hx5⟩:=qbC d3 5 hok3
 obtain⟨k,rfl⟩:=Int.eq_ofNat_of_zero_le hx5b.1
 have hb5:=hx5b.2.2 (by omega)
 have hn1:=qnw 113 (1+n1) (by omega)
 have hn2:=qnw 108 (1+n2) (by omega)
 have hw1:IntKind.wrap .i64 (1+(n1:Int))=((1+n1:Nat):Int):=by rw[wrap64 (by omega) (by omega)];omega
 have hw2:IntKind.wrap .i64 (1+(n2:Int))=((1+n2:Nat):Int):=by rw[wrap64 (by omega) (by omega)];omega
 have hw3:IntKind.wrap .i64 (1+a)=1+a:=wrap64 (by omega) (by omega)
 have b50:((4:Int)==0)=false:=rfl
 have b51:((4:Int)==1)=false:=rfl
 have b52:((4:Int)==2)=false:=rfl
 have b53:((4:Int)==3)=false:=rfl
 have b54:((4:Int)==4)=true:=rfl
 have b55:((4:Int)==5)=false:=rfl
 have b56:((4:Int)==6)=false:=rfl
 have b5n:((4:Int) != 6)=true:=rfl
 have hm0:Tm ⟨4,qbT 113 (1+n1),[],qbT 108 (1+n2),[],1+a,0,[],v0⟩:=⟨rfl,by simp[qdD];omega,by simp[qdD];omega,by simp only;omega,rfl,rfl,rfl,by simp[qdD],by simp[qdD]⟩
 generalize hN0:(⟨4,qbT 113 (1+n1),[],qbT 108 (1+n2),[],1+a,0,[],v0⟩:Md)=N0 at hm0
 have hst0:N0.start=v0:=by rw[←hN0]
 obtain⟨rs,d6,hdl,hok6,hW⟩:=qoM N0 hm0 hst0 k [] d5 (by omega) (by simp;omega) hok5
 have hgm:=fun (v:V) hv hvv=>gm_of hm0 k (by omega) hdl (v:=v) hv hvv
 obtain⟨_,hgf,_,_⟩:=hgm (qb9 N0) (by simp[qb9,qfd,qaP,V.fit,fitL,hm0.kind]) hm0.least
 have hmf:({ N0 with rules:=rs,start:=v0 }:Md).fit:=⟨hgf.states,hgf.places,hgf.letters,hgf.ranks,hgf.rules,hgf.rule,by simp[v0,V.fit,fitL],hgf.names,hgf.kd⟩
 have htf:qcU (cfM { N0 with rules:=rs,start:=v0 })=qau N0:=Tm.typeF (m:=cfM { N0 with rules:=rs,start:=v0 }) (hm0.same rfl rfl rfl rfl rfl rfl rfl)
 have h1:=hm0.n1
 have h2:=hm0.n2
 obtain⟨v,d7,hvf,hvv,hok7,hcf⟩:=qkl { N0 with rules:=rs,start:=v0 } d6 hmf (by rw[htf];exact qib _ hm0.kind (by omega) (by omega)) (by rw[htf];exact qe6 N0 hmf.places hmf.ranks) hok6
 rw[htf] at hvv
 refine⟨{ N0 with rules:=rs,start:=v },d7,hgm v hvf (hvv (qgI _ hm0.kind)),hm0.kind,hok7,?_⟩
 subst hN0
 rcases v with⟨va,vks⟩
 simp only[encV] at hcf
 rcases rs with _ | ⟨q,rs⟩
 ·have fX:=(cJ8 @hw1 @hw2 @hw3 @b50 @b52 @b53 @b51 (cJ4 @b56 @b55 @b54 @b5n))
  refine qcy fn12 (by simp) ?_
  unfold i12
  simp only[argL,dkR]
  refine wR0 0 [0,1,4] fX ?_
  refine wR0 100 [0,1,4,9] fX ?_
  refine wF fX ?_
  refine wRn 300 [0,1,4,5] fX ?_
  refine rU [(99999,dkB d)] [(99999,dkB d1)] fX ?_
  refine⟨_,hx1.full1,rN fX ?_⟩
  refine rC fX ?_
  refine⟨_,hn1,rE fX ?_⟩
  refine wR0 400 [0,1,4,5,19] fX ?_
  refine wR0 500 [0,1,4,5,19,20] fX ?_
  refine wF fX ?_
  refine wR0 600 [0,1,4,5,19,20] fX ?_
  refine wF fX ?_
  refine wR0 800 [0,1,4,5,19,28] fX ?_
  refine wF fX ?_
  refine wR0 900 [0,1,4,5,19,28] fX ?_
  refine wF fX ?_
  refine wR0 1000 [0,1,4,5,28] fX ?_
  refine wF fX ?_
  refine wR0 1200 [0,1,4,5,46] fX ?_
  refine wT fX ?_
  refine wRn 1300 [0,1,4,5] fX ?_
  refine rU [(99999,dkB d1)] [(99999,dkB d2)] fX ?_
  refine⟨_,hx2.full1,rN fX ?_⟩
  refine rC fX ?_
  refine⟨_,hn2,rE fX ?_⟩
  refine wR0 1400 [0,1,4,5,53] fX ?_
  refine wF fX ?_
  refine wR0 1600 [0,1,4,5,61] fX ?_
  refine wT fX ?_
  refine wRn 1700 [0,1,4,5] fX ?_
  refine rU [(99999,dkB d2)] [(99999,dkB d3)] fX ?_
  refine⟨_,hx3.full1,rE fX ?_⟩
  refine wR0 1800 [0,1,4,5,67] fX ?_
  refine wF fX ?_
  refine wRn 2200 [0,1,4,5,6] fX ?_
  refine rU [(99999,dkB d3)] [(99999,dkB d5)] fX ?_
  refine⟨_,hx5.full1,rE fX ?_⟩
  refine wL ?_
  refine qcZ [0,1,4,5,6] ?_
  refine hW _ ?_
  ·intro i
   refine wN ?_
   simp only[qmm,qml,List.append_nil]
   refine qbW (l':=[(0,dkR),(1,.int .i64 4),(4,.ref 0 10 0),(5,.ref 306 10 0),(6,.undef),(77,.undef)]) (hl':=[(99999,dkB d6),(0,sM0),(306,sM (⟨4,qbT 113 (1+n1),[],qbT 108 (1+n2),[],1+a,0,[],v0⟩:Md))]) [99999,0,306] (.cons (.same rfl) (.cons (.same rfl) (.cons (.same rfl) (.cons (.same rfl) (.drop (.drop .nil)))))) (.keep rfl (qaT _) (.keep rfl (.liveA rfl rfl) (.keep rfl (.liveL (.cons (.same rfl) (.cons (.same (qeO _ _)) (.cons .nil (.cons (.same (qeO _ _)) (.cons .nil (.cons (.same rfl) (.cons (.same rfl) (.cons .nil (.cons (.same rfl) (.cons .nil .nil)))))))))) rfl) .nil))) ?_
   refine wR0 2800 [0,4,5,97] fX ?_
   refine wT fX ?_
   refine wRn 2900 [4,5] (cJ2 @mdC.eq_1 fX) ?_
   refine rU [(99999,dkB d6)] [(99999,dkB d7)] (cJ2 @mdC.eq_1 fX) ?_
   refine⟨_,hcf.full1,rE (cJ2 @mdC.eq_1 fX) ?_⟩
   refine wR0 3000 [4] (cJ2 @mdC.eq_1 fX) ?_
   refine wE ?_
   refine wN ?_
   exact⟨by simp,_,_,_,rfl,rfl,.same (by simp[mkEl,esz,T.cl,clL,qai,qae]),.keep rfl (qaT _) (.dead rfl (fun h=>by cases h) (.dead rfl (fun h=>by cases h) .nil)),rfl⟩
 ·have fX:=(cJ8 @hw1 @hw2 @hw3 @b50 @b52 @b53 @b51 (cJ4 @b56 @b55 @b54 @b5n))
  refine qcy fn12 (by simp) ?_
  unfold i12
  simp only[argL,dkR]
  refine wR0 0 [0,1,4] fX ?_
  refine wR0 100 [0,1,4,9] fX ?_
  refine wF fX ?_
  refine wRn 300 [0,1,4,5] fX ?_
  refine rU [(99999,dkB d)] [(99999,dkB d1)] fX ?_
  refine⟨_,hx1.full1,rN fX ?_⟩
  refine rC fX ?_
  refine⟨_,hn1,rE fX ?_⟩
  refine wR0 400 [0,1,4,5,19] fX ?_
  refine wR0 500 [0,1,4,5,19,20] fX ?_
  refine wF fX ?_
  refine wR0 600 [0,1,4,5,19,20] fX ?_
  refine wF fX ?_
  refine wR0 800 [0,1,4,5,19,28] fX ?_
  refine wF fX ?_
  refine wR0 900 [0,1,4,5,19,28] fX ?_
  refine wF fX ?_
  refine wR0 1000 [0,1,4,5,28] fX ?_
  refine wF fX ?_
  refine wR0 1200 [0,1,4,5,46] fX ?_
  refine wT fX ?_
  refine wRn 1300 [0,1,4,5] fX ?_
  refine rU [(99999,dkB d1)] [(99999,dkB d2)] fX ?_
  refine⟨_,hx2.full1,rN fX ?_⟩
  refine rC fX ?_
  refine⟨_,hn2,rE fX ?_⟩
  refine wR0 1400 [0,1,4,5,53] fX ?_
  refine wF fX ?_
  refine wR0 1600 [0,1,4,5,61] fX ?_
  refine wT fX ?_
  refine wRn 1700 [0,1,4,5] fX ?_
  refine rU [(99999,dkB d2)] [(99999,dkB d3)] fX ?_
  refine⟨_,hx3.full1,rE fX ?_⟩
  refine wR0 1800 [0,1,4,5,67] fX ?_
  refine wF fX ?_
  refine wRn 2200 [0,1,4,5,6] fX ?_
  refine rU [(99999,dkB d3)] [(99999,dkB d5)] fX ?_
  refine⟨_,hx5.full1,rE fX ?_⟩
  refine wL ?_
  refine qcZ [0,1,4,5,6] ?_
  refine hW _ ?_
  ·intro i
   refine wN ?_
   simp only[qmm,qml,List.nil_append,List.cons_append]
   refine qbW (l':=[(0,dkR),(1,.int .i64 4),(4,.ref 0 10 0),(5,.ref 306 10 0),(6,.undef),(77,.undef)]) (hl':=[(99999,dkB d6),(0,sM0),(306,sM (⟨4,qbT 113 (1+n1),[],qbT 108 (1+n2),[],1+a,0,q::rs,v0⟩:Md)),(2604,.dead)]) [99999,0,306] (.cons (.same rfl) (.cons (.same rfl) (.cons (.same rfl) (.cons (.same rfl) (.drop (.drop .nil)))))) (.keep rfl (qaT _) (.keep rfl (.liveA rfl rfl) (.keep rfl (.liveL (.cons (.same rfl) (.cons (.same (qeO _ _)) (.cons .nil (.cons (.same (qeO _ _)) (.cons .nil (.cons (.same rfl) (.cons (.same rfl) (.cons (quB (q::rs) rfl rfl rfl rfl) (.cons (.same rfl) (.cons .nil .nil)))))))))) rfl) (.dead rfl (fun h=>by cases h) .nil)))) ?_
   refine wR0 2800 [0,4,5,97] fX ?_
   refine wT fX ?_
   refine wRn 2900 [4,5] (cJ2 @mdC.eq_1 fX) ?_
   refine rU [(99999,dkB d6)] [(99999,dkB d7)] (cJ2 @mdC.eq_1 fX) ?_
   refine⟨_,hcf.full1,rE (cJ2 @mdC.eq_1 fX) ?_⟩
   refine wR0 3000 [4] (cJ2 @mdC.eq_1 fX) ?_
   refine wE ?_
   refine wN ?_
   exact⟨by simp,_,_,_,rfl,rfl,.same (by simp[mkEl,esz,T.cl,clL,qai,qae]),.keep rfl (qaT _) (.dead rfl (fun h=>by cases h) (.dead rfl (fun h=>by cases h) (.dead rfl (fun h=>by cases h) .nil))),rfl⟩
end
end Go.Proofs.YtpplncjaihgimaaGreat
