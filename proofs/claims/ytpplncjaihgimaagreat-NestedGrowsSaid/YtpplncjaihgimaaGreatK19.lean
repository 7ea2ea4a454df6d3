/- Contracts of functions of the program, for all arguments that they name. -/
import Derived.Test.YtpplncjaihgimaaGreatK02
import Derived.Test.YtpplncjaihgimaaGreatK03
import Derived.Test.YtpplncjaihgimaaGreatK05
import Derived.Test.YtpplncjaihgimaaGreatK08
import Derived.Test.YtpplncjaihgimaaGreatK18
namespace Go.Proofs.YtpplncjaihgimaaGreat
set_option linter.unusedVariables false
section
open Go.RowKit
set_option maxHeartbeats 2000000
theorem qn0 {m:Md}(hk:m.kind=2∨m.kind=3)(h:qa9 m=true):0<m.places.length∧0<m.letters.length:=by
 have hl:limC m.kind=[1,2,1,6,0,0,0,0]:=by rcases hk with h | h<;>rw[h]<;>rfl
 simp[qa9,btw,hl] at h
 omega
theorem qra (m:Md)(r:Rl)(hm:m.fit)(hr:r.fit)(ha:0≤m.age∧m.age≤1000)(hk:btw m.kind 1 6=true)(hs:qa9 m=true):TP Tryz.prog 98 [qax m,qbK r] (.bool (qbF m r)):=by
 rcases qeV hk with h | h | h | h | h | h
 ·exact absurd hm.kd (by unfold kindOk;omega)
 ·have:=qn0 (.inl h) hs
  exact absurd hm.kd (by unfold kindOk;omega)
 ·have:=qn0 (.inr h) hs
  exact absurd hm.kd (by unfold kindOk;omega)
 ·rw[←qq5 m r h];exact qo6 m r hm hr ha h
 ·exact absurd hm.kd (by unfold kindOk;omega)
 ·exact absurd hm.kd (by unfold kindOk;omega)
theorem qmh (m:Md)(hl:m.rules.length≤1000)(hr:∀r∈m.rules,TP Tryz.prog 98 [qax m,qbK r] (.bool (qbF m r)))(Q:IExit→(Nat→T)→Heap→Prop):∀(rest pre:List Rl) (i:Nat),m.rules=pre++rest→pre.length=i→
 ((rest.any fun r=>!qbF m r)=false→∀i:Int,Q (.exit 0) (ofL [(1,.ref 0 10 0),(3,.int .i64 i),(21,.bool false)]) (hpL [(0,.live ⟨34,mdC m⟩)]))→
 ((rest.any fun r=>!qbF m r)=true→Q .ret (ofL [(2,.int .i64 16)]) (hpL [(0,.live ⟨34,mdC m⟩)]))→
 WL Tryz.prog 52 qnb (ofL [(1,.ref 0 10 0),(3,.int .i64 i)]) (hpL [(0,.live ⟨34,mdC m⟩)]) Q:=by
 simp only[mdC]
 intro rest
 induction rest with
 | nil=>
  intro pre i he hn hQ0 hQ1
  have hd:decide ((i:Int)<((qaN m.rules).length:Int))=false:=by simp[qaB,he,hn]
  have fX:=@hd
  refine qaa qnb.eq_1 ?_
  refine wR0 1000 [1,3,21] fX ?_
  refine wF @hd ?_
  refine wX ?_
  refine wN ?_
  exact hQ0 rfl _
 | cons k rest ih=>
  intro pre i he hn hQ0 hQ1
  have hlt:(i:Int)<((qaN m.rules).length:Int):=by simp[qaB,he];omega
  have hlb:i≤1000:=by rw[he] at hl;simp at hl;omega
  have hd:decide ((i:Int)<((qaN m.rules).length:Int))=true:=decide_eq_true hlt
  have hg:(qaN m.rules).getD (i:Int).toNat .undef=.agg (rlC k):=by rw[Int.toNat_natCast,he,←hn];exact qeN _ k _
  have hw:IntKind.wrap .i64 ((i:Int)+1)=(i:Int)+1:=wrap64 (by omega) (by omega)
  have hrk:=hr k (by rw[he];simp)
  simp only[rlC] at hg
  have fX:=(cJ3 @hd @hg @hw)
  refine qaa qnb.eq_1 ?_
  refine wR0 1000 [1,3,21] fX ?_
  refine wT @hd ?_
  refine wRn 1100 [1,3,31] fX ?_
  refine rC fX ?_
  refine⟨_,hrk,rE fX ?_⟩
  refine wS cJ0 (fun hc1100=>?_) (fun hc1100=>?_)
  ·skip
   refine wR0 1200 [2] fX ?_
   refine wE ?_
   refine wN ?_
   exact hQ1 (by rw[List.any_cons,hc1100,Bool.true_or])
  ·skip
   refine wR0 1300 [1,3] fX ?_
   refine wN ?_
   have e:((k::rest).any fun r=>!qbF m r)=(rest.any fun r=>!qbF m r):=(by rw[List.any_cons,hc1100,Bool.false_or])
   rw[e] at hQ0 hQ1
   exact ih (pre++[k]) (i+1) (by simp[he]) (by simp;omega) hQ0 hQ1
set_option maxHeartbeats 4000000 in
theorem qk7 (m:Md)(hm:m.fit):TP Tryz.prog 54 [qax m] (.int .i64 (qaM m)):=by
 have hrt:=qq9 m hm
 rcases hk:btw m.kind 1 6 with _ | _
 ·have hb:=qav m.kind 1 6
  rw[hk] at hb
  have fX:=@Bool.not_false
  refine qan fn54 (by simp) ?_
  unfold i54
  simp only[argL,qax,mdC]
  refine wR0 0 [1] fX ?_
  refine wRn 100 [1,7] fX ?_
  refine rC fX ?_
  refine⟨_,hb,rE fX ?_⟩
  refine wT fX ?_
  refine wR0 200 [2] fX ?_
  refine wP ?_
  exact qaW (by rw[qaM,if_pos hk])
 ·have hb:=qav m.kind 1 6
  rw[hk] at hb
  have hst:=qmk m hk
  rcases hs:qa9 m with _ | _
  ·rw[hs] at hst
   have fX:=(cJ2 @Bool.not_false @Bool.not_true)
   refine qan fn54 (by simp) ?_
   unfold i54
   simp only[argL,qax,mdC]
   refine wR0 0 [1] fX ?_
   refine wRn 100 [1,7] fX ?_
   refine rC fX ?_
   refine⟨_,hb,rE fX ?_⟩
   refine wF fX ?_
   refine wRn 300 [1,10] fX ?_
   refine rC fX ?_
   refine⟨_,hst,rE fX ?_⟩
   refine wT fX ?_
   refine wR0 400 [2] fX ?_
   refine wP ?_
   exact qaW (by rw[qaM,if_neg (by simp[hk]),if_pos hs])
  ·rw[hs] at hst
   rcases hr:qcO m with _ | _
   ·rw[hr] at hrt
    have fX:=(cJ2 @Bool.not_false @Bool.not_true)
    refine qan fn54 (by simp) ?_
    unfold i54
    simp only[argL,qax,mdC]
    refine wR0 0 [1] fX ?_
    refine wRn 100 [1,7] fX ?_
    refine rC fX ?_
    refine⟨_,hb,rE fX ?_⟩
    refine wF fX ?_
    refine wRn 300 [1,10] fX ?_
    refine rC fX ?_
    refine⟨_,hst,rE fX ?_⟩
    refine wF fX ?_
    refine wRn 500 [1,13] fX ?_
    refine rC fX ?_
    refine⟨_,hrt,rE fX ?_⟩
    refine wT fX ?_
    refine wR0 600 [2] fX ?_
    refine wP ?_
    exact qaW (by rw[qaM,if_neg (by simp[hk]),if_neg (by simp[hs]),if_pos hr])
   ·rw[hr] at hrt
    have hsn:=qgo hm hk hs hr
    have hch:qaM m=if qec m=false then 13 else if (m.rules.any fun r=>!qbF m r)=true then 16 else if qbo m=false then 17 else 0:=by rw[qaM,if_neg (by simp[hk]),if_neg (by simp[hs]),if_neg (by simp[hr])]
    have ht:=qlA m hsn
    have hv:=qcK (qau m) m.start (qe6 m hm.places hm.ranks) hm.start
    rw[qel] at hv
    rcases hty:qau m with⟨tk,ts,trs,tps⟩
    rw[hty] at ht hv
    simp only[qal] at ht hv
    have fX:=(cJ2 @Bool.not_false @Bool.not_true)
    refine qan fn54 (by simp) ?_
    unfold i54
    simp only[argL,qax,mdC]
    refine wR0 0 [1] fX ?_
    refine wRn 100 [1,7] fX ?_
    refine rC fX ?_
    refine⟨_,hb,rE fX ?_⟩
    refine wF fX ?_
    refine wRn 300 [1,10] fX ?_
    refine rC fX ?_
    refine⟨_,hst,rE fX ?_⟩
    refine wF fX ?_
    refine wRn 500 [1,13] fX ?_
    refine rC fX ?_
    refine⟨_,hrt,rE fX ?_⟩
    refine wF fX ?_
    refine wRn 700 [1,16] fX ?_
    refine rC fX ?_
    refine⟨_,qq7 m hm (qlp hs),rE fX ?_⟩
    refine wS cJ0 (fun hc700=>?_) (fun hc700=>?_)
    ·skip
     refine wR0 800 [2] fX ?_
     refine wP ?_
     exact qaW (by simp at hc700;rw[hch,if_pos hc700])
    ·skip
     refine wR0 900 [1,3] fX ?_
     simp only[thn]
     simp only[Bool.not_eq_false'] at hc700
     have hch2:qaM m=if (m.rules.any fun r=>!qbF m r)=true then 16 else if qbo m=false then 17 else 0:=(by rw[hch,if_neg (by simp[hc700])])
     refine wL ?_
     refine qmh m hm.rules (fun r hr=>qra m r hm (hm.rule r hr) hsn.age hk hs) _ m.rules [] 0 rfl rfl ?_ ?_
     ·intro h i
      refine wN ?_
      refine wR0 1400 [1,34] fX ?_
      simp only[thn]
      have hch3:qaM m=if qbo m=false then 17 else 0:=(by rw[hch2,if_neg (by simp only[h];simp)])
      refine wS cJ0 (fun hc1400=>?_) (fun hc1400=>?_)
      ·skip
       refine wR0 1500 [45] fX ?_
       refine wS cJ0 (fun hc1500=>?_) (fun hc1500=>?_)
       ·skip
        refine wR0 1600 [2] fX ?_
        refine wP ?_
        exact qaW (by simp at hc1400;have hbg:qbo m=false:=(by rw[qbo,if_pos hc1400,Bool.eq_false_iff];intro hb;simp only[Bool.and_eq_true,beq_iff_eq] at hb;have hb2:=hb.2;simp[qag,hb.1] at hc1500;omega);rw[hch3,if_pos hbg])
       ·skip
        refine wR0 1700 [2] fX ?_
        refine wP ?_
        exact qaW (by simp at hc1400;have hbg:qbo m=true:=(by rw[qbo,if_pos hc1400];simp[qag] at hc1500;simp[hc1500]);rw[hch3,if_neg (by simp[hbg])])
      ·skip
       refine wN ?_
       simp only[mdC]
       refine wRn 1800 [51] fX ?_
       refine rC fX ?_
       refine⟨_,ht,rN fX ?_⟩
       refine rC fX ?_
       refine⟨_,hv,rE fX ?_⟩
       refine wS cJ0 (fun hc1800=>?_) (fun hc1800=>?_)
       ·skip
        refine wR0 1900 [2] fX ?_
        refine wP ?_
        exact qaW (by simp at hc1400 hc1800;have hbg:qbo m=false:=(by rw[qbo,if_neg hc1400,hty];exact hc1800);rw[hch3,if_pos hbg])
       ·skip
        refine wR0 2000 [2] fX ?_
        refine wP ?_
        exact qaW (by simp at hc1400 hc1800;have hbg:qbo m=true:=(by rw[qbo,if_neg hc1400,hty];exact hc1800);rw[hch3,if_neg (by simp[hbg])])
     ·intro h
      refine wN ?_
      exact⟨by simp,_,rfl,by exact qaW (by rw[hch2,if_pos h])⟩
def qii (m:Md):Ty×Int:=if qaM m=0 then (qau m,0) else (.mk 0 0 [] [],qaM m)
theorem qnP (m:Md)(hm:m.fit):TP Tryz.prog 22 [qax m] (.tup [qal (qii m).1,.int .i64 (qii m).2]):=by
 rcases hty:qau m with⟨tk,ts,trs,tps⟩
 by_cases h0:qaM m=0
 ·have ht:=qlA m (qgb hm h0)
  rw[hty,qal] at ht
  have hc:=qk7 m hm
  rw[h0] at hc
  have hd:((0:Int) != 0)=false:=rfl
  refine qan fn22 (by simp) ?_
  unfold i22
  simp only[argL,qax,mdC]
  refine wR0 0 [1,2] cJ0 ?_
  refine wRn 100 [1,2,4] cJ0 ?_
  refine rC cJ0 ?_
  refine⟨_,hc,rE cJ0 ?_⟩
  refine wR0 200 [1,2,4,8] cJ0 ?_
  refine wF @hd ?_
  refine wRn 400 [2,3] cJ0 ?_
  refine rC cJ0 ?_
  refine⟨_,ht,rE cJ0 ?_⟩
  refine wP ?_
  (rw[qii,if_pos h0,hty];simp only[qal];refine Frz.tupL (.cons (.same (by simp[mkEl,esz,clL,T.cl])) (.cons (.same rfl) .nil)))
 ·have hd:(qaM m != 0)=true:=by simpa using h0
  refine qan fn22 (by simp) ?_
  unfold i22
  simp only[argL,qax,mdC]
  refine wR0 0 [1,2] cJ0 ?_
  refine wRn 100 [1,2,4] cJ0 ?_
  refine rC cJ0 ?_
  refine⟨_,qk7 m hm,rE cJ0 ?_⟩
  refine wR0 200 [1,2,4,8] cJ0 ?_
  refine wT @hd ?_
  refine wR0 300 [2,3] cJ0 ?_
  refine wP ?_
  (rw[qii,if_neg h0];simp only[qal,qak,qaw];(first | exact fF | exact fZt))
def qvo (s:Int)(ps:List V):V:=.mk 0 (.mk s []::ps)
theorem qvp (s:Int)(ps:List V)(hl:ps.length≤100000)(hf:∀k∈ps,k.fit):TP Tryz.prog 67 [.int .i64 s,.list (qac ps)] (encV (qvo s ps)):=by
 have hc:=qup [[.mk s []],ps] (by simp;omega) (by simp) (by simp)
 have e:[[V.mk s []],ps].flatten=.mk s []::ps:=by simp
 rw[e] at hc
 simp only[llsV,List.map_cons,List.map_nil,qac,encV,qaz] at hc
 have fX:=(cJ2 @qaI @qcp)
 refine qan fn67 (by simp) ?_
 unfold i67
 simp only[argL]
 refine wR0 0 [0,1,4] fX ?_
 refine wRn 100 [4] fX ?_
 refine rC fX ?_
 refine⟨_,qpW ps (by omega) hf,rN fX ?_⟩
 refine rGc [(102,.live ⟨_,_⟩),(105,.live ⟨_,_⟩)] [(508,.live ⟨25,qaq (.mk s []::ps)⟩)] fX ?_
 refine⟨_,_,hc,fZt,rE fX ?_⟩
 refine wP ?_
 (simp only[qvo,encV];exact Frz.aggL (.cons (.same rfl) (.cons (qbS (.mk s []::ps) rfl rfl rfl) .nil)) rfl)
structure Dk where
 list:List Int
 at_:Nat
 st:Int
abbrev dkB (d:Dk):Slot:=.live ⟨62,[.list (qab d.list),.int .i64 d.at_,.int .u64 d.st]⟩
abbrev dkR:T:=.ref 99999 3 0
def Dk.ok (d:Dk):Prop:=d.list.length≤1000∧d.at_≤d.list.length
theorem qaT {H:Heap}{D:Nat→Bool}(d:Dk):SlotFz H D (dkB d) (dkB d):=by
 refine SlotFz.liveS (by simp[clL,T.cl,qae]) fun c hc=>?_
 simp only[List.mem_cons,List.not_mem_nil,or_false] at hc
 rcases hc with rfl | rfl | rfl<;>rfl
theorem TC.fullL {P:Program}{f:FuncId}{xs:List T}{v:T}{C U:List (Nat×Slot)}(h:TC P f xs (hpL C) v (hpL U))(h1:(C.map (·.1)).Nodup)(h2:Heap.upd (hpL C) U=hpL U):TC P f xs (hp C) v ((hp C).upd U):=by
 rw[qql C h1,h2];exact h
theorem TC.full1 {P:Program}{f:FuncId}{xs:List T}{v:T}{i:Nat}{s s':Slot}(h:TC P f xs (hpL [(i,s)]) v (hpL [(i,s')])):TC P f xs (hp [(i,s)]) v ((hp [(i,s)]).upd [(i,s')]):=
 h.fullL (by simp) (by simp[qbD,qaL,qa0])
theorem qcy {P:Program}{f:FuncId}{N:Nat}{ic:ICode}{rs:List (Nat×Option Nat)}{args:List T}{d d':Dk}{r:T}(h:FnOk P f N rs ic)(hn:args.length≤N)
 (hw:W P N ic (ofL (argL 0 args)) (hpL [(99999,dkB d)]) fun e env' H''=>(e=.ret∨e=.normal)∧∃x hl hl',resT env' H'' rs=some x∧H''=hpL hl∧Fz (hpL hl) (inL [99999]) x r∧LFz (hpL hl) [99999] hl hl'∧qam [99999] hl'=[(99999,dkB d')]):TC P f args (hpL [(99999,dkB d)]) r (hpL [(99999,dkB d')]):=
 qj9 [99999] h hn rfl hw
theorem qof (n:Int):0≤IntKind.wrap .u64 n∧IntKind.wrap .u64 n<18446744073709551616:=by rw[IntKind.wrap_u64];omega
theorem qdu (xs:List Int)(i:Nat)(h:i<xs.length):(qab xs).getD (i:Int).toNat .undef=.int .i64 (xs.getD i 0):=by
 simp[qab,List.getD_eq_getElem?_getD,h]
theorem qqE {xs:List Int}{a:Nat}(x s:Int){d:Dk}(h:TC Tryz.prog 36 [dkR] (hpL [(99999,dkB d)]) (.int .u64 x) (hpL [(99999,dkB ⟨xs,a,s⟩)]))(hx:0≤x∧x<18446744073709551616)(hok:xs.length≤1000∧a≤xs.length) :
 ∃(x:Int) (d':Dk),(0≤x∧x<18446744073709551616)∧d'.ok∧TC Tryz.prog 36 [dkR] (hpL [(99999,dkB d)]) (.int .u64 x) (hpL [(99999,dkB d')]):=⟨x,⟨xs,a,s⟩,hx,hok,h⟩
theorem quM (d:Dk)(hd:d.ok):∃(x:Int) (d':Dk),(0≤x∧x<18446744073709551616)∧d'.ok∧TC Tryz.prog 36 [dkR] (hpL [(99999,dkB d)]) (.int .u64 x) (hpL [(99999,dkB d')]):=by
 rcases d with⟨xs,a,s⟩
 obtain⟨h1,h2⟩:=hd
 simp only at h1 h2
 by_cases ha:a<xs.length
 ·have hlt:(a:Int)<((qab xs).length:Int):=by rw[qah];omega
  have hb:decide ((a:Int)<((qab xs).length:Int))=true:=decide_eq_true hlt
  have hg:=qdu xs a ha
  have hw:IntKind.wrap .i64 ((a:Int)+1)=((a+1:Nat):Int):=by rw[wrap64 (by omega) (by omega)];rfl
  apply qqE (xs:=xs) (a:=a+1)
  ·have fX:=(cJ3 @hb @hg @hw)
   refine qcj fn36 (by simp) ?_
   unfold i36
   simp only[argL,dkB]
   refine wR0 0 [0] fX ?_
   refine wR0 100 [0,3] fX ?_
   refine wR0 200 [0,3,14] fX ?_
   refine wT fX ?_
   refine wR0 300 [0,3] fX ?_
   refine wR0 400 [0,3] fX ?_
   refine wR0 500 [0] fX ?_
   refine wR0 600 [4] fX ?_
   refine wR0 700 [4] fX ?_
   refine wR0 800 [2] fX ?_
   refine wE ?_
   refine wN ?_
   first | exact⟨by simp,rfl,rfl⟩ | exact⟨by simp,rfl,trivial⟩
  ·exact qof _
  ·exact⟨h1,ha⟩
 ·have hb:decide ((a:Int)<((qab xs).length:Int))=false:=decide_eq_false (by rw[qah];omega)
  apply qqE (xs:=xs) (a:=a)
  ·have fX:=@hb
   refine qcj fn36 (by simp) ?_
   unfold i36
   simp only[argL,dkB]
   refine wR0 0 [0] fX ?_
   refine wR0 100 [0,3] fX ?_
   refine wR0 200 [0,3,14] fX ?_
   refine wF fX ?_
   refine wR0 500 [0] fX ?_
   refine wR0 600 [4] fX ?_
   refine wR0 700 [4] fX ?_
   refine wR0 800 [2] fX ?_
   refine wE ?_
   refine wN ?_
   first | exact⟨by simp,rfl,rfl⟩ | exact⟨by simp,rfl,trivial⟩
  ·exact qof _
  ·exact⟨h1,h2⟩
theorem quP {n:Int}(x:Int){d d':Dk}(h:TC Tryz.prog 15 [dkR,.int .i64 n] (hpL [(99999,dkB d)]) (.int .i64 x) (hpL [(99999,dkB d')]))(hx:0≤x∧(n<1→x=0)∧(1≤n→x<n))(hok:d'.ok) :
 ∃(x:Int) (d':Dk),(0≤x∧(n<1→x=0)∧(1≤n→x<n))∧d'.ok∧TC Tryz.prog 15 [dkR,.int .i64 n] (hpL [(99999,dkB d)]) (.int .i64 x) (hpL [(99999,dkB d')]):=⟨x,_,hx,hok,h⟩
theorem qtg {y:Int}(h:0≤y∧y<18446744073709551616):0≤IntKind.wrap .i64 (y.fdiv (2 ^ 1)):=by
 have e:y.fdiv (2 ^ 1)=y / 2:=by rw[Int.fdiv_eq_ediv_of_nonneg _ (by omega)];rfl
 rw[e,wrap64 (by omega) (by omega)];omega
theorem qtD {a n:Int}(ha:0≤a)(hn:1≤n):0≤a.tmod n∧a.tmod n<n:=⟨Int.tmod_nonneg n ha,Int.tmod_lt_of_pos a (by omega)⟩
theorem qbC (d:Dk)(n:Int)(hd:d.ok):∃(x:Int) (d':Dk),(0≤x∧(n<1→x=0)∧(1≤n→x<n))∧d'.ok∧TC Tryz.prog 15 [dkR,.int .i64 n] (hpL [(99999,dkB d)]) (.int .i64 x) (hpL [(99999,dkB d')]):=by
 by_cases h1:n<1
 ·have hb:decide (n<1)=true:=decide_eq_true h1
  refine⟨0,d,⟨by omega,fun _=>rfl,fun h=>by omega⟩,hd,?_⟩
  have fX:=@hb
  refine qcj fn15 (by simp) ?_
  unfold i15
  simp only[argL]
  refine wR0 0 [0,1] fX ?_
  refine wR0 100 [0,1,6] fX ?_
  refine wT fX ?_
  refine wR0 200 [4] fX ?_
  refine wE ?_
  refine wN ?_
  first | exact⟨by simp,rfl,rfl⟩ | exact⟨by simp,rfl,trivial⟩
 ·have hb:decide (n<1)=false:=decide_eq_false h1
  obtain⟨y,d',hy,hok,hl⟩:=quM d hd
  have hn0:¬n=0:=by omega
  apply quP (d':=d')
  ·have fX:=(cJ2 @hb @hn0)
   refine qcj fn15 (by simp) ?_
   unfold i15
   simp only[argL]
   refine wR0 0 [0,1] fX ?_
   refine wR0 100 [0,1,6] fX ?_
   refine wF fX ?_
   refine wRn 300 [4] fX ?_
   refine rU [(99999,dkB d)] [(99999,dkB d')] fX ?_
   refine⟨_,hl.full1,rE fX ?_⟩
   refine wE ?_
   refine wN ?_
   first | exact⟨by simp,rfl,rfl⟩ | exact⟨by simp,rfl,trivial⟩
  ·have:=qtD (n:=n) (qtg hy) (by omega)
   exact⟨this.1,fun h=>by omega,fun _=>this.2⟩
  ·exact hok
theorem one_tc (d:Dk)(n:Int)(hd:d.ok):∃(b:Bool) (d':Dk),d'.ok∧TC Tryz.prog 29 [dkR,.int .i64 n] (hpL [(99999,dkB d)]) (.bool b) (hpL [(99999,dkB d')]):=by
 obtain⟨x,d',hx,hok,hnx⟩:=qbC d n hd
 refine⟨x==0,d',hok,?_⟩
 refine qcj fn29 (by simp) ?_
 unfold i29
 simp only[argL]
 refine wR0 0 [0,1] cJ0 ?_
 refine wRn 100 [4] cJ0 ?_
 refine rU [(99999,dkB d)] [(99999,dkB d')] cJ0 ?_
 refine⟨_,hnx.full1,rE cJ0 ?_⟩
 refine wE ?_
 refine wN ?_
 first | exact⟨by simp,rfl,rfl⟩ | exact⟨by simp,rfl,trivial⟩
theorem qbp (zs:List T):repl 1 zs=zs:=by simp[repl]
def qdL (id:Nat)(done:List Int):T:=match done with
 | []=>.nil
 | x::l=>.sl id (l.length+1) 0 0 (l.length+1)
def qdK (id ty:Nat)(done:List Int):List (Nat×Slot):=match done with
 | []=>[]
 | x::l=>[(id,.live ⟨ty,qab (x::l)⟩)]
theorem qdp {H:Heap}{D:Nat→Bool}{id ty n tot:Nat}(l:List Int)(hb:H id=.live ⟨ty,qab l⟩)(hd:D id=false)(hn:n=l.length)(ht:tot=l.length):Fz H D (.sl id tot 0 0 n) (.list (qab l)):=by
 subst hn ht
 refine Fz.sl hb hd (qah l) (by simp[esz]) (qah l) (qek l) (by rw[qbx];exact qgd l) fun k hk=>?_
 rw[qbx,Nat.zero_add]
 exact .same (qbb (qae _ l) k)
theorem qpe (most:Int)(hm:-1000000≤most∧most≤1000000)(n:Nat)(hnl:n≤1000000):∀(k i:Nat) (done:List Int) (d:Dk),done.length=i→i+k=n→d.ok→
 ∃(ys:List Int) (d':Dk),ys.length=k∧(∀y∈ys,0≤y∧(0≤most→y≤most))∧d'.ok∧∀Q:IExit→(Nat→T)→Heap→Prop,
  (∀i:Int,Q (.exit 0) (ofL [(0,dkR),(1,.int .i64 n),(2,.int .i64 most),(7,qdL 406 (done++ys)),(8,.int .i64 i),(11,.bool false)]) (hpL ((99999,dkB d')::qdK 406 3 (done++ys))))→
  WL Tryz.prog 22 qkx (ofL [(0,dkR),(1,.int .i64 n),(2,.int .i64 most),(7,qdL 406 done),(8,.int .i64 i)]) (hpL ((99999,dkB d)::qdK 406 3 done)) Q:=by
 intro k
 induction k with
 | zero=>
  intro i done d hi hk hd
  refine⟨[],d,rfl,(fun y hy=>absurd hy (List.not_mem_nil)),hd,fun Q hQ=>?_⟩
  have hb:decide ((i:Int)<(n:Int))=false:=decide_eq_false (by omega)
  rw[List.append_nil] at hQ
  have fX:=@hb
  refine qaa qkx.eq_1 ?_
  refine wR0 300 [0,1,2,7,8,11] fX ?_
  refine wF @hb ?_
  refine wX ?_
  refine wN ?_
  exact hQ _
 | succ k ih=>
  intro i done d hi hk hd
  obtain⟨x,d1,hx,hok,hnx⟩:=qbC d (most+1) hd
  obtain⟨ys,d',h1,h2,h3,hW⟩:=ih (i+1) (done++[x]) d1 (by simp[hi]) (by omega) hok
  refine⟨x::ys,d',by simp[h1],fun y hy=>?_,h3,fun Q hQ=>?_⟩
  ·rcases List.mem_cons.1 hy with rfl | hy
   ·exact⟨hx.1,fun h=>by have:=hx.2.2 (by omega);omega⟩
   ·exact h2 y hy
  have hb:decide ((i:Int)<(n:Int))=true:=decide_eq_true (by omega)
  have hw:IntKind.wrap .i64 ((i:Int)+1)=((i+1:Nat):Int):=by rw[wrap64 (by omega) (by omega)];rfl
  have hw2:IntKind.wrap .i64 (most+1)=most+1:=wrap64 (by omega) (by omega)
  have hQ':=hW Q (by simpa using hQ)
  cases done with
  | nil=>
   simp only[qdL,qdK]
   have fX:=(cJ4 @hb @hw @hw2 @qbp)
   refine qaa qkx.eq_1 ?_
   refine W_gc ?_
   refine wR0 300 [0,1,2,7,8,11] fX ?_
   refine wT fX ?_
   refine wRn 400 [0,1,2,7,8] fX ?_
   refine rU [(99999,dkB d)] [(99999,dkB d1)] fX ?_
   refine⟨_,hnx.full1,rE fX ?_⟩
   refine wR0 500 [0,1,2,7,8] fX ?_
   refine wN ?_
   refine qaC [99999,406] (by simp[inL]) (by simp[inL,T.cl]) (by simp[qam,inL,Slot.cl,T.cl,clL,qae]) ?_
   simpa [qam,inL,qdL,qdK,qab] using hQ'
  | cons z l=>
   have hlb:l.length+1≤1000000:=by simp at hi;omega
   have he:(qab (z::l)).length=l.length+1:=by simp[qab]
   simp only[qdL,qdK]
   have fX:=(cJ5 @hb @hw @hw2 @qbp @he)
   refine qaa qkx.eq_1 ?_
   refine W_gc ?_
   refine wR0 300 [0,1,2,7,8,11] fX ?_
   refine wT fX ?_
   refine wRn 400 [0,1,2,7,8] fX ?_
   refine rU [(99999,dkB d)] [(99999,dkB d1)] fX ?_
   refine⟨_,hnx.full1,rE fX ?_⟩
   refine wR0 500 [0,1,2,7,8] fX ?_
   refine wN ?_
   refine qaC [99999,406] (by simp[inL]) (by simp[inL,T.cl]) (by simp[qam,inL,Slot.cl,T.cl,clL,qao,qae]) ?_
   simpa [qam,inL,qdL,qdK,qab] using hQ'
theorem qto (d:Dk)(n:Nat)(most:Int)(hm:-1000000≤most∧most≤1000000)(hnl:n≤1000000)(hd:d.ok) :
 ∃(ys:List Int) (d':Dk),ys.length=n∧(∀y∈ys,0≤y∧(0≤most→y≤most))∧d'.ok∧TC Tryz.prog 34 [dkR,.int .i64 n,.int .i64 most] (hpL [(99999,dkB d)]) (.list (qab ys)) (hpL [(99999,dkB d')]):=by
 obtain⟨ys,d',h1,h2,h3,hW⟩:=qpe most hm n hnl n 0 [] d rfl (by omega) hd
 refine⟨ys,d',h1,h2,h3,?_⟩
 refine qcy fn34 (by simp) ?_
 unfold i34
 simp only[argL]
 refine wR0 0 [0,1,2] cJ0 ?_
 refine wR0 100 [0,1,2,7] cJ0 ?_
 refine wR0 200 [0,1,2,7,8] cJ0 ?_
 refine wL ?_
 refine hW _ ?_
 ·intro i
  refine wN ?_
  refine wN ?_
  rcases ys with _ | ⟨y,l⟩
  ·skip
   refine wN ?_
   simp only[qdL,qdK,List.nil_append]
   refine wR0 600 [6] cJ0 ?_
   refine wE ?_
   refine wN ?_
   first | exact⟨by simp,_,_,_,rfl,rfl,.nil,.keep rfl (qaT _) .nil,rfl⟩ | exact⟨by simp,_,_,_,rfl,rfl,qdp (y::l) rfl rfl rfl rfl,.keep rfl (qaT _) (.dead rfl (fun h=>by cases h) .nil),rfl⟩
  ·skip
   refine wN ?_
   simp only[qdL,qdK,List.nil_append]
   refine wR0 600 [6] cJ0 ?_
   refine wE ?_
   refine wN ?_
   first | exact⟨by simp,_,_,_,rfl,rfl,.nil,.keep rfl (qaT _) .nil,rfl⟩ | exact⟨by simp,_,_,_,rfl,rfl,qdp (y::l) rfl rfl rfl rfl,.keep rfl (qaT _) (.dead rfl (fun h=>by cases h) .nil),rfl⟩
theorem qe7 (d:Dk)(letters:Int)(most:Nat)(hl:-1000≤letters∧letters≤1000000)(hm:most≤1000)(hd:d.ok) :
 ∃(ys:List Int) (d':Dk),ys.length≤most∧(∀y∈ys,0≤y∧(1≤letters→y<letters))∧d'.ok∧TC Tryz.prog 19 [dkR,.int .i64 letters,.int .i64 most] (hpL [(99999,dkB d)]) (.list (qab ys)) (hpL [(99999,dkB d')]):=by
 obtain⟨x,d1,hx,hok,hnx⟩:=qbC d ((most:Int)+1) hd
 have hxm:=hx.2.2 (by omega)
 obtain⟨n,rfl⟩:=Int.eq_ofNat_of_zero_le hx.1
 obtain⟨ys,d',h1,h2,h3,hs⟩:=qto d1 n (letters - 1) (by omega) (by omega) hok
 have hw1:IntKind.wrap .i64 ((most:Int)+1)=(most:Int)+1:=wrap64 (by omega) (by omega)
 have hw2:IntKind.wrap .i64 (letters - 1)=letters - 1:=wrap64 (by omega) (by omega)
 refine⟨ys,d',by omega,fun y hy=>⟨(h2 y hy).1,fun h=>by have:=(h2 y hy).2 (by omega);omega⟩,h3,?_⟩
 have fX:=(cJ2 @hw1 @hw2)
 refine qcj fn19 (by simp) ?_
 unfold i19
 simp only[argL]
 refine wR0 0 [0,1,2] fX ?_
 refine wRn 100 [6] fX ?_
 refine rU [(99999,dkB d)] [(99999,dkB d1)] fX ?_
 refine⟨_,hnx.full1,rN fX ?_⟩
 refine rU [(99999,dkB d1)] [(99999,dkB d')] fX ?_
 refine⟨_,hs.full1,rE fX ?_⟩
 refine wE ?_
 refine wN ?_
 first | exact⟨by simp,rfl,rfl⟩ | exact⟨by simp,rfl,trivial⟩
end
section
def upd {α:Type}(f:Nat→α)(j:Nat)(v:α):Nat→α:=fun k=>if k=j then v else f k
theorem upd_same {α:Type}(f:Nat→α)(j:Nat)(v:α):upd f j v j=v:=by simp[upd]
theorem upd_ne {α:Type}(f:Nat→α){j k:Nat}(v:α)(h:k≠j):upd f j v k=f k:=by simp[upd,h]
end
end Go.Proofs.YtpplncjaihgimaaGreat
