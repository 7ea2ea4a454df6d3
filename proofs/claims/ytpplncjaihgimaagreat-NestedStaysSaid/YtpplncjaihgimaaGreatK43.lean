/- Contracts of functions of the program, for all arguments that they name. -/
import Derived.Test.YtpplncjaihgimaaGreatK40
namespace Go.Proofs.YtpplncjaihgimaaGreat
set_option linter.unusedVariables false
section
open Go.RowKit
theorem qkO:∀(l seen:List ByteArray) (s:ByteArray),newS seen (l++[s])=(newS seen l&&(qfa s&&!kwS s&&!inS s (seen++l)))
 | [],seen,s=>by simp[newS]
 | x::l,seen,s=>by
  rw[List.cons_append,newS,newS,qkO l,List.append_assoc]
  simp[Bool.and_assoc]
def qcN:ByteArray:=⟨#[115,97,109,101]⟩
theorem qfr:qcN.toList=[115,97,109,101]:=by
 simp[qcN,ByteArray.toList,ByteArray.toList.loop,ByteArray.size,ByteArray.get!]
theorem qrj:qfa qcN=true:=by
 have e0:qbP qcN 0=115:=rfl
 have e1:qbP qcN 1=97:=rfl
 have e2:qbP qcN 2=109:=rfl
 have e3:qbP qcN 3=101:=rfl
 have hs:qcN.size=4:=rfl
 have hr:runN qcN 4 0=4:=by simp[runN,e0,e1,e2,e3,qie,letB]
 rw[qfa,qfr,qik,hs,e0,hr]
 rfl
theorem qu4:kwS qcN=false:=by
 rw[kwS,inS,List.any_eq_false]
 intro k hk
 have hl:k.toList≠[115,97,109,101]:=by
  simp only[kws,List.mem_cons,List.not_mem_nil,or_false] at hk
  rcases hk with rfl | rfl | rfl | rfl | rfl | rfl | rfl | rfl | rfl | rfl | rfl | rfl | rfl | rfl | rfl | rfl | rfl | rfl<;>simp[ByteArray.toList,ByteArray.toList.loop,ByteArray.size,ByteArray.get!]
 rw[qfr]
 intro h
 exact hl (beq_iff_eq.1 h).symm
theorem qu3 (l:List (UInt8×UInt8)):inS qcN (l.map nm2)=false:=by
 rw[inS,List.any_eq_false]
 intro k hk
 obtain⟨x,_,rfl⟩:=List.mem_map.1 hk
 rw[qfr,qdG]
 simp
def rSm (to:Int)(path:List Int):Rl:=⟨qcN,0,to,[],[],[],0,0,0,path,path,[],[],0⟩
def mSm (m:Md)(to:Int)(path:List Int):Md:={ m with rules:=[rSm to path] }
theorem qu2 {m:Md}(g:Gmd m){to:Int}{path:List Int}(h0:0≤to)(h1:to<m.states.length)(hp:qkI m path)(hp0:1≤path.length):Gmd (mSm m to path):=by
 have ht:Tm (mSm m to path):=g.tm.same rfl rfl rfl rfl rfl rfl rfl
 have hn1:=g.tm.n1
 have hn2:=g.tm.n2
 have hlv:=g.tm.lv
 have hr4:qmo (mSm m to path) ⟨⟨#[]⟩,0,to,[],[],[],0,0,0,path,path,[],[],0⟩:=⟨0,to,path,path,rfl,⟨Int.le_refl _,by show (0:Int)<m.states.length;omega⟩,⟨h0,h1⟩,hp,hp,by omega⟩
 have hnm:qec (mSm m to path)=true:=by
  have e:qbh (mSm m to path)=(nmL m.states.length m.letters.length []).map nm2++[qcN]:=by
   rw[ht.names]
   simp[mSm,rSm,nmL]
  rw[qec,e,qkO]
  have h2:=ql7 (nmL m.states.length m.letters.length []) [] (by simpa using qkP _ _ [] (by omega) (by omega) (by simp) List.nodup_nil) (qny _ _ [] (by omega) (by omega) (by simp))
  simp only[List.map_nil] at h2
  rw[h2,qrj,qu4,List.nil_append,qu3]
  rfl
 have hst:qaR (qau m) m.start=true:=by
  have:=g.tm.check (m:=m) (by have:=g.rules;omega)
  have hc:=g.check
  unfold qaM at hc
  repeat' split at hc
  all_goals first | cases hc | skip
  rename_i c1 c2 c3 c4 c5 c6
  have h6:qbo m=true:=by simpa using c6
  rwa [qbo,if_neg (by rw[g.tm.kind];omega)] at h6
 refine⟨ht,?_,by simp[mSm],?_⟩
 ·refine⟨g.fit.states,g.fit.places,g.fit.letters,g.fit.ranks,by simp[mSm],fun r hr=>?_,g.fit.start,g.fit.names,g.fit.kd⟩
  simp only[mSm,List.mem_singleton] at hr
  subst hr
  have a1:=hp.1
  exact⟨by simp[rSm],by simp[rSm],by simp[rSm],by simp only[rSm];omega,by simp only[rSm];omega,by simp[rSm],by simp[rSm],by simp[rSm,qcN,ByteArray.size]⟩
 ·have:=ht.check (by simp[mSm]) (fun r hr=>by
   simp only[mSm,List.mem_singleton] at hr
   subst hr
   exact Tm.right (m:=mSm m to path) ht.kind hr4 qcN) hnm
  rw[this]
  exact if_pos hst
theorem qlO (v:V):∀xs:List V,(∀x∈xs,x=v)→qaV (qbu xs)=if xs.length=0 then [] else [v]:=by
 intro xs h
 have hs:SAsc (qaV (qbu xs)):=qi2 (qlt xs)
 have hm:∀z,z∈qaV (qbu xs)↔z∈xs:=fun z=>by rw[qei,(qbJ xs).mem_iff]
 rcases xs with _ | ⟨x,xs⟩
 ·rfl
 ·rw[if_neg (by simp)]
  refine qh0 hs (List.pairwise_singleton ..) fun z=>?_
  rw[hm,List.mem_singleton]
  constructor
  ·exact h z
  ·rintro rfl
   have:=h x (by simp)
   rw[←this];simp
theorem qlK {m:Md}{to:Int}{path:List Int}(g:Gmd (mSm m to path)){c:List Nd}(o:OkN (mSm m to path) 0 c)(h0:0≤to)(h1:to<m.states.length)(hp0:1≤path.length)(hp2:path.length≤2) :
 qa7 (mSm m to path) (rSm to path) 0 c=(if cntF c path=0 then [] else [cfgN m.levels to c],0):=by
 have ho:∀p∈qa4 c path,outN (mSm m to path) (rSm to path) c p=(cfgN m.levels to c,0):=fun p hp=>by
  rw[outN,qpG,show (rSm to path).next=path from rfl,qkh hp0 hp2 hp]
  exact (qda g.tm.kind g.check o to h0 h1).1
 have hn:((qa4 c (rSm to path).path).any fun p=>!((outN (mSm m to path) (rSm to path) c p).2==0))=false:=by
  rw[List.any_eq_false]
  intro p hp
  rw[ho p hp]
  simp
 rw[qa7,if_neg (by simp[rSm]),hn,if_neg (by simp),qlO (cfgN m.levels to c) _ (fun x hx=>by
  obtain⟨p,hp,rfl⟩:=List.mem_map.1 hx
  rw[ho p hp]),List.length_map,qcw]
 rfl
end
section
open Go.RowKit
set_option maxHeartbeats 2000000
attribute [local simp] qay qae qai
theorem qqk {H:Heap}{D:Nat→Bool}{to:Int}{path:List Int}(h:H 904=.live ⟨57,[.str qcN,.int .i64 0,.int .i64 to,.nil,.nil,.nil,.int .i64 0,.int .i64 0,.int .i64 0,.list (qab path),.list (qab path),.nil,.nil,.int .i64 0]⟩)(hd:D 904=false):Fz H D (.sl 904 14 14 0 1) (.list (qaN [rSm to path])):=
 .slL h hd rfl rfl rfl rfl rfl (.cons (.same rfl) (.cons (.same rfl) (.cons (.same rfl) (.cons .nil (.cons .nil (.cons .nil (.cons (.same rfl) (.cons (.same rfl) (.cons (.same rfl) (.cons (.same (by simp[T.cl])) (.cons (.same (by simp[T.cl])) (.cons .nil (.cons .nil (.cons (.same rfl) .nil))))))))))))))
set_option maxHeartbeats 20000000 in
theorem qtz (l:List Int):TP Tryz.prog 7 [.list (qab l)] (.bool true):=by
 have hfew:=qm3 l
 by_cases hl:l.length≤400
 ·have hb:decide (l.length≤400)=true:=decide_eq_true hl
  rw[hb] at hfew
  clear hb
  have hnew:=qnx l
  obtain⟨m,d1,g,hk,hd1,hM⟩:=qfQ (dk0 l) (qm2 hl)
  have hn1:=g.tm.n1
  have hn2:=g.tm.n2
  have hlv:=g.tm.lv
  have hmc:∀(m:Md) D,clL D (mdC m)=true:=fun m D=>by simp
  have hmo:=qco
  have hz:((0:Int) != 0)=false:=rfl
  have hsl:(qas m.letters).length=m.letters.length:=qaf _
  have hst:(qas m.states).length=m.states.length:=qaf _
  obtain⟨L,hL⟩:=Int.eq_ofNat_of_zero_le (show 0≤m.levels by omega)
  obtain⟨ys,d2,hy1,hy2,hd2,hW⟩:=qe7 d1 (m.letters.length:Int) L (by omega) (by omega) hd1
  rw[←hL] at hW
  obtain⟨to,d3,htb,hd3,hR⟩:=qbC d2 m.states.length hd2
  have hto0:=htb.1
  have hto1:=htb.2.2 (by omega)
  obtain⟨P,hP⟩:∃P,P=if ys=[] then [0] else ys:=⟨_,rfl⟩
  have hlab:qkI m P:=by
   rw[hP]
   split
   ·exact⟨by simp;omega,fun x hx=>by rw[List.mem_singleton] at hx;omega⟩
   ·exact⟨by omega,fun x hx=>by have:=hy2 x hx;exact⟨this.1,this.2 (by omega)⟩⟩
  have hp1:1≤P.length:=by
   rw[hP]
   split
   ·simp
   ·rename_i h
    rcases ys with _ | ⟨y,ys⟩
    ·exact absurd rfl h
    ·simp
  have g':=qu2 g hto0 hto1 hlab hp1
  obtain⟨s,c,d4,o,hd4,hC⟩:=qhe g' d3 hd3
  have hk':(mSm m to P).kind=4:=g'.tm.kind
  obtain⟨_,o1⟩:=qda hk' g'.check o 0 (Int.le_refl _) (by show (0:Int)<m.states.length;omega)
  have hA:=qdE (mSm m to P) g'.fit hk' g'.check 0 (by simp[mSm]) o1
  obtain⟨X,hX⟩:∃X:List V,X=if cntF c P=0 then [] else [cfgN m.levels to c]:=⟨_,rfl⟩
  have e9:qa7 (mSm m to P) (qaA (mSm m to P) ((0:Nat):Int)) 0 c=(X,0):=by
   rw[hX];exact qlK g' o1 hto0 hto1 hp1 (by have:=hlab.1;omega)
  rw[e9,show (((0:Nat):Int))=(0:Int) from rfl] at hA
  have hN:=qcG (mSm m to P) g'.fit hk' g'.check o1 P hlab.1
  have hcopy:=qmW 0 (.mk 0 []) [.mk 0 (bN (mSm m to P) c)] o1.fit
  have o2:=(qda hk' g'.check o1 to hto0 hto1).2
  have hS:=qu5 (cfgN (mSm m to P).levels to c) (cfgN (mSm m to P).levels to c) o2.fit
  rw[show ∀v:V,qu1 v v=true from fun v=>by rw[qu1,qeg];rfl] at hS
  obtain⟨b,hb⟩:∃b,((cntF c P:Int)==0)=b:=⟨_,rfl⟩
  have hx0:b=true→X=[]:=fun h=>by
   rw[h] at hb
   rw[hX,if_pos (by simpa using hb)]
  have hx1:b=false→X=[cfgN m.levels to c]:=fun h=>by
   rw[h] at hb
   rw[hX,if_neg (by simpa using hb)]
  have hx00:(qac ([]:List V)).length=0:=rfl
  have hx11:(qac [cfgN m.levels to c]).length=1:=rfl
  have hg1:(qac [cfgN m.levels to c]).getD (0:Int).toNat .undef=.agg [.int .i64 0,.list (qac [.mk to [],.mk 0 (bN (mSm m to P) c)])]:=rfl
  have hbd:(0:Int)<((qac [cfgN m.levels to c]).length:Int):=by rw[hx11];decide
  have hyl:(qab ys).length=ys.length:=qah _
  simp only[qax,cfgN,bagV,encV] at hM hW hR hC hA hN hcopy hS
  clear hX
  by_cases hy:ys=[]
  ·subst hy
   have hPe:P=[0]:=by simpa using hP
   have hf0:(qab [0]).length=1:=rfl
   have fX:=(cJ8 @hz @hsl @hst @hyl @qaI @hb @hx00 (cJ2 @hx11 @hg1))
   refine qan fn7 (by simp) ?_
   unfold i7
   simp only[argL]
   refine wR0 0 [0] fX ?_
   refine wRn 100 [0,19] fX ?_
   refine rC fX ?_
   refine⟨_,qbj,rN fX ?_⟩
   refine rC fX ?_
   refine⟨_,hfew,rE fX ?_⟩
   refine wF fX ?_
   refine wRn 300 [3] fX ?_
   refine rU [] [(99999,dkB (dk0 l))] fX ?_
   refine⟨_,hnew,rE fX ?_⟩
   refine wRn 400 [3,4] (cJ2 @mdC.eq_1 fX) ?_
   refine rU [(99999,dkB (dk0 l))] [(99999,dkB d1)] (cJ2 @mdC.eq_1 fX) ?_
   refine⟨_,hM.full1,rE (cJ2 @mdC.eq_1 fX) ?_⟩
   refine wRn 500 [3,4,5] (cJ2 @mdC.eq_1 fX) ?_
   refine rU [(99999,dkB d1)] [(99999,dkB d2)] (cJ2 @mdC.eq_1 fX) ?_
   refine⟨_,hW.full1,rE (cJ2 @mdC.eq_1 fX) ?_⟩
   refine wR0 600 [3,4,5,34] fX ?_
   refine wT fX ?_
   refine wR0 700 [3,4,5] fX ?_
   simp only[thn]
   refine qbW (l':=[(3,dkR),(4,.ref 402 10 0),(5,.list (qab P))]) (hl':=[(99999,dkB d2),(402,sM m),(700,.dead)]) [99999,402] (.cons (.same rfl) (.cons (.same rfl) (.cons (by rw[hPe];exact qdp [0] rfl rfl rfl rfl) .nil))) (.keep rfl (qaT _) (.keep rfl (.liveS (hmc _ _) (hmo _)) (.dead rfl (fun h=>by cases h) .nil))) ?_
   refine wRn 800 [3,4,5,6] (cJ2 @mdC.eq_1 fX) ?_
   refine rU [(99999,dkB d2)] [(99999,dkB d3)] (cJ2 @mdC.eq_1 fX) ?_
   refine⟨_,hR.full1,rE (cJ2 @mdC.eq_1 fX) ?_⟩
   refine wR0 900 [3,4,5,6] (cJ2 @mdC.eq_1 fX) ?_
   simp only[thn]
   refine qbW (l':=[(3,dkR),(4,.ref 402 10 0),(5,.list (qab P)),(6,.int .i64 to)]) (hl':=[(99999,dkB d3),(402,sM (mSm m to P)),(700,.dead),(904,.dead)]) [99999,402] (.cons (.same rfl) (.cons (.same rfl) (.cons (.same (by simp[T.cl])) (.cons (.same rfl) .nil)))) (.keep rfl (qaT _) (.keep rfl (.liveL (cs':=mdC (mSm m to P)) (.cons (.same rfl) (.cons (.same (by simp[T.cl])) (.cons (.same (by simp[T.cl])) (.cons (.same (by simp[T.cl])) (.cons (.same (by simp[T.cl])) (.cons (.same rfl) (.cons (.same rfl) (.cons (qqk rfl rfl) (.cons (.same rfl) (.cons (.same (by simp[T.cl])) .nil)))))))))) rfl) (.dead rfl (fun h=>by cases h) (.dead rfl (fun h=>by cases h) .nil)))) ?_
   refine wRn 1000 [4,5,6,7] (cJ2 @mdC.eq_1 fX) ?_
   refine rU [(99999,dkB d3)] [(99999,dkB d4),(409,rB [.int .i64 s,.list [],.int .i64 0,.list (qac (bN (mSm m to P) c))])] (cJ2 @mdC.eq_1 fX) ?_
   refine⟨_,hC.fullL (by simp) (by simp[qbD,qaL,qa0,qbm]),rE (cJ2 @mdC.eq_1 fX) ?_⟩
   refine wR0 1100 [4,5,6,7] fX ?_
   simp only[thn]
   refine qbW (l':=[(4,.ref 402 10 0),(5,.list (qab P)),(6,.int .i64 to),(7,.ref 1003 2 0)]) (hl':=[(99999,dkB d4),(402,sM (mSm m to P)),(700,.dead),(904,.dead),(409,.dead),(1003,sVN (mSm m to P) 0 c)]) [99999,402,1003] (.cons (.same rfl) (.cons (.same (by simp[T.cl])) (.cons (.same rfl) (.cons (.same rfl) .nil)))) (.keep rfl (qaT _) (.keep rfl (.liveS (hmc _ _) (hmo _)) (.dead rfl (fun h=>by cases h) (.dead rfl (fun h=>by cases h) (.dead rfl (fun h=>by cases h) (.keep rfl (.liveL (.cons (.same rfl) (.cons (qiy rfl rfl (.same (by simp[T.cl]))) .nil)) rfl) .nil)))))) ?_
   refine wRn 1200 [4,5,6,7,8,9] (cJ2 @mdC.eq_1 fX) ?_
   refine rC (cJ2 @mdC.eq_1 fX) ?_
   refine⟨_,hA,rE (cJ2 @mdC.eq_1 fX) ?_⟩
   refine wRn 1300 [6,7,8,9,10,11] (cJ2 @mdC.eq_1 fX) ?_
   refine rC (cJ2 @mdC.eq_1 fX) ?_
   refine⟨_,hN,rE (cJ2 @mdC.eq_1 fX) ?_⟩
   refine wRn 1400 [6,8,9,10,11,12] fX ?_
   refine rU [] [(410,rB [.int .i64 0,.list [],.int .i64 0,.list (qac (bN (mSm m to P) c))])] fX ?_
   refine⟨_,hcopy,rE fX ?_⟩
   refine wR0 1500 [8,9,10,11,12] fX ?_
   simp only[thn]
   refine qbW (l':=[(8,.list (qac X)),(9,.int .i64 0),(10,.int .i64 (cntF c P:Int)),(11,.int .i64 0),(12,.ref 1402 2 0)]) (hl':=[(99999,dkB d4),(402,sM (mSm m to P)),(700,.dead),(904,.dead),(409,.dead),(1003,sVN (mSm m to P) 0 c),(410,.dead),(1402,sVN (mSm m to P) to c)]) [99999,402,1003,1402] (.cons (.same (by simp[T.cl])) (.cons (.same rfl) (.cons (.same rfl) (.cons (.same rfl) (.cons (.same rfl) .nil))))) (.keep rfl (qaT _) (.keep rfl (.liveS (hmc _ _) (hmo _)) (.dead rfl (fun h=>by cases h) (.dead rfl (fun h=>by cases h) (.dead rfl (fun h=>by cases h) (.keep rfl (.liveA (by simp[T.cl,clL]) rfl) (.dead rfl (fun h=>by cases h) (.keep rfl (.liveL (.cons (.same rfl) (.cons (qiy rfl rfl (.same (by simp[T.cl]))) .nil)) rfl) .nil)))))))) ?_
   refine wR0 1600 [8,9,11,12,83] fX ?_
   refine wS cJ0 (fun hc1600=>?_) (fun hc1600=>?_)
   ·skip
    refine wN ?_
    (have hX0:X=[]:=hx0 (by simpa [hb] using hc1600))
    subst hX0
    refine wR0 1700 [2] fX ?_
    refine wP ?_
    exact .same rfl
   ·skip
    refine wN ?_
    (have hX1:X=[cfgN m.levels to c]:=hx1 (by simpa [hb] using hc1600))
    subst hX1
    refine wRn 1800 [2] fX ?_
    refine rC fX ?_
    refine⟨_,hS,rE fX ?_⟩
    refine wP ?_
    exact .same rfl
  ·have hPe:ys=P:=by simp[hP,hy]
   rw[hPe] at hW hyl
   have hyz:((P.length:Int)==0)=false:=by rw[beq_eq_false_iff_ne];omega
   have fX:=(cJ8 @hz @hsl @hst @hyl @qaI @hb @hx00 (cJ3 @hx11 @hg1 @hyz))
   refine qan fn7 (by simp) ?_
   unfold i7
   simp only[argL]
   refine wR0 0 [0] fX ?_
   refine wRn 100 [0,19] fX ?_
   refine rC fX ?_
   refine⟨_,qbj,rN fX ?_⟩
   refine rC fX ?_
   refine⟨_,hfew,rE fX ?_⟩
   refine wF fX ?_
   refine wRn 300 [3] fX ?_
   refine rU [] [(99999,dkB (dk0 l))] fX ?_
   refine⟨_,hnew,rE fX ?_⟩
   refine wRn 400 [3,4] (cJ2 @mdC.eq_1 fX) ?_
   refine rU [(99999,dkB (dk0 l))] [(99999,dkB d1)] (cJ2 @mdC.eq_1 fX) ?_
   refine⟨_,hM.full1,rE (cJ2 @mdC.eq_1 fX) ?_⟩
   refine wRn 500 [3,4,5] (cJ2 @mdC.eq_1 fX) ?_
   refine rU [(99999,dkB d1)] [(99999,dkB d2)] (cJ2 @mdC.eq_1 fX) ?_
   refine⟨_,hW.full1,rE (cJ2 @mdC.eq_1 fX) ?_⟩
   refine wR0 600 [3,4,5,34] fX ?_
   refine wF fX ?_
   refine wRn 800 [3,4,5,6] (cJ2 @mdC.eq_1 fX) ?_
   refine rU [(99999,dkB d2)] [(99999,dkB d3)] (cJ2 @mdC.eq_1 fX) ?_
   refine⟨_,hR.full1,rE (cJ2 @mdC.eq_1 fX) ?_⟩
   refine wR0 900 [3,4,5,6] (cJ2 @mdC.eq_1 fX) ?_
   simp only[thn]
   refine qbW (l':=[(3,dkR),(4,.ref 402 10 0),(5,.list (qab P)),(6,.int .i64 to)]) (hl':=[(99999,dkB d3),(402,sM (mSm m to P)),(904,.dead)]) [99999,402] (.cons (.same rfl) (.cons (.same rfl) (.cons (.same (by simp[T.cl])) (.cons (.same rfl) .nil)))) (.keep rfl (qaT _) (.keep rfl (.liveL (cs':=mdC (mSm m to P)) (.cons (.same rfl) (.cons (.same (by simp[T.cl])) (.cons (.same (by simp[T.cl])) (.cons (.same (by simp[T.cl])) (.cons (.same (by simp[T.cl])) (.cons (.same rfl) (.cons (.same rfl) (.cons (qqk rfl rfl) (.cons (.same rfl) (.cons (.same (by simp[T.cl])) .nil)))))))))) rfl)  (.dead rfl (fun h=>by cases h) .nil))) ?_
   refine wRn 1000 [4,5,6,7] (cJ2 @mdC.eq_1 fX) ?_
   refine rU [(99999,dkB d3)] [(99999,dkB d4),(409,rB [.int .i64 s,.list [],.int .i64 0,.list (qac (bN (mSm m to P) c))])] (cJ2 @mdC.eq_1 fX) ?_
   refine⟨_,hC.fullL (by simp) (by simp[qbD,qaL,qa0,qbm]),rE (cJ2 @mdC.eq_1 fX) ?_⟩
   refine wR0 1100 [4,5,6,7] fX ?_
   simp only[thn]
   refine qbW (l':=[(4,.ref 402 10 0),(5,.list (qab P)),(6,.int .i64 to),(7,.ref 1003 2 0)]) (hl':=[(99999,dkB d4),(402,sM (mSm m to P)),(904,.dead),(409,.dead),(1003,sVN (mSm m to P) 0 c)]) [99999,402,1003] (.cons (.same rfl) (.cons (.same (by simp[T.cl])) (.cons (.same rfl) (.cons (.same rfl) .nil)))) (.keep rfl (qaT _) (.keep rfl (.liveS (hmc _ _) (hmo _))  (.dead rfl (fun h=>by cases h) (.dead rfl (fun h=>by cases h) (.keep rfl (.liveL (.cons (.same rfl) (.cons (qiy rfl rfl (.same (by simp[T.cl]))) .nil)) rfl) .nil))))) ?_
   refine wRn 1200 [4,5,6,7,8,9] (cJ2 @mdC.eq_1 fX) ?_
   refine rC (cJ2 @mdC.eq_1 fX) ?_
   refine⟨_,hA,rE (cJ2 @mdC.eq_1 fX) ?_⟩
   refine wRn 1300 [6,7,8,9,10,11] (cJ2 @mdC.eq_1 fX) ?_
   refine rC (cJ2 @mdC.eq_1 fX) ?_
   refine⟨_,hN,rE (cJ2 @mdC.eq_1 fX) ?_⟩
   refine wRn 1400 [6,8,9,10,11,12] fX ?_
   refine rU [] [(410,rB [.int .i64 0,.list [],.int .i64 0,.list (qac (bN (mSm m to P) c))])] fX ?_
   refine⟨_,hcopy,rE fX ?_⟩
   refine wR0 1500 [8,9,10,11,12] fX ?_
   simp only[thn]
   refine qbW (l':=[(8,.list (qac X)),(9,.int .i64 0),(10,.int .i64 (cntF c P:Int)),(11,.int .i64 0),(12,.ref 1402 2 0)]) (hl':=[(99999,dkB d4),(402,sM (mSm m to P)),(904,.dead),(409,.dead),(1003,sVN (mSm m to P) 0 c),(410,.dead),(1402,sVN (mSm m to P) to c)]) [99999,402,1003,1402] (.cons (.same (by simp[T.cl])) (.cons (.same rfl) (.cons (.same rfl) (.cons (.same rfl) (.cons (.same rfl) .nil))))) (.keep rfl (qaT _) (.keep rfl (.liveS (hmc _ _) (hmo _))  (.dead rfl (fun h=>by cases h) (.dead rfl (fun h=>by cases h) (.keep rfl (.liveA (by simp[T.cl,clL]) rfl) (.dead rfl (fun h=>by cases h) (.keep rfl (.liveL (.cons (.same rfl) (.cons (qiy rfl rfl (.same (by simp[T.cl]))) .nil)) rfl) .nil))))))) ?_
   refine wR0 1600 [8,9,11,12,83] fX ?_
   refine wS cJ0 (fun hc1600=>?_) (fun hc1600=>?_)
   ·skip
    refine wN ?_
    (have hX0:X=[]:=hx0 (by simpa [hb] using hc1600))
    subst hX0
    refine wR0 1700 [2] fX ?_
    refine wP ?_
    exact .same rfl
   ·skip
    refine wN ?_
    (have hX1:X=[cfgN m.levels to c]:=hx1 (by simpa [hb] using hc1600))
    subst hX1
    refine wRn 1800 [2] fX ?_
    refine rC fX ?_
    refine⟨_,hS,rE fX ?_⟩
    refine wP ?_
    exact .same rfl
 ·have hb:decide (l.length≤400)=false:=decide_eq_false hl
  rw[hb] at hfew
  refine qan fn7 (by simp) ?_
  unfold i7
  simp only[argL]
  refine wR0 0 [0] cJ0 ?_
  refine wRn 100 [0,19] cJ0 ?_
  refine rC cJ0 ?_
  refine⟨_,qbj,rN cJ0 ?_⟩
  refine rC cJ0 ?_
  refine⟨_,hfew,rE cJ0 ?_⟩
  refine wT cJ0 ?_
  refine wRn 200 [2] cJ0 ?_
  refine rC cJ0 ?_
  refine⟨_,qbj,rE cJ0 ?_⟩
  refine wP ?_
  exact .same rfl
end
end Go.Proofs.YtpplncjaihgimaaGreat
